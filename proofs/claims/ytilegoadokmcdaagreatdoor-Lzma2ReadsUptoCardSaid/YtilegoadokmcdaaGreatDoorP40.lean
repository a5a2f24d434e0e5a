/- Part 40 of 53: lemmas of the last part, each under the conditions that it names. -/
import Derived.Deep.RegionHeld3
import Derived.Test.YtilegoadokmcdaaGreatDoorP17
import Derived.Test.YtilegoadokmcdaaGreatDoorP38
set_option linter.unusedVariables false
set_option linter.unusedSimpArgs false
set_option maxRecDepth 1500
set_option maxHeartbeats 2000000
namespace Go.Proofs.YtilegoadokmcdaaGreatDoor
open Go.RowKit
namespace Rf
open Mem Rc Prob St Lz Win
theorem names_len:names.all (fun a=>decide (a.str.length≤40))=true:=by kernel_rfl
theorem name_len{a:Nm}(ha:a ∈ names):a.str.length≤40:=by simpa using List.all_eq_true.1 names_len a ha
def SetPost(l:RL)(c:C)(ps:Nat→List Nat)(a:Nm)(w:World)(e:Ending)(w':World):Prop:=
 ∃en st',e=.returned (ptr en.b)∧look st' a.str=some en∧Fr (fun k=>k=l.M) w w'∧Cod w' {l with st:=st'} c ps∧∀k,SF l.M st' k→SF l.M l.st k∨w.heap.size≤k
theorem kmF{w:World}{M:Nat}{st:List Ent}(h:KM w M st){k:Nat}{cs:Array Value}{t:TypeId}{fr:Nat×Nat}(hk:w.heap[k]? =some (.cells cs t fr)):¬k=M:=by
 rintro rfl
 obtain⟨D,⟨es,clock,hm,_⟩,_⟩:=h
 rw[hk] at hm
 cases hm
theorem Set_calls{l:RL}{c:C}{ps:Nat→List Nat}{w:World}(h:Cod w l c ps)(a:Nm)(ha:a ∈ names):Calls Tryz.prog 176 #[ptr l.K,bstr a.str] w (SetPost l c ps a w):=by
 have hlen:=name_len ha
 have hseek:=h.sets.km.seek a.str (by simp only[maxLen];omega)
 have hcnt:=h.has.count
 obtain⟨p0,p1,p2,p3,p4,p5,p6,p7,p8,p9,v0,v1⟩:=h.cells
 have H:=Hd h
 clear h
 cases hlk:look l.st a.str with
 |some en=>
   rw[hlk] at hseek
   simp only at hseek
   have HL:=Hd hlk
   clear hlk
   go_enter Tryz.func176,Tryz.ntmps176
   go_wp2_with fail
   go_ret
   exact⟨en,l.st,rfl,HL.out,Fr.refl _ _,H.out,fun k hk=>.inl hk⟩
 |none=>
   rw[hlk] at hseek
   simp only at hseek
   have HL:=Hd hlk
   have HN:=Hd (rset_new w)
   clear hlk
   go_enter Tryz.func176,Tryz.ntmps176
   go_wp2_with fail
   refine HN.out.mono ?_
   rintro e w1 ⟨rfl,hfr,hR⟩
   have H1:=Hd (H.out.keep hfr)
   have HF1:=Hd hfr
   have HR:=Hd hR
   clear p0 p1 p2 p3 p4 p5 p6 p7 p8 p9 v0 v1 hfr hR hseek
   obtain⟨p0,p1,p2,p3,p4,p5,p6,p7,p8,p9,v0,v1⟩:=H1.out.cells
   obtain⟨D,hown,hD,hat⟩:=H1.out.sets.km
   have HD:=Hd hD
   have HAT:=Hd hat
   have hkey:=key_of a.str (by simp only[maxLen];omega)
   clear hD hat
   go_wp2_with (first|(at_mapUpdate;refine wpList_mapUpdate_own _ rfl _ _ _ 133 rfl 9 294 (Maps.string_keyed Tryz.underlying9) Tryz.underlying133 _ l.M l.st.length D rfl hown (by simp only[maxLen];omega) _ _ (.string a.str) rfl rfl hkey (.lit (.int .i64 (w.heap.size+1:Nat))) [] (RV_ptr _) ?_;intro w2 hown2 hg2)|fail)
   have hf12:Fr (fun k=>k=l.M) w1 w2:=(Fr.refl _ w1).grown hg2 (fun k hk=>.inl (Option.some.inj hk).symm)
   have hm1:=kmF H1.out.sets.km HR.out.box
   have hm2:=kmF H1.out.sets.km HR.out.row
   have hR2:=HR.out.step hf12 hm1 hm2
   have hkm:KM w2 l.M (l.st++[⟨a.str,w.heap.size+1,w.heap.size,List.replicate 768 1024⟩]):=KM.add (w:=w1) ⟨a.str,w.heap.size+1,w.heap.size,List.replicate 768 1024⟩ HL.out HD.out HAT.out hown2
   have hsets:=H1.out.sets.add (e:=⟨a.str,w.heap.size+1,w.heap.size,List.replicate 768 1024⟩) hf12 hkm hR2 (.inr (fun f hf=>by have:=(H.out.sets.at' f hf).lt;simp only;omega))
   have hcod:=H1.out.sets' (hf12.mono (fun k _ hk=>.inl hk)) hsets (H1.out.has.add ha HL.out (w.heap.size+1) w.heap.size) H1.out.len H1.out.okp
   have HFF:=Hd ((HF1.out.mono (T:=fun k=>k=l.M) (fun _ _ h=>h.elim)).trans hf12)
   have HCOD:=Hd hcod
   clear hcod hsets hkm hR2 hm1 hm2 hf12 hown hown2 hg2
   go_ret
   refine⟨⟨a.str,w.heap.size+1,w.heap.size,List.replicate 768 1024⟩,_,rfl,?_,HFF.out,HCOD.out,fun k hk=> ?_⟩
   ·rw[look_add _ _ _ HL.out,if_pos rfl]
   ·rcases hk with hk|⟨e,he,hk⟩
    ·exact .inl (.inl hk)
    ·rcases List.mem_append.1 he with he|he
     ·exact .inl (.inr ⟨e,he,hk⟩)
     ·obtain rfl:=List.mem_singleton.1 he
      simp only at hk
      exact .inr (by omega)
theorem RAt.fail{w ws w2:World}{l:RL}{c:C}{y:Y}{st':List Ent}(h:RAt w l c y)(hb:y.bad=false)(hf:Fr (fun k=>k=l.M) w ws)(hc:Cod ws {l with st:=st'} c y.ps)(hg:∀k,SF l.M st' k→SF l.M l.st k∨w.heap.size≤k)
 (h2:Fr (fun k=>k=l.X) ws w2)(hx:w2.heap[l.X]? =some (.cells #[ptr l.K,ptr l.Q,.bool true,.bool false] 127 (0,0))):
 Fr l.S w w2∧RAt w2 {l with st:=st'} c ⟨y.d,true,y.ps⟩:=by
 have hxl:=lt_of_block h.x
 have hql:=lt_of_block h.rd.box
 refine⟨(hf.mono (T:=l.S) (fun k _ hk=>.inr (.inr (.inl hk)))).trans (h2.mono (fun k _ hk=>.inl hk)),hx,hc.step h2 (fun k hk e=> ?_),⟨?_,?_⟩,h.d,h.bva⟩
 ·rcases hk with hk|hk|hk|hk
  ·exact h.kx k (.inl hk) e
  ·exact h.kx k (.inr (.inl hk)) e
  ·exact h.kx k (.inr (.inr (.inl hk))) e
  ·rcases hg k hk with h3|h3
   ·exact h.kx k (.inr (.inr (.inr h3))) e
   ·omega
 ·exact h2.keep (hf.keep h.rd.box (kmF h.cod.sets.km h.rd.box)) (fun e=>h.xq e.symm)
 ·have hb0:=h.bvS
  exact(h.rd.rd.step hf (fun k hk e=>hb0 k hk (.inr (.inr (.inl e))))).step h2 (fun k hk e=>hb0 k hk (.inl e))
theorem RAt.done{w ws w2:World}{l:RL}{c:C}{y:Y}{st':List Ent}{a:Nm}{en:Ent}{i p v:Nat}{d2:D}(h:RAt w l c y)(ha:a ∈ names)(hi:i<a.len)(hp:(y.ps a.j)[a.o+i]? =some p)(hb:y.bad=false)
 (hbit:y.d.bit p=some (v,d2))(hf:Fr (fun k=>k=l.M) w ws)(hc:Cod ws {l with st:=st'} c y.ps)(hl:look st' a.str=some en)(hg:∀k,SF l.M st' k→SF l.M l.st k∨w.heap.size≤k)
 (h2:Fr (fun k=>k=l.Q∨k=en.g) ws w2)(hR:RDec w2 l.Q l.bv d2)(hS:RSet w2 en.b en.g (en.L.set i (nextN p v)))(hd:en.L[i]? =some p):
 Fr l.S w w2∧RAt w2 {l with st:=putL st' a.str (en.L.set i (nextN p v))} c ⟨d2,false,upd y.ps a.j ((y.ps a.j).set (a.o+i) (nextN p v))⟩∧∀k,SF l.M (putL st' a.str (en.L.set i (nextN p v))) k→SF l.M l.st k∨w.heap.size≤k:=by
 have hxl:=lt_of_block h.x
 have hql:=lt_of_block h.rd.box
 obtain⟨hem,hes⟩:=look_some hl
 have hgSF:SF l.M st' en.g:=.inr ⟨en,hem,.inr rfl⟩
 have hp2:=h.cod.okp a.j (name_small ha).2 p (List.mem_of_getElem? hp)
 have hqs:w.heap.size≤ws.heap.size:=hf.size
 have hQs:ws.heap[l.Q]? =some (.cells #[l.bv,.int .i64 y.d.read,.int .i64 y.d.rng,.int .i64 y.d.now] 239 (0,0)):=hf.keep h.rd.box (kmF h.cod.sets.km h.rd.box)
 have hset:=hc.sets
 simp only at hset
 have hne:∀{k:Nat}{cs:Array Value}{t:TypeId}{fr:Nat×Nat},ws.heap[k]? =some (.cells cs t fr)→t≠239→t≠3→¬(k=l.Q∨k=en.g):=by
  intro k cs t fr hk h1 h3 h4
  rcases h4 with rfl|rfl
  ·rw[hQs] at hk
   simp only[Option.some.injEq,Obj.cells.injEq] at hk
   exact h1 hk.2.1.symm
  ·rw[(hset.at' en hem).row] at hk
   simp only[Option.some.injEq,Obj.cells.injEq] at hk
   exact h3 hk.2.1.symm
 have hXs:ws.heap[l.X]? =some (.cells #[ptr l.K,ptr l.Q,.bool y.bad,.bool false] 127 (0,0)):=hf.keep h.x (kmF h.cod.sets.km h.x)
 have hsfq:=hset.off hQs (by decide) (by decide)
 have hS1:Fr l.S w w2:=(hf.mono (T:=l.S) (fun k _ hk=>.inr (.inr (.inl hk)))).trans' h2 (fun k hk hh=>by
  rcases hh with hh|hh
  ·exact .inr (.inl hh)
  ·rcases hg k (hh ▸ hgSF) with h3|h3
   ·exact .inr (.inr h3)
   ·omega)
 have hSets:SetsAt w2 l.M (putL st' en.s (en.L.set i (nextN p v))):=by
  have hmid:∀wq,Fr (fun k=>k=l.Q∨k=en.g) ws wq→wq.heap[l.M]? =ws.heap[l.M]? :=fun wq hq=>hq.block l.M hset.km.lt (fun hh=>by
   rcases hh with hh|hh
   ·exact hsfq (hh ▸ .inl rfl)
   ·exact kmF hset.km (hset.at' en hem).row hh.symm)
  have hother:∀f ∈ st',f.s≠en.s→RSet w2 f.b f.g f.L:=fun f hf2 hfs=>(hset.at' f hf2).step h2 (fun hh=>by
   rcases hh with hh|hh
   ·exact hsfq (hh ▸ .inr ⟨f,hf2,.inl rfl⟩)
   ·have h1:=(hset.at' f hf2).box
    rw[hh,(hset.at' en hem).row] at h1
    simp at h1) (fun hh=>by
   rcases hh with hh|hh
   ·exact hsfq (hh ▸ .inr ⟨f,hf2,.inr rfl⟩)
   ·exact hfs (hset.inj f hf2 en hem hh))
  refine⟨?_,fun f hf2=> ?_,fun f hf2 f2 hf3=> ?_⟩
  ·refine KM.put ?_ _ _
   obtain⟨D,⟨es,clock,hb2,F,hsz,hD⟩,h5,h6⟩:=hset.km
   exact⟨D,⟨es,clock,by rw[hmid w2 h2];exact hb2,F,hsz,hD⟩,h5,h6⟩
  ·obtain⟨f0,hf0,rfl⟩:=List.mem_map.1 hf2
   rw[Ent.to_b,Ent.to_g]
   unfold Ent.to
   by_cases hsame:f0.s=en.s
   ·have h7:=look_self hc.has.nodup hf0
    rw[hsame,hes,hl] at h7
    obtain rfl:=Option.some.inj h7
    rw[if_pos rfl]
    exact hS
   ·rw[if_neg hsame]
    exact hother f0 hf0 hsame
  ·obtain⟨f0,hf0,rfl⟩:=List.mem_map.1 hf2
   obtain⟨f02,hf02,rfl⟩:=List.mem_map.1 hf3
   rw[Ent.to_g,Ent.to_g,Ent.to_s,Ent.to_s]
   exact hset.inj f0 hf0 f02 hf02
 rw[hes] at hSets
 refine⟨hS1,⟨?_,⟨h2.keep hc.k (hne hc.k (by decide) (by decide)),h2.keep hc.v (hne hc.v (by decide) (by decide)),own_step hc.all h2 (fun k hk=> ?_),hSets,hc.has.set ha hl hi,hc.okc,fun j hj=> ?_,fun j hj=> ?_,hc.size,hc.much⟩,hR,(D.bit_ok h.d hp2 hbit).1,h.bva⟩,fun k hk=>hg k ((SF_put _ _ _ _ _).1 hk)⟩
 ·have:=h2.keep hXs (hne hXs (by decide) (by decide))
  rw[hb] at this
  exact this
 ·obtain⟨cur,hcu⟩:=own_block hc.all hk
  exact hne hcu (by decide) (by decide)
 ·unfold upd
  simp only
  split
  ·rename_i e
   subst e
   rw[List.length_set]
   exact hc.len _ hj
  ·exact hc.len j hj
 ·unfold upd
  simp only
  split
  ·exact okP_set (hc.okp _ (name_small ha).2) _ p v hp2
  ·exact hc.okp j hj
theorem RAt.mid{w ws:World}{l:RL}{c:C}{y:Y}{st':List Ent}{a:Nm}{en:Ent}{i p:Nat}(h:RAt w l c y)(ha:a ∈ names)(hi:i<a.len)(hp:(y.ps a.j)[a.o+i]? =some p)(hf:Fr (fun k=>k=l.M) w ws)(hc:Cod ws {l with st:=st'} c y.ps)(hl:look st' a.str=some en):
 RDec ws l.Q l.bv y.d∧RSet ws en.b en.g en.L∧en.L[i]? =some p∧(∀w5,Fr (fun k=>k=l.Q∨k=en.g) ws w5→w5.heap[l.X]? =some (.cells #[ptr l.K,ptr l.Q,.bool y.bad,.bool false] 127 (0,0))):=by
 obtain⟨hem,hes⟩:=look_some hl
 have hset:=hc.sets
 simp only at hset
 have hXs:ws.heap[l.X]? =some (.cells #[ptr l.K,ptr l.Q,.bool y.bad,.bool false] 127 (0,0)):=hf.keep h.x (kmF h.cod.sets.km h.x)
 refine⟨⟨hf.keep h.rd.box (kmF h.cod.sets.km h.rd.box),h.rd.rd.step hf (fun k hk e=>h.bvS k hk (.inr (.inr (.inl e))))⟩,hset.at' en hem,hc.has.at' ha hl hi hp,fun w5 hf5=>hf5.keep hXs (fun hh=> ?_)⟩
 rcases hh with hh|hh
 ·exact h.xq hh
 ·rw[hh,(hset.at' en hem).row] at hXs
  simp at hXs
theorem bit_none{y:Y}{j i p:Nat}(hb:y.bad=false)(hp:(y.ps j)[i]? =some p)(h:y.d.bit p=none):y.bit j i=(0,⟨y.d,true,y.ps⟩):=by
 unfold Y.bit
 rw[if_neg (by rw[hb];decide)]
 have e:bitAt y.d (y.ps j) i=⟨0,1,y.d,y.ps j⟩:=by
  unfold bitAt
  rw[hp]
  simp only
  rw[h]
 rw[e]
 unfold Y.put gotN
 simp[upd_self]
theorem bit_some{y:Y}{j i p v:Nat}{d2:D}(hb:y.bad=false)(hp:(y.ps j)[i]? =some p)(h:y.d.bit p=some (v,d2)):y.bit j i=(v,⟨d2,false,upd y.ps j ((y.ps j).set i (nextN p v))⟩):=by
 unfold Y.bit
 rw[if_neg (by rw[hb];decide)]
 have e:bitAt y.d (y.ps j) i=⟨v,0,d2,(y.ps j).set i (nextN p v)⟩:=by
  unfold bitAt
  rw[hp]
  simp only
  rw[h]
 rw[e]
 unfold Y.put gotN
 simp
theorem bit_calls{l:RL}{c:C}{y:Y}{w:World}(h:RAt w l c y)(a:Nm)(ha:a ∈ names)(i:Nat)(hi:i<a.len)(hidx:a.o+i<Lz.rowLen c.lc c.lp a.j):
 Calls Tryz.prog 127 #[ptr l.X,bstr a.str,.int .i64 i] w (RPost l c w (y.bit a.j (a.o+i))):=by
 have x0:w.cell? ⟨l.X,0,none⟩=some (ptr l.K):=cell_in (i:=0) h.x rfl
 have x1:w.cell? ⟨l.X,1,none⟩=some (ptr l.Q):=cell_in (i:=1) h.x rfl
 have x2:w.cell? ⟨l.X,2,none⟩=some (.bool y.bad):=cell_in (i:=2) h.x rfl
 have H:=Hd h
 cases hb:y.bad with
 |true=>
   rw[bit_bad hb]
   rw[hb] at x2
   clear h
   go_enter Tryz.func127,Tryz.ntmps127
   go_wp2_with fail
   go_ret
   exact⟨rfl,Fr.refl _ _,l.st,H.out,fun k hk=>.inl hk⟩
 |false=>
   have hx2:w.cell? ⟨l.X,2,none⟩=some (.bool false):=by rw[x2,hb]
   clear x2
   obtain⟨p,hp⟩:∃p,(y.ps a.j)[a.o+i]? =some p:=⟨(y.ps a.j)[a.o+i]'(by rw[h.cod.len _ (name_small ha).2];exact hidx),by simp⟩
   have HB:=Hd hb
   have HP:=Hd hp
   have HFD:=Hd ((Fr.refl (fun _=>False) w).drew)
   have HST:=Hd (Set_calls (h.cod.keep HFD.out) a ha)
   have HCC:=Hd (show w.drew.cell? ⟨l.X,0,none⟩=some (ptr l.K)∧w.drew.cell? ⟨l.X,1,none⟩=some (ptr l.Q) from⟨x0,x1⟩)
   cases hbit:y.d.bit p with
   |none=>
     rw[bit_none hb hp hbit]
     have HBIT:=Hd hbit
     clear h hb hp hbit hidx
     go_enter Tryz.func127,Tryz.ntmps127
     go_wp2_with fail
     go_region_held3 (fun w'=>w'.cell? ⟨l.X,0,none⟩=some (ptr l.K)∧w'.cell? ⟨l.X,1,none⟩=some (ptr l.Q)) (with_reducible exact HCC.out) ((first
      | (go_at_call 176
         with_reducible refine HST.out.mono ?_
         rintro e ws ⟨en,st',rfl,hl,hf,hc,hg⟩
         have hfw:=(HFD.out.mono (T:=fun k=>k=l.M) (fun _ _ h=>h.elim)).trans hf
         obtain⟨hRs,hSs,hps,hXs⟩:=H.out.mid ha hi HP.out hfw hc hl
         have HM:=Hd (And.intro hfw (And.intro hc (And.intro hl (show∀k,SF l.M st' k→SF l.M l.st k∨w.heap.size≤k from hg))))
         have HXS:=Hd hXs
         have HCC:=Hd (show ws.cell? ⟨l.X,0,none⟩=some (ptr l.K)∧ws.cell? ⟨l.X,1,none⟩=some (ptr l.Q) from⟨cell_in (hXs ws (Fr.refl _ _)) rfl,cell_in (hXs ws (Fr.refl _ _)) rfl⟩)
         have HBC:=Hd (rbit_calls l.Q en.b en.g i p l.bv y.d en.L ws hRs H.out.d hSs hps)
         clear hfw hf hc hl hg hRs hSs hps hXs)
      | (go_at_call 175
         with_reducible refine HBC.out.mono ?_
         rintro e w5 hpost
         unfold BitPost at hpost
         rw[HBIT.out] at hpost
         obtain⟨rfl,hf5⟩:=hpost
         have hX5:=HXS.out w5 (hf5.mono (fun _ _ h=>h.elim))
         rw[HB.out] at hX5
         have HX5:=Hd hX5
         have HF5:=Hd hf5
         have HCC:=Hd (show w5.cell? ⟨l.X,0,none⟩=some (ptr l.K)∧w5.cell? ⟨l.X,1,none⟩=some (ptr l.Q) from⟨cell_in hX5 rfl,cell_in hX5 rfl⟩)
         clear hX5 hf5)))
     have z2:=cell_in (i:=2) HX5.out rfl
     have z3:=frozen_in HX5.out 2
     go_wp2_with fail
     go_ret
     have hfin:=H.out.fail HB.out (HM.out.1.trans (HF5.out.mono (fun _ _ h=>h.elim))) (HM.out.2.1.keep HF5.out) HM.out.2.2.2 (Fr.one w5 l.X 2 (.bool true)) (set_in HX5.out 2 _)
     exact⟨rfl,hfin.1,st',hfin.2,HM.out.2.2.2⟩
   |some vd=>
     obtain⟨v,d2⟩:=vd
     rw[bit_some hb hp hbit]
     have HBIT:=Hd hbit
     clear h hb hp hbit hidx
     go_enter Tryz.func127,Tryz.ntmps127
     go_wp2_with fail
     go_region_held3 (fun w'=>w'.cell? ⟨l.X,0,none⟩=some (ptr l.K)∧w'.cell? ⟨l.X,1,none⟩=some (ptr l.Q)) (with_reducible exact HCC.out) ((first
      | (go_at_call 176
         with_reducible refine HST.out.mono ?_
         rintro e ws ⟨en,st',rfl,hl,hf,hc,hg⟩
         have hfw:=(HFD.out.mono (T:=fun k=>k=l.M) (fun _ _ h=>h.elim)).trans hf
         obtain⟨hRs,hSs,hps,hXs⟩:=H.out.mid ha hi HP.out hfw hc hl
         have HM:=Hd (And.intro hfw (And.intro hc (And.intro hl (show∀k,SF l.M st' k→SF l.M l.st k∨w.heap.size≤k from hg))))
         have HXS:=Hd hXs
         have HPS:=Hd hps
         have HCC:=Hd (show ws.cell? ⟨l.X,0,none⟩=some (ptr l.K)∧ws.cell? ⟨l.X,1,none⟩=some (ptr l.Q) from⟨cell_in (hXs ws (Fr.refl _ _)) rfl,cell_in (hXs ws (Fr.refl _ _)) rfl⟩)
         have HBC:=Hd (rbit_calls l.Q en.b en.g i p l.bv y.d en.L ws hRs H.out.d hSs hps)
         clear hfw hf hc hl hg hRs hSs hps hXs)
      | (go_at_call 175
         with_reducible refine HBC.out.mono ?_
         rintro e w5 hpost
         unfold BitPost at hpost
         rw[HBIT.out] at hpost
         obtain⟨rfl,hf5,hR5,hS5⟩:=hpost
         have hX5:=HXS.out w5 hf5
         have HM5:=Hd (And.intro hf5 (And.intro hR5 hS5))
         have HCC:=Hd (show w5.cell? ⟨l.X,0,none⟩=some (ptr l.K)∧w5.cell? ⟨l.X,1,none⟩=some (ptr l.Q) from⟨cell_in hX5 rfl,cell_in hX5 rfl⟩)
         clear hX5 hf5 hR5 hS5)))
     go_wp2_with fail
     go_ret
     have hfin:=H.out.done ha hi HP.out HB.out HBIT.out HM.out.1 HM.out.2.1 HM.out.2.2.1 HM.out.2.2.2 HM5.out.1 HM5.out.2.1 HM5.out.2.2 HPS.out
     exact⟨rfl,hfin.1,_,hfin.2.1,hfin.2.2⟩
end Rf
namespace Rf
open Mem Rc Prob St Lz Win
theorem up_succ(j a f m:Nat)(y:Y):up j a (f+1) m y=up j a f (2*m+(y.bit j (a+m)).1) (y.bit j (a+m)).2:=rfl
theorem dn_succ(j a n f m v:Nat)(y:Y):dn j a n (f+1) m v y=dn j a n f (2*m+(y.bit j (a+m)).1) (v+(y.bit j (a+m)).1*2^(n-(f+1))) (y.bit j (a+m)).2:=rfl
theorem RPost.seq{l:RL}{c:C}{w w1:World}{st1:List Ent}{r:Nat×Y}{e:Ending}{w2:World}(hf:Fr l.S w w1)(hg:∀k,SF l.M st1 k→SF l.M l.st k∨w.heap.size≤k)(h:RPost {l with st:=st1} c w1 r e w2):RPost l c w r e w2:=by
 obtain⟨h1,h2,st2,h3,h4⟩:=h
 exact⟨h1,S_trans hf hg h2,st2,h3,sf_trans hf.size hg h4⟩
theorem tree_calls{l:RL}{c:C}{y:Y}{w:World}(h:RAt w l c y)(a:Nm)(ha:a ∈ names)(n:Nat)(hn:n≤16)(hla:2^n≤a.len)(hrow:a.o+a.len≤Lz.rowLen c.lc c.lp a.j):
 Calls Tryz.prog 181 #[ptr l.X,bstr a.str,.int .i64 n] w (RPost l c w (rtree y a.j a.o n)):=by
 have hpn:(2:Nat)^n≤65536:=Nat.le_trans (Nat.pow_le_pow_right (by omega) hn) (by decide)
 have H:=Hd h
 clear h
 have hcp:((2^n:Nat):Int)=(2:Int)^n:=by norm_cast
 go_enter Tryz.func181,Tryz.ntmps181
 go_wp2_with fail
 go_loopw [7,8] (fun m i wr=>∃(k mm:Nat)(y':Y)(st':List Ent),k≤n∧i=.int .i64 k∧m=.int .i64 mm∧2^k≤mm∧mm<2^(k+1)∧Fr l.S w wr∧RAt wr {l with st:=st'} c y'∧(∀k,SF l.M st' k→SF l.M l.st k∨w.heap.size≤k)∧up a.j a.o (n-k) mm y'=up a.j a.o n 1 y) (fun _ i _=>n-(intOf i).toNat)
 case atStart=>exact⟨0,1,y,l.st,by omega,rfl,rfl,by simp,by simp,Fr.refl _ _,H.out,fun k hk=>.inl hk,rfl⟩
 case round=>
  obtain⟨k,mm,y',st',hk,rfl,rfl,h1,h2,hf,hA,hg,hup⟩:=hrel
  by_cases hlt:k<n
  ·have hp1:2^(k+1)≤2^n:=Nat.pow_le_pow_right (by omega) hlt
   have hp2:2^(k+1)=2*2^k:=by rw[Nat.pow_succ];omega
   have hp3:2^(k+1+1)=2*2^(k+1):=by rw[Nat.pow_succ (n:=2) (m:=k+1)];omega
   have hmm:mm≤65536:=by omega
   obtain⟨f,hfn⟩:∃f,n-k=f+1:=⟨n-k-1,by omega⟩
   rw[hfn,up_succ] at hup
   have hb:=bit_le y' a.j (a.o+mm)
   have HB:=Hd (bit_calls hA a ha mm (by omega) (by omega))
   have HF:=Hd hf
   have HG:=Hd hg
   clear hf hA hg
   generalize y'.bit a.j (a.o+mm)=r at*
   go_wp2_with fail
   refine HB.out.mono ?_
   rintro e w2 ⟨rfl,hf2,st2,hA2,hg2⟩
   have HF2:=Hd (S_trans HF.out HG.out hf2)
   have HG2:=Hd (sf_trans HF.out.size HG.out hg2)
   have HA2:=Hd hA2
   clear hf2 hA2 hg2 HB HF HG
   go_wp2_with fail
   go_roundw
   case rel=>exact⟨k+1,2*mm+r.1,r.2,st2,by omega,by go_num,by go_num,by omega,by omega,HF2.out,HA2.out,HG2.out,by rw[show n-(k+1)=f by omega];exact hup⟩
   case measure=>simp[intOf];omega
  ·obtain rfl:k=n:=by omega
   rw[Nat.sub_self] at hup
   have hr:rtree y a.j a.o k=(mm-2^k,y'):=by
    unfold rtree
    rw[←hup]
    rfl
   have hp3:2^(k+1)=2*2^k:=by rw[Nat.pow_succ];omega
   have HRR:=Hd hr
   have HF:=Hd hf
   have HG:=Hd hg
   have HA:=Hd hA
   clear hf hA hg hr
   go_wp2_with fail
   go_ret
   rw[HRR.out]
   refine⟨Mem.ret_int ?_,HF.out,st',HA.out,HG.out⟩
   simp only
   rw[←hcp]
   omega
theorem back_lt{y:Y}(j a n:Nat):(rback y j a n).1<2^n:=by
 have h:∀(f m v:Nat)(y:Y),f≤n→v<2^(n-f)→(dn j a n f m v y).1<2^n:=by
  intro f
  induction f with
  |zero=>
    intro m v y _ hv
    show v<2^n
    simpa using hv
  |succ f ih=>
    intro m v y hf hv
    rw[dn_succ]
    have hb:=bit_le y j (a+m)
    have hp1:2^(n-f)=2*2^(n-(f+1)):=by rw[show n-f=n-(f+1)+1 by omega,Nat.pow_succ];omega
    have:=Nat.mul_le_mul_right (2^(n-(f+1))) hb
    exact ih _ _ _ (by omega) (by omega)
 exact h n 1 0 y (Nat.le_refl _) (by simp)
theorem back_calls{l:RL}{c:C}{y:Y}{w:World}(h:RAt w l c y)(a:Nm)(ha:a ∈ names)(n:Nat)(hn:n≤16)(hla:2^n≤a.len)(hrow:a.o+a.len≤Lz.rowLen c.lc c.lp a.j):
 Calls Tryz.prog 183 #[ptr l.X,bstr a.str,.int .i64 n] w (RPost l c w (rback y a.j a.o n)):=by
 have hpn:(2:Nat)^n≤65536:=Nat.le_trans (Nat.pow_le_pow_right (by omega) hn) (by decide)
 have H:=Hd h
 clear h
 go_enter Tryz.func183,Tryz.ntmps183
 go_wp2_with fail
 go_loopw [7,8,9] (fun m v i wr=>∃(k mm vv:Nat)(y':Y)(st':List Ent),k≤n∧i=.int .i64 k∧m=.int .i64 mm∧v=.int .i64 vv∧2^k≤mm∧mm<2^(k+1)∧vv<2^k∧Fr l.S w wr∧RAt wr {l with st:=st'} c y'∧(∀k,SF l.M st' k→SF l.M l.st k∨w.heap.size≤k)∧dn a.j a.o n (n-k) mm vv y'=dn a.j a.o n n 1 0 y) (fun _ _ i _=>n-(intOf i).toNat)
 case atStart=>exact⟨0,1,0,y,l.st,by omega,rfl,rfl,rfl,by simp,by simp,by simp,Fr.refl _ _,H.out,fun k hk=>.inl hk,rfl⟩
 case round=>
  obtain⟨k,mm,vv,y',st',hk,rfl,rfl,rfl,h1,h2,h3,hf,hA,hg,hup⟩:=hrel
  by_cases hlt:k<n
  ·have hp1:2^(k+1)≤2^n:=Nat.pow_le_pow_right (by omega) hlt
   have hp2:2^(k+1)=2*2^k:=by rw[Nat.pow_succ];omega
   have hp3:2^(k+1+1)=2*2^(k+1):=by rw[Nat.pow_succ (n:=2) (m:=k+1)];omega
   have hmm:mm≤65536:=by omega
   obtain⟨f,hfn⟩:∃f,n-k=f+1:=⟨n-k-1,by omega⟩
   rw[hfn,dn_succ,show n-(f+1)=k by omega] at hup
   have hb:=bit_le y' a.j (a.o+mm)
   have HB:=Hd (bit_calls hA a ha mm (by omega) (by omega))
   have HF:=Hd hf
   have HG:=Hd hg
   clear hf hA hg
   generalize y'.bit a.j (a.o+mm)=r at*
   have hcp:((2^k:Nat):Int)=(2:Int)^k:=by norm_cast
   have hbk:=Nat.mul_le_mul_right (2^k) hb
   have hrk:((r.1*2^k:Nat):Int)=(r.1:Int)*(2:Int)^k:=by rw[Int.natCast_mul,hcp]
   have hw1:IntKind.i64.wrap ((r.1:Int)*(2:Int)^k)=(r.1:Int)*(2:Int)^k:=by rw[←hrk];exact IntWalk.i64_in _ (by omega)
   have hw2:IntKind.i64.wrap ((vv:Int)+(r.1:Int)*(2:Int)^k)=(vv:Int)+(r.1:Int)*(2:Int)^k:=by rw[←hrk];exact IntWalk.i64_in _ (by omega)
   have hsum:((vv+r.1*2^k:Nat):Int)=(vv:Int)+(r.1:Int)*(2:Int)^k:=by rw[Int.natCast_add,hrk]
   go_wp2_with fail
   refine HB.out.mono ?_
   rintro e w2 ⟨rfl,hf2,st2,hA2,hg2⟩
   have HF2:=Hd (S_trans HF.out HG.out hf2)
   have HG2:=Hd (sf_trans HF.out.size HG.out hg2)
   have HA2:=Hd hA2
   clear hf2 hA2 hg2 HB HF HG
   go_wp2_with fail
   go_roundw
   case rel=>exact⟨k+1,2*mm+r.1,vv+r.1*2^k,r.2,st2,by omega,by go_num,by go_num,by rw[hsum],by omega,by omega,by omega,HF2.out,HA2.out,HG2.out,by rw[show n-(k+1)=f by omega];exact hup⟩
   case measure=>simp[intOf];omega
  ·obtain rfl:k=n:=by omega
   rw[Nat.sub_self] at hup
   have hr:rback y a.j a.o k=(vv,y'):=by
    unfold rback
    rw[←hup]
    rfl
   have HRR:=Hd hr
   have HF:=Hd hf
   have HG:=Hd hg
   have HA:=Hd hA
   clear hf hA hg hr
   go_wp2_with fail
   go_ret
   rw[HRR.out]
   exact⟨rfl,HF.out,st',HA.out,HG.out⟩
end Rf
namespace Rf
open Mem Rc Prob St Lz Win
theorem bit0_calls{l:RL}{c:C}{y:Y}{w:World}(h:RAt w l c y)(a:Nm)(ha:a ∈ names)(s:List UInt8)(hs:s=a.str)(hi:0<a.len)(hidx:a.o<Lz.rowLen c.lc c.lp a.j):
 Calls Tryz.prog 127 #[ptr l.X,bstr s,.int .i64 0] w (RPost l c w (y.bit a.j a.o)):=by
 subst hs
 exact bit_calls h a ha 0 hi hidx
theorem tree_named{l:RL}{c:C}{y:Y}{w:World}(h:RAt w l c y)(a:Nm)(ha:a ∈ names)(s:List UInt8)(hs:s=a.str)(n:Nat)(hn:n≤16)(hla:2^n≤a.len)(hrow:a.o+a.len≤Lz.rowLen c.lc c.lp a.j):
 Calls Tryz.prog 181 #[ptr l.X,bstr s,.int .i64 n] w (RPost l c w (rtree y a.j a.o n)):=by
 subst hs
 exact tree_calls h a ha n hn hla hrow
theorem back_named{l:RL}{c:C}{y:Y}{w:World}(h:RAt w l c y)(a:Nm)(ha:a ∈ names)(s:List UInt8)(hs:s=a.str)(n:Nat)(hn:n≤16)(hla:2^n≤a.len)(hrow:a.o+a.len≤Lz.rowLen c.lc c.lp a.j):
 Calls Tryz.prog 183 #[ptr l.X,bstr s,.int .i64 n] w (RPost l c w (rback y a.j a.o n)):=by
 subst hs
 exact back_calls h a ha n hn hla hrow
theorem coder_len(q:Nat):(coder q).length≤5:=by unfold coder;split<;>decide
theorem row_two{lc lp q:Nat}(hq:q=7∨q=11):Lz.rowLen lc lp q=2:=by rcases hq with rfl|rfl<;>rfl
theorem RPost.to{l:RL}{c:C}{w:World}{r r2:Nat×Y}{e e2:Ending}{w2:World}(h:RPost l c w r e w2)(he:e2=.returned (.int .i64 r2.1))(hy:r2.2=r.2):RPost l c w r2 e2 w2:=by
 obtain⟨_,h2,st2,h3,h4⟩:=h
 exact⟨he,h2,st2,hy ▸ h3,h4⟩
theorem length_calls{l:RL}{c:C}{y:Y}{w:World}(h:RAt w l c y)(q:Nat)(hq:q=7∨q=11):
 Calls Tryz.prog 131 #[ptr l.X,bstr (coder q)] w (RPost l c w (rlength y c q)):=by
 have hcl:=coder_len q
 obtain⟨l1,l2,l3⟩:=row_low (lc:=c.lc) (lp:=c.lp) hq
 have lq:=row_two (lc:=c.lc) (lp:=c.lp) hq
 have hpl:=h.cod.okc.place
 have a1:=fun W=>run_string_add_lists (P:=Tryz.prog) W (coder q) sChoice (by omega) (by decide)
 have a2:=fun W=>run_string_add_lists (P:=Tryz.prog) W (coder q) sLow (by omega) (by decide)
 have a3:=fun W=>run_string_add_lists (P:=Tryz.prog) W (coder q) sChoice2 (by omega) (by decide)
 have a4:=fun W=>run_string_add_lists (P:=Tryz.prog) W (coder q) sMid (by omega) (by decide)
 have a5:=fun W=>run_string_add_lists (P:=Tryz.prog) W (coder q) sHigh (by omega) (by decide)
 have n1:(coder q++[32,76,111,119]).length≤1000:=by rw[List.length_append];have:([32,76,111,119]:List UInt8).length=4:=rfl;omega
 have n2:(coder q++[32,77,105,100]).length≤1000:=by rw[List.length_append];have:([32,77,105,100]:List UInt8).length=4:=rfl;omega
 have HB:=Hd (bit0_calls h (nChoice q) (mem_choice hq) (coder q++[32,67,104,111,105,99,101]) rfl Nat.zero_lt_one (by show 0<Lz.rowLen c.lc c.lp q;omega))
 have x0:w.cell? ⟨l.X,0,none⟩=some (ptr l.K):=cell_in (i:=0) h.x rfl
 obtain⟨res,hres⟩:∃res,res=rlength y c q:=⟨_,rfl⟩
 rw[←hres]
 unfold rlength at hres
 have H:=Hd h
 clear h
 show Calls _ _ _ w (RPost l c w res)
 have hsC:sChoice=[32,67,104,111,105,99,101]:=rfl
 have hsL:sLow=[32,76,111,119]:=rfl
 have hsC2:sChoice2=[32,67,104,111,105,99,101,50]:=rfl
 have hsM:sMid=[32,77,105,100]:=rfl
 have hsH:sHigh=[32,72,105,103,104]:=rfl
 unfold nChoice at HB
 simp only at HB
 generalize hr1:y.bit q 0=r1 at*
 obtain⟨v1,y1⟩:=r1
 simp only at hres
 have HRES:=Hd hres
 clear hres
 rw[hsC] at a1
 rw[hsL] at a2
 rw[hsC2] at a3
 rw[hsM] at a4
 rw[hsH] at a5
 go_enter Tryz.func131,Tryz.ntmps131
 go_wp2_with fail
 refine HB.out.mono ?_
 rintro e w1 ⟨rfl,hf1,st1,hA1,hg1⟩
 have HF1:=Hd hf1
 have HG1:=Hd hg1
 have HA1:=Hd hA1
 have x1:w1.cell? ⟨l.X,0,none⟩=some (ptr l.K):=cell_in (i:=0) hA1.x rfl
 clear hf1 hA1 hg1 HB x0 H
 by_cases hv:v1=0
 ·have HRES1:=Hd (HRES.out.trans (if_pos hv))
  have t1:((v1:Int)==0)=true:=by simp[hv]
  have HPL:=Hd (Rf.place_calls HA1.out.cod)
  clear HRES hv
  go_wp2_with fail
  refine HPL.out.mono ?_
  rintro e w2 ⟨rfl,m,rfl⟩
  have HA2:=Hd (HA1.out.keep ((Fr.refl (fun _=>False) w1).drewN m))
  have HF2:=Hd (HF1.out.drewN m)
  have HS:=Hd (set_calls (coder q++[32,76,111,119]) c.place n1 (by omega) (w1.drewN m))
  have HT:=Hd (tree_named HA2.out (nLow q c.place) (mem_low hq hpl) (num (coder q++[32,76,111,119]) c.place) rfl 3 (by omega) (Nat.le_refl _) (by show 8*c.place+8≤Lz.rowLen c.lc c.lp (q+1);omega))
  have hlt:=rtree_lt y1 (q+1) (8*c.place) 3
  unfold nLow at HT
  simp only at HT
  clear HA1 HF1 HPL x1
  generalize w1.drewN m=w2 at*
  generalize rtree y1 (q+1) (8*c.place) 3=r at*
  go_wp2_with fail
  refine HS.out.mono ?_
  rintro e w3 ⟨rfl,rfl⟩
  go_wp2_with fail
  refine HT.out.mono ?_
  rintro e w3 hp
  have hs2:=RPost.seq HF2.out HG1.out hp
  obtain⟨rfl,_⟩:=hp
  have HS2:=Hd hs2
  clear hs2 HT HS HA2 HF2 HG1
  go_wp2_with fail
  go_ret
  rw[HRES1.out]
  exact HS2.out.to rfl rfl
 ·have HRES1:=Hd (HRES.out.trans (if_neg hv))
  have t1:((v1:Int)==0)=false:=by simp[hv]
  have HB2:=Hd (bit0_calls HA1.out (nChoice2 q) (mem_choice2 hq) (coder q++[32,67,104,111,105,99,101,50]) rfl Nat.zero_lt_one (by show 1<Lz.rowLen c.lc c.lp q;omega))
  unfold nChoice2 at HB2
  simp only at HB2
  clear HRES hv HA1
  generalize y1.bit q 1=r2 at*
  obtain⟨v2,y2⟩:=r2
  go_wp2_with fail
  refine HB2.out.mono ?_
  rintro e w2 ⟨rfl,hf2,st2,hA2,hg2⟩
  have HF2:=Hd (S_trans HF1.out HG1.out hf2)
  have HG2:=Hd (sf_trans HF1.out.size HG1.out hg2)
  have HA2:=Hd hA2
  have x2:w2.cell? ⟨l.X,0,none⟩=some (ptr l.K):=cell_in (i:=0) hA2.x rfl
  clear hf2 hA2 hg2 HB2 HF1 HG1 x1
  by_cases hv:v2=0
  ·have HRES2:=Hd (HRES1.out.trans (if_pos hv))
   have t2:((v2:Int)==0)=true:=by simp[hv]
   have HPL:=Hd (Rf.place_calls HA2.out.cod)
   clear HRES1 hv
   go_wp2_with fail
   refine HPL.out.mono ?_
   rintro e w3 ⟨rfl,m,rfl⟩
   have HA3:=Hd (HA2.out.keep ((Fr.refl (fun _=>False) w2).drewN m))
   have HF3:=Hd (HF2.out.drewN m)
   have HS:=Hd (set_calls (coder q++[32,77,105,100]) c.place n2 (by omega) (w2.drewN m))
   have HT:=Hd (tree_named HA3.out (nMid q c.place) (mem_mid hq hpl) (num (coder q++[32,77,105,100]) c.place) rfl 3 (by omega) (Nat.le_refl _) (by show 8*c.place+8≤Lz.rowLen c.lc c.lp (q+2);omega))
   have hlt:=rtree_lt y2 (q+2) (8*c.place) 3
   unfold nMid at HT
   simp only at HT HRES2
   clear HA2 HF2 HPL x2
   generalize w2.drewN m=w3 at*
   generalize rtree y2 (q+2) (8*c.place) 3=r at*
   go_wp2_with fail
   refine HS.out.mono ?_
   rintro e w4 ⟨rfl,rfl⟩
   go_wp2_with fail
   refine HT.out.mono ?_
   rintro e w4 hp
   have hs2:=RPost.seq HF3.out HG2.out hp
   obtain⟨rfl,_⟩:=hp
   have HS2:=Hd hs2
   clear hs2 HT HS HA3 HF3 HG2
   go_wp2_with fail
   go_ret
   rw[HRES2.out]
   exact HS2.out.to rfl rfl
  ·have HRES2:=Hd (HRES1.out.trans (if_neg hv))
   have t2:((v2:Int)==0)=false:=by simp[hv]
   have HT:=Hd (tree_named HA2.out (nHigh q) (mem_high hq) (coder q++[32,72,105,103,104]) rfl 8 (by omega) (Nat.le_refl _) (by show 0+256≤Lz.rowLen c.lc c.lp (q+3);omega))
   have hlt:=rtree_lt y2 (q+3) 0 8
   unfold nHigh at HT
   simp only at HT HRES2
   clear HRES1 hv HA2
   generalize rtree y2 (q+3) 0 8=r at*
   go_wp2_with fail
   refine HT.out.mono ?_
   rintro e w4 hp
   have hs2:=RPost.seq HF2.out HG2.out hp
   obtain⟨rfl,_⟩:=hp
   have HS2:=Hd hs2
   clear hs2 HT HF2 HG2
   go_wp2_with fail
   go_ret
   rw[HRES2.out]
   exact HS2.out.to rfl rfl
end Rf
end Go.Proofs.YtilegoadokmcdaaGreatDoor
