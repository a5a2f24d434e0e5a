/- Part 46 of 54: lemmas of the last part, each under the conditions that it names. -/
import Derived.Test.YtlgccpjccopdmaaGreatDoorP21
import Derived.Test.YtlgccpjccopdmaaGreatDoorP29
import Derived.Test.YtlgccpjccopdmaaGreatDoorP45
set_option linter.unusedVariables false
set_option linter.unusedSimpArgs false
set_option maxRecDepth 1500
set_option maxHeartbeats 2000000
namespace Go.Proofs.YtlgccpjccopdmaaGreatDoor
open Go.RowKit
namespace En
open Mem Rc Win Lz Prob Rf
theorem rcut_calls{w:World}{E:Nat}{v:Value}{k:K}{c:Nat}(b:Nat)(h:QAt w E v k)(h1:k.r<4294967296)(hc0:65536≤c)(hc1:c+65536≤k.r)(hs:k.s≤1099511627000):
 Calls Tryz.prog 135 #[ptr E,.int .u32 c,.int .i64 b] w fun e w'=>e=.returned (.tuple #[])∧QP E v w (k.cut c b).widen w':=by
 by_cases hb:b=0
 ·subst hb
  have s1:=QR.set (r2:=c) (s2:=k.s) h 1 (.int .u32 (c:Int)) (by simp)
  have hd:(((0:Nat):Int)==0)=true:=rfl
  have cf:=frozen_in h.box 1
  have c1:w.cell? ⟨E,1,none⟩=some (.int .u32 k.r):=cell_in h.box rfl
  have HQ:=Hd (show QAt (w.setCell ⟨E,1,none⟩ (.int .u32 (c:Int))) E v (k.cut c 0) from s1.1)
  have HW:=Hd (widens_calls HQ.out (by show 65536≤c;omega) (by show c<4294967296;omega) hs)
  have HF1:=Hd s1.2
  clear h s1
  generalize k.r=r at*
  go_enter Tryz.func135,Tryz.ntmps135
  go_wp2_with fail
  refine HW.out.mono ?_
  rintro e w2 ⟨rfl,hp⟩
  go_wp2_with fail
  go_end0
  exact⟨rfl,QPost.trans HF1.out (fun k hk=>.inl hk) hp⟩
 ·have hd:((b:Int)==0)=false:=by rw[beq_eq_false_iff_ne];omega
  have HA:=Hd (adds_calls (n:=k.s+5) (a:=k.a) (r:=k.r) (s:=k.s) h (show c≤4294967295 by omega) (by omega) (by omega))
  have HK:=Hd (show k.cut c b=⟨k.a+c,k.s,k.r-c⟩ by unfold K.cut;rw[if_neg hb])
  have HB1:=Hd (show 65536≤k.r-c∧k.r-c<4294967296∧k.s≤1099511627000 from⟨by omega,by omega,hs⟩)
  have e1:IntKind.u32.wrap ((k.r:Int)-(c:Int))=((k.r-c:Nat):Int):=by rw[IntKind.wrap_u32];omega
  clear h
  obtain⟨r,hR⟩:∃r,r=k.r:=⟨_,rfl⟩
  obtain⟨s,hS⟩:∃s,s=k.s:=⟨_,rfl⟩
  rw[←hR] at h1 hc1 e1
  have HR:=Hd hR
  have HS:=Hd hS
  clear hR hS hs hb
  go_enter Tryz.func135,Tryz.ntmps135
  go_wp2_with fail
  refine HA.out.mono ?_
  rintro e w2 ⟨rfl,hf2,hq2⟩
  rw[←HR.out,←HS.out] at hq2
  have c1:w2.cell? ⟨E,1,none⟩=some (.int .u32 r):=cell_in hq2.box rfl
  have cf:=frozen_in hq2.box 1
  have s1:=QR.set (r2:=r-c) (s2:=s) hq2 1 (.int .u32 ((r-c:Nat):Int)) (by simp)
  have HQ:=Hd (show QAt (w2.setCell ⟨E,1,none⟩ (.int .u32 ((r-c:Nat):Int))) E v (k.cut c b) by rw[HK.out];show QR _ _ _ (digs (k.s+5) (k.a+c)) (k.r-c) k.s;rw[←HR.out,←HS.out];exact s1.1)
  have HW:=Hd (widens_calls HQ.out (by rw[HK.out];exact HB1.out.1) (by rw[HK.out];exact HB1.out.2.1) (by rw[HK.out];exact HB1.out.2.2))
  have HF1:=Hd ((hf2.mono (T:=EF E v) (fun k _ e=>.inr e)).trans s1.2)
  clear hq2 s1 hf2 HA HQ
  generalize r-c=rc at*
  go_wp2_with fail
  refine HW.out.mono ?_
  rintro e w3 ⟨rfl,hp⟩
  go_wp2_with fail
  go_end0
  exact⟨rfl,QPost.trans HF1.out (fun k hk=>.inl hk) hp⟩
def RBPost(E:Nat)(v:Value)(sb sg:Nat)(w:World)(k:K)(L:List Nat)(w':World):Prop:=
 Fr (fun j=>EF E v j∨j=sg) w w'∧(∃v',QAt w' E v' k∧∀j,v'.ownBlock=some j→v.ownBlock=some j∨w.heap.size≤j)∧RSet w' sb sg L
theorem rbit7_calls{w:World}{E sb sg i p:Nat}{v:Value}{k:K}{L:List Nat}(b:Nat)(h:QAt w E v k)(hk:k.Ok)(hs:k.s≤1099511627000)(hR:RSet w sb sg L)(hp:L[i]? =some p)(hp1:31≤p)(hp2:p≤2017):
 Calls Tryz.prog 80 #[ptr E,ptr sb,.int .i64 i,.int .i64 b] w fun e w'=>e=.returned (.int .i64 0)∧RBPost E v sb sg w (k.bit p b) (L.set i (nextN p b)) w':=by
 have hcb:=cut_bd hk.lo hp1 hp2
 have hhi:=hk.hi
 have HAT:=Hd (rset_at sb sg i p L w hR hp)
 have HBD:=Hd (rbound_nat k.r p w (by omega) (by omega))
 have HCT:=Hd (rcut_calls b h hhi hcb.1 hcb.2 hs)
 have c1:w.cell? ⟨E,1,none⟩=some (.int .u32 k.r):=cell_in h.box rfl
 have hEb:E≠sb:=blk_ne h.box hR.box (by decide)
 have hEg:E≠sg:=blk_ne h.box hR.row (by decide)
 have hvb:∀j,v.ownBlock=some j→j≠sb∧j≠sg:=fun j hj=>⟨off_box h.own hR.box (by decide) j hj,off_box h.own hR.row (by decide) j hj⟩
 have HR:=Hd hR
 have HTN:=fun W(hW:RSet W sb sg L)=>Hd (rset_turn sb sg i p b L W hW hp)
 have HK:=Hd (show k.bit p b=(k.cut (cutAt k.r p) b).widen from rfl)
 clear h hk hR hp
 generalize hq:cutAt k.r p=c at*
 generalize k.r=r at*
 go_enter Tryz.func80,Tryz.ntmps80
 go_wp2_with fail
 refine HAT.out.mono ?_
 rintro e w1 ⟨rfl,rfl⟩
 go_wp2_with fail
 refine HBD.out.mono ?_
 rintro e w1 ⟨rfl,rfl⟩
 go_wp2_with fail
 refine HCT.out.mono ?_
 rintro e w2 ⟨rfl,hf,v',hq2,hn⟩
 have hR2:=HR.out.step hf (by rintro(e|e);exact hEb e.symm;exact(hvb _ e).1 rfl) (by rintro(e|e);exact hEg e.symm;exact(hvb _ e).2 rfl)
 have HT:=HTN w2 hR2
 have HF:=Hd hf
 have HQ:=Hd hq2
 have HN:=Hd hn
 have HR2:=Hd hR2
 clear hf hq2 hn hR2 HTN
 go_wp2_with fail
 refine HT.out.mono ?_
 rintro e w3 ⟨rfl,hf3,hr3⟩
 have HF3:=Hd hf3
 have HR3:=Hd hr3
 clear hf3 hr3
 go_wp2_with fail
 go_ret
 refine⟨rfl,(HF.out.mono (fun j _ e=>.inl e)).trans (HF3.out.mono (fun j _ e=>.inr e)),⟨v',?_,HN.out⟩,HR3.out⟩
 rw[HK.out]
 exact QR.keep HQ.out HF3.out hEg (fun j hj e=>off_box HQ.out.own HR2.out.row (by decide) j hj e)
set_option maxRecDepth 100000 in
theorem rdirect_calls{w:World}{E:Nat}{v:Value}{k:K}{b:Nat}(hb:b≤1)(h:QAt w E v k)(hk:k.Ok)(hs:k.s≤1099511627000):
 Calls Tryz.prog 79 #[ptr E,.int .u32 b,.int .i64 1] w fun e w'=>e=.returned (.int .i64 0)∧QP E v w (k.half b) w':=by
 have hlo:=hk.lo
 have hhi:=hk.hi
 have s1:=QR.set (r2:=k.r/2) (s2:=k.s) h 1 (.int .u32 ((k.r/2:Nat):Int)) (by simp)
 have cf:=frozen_in h.box 1
 have c1:w.cell? ⟨E,1,none⟩=some (.int .u32 k.r):=cell_in h.box rfl
 have e1:IntKind.u32.wrap ((k.r:Int)/2)=((k.r/2:Nat):Int):=by rw[IntKind.wrap_u32];omega
 have e2:(k.r:Int)/2%4294967296=((k.r/2:Nat):Int):=by omega
 have HQ:=Hd s1.1
 have HF1:=Hd s1.2
 have HBD:=Hd (show 65536≤k.r/2∧k.r/2<4294967296∧k.s≤1099511627000 from⟨by omega,by omega,hs⟩)
 have HH:=Hd (show k.half b=(⟨k.a+b*(k.r/2),k.s,k.r/2⟩:K).widen from rfl)
 have HA:=fun W(hW:QR W E v (digs (k.s+5) k.a) (k.r/2) k.s)=>Hd (adds_calls (x:=k.r/2) hW (by omega) (by omega) (by omega))
 clear h hk s1 hlo hhi hs
 have k1:(w.setCell ⟨E,1,none⟩ (.int .u32 ((k.r/2:Nat):Int))).cell? ⟨E,1,none⟩=some (.int .u32 ((k.r/2:Nat):Int)):=cell_in HQ.out.box rfl
 have HA1:=HA _ HQ.out
 clear HA
 obtain⟨r,hR⟩:∃r,r=k.r:=⟨_,rfl⟩
 obtain⟨q,hQ⟩:∃q,q=k.r/2:=⟨_,rfl⟩
 obtain⟨s,hS⟩:∃s,s=k.s:=⟨_,rfl⟩
 rw[←hQ] at e1 e2 HQ HF1 HH HBD k1 HA1
 rw[←hR] at c1 e1 e2
 rw[←hS] at HBD
 have HS:=Hd hS
 clear hR hQ hS
 rcases(show b=0∨b=1 by omega) with rfl|rfl
 ·have HW:=Hd (widens_calls (k:=⟨k.a,k.s,q⟩) HQ.out HBD.out.1 HBD.out.2.1 (by rw[←HS.out];exact HBD.out.2.2))
  have HK:=Hd (show(⟨k.a,k.s,q⟩:K).widen=k.half 0 by rw[HH.out,Nat.zero_mul,Nat.add_zero])
  clear HBD HH
  show Calls Tryz.prog 79 #[ptr E,.int .u32 0,.int .i64 1] w _
  go_enter Tryz.func79,Tryz.ntmps79
  go_wp2_with fail
  go_loopw [7](fun i wr=>∃j:Nat,j≤1∧i=.int .i64 ((j:Int)-1)∧(j=1∧wr=w∨j=0∧QP E v w (k.half 0) wr)) (fun i _=>(intOf i+1).toNat)
  case atStart=>exact⟨1,by omega,rfl,.inl ⟨rfl,rfl⟩⟩
  case round=>
   obtain⟨j,hj,rfl,⟨rfl,rfl⟩|⟨rfl,hp⟩⟩:=hrel
   ·go_wp2_with fail
    refine HW.out.mono ?_
    rintro e w2 ⟨rfl,hp⟩
    have HP:=Hd (QPost.trans HF1.out (fun k hk=>.inl hk) hp)
    clear hp
    go_wp2_with fail
    go_roundw
    case rel=>exact⟨0,by omega,by go_num,.inr ⟨rfl,by rw[←HK.out];exact HP.out⟩⟩
    case measure=>simp[intOf]
   ·have HP:=Hd hp
    clear hp
    go_wp2_with fail
    go_ret
    exact⟨rfl,HP.out⟩
 ·have HK:=Hd (show(⟨k.a+q,k.s,q⟩:K).widen=k.half 1 by rw[HH.out,Nat.one_mul])
  clear HH
  show Calls Tryz.prog 79 #[ptr E,.int .u32 1,.int .i64 1] w _
  go_enter Tryz.func79,Tryz.ntmps79
  go_wp2_with fail
  go_loopw [7](fun i wr=>∃j:Nat,j≤1∧i=.int .i64 ((j:Int)-1)∧(j=1∧wr=w∨j=0∧QP E v w (k.half 1) wr)) (fun i _=>(intOf i+1).toNat)
  case atStart=>exact⟨1,by omega,rfl,.inl ⟨rfl,rfl⟩⟩
  case round=>
   obtain⟨j,hj,rfl,⟨rfl,rfl⟩|⟨rfl,hp⟩⟩:=hrel
   ·go_wp2_with fail
    refine HA1.out.mono ?_
    rintro e w2 ⟨rfl,hf2,hq2⟩
    have HF2:=Hd (HF1.out.trans (hf2.mono (T:=EF E v) (fun k _ e=>.inr e)))
    have HW:=Hd (widens_calls (k:=⟨k.a+q,k.s,q⟩) hq2 HBD.out.1 HBD.out.2.1 (by rw[←HS.out];exact HBD.out.2.2))
    clear hf2 hq2
    go_wp2_with fail
    refine HW.out.mono ?_
    rintro e w3 ⟨rfl,hp⟩
    have HP:=Hd (QPost.trans HF2.out (fun k hk=>.inl hk) hp)
    clear hp
    go_wp2_with fail
    go_roundw
    case rel=>exact⟨0,by omega,by go_num,.inr ⟨rfl,by rw[←HK.out];exact HP.out⟩⟩
    case measure=>simp[intOf]
   ·have HP:=Hd hp
    clear hp
    go_wp2_with fail
    go_ret
    exact⟨rfl,HP.out⟩
theorem rbytes_calls{w:World}{E:Nat}{v:Value}{k:K}(h:QAt w E v k)(hs:k.s≤1099511627000):
 Calls Tryz.prog 83 #[ptr E] w fun e w'=>∃v',e=.returned v'∧Fr (fun _=>False) w w'∧Mine w w' v' k.bytes:=by
 have c0:w.cell? ⟨E,0,none⟩=some v:=cell_in h.box rfl
 obtain⟨p,cap,hv⟩:=own_slice h.own
 have hlen:k.bytes.length=k.s+5:=digs_len _ _
 have HRD:=Hd (Rd.of_own h.own)
 have HB:=Hd (show([]:List UInt8).length+k.bytes.length≤70368744177664 by rw[hlen];simp only[List.length_nil];omega)
 clear hlen h hs
 generalize k.bytes=L at*
 subst hv
 go_enter Tryz.func83,Tryz.ntmps83
 go_wp2_with (at_builtin;refine append_mine rfl _ _ rfl (w0:=w) (.slice none 0 0) (.slice p L.length cap) [] L rfl rfl (Mine.nil _ _) (Nat.le_refl _) HRD.out HB.out ?_;intro p2 cap2 n2 w2 hn2 hm2 hf2 _;have HM2:=Hd (show Mine w w2 (.slice p2 L.length cap2) L by have:=hm2;rw[hn2,List.length_nil,Nat.zero_add,List.nil_append] at this;exact this);have HF2:=Hd hf2;clear hm2 hf2)
 go_ret
 exact⟨.slice p2 L.length cap2,rfl,HF2.out.mono (fun k _ e=>by simp[Value.ownBlock] at e),HM2.out⟩
end En
namespace Rf
open Mem Rc Prob St Lz Win En Ga
theorem own_blk{w:World}{T:TypeId}{v:Value}{n z:Nat}{xs:List Value}{k:Nat}(h:w.ownsRow 0 T z v n xs)(hk:v.ownBlock=some k):∃cur,w.heap[k]? =some (.cells cur T (0,0)):=Lz.own_block h hk
structure EC(w:World)(l:RL)(E:Nat)(v:Value)(c:C)(e:Es):Prop where
 cod:Cod w l c e.ps
 q:QAt w E v e.k
 ev:l.ev=ptr E
 ap:∀k,v.ownBlock=some k→l.av.ownBlock≠some k
def ECF(l:RL)(E:Nat)(v:Value)(k:Nat):Prop:=l.CF k∨EF E v k
theorem EC.sep{w:World}{l:RL}{E:Nat}{v:Value}{c:C}{e:Es}(h:EC w l E v c e){k:Nat}(hk:EF E v k):¬l.CF k:=by
 rcases hk with rfl|hk
 ·rintro(e|e|e|e)
  ·exact blk_ne h.q.box h.cod.k (by decide) e
  ·exact blk_ne h.q.box h.cod.v (by decide) e
  ·obtain⟨cur,hc⟩:=own_blk h.cod.all e
   exact blk_ne h.q.box hc (by decide) rfl
  ·exact h.cod.sets.off h.q.box (by decide) (by decide) e
 ·obtain⟨cur,hc⟩:=own_blk h.q.own hk
  rintro(e|e|e|e)
  ·exact blk_ne hc h.cod.k (by decide) e
  ·exact blk_ne hc h.cod.v (by decide) e
  ·exact h.ap k hk e
  ·exact h.cod.sets.off hc (by decide) (by decide) e
theorem EC.old{w:World}{l:RL}{E:Nat}{v:Value}{c:C}{e:Es}(h:EC w l E v c e):∀k,ECF l E v k→k<w.heap.size:=by
 rintro k (hk|rfl|hk)
 ·exact h.cod.old k hk
 ·exact lt_of_block h.q.box
 ·exact(World.ownsRow.lt h.q.own k hk).2
theorem EC.step{S:Nat→Prop}{w w':World}{l:RL}{E:Nat}{v:Value}{c:C}{e:Es}(h:EC w l E v c e)(hfr:Fr S w w')(hS:∀k,ECF l E v k→¬S k):EC w' l E v c e:=
 ⟨h.cod.step hfr (fun k hk=>hS k (.inl hk)),QR.keep h.q hfr (hS _ (.inr (.inl rfl))) (fun k hk=>hS k (.inr (.inr hk))),h.ev,h.ap⟩
theorem EC.keep{w w':World}{l:RL}{E:Nat}{v:Value}{c:C}{e:Es}(h:EC w l E v c e)(hfr:Fr (fun _=>False) w w'):EC w' l E v c e:=h.step hfr (fun _ _ h=>h)
structure OP(w:World)(l:RL)(E:Nat)(v:Value)(c:C)(e:Es)(st':List Ent)(v':Value)(w':World):Prop where
 ec:EC w' {l with st:=st'} E v' c e
 fr:Fr (ECF l E v) w w'
 gr:∀k,ECF {l with st:=st'} E v' k→ECF l E v k∨w.heap.size≤k
theorem OP.refl{w:World}{l:RL}{E:Nat}{v:Value}{c:C}{e:Es}(h:EC w l E v c e):OP w l E v c e l.st v w:=⟨h,Fr.refl _ _,fun k hk=>.inl hk⟩
theorem OP.trans{w w1 w2:World}{l:RL}{E:Nat}{v v1 v2:Value}{c:C}{e1 e2:Es}{st1 st2:List Ent}(h1:OP w l E v c e1 st1 v1 w1)(h2:OP w1 {l with st:=st1} E v1 c e2 st2 v2 w2):OP w l E v c e2 st2 v2 w2:=by
 refine⟨h2.ec,h1.fr.trans' h2.fr (fun i hi hk=> ?_),fun k hk=> ?_⟩
 ·rcases h1.gr i hk with h|h
  ·exact h
  ·omega
 ·rcases h2.gr k hk with h|h
  ·exact h1.gr k h
  ·exact .inr (Nat.le_trans h1.fr.size h)
theorem SetsAt.set2{S:Nat→Prop}{w w':World}{M:Nat}{st:List Ent}(h:SetsAt w M st){e:Ent}(he:look st e.s=some e){L:List Nat}(hfr:Fr S w w')(hS:∀k,SF M st k→S k→k=e.g)(hs:RSet w' e.b e.g L)(hn:(st.map (·.s)).Nodup):SetsAt w' M (putL st e.s L):=by
 obtain⟨hm,_⟩:=look_some he
 refine⟨(h.km.step hfr (fun hM=> ?_)).put _ _,fun f hf=> ?_,fun f hf f2 hf2=> ?_⟩
 ·obtain⟨D,⟨es,clock,hb,_⟩,_⟩:=h.km
  rw[hS _ (.inl rfl) hM,(h.at' e hm).row] at hb
  cases hb
 ·obtain⟨f0,hf0,rfl⟩:=List.mem_map.1 hf
  by_cases hsame:f0.s=e.s
  ·have:f0=e:=by
    have h1:=look_self hn hf0
    rw[hsame,he] at h1
    exact(Option.some.inj h1).symm
   subst this
   rw[Ent.to_b,Ent.to_g]
   unfold Ent.to
   rw[if_pos rfl]
   exact hs
  ·rw[Ent.to_b,Ent.to_g]
   unfold Ent.to
   rw[if_neg hsame]
   refine(h.at' f0 hf0).step hfr (fun hb=> ?_) (fun hg=>hsame (h.inj f0 hf0 e hm (hS _ (.inr ⟨f0,hf0,.inr rfl⟩) hg)))
   have hb:=hS _ (.inr ⟨f0,hf0,.inl rfl⟩) hb
   have h1:=(h.at' f0 hf0).box
   rw[hb,(h.at' e hm).row] at h1
   simp at h1
 ·obtain⟨f0,hf0,rfl⟩:=List.mem_map.1 hf
  obtain⟨f02,hf02,rfl⟩:=List.mem_map.1 hf2
  rw[Ent.to_g,Ent.to_g,Ent.to_s,Ent.to_s]
  exact h.inj f0 hf0 f02 hf02
theorem EC.setted{w w1:World}{l:RL}{E:Nat}{v:Value}{c:C}{e:Es}{st':List Ent}(h:EC w l E v c e)(hf:Fr (fun k=>k=l.M) w w1)(hc:Cod w1 {l with st:=st'} c e.ps)(hg:∀k,SF l.M st' k→SF l.M l.st k∨w.heap.size≤k):OP w l E v c e st' v w1:=by
 have hoff:∀k,EF E v k→¬k=l.M:=fun k hk e=>h.sep hk (by rw[e];exact .inr (.inr (.inr (.inl rfl))))
 refine⟨⟨hc,QR.keep h.q hf (hoff _ (.inl rfl)) (fun k hk=>hoff k (.inr hk)),h.ev,h.ap⟩,hf.mono (fun k _ e=>.inl (by rw[e];exact .inr (.inr (.inr (.inl rfl))))),?_⟩
 rintro k ((hk|hk|hk|hk)|hk)
 ·exact .inl (.inl (.inl hk))
 ·exact .inl (.inl (.inr (.inl hk)))
 ·exact .inl (.inl (.inr (.inr (.inl hk))))
 ·rcases hg k hk with h1|h1
  ·exact .inl (.inl (.inr (.inr (.inr h1))))
  ·exact .inr h1
 ·exact .inl (.inr hk)
theorem EC.bitted{w w2:World}{l:RL}{E:Nat}{v:Value}{c:C}{e:Es}(h:EC w l E v c e)(hok:e.Ok c.lc c.lp){a:Nm}(ha:a ∈ names){en:Ent}(hl:look l.st a.str=some en){i p b:Nat}(hi:i<a.len)(hidx:a.o+i<Lz.rowLen c.lc c.lp a.j)(hp:(e.ps a.j).getD (a.o+i) 0=p)
 (hb:RBPost E v en.b en.g w (e.k.bit p b) (en.L.set i (nextN p b)) w2):
 ∃st' v',OP w l E v c (e.op (.bit a.j (a.o+i) b)) st' v' w2:=by
 obtain⟨hm,hs⟩:=look_some hl
 obtain⟨hfr,⟨v',hq,hn⟩,hR⟩:=hb
 have hsf:SF l.M l.st en.g:=.inr ⟨en,hm,.inr rfl⟩
 have hK:∀k,EF E v k∨k=en.g→¬(k=l.K∨k=l.V∨l.av.ownBlock=some k):=by
  rintro k (hk|rfl) hx
  ·exact h.sep hk (by rcases hx with hx|hx|hx;exact .inl hx;exact .inr (.inl hx);exact .inr (.inr (.inl hx)))
  ·rcases hx with hx|hx|hx
   ·exact h.cod.sfK (by rw[←hx];exact hsf)
   ·exact h.cod.sfV (by rw[←hx];exact hsf)
   ·exact h.cod.sfA _ hx hsf
 have ho:=hok.op (o:=.bit a.j (a.o+i) 0) ⟨(name_small ha).2,hidx,by decide⟩
 have hps:(e.op (.bit a.j (a.o+i) b)).ps=upd e.ps a.j ((e.ps a.j).set (a.o+i) (nextN p b)):=by rw[←hp];rfl
 have hkk:(e.op (.bit a.j (a.o+i) b)).k=e.k.bit p b:=by rw[←hp];rfl
 have hst:look l.st en.s=some en:=by rw[hs];exact hl
 have hlen:∀j,(upd e.ps a.j ((e.ps a.j).set (a.o+i) (nextN p b)) j).length=(e.ps j).length:=fun j=>by
  by_cases hj:j=a.j
  ·rw[hj,upd_same,List.length_set]
  ·rw[upd_other _ _ hj]
 have hpq:31≤p∧p≤2017:=by rw[←hp];exact(hok.at (name_small ha).2 hidx).2
 have hnx:=nextQ b hpq
 have hcod:Cod w2 {l with st:=putL l.st a.str (en.L.set i (nextN p b))} c (upd e.ps a.j ((e.ps a.j).set (a.o+i) (nextN p b))):=by
  refine⟨hfr.keep h.cod.k (fun hk=>hK _ hk (.inl rfl)),hfr.keep h.cod.v (fun hk=>hK _ hk (.inr (.inl rfl))),own_step h.cod.all hfr (fun k hk e=>hK _ e (.inr (.inr hk))),?_,h.cod.has.set ha hl hi,h.cod.okc,fun j hj=>by rw[hlen];exact h.cod.len j hj,fun j hj=> ?_,h.cod.size,h.cod.much⟩
  ·have:=h.cod.sets.set2 hst hfr (fun k hk hS=> ?_) hR h.cod.has.nodup
   ·rw[hs] at this
    exact this
   ·rcases hS with hS|hS
    ·exact absurd (.inr (.inr (.inr hk))) (h.sep hS)
    ·exact hS
  ·by_cases hjj:j=a.j
   ·rw[hjj,upd_same]
    intro x hx
    rcases List.mem_or_eq_of_mem_set hx with hx|rfl
    ·exact h.cod.okp a.j (name_small ha).2 x hx
    ·omega
   ·rw[upd_other _ _ hjj]
    exact h.cod.okp j hj
 have hold:=h.old
 refine⟨putL l.st a.str (en.L.set i (nextN p b)),v',⟨⟨by rw[hps];exact hcod,by rw[hkk];exact hq,h.ev,fun k hk=> ?_⟩,hfr.mono (fun k _ hk=> ?_),?_⟩⟩
 ·rcases hn k hk with h1|h1
  ·exact h.ap k h1
  ·intro he
   have:=h.cod.old k (.inr (.inr (.inl he)))
   omega
 ·rcases hk with hk|rfl
  ·exact .inr hk
  ·exact .inl (.inr (.inr (.inr hsf)))
 ·rintro k ((hk|hk|hk|hk)|hk|hk)
  ·exact .inl (.inl (.inl hk))
  ·exact .inl (.inl (.inr (.inl hk)))
  ·exact .inl (.inl (.inr (.inr (.inl hk))))
  ·exact .inl (.inl (.inr (.inr (.inr ((SF_put ..).1 hk)))))
  ·exact .inl (.inr (.inl hk))
  ·rcases hn k hk with h1|h1
   ·exact .inl (.inr (.inr h1))
   ·exact .inr h1
theorem EC.halved{w w2:World}{l:RL}{E:Nat}{v:Value}{c:C}{e:Es}(h:EC w l E v c e){b:Nat}(hb:QP E v w (e.k.half b) w2):∃v',OP w l E v c (e.op (.half b)) l.st v' w2:=by
 obtain⟨hfr,v',hq,hn⟩:=hb
 refine⟨v',⟨⟨h.cod.step hfr (fun k hk e=>h.sep e hk),hq,h.ev,fun k hk=> ?_⟩,hfr.mono (fun k _ hk=>.inr hk),?_⟩⟩
 ·rcases hn k hk with h1|h1
  ·exact h.ap k h1
  ·intro he
   have:=h.cod.old k (.inr (.inr (.inl he)))
   omega
 ·rintro k (hk|hk|hk)
  ·exact .inl (.inl hk)
  ·exact .inl (.inr (.inl hk))
  ·rcases hn k hk with h1|h1
   ·exact .inl (.inr (.inr h1))
   ·exact .inr h1
def Nb.nm:Nb→List UInt8
 |.bit a _ _=>a.str
 |.half _=>[]
def Nb.i:Nb→Nat
 |.bit _ i _=>i
 |.half _=>0
def Nb.b:Nb→Nat
 |.bit _ _ b=>b
 |.half b=>b
theorem nb_cells(x:Nb):x.cells=[bstr x.nm,.int .i64 x.i,.int .i64 x.b]:=by cases x<;>rfl
theorem BL.at{w0 w:World}{p:Option Addr}{n cap i:Nat}{L:List Nb}{x:Nb}(h:BL w0 w (.slice p n cap) L)(hx:L[i]? =some x):
 ∃g,p=some ⟨g,0,none⟩∧w.cell? ⟨g,i*3,none⟩=some (bstr x.nm)∧w.cell? ⟨g,i*3+1,none⟩=some (.int .i64 x.i)∧w.cell? ⟨g,i*3+2,none⟩=some (.int .i64 x.b):=by
 have hn:n=L.length:=by
  obtain⟨p',cap',he⟩:=h.slice
  simp only[Value.slice.injEq] at he
  exact he.2.1
 subst hn
 have hf:∀j u,(x.cells)[j]? =some u→j<3→(nbs L)[i*3+j]? =some u:=fun j u hu hj=>by
  rw[←hu]
  exact Pa.flat_at Nb.cells 3 (fun y=>by rw[nb_cells];rfl) L i j x hj hx
 have h0:=hf 0 (bstr x.nm) (by rw[nb_cells];rfl) (by decide)
 have h1:=hf 1 (.int .i64 x.i) (by rw[nb_cells];rfl) (by decide)
 have h2:=hf 2 (.int .i64 x.b) (by rw[nb_cells];rfl) (by decide)
 obtain⟨g,hg,c0⟩:=Own.cell h h0
 obtain⟨g1,hg1,c1⟩:=Own.cell h h1
 obtain⟨g2,hg2,c2⟩:=Own.cell h h2
 have e1:g1=g:=by rw[hg] at hg1;simp only[Option.some.injEq,Addr.mk.injEq] at hg1;exact hg1.1.symm
 have e2:g2=g:=by rw[hg] at hg2;simp only[Option.some.injEq,Addr.mk.injEq] at hg2;exact hg2.1.symm
 subst e1 e2
 exact⟨_,hg,c0,c1,c2⟩
end Rf
namespace Rf
open Mem Rc Prob St Lz Win En Ga
theorem applyZ_okQ{size:Nat}{all:List UInt8}{s:S}{z:Sz}(h0:(applyZ size all s z).1=0)(hs:s.Ok):(applyZ size all s z).2.2.Ok:=by
 have hz:z.bad=0:=by
  unfold applyZ at h0
  by_cases hz:z.bad=0
  ·exact hz
  ·rw[if_neg hz] at h0
   exact h0
 unfold applyZ at h0 ⊢
 rw[if_pos hz] at h0 ⊢
 exact apply_ok h0 hs
theorem EC.applied{w w2 w3:World}{l:RL}{E:Nat}{v av2:Value}{c:C}{e:Es}{bytes:List UInt8}{s':S}(h:EC w l E v c e)(hs:s'.Ok)(hm:c.all.length+bytes.length≤70368744177664)
 (hf:Fr (fun k=>k=l.V∨l.av.ownBlock=some k) w w2)(hW:WAt w2 l.V av2 c.size (c.all++bytes))(hn:∀k,av2.ownBlock=some k→l.av.ownBlock=some k∨w.heap.size≤k)
 (hf3:Fr (fun k=>k=l.K) w2 w3)(hk:w3.heap[l.K]? =some (.cells (kV {l with av:=av2} ((c.on bytes).to s')) 93 (0,0))):
 EC w3 {l with av:=av2} E v ((c.on bytes).to s') e∧Fr (ECF l E v) w w3∧∀k,ECF {l with av:=av2} E v k→ECF l E v k∨w.heap.size≤k:=by
 have hold:=h.old
 have hoff:∀k,ECF l E v k→k≠l.V→l.av.ownBlock≠some k→¬(k=l.V∨l.av.ownBlock=some k):=by
  rintro k hk h1 h2 (e|e)
  ·exact h1 e
  ·exact h2 e
 have hsV:∀k,SF l.M l.st k→k≠l.V:=fun k hk e=>h.cod.sfV (by rw[←e];exact hk)
 have hsA:∀k,SF l.M l.st k→l.av.ownBlock≠some k:=fun k hk e=>h.cod.sfA k e hk
 have hEV:∀k,EF E v k→k≠l.V:=fun k hk e=>h.sep hk (.inr (.inl e))
 have hEA:∀k,EF E v k→l.av.ownBlock≠some k:=fun k hk e=>h.sep hk (.inr (.inr (.inl e)))
 have hEK:∀k,EF E v k→¬k=l.K:=fun k hk e=>h.sep hk (.inl e)
 have hVK:¬l.V=l.K:=fun e=>blk_ne h.cod.v h.cod.k (by decide) e
 have sets2:=h.cod.sets.step hf (fun k hk=>hoff k (.inl (.inr (.inr (.inr hk)))) (hsV k hk) (hsA k hk))
 have q2:=QR.keep h.q hf (hoff E (.inr (.inl rfl)) (hEV _ (.inl rfl)) (hEA _ (.inl rfl))) (fun k hk=>hoff k (.inr (.inr hk)) (hEV _ (.inr hk)) (hEA _ (.inr hk)))
 have hlk:=lt_of_block h.cod.k
 refine⟨⟨⟨hk,hf3.keep hW.v hVK,own_step hW.own hf3 (fun k hk2 e=> ?_),sets2.step hf3 (fun k hk2 e=>h.cod.sfK (by rw[←e];exact hk2)),h.cod.has,⟨h.cod.okc.l,h.cod.okc.pb,hs⟩,h.cod.len,h.cod.okp,h.cod.size,by show(c.all++bytes).length≤_;rw[List.length_append];exact hm⟩,QR.keep q2 hf3 (hEK _ (.inl rfl)) (fun k hk2=>hEK k (.inr hk2)),h.ev,fun k hk2 e=> ?_⟩,?_,?_⟩
 ·rcases hn k hk2 with h1|h1
  ·obtain⟨cur,hc⟩:=own_blk h.cod.all h1
   exact blk_ne hc h.cod.k (by decide) e
  ·omega
 ·rcases hn k e with h1|h1
  ·exact h.ap k hk2 h1
  ·have:=hold k (.inr (.inr hk2))
   omega
 ·exact(hf.mono (T:=ECF l E v) (fun k _ h=>by
   rcases h with h|h
   ·exact .inl (.inr (.inl h))
   ·exact .inl (.inr (.inr (.inl h))))).trans (hf3.mono (T:=ECF l E v) (fun k _ e=>by rw[e];exact .inl (.inl rfl)))
 ·rintro k ((hk2|hk2|hk2|hk2)|hk2)
  ·exact .inl (.inl (.inl hk2))
  ·exact .inl (.inl (.inr (.inl hk2)))
  ·rcases hn k hk2 with h1|h1
   ·exact .inl (.inl (.inr (.inr (.inl h1))))
   ·exact .inr h1
  ·exact .inl (.inl (.inr (.inr (.inr hk2))))
  ·exact .inl (.inr hk2)
end Rf
end Go.Proofs.YtlgccpjccopdmaaGreatDoor
