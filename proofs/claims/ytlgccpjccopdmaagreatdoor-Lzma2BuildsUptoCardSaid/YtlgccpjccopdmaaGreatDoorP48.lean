/- Part 48 of 54: lemmas of the last part, each under the conditions that it names. -/
import Derived.Test.YtlgccpjccopdmaaGreatDoorP17
import Derived.Test.YtlgccpjccopdmaaGreatDoorP47
set_option linter.unusedVariables false
set_option linter.unusedSimpArgs false
set_option maxRecDepth 1500
set_option maxHeartbeats 4000000
namespace Go.Proofs.YtlgccpjccopdmaaGreatDoor
open Go.RowKit
namespace Rf
open Mem Rc Prob St Lz Win En Ga
theorem five_zero:K.new.bytes=[0,0,0,0,0]:=by decide
set_option maxRecDepth 100000 in
theorem made_five:madeCells [Value.int .u8 0].toArray 5=(bvs [0,0,0,0,0]).toArray:=by
 have e:madeCells [Value.int .u8 0].toArray 5=Array.replicate 5 (Value.int .u8 0):=by
  apply Array.ext
  ·simp[madeCells]
  ·intro i h1 h2
   simp[madeCells,Nat.mod_one]
 rw[e]
 rfl
set_option maxRecDepth 100000 in
theorem enew7_calls(w:World):Calls Tryz.prog 72 #[] w fun e w'=>∃E v,e=.returned (ptr E)∧Fr (fun _=>False) w w'∧QAt w' E v K.new∧w.heap.size≤E∧∀k,v.ownBlock=some k→w.heap.size≤k:=by
 have hmk:=make_five
 rw[made_five] at hmk
 go_enter Tryz.func72,Tryz.ntmps72
 go_wp2_with fail
 go_ret
 have h1:=(Fr.refl (fun _=>False) w).alloc (.cells (bvs [0,0,0,0,0]).toArray 5)
 have h2:=(Fr.refl (fun _=>False) (w.alloc (.cells (bvs [0,0,0,0,0]).toArray 5))).alloc (.cells #[.slice (some ⟨w.heap.size,0,none⟩) 5 5,.int .u32 4294967295,.int .i64 0] 215)
 have hb:=h2.keep (heap_alloc_new w (.cells (bvs [0,0,0,0,0]).toArray 5)) (fun h=>h)
 refine⟨w.heap.size+1,.slice (some ⟨w.heap.size,0,none⟩) 5 5,rfl,h1.trans h2,⟨alloc2 w _ _,?_⟩,by omega,fun k hk=> ?_⟩
 ·rw[five_zero]
  exact⟨rfl,.inr ⟨w.heap.size,5,_,rfl,Nat.zero_le _,hb,Nat.le_refl _,by decide,rfl,rfl⟩⟩
 ·exact Nat.le_of_eq (Option.some.inj hk)
theorem enew14_calls(dict:Nat)(h1:1≤dict)(h2:dict≤4294967295)(w:World):
 Calls Tryz.prog 30 #[propV 0 0 0,.int .i64 dict] w fun e w'=>∃(l:RL)(E:Nat)(v:Value),e=.returned (.tuple #[ptr l.K,.int .i64 0])∧Fr (fun _=>False) w w'∧EC w' l E v ⟨0,0,0,S.new,dict,[]⟩ ⟨K.new,Lz.fresh 0 0⟩∧∀k,ECF l E v k→w.heap.size≤k:=by
 have hx:=heap_alloc_new w (.cells #[.int .i64 0,.int .i64 0,.int .i64 0] 24)
 have HAL:=Hd ((Fr.refl (fun _=>False) w).alloc (.cells #[.int .i64 0,.int .i64 0,.int .i64 0] 24))
 obtain⟨c0,c1,c2⟩:=cs3 hx rfl rfl rfl
 have HX:=Hd hx
 have HPB:=fun W=>Hd (show Calls Tryz.prog 69 #[.agg #[.int .i64 0,.int .i64 0,.int .i64 0]] W _ from propsByte_calls 0 0 0 (by decide) (by decide) W)
 have HN10:=fun W=>Hd (new10_calls dict h1 h2 W)
 have hmm:=mk_map
 clear hx
 unfold propV
 go_enter Tryz.func30,Tryz.ntmps30
 go_wp2_with fail
 refine(HPB _).out.mono ?_
 rintro e w2 ⟨rfl,hf2⟩
 have HF2:=Hd (HAL.out.trans hf2)
 have HX2:=Hd (hf2.keep HX.out (fun h=>h))
 clear c0 c1 c2 hf2
 go_wp2_with fail
 refine(HN10 _).out.mono ?_
 rintro e w3 ⟨rfl,hf3,hv3⟩
 have hx3:=hf3.keep HX2.out (fun h=>h)
 have HF3:=Hd (HF2.out.trans hf3)
 have HV3:=Hd hv3
 have hs2:w.heap.size≤w2.heap.size:=HF2.out.size
 generalize w2.heap.size=V at*
 clear hf3 hv3
 go_upto_region 7 with fail
 generalize hzz:w.heap.size=z at*
 have HZZ:=Hd hzz
 clear hzz
 have HKP:=Hd (show∀W,Fr (fun _=>False) w3 W→W.cell? ⟨z,0,none⟩=some (.int .i64 0)∧W.cell? ⟨z,1,none⟩=some (.int .i64 0)∧W.cell? ⟨z,2,none⟩=some (.int .i64 0) from fun W hf=>by
  have h:=hf.keep hx3 (fun h=>h)
  exact⟨cell_in h rfl,cell_in h rfl,cell_in h rfl⟩)
 have HR:=Hd (Fr.refl (fun _=>False) w3).drew
 have HSC:=Hd (HKP.out _ HR.out)
 clear hx3
 go_region_held3 (fun w'=>w'.cell? ⟨z,0,none⟩=some (.int .i64 0)∧w'.cell? ⟨z,1,none⟩=some (.int .i64 0)∧w'.cell? ⟨z,2,none⟩=some (.int .i64 0)) (first|with_reducible exact HSC.out|(refine HKP.out _ ?_;exact HR.out.alloc _)) ((first
  | (go_at_call 71
     with_reducible refine(new12_calls _).mono ?_
     rintro e wc ⟨rfl,hfrc⟩
     have HR:=Hd (HR.out.trans hfrc)
     have HSC:=Hd (HKP.out _ HR.out)
     clear hfrc)
  | (go_at_call 72
     with_reducible refine(enew7_calls _).mono ?_
     rintro e wc ⟨eb,qv,rfl,hfrc,hq,hE,hv⟩
     have HQ:=Hd hq
     have HQN:=Hd (And.intro (Nat.le_trans HR.out.size hE) (fun k(hk:qv.ownBlock=some k)=>Nat.le_trans HR.out.size (hv k hk)))
     clear hq hE hv
     have HR:=Hd (HR.out.trans hfrc)
     have HSC:=Hd (HKP.out _ HR.out)
     clear hfrc)))
 have hf8:=(Fr.refl (fun _=>False) wc).alloc (.cells #[.int .i64 0,.int .i64 0,.int .i64 0,ptr V,.int .i64 0,.int .i64 1,.int .i64 1,.int .i64 1,.int .i64 1,.map none,ptr eb] 93)
 have hk8:=heap_alloc_new wc (.cells #[.int .i64 0,.int .i64 0,.int .i64 0,ptr V,.int .i64 0,.int .i64 1,.int .i64 1,.int .i64 1,.int .i64 1,.map none,ptr eb] 93)
 have HF8:=Hd (HR.out.trans hf8)
 have HQ8:=Hd (QR.keep HQ.out hf8 (fun h=>h) (fun _ _ h=>h))
 have hQl:=(show eb<wc.heap.size∧∀k,qv.ownBlock=some k→k<wc.heap.size from⟨lt_of_block HQ.out.box,fun k hk=>(World.ownsRow.lt HQ.out.own k hk).2⟩)
 have hK3:w3.heap.size≤wc.heap.size:=HR.out.size
 have hVl:=lt_of_block HV3.out
 have hKz:=HR.out.size
 generalize hKK:wc.heap.size=K at*
 generalize hw8:wc.alloc (.cells #[.int .i64 0,.int .i64 0,.int .i64 0,ptr V,.int .i64 0,.int .i64 1,.int .i64 1,.int .i64 1,.int .i64 1,.map none,ptr eb] 93)=W8 at*
 have HK8:=Hd hk8
 have hK8:K<W8.heap.size:=lt_of_block hk8
 have p9:W8.cell? ⟨K,9,none⟩=some (.map none):=cell_in (i:=9) hk8 rfl
 have pf:=frozen_in hk8 9
 have hal:=(Fr.refl (fun _=>False) W8).alloc (.map #[] 0)
 have q9:(W8.alloc (.map #[] 0)).cell? ⟨K,9,none⟩=some (.map none):=cell_in (i:=9) (hal.keep hk8 (fun h=>h)) rfl
 have qf:=frozen_in (hal.keep hk8 (fun h=>h)) 9
 have HKZ:=Hd (And.intro hKz hVl)
 have HQL:=Hd (And.intro hQl hK3)
 clear hQl hK3
 clear hk8 hf8 hw8 hKK hal HSC HKP HN10 HPB hKz
 go_wp2_with fail
 go_ret2
 have h9:(W8.setCell ⟨K,9,none⟩ (.map (some W8.heap.size))).heap[K]? =some (.cells #[.int .i64 0,.int .i64 0,.int .i64 0,ptr V,.int .i64 0,.int .i64 1,.int .i64 1,.int .i64 1,.int .i64 1,.map (some W8.heap.size),ptr eb] 93 (0,0)):=set_in HK8.out 9 _
 have f9:Fr (fun k=>k=K) W8 (W8.setCell ⟨K,9,none⟩ (.map (some W8.heap.size))):=Fr.one W8 K 9 _
 have hkm:=KM.made (W8.setCell ⟨K,9,none⟩ (.map (some W8.heap.size)))
 have hsz:(W8.setCell ⟨K,9,none⟩ (.map (some W8.heap.size))).heap.size=W8.heap.size:=by simp
 rw[hsz] at hkm
 have fal:=(Fr.refl (fun _=>False) (W8.setCell ⟨K,9,none⟩ (.map (some W8.heap.size)))).alloc (.map #[] 0)
 have hs3:=HF3.out.size
 have hs8:=HF8.out.size
 have hkz:=HKZ.out
 have hzz:=HZZ.out
 have hV9:=fal.keep (f9.keep (HF8.out.keep HV3.out (fun h=>h)) (fun(e:V=K)=>by omega)) (fun h=>h)
 have hql:=HQL.out.1
 have hqn:=HQN.out
 have hqe:QR (World.alloc (W8.setCell ⟨K,9,none⟩ (.map (some W8.heap.size))) (.map #[] 0)) eb qv En.K.new.bytes En.K.new.r En.K.new.s:=QR.keep (QR.keep HQ8.out f9 (fun(e:eb=K)=>by omega) (fun k hk(e:k=K)=>by have:=hql.2 k hk;omega)) fal (fun h=>h) (fun _ _ h=>h)
 refine⟨⟨0,K,0,V,W8.heap.size,ptr eb,.slice none 0 0,.slice none 0 0,[]⟩,eb,qv,rfl,((HF3.out.trans HF8.out).trans' f9 (fun k hk(e:k=K)=>by omega)).trans fal,⟨⟨fal.keep h9 (fun h=>h),hV9,World.ownsRow_nil _ _ _ _,⟨hkm,by simp,by simp⟩,Has.start _ (fun j hj p hp=> ?_),⟨by simp,by simp,S.new_ok⟩,fun j hj=>Lz.fresh_len 0 0 j,fun j hj p hp=> ?_,h1,Nat.zero_le _⟩,hqe,rfl,fun k hk=>by simp[Value.ownBlock]⟩,fun k hk=> ?_⟩
 ·simp only[Lz.fresh,List.mem_replicate] at hp
  exact hp.2
 ·simp only[Lz.fresh,List.mem_replicate] at hp
  omega
 ·rcases hk with(hk|hk|hk|hk|⟨e,he,_⟩)|hk|hk
  ·simp only at hk
   omega
  ·simp only at hk
   omega
  ·simp[Value.ownBlock] at hk
  ·simp only at hk
   omega
  ·cases he
  ·omega
  ·have:=hqn.2 k hk
   omega
theorem new10_bad(size:Int)(h:size<1∨4294967295<size)(w:World):Calls Tryz.prog 70 #[.int .i64 size] w fun e w'=>e=.returned (.tuple #[.pointer none,.int .i64 7])∧Fr (fun _=>False) w w':=by
 by_cases h1:size<1
 ·have t1:decide (size<1)=true:=decide_eq_true h1
  go_enter Tryz.func70,Tryz.ntmps70
  go_wp2_with fail
  go_ret2
  exact⟨rfl,Fr.refl _ _⟩
 ·have t1:decide (size<1)=false:=decide_eq_false h1
  have t2:decide (size>4294967295)=true:=decide_eq_true (by omega)
  have t3:decide ((4294967295:Int)<size)=true:=decide_eq_true (by omega)
  go_enter Tryz.func70,Tryz.ntmps70
  go_wp2_with fail
  go_ret2
  exact⟨rfl,Fr.refl _ _⟩
theorem new14_bad(dict:Int)(h:dict<1∨4294967295<dict)(w:World):Calls Tryz.prog 30 #[propV 0 0 0,.int .i64 dict] w fun e w'=>e=.returned (.tuple #[.pointer none,.int .i64 7])∧Fr (fun _=>False) w w':=by
 have hx:=heap_alloc_new w (.cells #[.int .i64 0,.int .i64 0,.int .i64 0] 24)
 have HAL:=Hd ((Fr.refl (fun _=>False) w).alloc (.cells #[.int .i64 0,.int .i64 0,.int .i64 0] 24))
 obtain⟨c0,c1,c2⟩:=cs3 hx rfl rfl rfl
 have HPB:=fun W=>Hd (show Calls Tryz.prog 69 #[.agg #[.int .i64 0,.int .i64 0,.int .i64 0]] W _ from propsByte_calls 0 0 0 (by decide) (by decide) W)
 have HN10:=fun W=>Hd (new10_bad dict h W)
 clear hx h
 unfold propV
 go_enter Tryz.func30,Tryz.ntmps30
 go_wp2_with fail
 refine(HPB _).out.mono ?_
 rintro e w2 ⟨rfl,hf2⟩
 have HF2:=Hd (HAL.out.trans hf2)
 clear c0 c1 c2 hf2
 go_wp2_with fail
 refine(HN10 _).out.mono ?_
 rintro e w3 ⟨rfl,hf3⟩
 have HF3:=Hd (HF2.out.trans hf3)
 clear hf3
 go_wp2_with fail
 go_ret2
 exact⟨rfl,HF3.out⟩
structure Nxt(w:World)(l:RL)(E:Nat)(v:Value)(w':World)(l':RL)(E':Nat)(v':Value):Prop where
 fr:Fr (ECF l E v) w w'
 gr:∀k,ECF l' E' v' k→ECF l E v k∨w.heap.size≤k
 k:l'.K=l.K
theorem Nxt.refl(w:World)(l:RL)(E:Nat)(v:Value):Nxt w l E v w l E v:=⟨Fr.refl _ _,fun _ h=>.inl h,rfl⟩
theorem Nxt.trans{w w1 w2:World}{l l1 l2:RL}{E E1 E2:Nat}{v v1 v2:Value}(h:Nxt w l E v w1 l1 E1 v1)(g:Nxt w1 l1 E1 v1 w2 l2 E2 v2):Nxt w l E v w2 l2 E2 v2:=
 ⟨h.fr.trans' g.fr (fun i hi hk=>by
  rcases h.gr i hk with h|h
  ·exact h
  ·omega),fun k hk=>by
  rcases g.gr k hk with h1|h1
  ·exact h.gr k h1
  ·exact .inr (Nat.le_trans h.fr.size h1),g.k.trans h.k⟩
theorem Nxt.keep{w w1 w2:World}{l l1:RL}{E E1:Nat}{v v1:Value}(h:Nxt w l E v w1 l1 E1 v1)(hf:Fr (fun _=>False) w1 w2):Nxt w l E v w2 l1 E1 v1:=⟨h.fr.trans' hf (fun _ _ h=>h.elim),h.gr,h.k⟩
theorem ereset_calls{w:World}{l:RL}{E:Nat}{v:Value}{c:C}{e:Es}(h:EC w l E v c e)(lc lp pb:Nat)(hl:lc+lp≤4)(hp:pb≤4):
 Calls Tryz.prog 33 #[ptr l.K,propV lc lp pb] w fun r w'=>r=.returned (.int .i64 0)∧∃l',EC w' l' E v (c.fresh lc lp pb) ⟨e.k,Lz.fresh lc lp⟩∧Nxt w l E v w' l' E v:=by
 refine(Rf.reset_calls h.cod lc lp pb hl hp).mono ?_
 rintro r w' ⟨rfl,hf,M',hM,hc⟩
 have hEK:∀k,EF E v k→¬k=l.K:=fun k hk e=>h.sep hk (.inl e)
 refine⟨rfl,_,⟨hc,QR.keep h.q hf (hEK _ (.inl rfl)) (fun k hk=>hEK k (.inr hk)),h.ev,h.ap⟩,hf.mono (fun k _ e=>.inl (.inl e)),?_,rfl⟩
 rintro k ((hk|hk|hk|hk|⟨e,he,_⟩)|hk)
 ·exact .inl (.inl (.inl hk))
 ·exact .inl (.inl (.inr (.inl hk)))
 ·exact .inl (.inl (.inr (.inr (.inl hk))))
 ·exact .inr (by rw[hk];exact hM)
 ·cases he
 ·exact .inl (.inr hk)
theorem eclear_calls{w:World}{l:RL}{E:Nat}{v:Value}{c:C}{e:Es}(h:EC w l E v c e):
 Calls Tryz.prog 50 #[ptr l.K] w fun r w'=>r=.returned (.tuple #[])∧∃l',EC w' l' E v {c.fresh c.lc c.lp c.pb with all:=[]} ⟨e.k,Lz.fresh c.lc c.lp⟩∧Nxt w l E v w' l' E v:=by
 refine(Rf.clear14_calls h.cod).mono ?_
 rintro r w' ⟨rfl,hf,M',hM,hc⟩
 have hEK:∀k,EF E v k→¬(k=l.K∨k=l.V):=fun k hk e=>h.sep hk (e.imp id .inl)
 refine⟨rfl,_,⟨hc,QR.keep h.q hf (hEK _ (.inl rfl)) (fun k hk=>hEK k (.inr hk)),h.ev,fun k _=>by simp[Value.ownBlock]⟩,hf.mono (fun k _ e=>.inl (e.imp id .inl)),?_,rfl⟩
 rintro k ((hk|hk|hk|hk|⟨e,he,_⟩)|hk)
 ·exact .inl (.inl (.inl hk))
 ·exact .inl (.inl (.inr (.inl hk)))
 ·simp[Value.ownBlock] at hk
 ·exact .inr (by rw[hk];exact hM)
 ·cases he
 ·exact .inl (.inr hk)
theorem eraw_calls{w:World}{l:RL}{E:Nat}{v:Value}{c:C}{e:Es}(h:EC w l E v c e)(xv:Value)(xs:List UInt8)(hr:Rd w xv xs)(hb:c.all.length+xs.length≤70368744177664):
 Calls Tryz.prog 39 #[ptr l.K,xv] w fun r w'=>r=.returned (.tuple #[])∧∃l',EC w' l' E v (c.on xs) e∧Nxt w l E v w' l' E v:=by
 have k3:w.cell? ⟨l.K,3,none⟩=some (ptr l.V):=cell_in h.cod.k rfl
 have HP:=Hd (Rf.put_calls l.V c.size l.av xv c.all xs w ⟨h.cod.v,h.cod.all⟩ hr hb)
 have hr0:=hr
 obtain⟨xp,xc,rfl,_⟩:=hr0
 have H:=Hd h
 clear h hr
 go_enter Tryz.func39,Tryz.ntmps39
 go_wp2_with fail
 refine HP.out.mono ?_
 rintro r w2 ⟨rfl,av2,hW,hf,hn⟩
 have HW:=Hd hW
 have HF:=Hd hf
 have HN:=Hd hn
 clear hW hf hn HP
 go_wp2_with fail
 go_end0
 have h:=H.out
 have hEV:∀k,EF E v k→¬(k=l.V∨l.av.ownBlock=some k):=fun k hk e=>h.sep hk (by rcases e with e|e;exact .inr (.inl e);exact .inr (.inr (.inl e)))
 have hKV:¬(l.K=l.V∨l.av.ownBlock=some l.K):=by
  rintro(e|e)
  ·exact blk_ne h.cod.k h.cod.v (by decide) e
  ·obtain⟨cur,hc⟩:=own_blk h.cod.all e
   exact blk_ne h.cod.k hc (by decide) rfl
 refine⟨rfl,{l with av:=av2},⟨⟨HF.out.keep h.cod.k hKV,HW.out.v,HW.out.own,h.cod.sets.step HF.out (fun k hk e=> ?_),h.cod.has,⟨h.cod.okc.l,h.cod.okc.pb,h.cod.okc.s⟩,h.cod.len,h.cod.okp,h.cod.size,by show(c.all++xs).length≤_;rw[List.length_append];exact hb⟩,QR.keep h.q HF.out (hEV _ (.inl rfl)) (fun k hk=>hEV k (.inr hk)),h.ev,fun k hk e=> ?_⟩,HF.out.mono (fun k _ e=> ?_),?_,rfl⟩
 ·rcases e with e|e
  ·exact h.cod.sfV (by rw[←e];exact hk)
  ·exact h.cod.sfA k e hk
 ·rcases HN.out k e with h1|h1
  ·exact h.ap k hk h1
  ·have:=h.old k (.inr (.inr hk))
   omega
 ·rcases e with e|e
  ·exact .inl (.inr (.inl e))
  ·exact .inl (.inr (.inr (.inl e)))
 ·rintro k ((hk|hk|hk|hk)|hk)
  ·exact .inl (.inl (.inl hk))
  ·exact .inl (.inl (.inr (.inl hk)))
  ·rcases HN.out k hk with h1|h1
   ·exact .inl (.inl (.inr (.inr (.inl h1))))
   ·exact .inr h1
  ·exact .inl (.inl (.inr (.inr (.inr hk))))
  ·exact .inl (.inr hk)
theorem ecut_calls{w:World}{l:RL}{E:Nat}{v:Value}{c:C}{e:Es}(h:EC w l E v c e)(hs:e.k.s≤1099511627000):
 Calls Tryz.prog 36 #[ptr l.K] w fun r w'=>∃bv l' E' v',r=.returned bv∧Mine w w' bv e.k.bytes∧EC w' l' E' v' c ⟨K.new,e.ps⟩∧Nxt w l E v w' l' E' v'∧∀k,bv.ownBlock=some k→¬ECF l' E' v' k:=by
 have k10:w.cell? ⟨l.K,10,none⟩=some (ptr E):=by rw[←h.ev];exact cell_in (i:=10) h.cod.k rfl
 have HB:=Hd (rbytes_calls h.q hs)
 have H:=Hd h
 clear h
 go_enter Tryz.func36,Tryz.ntmps36
 go_wp2_with fail
 refine HB.out.mono ?_
 rintro r w2 ⟨bv,rfl,hf2,hm2⟩
 obtain⟨bp,bc,rfl⟩:=hm2.slice
 have HM2:=Hd hm2
 have HF2:=Hd hf2
 have HE2:=Hd (H.out.keep hf2)
 clear hf2 hm2 k10 HB
 go_wp2_with fail
 refine(enew7_calls _).mono ?_
 rintro r w3 ⟨E',v',rfl,hf3,hq3,hE3,hv3⟩
 have h3:=HE2.out.keep hf3
 have k10:w3.cell? ⟨l.K,10,none⟩=some (ptr E):=by rw[←h3.ev];exact cell_in (i:=10) h3.cod.k rfl
 have kf:=frozen_in h3.cod.k 10
 have HQ3:=Hd hq3
 have HF3:=Hd (HF2.out.trans hf3)
 have HM3:=Hd (HM2.out.keep hf3)
 have HEN:=Hd (And.intro hE3 hv3)
 have H3:=Hd h3
 clear hf3 hq3 hE3 hv3 h3
 go_wp2_with fail
 go_ret
 have h:=H.out
 have h3:=H3.out
 have hen:=HEN.out
 have hs2:=HF2.out.size
 have hlk:=lt_of_block h.cod.k
 have hlm2:=fun k hk=>(World.ownsRow.lt HM2.out.own k hk).2
 have f1:=Fr.one w3 l.K 10 (ptr E')
 have hk:=set_in h3.cod.k 10 (ptr E')
 have hVK:¬l.V=l.K:=fun e=>blk_ne h.cod.v h.cod.k (by decide) e
 refine⟨_,{l with ev:=ptr E'},E',v',rfl,HM3.out.step f1 (fun k hk(e:k=l.K)=> ?_),⟨⟨hk,f1.keep h3.cod.v hVK,own_step h3.cod.all f1 (fun k hk(e:k=l.K)=> ?_),h3.cod.sets.step f1 (fun k hk(e:k=l.K)=>h3.cod.sfK (by rw[←e];exact hk)),h3.cod.has,h3.cod.okc,h3.cod.len,h3.cod.okp,h3.cod.size,h3.cod.much⟩,QR.keep HQ3.out f1 (fun(e:E'=l.K)=>by omega) (fun k hk(e:k=l.K)=>by have:=hen.2 k hk;omega),rfl,fun k hk e=> ?_⟩,⟨(HF3.out.mono (T:=ECF l E v) (fun _ _ h=>h.elim)).trans (f1.mono (fun k _ e=>.inl (.inl e))),?_,rfl⟩,fun k hk hx=> ?_⟩
 ·have:=HM2.out.new k hk
  omega
 ·obtain⟨cur,hc⟩:=own_blk h.cod.all hk
  exact blk_ne hc h.cod.k (by decide) e
 ·have h1:=h.cod.old k (.inr (.inr (.inl e)))
  have h2:=hen.2 k hk
  omega
 ·rintro k (hk|hk|hk)
  ·exact .inl (.inl hk)
  ·exact .inr (by omega)
  ·exact .inr (by have:=hen.2 k hk;omega)
 ·have h1:=HM2.out.new k hk
  have h2:=hlm2 k hk
  rcases hx with hx|hx|hx
  ·have:=h.cod.old k hx
   omega
  ·omega
  ·have:=hen.2 k hx
   omega
end Rf
namespace Rf
open Mem Rc Prob St Lz Win En Ga Ck
theorem bad_of{lc lp pb:Int}(h:¬(0≤lc∧0≤lp∧0≤pb∧lc≤4∧lp≤4∧lc+lp≤4∧pb≤4)):propsBad lc lp pb=true:=by
 unfold propsBad
 rw[decide_eq_true_eq]
 omega
theorem bad_not{lc lp pb:Int}(h:0≤lc∧0≤lp∧0≤pb∧lc≤4∧lp≤4∧lc+lp≤4∧pb≤4):propsBad lc lp pb=false:=by
 unfold propsBad
 rw[decide_eq_false_iff_not]
 omega
theorem allowed_any(lc lp pb:Int)(w:World):Calls Tryz.prog 29 #[.agg #[.int .i64 lc,.int .i64 lp,.int .i64 pb]] w fun e w'=>e=.returned (.bool (!propsBad lc lp pb))∧Fr (fun _=>False) w w':=by
 have HF:=Hd ((Fr.refl (fun _=>False) w).alloc (.cells #[.int .i64 lc,.int .i64 lp,.int .i64 pb] 24))
 have hx:=heap_alloc_new w (.cells #[.int .i64 lc,.int .i64 lp,.int .i64 pb] 24)
 obtain⟨c0,c1,c2⟩:=cs3 hx rfl rfl rfl
 clear hx
 obtain⟨r,hr⟩:∃r,r= !propsBad lc lp pb:=⟨_,rfl⟩
 rw[←hr]
 by_cases hall:0≤lc∧0≤lp∧0≤pb∧lc≤4∧lp≤4∧lc+lp≤4∧pb≤4
 ·rw[bad_not hall] at hr
  obtain⟨b0,b1,b2,b3,b4,b5,b6⟩:=hall
  have a0:decide (lc≥0)=true:=decide_eq_true b0
  have a0':decide (0≤lc)=true:=decide_eq_true b0
  have a1:decide (lp≥0)=true:=decide_eq_true b1
  have a1':decide (0≤lp)=true:=decide_eq_true b1
  have a2:decide (pb≥0)=true:=decide_eq_true b2
  have a2':decide (0≤pb)=true:=decide_eq_true b2
  have a3:decide (lc≤4)=true:=decide_eq_true b3
  have a4:decide (lp≤4)=true:=decide_eq_true b4
  have a5:decide (lc+lp≤4)=true:=decide_eq_true b5
  have a6:decide (pb≤4)=true:=decide_eq_true b6
  subst hr
  go_enter Tryz.func29,Tryz.ntmps29
  go_wp2_with fail
  go_ret
  exact⟨rfl,HF.out⟩
 ·rw[bad_of hall] at hr
  subst hr
  by_cases b0:0≤lc
  case neg=>
   have a0:decide (lc≥0)=false:=decide_eq_false b0
   have a0':decide (0≤lc)=false:=decide_eq_false b0
   clear hall b0
   go_enter Tryz.func29,Tryz.ntmps29
   go_wp2_with fail
   go_ret
   exact⟨rfl,HF.out⟩
  have a0:decide (lc≥0)=true:=decide_eq_true b0
  have a0':decide (0≤lc)=true:=decide_eq_true b0
  by_cases b1:0≤lp
  case neg=>
   have a1:decide (lp≥0)=false:=decide_eq_false b1
   have a1':decide (0≤lp)=false:=decide_eq_false b1
   clear hall b1
   go_enter Tryz.func29,Tryz.ntmps29
   go_wp2_with fail
   go_ret
   exact⟨rfl,HF.out⟩
  have a1:decide (lp≥0)=true:=decide_eq_true b1
  have a1':decide (0≤lp)=true:=decide_eq_true b1
  by_cases b2:0≤pb
  case neg=>
   have a2:decide (pb≥0)=false:=decide_eq_false b2
   have a2':decide (0≤pb)=false:=decide_eq_false b2
   clear hall b2
   go_enter Tryz.func29,Tryz.ntmps29
   go_wp2_with fail
   go_ret
   exact⟨rfl,HF.out⟩
  have a2:decide (pb≥0)=true:=decide_eq_true b2
  have a2':decide (0≤pb)=true:=decide_eq_true b2
  by_cases b3:lc≤4
  case neg=>
   have a3:decide (lc≤4)=false:=decide_eq_false b3
   clear hall b3
   go_enter Tryz.func29,Tryz.ntmps29
   go_wp2_with fail
   go_ret
   exact⟨rfl,HF.out⟩
  have a3:decide (lc≤4)=true:=decide_eq_true b3
  by_cases b4:lp≤4
  case neg=>
   have a4:decide (lp≤4)=false:=decide_eq_false b4
   clear hall b4
   go_enter Tryz.func29,Tryz.ntmps29
   go_wp2_with fail
   go_ret
   exact⟨rfl,HF.out⟩
  have a4:decide (lp≤4)=true:=decide_eq_true b4
  by_cases b5:lc+lp≤4
  case neg=>
   have a5:decide (lc+lp≤4)=false:=decide_eq_false b5
   clear hall b5
   go_enter Tryz.func29,Tryz.ntmps29
   go_wp2_with fail
   go_ret
   exact⟨rfl,HF.out⟩
  have a5:decide (lc+lp≤4)=true:=decide_eq_true b5
  have a6:decide (pb≤4)=false:=decide_eq_false (by omega)
  clear hall
  go_enter Tryz.func29,Tryz.ntmps29
  go_wp2_with fail
  go_ret
  exact⟨rfl,HF.out⟩
theorem u8_fact{x:Nat}(h:x<256):IntKind.u8.wrap (x:Int)=(x:Int)∧(UInt8.ofNat x).toNat=x:=⟨by rw[IntKind.wrap_u8];omega,toN h⟩
theorem mine_blk{w0 w:World}{B n:Nat}{xs:List UInt8}{cs:Array Value}(hB:w.heap[B]? =some (.cells cs 5 (0,0)))(hc:cs=(bvs xs).toArray)(hn:n=xs.length)(hle:w0.heap.size≤B)(hl:xs.length≤1000):Mine w0 w (.slice (some ⟨B,0,none⟩) n n) xs:=by
 subst hn hc
 refine⟨⟨by simp[bvs],.inr ⟨B,xs.length,_,rfl,Nat.zero_le _,hB,Nat.le_refl _,by simp only[maxLen];omega,by simp[bvs],?_⟩⟩,fun k hk=> ?_⟩
 ·show(bvs xs).take (xs.length*1)=bvs xs
  exact List.take_of_length_le (by simp[bvs])
 ·rw[←Option.some.inj hk]
  exact hle
theorem tmod_fact(x q:Nat):(x:Int).tmod (q:Int)=((x%q:Nat):Int):=by rw[Int.tmod_eq_emod_of_nonneg (Int.natCast_nonneg _)];rfl
def HeadP(w:World)(H:Head)(e:Ending)(w':World):Prop:=Fr (fun _=>False) w w'∧∃v,e=.returned (.tuple #[v,.int .i64 0])∧Mine w w' v (headB H)
set_option maxRecDepth 100000 in
theorem put17_raw(k m:Nat)(lc lp pb:Int)(hk:k=1∨k=2)(hm:m<65536)(w:World):
 Calls Tryz.prog 37 #[.agg #[.int .i64 k,.int .i64 (m+1:Nat),.int .i64 (m+1:Nat),.int .i64 lc,.int .i64 lp,.int .i64 pb]] w (HeadP w ⟨k,m+1,m+1,0,0,0⟩):=by
 have hx:=heap_alloc_new w (.cells #[.int .i64 k,.int .i64 (m+1:Nat),.int .i64 (m+1:Nat),.int .i64 lc,.int .i64 lp,.int .i64 pb] 47)
 have HF:=Hd ((Fr.refl (fun _=>False) w).alloc (.cells #[.int .i64 k,.int .i64 (m+1:Nat),.int .i64 (m+1:Nat),.int .i64 lc,.int .i64 lp,.int .i64 pb] 47))
 obtain⟨y0,y1,y2⟩:=cs3 hx rfl rfl rfl
 clear hx
 obtain⟨a,ha⟩:∃a,a=m/256:=⟨_,rfl⟩
 obtain⟨b,hb⟩:∃b,b=m%256:=⟨_,rfl⟩
 have hab:a<256∧b<256:=by omega
 have f1:(m:Int)/256=(a:Int):=by rw[ha];rfl
 have f2:(m:Int).tmod 256=(b:Int):=by rw[hb];exact tmod_fact m 256
 have u1:=(u8_fact hab.1).1
 have u2:=(u8_fact hab.2).1
 have HH:=Hd (show headB ⟨k,m+1,m+1,0,0,0⟩=[UInt8.ofNat k,UInt8.ofNat a,UInt8.ofNat b] by
  unfold headB
  rw[if_neg (by simp only;omega),if_pos (by simp only;omega),ha,hb]
  rfl)
 have HB:=Hd (show(bvs [UInt8.ofNat k,UInt8.ofNat a,UInt8.ofNat b]).toArray=#[.int .u8 (k:Int),.int .u8 (a:Int),.int .u8 (b:Int)] by
  simp only[bvs,bv,List.map_cons,List.map_nil,toN (show k<256 by omega),toN hab.1,toN hab.2])
 have em:((m+1:Nat):Int)-1=(m:Int):=by omega
 clear ha hb
 generalize hm1:m+1=m1 at*
 have g1:decide ((m1:Int)<1)=false:=decide_eq_false (by omega)
 have g2:decide ((m1:Int)>65536)=false:=decide_eq_false (by omega)
 have g3:decide ((65536:Int)<(m1:Int))=false:=decide_eq_false (by omega)
 have g4:((m1:Int) !=(m1:Int))=false:=by simp
 clear hm1
 rcases hk with rfl|rfl
 all_goals
  go_enter Tryz.func37,Tryz.ntmps37
  go_wp2_with fail
  go_ret2
  refine⟨HF.out.alloc _,_,rfl,?_⟩
  rw[HH.out]
  exact mine_blk (alloc2 w _ _) HB.out.symm rfl (Nat.le_succ _) (by simp)
set_option maxRecDepth 100000 in
theorem put17_same(k n m:Nat)(lc lp pb:Int)(hk:k=3∨k=4)(hn:n<2097152)(hm:m<65536)(w:World):
 Calls Tryz.prog 37 #[.agg #[.int .i64 k,.int .i64 (n+1:Nat),.int .i64 (m+1:Nat),.int .i64 lc,.int .i64 lp,.int .i64 pb]] w (HeadP w ⟨k,n+1,m+1,0,0,0⟩):=by
 have hx:=heap_alloc_new w (.cells #[.int .i64 k,.int .i64 (n+1:Nat),.int .i64 (m+1:Nat),.int .i64 lc,.int .i64 lp,.int .i64 pb] 47)
 have HF:=Hd ((Fr.refl (fun _=>False) w).alloc (.cells #[.int .i64 k,.int .i64 (n+1:Nat),.int .i64 (m+1:Nat),.int .i64 lc,.int .i64 lp,.int .i64 pb] 47))
 obtain⟨y0,y1,y2⟩:=cs3 hx rfl rfl rfl
 clear hx
 obtain⟨q,hq⟩:∃q,q=n/65536:=⟨_,rfl⟩
 obtain⟨a0,ha0⟩:∃a,a=n/256:=⟨_,rfl⟩
 obtain⟨a,ha⟩:∃a,a=a0%256:=⟨_,rfl⟩
 obtain⟨b,hb⟩:∃b,b=n%256:=⟨_,rfl⟩
 obtain⟨c,hc⟩:∃a,a=m/256:=⟨_,rfl⟩
 obtain⟨d,hd⟩:∃b,b=m%256:=⟨_,rfl⟩
 obtain⟨F,hF⟩:∃F,F=128+32*(k-3)+q:=⟨_,rfl⟩
 have hab:F<256∧a<256∧b<256∧c<256∧d<256:=by omega
 have f0:(n:Int)/65536=(q:Int):=by rw[hq];rfl
 have f1:(n:Int)/256=(a0:Int):=by rw[ha0];rfl
 have f2:(a0:Int).tmod 256=(a:Int):=by rw[ha];exact tmod_fact a0 256
 have f3:(n:Int).tmod 256=(b:Int):=by rw[hb];exact tmod_fact n 256
 have f4:(m:Int)/256=(c:Int):=by rw[hc];rfl
 have f5:(m:Int).tmod 256=(d:Int):=by rw[hd];exact tmod_fact m 256
 have u1:=(u8_fact hab.1).1
 have u2:=(u8_fact hab.2.1).1
 have u3:=(u8_fact hab.2.2.1).1
 have u4:=(u8_fact hab.2.2.2.1).1
 have u5:=(u8_fact hab.2.2.2.2).1
 have HH:=Hd (show headB ⟨k,n+1,m+1,0,0,0⟩=[UInt8.ofNat F,UInt8.ofNat a,UInt8.ofNat b,UInt8.ofNat c,UInt8.ofNat d] by
  unfold headB
  rw[if_neg (by simp only;omega),if_neg (by simp only;omega),if_pos (by simp only;omega),hF,ha,ha0,hb,hc,hd,hq]
  rfl)
 have HB:=Hd (show(bvs [UInt8.ofNat F,UInt8.ofNat a,UInt8.ofNat b,UInt8.ofNat c,UInt8.ofNat d]).toArray=#[.int .u8 (F:Int),.int .u8 (a:Int),.int .u8 (b:Int),.int .u8 (c:Int),.int .u8 (d:Int)] by
  simp only[bvs,bv,List.map_cons,List.map_nil,toN hab.1,toN hab.2.1,toN hab.2.2.1,toN hab.2.2.2.1,toN hab.2.2.2.2])
 have em:((n+1:Nat):Int)-1=(n:Int):=by omega
 have em2:((m+1:Nat):Int)-1=(m:Int):=by omega
 have hFe:(128:Int)+32*((k:Int)-3)+(q:Int)=(F:Int):=by omega
 clear ha ha0 hb hc hd hq hF
 generalize hn1:n+1=n1 at*
 generalize hm1:m+1=m1 at*
 have g1:decide ((n1:Int)<1)=false:=decide_eq_false (by omega)
 have g2:decide ((n1:Int)>2097152)=false:=decide_eq_false (by omega)
 have g3:decide ((2097152:Int)<(n1:Int))=false:=decide_eq_false (by omega)
 have g4:decide ((m1:Int)<1)=false:=decide_eq_false (by omega)
 have g5:decide ((m1:Int)>65536)=false:=decide_eq_false (by omega)
 have g6:decide ((65536:Int)<(m1:Int))=false:=decide_eq_false (by omega)
 clear hn1 hm1
 rcases hk with rfl|rfl
 all_goals
  first
   |have hFe2:(128:Int)+(q:Int)=(F:Int):=by omega
   |have hFe2:(160:Int)+(q:Int)=(F:Int):=by omega
  clear hFe
  go_enter Tryz.func37,Tryz.ntmps37
  go_wp2_with fail
  go_ret2
  refine⟨HF.out.alloc _,_,rfl,?_⟩
  rw[HH.out]
  exact mine_blk (alloc2 w _ _) HB.out.symm rfl (Nat.le_succ _) (by simp)
set_option maxRecDepth 100000 in
theorem put17_props(k n m lc lp pb:Nat)(hk:k=5∨k=6)(hn:n<2097152)(hm:m<65536)(hl:lc+lp≤4)(hp:pb≤4)(w:World):
    Calls Tryz.prog 37 #[.agg #[.int .i64 k,.int .i64 (n+1:Nat),.int .i64 (m+1:Nat),.int .i64 lc,.int .i64 lp,.int .i64 pb]] w (HeadP w ⟨k,n+1,m+1,lc,lp,pb⟩):=by
  have hx:=heap_alloc_new w (.cells #[.int .i64 k,.int .i64 (n+1:Nat),.int .i64 (m+1:Nat),.int .i64 lc,.int .i64 lp,.int .i64 pb] 47)
  have hf:=(Fr.refl (fun _=>False) w).alloc (.cells #[.int .i64 k,.int .i64 (n+1:Nat),.int .i64 (m+1:Nat),.int .i64 lc,.int .i64 lp,.int .i64 pb] 47)
  have HF:=Hd hf
  have HPB:=fun W=>Hd (show Calls Tryz.prog 69 #[.agg #[.int .i64 lc,.int .i64 lp,.int .i64 pb]] W _ from propsByte_calls lc lp pb hl hp W)
  obtain⟨q,hq⟩:∃q,q=n/65536:=⟨_,rfl⟩
  obtain⟨a0,ha0⟩:∃a,a=n/256:=⟨_,rfl⟩
  obtain⟨a,ha⟩:∃a,a=a0%256:=⟨_,rfl⟩
  obtain⟨b,hb⟩:∃b,b=n%256:=⟨_,rfl⟩
  obtain⟨c,hc⟩:∃a,a=m/256:=⟨_,rfl⟩
  obtain⟨d,hd⟩:∃b,b=m%256:=⟨_,rfl⟩
  obtain⟨g,hg⟩:∃g,g=(5*pb+lp)*9+lc:=⟨_,rfl⟩
  obtain⟨F,hF⟩:∃F,F=128+32*(k-3)+q:=⟨_,rfl⟩
  have hab:F<256∧a<256∧b<256∧c<256∧d<256:=by omega
  have hg2:g<256:=by omega
  rw[←hg] at HPB
  have f0:(n:Int)/65536=(q:Int):=by rw[hq];rfl
  have f1:(n:Int)/256=(a0:Int):=by rw[ha0];rfl
  have f2:(a0:Int).tmod 256=(a:Int):=by rw[ha];exact tmod_fact a0 256
  have f3:(n:Int).tmod 256=(b:Int):=by rw[hb];exact tmod_fact n 256
  have f4:(m:Int)/256=(c:Int):=by rw[hc];rfl
  have f5:(m:Int).tmod 256=(d:Int):=by rw[hd];exact tmod_fact m 256
  have u1:=(u8_fact hab.1).1
  have u2:=(u8_fact hab.2.1).1
  have u3:=(u8_fact hab.2.2.1).1
  have u4:=(u8_fact hab.2.2.2.1).1
  have u5:=(u8_fact hab.2.2.2.2).1
  have u6:=(u8_fact hg2).1
  have HH:=Hd (show headB ⟨k,n+1,m+1,lc,lp,pb⟩=[UInt8.ofNat F,UInt8.ofNat a,UInt8.ofNat b,UInt8.ofNat c,UInt8.ofNat d]++[UInt8.ofNat g] by
    unfold headB
    rw[if_neg (by simp only;omega),if_neg (by simp only;omega),if_neg (by simp only;omega),hF,ha,ha0,hb,hc,hd,hq,hg]
    rfl)
  have HB:=Hd (show(bvs [UInt8.ofNat F,UInt8.ofNat a,UInt8.ofNat b,UInt8.ofNat c,UInt8.ofNat d]).toArray=#[.int .u8 (F:Int),.int .u8 (a:Int),.int .u8 (b:Int),.int .u8 (c:Int),.int .u8 (d:Int)] by
    simp only[bvs,bv,List.map_cons,List.map_nil,toN hab.1,toN hab.2.1,toN hab.2.2.1,toN hab.2.2.2.1,toN hab.2.2.2.2])
  have HG:=Hd (show(g:Int)=((UInt8.ofNat g).toNat:Int) by rw[toN hg2])
  have em:((n+1:Nat):Int)-1=(n:Int):=by omega
  have em2:((m+1:Nat):Int)-1=(m:Int):=by omega
  have hFe:(128:Int)+32*((k:Int)-3)+(q:Int)=(F:Int):=by omega
  clear ha ha0 hb hc hd hq hF hg
  generalize hn1:n+1=n1 at*
  generalize hm1:m+1=m1 at*
  have g1:decide ((n1:Int)<1)=false:=decide_eq_false (by omega)
  have g2:decide ((n1:Int)>2097152)=false:=decide_eq_false (by omega)
  have g3:decide ((2097152:Int)<(n1:Int))=false:=decide_eq_false (by omega)
  have g4:decide ((m1:Int)<1)=false:=decide_eq_false (by omega)
  have g5:decide ((m1:Int)>65536)=false:=decide_eq_false (by omega)
  have g6:decide ((65536:Int)<(m1:Int))=false:=decide_eq_false (by omega)
  clear hn1 hm1
  have HM:=Hd (mine_blk (w0:=w) (xs:=[UInt8.ofNat F,UInt8.ofNat a,UInt8.ofNat b,UInt8.ofNat c,UInt8.ofNat d]) (n:=5) (alloc2 w (.cells #[.int .i64 k,.int .i64 (n1:Nat),.int .i64 (m1:Nat),.int .i64 lc,.int .i64 lp,.int .i64 pb] 47) (.cells #[.int .u8 (F:Int),.int .u8 (a:Int),.int .u8 (b:Int),.int .u8 (c:Int),.int .u8 (d:Int)] 5)) HB.out.symm rfl (Nat.le_succ _) (by simp))
  have HFB:=Hd (HF.out.alloc (.cells #[.int .u8 (F:Int),.int .u8 (a:Int),.int .u8 (b:Int),.int .u8 (c:Int),.int .u8 (d:Int)] 5))
  rcases hk with rfl|rfl
  all_goals
    first
      |have hFe2:(192:Int)+(q:Int)=(F:Int):=by omega
      |have hFe2:(224:Int)+(q:Int)=(F:Int):=by omega
    clear hFe
    obtain⟨y0,y1,y2⟩:=cs3 hx rfl rfl rfl
    have hx2:=((Fr.refl (fun _=>False) _).alloc (.cells #[.int .u8 (F:Int),.int .u8 (a:Int),.int .u8 (b:Int),.int .u8 (c:Int),.int .u8 (d:Int)] 5)).keep hx (fun h=>h)
    have z0:=cell_in (i:=0) hx2 rfl
    have z3:=cell_in (i:=3) hx2 rfl
    have z4:=cell_in (i:=4) hx2 rfl
    have z5:=cell_in (i:=5) hx2 rfl
    clear hx hx2 hf
    go_enter Tryz.func37,Tryz.ntmps37
    go_wp2_with fail
    refine(HPB _).out.mono ?_
    rintro e w2 ⟨rfl,hf2⟩
    have HM2:=Hd (HM.out.keep hf2)
    have HF2:=Hd (HFB.out.trans hf2)
    have hA:=(Fr.refl (fun _=>False) w2).alloc (.cells #[.int .u8 (g:Int)] 5)
    have HA:=Hd hA
    have HR:=Hd (rd_one w2 w2.heap.size rfl (UInt8.ofNat g) (g:Int) HG.out)
    have HM3:=Hd (HM2.out.keep hA)
    clear hf2 hA y0 y1 y2 z0 z3 z4 z5
    go_wp2_with (at_builtin
                 refine append_mine rfl _ _ rfl (w0:=w) (.slice (some ⟨w.heap.size+1,0,none⟩) 5 5) (.slice (some ⟨w2.heap.size,0,none⟩) 1 1) _ [UInt8.ofNat g] rfl rfl HM3.out (Nat.le_trans HF2.out.size HA.out.size) HR.out (by simp) ?_
                 intro p5 cap5 n5 w5 hn5 hM5 hfr5 _
                 have HM5:=Hd hM5
                 have HF5:=Hd ((HF2.out.trans HA.out).trans' hfr5 (fun i h1 h2=>by have:=HM3.out.new i h2;omega))
                 clear hM5 hfr5 hn5)
    go_ret2
    exact⟨HF5.out,_,rfl,by rw[HH.out];exact HM5.out⟩
end Rf
end Go.Proofs.YtlgccpjccopdmaaGreatDoor
