/- Part 11 of 48: lemmas of the last part, each under the conditions that it names. -/
import Derived.Deep.RegionHeld3
import Derived.Laws.Bits64b
import Derived.LoopN
import Derived.Test.YtffoddpjfgjelaaGreatDoorQ10
set_option linter.unusedVariables false
set_option linter.unusedSimpArgs false
set_option maxRecDepth 1500
set_option maxHeartbeats 4000000
namespace Go.Proofs.YtffoddpjfgjelaaGreatDoor
open Go.RowKit
namespace Rc
open Mem
theorem five(w:World)(o1 o2 o3 o4 o5:Obj):Fr (fun _=>False) w (((((w.alloc o1).alloc o2).alloc o3).alloc o4).alloc o5)∧(((((w.alloc o1).alloc o2).alloc o3).alloc o4).alloc o5).heap.size=w.heap.size+5∧
 (((((w.alloc o1).alloc o2).alloc o3).alloc o4).alloc o5).heap[w.heap.size]? =some o1∧(((((w.alloc o1).alloc o2).alloc o3).alloc o4).alloc o5).heap[w.heap.size+1]? =some o2∧(((((w.alloc o1).alloc o2).alloc o3).alloc o4).alloc o5).heap[w.heap.size+1+1]? =some o3∧
 (((((w.alloc o1).alloc o2).alloc o3).alloc o4).alloc o5).heap[w.heap.size+1+1+1]? =some o4∧(((((w.alloc o1).alloc o2).alloc o3).alloc o4).alloc o5).heap[w.heap.size+1+1+1+1]? =some o5:=by
 have k:=fun(W:World)(o:Obj)=>(R0 W).alloc o
 have h1:=heap_alloc_new w o1
 have h2:=heap_alloc_new (w.alloc o1) o2
 have h3:=heap_alloc_new ((w.alloc o1).alloc o2) o3
 have h4:=heap_alloc_new (((w.alloc o1).alloc o2).alloc o3) o4
 have h5:=heap_alloc_new ((((w.alloc o1).alloc o2).alloc o3).alloc o4) o5
 simp only[World.size_alloc] at h2 h3 h4 h5
 exact⟨((((k w o1).alloc o2).alloc o3).alloc o4).alloc o5,by simp,((((k _ o2).alloc o3).alloc o4).alloc o5).keep h1 (fun h=>h),(((k _ o3).alloc o4).alloc o5).keep h2 (fun h=>h),((k _ o4).alloc o5).keep h3 (fun h=>h),(k _ o5).keep h4 (fun h=>h),h5⟩
set_option maxRecDepth 100000 in
theorem bit_out(B b g i:Nat)(bv:Value)(d:D)(ps:List Nat)(w:World)(hs:Prob.SetAt w b g ps)(hp:ps[i]? =none):
 Calls Tryz.prog 270 #[.pointer (some ⟨B,0,none⟩),.pointer (some ⟨b,0,none⟩),.int .i64 i] w fun r w'=>r=.returned (.tuple #[.int .i64 0,.int .i64 7])∧Fr (fun _=>False) w w':=by
 have hmf:∀(fn:Fn)(first cap:Array Value)(w:World),(Instr.makeFunc fn first cap).run Tryz.prog w=.ok (.func fn first cap) w:=fun _ _ _ _=>rfl
 have hfr:Fr (fun _=>False) w (((((w.alloc (.cells #[.pointer (some ⟨B,0,none⟩)] 339)).alloc (.cells #[.pointer (some ⟨b,0,none⟩)] 211)).alloc (.cells #[.int .i64 i] 3)).alloc (.cells #[.int .i64 0] 3)).alloc (.cells #[.int .i64 0] 28)):=(((((Fr.refl _ _).alloc _).alloc _).alloc _).alloc _).alloc _
 have HS:=Hd (hs.keep hfr)
 have HF:=Hd hfr
 clear hs hfr
 go_enter_defers Tryz.func270,Tryz.ntmps270
 go_wp2_with fail
 refine(Prob.at_none b g i ps _ HS.out hp).mono ?_
 rintro e w' ⟨rfl,rfl⟩
 go_wp2_with fail
 go_region
 all_goals go_wp2_with fail
 simp[bodyPostD,Leaves,settle,results,Tryz.results270,go_sem]
 exact((((((Fr.refl _ _).alloc _).alloc _).alloc _).alloc _).alloc _).drew
theorem bound_cut(r p:Nat)(w:World)(hr:r≤4294967295)(hp:p≤2047):Calls Tryz.prog 293 #[.int .u32 r,.int .i64 p] w fun e w'=>e=.returned (.int .u32 (cutAt r p:Nat))∧w=w':=by
 refine(Prob.boundR_calls r p w (by omega) (by omega)).mono ?_
 rintro e w' ⟨rfl,rfl⟩
 refine⟨?_,rfl⟩
 have:Prob.bnd (r:Int) (p:Int)=((cutAt r p:Nat):Int):=by
  unfold Prob.bnd cutAt
  rw[Prob.taken_id _ (by omega) (by omega)]
  simp
 rw[this]
theorem widen_some(B:Nat)(bv:Value)(d e:D)(w:World)(h:At w B bv d)(hok:d.ok)(hr:d.widen=some e):
 Calls Tryz.prog 294 #[.pointer (some ⟨B,0,none⟩)] w fun r w'=>r=.returned (.tuple #[])∧Fr (fun k=>k=B) w w'∧At w' B bv e:=by
 by_cases hlt:d.rng<16777216
 ·exact widen_step B bv d e w h hok hlt hr
 ·have he:e=d:=by
   unfold D.widen at hr
   rw[if_pos (by omega)] at hr
   exact(Option.some.inj hr).symm
  subst he
  refine(widen_keep B bv e w h (by omega)).mono ?_
  rintro r w' ⟨rfl,rfl⟩
  exact⟨rfl,Fr.refl _ _,h⟩
set_option maxRecDepth 100000 in
theorem bit_in(B b g i p v:Nat)(bv:Value)(d e:D)(ps:List Nat)(w:World)(h:At w B bv d)(hok:d.ok)(hs:Prob.SetAt w b g ps)(hp:ps[i]? =some p)(hbit:d.bit p=some (v,e)):
 Calls Tryz.prog 270 #[.pointer (some ⟨B,0,none⟩),.pointer (some ⟨b,0,none⟩),.int .i64 i] w fun r w'=>r=.returned (.tuple #[.int .i64 v,.int .i64 0])∧Fr (fun k=>k=B∨k=g) w w'∧At w' B bv e∧Prob.SetAt w' b g (ps.set i (Prob.nextN p v)):=by
 have hmf:∀(fn:Fn)(first cap:Array Value)(w:World),(Instr.makeFunc fn first cap).run Tryz.prog w=.ok (.func fn first cap) w:=fun _ _ _ _=>rfl
 obtain⟨hfr,hsz,b1,b2,b3,b4,b5⟩:=five w (.cells #[.pointer (some ⟨B,0,none⟩)] 339) (.cells #[.pointer (some ⟨b,0,none⟩)] 211) (.cells #[.int .i64 i] 3) (.cells #[.int .i64 0] 3) (.cells #[.int .i64 0] 28)
 have hA:=h.keep hfr (fun h=>h) (fun _ _ h=>h)
 obtain⟨c0,c1,c2,c3,cf⟩:=hA.cells
 have HS:=Hd (hs.keep hfr)
 have HF:=Hd hfr
 have HA:=Hd hA
 have HB:=Hd (And.intro b1 (And.intro b2 (And.intro b3 (And.intro b4 b5))))
 have HSZ:=Hd hsz
 have hBl:=lt_of_block h.1
 have hgl:=hs.lt
 have hp2:p≤2047:=by obtain⟨_,_,_,_,_,_,h9,_⟩:=hs;exact(h9 i p hp).2
 clear hs hfr h hA b1 b2 b3 b4 b5 hsz cf
 go_enter_defers Tryz.func270,Tryz.ntmps270
 go_wp2_with fail
 refine(Prob.at_set b g i p ps _ HS.out hp).mono ?_
 rintro e w' ⟨rfl,rfl⟩
 go_wp2_with fail
 have hcl:=cutAt_lt (r:=d.rng) (p:=p) (by have:=hok.1;omega) hp2
 have hup:=D.upper_ok hok hcl
 obtain⟨hv,hw⟩:(d.upper (cutAt d.rng p)).1=v∧(d.upper (cutAt d.rng p)).2.widen=some e:=by
  unfold D.bit at hbit
  cases hw:(d.upper (cutAt d.rng p)).2.widen with
  |none=>rw[hw] at hbit;cases hbit
  |some x=>
    rw[hw] at hbit
    simp only[Option.map_some,Option.some.injEq,Prod.mk.injEq] at hbit
    exact⟨hbit.1,by rw[hbit.2]⟩
 rw[hv] at hup
 generalize hz:w.heap.size=z at*
 generalize World.alloc (World.alloc (World.alloc (World.alloc (World.alloc w _) _) _) _) _=W at*
 obtain⟨b1,b2,b3,b4,b5⟩:=HB.out
 have hdr:=(R0 W).drew
 have x1:W.drew.cell? ⟨z,0,none⟩=some (.pointer (some ⟨B,0,none⟩)):=cell_in b1 rfl
 have x2:W.drew.cell? ⟨B,2,none⟩=some (.int .u32 d.rng):=c2
 have HUP:=Hd hup
 have HW:=Hd hw
 have HV:=Hd hv
 have HAD:=Hd (HA.out.keep hdr (fun h=>h) (fun _ _ h=>h))
 have hrl:d.rng≤4294967295:=by have:=hok.2.1;omega
 clear hup hw hv hbit b1 b2 b3 b4 b5 c0 c1 c2 c3 hdr
 refine wp_region_noPanic ?_
 go_region_with ((first
  |(go_at_call 293;refine(bound_cut d.rng p _ hrl hp2).mono ?_;rintro e w' ⟨rfl,rfl⟩)
  | (go_at_call 292
     refine(upper_calls B bv d (cutAt d.rng p) _ HAD.out hok hcl).mono ?_
     rintro e w9 ⟨rfl,hfr9,hA9⟩
     rw[HV.out]
     have HA9:=Hd hA9
     have HF9:=Hd hfr9
     clear hA9 hfr9)))
 all_goals
  refine NoPanic.normal ?_
  have hA9:=HA9.out
  have hdb:=HF9.out.keep (HB.out.1:W.drew.heap[z]? =_) (by omega)
  have hbb:=HF9.out.keep (HB.out.2.2.2.1:W.drew.heap[z+1+1+1]? =_) (by omega)
  have heb:=HF9.out.keep (HB.out.2.2.2.2:W.drew.heap[z+1+1+1+1]? =_) (by omega)
  have cb:=cell_in (i:=0) hbb rfl
  have fb:=frozen_in hbb 0
  have hbl9:0<(d.upper (cutAt d.rng p)).2.b.length:=HUP.out.1.2.2.2.2
  have hbl10:0<e.b.length:=(D.widen_ok HUP.out.1 HW.out).1.2.2.2.2
  have hv1:v≤1:=HUP.out.2.2
  have hbB:b≠B:=by
   obtain⟨_,_,h1,_⟩:=HS.out
   rintro rfl
   rw[HA.out.1] at h1
   simp at h1
  have hgB:g≠B:=by
   obtain⟨_,_,_,h1,_⟩:=HS.out
   rintro rfl
   rw[HA.out.1] at h1
   simp at h1
  rcases(show v=0∨v=1 by omega) with rfl|rfl
  ·
   have hA9b:=hA9
   have hbb1:=hbb
   have hdb1:=hdb
   have heb1:=heb
   have hF9b:=HF9.out.mono (T:=fun k=>k=B∨k=z+1+1+1∨k=z+1+1+1+1) (fun _ _ h=>.inl h)
   have c0:=cell_in (i:=0) hdb1 rfl
   go_wp2_with fail
   refine(widen_some B bv (d.upper (cutAt d.rng p)).2 e _ hA9b HUP.out.1 HW.out).mono ?_
   rintro r w10 ⟨rfl,hfr10,hA10⟩
   have hbb2:=hfr10.keep hbb1 (by omega)
   have heb2:=hfr10.keep heb1 (by omega)
   have hF10:=hF9b.trans (hfr10.mono (fun _ _ h=>.inl h))
   have k1:=cell_in (i:=0) hbb2 rfl
   have k2:=frozen_in hbb2 0
   have hbb3:(w10.setCell ⟨z+1+1+1,0,none⟩ (.int .i64 0)).heap[z+1+1+1]? =some (.cells #[.int .i64 0] 3 (0,0)):=set_in hbb2 0 _
   have heb3:=set_out (i:=0) heb2 (show z+1+1+1+1≠z+1+1+1 by omega) (.int .i64 0)
   have k3:=cell_in (i:=0) heb3 rfl
   have k4:=frozen_in heb3 0
   have heb4:((w10.setCell ⟨z+1+1+1,0,none⟩ (.int .i64 0)).setCell ⟨z+1+1+1+1,0,none⟩ (.int .i64 0)).heap[z+1+1+1+1]? =some (.cells #[.int .i64 0] 28 (0,0)):=set_in heb3 0 _
   have hf12:=(Fr.one w10 (z+1+1+1) 0 (.int .i64 0)).mono (T:=fun k=>k=z+1+1+1∨k=z+1+1+1+1) (fun _ _ h=>.inl h)|>.trans ((Fr.one _ (z+1+1+1+1) 0 (.int .i64 0)).mono (fun _ _ h=>.inr h))
   have hbb4:=set_out (i:=0) hbb3 (show z+1+1+1≠z+1+1+1+1 by omega) (.int .i64 0)
   go_wp2_with fail
   generalize(w10.setCell ⟨z+1+1+1,0,none⟩ (.int .i64 0)).setCell ⟨z+1+1+1+1,0,none⟩ (.int .i64 0)=w11 at*
   have hF11:=(Fr.refl (fun k=>k=B∨k=z+1+1+1∨k=z+1+1+1+1) W).drew.trans (hF10.trans (hf12.mono (fun k _ h=>.inr h)))
   have hA11:=hA10.keep hf12 (fun h=>by omega) (fun k hk h=>by
    rcases h with h|h
    ·exact rd_off hA10.2 hbl10 hbb2 (no_byte1 (by simp)) k hk h
    ·exact rd_off hA10.2 hbl10 heb2 (no_byte1 (by simp)) k hk h)
   refine leaves_cons (f:=289) (args:=#[placeV d,.pointer (some ⟨z,0,none⟩),.pointer (some ⟨z+1+1+1+1,0,none⟩),.pointer (some ⟨z+1+1+1,0,none⟩),.pointer (some ⟨z+1,0,none⟩),.pointer (some ⟨z+1+1,0,none⟩)]) (by simp) (by simp[go_sem,placeV]) ?_
   refine(catch_ok B z (z+1+1+1+1) (z+1+1+1) (z+1) (z+1+1) b g i p 0 ps d 0 w11 (HS.out.step hF11 (fun h=>by omega) (fun h=>by omega)) hp (hF11.keep HB.out.1 (fun h=>by omega)) heb4 hbb4 (hF11.keep HB.out.2.1 (fun h=>by omega)) (hF11.keep HB.out.2.2.1 (fun h=>by omega))).mono ?_
   rintro r u w12 ⟨rfl,rfl,hfr12,hs12,he12⟩
   have hbb5:=hfr12.keep hbb4 (fun h=>by omega)
   have m1:=cell_in (i:=0) hbb5 rfl
   have m2:=cell_in (i:=0) he12 rfl
   simp[Leaves,settle,results,Tryz.results270,go_sem,m1,m2]
   have hsall:=(hF11.mono (T:=fun k=>(k=B∨k=g)∨k=z+1+1+1∨k=z+1+1+1+1) (fun _ _ h=>by omega)).trans (hfr12.mono (fun _ _ h=>by omega))
   have hsA:=HS.out.step hF11 (fun h=>by omega) (fun h=>by omega)
   exact⟨(HF.out.mono (fun _ _ h=>h.elim)).trans' hsall (fun k hk h=>by omega),hA11.keep hfr12 (fun h=>by omega) (fun k hk h=>by
    rcases h with h|h
    ·exact hsA.off hA11.2 hbl10 k hk h
    ·exact rd_off hA11.2 hbl10 heb4 (no_byte1 (by simp)) k hk h),hs12⟩
  ·
   have hbb1:(w9.setCell ⟨z+1+1+1,0,none⟩ (.int .i64 1)).heap[z+1+1+1]? =some (.cells #[.int .i64 1] 3 (0,0)):=set_in hbb 0 _
   have hf1:=Fr.one w9 (z+1+1+1) 0 (.int .i64 1)
   have hA9b:=hA9.keep hf1 (fun h=>by omega) (fun k hk h=>rd_off hA9.2 hbl9 hbb (no_byte1 (by simp)) k hk h)
   have hdb1:=hf1.keep hdb (fun h=>by omega)
   have heb1:=hf1.keep heb (fun h=>by omega)
   have hF9b:=HF9.out.mono (T:=fun k=>k=B∨k=z+1+1+1∨k=z+1+1+1+1) (fun _ _ h=>.inl h)|>.trans (hf1.mono (fun k _ h=>.inr (.inl h)))
   have c0:=cell_in (i:=0) hdb1 rfl
   go_wp2_with fail
   generalize w9.setCell ⟨z+1+1+1,0,none⟩ (.int .i64 1)=w9b at*
   refine(widen_some B bv (d.upper (cutAt d.rng p)).2 e _ hA9b HUP.out.1 HW.out).mono ?_
   rintro r w10 ⟨rfl,hfr10,hA10⟩
   have hbb2:=hfr10.keep hbb1 (by omega)
   have heb2:=hfr10.keep heb1 (by omega)
   have hF10:=hF9b.trans (hfr10.mono (fun _ _ h=>.inl h))
   have k1:=cell_in (i:=0) hbb2 rfl
   have k2:=frozen_in hbb2 0
   have hbb3:(w10.setCell ⟨z+1+1+1,0,none⟩ (.int .i64 1)).heap[z+1+1+1]? =some (.cells #[.int .i64 1] 3 (0,0)):=set_in hbb2 0 _
   have heb3:=set_out (i:=0) heb2 (show z+1+1+1+1≠z+1+1+1 by omega) (.int .i64 1)
   have k3:=cell_in (i:=0) heb3 rfl
   have k4:=frozen_in heb3 0
   have heb4:((w10.setCell ⟨z+1+1+1,0,none⟩ (.int .i64 1)).setCell ⟨z+1+1+1+1,0,none⟩ (.int .i64 0)).heap[z+1+1+1+1]? =some (.cells #[.int .i64 0] 28 (0,0)):=set_in heb3 0 _
   have hf12:=(Fr.one w10 (z+1+1+1) 0 (.int .i64 1)).mono (T:=fun k=>k=z+1+1+1∨k=z+1+1+1+1) (fun _ _ h=>.inl h)|>.trans ((Fr.one _ (z+1+1+1+1) 0 (.int .i64 0)).mono (fun _ _ h=>.inr h))
   have hbb4:=set_out (i:=0) hbb3 (show z+1+1+1≠z+1+1+1+1 by omega) (.int .i64 0)
   go_wp2_with fail
   generalize(w10.setCell ⟨z+1+1+1,0,none⟩ (.int .i64 1)).setCell ⟨z+1+1+1+1,0,none⟩ (.int .i64 0)=w11 at*
   have hF11:=(Fr.refl (fun k=>k=B∨k=z+1+1+1∨k=z+1+1+1+1) W).drew.trans (hF10.trans (hf12.mono (fun k _ h=>.inr h)))
   have hA11:=hA10.keep hf12 (fun h=>by omega) (fun k hk h=>by
    rcases h with h|h
    ·exact rd_off hA10.2 hbl10 hbb2 (no_byte1 (by simp)) k hk h
    ·exact rd_off hA10.2 hbl10 heb2 (no_byte1 (by simp)) k hk h)
   refine leaves_cons (f:=289) (args:=#[placeV d,.pointer (some ⟨z,0,none⟩),.pointer (some ⟨z+1+1+1+1,0,none⟩),.pointer (some ⟨z+1+1+1,0,none⟩),.pointer (some ⟨z+1,0,none⟩),.pointer (some ⟨z+1+1,0,none⟩)]) (by simp) (by simp[go_sem,placeV]) ?_
   refine(catch_ok B z (z+1+1+1+1) (z+1+1+1) (z+1) (z+1+1) b g i p 1 ps d 0 w11 (HS.out.step hF11 (fun h=>by omega) (fun h=>by omega)) hp (hF11.keep HB.out.1 (fun h=>by omega)) heb4 hbb4 (hF11.keep HB.out.2.1 (fun h=>by omega)) (hF11.keep HB.out.2.2.1 (fun h=>by omega))).mono ?_
   rintro r u w12 ⟨rfl,rfl,hfr12,hs12,he12⟩
   have hbb5:=hfr12.keep hbb4 (fun h=>by omega)
   have m1:=cell_in (i:=0) hbb5 rfl
   have m2:=cell_in (i:=0) he12 rfl
   simp[Leaves,settle,results,Tryz.results270,go_sem,m1,m2]
   have hsall:=(hF11.mono (T:=fun k=>(k=B∨k=g)∨k=z+1+1+1∨k=z+1+1+1+1) (fun _ _ h=>by omega)).trans (hfr12.mono (fun _ _ h=>by omega))
   have hsA:=HS.out.step hF11 (fun h=>by omega) (fun h=>by omega)
   exact⟨(HF.out.mono (fun _ _ h=>h.elim)).trans' hsall (fun k hk h=>by omega),hA11.keep hfr12 (fun h=>by omega) (fun k hk h=>by
    rcases h with h|h
    ·exact hsA.off hA11.2 hbl10 k hk h
    ·exact rd_off hA11.2 hbl10 heb4 (no_byte1 (by simp)) k hk h),hs12⟩
set_option maxRecDepth 100000 in
theorem bit_short(B b g i p:Nat)(bv:Value)(d:D)(ps:List Nat)(w:World)(h:At w B bv d)(hok:d.ok)(hs:Prob.SetAt w b g ps)(hp:ps[i]? =some p)(hbit:d.bit p=none):
 Calls Tryz.prog 270 #[.pointer (some ⟨B,0,none⟩),.pointer (some ⟨b,0,none⟩),.int .i64 i] w fun r w'=>r=.returned (.tuple #[.int .i64 0,.int .i64 1])∧Fr (fun k=>k=B) w w'∧At w' B bv d:=by
 have hmf:∀(fn:Fn)(first cap:Array Value)(w:World),(Instr.makeFunc fn first cap).run Tryz.prog w=.ok (.func fn first cap) w:=fun _ _ _ _=>rfl
 obtain⟨hfr,hsz,b1,b2,b3,b4,b5⟩:=five w (.cells #[.pointer (some ⟨B,0,none⟩)] 339) (.cells #[.pointer (some ⟨b,0,none⟩)] 211) (.cells #[.int .i64 i] 3) (.cells #[.int .i64 0] 3) (.cells #[.int .i64 0] 28)
 have hA:=h.keep hfr (fun h=>h) (fun _ _ h=>h)
 obtain⟨c0,c1,c2,c3,cf⟩:=hA.cells
 have HS:=Hd (hs.keep hfr)
 have HF:=Hd hfr
 have HA:=Hd hA
 have HB:=Hd (And.intro b1 (And.intro b2 (And.intro b3 (And.intro b4 b5))))
 have HSZ:=Hd hsz
 have hBl:=lt_of_block h.1
 have hgl:=hs.lt
 have hp2:p≤2047:=by obtain⟨_,_,_,_,_,_,h9,_⟩:=hs;exact(h9 i p hp).2
 clear hs hfr h hA b1 b2 b3 b4 b5 hsz cf
 go_enter_defers Tryz.func270,Tryz.ntmps270
 go_wp2_with fail
 refine(Prob.at_set b g i p ps _ HS.out hp).mono ?_
 rintro e w' ⟨rfl,rfl⟩
 go_wp2_with fail
 have hcl:=cutAt_lt (r:=d.rng) (p:=p) (by have:=hok.1;omega) hp2
 have hup:=D.upper_ok hok hcl
 generalize hv:(d.upper (cutAt d.rng p)).1=v at*
 have hw:(d.upper (cutAt d.rng p)).2.widen=none:=by
  unfold D.bit at hbit
  cases hw:(d.upper (cutAt d.rng p)).2.widen with
  |none=>rfl
  |some x=>rw[hw] at hbit;cases hbit
 generalize hz:w.heap.size=z at*
 generalize World.alloc (World.alloc (World.alloc (World.alloc (World.alloc w _) _) _) _) _=W at*
 obtain⟨b1,b2,b3,b4,b5⟩:=HB.out
 have hdr:=(R0 W).drew
 have x1:W.drew.cell? ⟨z,0,none⟩=some (.pointer (some ⟨B,0,none⟩)):=cell_in b1 rfl
 have x2:W.drew.cell? ⟨B,2,none⟩=some (.int .u32 d.rng):=c2
 have HUP:=Hd hup
 have HW:=Hd hw
 have HV:=Hd hv
 have HAD:=Hd (HA.out.keep hdr (fun h=>h) (fun _ _ h=>h))
 have hrl:d.rng≤4294967295:=by have:=hok.2.1;omega
 clear hup hw hv hbit b1 b2 b3 b4 b5 c0 c1 c2 c3 hdr
 refine wp_region_noPanic ?_
 go_region_with ((first
  |(go_at_call 293;refine(bound_cut d.rng p _ hrl hp2).mono ?_;rintro e w' ⟨rfl,rfl⟩)
  | (go_at_call 292
     refine(upper_calls B bv d (cutAt d.rng p) _ HAD.out hok hcl).mono ?_
     rintro e w9 ⟨rfl,hfr9,hA9⟩
     rw[HV.out]
     have HA9:=Hd hA9
     have HF9:=Hd hfr9
     clear hA9 hfr9)))
 all_goals
  refine NoPanic.normal ?_
  have hA9:=HA9.out
  have hdb:=HF9.out.keep (HB.out.1:W.drew.heap[z]? =_) (by omega)
  have hbb:=HF9.out.keep (HB.out.2.2.2.1:W.drew.heap[z+1+1+1]? =_) (by omega)
  have heb:=HF9.out.keep (HB.out.2.2.2.2:W.drew.heap[z+1+1+1+1]? =_) (by omega)
  have cb:=cell_in (i:=0) hbb rfl
  have fb:=frozen_in hbb 0
  have hbl9:0<(d.upper (cutAt d.rng p)).2.b.length:=HUP.out.1.2.2.2.2
  have hv1:v≤1:=HUP.out.2.2
  have hbB:b≠B:=by
   obtain⟨_,_,h1,_⟩:=HS.out
   rintro rfl
   rw[HA.out.1] at h1
   simp at h1
  have hgB:g≠B:=by
   obtain⟨_,_,_,h1,_⟩:=HS.out
   rintro rfl
   rw[HA.out.1] at h1
   simp at h1
  rcases(show v=0∨v=1 by omega) with rfl|rfl
  ·
   have hA9b:=hA9
   have hbb1:=hbb
   have hdb1:=hdb
   have heb1:=heb
   have hF9b:=HF9.out.mono (T:=fun k=>k=B∨k=z+1+1+1∨k=z+1+1+1+1) (fun _ _ h=>.inl h)
   have c0:=cell_in (i:=0) hdb1 rfl
   go_wp2_with fail
   refine(widen_none B bv (d.upper (cutAt d.rng p)).2 _ hA9b HUP.out.1 HW.out).mono ?_
   rintro r w10 ⟨rfl,hfr10⟩
   have hbb2:=hfr10.keep hbb1 (fun h=>h)
   have heb2:=hfr10.keep heb1 (fun h=>h)
   have hdb2:=hfr10.keep hdb1 (fun h=>h)
   have hF10:=(Fr.refl (fun k=>k=B∨k=z+1+1+1∨k=z+1+1+1+1) W).drew.trans (hF9b.trans (hfr10.mono (fun _ _ h=>h.elim)))
   have hA10:=hA9b.keep hfr10 (fun h=>h) (fun _ _ h=>h)
   refine leaves_cons (f:=289) (args:=#[placeV d,.pointer (some ⟨z,0,none⟩),.pointer (some ⟨z+1+1+1+1,0,none⟩),.pointer (some ⟨z+1+1+1,0,none⟩),.pointer (some ⟨z+1,0,none⟩),.pointer (some ⟨z+1+1,0,none⟩)]) (by simp) (by simp[go_sem,placeV]) ?_
   refine(catch_bad B z (z+1+1+1+1) (z+1+1+1) (z+1) (z+1+1) bv (d.upper (cutAt d.rng p)).2 d 1 0 0 [] w10 hA10 hbl9 HUP.out.2.1.symm hdb2 heb2 hbb2 (by omega)).mono ?_
   rintro r u w12 ⟨rfl,rfl,hfr12,hA12,he12,hb12⟩
   have m1:=cell_in (i:=0) hb12 rfl
   have m2:=cell_in (i:=0) he12 rfl
   simp[Leaves,settle,results,Tryz.results270,go_sem,m1,m2]
   have hsall:=(hF10.mono (T:=fun k=>k=B∨k=z+1+1+1∨k=z+1+1+1+1) (fun _ _ h=>h)).trans (hfr12.mono (fun _ _ h=>by omega))
   exact⟨(HF.out.mono (fun _ _ h=>h.elim)).trans' hsall (fun k hk h=>by omega),hA12⟩
  ·
   have hbb1:(w9.setCell ⟨z+1+1+1,0,none⟩ (.int .i64 1)).heap[z+1+1+1]? =some (.cells #[.int .i64 1] 3 (0,0)):=set_in hbb 0 _
   have hf1:=Fr.one w9 (z+1+1+1) 0 (.int .i64 1)
   have hA9b:=hA9.keep hf1 (fun h=>by omega) (fun k hk h=>rd_off hA9.2 hbl9 hbb (no_byte1 (by simp)) k hk h)
   have hdb1:=hf1.keep hdb (fun h=>by omega)
   have heb1:=hf1.keep heb (fun h=>by omega)
   have hF9b:=HF9.out.mono (T:=fun k=>k=B∨k=z+1+1+1∨k=z+1+1+1+1) (fun _ _ h=>.inl h)|>.trans (hf1.mono (fun k _ h=>.inr (.inl h)))
   have c0:=cell_in (i:=0) hdb1 rfl
   go_wp2_with fail
   generalize w9.setCell ⟨z+1+1+1,0,none⟩ (.int .i64 1)=w9b at*
   refine(widen_none B bv (d.upper (cutAt d.rng p)).2 _ hA9b HUP.out.1 HW.out).mono ?_
   rintro r w10 ⟨rfl,hfr10⟩
   have hbb2:=hfr10.keep hbb1 (fun h=>h)
   have heb2:=hfr10.keep heb1 (fun h=>h)
   have hdb2:=hfr10.keep hdb1 (fun h=>h)
   have hF10:=(Fr.refl (fun k=>k=B∨k=z+1+1+1∨k=z+1+1+1+1) W).drew.trans (hF9b.trans (hfr10.mono (fun _ _ h=>h.elim)))
   have hA10:=hA9b.keep hfr10 (fun h=>h) (fun _ _ h=>h)
   refine leaves_cons (f:=289) (args:=#[placeV d,.pointer (some ⟨z,0,none⟩),.pointer (some ⟨z+1+1+1+1,0,none⟩),.pointer (some ⟨z+1+1+1,0,none⟩),.pointer (some ⟨z+1,0,none⟩),.pointer (some ⟨z+1+1,0,none⟩)]) (by simp) (by simp[go_sem,placeV]) ?_
   refine(catch_bad B z (z+1+1+1+1) (z+1+1+1) (z+1) (z+1+1) bv (d.upper (cutAt d.rng p)).2 d 1 1 0 [] w10 hA10 hbl9 HUP.out.2.1.symm hdb2 heb2 hbb2 (by omega)).mono ?_
   rintro r u w12 ⟨rfl,rfl,hfr12,hA12,he12,hb12⟩
   have m1:=cell_in (i:=0) hb12 rfl
   have m2:=cell_in (i:=0) he12 rfl
   simp[Leaves,settle,results,Tryz.results270,go_sem,m1,m2]
   have hsall:=(hF10.mono (T:=fun k=>k=B∨k=z+1+1+1∨k=z+1+1+1+1) (fun _ _ h=>h)).trans (hfr12.mono (fun _ _ h=>by omega))
   exact⟨(HF.out.mono (fun _ _ h=>h.elim)).trans' hsall (fun k hk h=>by omega),hA12⟩
end Rc
namespace Rc
open Mem
structure R where
 bit:Nat
 err:Nat
 d:D
 ps:List Nat
def bitAt(d:D)(ps:List Nat)(i:Nat):R:=
 match ps[i]? with
 |none=>⟨0,7,d,ps⟩
 |some p=>match d.bit p with
   |none=>⟨0,1,d,ps⟩
   |some (v,e)=>⟨v,0,e,ps.set i (Prob.nextN p v)⟩
def okP(ps:List Nat):Prop:=∀p ∈ ps,p≤2047
theorem okP_set{ps:List Nat}(h:okP ps)(i p v:Nat)(hp:p≤2047):okP (ps.set i (Prob.nextN p v)):=by
 intro q hq
 rcases List.mem_or_eq_of_mem_set hq with h1|h1
 ·exact h q h1
 ·exact h1 ▸ Prob.nextN_le p v hp
theorem bitAt_ok{d:D}{ps:List Nat}(i:Nat)(hd:d.ok)(hp:okP ps):(bitAt d ps i).d.ok∧(bitAt d ps i).d.b=d.b∧(bitAt d ps i).bit≤1∧okP (bitAt d ps i).ps∧(bitAt d ps i).ps.length=ps.length:=by
 unfold bitAt
 split
 ·exact⟨hd,rfl,by simp,hp,rfl⟩
 ·rename_i p hpi
  have hp2:=hp p (List.mem_of_getElem? hpi)
  split
  ·exact⟨hd,rfl,by simp,hp,rfl⟩
  ·rename_i v e hb
   have:=D.bit_ok hd hp2 hb
   exact⟨this.1,this.2.1,this.2.2,okP_set hp i p v hp2,by simp⟩
theorem setAt_ok{w:World}{b g:Nat}{ps:List Nat}(h:Prob.SetAt w b g ps):okP ps:=by
 obtain⟨_,_,_,_,_,_,h5,_⟩:=h
 intro p hp
 obtain⟨i,hi⟩:=List.mem_iff_getElem?.1 hp
 exact(h5 i p hi).2
theorem bit_all(B b g i:Nat)(bv:Value)(d:D)(ps:List Nat)(w:World)(h:At w B bv d)(hok:d.ok)(hs:Prob.SetAt w b g ps):
 Calls Tryz.prog 270 #[.pointer (some ⟨B,0,none⟩),.pointer (some ⟨b,0,none⟩),.int .i64 i] w fun r w'=>r=.returned (.tuple #[.int .i64 (bitAt d ps i).bit,.int .i64 (bitAt d ps i).err])∧Fr (fun k=>k=B∨k=g) w w'∧At w' B bv (bitAt d ps i).d∧Prob.SetAt w' b g (bitAt d ps i).ps:=by
 have hbB:b≠B:=by
  obtain⟨_,_,h1,_⟩:=hs
  rintro rfl
  rw[h.1] at h1
  simp at h1
 have hgB:g≠B:=by
  obtain⟨_,_,_,h1,_⟩:=hs
  rintro rfl
  rw[h.1] at h1
  simp at h1
 cases hpi:ps[i]? with
 |none=>
   have e:bitAt d ps i=⟨0,7,d,ps⟩:=by unfold bitAt;rw[hpi]
   rw[e]
   refine(bit_out B b g i bv d ps w hs hpi).mono ?_
   rintro r w' ⟨rfl,hfr⟩
   exact⟨rfl,hfr.mono (fun _ _ h=>h.elim),h.keep hfr (fun h=>h) (fun _ _ h=>h),hs.keep hfr⟩
 |some p=>
   cases hb:d.bit p with
   |none=>
     have e:bitAt d ps i=⟨0,1,d,ps⟩:=by unfold bitAt;simp only[hpi,hb]
     rw[e]
     refine(bit_short B b g i p bv d ps w h hok hs hpi hb).mono ?_
     rintro r w' ⟨rfl,hfr,hA⟩
     exact⟨rfl,hfr.mono (fun _ _ h=>.inl h),hA,hs.step hfr hbB hgB⟩
   |some x=>
     obtain⟨v,y⟩:=x
     have e:bitAt d ps i=⟨v,0,y,ps.set i (Prob.nextN p v)⟩:=by unfold bitAt;simp only[hpi,hb]
     rw[e]
     exact bit_in B b g i p v bv d y ps w h hok hs hpi hb
end Rc
namespace Tr
open Mem Rc
def ord(back:Bool)(n k:Nat):Nat:=if back then k else n-1-k
structure G where
 err:Nat
 v:Nat
 d:D
 ps:List Nat
def go(back:Bool)(n a:Nat):Nat→Nat→Nat→D→List Nat→G
 |0,_,v,d,ps=>⟨0,v,d,ps⟩
 |f+1,m,v,d,ps=>
   if(bitAt d ps (a+m)).err≠0 then⟨(bitAt d ps (a+m)).err,v|||((bitAt d ps (a+m)).bit<<<ord back n (n-(f+1))),(bitAt d ps (a+m)).d,(bitAt d ps (a+m)).ps⟩
   else go back n a f (2*m+(bitAt d ps (a+m)).bit) (v|||((bitAt d ps (a+m)).bit<<<ord back n (n-(f+1)))) (bitAt d ps (a+m)).d (bitAt d ps (a+m)).ps
def get(back:Bool)(d:D)(ps:List Nat)(a n:Nat):R:=
 if n≤16∧a≤ps.length∧2^n≤ps.length-a then
  ⟨if(go back n a n 1 0 d ps).err=0 then(go back n a n 1 0 d ps).v else 0,(go back n a n 1 0 d ps).err,(go back n a n 1 0 d ps).d,(go back n a n 1 0 d ps).ps⟩
 else⟨0,7,d,ps⟩
theorem or_shl(v b o:Nat)(hv:v<65536)(hb:b≤1)(ho:o≤15):bits BinOp.or IntKind.i64 (v:Int) ((b:Int)*2^o)=((v|||(b<<<o):Nat):Int):=by
 have hp:2^o≤32768:=Nat.le_trans (Nat.pow_le_pow_right (by omega) ho) (by decide)
 have h1:b<<<o=b*2^o:=Nat.shiftLeft_eq ..
 have h2:b*2^o≤32768:=Nat.le_trans (Nat.mul_le_mul_right _ hb) (by omega)
 have e:((b:Int)*2^o)=((b*2^o:Nat):Int):=by simp
 rw[e,←h1]
 have hx:v|||(b<<<o)<2^17:=Nat.or_lt_two_pow (by omega) (by omega)
 generalize b<<<o=y at*
 have k1:(BitVec.ofInt 64 (v:Int)).toNat=v:=by
  rw[BitVec.ofInt_natCast,BitVec.toNat_ofNat];exact Nat.mod_eq_of_lt (by omega)
 have k2:(BitVec.ofInt 64 (y:Int)).toNat=y:=by
  rw[BitVec.ofInt_natCast,BitVec.toNat_ofNat];exact Nat.mod_eq_of_lt (by omega)
 show IntKind.i64.wrap ((BitVec.ofInt 64 (v:Int)|||BitVec.ofInt 64 (y:Int)).toNat:Int)=_
 rw[BitVec.toNat_or,k1,k2,IntWalk.i64_in _ (by omega)]
theorem or_lt(v b o n:Nat)(hv:v<2^n)(hb:b≤1)(ho:o<n):v|||(b<<<o)<2^n:=by
 refine Nat.or_lt_two_pow hv ?_
 rw[Nat.shiftLeft_eq]
 have:2^o<2^n:=Nat.pow_lt_pow_right (by omega) ho
 have h2:b*2^o≤1*2^o:=Nat.mul_le_mul_right _ hb
 omega
theorem order_calls(back:Bool)(n k:Nat)(w:World)(hk:k<n)(hn:n≤16):
 Calls Tryz.prog 318 #[.bool back,.int .i64 n,.int .i64 k] w fun e w'=>e=.returned (.int .i64 (ord back n k))∧w=w':=by
 have h1:((n-1-k:Nat):Int)=(n:Int)-1-k:=by omega
 cases back
 ·have ho:ord false n k=n-1-k:=rfl
  rw[ho,h1]
  clear ho h1
  go_enter Tryz.func318,Tryz.ntmps318
  go_wp2_with fail
  go_ret
  exact⟨rfl,rfl⟩
 ·have ho:ord true n k=k:=rfl
  rw[ho]
  clear ho h1
  go_enter Tryz.func318,Tryz.ntmps318
  go_wp2_with fail
  go_ret
  exact⟨rfl,rfl⟩
theorem slen_calls(b g:Nat)(ps:List Nat)(w:World)(h:Prob.SetAt w b g ps):
 Calls Tryz.prog 319 #[.pointer (some ⟨b,0,none⟩)] w fun e w'=>e=.returned (.int .i64 ps.length)∧w=w':=by
 obtain⟨cap,cs,h1,_⟩:=h
 exact Prob.len_calls b g ps.length cap w (cell_in h1 rfl)
end Tr
namespace Tr
open Mem Rc
set_option maxRecDepth 100000 in
theorem get1_calls(B b g bd bs c bb bn place k v n:Nat)(back:Bool)(bv:Value)(d:D)(ps:List Nat)(w:World)(h:At w B bv d)(hok:d.ok)(hs:Prob.SetAt w b g ps)
 (hd:w.heap[bd]? =some (.cells #[.pointer (some ⟨B,0,none⟩)] 339 (0,0)))(hsb:w.heap[bs]? =some (.cells #[.pointer (some ⟨b,0,none⟩)] 211 (0,0)))(hc:w.heap[c]? =some (.cells #[.int .i64 v] 3 (0,0)))
 (hbb:w.heap[bb]? =some (.cells #[.bool back] 4 (0,0)))(hbn:w.heap[bn]? =some (.cells #[.int .i64 n] 3 (0,0)))(hcg:c≠g)(hng:bn≠g)(hcn:bn≠c)(hv:v<65536)(hk:k<n)(hn:n≤16)(pl:Int)(hpl:pl=(place:Int)):
 Calls Tryz.prog 317 #[.int .i64 pl,.int .i64 k,.pointer (some ⟨bd,0,none⟩),.pointer (some ⟨bs,0,none⟩),.pointer (some ⟨c,0,none⟩),.pointer (some ⟨bb,0,none⟩),.pointer (some ⟨bn,0,none⟩)] w
  fun r w'=>r=.returned (.tuple #[.int .i64 (bitAt d ps place).bit,.int .i64 (bitAt d ps place).err])∧Fr (fun k=>k=B∨k=g∨k=c) w w'∧At w' B bv (bitAt d ps place).d∧Prob.SetAt w' b g (bitAt d ps place).ps∧
   w'.heap[c]? =some (.cells #[.int .i64 ((v|||((bitAt d ps place).bit<<<ord back n k):Nat):Int)] 3 (0,0)):=by
 subst hpl
 have hbt:=(bitAt_ok place hok (setAt_ok hs)).2.2.1
 have hbl:0<(bitAt d ps place).d.b.length:=(bitAt_ok place hok (setAt_ok hs)).1.2.2.2.2
 have n1:bd≠B:=by rintro rfl;rw[h.1] at hd;simp at hd
 have n2:bd≠g:=by rintro rfl;obtain⟨_,_,_,h1,_⟩:=hs;rw[h1] at hd;simp at hd
 have n3:bs≠B:=by rintro rfl;rw[h.1] at hsb;simp at hsb
 have n4:bs≠g:=by rintro rfl;obtain⟨_,_,_,h1,_⟩:=hs;rw[h1] at hsb;simp at hsb
 have n5:c≠B:=by rintro rfl;rw[h.1] at hc;simp at hc
 have n6:bb≠B:=by rintro rfl;rw[h.1] at hbb;simp at hbb
 have n7:bb≠g:=by rintro rfl;obtain⟨_,_,_,h1,_⟩:=hs;rw[h1] at hbb;simp at hbb
 have n8:bn≠B:=by rintro rfl;rw[h.1] at hbn;simp at hbn
 have n9:c≠b:=by rintro rfl;obtain⟨_,_,h1,_⟩:=hs;rw[h1] at hc;simp at hc
 have c0:=cell_in (i:=0) hd rfl
 have c1:=cell_in (i:=0) hsb rfl
 have HA:=Hd h
 have HS:=Hd hs
 go_enter Tryz.func317,Tryz.ntmps317
 go_wp2_with fail
 refine(bit_all B b g place bv d ps _ HA.out hok HS.out).mono ?_
 rintro r w2 ⟨rfl,hfr2,hA2,hs2⟩
 generalize hbt1:(bitAt d ps place).bit=bt at*
 generalize her1:(bitAt d ps place).err=er at*
 have HBT:=Hd hbt1
 have HER:=Hd her1
 clear hbt1 her1
 have hc2:=hfr2.keep hc (by omega)
 have hdr:=(R0 w2).drew
 have x1:w2.drew.cell? ⟨c,0,none⟩=_:=cell_in (i:=0) hc2 rfl
 have x2:w2.drew.frozen? ⟨c,0,none⟩=_:=frozen_in hc2 0
 have x3:w2.drew.cell? ⟨bb,0,none⟩=_:=cell_in (i:=0) (hfr2.keep hbb (by omega)) rfl
 have x4:w2.drew.cell? ⟨bn,0,none⟩=_:=cell_in (i:=0) (hfr2.keep hbn (by omega)) rfl
 have ho:ord back n k≤15:=by unfold ord;split<;>omega
 have hor:=or_shl v bt (ord back n k) hv hbt ho
 have hpo:2^ord back n k≤32768:=Nat.le_trans (Nat.pow_le_pow_right (by omega) ho) (by decide)
 have hw1:IntKind.i64.wrap ((bt:Int)*2^ord back n k)=(bt:Int)*2^ord back n k:=by
  have h1:bt*2^ord back n k≤1*2^ord back n k:=Nat.mul_le_mul_right _ hbt
  have e:((bt:Int)*2^ord back n k)=((bt*2^ord back n k:Nat):Int):=by simp
  rw[e]
  exact IntWalk.i64_in _ (by omega)
 have HO:=Hd hor
 have HC2:=Hd hc2
 have HA2:=Hd hA2
 have HS2:=Hd hs2
 have HF2:=Hd hfr2
 clear hor hc2 hA2 hs2 hfr2 hdr h hs hd hsb hc hbb hbn c0 c1 hpo
 go_wp2_with fail
 go_region_with ((first
  |(go_at_call 318;refine(order_calls back n k _ hk hn).mono ?_;rintro e w' ⟨rfl,rfl⟩)))
 all_goals go_wp2_with fail
 all_goals go_ret2
 all_goals
  have hf3:=(Fr.one w2 c 0 (.int .i64 (bits BinOp.or IntKind.i64 (v:Int) ((bt:Int)*2^ord back n k)))).drew
  have hc3:(w2.setCell ⟨c,0,none⟩ (.int .i64 (bits BinOp.or IntKind.i64 (v:Int) ((bt:Int)*2^ord back n k)))).drew.heap[c]? =_:=set_in HC2.out 0 _
  refine⟨by rw[HBT.out,HER.out];rfl,(HF2.out.mono (fun _ _ h=>h.elim .inl (fun h=>.inr (.inl h)))).trans (hf3.mono (fun _ _ h=>.inr (.inr h))),HA2.out.keep hf3 (fun h=>n5 h.symm) (fun j hj h=>rd_off HA2.out.2 hbl HC2.out (no_byte1 (by simp)) j hj h),HS2.out.step hf3 (fun h=>n9 h.symm) (fun h=>hcg h.symm),?_⟩
  rw[hc3,HO.out,HBT.out]
  rfl
set_option maxRecDepth 100000 in
theorem down_calls(B b g bd bs c bb bn a n:Nat)(back:Bool)(bv:Value)(d:D)(ps:List Nat)(w:World)(h:At w B bv d)(hok:d.ok)(hs:Prob.SetAt w b g ps)
 (hd:w.heap[bd]? =some (.cells #[.pointer (some ⟨B,0,none⟩)] 339 (0,0)))(hsb:w.heap[bs]? =some (.cells #[.pointer (some ⟨b,0,none⟩)] 211 (0,0)))(hc:w.heap[c]? =some (.cells #[.int .i64 0] 3 (0,0)))
 (hbb:w.heap[bb]? =some (.cells #[.bool back] 4 (0,0)))(hbn:w.heap[bn]? =some (.cells #[.int .i64 n] 3 (0,0)))(hcg:c≠g)(hng:bn≠g)(hcn:bn≠c)(hn:n≤16)(ha:a≤1099511627776):
 Calls Tryz.prog 316 #[.int .i64 a,.int .i64 n,.func (Fn.func 317) #[] #[.pointer (some ⟨bd,0,none⟩),.pointer (some ⟨bs,0,none⟩),.pointer (some ⟨c,0,none⟩),.pointer (some ⟨bb,0,none⟩),.pointer (some ⟨bn,0,none⟩)]] w
  fun r w'=>r=.returned (.int .i64 (go back n a n 1 0 d ps).err)∧Fr (fun k=>k=B∨k=g∨k=c) w w'∧At w' B bv (go back n a n 1 0 d ps).d∧Prob.SetAt w' b g (go back n a n 1 0 d ps).ps∧
   w'.heap[c]? =some (.cells #[.int .i64 ((go back n a n 1 0 d ps).v:Nat)] 3 (0,0)):=by
 have n1:bd≠B:=by rintro rfl;rw[h.1] at hd;simp at hd
 have n2:bd≠g:=by rintro rfl;obtain⟨_,_,_,h1,_⟩:=hs;rw[h1] at hd;simp at hd
 have n3:bs≠B:=by rintro rfl;rw[h.1] at hsb;simp at hsb
 have n4:bs≠g:=by rintro rfl;obtain⟨_,_,_,h1,_⟩:=hs;rw[h1] at hsb;simp at hsb
 have n6:bb≠B:=by rintro rfl;rw[h.1] at hbb;simp at hbb
 have n7:bb≠g:=by rintro rfl;obtain⟨_,_,_,h1,_⟩:=hs;rw[h1] at hbb;simp at hbb
 have n8:bn≠B:=by rintro rfl;rw[h.1] at hbn;simp at hbn
 have m1:bd≠c:=by rintro rfl;rw[hd] at hc;simp at hc
 have m2:bs≠c:=by rintro rfl;rw[hsb] at hc;simp at hc
 have m3:bb≠c:=by rintro rfl;rw[hbb] at hc;simp at hc
 have HA:=Hd h
 have HS:=Hd hs
 have HD:=Hd hd
 have HSB:=Hd hsb
 have HC:=Hd hc
 have HBB:=Hd hbb
 have HBN:=Hd hbn
 clear h hs hd hsb hc hbb hbn
 generalize hfin:go back n a n 1 0 d ps=F
 have HFIN:=Hd hfin
 clear hfin
 go_enter Tryz.func316,Tryz.ntmps316
 go_wp2_with fail
 go_loopw [7,8,9,10,12] (fun m _ _ _ i wr=>∃(k M v:Nat)(e:D)(qs:List Nat),k≤n∧i=.int .i64 k∧m=.int .i64 M∧M<2^(k+1)∧v<2^n∧e.ok∧At wr B bv e∧Prob.SetAt wr b g qs∧wr.heap[c]? =some (.cells #[.int .i64 v] 3 (0,0))∧Fr (fun k=>k=B∨k=g∨k=c) w wr∧go back n a (n-k) M v e qs=F) (fun _ _ _ _ i _=>n-(intOf i).toNat)
 case atStart=>exact⟨0,1,0,d,ps,by omega,rfl,rfl,by omega,Nat.pow_pos (by omega),hok,HA.out,HS.out,HC.out,Fr.refl _ _,HFIN.out⟩
 case round=>
  obtain⟨k,M,v,e,qs,hk,rfl,rfl,hM,hv,hek,hA,hS,hC,hfr,hgo⟩:=hrel
  by_cases hlt:k<n
  ·have hp16:2^n≤65536:=Nat.le_trans (Nat.pow_le_pow_right (by omega) hn) (by decide)
   have hp17:2^(k+1)≤65536:=Nat.le_trans (Nat.pow_le_pow_right (by omega) (show k+1≤16 by omega)) (by decide)
   obtain⟨f,hf⟩:∃f,n-k=f+1:=⟨n-k-1,by omega⟩
   have hf2:n-(k+1)=f:=by omega
   have hkf:n-(f+1)=k:=by omega
   rw[hf] at hgo
   simp only[go,hkf] at hgo
   have hbok:=bitAt_ok (a+M) hek (setAt_ok hS)
   have HG:=Hd hgo
   have HA1:=Hd hA
   have HS1:=Hd hS
   have HC1:=Hd hC
   have HF1:=Hd hfr
   have hMa:M≤65536:=by omega
   clear hgo hA hS hC hfr
   go_wp2_with fail
   refine(get1_calls B b g bd bs c bb bn (a+M) k v n back bv e qs wr HA1.out hek HS1.out (HF1.out.keep HD.out (by omega)) (HF1.out.keep HSB.out (by omega)) HC1.out (HF1.out.keep HBB.out (by omega)) (HF1.out.keep HBN.out (by omega)) hcg hng hcn (by omega) hlt hn _ (by omega)).mono ?_
   rintro r w2 ⟨rfl,hfr2,hA2,hS2,hC2⟩
   have hok':ord back n k<n:=by unfold ord;split<;>omega
   have hv2:=or_lt v (bitAt e qs (a+M)).bit (ord back n k) n hv hbok.2.2.1 hok'
   by_cases her:(bitAt e qs (a+M)).err=0
   ·have hgo:=HG.out
    rw[if_neg (by omega)] at hgo
    rw[her]
    have HA2:=Hd hA2
    have HS2:=Hd hS2
    have HC2:=Hd hC2
    have HF2:=Hd (HF1.out.trans hfr2)
    have HG2:=Hd hgo
    have hbt:=hbok.2.2.1
    have HOK:=Hd hbok
    have HV2:=Hd hv2
    clear hgo hA2 hS2 hC2 hfr2 hbok her hv2 HG
    generalize hbtg:(bitAt e qs (a+M)).bit=bt at*
    have HBT:=Hd hbtg
    clear hbtg
    go_wp2_with fail
    go_roundw
    case rel=>
     refine⟨k+1,2*M+bt,_,_,_,by omega,by go_num,by go_num,by rw[Nat.pow_succ];omega,HV2.out,HOK.out.1,HA2.out,HS2.out,HC2.out,HF2.out,?_⟩
     rw[hf2]
     exact HG2.out
    case measure=>simp[intOf];omega
   ·have hgo:=HG.out
    rw[if_pos her] at hgo
    have hne:(((bitAt e qs (a+M)).err:Int) !=0)=true:=by simp[her]
    have HG2:=Hd hgo
    have HA2:=Hd hA2
    have HS2:=Hd hS2
    have HC2:=Hd hC2
    have HF2:=Hd (HF1.out.trans hfr2)
    clear hgo hA2 hS2 hC2 hfr2 her hv2 HG
    generalize herg:(bitAt e qs (a+M)).err=er at*
    generalize hbtg:(bitAt e qs (a+M)).bit=bt at*
    go_wp2_with fail
    go_ret
    rw[←HG2.out]
    exact⟨rfl,HF2.out,HA2.out,HS2.out,HC2.out⟩
  ·obtain rfl:k=n:=by omega
   rw[Nat.sub_self] at hgo
   have HG2:=Hd (show(⟨0,v,e,qs⟩:G)=F from hgo)
   clear hgo
   go_wp2_with fail
   go_ret
   rw[←HG2.out]
   exact⟨rfl,hfr,hA,hS,hC⟩
end Tr
end Go.Proofs.YtffoddpjfgjelaaGreatDoor
