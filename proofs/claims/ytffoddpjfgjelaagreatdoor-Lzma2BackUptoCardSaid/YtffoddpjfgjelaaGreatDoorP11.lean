/- Part 11 of 52: lemmas of the last part, each under the conditions that it names. -/
import Derived.Deep.RegionHeld3
import Derived.Test.YtffoddpjfgjelaaGreatDoorP07
import Derived.Test.YtffoddpjfgjelaaGreatDoorP08
import Derived.Test.YtffoddpjfgjelaaGreatDoorP10
set_option linter.unusedVariables false
set_option linter.unusedSimpArgs false
set_option maxRecDepth 1500
set_option maxHeartbeats 4000000
namespace Go.Proofs.YtffoddpjfgjelaaGreatDoor
open Go.RowKit
namespace Rc
open Mem
theorem rd_off{w:World}{v:Value}{xs:List UInt8}(h:Rd w v xs)(h0:0<xs.length){g:Nat}{cs:Array Value}{T:TypeId}{fr:Nat×Nat}(hg:w.heap[g]? =some (.cells cs T fr))(hcs:∀(i:Nat)(n:Int),cs[i]? ≠some (Value.int .u8 n)):∀k,v.ownBlock=some k→k≠g:=by
 obtain⟨p,cap,rfl,_,_,h3⟩:=h
 obtain⟨b,o,rfl,hc⟩:=h3 h0
 intro k hk
 simp only[Value.ownBlock,Option.some.injEq] at hk
 subst hk
 rintro rfl
 have h4:=hc 0 xs[0] (by simp[h0])
 rw[cell_of_row w _ _ _ _ _ hg] at h4
 exact hcs (o+0) (xs[0].toNat:Int) h4
theorem no_byte1{v:Value}(h:∀n:Int,v≠Value.int .u8 n):∀(i:Nat)(n:Int),(#[v]:Array Value)[i]? ≠some (Value.int .u8 n)
 |0,n=>by simpa using h n
 |i+1,n=>by simp
def placeV(d:D):Value:=.agg #[.int .i64 d.read,.int .u32 d.rng,.int .u32 d.now]
def refusedV(err:Nat):Value:=.iface 419 (.int .i64 err)
theorem back_nil(B:Nat)(e:D)(w:World):
 Calls Tryz.prog 290 #[.pointer (some ⟨B,0,none⟩),placeV e,.nilIface] w fun r w'=>r=.returned (.int .i64 0)∧Fr (fun _=>False) w w':=by
 unfold placeV
 go_enter Tryz.func290,Tryz.ntmps290
 go_wp2_with fail
 go_ret
 exact⟨rfl,(Fr.refl _ _).alloc _⟩
theorem assert_refused(x:Value)(W:World):(Instr.typeAssert (.iface 419 x) 20 419 true).run Tryz.prog W=.ok (.tuple #[x,.bool true]) W:=by kernel_rfl
set_option maxRecDepth 100000 in
theorem back_some(B:Nat)(bv:Value)(d e:D)(err:Nat)(w:World)(h:At w B bv d)(h0:0<d.b.length)(he:e.b=d.b):
 Calls Tryz.prog 290 #[.pointer (some ⟨B,0,none⟩),placeV e,refusedV err] w fun r w'=>r=.returned (.int .i64 err)∧Fr (fun k=>k=B) w w'∧At w' B bv e:=by
 unfold placeV refusedV
 have hfa:=(Fr.refl (fun k=>k=B) w).alloc (.cells #[.int .i64 e.read,.int .u32 e.rng,.int .u32 e.now] 379)
 have hbn:=heap_alloc_new w (.cells #[.int .i64 e.read,.int .u32 e.rng,.int .u32 e.now] 379)
 have hB:=lt_of_block h.1
 have hAa:=h.keep ((Fr.refl (fun _=>False) w).alloc (.cells #[.int .i64 e.read,.int .u32 e.rng,.int .u32 e.now] 379)) (fun h=>h) (fun _ _ h=>h)
 obtain⟨c0,c1,c2,c3,cf⟩:=hAa.cells
 have f1:=cf 1
 have f2:=cf 2
 have f3:=cf 3
 have HA:=Hd hAa
 have HN:=Hd hbn
 have s1:=set_in h.1 1 (.int .i64 e.read)
 have s2:=set_in s1 2 (.int .u32 e.rng)
 have s3:=set_in s2 3 (.int .u32 e.now)
 have hal:=fun(W:World)=>(Fr.refl (fun _=>False) W).alloc (.cells #[.int .i64 e.read,.int .u32 e.rng,.int .u32 e.now] 379)
 have r1:=(hal _).keep s1 (fun h=>h)
 have r2:=(hal _).keep s2 (fun h=>h)
 have a2:=cell_in (v:=.int .u32 d.rng) r1 (i:=2) rfl
 have b2:=frozen_in r1 2
 have a3:=cell_in (v:=.int .u32 d.now) r2 (i:=3) rfl
 have b3:=frozen_in r2 3
 have HF3:=Hd ((((Fr.one w B 1 (.int .i64 e.read)).trans (Fr.one _ B 2 (.int .u32 e.rng))).trans (Fr.one _ B 3 (.int .u32 e.now))).alloc (.cells #[.int .i64 e.read,.int .u32 e.rng,.int .u32 e.now] 379))
 have HS3:=Hd ((hal _).keep s3 (fun h=>h))
 have H0:=Hd h
 clear s1 s2 s3 r1 r2 hal
 have hta:=assert_refused (.int .i64 err)
 clear cf h hAa hbn
 go_enter Tryz.func290,Tryz.ntmps290
 go_wp2_with fail
 go_ret
 exact⟨rfl,HF3.out,H0.out.new h0 he HF3.out HS3.out⟩
end Rc
namespace Rc
open Mem
set_option maxRecDepth 100000 in
theorem catch_bad(B bd be bb bs bi:Nat)(bv:Value)(d e:D)(err:Nat)(v0 e0:Int)(older:List PanicEntry)(w:World)(h:At w B bv d)(h0:0<d.b.length)(heq:e.b=d.b)
 (hd:w.heap[bd]? =some (.cells #[.pointer (some ⟨B,0,none⟩)] 339 (0,0)))(he:w.heap[be]? =some (.cells #[.int .i64 e0] 28 (0,0)))(hb:w.heap[bb]? =some (.cells #[.int .i64 v0] 3 (0,0)))(herr:err≠0):
 CallsD Tryz.prog 289 #[placeV e,.pointer (some ⟨bd,0,none⟩),.pointer (some ⟨be,0,none⟩),.pointer (some ⟨bb,0,none⟩),.pointer (some ⟨bs,0,none⟩),.pointer (some ⟨bi,0,none⟩)]
  (.panicking ({v:=refusedV err,recovered:=false}::older)) w fun r u' w'=>r=.returned (.tuple #[])∧u'=.panicking ({v:=refusedV err,recovered:=true}::older)∧
    Fr (fun k=>k=B∨k=be∨k=bb) w w'∧At w' B bv e∧w'.heap[be]? =some (.cells #[.int .i64 err] 28 (0,0))∧w'.heap[bb]? =some (.cells #[.int .i64 0] 3 (0,0)):=by
 refine callsD_of_wpS Tryz.func289 rfl fun c₀ cs hu=> ?_
 apply wpS_seq
 apply wpS_region
 simp[wpOpsS,go_sem,recoverD,hu,Tryz.ntmps289,Exit.thenS,placeV]
 apply wpS_seq
 refine wpS_region_draw (by kernel_rfl) (fun l hl=> ?_)
 have hal:=(Fr.refl (fun _=>False) w).alloc (.cells #[.int .i64 e.read,.int .u32 e.rng,.int .u32 e.now] 379)
 have hbx:=heap_alloc_new w (.cells #[.int .i64 e.read,.int .u32 e.rng,.int .u32 e.now] 379)
 have hA1:=h.keep hal (fun h=>h) (fun _ _ h=>h)
 have k1:=cell_in (i:=0) (hal.keep hd (fun h=>h)) rfl
 obtain⟨k2,k3,k4⟩:=cs3 hbx rfl rfl rfl
 replace hl:l ∈ ([[0,1,2,3,4],[0,2,1,3,4],[1,0,2,3,4],[1,2,0,3,4],[2,0,1,3,4],[2,1,0,3,4]]:List (List Nat)):=Eq.mp (congrArg (fun L=>l ∈ L) (by kernel_rfl)) hl
 simp only[List.mem_cons,List.not_mem_nil,or_false] at hl
 rcases hl with rfl|rfl|rfl|rfl|rfl|rfl
 all_goals simp[wpOpsS,go_sem,recoverD,hu,Exit.thenS,k1,k2,k3,k4]
 all_goals
  refine(back_some B bv d e err _ (hA1.keep ((Fr.refl (fun _=>False) _).drew) (fun h=>h) (fun _ _ h=>h)) h0 heq).mono ?_
  rintro r w2 ⟨rfl,hfr2,hA2⟩
  have hne1:be≠B:=by rintro rfl;rw[h.1] at he;simp at he
  have hne2:bb≠B:=by rintro rfl;rw[h.1] at hb;simp at hb
  have hne3:bb≠be:=by rintro rfl;rw[he] at hb;simp at hb
  have hfr2':Fr (fun k=>k=B∨k=be∨k=bb) w w2:=(hal.mono (fun _ _ h=>h.elim)).trans ((Fr.refl _ _).drew.trans (hfr2.mono (fun _ _ h=>.inl h)))
  have he2:=hfr2.keep (hal.drew.keep he (fun h=>h)) hne1
  have hb2:=hfr2.keep (hal.drew.keep hb (fun h=>h)) hne2
  have c1:=cell_in (i:=0) he2 rfl
  have f1:=frozen_in he2 0
  simp[c1,f1,storeCells,go_sem]
  have he3:(w2.setCell ⟨be,0,none⟩ (.int .i64 err)).heap[be]? =some (.cells #[.int .i64 err] 28 (0,0)):=set_in he2 0 _
  have hb3:=set_out (i:=0) hb2 hne3 (.int .i64 err)
  have hA3:=hA2.keep (S:=fun k=>k=be) (Fr.one w2 be 0 (.int .i64 err)) (fun h=>hne1 h.symm) (fun k hk h=>rd_off hA2.2 (by rw[heq];exact h0) he2 (no_byte1 (by simp)) k hk h)
  have hfr3:=hfr2'.trans ((Fr.one w2 be 0 (.int .i64 err)).mono (fun k _ h=>.inr (.inl h)))
  generalize w2.setCell ⟨be,0,none⟩ (.int .i64 err)=w3 at*
  have c3:=cell_in (i:=0) he3 rfl
  have c4:=cell_in (i:=0) hb3 rfl
  have f4:=frozen_in hb3 0
  apply wpS_seq
  apply wpS_region
  have hen:((err:Int) !=0)=true:=by simp[herr]
  simp[wpOpsS,go_sem,Exit.thenS,c3,hen]
  refine wpS_cond (t:=true) (by simp[Act.eval,herr]) ?_
  simp only[if_true]
  apply wpS_region
  simp[wpOpsS,go_sem,c4,f4,bodyPostS,results,Tryz.results289]
  exact⟨hfr3.trans ((Fr.one w3 bb 0 (.int .i64 0)).mono (fun k _ h=>.inr (.inr h))),hA3.keep (S:=fun k=>k=bb) (Fr.one w3 bb 0 (.int .i64 0)) (fun h=>hne2 h.symm) (fun k hk h=>rd_off hA3.2 (by rw[heq];exact h0) hb3 (no_byte1 (by simp)) k hk h),set_out he3 (fun h=>hne3 h.symm) _,set_in hb3 0 _⟩
set_option maxRecDepth 100000 in
theorem catch_ok(B bd be bb bs bi b g i p v:Nat)(ps:List Nat)(e:D)(e0:Int)(w:World)(hs:Prob.SetAt w b g ps)(hp:ps[i]? =some p)
 (hd:w.heap[bd]? =some (.cells #[.pointer (some ⟨B,0,none⟩)] 339 (0,0)))(he:w.heap[be]? =some (.cells #[.int .i64 e0] 28 (0,0)))(hb:w.heap[bb]? =some (.cells #[.int .i64 v] 3 (0,0)))
 (hsb:w.heap[bs]? =some (.cells #[.pointer (some ⟨b,0,none⟩)] 211 (0,0)))(hib:w.heap[bi]? =some (.cells #[.int .i64 i] 3 (0,0))):
 CallsD Tryz.prog 289 #[placeV e,.pointer (some ⟨bd,0,none⟩),.pointer (some ⟨be,0,none⟩),.pointer (some ⟨bb,0,none⟩),.pointer (some ⟨bs,0,none⟩),.pointer (some ⟨bi,0,none⟩)]
  .returning w fun r u' w'=>r=.returned (.tuple #[])∧u'=.returning∧Fr (fun k=>k=g∨k=be) w w'∧Prob.SetAt w' b g (ps.set i (Prob.nextN p v))∧w'.heap[be]? =some (.cells #[.int .i64 0] 28 (0,0)):=by
 have hne1:be≠b:=by rintro rfl;obtain⟨_,_,h1,_⟩:=hs;rw[h1] at he;simp at he
 have hne2:be≠g:=by rintro rfl;obtain⟨_,_,_,h1,_⟩:=hs;rw[h1] at he;simp at he
 have hne3:be≠bb:=by rintro rfl;rw[he] at hb;simp at hb
 have hne4:be≠bs:=by rintro rfl;rw[he] at hsb;simp at hsb
 have hne5:be≠bi:=by rintro rfl;rw[he] at hib;simp at hib
 refine callsD_of_wpS Tryz.func289 rfl fun c₀ cs hu=> ?_
 apply wpS_seq
 apply wpS_region
 simp[wpOpsS,go_sem,recoverD,hu,Tryz.ntmps289,Exit.thenS,placeV]
 apply wpS_seq
 refine wpS_region_draw (by kernel_rfl) (fun l hl=> ?_)
 have hal:=(Fr.refl (fun _=>False) w).alloc (.cells #[.int .i64 e.read,.int .u32 e.rng,.int .u32 e.now] 379)
 have hbx:=heap_alloc_new w (.cells #[.int .i64 e.read,.int .u32 e.rng,.int .u32 e.now] 379)
 have k1:=cell_in (i:=0) (hal.keep hd (fun h=>h)) rfl
 obtain⟨k2,k3,k4⟩:=cs3 hbx rfl rfl rfl
 replace hl:l ∈ ([[0,1,2,3,4],[0,2,1,3,4],[1,0,2,3,4],[1,2,0,3,4],[2,0,1,3,4],[2,1,0,3,4]]:List (List Nat)):=Eq.mp (congrArg (fun L=>l ∈ L) (by kernel_rfl)) hl
 simp only[List.mem_cons,List.not_mem_nil,or_false] at hl
 rcases hl with rfl|rfl|rfl|rfl|rfl|rfl
 all_goals simp[wpOpsS,go_sem,recoverD,hu,Exit.thenS,k1,k2,k3,k4]
 all_goals
  refine(back_nil B e _).mono ?_
  rintro r w2 ⟨rfl,hfr2⟩
  have hfr2':=hal.drew.trans hfr2
  have he2:=hfr2'.keep he (fun h=>h)
  have c1:=cell_in (i:=0) he2 rfl
  have f1:=frozen_in he2 0
  simp[c1,f1,storeCells,go_sem]
  have he3:(w2.setCell ⟨be,0,none⟩ (.int .i64 0)).heap[be]? =some (.cells #[.int .i64 0] 28 (0,0)):=set_in he2 0 _
  have hfr3:Fr (fun k=>k=be) w (w2.setCell ⟨be,0,none⟩ (.int .i64 0)):=(hfr2'.mono (fun _ _ h=>h.elim)).trans (Fr.one w2 be 0 (.int .i64 0))
  generalize w2.setCell ⟨be,0,none⟩ (.int .i64 0)=w3 at*
  have hs3:=hs.step hfr3 (fun h=>hne1 h.symm) (fun h=>hne2 h.symm)
  have c3:=cell_in (i:=0) he3 rfl
  have c4:=cell_in (i:=0) (hfr3.keep hb (fun h=>hne3 h.symm)) rfl
  have c5:=cell_in (i:=0) (hfr3.keep hsb (fun h=>hne4 h.symm)) rfl
  have c6:=cell_in (i:=0) (hfr3.keep hib (fun h=>hne5 h.symm)) rfl
  apply wpS_seq
  apply wpS_region
  simp[wpOpsS,go_sem,Exit.thenS,c3]
  refine wpS_cond (t:=false) (by simp[Act.eval]) ?_
  simp only[Bool.false_eq_true,if_false]
  apply wpS_region
  simp[wpOpsS,go_sem,c4,c5,c6,bodyPostS,results,Tryz.results289]
  refine(Prob.turn_set b g i p v ps w3 hs3 hp).mono ?_
  rintro r w4 ⟨rfl,hfr4,hs4⟩
  simp
  exact⟨.returning,by cases c₀;simp_all,rfl,(hfr3.mono (fun _ _ h=>.inr h)).trans (hfr4.mono (fun _ _ h=>.inl h)),hs4,hfr4.keep he3 hne2⟩
end Rc
namespace Rc
open Mem
theorem five(w:World)(o1 o2 o3 o4 o5:Obj):Fr (fun _=>False) w (((((w.alloc o1).alloc o2).alloc o3).alloc o4).alloc o5)∧(((((w.alloc o1).alloc o2).alloc o3).alloc o4).alloc o5).heap.size=w.heap.size+5∧
 (((((w.alloc o1).alloc o2).alloc o3).alloc o4).alloc o5).heap[w.heap.size]? =some o1∧(((((w.alloc o1).alloc o2).alloc o3).alloc o4).alloc o5).heap[w.heap.size+1]? =some o2∧(((((w.alloc o1).alloc o2).alloc o3).alloc o4).alloc o5).heap[w.heap.size+1+1]? =some o3∧
 (((((w.alloc o1).alloc o2).alloc o3).alloc o4).alloc o5).heap[w.heap.size+1+1+1]? =some o4∧(((((w.alloc o1).alloc o2).alloc o3).alloc o4).alloc o5).heap[w.heap.size+1+1+1+1]? =some o5:=by
 have k:=fun(W:World)(o:Obj)=>(Fr.refl (fun _=>False) W).alloc o
 have h1:=heap_alloc_new w o1
 have h2:=heap_alloc_new (w.alloc o1) o2
 have h3:=heap_alloc_new ((w.alloc o1).alloc o2) o3
 have h4:=heap_alloc_new (((w.alloc o1).alloc o2).alloc o3) o4
 have h5:=heap_alloc_new ((((w.alloc o1).alloc o2).alloc o3).alloc o4) o5
 simp only[World.size_alloc] at h2 h3 h4 h5
 exact⟨((((k w o1).alloc o2).alloc o3).alloc o4).alloc o5,by simp,((((k _ o2).alloc o3).alloc o4).alloc o5).keep h1 (fun h=>h),(((k _ o3).alloc o4).alloc o5).keep h2 (fun h=>h),((k _ o4).alloc o5).keep h3 (fun h=>h),(k _ o5).keep h4 (fun h=>h),h5⟩
set_option maxRecDepth 100000 in
theorem bit_out(B b g i:Nat)(bv:Value)(d:D)(ps:List Nat)(w:World)(hs:Prob.SetAt w b g ps)(hp:ps[i]? =none):
 Calls Tryz.prog 270 #[.pointer (some ⟨B,0,none⟩),.pointer (some ⟨b,0,none⟩),.int .i64 i] w fun r w'=>r=.returned (.tuple #[.int .i64 0,.int .i64 7])∧Fr (fun _=>False) w w':=by
 have hmf:∀(fn:Fn)(first cap:Array Value)(w:World),(Instr.makeFunc fn first cap).run Tryz.prog w=.ok (.func fn first cap) w:=fun _ _ _ _=>rfl
 have hfr:Fr (fun _=>False) w (((((w.alloc (.cells #[.pointer (some ⟨B,0,none⟩)] 339)).alloc (.cells #[.pointer (some ⟨b,0,none⟩)] 211)).alloc (.cells #[.int .i64 i] 3)).alloc (.cells #[.int .i64 0] 3)).alloc (.cells #[.int .i64 0] 28)):=(((((Fr.refl _ _).alloc _).alloc _).alloc _).alloc _).alloc _
 have HS:=Hd (hs.keep hfr)
 have HF:=Hd hfr
 clear hs hfr
 go_enter_defers Tryz.func270,Tryz.ntmps270
 go_wp2_with fail
 refine(Prob.at_none b g i ps _ HS.out hp).mono ?_
 rintro e w' ⟨rfl,rfl⟩
 go_wp2_with fail
 go_region
 all_goals go_wp2_with fail
 simp[bodyPostD,Leaves,settle,results,Tryz.results270,go_sem]
 exact((((((Fr.refl _ _).alloc _).alloc _).alloc _).alloc _).alloc _).drew
theorem bound_cut(r p:Nat)(w:World)(hr:r≤4294967295)(hp:p≤2047):Calls Tryz.prog 293 #[.int .u32 r,.int .i64 p] w fun e w'=>e=.returned (.int .u32 (cutAt r p:Nat))∧w=w':=by
 refine(Prob.boundR_calls r p w (by omega) (by omega)).mono ?_
 rintro e w' ⟨rfl,rfl⟩
 refine⟨?_,rfl⟩
 have:Prob.bnd (r:Int) (p:Int)=((cutAt r p:Nat):Int):=by
  unfold Prob.bnd cutAt
  rw[Prob.taken_id _ (by omega) (by omega)]
  simp
 rw[this]
theorem widen_some(B:Nat)(bv:Value)(d e:D)(w:World)(h:At w B bv d)(hok:d.ok)(hr:d.widen=some e):
 Calls Tryz.prog 294 #[.pointer (some ⟨B,0,none⟩)] w fun r w'=>r=.returned (.tuple #[])∧Fr (fun k=>k=B) w w'∧At w' B bv e:=by
 by_cases hlt:d.rng<16777216
 ·exact widen_step B bv d e w h hok hlt hr
 ·have he:e=d:=by
   unfold D.widen at hr
   rw[if_pos (by omega)] at hr
   exact(Option.some.inj hr).symm
  subst he
  refine(widen_keep B bv e w h (by omega)).mono ?_
  rintro r w' ⟨rfl,rfl⟩
  exact⟨rfl,Fr.refl _ _,h⟩
set_option maxRecDepth 100000 in
theorem bit_in(B b g i p v:Nat)(bv:Value)(d e:D)(ps:List Nat)(w:World)(h:At w B bv d)(hok:d.ok)(hs:Prob.SetAt w b g ps)(hp:ps[i]? =some p)(hbit:d.bit p=some (v,e)):
 Calls Tryz.prog 270 #[.pointer (some ⟨B,0,none⟩),.pointer (some ⟨b,0,none⟩),.int .i64 i] w fun r w'=>r=.returned (.tuple #[.int .i64 v,.int .i64 0])∧Fr (fun k=>k=B∨k=g) w w'∧At w' B bv e∧Prob.SetAt w' b g (ps.set i (Prob.nextN p v)):=by
 have hmf:∀(fn:Fn)(first cap:Array Value)(w:World),(Instr.makeFunc fn first cap).run Tryz.prog w=.ok (.func fn first cap) w:=fun _ _ _ _=>rfl
 obtain⟨hfr,hsz,b1,b2,b3,b4,b5⟩:=five w (.cells #[.pointer (some ⟨B,0,none⟩)] 339) (.cells #[.pointer (some ⟨b,0,none⟩)] 211) (.cells #[.int .i64 i] 3) (.cells #[.int .i64 0] 3) (.cells #[.int .i64 0] 28)
 have hA:=h.keep hfr (fun h=>h) (fun _ _ h=>h)
 obtain⟨c0,c1,c2,c3,cf⟩:=hA.cells
 have HS:=Hd (hs.keep hfr)
 have HF:=Hd hfr
 have HA:=Hd hA
 have HB:=Hd (And.intro b1 (And.intro b2 (And.intro b3 (And.intro b4 b5))))
 have HSZ:=Hd hsz
 have hBl:=lt_of_block h.1
 have hgl:=hs.lt
 have hp2:p≤2047:=by obtain⟨_,_,_,_,_,_,h9,_⟩:=hs;exact(h9 i p hp).2
 clear hs hfr h hA b1 b2 b3 b4 b5 hsz cf
 go_enter_defers Tryz.func270,Tryz.ntmps270
 go_wp2_with fail
 refine(Prob.at_set b g i p ps _ HS.out hp).mono ?_
 rintro e w' ⟨rfl,rfl⟩
 go_wp2_with fail
 have hcl:=cutAt_lt (r:=d.rng) (p:=p) (by have:=hok.1;omega) hp2
 have hup:=D.upper_ok hok hcl
 obtain⟨hv,hw⟩:(d.upper (cutAt d.rng p)).1=v∧(d.upper (cutAt d.rng p)).2.widen=some e:=by
  unfold D.bit at hbit
  cases hw:(d.upper (cutAt d.rng p)).2.widen with
  |none=>rw[hw] at hbit;cases hbit
  |some x=>
    rw[hw] at hbit
    simp only[Option.map_some,Option.some.injEq,Prod.mk.injEq] at hbit
    exact⟨hbit.1,by rw[hbit.2]⟩
 rw[hv] at hup
 generalize hz:w.heap.size=z at*
 generalize World.alloc (World.alloc (World.alloc (World.alloc (World.alloc w _) _) _) _) _=W at*
 obtain⟨b1,b2,b3,b4,b5⟩:=HB.out
 have hdr:=(Fr.refl (fun _=>False) W).drew
 have x1:W.drew.cell? ⟨z,0,none⟩=some (.pointer (some ⟨B,0,none⟩)):=cell_in b1 rfl
 have x2:W.drew.cell? ⟨B,2,none⟩=some (.int .u32 d.rng):=c2
 have HUP:=Hd hup
 have HW:=Hd hw
 have HV:=Hd hv
 have HAD:=Hd (HA.out.keep hdr (fun h=>h) (fun _ _ h=>h))
 have hrl:d.rng≤4294967295:=by have:=hok.2.1;omega
 clear hup hw hv hbit b1 b2 b3 b4 b5 c0 c1 c2 c3 hdr
 refine wp_region_noPanic ?_
 go_region_with ((first
  |(go_at_call 293;refine(bound_cut d.rng p _ hrl hp2).mono ?_;rintro e w' ⟨rfl,rfl⟩)
  | (go_at_call 292
     refine(upper_calls B bv d (cutAt d.rng p) _ HAD.out hok hcl).mono ?_
     rintro e w9 ⟨rfl,hfr9,hA9⟩
     rw[HV.out]
     have HA9:=Hd hA9
     have HF9:=Hd hfr9
     clear hA9 hfr9)))
 all_goals
  refine NoPanic.normal ?_
  have hA9:=HA9.out
  have hdb:=HF9.out.keep (HB.out.1:W.drew.heap[z]? =_) (by omega)
  have hbb:=HF9.out.keep (HB.out.2.2.2.1:W.drew.heap[z+1+1+1]? =_) (by omega)
  have heb:=HF9.out.keep (HB.out.2.2.2.2:W.drew.heap[z+1+1+1+1]? =_) (by omega)
  have cb:=cell_in (i:=0) hbb rfl
  have fb:=frozen_in hbb 0
  have hbl9:0<(d.upper (cutAt d.rng p)).2.b.length:=HUP.out.1.2.2.2.2
  have hbl10:0<e.b.length:=(D.widen_ok HUP.out.1 HW.out).1.2.2.2.2
  have hv1:v≤1:=HUP.out.2.2
  have hbB:b≠B:=by
   obtain⟨_,_,h1,_⟩:=HS.out
   rintro rfl
   rw[HA.out.1] at h1
   simp at h1
  have hgB:g≠B:=by
   obtain⟨_,_,_,h1,_⟩:=HS.out
   rintro rfl
   rw[HA.out.1] at h1
   simp at h1
  rcases(show v=0∨v=1 by omega) with rfl|rfl
  ·
   have hA9b:=hA9
   have hbb1:=hbb
   have hdb1:=hdb
   have heb1:=heb
   have hF9b:=HF9.out.mono (T:=fun k=>k=B∨k=z+1+1+1∨k=z+1+1+1+1) (fun _ _ h=>.inl h)
   have c0:=cell_in (i:=0) hdb1 rfl
   go_wp2_with fail
   refine(widen_some B bv (d.upper (cutAt d.rng p)).2 e _ hA9b HUP.out.1 HW.out).mono ?_
   rintro r w10 ⟨rfl,hfr10,hA10⟩
   have hbb2:=hfr10.keep hbb1 (by omega)
   have heb2:=hfr10.keep heb1 (by omega)
   have hF10:=hF9b.trans (hfr10.mono (fun _ _ h=>.inl h))
   have k1:=cell_in (i:=0) hbb2 rfl
   have k2:=frozen_in hbb2 0
   have hbb3:(w10.setCell ⟨z+1+1+1,0,none⟩ (.int .i64 0)).heap[z+1+1+1]? =some (.cells #[.int .i64 0] 3 (0,0)):=set_in hbb2 0 _
   have heb3:=set_out (i:=0) heb2 (show z+1+1+1+1≠z+1+1+1 by omega) (.int .i64 0)
   have k3:=cell_in (i:=0) heb3 rfl
   have k4:=frozen_in heb3 0
   have heb4:((w10.setCell ⟨z+1+1+1,0,none⟩ (.int .i64 0)).setCell ⟨z+1+1+1+1,0,none⟩ (.int .i64 0)).heap[z+1+1+1+1]? =some (.cells #[.int .i64 0] 28 (0,0)):=set_in heb3 0 _
   have hf12:=(Fr.one w10 (z+1+1+1) 0 (.int .i64 0)).mono (T:=fun k=>k=z+1+1+1∨k=z+1+1+1+1) (fun _ _ h=>.inl h)|>.trans ((Fr.one _ (z+1+1+1+1) 0 (.int .i64 0)).mono (fun _ _ h=>.inr h))
   have hbb4:=set_out (i:=0) hbb3 (show z+1+1+1≠z+1+1+1+1 by omega) (.int .i64 0)
   go_wp2_with fail
   generalize(w10.setCell ⟨z+1+1+1,0,none⟩ (.int .i64 0)).setCell ⟨z+1+1+1+1,0,none⟩ (.int .i64 0)=w11 at*
   have hF11:=(Fr.refl (fun k=>k=B∨k=z+1+1+1∨k=z+1+1+1+1) W).drew.trans (hF10.trans (hf12.mono (fun k _ h=>.inr h)))
   have hA11:=hA10.keep hf12 (fun h=>by omega) (fun k hk h=>by
    rcases h with h|h
    ·exact rd_off hA10.2 hbl10 hbb2 (no_byte1 (by simp)) k hk h
    ·exact rd_off hA10.2 hbl10 heb2 (no_byte1 (by simp)) k hk h)
   refine leaves_cons (f:=289) (args:=#[placeV d,.pointer (some ⟨z,0,none⟩),.pointer (some ⟨z+1+1+1+1,0,none⟩),.pointer (some ⟨z+1+1+1,0,none⟩),.pointer (some ⟨z+1,0,none⟩),.pointer (some ⟨z+1+1,0,none⟩)]) (by simp) (by simp[go_sem,placeV]) ?_
   refine(catch_ok B z (z+1+1+1+1) (z+1+1+1) (z+1) (z+1+1) b g i p 0 ps d 0 w11 (HS.out.step hF11 (fun h=>by omega) (fun h=>by omega)) hp (hF11.keep HB.out.1 (fun h=>by omega)) heb4 hbb4 (hF11.keep HB.out.2.1 (fun h=>by omega)) (hF11.keep HB.out.2.2.1 (fun h=>by omega))).mono ?_
   rintro r u w12 ⟨rfl,rfl,hfr12,hs12,he12⟩
   have hbb5:=hfr12.keep hbb4 (fun h=>by omega)
   have m1:=cell_in (i:=0) hbb5 rfl
   have m2:=cell_in (i:=0) he12 rfl
   simp[Leaves,settle,results,Tryz.results270,go_sem,m1,m2]
   have hsall:=(hF11.mono (T:=fun k=>(k=B∨k=g)∨k=z+1+1+1∨k=z+1+1+1+1) (fun _ _ h=>by omega)).trans (hfr12.mono (fun _ _ h=>by omega))
   have hsA:=HS.out.step hF11 (fun h=>by omega) (fun h=>by omega)
   exact⟨(HF.out.mono (fun _ _ h=>h.elim)).trans' hsall (fun k hk h=>by omega),hA11.keep hfr12 (fun h=>by omega) (fun k hk h=>by
    rcases h with h|h
    ·exact hsA.off hA11.2 hbl10 k hk h
    ·exact rd_off hA11.2 hbl10 heb4 (no_byte1 (by simp)) k hk h),hs12⟩
  ·
   have hbb1:(w9.setCell ⟨z+1+1+1,0,none⟩ (.int .i64 1)).heap[z+1+1+1]? =some (.cells #[.int .i64 1] 3 (0,0)):=set_in hbb 0 _
   have hf1:=Fr.one w9 (z+1+1+1) 0 (.int .i64 1)
   have hA9b:=hA9.keep hf1 (fun h=>by omega) (fun k hk h=>rd_off hA9.2 hbl9 hbb (no_byte1 (by simp)) k hk h)
   have hdb1:=hf1.keep hdb (fun h=>by omega)
   have heb1:=hf1.keep heb (fun h=>by omega)
   have hF9b:=HF9.out.mono (T:=fun k=>k=B∨k=z+1+1+1∨k=z+1+1+1+1) (fun _ _ h=>.inl h)|>.trans (hf1.mono (fun k _ h=>.inr (.inl h)))
   have c0:=cell_in (i:=0) hdb1 rfl
   go_wp2_with fail
   generalize w9.setCell ⟨z+1+1+1,0,none⟩ (.int .i64 1)=w9b at*
   refine(widen_some B bv (d.upper (cutAt d.rng p)).2 e _ hA9b HUP.out.1 HW.out).mono ?_
   rintro r w10 ⟨rfl,hfr10,hA10⟩
   have hbb2:=hfr10.keep hbb1 (by omega)
   have heb2:=hfr10.keep heb1 (by omega)
   have hF10:=hF9b.trans (hfr10.mono (fun _ _ h=>.inl h))
   have k1:=cell_in (i:=0) hbb2 rfl
   have k2:=frozen_in hbb2 0
   have hbb3:(w10.setCell ⟨z+1+1+1,0,none⟩ (.int .i64 1)).heap[z+1+1+1]? =some (.cells #[.int .i64 1] 3 (0,0)):=set_in hbb2 0 _
   have heb3:=set_out (i:=0) heb2 (show z+1+1+1+1≠z+1+1+1 by omega) (.int .i64 1)
   have k3:=cell_in (i:=0) heb3 rfl
   have k4:=frozen_in heb3 0
   have heb4:((w10.setCell ⟨z+1+1+1,0,none⟩ (.int .i64 1)).setCell ⟨z+1+1+1+1,0,none⟩ (.int .i64 0)).heap[z+1+1+1+1]? =some (.cells #[.int .i64 0] 28 (0,0)):=set_in heb3 0 _
   have hf12:=(Fr.one w10 (z+1+1+1) 0 (.int .i64 1)).mono (T:=fun k=>k=z+1+1+1∨k=z+1+1+1+1) (fun _ _ h=>.inl h)|>.trans ((Fr.one _ (z+1+1+1+1) 0 (.int .i64 0)).mono (fun _ _ h=>.inr h))
   have hbb4:=set_out (i:=0) hbb3 (show z+1+1+1≠z+1+1+1+1 by omega) (.int .i64 0)
   go_wp2_with fail
   generalize(w10.setCell ⟨z+1+1+1,0,none⟩ (.int .i64 1)).setCell ⟨z+1+1+1+1,0,none⟩ (.int .i64 0)=w11 at*
   have hF11:=(Fr.refl (fun k=>k=B∨k=z+1+1+1∨k=z+1+1+1+1) W).drew.trans (hF10.trans (hf12.mono (fun k _ h=>.inr h)))
   have hA11:=hA10.keep hf12 (fun h=>by omega) (fun k hk h=>by
    rcases h with h|h
    ·exact rd_off hA10.2 hbl10 hbb2 (no_byte1 (by simp)) k hk h
    ·exact rd_off hA10.2 hbl10 heb2 (no_byte1 (by simp)) k hk h)
   refine leaves_cons (f:=289) (args:=#[placeV d,.pointer (some ⟨z,0,none⟩),.pointer (some ⟨z+1+1+1+1,0,none⟩),.pointer (some ⟨z+1+1+1,0,none⟩),.pointer (some ⟨z+1,0,none⟩),.pointer (some ⟨z+1+1,0,none⟩)]) (by simp) (by simp[go_sem,placeV]) ?_
   refine(catch_ok B z (z+1+1+1+1) (z+1+1+1) (z+1) (z+1+1) b g i p 1 ps d 0 w11 (HS.out.step hF11 (fun h=>by omega) (fun h=>by omega)) hp (hF11.keep HB.out.1 (fun h=>by omega)) heb4 hbb4 (hF11.keep HB.out.2.1 (fun h=>by omega)) (hF11.keep HB.out.2.2.1 (fun h=>by omega))).mono ?_
   rintro r u w12 ⟨rfl,rfl,hfr12,hs12,he12⟩
   have hbb5:=hfr12.keep hbb4 (fun h=>by omega)
   have m1:=cell_in (i:=0) hbb5 rfl
   have m2:=cell_in (i:=0) he12 rfl
   simp[Leaves,settle,results,Tryz.results270,go_sem,m1,m2]
   have hsall:=(hF11.mono (T:=fun k=>(k=B∨k=g)∨k=z+1+1+1∨k=z+1+1+1+1) (fun _ _ h=>by omega)).trans (hfr12.mono (fun _ _ h=>by omega))
   have hsA:=HS.out.step hF11 (fun h=>by omega) (fun h=>by omega)
   exact⟨(HF.out.mono (fun _ _ h=>h.elim)).trans' hsall (fun k hk h=>by omega),hA11.keep hfr12 (fun h=>by omega) (fun k hk h=>by
    rcases h with h|h
    ·exact hsA.off hA11.2 hbl10 k hk h
    ·exact rd_off hA11.2 hbl10 heb4 (no_byte1 (by simp)) k hk h),hs12⟩
set_option maxRecDepth 100000 in
theorem bit_short(B b g i p:Nat)(bv:Value)(d:D)(ps:List Nat)(w:World)(h:At w B bv d)(hok:d.ok)(hs:Prob.SetAt w b g ps)(hp:ps[i]? =some p)(hbit:d.bit p=none):
 Calls Tryz.prog 270 #[.pointer (some ⟨B,0,none⟩),.pointer (some ⟨b,0,none⟩),.int .i64 i] w fun r w'=>r=.returned (.tuple #[.int .i64 0,.int .i64 1])∧Fr (fun k=>k=B) w w'∧At w' B bv d:=by
 have hmf:∀(fn:Fn)(first cap:Array Value)(w:World),(Instr.makeFunc fn first cap).run Tryz.prog w=.ok (.func fn first cap) w:=fun _ _ _ _=>rfl
 obtain⟨hfr,hsz,b1,b2,b3,b4,b5⟩:=five w (.cells #[.pointer (some ⟨B,0,none⟩)] 339) (.cells #[.pointer (some ⟨b,0,none⟩)] 211) (.cells #[.int .i64 i] 3) (.cells #[.int .i64 0] 3) (.cells #[.int .i64 0] 28)
 have hA:=h.keep hfr (fun h=>h) (fun _ _ h=>h)
 obtain⟨c0,c1,c2,c3,cf⟩:=hA.cells
 have HS:=Hd (hs.keep hfr)
 have HF:=Hd hfr
 have HA:=Hd hA
 have HB:=Hd (And.intro b1 (And.intro b2 (And.intro b3 (And.intro b4 b5))))
 have HSZ:=Hd hsz
 have hBl:=lt_of_block h.1
 have hgl:=hs.lt
 have hp2:p≤2047:=by obtain⟨_,_,_,_,_,_,h9,_⟩:=hs;exact(h9 i p hp).2
 clear hs hfr h hA b1 b2 b3 b4 b5 hsz cf
 go_enter_defers Tryz.func270,Tryz.ntmps270
 go_wp2_with fail
 refine(Prob.at_set b g i p ps _ HS.out hp).mono ?_
 rintro e w' ⟨rfl,rfl⟩
 go_wp2_with fail
 have hcl:=cutAt_lt (r:=d.rng) (p:=p) (by have:=hok.1;omega) hp2
 have hup:=D.upper_ok hok hcl
 generalize hv:(d.upper (cutAt d.rng p)).1=v at*
 have hw:(d.upper (cutAt d.rng p)).2.widen=none:=by
  unfold D.bit at hbit
  cases hw:(d.upper (cutAt d.rng p)).2.widen with
  |none=>rfl
  |some x=>rw[hw] at hbit;cases hbit
 generalize hz:w.heap.size=z at*
 generalize World.alloc (World.alloc (World.alloc (World.alloc (World.alloc w _) _) _) _) _=W at*
 obtain⟨b1,b2,b3,b4,b5⟩:=HB.out
 have hdr:=(Fr.refl (fun _=>False) W).drew
 have x1:W.drew.cell? ⟨z,0,none⟩=some (.pointer (some ⟨B,0,none⟩)):=cell_in b1 rfl
 have x2:W.drew.cell? ⟨B,2,none⟩=some (.int .u32 d.rng):=c2
 have HUP:=Hd hup
 have HW:=Hd hw
 have HV:=Hd hv
 have HAD:=Hd (HA.out.keep hdr (fun h=>h) (fun _ _ h=>h))
 have hrl:d.rng≤4294967295:=by have:=hok.2.1;omega
 clear hup hw hv hbit b1 b2 b3 b4 b5 c0 c1 c2 c3 hdr
 refine wp_region_noPanic ?_
 go_region_with ((first
  |(go_at_call 293;refine(bound_cut d.rng p _ hrl hp2).mono ?_;rintro e w' ⟨rfl,rfl⟩)
  | (go_at_call 292
     refine(upper_calls B bv d (cutAt d.rng p) _ HAD.out hok hcl).mono ?_
     rintro e w9 ⟨rfl,hfr9,hA9⟩
     rw[HV.out]
     have HA9:=Hd hA9
     have HF9:=Hd hfr9
     clear hA9 hfr9)))
 all_goals
  refine NoPanic.normal ?_
  have hA9:=HA9.out
  have hdb:=HF9.out.keep (HB.out.1:W.drew.heap[z]? =_) (by omega)
  have hbb:=HF9.out.keep (HB.out.2.2.2.1:W.drew.heap[z+1+1+1]? =_) (by omega)
  have heb:=HF9.out.keep (HB.out.2.2.2.2:W.drew.heap[z+1+1+1+1]? =_) (by omega)
  have cb:=cell_in (i:=0) hbb rfl
  have fb:=frozen_in hbb 0
  have hbl9:0<(d.upper (cutAt d.rng p)).2.b.length:=HUP.out.1.2.2.2.2
  have hv1:v≤1:=HUP.out.2.2
  have hbB:b≠B:=by
   obtain⟨_,_,h1,_⟩:=HS.out
   rintro rfl
   rw[HA.out.1] at h1
   simp at h1
  have hgB:g≠B:=by
   obtain⟨_,_,_,h1,_⟩:=HS.out
   rintro rfl
   rw[HA.out.1] at h1
   simp at h1
  rcases(show v=0∨v=1 by omega) with rfl|rfl
  ·
   have hA9b:=hA9
   have hbb1:=hbb
   have hdb1:=hdb
   have heb1:=heb
   have hF9b:=HF9.out.mono (T:=fun k=>k=B∨k=z+1+1+1∨k=z+1+1+1+1) (fun _ _ h=>.inl h)
   have c0:=cell_in (i:=0) hdb1 rfl
   go_wp2_with fail
   refine(widen_none B bv (d.upper (cutAt d.rng p)).2 _ hA9b HUP.out.1 HW.out).mono ?_
   rintro r w10 ⟨rfl,hfr10⟩
   have hbb2:=hfr10.keep hbb1 (fun h=>h)
   have heb2:=hfr10.keep heb1 (fun h=>h)
   have hdb2:=hfr10.keep hdb1 (fun h=>h)
   have hF10:=(Fr.refl (fun k=>k=B∨k=z+1+1+1∨k=z+1+1+1+1) W).drew.trans (hF9b.trans (hfr10.mono (fun _ _ h=>h.elim)))
   have hA10:=hA9b.keep hfr10 (fun h=>h) (fun _ _ h=>h)
   refine leaves_cons (f:=289) (args:=#[placeV d,.pointer (some ⟨z,0,none⟩),.pointer (some ⟨z+1+1+1+1,0,none⟩),.pointer (some ⟨z+1+1+1,0,none⟩),.pointer (some ⟨z+1,0,none⟩),.pointer (some ⟨z+1+1,0,none⟩)]) (by simp) (by simp[go_sem,placeV]) ?_
   refine(catch_bad B z (z+1+1+1+1) (z+1+1+1) (z+1) (z+1+1) bv (d.upper (cutAt d.rng p)).2 d 1 0 0 [] w10 hA10 hbl9 HUP.out.2.1.symm hdb2 heb2 hbb2 (by omega)).mono ?_
   rintro r u w12 ⟨rfl,rfl,hfr12,hA12,he12,hb12⟩
   have m1:=cell_in (i:=0) hb12 rfl
   have m2:=cell_in (i:=0) he12 rfl
   simp[Leaves,settle,results,Tryz.results270,go_sem,m1,m2]
   have hsall:=(hF10.mono (T:=fun k=>k=B∨k=z+1+1+1∨k=z+1+1+1+1) (fun _ _ h=>h)).trans (hfr12.mono (fun _ _ h=>by omega))
   exact⟨(HF.out.mono (fun _ _ h=>h.elim)).trans' hsall (fun k hk h=>by omega),hA12⟩
  ·
   have hbb1:(w9.setCell ⟨z+1+1+1,0,none⟩ (.int .i64 1)).heap[z+1+1+1]? =some (.cells #[.int .i64 1] 3 (0,0)):=set_in hbb 0 _
   have hf1:=Fr.one w9 (z+1+1+1) 0 (.int .i64 1)
   have hA9b:=hA9.keep hf1 (fun h=>by omega) (fun k hk h=>rd_off hA9.2 hbl9 hbb (no_byte1 (by simp)) k hk h)
   have hdb1:=hf1.keep hdb (fun h=>by omega)
   have heb1:=hf1.keep heb (fun h=>by omega)
   have hF9b:=HF9.out.mono (T:=fun k=>k=B∨k=z+1+1+1∨k=z+1+1+1+1) (fun _ _ h=>.inl h)|>.trans (hf1.mono (fun k _ h=>.inr (.inl h)))
   have c0:=cell_in (i:=0) hdb1 rfl
   go_wp2_with fail
   generalize w9.setCell ⟨z+1+1+1,0,none⟩ (.int .i64 1)=w9b at*
   refine(widen_none B bv (d.upper (cutAt d.rng p)).2 _ hA9b HUP.out.1 HW.out).mono ?_
   rintro r w10 ⟨rfl,hfr10⟩
   have hbb2:=hfr10.keep hbb1 (fun h=>h)
   have heb2:=hfr10.keep heb1 (fun h=>h)
   have hdb2:=hfr10.keep hdb1 (fun h=>h)
   have hF10:=(Fr.refl (fun k=>k=B∨k=z+1+1+1∨k=z+1+1+1+1) W).drew.trans (hF9b.trans (hfr10.mono (fun _ _ h=>h.elim)))
   have hA10:=hA9b.keep hfr10 (fun h=>h) (fun _ _ h=>h)
   refine leaves_cons (f:=289) (args:=#[placeV d,.pointer (some ⟨z,0,none⟩),.pointer (some ⟨z+1+1+1+1,0,none⟩),.pointer (some ⟨z+1+1+1,0,none⟩),.pointer (some ⟨z+1,0,none⟩),.pointer (some ⟨z+1+1,0,none⟩)]) (by simp) (by simp[go_sem,placeV]) ?_
   refine(catch_bad B z (z+1+1+1+1) (z+1+1+1) (z+1) (z+1+1) bv (d.upper (cutAt d.rng p)).2 d 1 1 0 [] w10 hA10 hbl9 HUP.out.2.1.symm hdb2 heb2 hbb2 (by omega)).mono ?_
   rintro r u w12 ⟨rfl,rfl,hfr12,hA12,he12,hb12⟩
   have m1:=cell_in (i:=0) hb12 rfl
   have m2:=cell_in (i:=0) he12 rfl
   simp[Leaves,settle,results,Tryz.results270,go_sem,m1,m2]
   have hsall:=(hF10.mono (T:=fun k=>k=B∨k=z+1+1+1∨k=z+1+1+1+1) (fun _ _ h=>h)).trans (hfr12.mono (fun _ _ h=>by omega))
   exact⟨(HF.out.mono (fun _ _ h=>h.elim)).trans' hsall (fun k hk h=>by omega),hA12⟩
end Rc
end Go.Proofs.YtffoddpjfgjelaaGreatDoor
