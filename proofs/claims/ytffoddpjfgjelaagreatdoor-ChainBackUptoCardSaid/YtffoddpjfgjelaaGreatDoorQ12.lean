/- Part 12 of 48: lemmas of the last part, each under the conditions that it names. -/
import Derived.Deep.QuietTactic
import Derived.BigQuiet
import Derived.LoopN
import Derived.Test.YtffoddpjfgjelaaGreatDoorQ11
set_option linter.unusedVariables false
set_option linter.unusedSimpArgs false
set_option maxRecDepth 1500
set_option maxHeartbeats 4000000
namespace Go.Proofs.YtffoddpjfgjelaaGreatDoor
open Go.RowKit
namespace Tr
open Mem Rc
def thereB(ps:List Nat)(a n:Nat):Bool:=decide (n≤16∧a≤ps.length∧2^n≤ps.length-a)
set_option maxRecDepth 100000 in
theorem there_calls(b g a n:Nat)(ps:List Nat)(w:World)(h:Prob.SetAt w b g ps)(ha:a≤1099511627776)(hn:n≤1099511627776)(hl:ps.length≤1099511627776):
 Calls Tryz.prog 315 #[.pointer (some ⟨b,0,none⟩),.int .i64 a,.int .i64 n] w fun e w'=>e=.returned (.bool (thereB ps a n))∧Fr (fun _=>False) w w':=by
 have hlen:∀m,Calls Tryz.prog 319 #[.pointer (some ⟨b,0,none⟩)] (w.drewN m) fun e w'=>e=.returned (.int .i64 ps.length)∧w.drewN m=w':=fun m=>slen_calls b g ps _ (h.keep ((Fr.refl _ _).drewN m))
 generalize hq:thereB ps a n=q
 have HQ:=Hd hq
 have HLEN:=Hd hlen
 clear hq h hlen
 unfold thereB at HQ
 generalize ps.length=l at*
 have z1:decide ((n:Int)≥0)=true:=by simp
 have z2:decide ((0:Int)≤(n:Int))=true:=by simp
 have z3:decide ((a:Int)≥0)=true:=by simp
 have z4:decide ((0:Int)≤(a:Int))=true:=by simp
 by_cases h1:n≤16
 ·have t1:decide ((n:Int)≤16)=true:=by simp;omega
  by_cases h2:a≤l
  ·have t2:decide ((a:Int)≤(l:Int))=true:=by simp;omega
   have hp:2^n≤65536:=Nat.le_trans (Nat.pow_le_pow_right (by omega) h1) (by decide)
   have hpi:((2^n:Nat):Int)=2^n:=by simp
   have hw2:IntKind.i64.wrap (2^n)=2^n:=by
    rw[←hpi]
    have k1:=Int.natCast_nonneg (2^n)
    have k2:((2^n:Nat):Int)≤((65536:Nat):Int):=Int.ofNat_le.2 hp
    exact IntWalk.i64_in _ ⟨Int.le_trans (by decide) k1,Int.le_trans k2 (by decide)⟩
   have hw:IntKind.i64.wrap (1*2^n)=2^n:=by rw[Int.one_mul];exact hw2
   have hmin:min n 64=n:=by omega
   by_cases h3:2^n≤l-a
   ·have t3:decide ((2:Int)^n≤(l:Int)-a)=true:=by rw[←hpi];simp only[decide_eq_true_eq];omega
    clear hpi hp
    go_enter Tryz.func315,Tryz.ntmps315
    go_wp2_with fail
    go_quiet (exact quiet_left (HLEN.out _))
    go_wp2_with fail
    go_ret
    exact⟨by rw[←HQ.out];simp[h1,h2,h3],(Fr.refl _ _).drewN _⟩
   ·have t3:decide ((2:Int)^n≤(l:Int)-a)=false:=by rw[←hpi];simp only[decide_eq_false_iff_not];omega
    clear hpi hp
    go_enter Tryz.func315,Tryz.ntmps315
    go_wp2_with fail
    go_quiet (exact quiet_left (HLEN.out _))
    go_wp2_with fail
    go_ret
    exact⟨by rw[←HQ.out];simp[h1,h2,h3],(Fr.refl _ _).drewN _⟩
  ·have t2:decide ((a:Int)≤(l:Int))=false:=by simp;omega
   go_enter Tryz.func315,Tryz.ntmps315
   go_wp2_with fail
   go_quiet (exact quiet_left (HLEN.out _))
   go_wp2_with fail
   go_ret
   exact⟨by rw[←HQ.out];simp[h2],(Fr.refl _ _).drewN _⟩
 ·have t1:decide ((n:Int)≤16)=false:=by simp;omega
  go_enter Tryz.func315,Tryz.ntmps315
  go_wp2_with fail
  go_quiet (exact quiet_left (HLEN.out _))
  go_wp2_with fail
  go_ret
  exact⟨by rw[←HQ.out];simp[h1],(Fr.refl _ _).drewN _⟩
theorem four(w:World)(o1 o2 o3 o4:Obj):Fr (fun _=>False) w ((((w.alloc o1).alloc o2).alloc o3).alloc o4)∧((((w.alloc o1).alloc o2).alloc o3).alloc o4).heap.size=w.heap.size+4∧
 ((((w.alloc o1).alloc o2).alloc o3).alloc o4).heap[w.heap.size]? =some o1∧((((w.alloc o1).alloc o2).alloc o3).alloc o4).heap[w.heap.size+1]? =some o2∧((((w.alloc o1).alloc o2).alloc o3).alloc o4).heap[w.heap.size+1+1]? =some o3∧((((w.alloc o1).alloc o2).alloc o3).alloc o4).heap[w.heap.size+1+1+1]? =some o4:=by
 have k:=fun(W:World)(o:Obj)=>(R0 W).alloc o
 have h1:=heap_alloc_new w o1
 have h2:=heap_alloc_new (w.alloc o1) o2
 have h3:=heap_alloc_new ((w.alloc o1).alloc o2) o3
 have h4:=heap_alloc_new (((w.alloc o1).alloc o2).alloc o3) o4
 simp only[World.size_alloc] at h2 h3 h4
 exact⟨(((k w o1).alloc o2).alloc o3).alloc o4,by simp,(((k _ o2).alloc o3).alloc o4).keep h1 (fun h=>h),((k _ o3).alloc o4).keep h2 (fun h=>h),(k _ o4).keep h3 (fun h=>h),h4⟩
def GetPost(B b g:Nat)(bv:Value)(x:R)(w:World)(r:Ending)(w':World):Prop:=
 r=.returned (.tuple #[.int .i64 x.bit,.int .i64 x.err])∧Fr (fun k=>k=B∨k=g) w w'∧At w' B bv x.d∧Prob.SetAt w' b g x.ps
set_option maxRecDepth 100000 in
theorem get_calls(B b g a n:Nat)(back:Bool)(bv:Value)(d:D)(ps:List Nat)(w:World)(h:At w B bv d)(hok:d.ok)(hs:Prob.SetAt w b g ps)(ha:a≤1099511627776)(hn:n≤1099511627776)(hl:ps.length≤1099511627776):
 Calls Tryz.prog 309 #[.pointer (some ⟨B,0,none⟩),.pointer (some ⟨b,0,none⟩),.int .i64 a,.int .i64 n,.bool back] w (GetPost B b g bv (get back d ps a n) w):=by
 have hmf:∀(fn:Fn)(first cap:Array Value)(w:World),(Instr.makeFunc fn first cap).run Tryz.prog w=.ok (.func fn first cap) w:=fun _ _ _ _=>rfl
 obtain⟨hfr,hsz,b1,b2,b3,b4⟩:=four w (.cells #[.pointer (some ⟨B,0,none⟩)] 339) (.cells #[.pointer (some ⟨b,0,none⟩)] 211) (.cells #[.int .i64 n] 3) (.cells #[.bool back] 4)
 have HB:=Hd (And.intro b1 (And.intro b2 (And.intro b3 b4)))
 have HF:=Hd hfr
 have HSZ:=Hd hsz
 have HA:=Hd (h.keep hfr (fun h=>h) (fun _ _ h=>h))
 have HS:=Hd (hs.keep hfr)
 have hBl:=lt_of_block h.1
 have hgl:=hs.lt
 clear hfr hsz b1 b2 b3 b4 h hs
 go_enter Tryz.func309,Tryz.ntmps309
 go_wp2_with fail
 generalize hz:w.heap.size=z at*
 generalize World.alloc (World.alloc (World.alloc (World.alloc w _) _) _) _=W at*
 refine(there_calls b g a n ps W HS.out ha hn hl).mono ?_
 rintro e w2 ⟨rfl,hfr2⟩
 have HF2:=Hd hfr2
 cases ht:thereB ps a n with
 |false=>
   have hx:get back d ps a n=⟨0,7,d,ps⟩:=by unfold get;rw[if_neg (of_decide_eq_false ht)]
   have HX:=Hd hx
   clear hx hfr2
   go_wp2_with fail
   go_ret2
   rw[HX.out]
   exact⟨rfl,((HF.out.trans HF2.out).mono (fun _ _ h=>h.elim)),HA.out.keep HF2.out (fun h=>h) (fun _ _ h=>h),HS.out.keep HF2.out⟩
 |true=>
   have ht2:=of_decide_eq_true ht
   have hx:get back d ps a n=⟨if(go back n a n 1 0 d ps).err=0 then(go back n a n 1 0 d ps).v else 0,(go back n a n 1 0 d ps).err,(go back n a n 1 0 d ps).d,(go back n a n 1 0 d ps).ps⟩:=by unfold get;rw[if_pos ht2]
   have hn16:=ht2.1
   have hfa:=hfr2.alloc (.cells #[.int .i64 0] 3)
   have hvb:=heap_alloc_new w2 (.cells #[.int .i64 0] 3)
   have hcs:z+4≤w2.heap.size:=by have:=HSZ.out;have:=hfr2.size;omega
   have c8:=cell_in (i:=0) (hfa.keep HB.out.2.2.1 (fun h=>h)) rfl
   have HX:=Hd hx
   have HFA:=Hd hfa
   have HVB:=Hd hvb
   clear hx hfr2 hfa hvb ht2 ht
   go_wp2_with fail
   generalize hc:w2.heap.size=c at*
   generalize World.alloc w2 _=W3 at*
   refine(down_calls B b g z (z+1) c (z+1+1+1) (z+1+1) a n back bv d ps W3 (HA.out.keep HFA.out (fun h=>h) (fun _ _ h=>h)) hok (HS.out.keep HFA.out) (HFA.out.keep HB.out.1 (fun h=>h)) (HFA.out.keep HB.out.2.1 (fun h=>h)) HVB.out (HFA.out.keep HB.out.2.2.2 (fun h=>h)) (HFA.out.keep HB.out.2.2.1 (fun h=>h)) (by omega) (by omega) (by omega) hn16 ha).mono ?_
   rintro e w4 ⟨rfl,hfr4,hA4,hS4,hC4⟩
   have hall:=(HF.out.trans HFA.out)
   have HF4:=Hd ((hall.mono (T:=fun k=>k=B∨k=g) (fun _ _ h=>h.elim)).trans' hfr4 (fun i hi h=>by omega))
   have HA4:=Hd hA4
   have HS4:=Hd hS4
   have c0:=cell_in (i:=0) hC4 rfl
   clear hA4 hS4 hfr4 hall hC4
   generalize hF:go back n a n 1 0 d ps=F at*
   by_cases he:F.err=0
   ·rw[he]
    have HE:=Hd he
    clear he hF
    generalize hv:F.v=v at*
    have HV:=Hd hv
    clear hv
    go_wp2_with fail
    go_ret2
    rw[HX.out]
    refine⟨?_,HF4.out,HA4.out,HS4.out⟩
    simp only[HE.out,HV.out,if_true]
    rfl
   ·have hne:((F.err:Int) !=0)=true:=by simp[he]
    have HE:=Hd he
    clear he hF
    generalize hv:F.err=v at*
    have HV:=Hd hv
    clear hv
    go_wp2_with fail
    go_ret2
    rw[HX.out]
    refine⟨?_,HF4.out,HA4.out,HS4.out⟩
    simp only[HV.out,if_neg HE.out]
    rfl
theorem Get_calls(B b g a n:Nat)(bv:Value)(d:D)(ps:List Nat)(w:World)(h:At w B bv d)(hok:d.ok)(hs:Prob.SetAt w b g ps)(ha:a≤1099511627776)(hn:n≤1099511627776)(hl:ps.length≤1099511627776):
 Calls Tryz.prog 295 #[.pointer (some ⟨B,0,none⟩),.pointer (some ⟨b,0,none⟩),.int .i64 a,.int .i64 n] w (GetPost B b g bv (get false d ps a n) w):=by
 have HC:=Hd (get_calls B b g a n false bv d ps w h hok hs ha hn hl)
 clear h hs
 generalize get false d ps a n=x at*
 go_enter Tryz.func295,Tryz.ntmps295
 go_wp2_with fail
 refine HC.out.mono ?_
 rintro e w2 ⟨rfl,h1,h2,h3⟩
 go_wp2_with fail
 go_ret2
 exact⟨rfl,h1,h2,h3⟩
theorem GetBack_calls(B b g a n:Nat)(bv:Value)(d:D)(ps:List Nat)(w:World)(h:At w B bv d)(hok:d.ok)(hs:Prob.SetAt w b g ps)(ha:a≤1099511627776)(hn:n≤1099511627776)(hl:ps.length≤1099511627776):
 Calls Tryz.prog 296 #[.pointer (some ⟨B,0,none⟩),.pointer (some ⟨b,0,none⟩),.int .i64 a,.int .i64 n] w (GetPost B b g bv (get true d ps a n) w):=by
 have HC:=Hd (get_calls B b g a n true bv d ps w h hok hs ha hn hl)
 clear h hs
 generalize get true d ps a n=x at*
 go_enter Tryz.func296,Tryz.ntmps296
 go_wp2_with fail
 refine HC.out.mono ?_
 rintro e w2 ⟨rfl,h1,h2,h3⟩
 go_wp2_with fail
 go_ret2
 exact⟨rfl,h1,h2,h3⟩
end Tr
namespace Rc
open Mem
set_option maxRecDepth 100000 in
theorem dcatch_bad(B bd be bb:Nat)(bv:Value)(d e:D)(err:Nat)(v0 e0:Int)(older:List PanicEntry)(w:World)(h:At w B bv d)(h0:0<d.b.length)(heq:e.b=d.b)
 (hd:w.heap[bd]? =some (.cells #[.pointer (some ⟨B,0,none⟩)] 339 (0,0)))(he:w.heap[be]? =some (.cells #[.int .i64 e0] 28 (0,0)))(hb:w.heap[bb]? =some (.cells #[.int .u32 v0] 180 (0,0)))(herr:err≠0):
 CallsD Tryz.prog 310 #[placeV e,.pointer (some ⟨bd,0,none⟩),.pointer (some ⟨be,0,none⟩),.pointer (some ⟨bb,0,none⟩)]
  (.panicking ({v:=refusedV err,recovered:=false}::older)) w fun r u' w'=>r=.returned (.tuple #[])∧u'=.panicking ({v:=refusedV err,recovered:=true}::older)∧
    Fr (fun k=>k=B∨k=be∨k=bb) w w'∧At w' B bv e∧w'.heap[be]? =some (.cells #[.int .i64 err] 28 (0,0))∧w'.heap[bb]? =some (.cells #[.int .u32 0] 180 (0,0)):=by
 refine callsD_of_wpS Tryz.func310 rfl fun c₀ cs hu=> ?_
 apply wpS_seq
 apply wpS_region
 simp[wpOpsS,go_sem,recoverD,hu,Tryz.ntmps310,Exit.thenS,placeV]
 apply wpS_seq
 refine wpS_region_draw (by kernel_rfl) (fun l hl=> ?_)
 have hal:=(R0 w).alloc (.cells #[.int .i64 e.read,.int .u32 e.rng,.int .u32 e.now] 379)
 have hbx:=heap_alloc_new w (.cells #[.int .i64 e.read,.int .u32 e.rng,.int .u32 e.now] 379)
 have hA1:=h.keep hal (fun h=>h) (fun _ _ h=>h)
 have k1:=cell_in (i:=0) (hal.keep hd (fun h=>h)) rfl
 obtain⟨k2,k3,k4⟩:=cs3 hbx rfl rfl rfl
 replace hl:l ∈ ([[0,1,2,3,4],[0,2,1,3,4],[1,0,2,3,4],[1,2,0,3,4],[2,0,1,3,4],[2,1,0,3,4]]:List (List Nat)):=Eq.mp (congrArg (fun L=>l ∈ L) (by kernel_rfl)) hl
 simp only[List.mem_cons,List.not_mem_nil,or_false] at hl
 rcases hl with rfl|rfl|rfl|rfl|rfl|rfl
 all_goals simp[wpOpsS,go_sem,recoverD,hu,Exit.thenS,k1,k2,k3,k4]
 all_goals
  refine(back_some B bv d e err _ (hA1.keep ((R0 _).drew) (fun h=>h) (fun _ _ h=>h)) h0 heq).mono ?_
  rintro r w2 ⟨rfl,hfr2,hA2⟩
  have hne1:be≠B:=by rintro rfl;rw[h.1] at he;simp at he
  have hne2:bb≠B:=by rintro rfl;rw[h.1] at hb;simp at hb
  have hne3:bb≠be:=by rintro rfl;rw[he] at hb;simp at hb
  have hfr2':Fr (fun k=>k=B∨k=be∨k=bb) w w2:=(hal.mono (fun _ _ h=>h.elim)).trans ((Fr.refl _ _).drew.trans (hfr2.mono (fun _ _ h=>.inl h)))
  have he2:=hfr2.keep (hal.drew.keep he (fun h=>h)) hne1
  have hb2:=hfr2.keep (hal.drew.keep hb (fun h=>h)) hne2
  have c1:=cell_in (i:=0) he2 rfl
  have f1:=frozen_in he2 0
  simp[c1,f1,storeCells,go_sem]
  have he3:(w2.setCell ⟨be,0,none⟩ (.int .i64 err)).heap[be]? =some (.cells #[.int .i64 err] 28 (0,0)):=set_in he2 0 _
  have hb3:=set_out (i:=0) hb2 hne3 (.int .i64 err)
  have hA3:=hA2.keep (S:=fun k=>k=be) (Fr.one w2 be 0 (.int .i64 err)) (fun h=>hne1 h.symm) (fun k hk h=>rd_off hA2.2 (by rw[heq];exact h0) he2 (no_byte1 (by simp)) k hk h)
  have hfr3:=hfr2'.trans ((Fr.one w2 be 0 (.int .i64 err)).mono (fun k _ h=>.inr (.inl h)))
  generalize w2.setCell ⟨be,0,none⟩ (.int .i64 err)=w3 at*
  have c3:=cell_in (i:=0) he3 rfl
  have c4:=cell_in (i:=0) hb3 rfl
  have f4:=frozen_in hb3 0
  apply wpS_seq
  apply wpS_region
  have hen:((err:Int) !=0)=true:=by simp[herr]
  simp[wpOpsS,go_sem,Exit.thenS,c3,hen]
  refine wpS_cond (t:=true) (by simp[Act.eval,herr]) ?_
  simp only[if_true]
  apply wpS_region
  simp[wpOpsS,go_sem,c4,f4,bodyPostS,results,Tryz.results310]
  exact⟨hfr3.trans ((Fr.one w3 bb 0 (.int .u32 0)).mono (fun k _ h=>.inr (.inr h))),hA3.keep (S:=fun k=>k=bb) (Fr.one w3 bb 0 (.int .u32 0)) (fun h=>hne2 h.symm) (fun k hk h=>rd_off hA3.2 (by rw[heq];exact h0) hb3 (no_byte1 (by simp)) k hk h),set_out he3 (fun h=>hne3 h.symm) _,set_in hb3 0 _⟩
set_option maxRecDepth 100000 in
theorem dcatch_ok(B bd be bb:Nat)(e:D)(e0:Int)(w:World)
 (hd:w.heap[bd]? =some (.cells #[.pointer (some ⟨B,0,none⟩)] 339 (0,0)))(he:w.heap[be]? =some (.cells #[.int .i64 e0] 28 (0,0))):
 CallsD Tryz.prog 310 #[placeV e,.pointer (some ⟨bd,0,none⟩),.pointer (some ⟨be,0,none⟩),.pointer (some ⟨bb,0,none⟩)]
  .returning w fun r u' w'=>r=.returned (.tuple #[])∧u'=.returning∧Fr (fun k=>k=be) w w'∧w'.heap[be]? =some (.cells #[.int .i64 0] 28 (0,0)):=by
 refine callsD_of_wpS Tryz.func310 rfl fun c₀ cs hu=> ?_
 apply wpS_seq
 apply wpS_region
 simp[wpOpsS,go_sem,recoverD,hu,Tryz.ntmps310,Exit.thenS,placeV]
 apply wpS_seq
 refine wpS_region_draw (by kernel_rfl) (fun l hl=> ?_)
 have hal:=(R0 w).alloc (.cells #[.int .i64 e.read,.int .u32 e.rng,.int .u32 e.now] 379)
 have hbx:=heap_alloc_new w (.cells #[.int .i64 e.read,.int .u32 e.rng,.int .u32 e.now] 379)
 have k1:=cell_in (i:=0) (hal.keep hd (fun h=>h)) rfl
 obtain⟨k2,k3,k4⟩:=cs3 hbx rfl rfl rfl
 replace hl:l ∈ ([[0,1,2,3,4],[0,2,1,3,4],[1,0,2,3,4],[1,2,0,3,4],[2,0,1,3,4],[2,1,0,3,4]]:List (List Nat)):=Eq.mp (congrArg (fun L=>l ∈ L) (by kernel_rfl)) hl
 simp only[List.mem_cons,List.not_mem_nil,or_false] at hl
 rcases hl with rfl|rfl|rfl|rfl|rfl|rfl
 all_goals simp[wpOpsS,go_sem,recoverD,hu,Exit.thenS,k1,k2,k3,k4]
 all_goals
  refine(back_nil B e _).mono ?_
  rintro r w2 ⟨rfl,hfr2⟩
  have hfr2':=hal.drew.trans hfr2
  have he2:=hfr2'.keep he (fun h=>h)
  have c1:=cell_in (i:=0) he2 rfl
  have f1:=frozen_in he2 0
  simp[c1,f1,storeCells,go_sem]
  have he3:(w2.setCell ⟨be,0,none⟩ (.int .i64 0)).heap[be]? =some (.cells #[.int .i64 0] 28 (0,0)):=set_in he2 0 _
  have hfr3:Fr (fun k=>k=be) w (w2.setCell ⟨be,0,none⟩ (.int .i64 0)):=(hfr2'.mono (fun _ _ h=>h.elim)).trans (Fr.one w2 be 0 (.int .i64 0))
  generalize w2.setCell ⟨be,0,none⟩ (.int .i64 0)=w3 at*
  have c3:=cell_in (i:=0) he3 rfl
  apply wpS_seq
  apply wpS_region
  simp[wpOpsS,go_sem,Exit.thenS,c3]
  refine wpS_cond (t:=false) (by simp[Act.eval]) ?_
  simp only[Bool.false_eq_true,if_false]
  refine wpS_of_wp (wp_skip ?_)
  simp[bodyPostS,results,Tryz.results310,go_sem]
  exact⟨.returning,by cases c₀;simp_all,rfl,hfr3,he3⟩
end Rc
namespace Rc
open Mem
theorem three(w:World)(o1 o2 o3:Obj):Fr (fun _=>False) w (((w.alloc o1).alloc o2).alloc o3)∧(((w.alloc o1).alloc o2).alloc o3).heap.size=w.heap.size+3∧
 (((w.alloc o1).alloc o2).alloc o3).heap[w.heap.size]? =some o1∧(((w.alloc o1).alloc o2).alloc o3).heap[w.heap.size+1]? =some o2∧(((w.alloc o1).alloc o2).alloc o3).heap[w.heap.size+1+1]? =some o3:=by
 have k:=fun(W:World)(o:Obj)=>(R0 W).alloc o
 have h1:=heap_alloc_new w o1
 have h2:=heap_alloc_new (w.alloc o1) o2
 have h3:=heap_alloc_new ((w.alloc o1).alloc o2) o3
 simp only[World.size_alloc] at h2 h3
 exact⟨((k w o1).alloc o2).alloc o3,by simp,((k _ o2).alloc o3).keep h1 (fun h=>h),(k _ o3).keep h2 (fun h=>h),h3⟩
def directV:Except Nat (Nat×D)→Value
 |.ok (v,_)=>.tuple #[.int .u32 v,.int .i64 0]
 |.error x=>.tuple #[.int .u32 0,.int .i64 x]
def directD(d:D):Except Nat (Nat×D)→D
 |.ok (_,e)=>e
 |.error _=>d
theorem or_one(v:Nat)(h:v<2147483648):bits BinOp.or IntKind.u32 ((v:Int)*2) 1=((2*v+1:Nat):Int):=by
 have:=bits_or_u32_nat (v*2) 1 (by omega) (by omega)
 have e:((v*2:Nat):Int)=(v:Int)*2:=by omega
 rw[e] at this
 rw[show(1:Int)=((1:Nat):Int) by rfl,this]
 congr 1
 rw[Nat.mul_comm,show(2:Nat)=2^1 by rfl,←Nat.two_pow_add_eq_or_of_lt (by omega)]
theorem direct_panicked(B z n x:Nat)(bv:Value)(d e:D)(r:Except Nat (Nat×D))(w W w10:World)(a:Act)(v0:Int)(hz:w.heap.size=z)(hBl:B<z)(hx:x≠0)(hr:r=.error x)
 (ha4:a.tmps[4]? =some (.pointer (some ⟨z+1,0,none⟩)))(ha5:a.tmps[5]? =some (.pointer (some ⟨z+1+1,0,none⟩)))
 (had:a.defers=[{target:=.fn (Fn.func 310) #[.pointer (some ⟨z,0,none⟩),.pointer (some ⟨z+1+1,0,none⟩),.pointer (some ⟨z+1,0,none⟩)],args:=#[placeV d]}])
 (hF:Fr (fun _=>False) w W)(hF10:Fr (fun k=>k=B∨k=z+1) W w10)(hA:At w10 B bv e)(he:e.b=d.b)(h0:0<d.b.length)
 (hb1:W.heap[z]? =some (.cells #[.pointer (some ⟨B,0,none⟩)] 339 (0,0)))(hb2:w10.heap[z+1]? =some (.cells #[.int .u32 v0] 180 (0,0)))(hb3:W.heap[z+1+1]? =some (.cells #[.int .i64 0] 28 (0,0))):
 bodyPostD Tryz.prog Tryz.f297 (fun q w'=>q=.returned (directV r)∧Fr (fun k=>k=B) w w'∧At w' B bv (directD d r)) (Exit.panic [{v:=refusedV x,recovered:=false}]) a w10:=by
 obtain⟨tmps,defers⟩:=a
 simp only at ha4 ha5 had
 subst had
 refine leaves_cons (f:=310) (args:=#[placeV d,.pointer (some ⟨z,0,none⟩),.pointer (some ⟨z+1+1,0,none⟩),.pointer (some ⟨z+1,0,none⟩)]) (by simp) (by simp[go_sem,placeV]) ?_
 refine(dcatch_bad B z (z+1+1) (z+1) bv e d x v0 0 [] w10 hA (by rw[he];exact h0) he.symm (hF10.keep hb1 (fun h=>by omega)) (hF10.keep hb3 (fun h=>by omega)) hb2 hx).mono ?_
 rintro q u w12 ⟨rfl,rfl,hfr12,hA12,he12,hb12⟩
 have m1:=cell_in (i:=0) hb12 rfl
 have m2:=cell_in (i:=0) he12 rfl
 simp[Leaves,settle,results,Tryz.results297,go_sem,m1,m2,ha4,ha5]
 subst hr
 exact⟨rfl,(hF.mono (fun _ _ h=>h.elim)).trans' ((hF10.mono (T:=fun k=>k=B∨k=z+1+1∨k=z+1) (fun _ _ h=>by omega)).trans hfr12) (fun k hk h=>by omega),hA12⟩
set_option maxRecDepth 100000 in
theorem direct_calls(B n:Nat)(bv:Value)(d:D)(w:World)(h:At w B bv d)(hok:d.ok)(hn:n≤32):
 Calls Tryz.prog 297 #[.pointer (some ⟨B,0,none⟩),.int .i64 n] w fun r w'=>r=.returned (directV (D.direct n 0 d))∧Fr (fun k=>k=B) w w'∧At w' B bv (directD d (D.direct n 0 d)):=by
 have hmf:∀(fn:Fn)(first cap:Array Value)(w:World),(Instr.makeFunc fn first cap).run Tryz.prog w=.ok (.func fn first cap) w:=fun _ _ _ _=>rfl
 obtain⟨hfr,hsz,b1,b2,b3⟩:=three w (.cells #[.pointer (some ⟨B,0,none⟩)] 339) (.cells #[.int .u32 0] 180) (.cells #[.int .i64 0] 28)
 have hA:=h.keep hfr (fun h=>h) (fun _ _ h=>h)
 obtain⟨c0,c1,c2,c3,cf⟩:=hA.cells
 have HF:=Hd hfr
 have HA:=Hd hA
 have HB:=Hd (And.intro b1 (And.intro b2 b3))
 have HSZ:=Hd hsz
 have hBl:=lt_of_block h.1
 have g1:decide ((n:Int)<0)=false:=by simp
 have g2:decide ((n:Int)>32)=false:=by simp;omega
 have g3:decide ((32:Int)<n)=false:=by simp;omega
 clear hfr h hA b1 b2 b3 hsz cf
 go_enter_defers Tryz.func297,Tryz.ntmps297
 go_wp2_with fail
 generalize hz:w.heap.size=z at*
 generalize World.alloc (World.alloc (World.alloc w _) _) _=W at*
 go_loopw [6,19] (fun _ i wr=>∃(k v:Nat)(e:D),k≤n∧i=.int .i64 k∧v<2^k∧e.ok∧e.b=d.b∧At wr B bv e∧wr.heap[z+1]? =some (.cells #[.int .u32 v] 180 (0,0))∧Fr (fun k=>k=B∨k=z+1) W wr∧D.direct (n-k) v e=D.direct n 0 d) (fun _ i _=>n-(intOf i).toNat)
 case atStart=>exact⟨0,0,d,by omega,rfl,by omega,hok,rfl,HA.out,HB.out.2.1,Fr.refl _ _,by simp⟩
 case round=>
  obtain⟨k,v,e,hk,rfl,hv,hek,heb,hAe,hvb,hfr,hdir⟩:=hrel
  have hdb:=hfr.keep HB.out.1 (fun h=>by omega)
  have herb:=hfr.keep HB.out.2.2 (fun h=>by omega)
  have x0:=cell_in (i:=0) hdb rfl
  have x1:=cell_in (i:=0) hvb rfl
  have x2:=frozen_in hvb 0
  obtain⟨e0,e1,e2,e3,ef⟩:=hAe.cells
  by_cases hlt:k<n
  ·obtain⟨m,hm⟩:∃m,n-k=m+1:=⟨n-k-1,by omega⟩
   have hm2:n-(k+1)=m:=by omega
   have hp:2^k≤2147483648:=Nat.le_trans (Nat.pow_le_pow_right (by omega) (show k≤31 by omega)) (by decide)
   have hv31:v<2147483648:=by omega
   rw[hm] at hdir
   obtain⟨eb,er,eg,en⟩:=e
   simp only at heb
   obtain⟨q1,q2,q3,q4,q5⟩:=id hek
   simp only at q1 q2 q3 q4 q5 e1 e2 e3
   have hA1:=hAe.keep (Fr.one wr (z+1) 0 (.int .u32 ((v:Int)*2))) (fun h=>by omega) (fun k hk h=>rd_off hAe.2 q5 hvb (no_byte1 (by simp)) k hk h)
   have hvb1:(wr.setCell ⟨z+1,0,none⟩ (.int .u32 ((v:Int)*2))).heap[z+1]? =some (.cells #[.int .u32 ((v:Int)*2)] 180 (0,0)):=set_in hvb 0 _
   have hF1:=hfr.trans ((Fr.one wr (z+1) 0 (.int .u32 ((v:Int)*2))).mono (fun _ _ h=>.inr h))
   have hdb1:=hF1.keep HB.out.1 (fun h=>by omega)
   have y0:=cell_in (i:=0) hdb1 rfl
   have y1:=cell_in (i:=0) hvb1 rfl
   have y2:=frozen_in hvb1 0
   obtain⟨d0,d1,d2,d3,df⟩:=hA1.cells
   have f2:=df 2
   have f3:=df 3
   simp only at d1 d2 d3
   have hc2:((eg/2:Nat):Int)=(eg:Int)/2:=by omega
   clear e0 e1 e3 ef df
   by_cases hge:eg/2≤en
   ·have t1:decide ((en:Int)≥(eg:Int)/2)=true:=by simp;omega
    have t2:decide ((eg:Int)/2≤(en:Int))=true:=by simp;omega
    simp only[D.direct,if_pos hge] at hdir
    have hsn:((en-eg/2:Nat):Int)=(en:Int)-(eg:Int)/2:=by omega
    have s3:((wr.setCell ⟨z+1,0,none⟩ (.int .u32 ((v:Int)*2))).setCell ⟨B,3,none⟩ (.int .u32 ((en:Int)-(eg:Int)/2))).heap[B]? =some (.cells (decV bv ⟨eb,er,eg,en-eg/2⟩) 381 (0,0)):=by
     rw[set_in hA1.1 3 _,←hsn]
     rfl
    have hf3:=Fr.one (wr.setCell ⟨z+1,0,none⟩ (.int .u32 ((v:Int)*2))) B 3 (.int .u32 ((en:Int)-(eg:Int)/2))
    have hA3:=hA1.new (e:=⟨eb,er,eg,en-eg/2⟩) q5 rfl hf3 s3
    have hvb3:=hf3.keep hvb1 (by omega)
    have hdb3:=hf3.keep hdb1 (by omega)
    have hf4:=Fr.one ((wr.setCell ⟨z+1,0,none⟩ (.int .u32 ((v:Int)*2))).setCell ⟨B,3,none⟩ (.int .u32 ((en:Int)-(eg:Int)/2))) (z+1) 0 (.int .u32 (bits BinOp.or IntKind.u32 ((v:Int)*2) 1))
    have hvb4:(((wr.setCell ⟨z+1,0,none⟩ (.int .u32 ((v:Int)*2))).setCell ⟨B,3,none⟩ (.int .u32 ((en:Int)-(eg:Int)/2))).setCell ⟨z+1,0,none⟩ (.int .u32 (bits BinOp.or IntKind.u32 ((v:Int)*2) 1))).heap[z+1]? =some (.cells #[.int .u32 (bits BinOp.or IntKind.u32 ((v:Int)*2) 1)] 180 (0,0)):=set_in hvb3 0 _
    have hA4:=hA3.keep hf4 (fun h=>by omega) (fun k hk h=>rd_off hA3.2 q5 hvb3 (no_byte1 (by simp)) k hk h)
    have hdb4:=hf4.keep hdb3 (by omega)
    have hF4:=(hF1.trans (hf3.mono (fun _ _ h=>.inl h))).trans (hf4.mono (fun _ _ h=>.inr h))
    have u0:=cell_in (i:=0) hdb3 rfl
    have u1:=cell_in (i:=0) hvb3 rfl
    have u2:=frozen_in hvb3 0
    have u3:=cell_in (i:=0) hdb4 rfl
    obtain⟨_,_,_,u4,uf⟩:=hA4.cells
    have u5:=uf 2
    simp only[hsn] at u4
    clear uf
    by_cases heq:en-eg/2=eg/2
    ·have t3:((en:Int)-(eg:Int)/2==(eg:Int)/2)=true:=by simp;omega
     rw[if_pos heq] at hdir
     have HBAD:=Hd hdir.symm
     have HA4:=Hd hA4
     have HF4:=Hd hF4
     have HV4:=Hd hvb4
     clear hdir hA1 hvb1 hdb1 hF1 s3 hf3 hA3 hvb3 hdb3 hf4 hvb4 hA4 hdb4 hF4
     go_wp2_with fail
     exact direct_panicked B z n 2 bv d ⟨eb,er,eg,en-eg/2⟩ _ w W _ _ _ hz hBl (by omega) HBAD.out rfl rfl rfl HF.out HF4.out HA4.out heb (by rw[←heb];exact q5) HB.out.1 HV4.out HB.out.2.2
    ·have t3:((en:Int)-(eg:Int)/2==(eg:Int)/2)=false:=by simp;omega
     rw[if_neg heq] at hdir
     have hst:=hdir.symm
     have hok2:(⟨eb,er,eg/2,en-eg/2⟩:D).ok:=⟨by simp only;omega,by simp only;omega,q3,q4,q5⟩
     have s2:((((wr.setCell ⟨z+1,0,none⟩ (.int .u32 ((v:Int)*2))).setCell ⟨B,3,none⟩ (.int .u32 ((en:Int)-(eg:Int)/2))).setCell ⟨z+1,0,none⟩ (.int .u32 (bits BinOp.or IntKind.u32 ((v:Int)*2) 1))).setCell ⟨B,2,none⟩ (.int .u32 ((eg:Int)/2))).heap[B]? =some (.cells (decV bv ⟨eb,er,eg/2,en-eg/2⟩) 381 (0,0)):=by
      rw[set_in hA4.1 2 _,←hc2]
      rfl
     have hf2:=Fr.one (((wr.setCell ⟨z+1,0,none⟩ (.int .u32 ((v:Int)*2))).setCell ⟨B,3,none⟩ (.int .u32 ((en:Int)-(eg:Int)/2))).setCell ⟨z+1,0,none⟩ (.int .u32 (bits BinOp.or IntKind.u32 ((v:Int)*2) 1))) B 2 (.int .u32 ((eg:Int)/2))
     have HA2:=Hd (hA4.new (e:=⟨eb,er,eg/2,en-eg/2⟩) q5 rfl hf2 s2)
     have hv2:((((wr.setCell ⟨z+1,0,none⟩ (.int .u32 ((v:Int)*2))).setCell ⟨B,3,none⟩ (.int .u32 ((en:Int)-(eg:Int)/2))).setCell ⟨z+1,0,none⟩ (.int .u32 (bits BinOp.or IntKind.u32 ((v:Int)*2) 1))).setCell ⟨B,2,none⟩ (.int .u32 ((eg:Int)/2))).heap[z+1]? =some (.cells #[.int .u32 ((2*v+1:Nat):Int)] 180 (0,0)):=by
      rw[←or_one v hv31]
      exact hf2.keep hvb4 (by omega)
     have HV2:=Hd hv2
     have HF2:=Hd (hF4.trans (hf2.mono (fun _ _ h=>.inl h)))
     have z0:=cell_in (i:=0) (hf2.keep hdb4 (by omega)) rfl
     rw[←hm2] at hst
     clear hdir s2 hf2 hA1 hvb1 hdb1 hF1 hv2 s3 hf3 hA3 hvb3 hdb3 hf4 hvb4 hA4 hdb4 hF4
     have HT:=Hd hst
     have hbl2:0<eb.length:=hek.2.2.2.2
     cases hw:(⟨eb,er,eg/2,en-eg/2⟩:D).widen with
     |none=>
       have hbad:D.direct n 0 d=.error 1:=by rw[HT.out,hw]
       have HW:=Hd hw
       have HBAD:=Hd hbad
       clear hw hbad hst
       go_wp2_with fail
       refine(widen_none B bv ⟨eb,er,eg/2,en-eg/2⟩ _ HA2.out hok2 HW.out).mono ?_
       rintro r w10 ⟨rfl,hfr10⟩
       exact direct_panicked B z n 1 bv d ⟨eb,er,eg/2,en-eg/2⟩ _ w W w10 _ _ hz hBl (by omega) HBAD.out rfl rfl rfl HF.out (HF2.out.trans (hfr10.mono (fun _ _ h=>h.elim))) (HA2.out.keep hfr10 (fun h=>h) (fun _ _ h=>h)) heb (by rw[←heb];exact hbl2) HB.out.1 (hfr10.keep HV2.out (fun h=>h)) HB.out.2.2
     |some e'=>
       have hgo:D.direct (n-(k+1)) (2*v+1) e'=D.direct n 0 d:=by rw[HT.out,hw]
       have HW:=Hd hw
       have HGO:=Hd hgo
       have hwok:=D.widen_ok hok2 hw
       clear hw hgo hst
       go_wp2_with fail
       refine(widen_some B bv ⟨eb,er,eg/2,en-eg/2⟩ e' _ HA2.out hok2 HW.out).mono ?_
       rintro r w10 ⟨rfl,hfr10,hA10⟩
       go_wp2_with fail
       go_roundw
       case rel=>
        refine⟨k+1,(2*v+1),e',by omega,by go_num,by rw[Nat.pow_succ];omega,hwok.1,hwok.2.trans heb,hA10,?_,HF2.out.trans (hfr10.mono (fun _ _ h=>.inl h)),HGO.out⟩
        exact hfr10.keep HV2.out (by omega)
       case measure=>simp[intOf];omega
   ·have t1:decide ((en:Int)≥(eg:Int)/2)=false:=by simp;omega
    have t2:decide ((eg:Int)/2≤(en:Int))=false:=by simp;omega
    have t3:((en:Int)==(eg:Int)/2)=false:=by simp;omega
    simp only[D.direct,if_neg hge] at hdir
    rw[if_neg (by omega)] at hdir
    have hst:=hdir.symm
    have hok2:(⟨eb,er,eg/2,en⟩:D).ok:=⟨by simp only;omega,by simp only;omega,q3,q4,q5⟩
    have s2:((wr.setCell ⟨z+1,0,none⟩ (.int .u32 ((v:Int)*2))).setCell ⟨B,2,none⟩ (.int .u32 ((eg:Int)/2))).heap[B]? =some (.cells (decV bv ⟨eb,er,eg/2,en⟩) 381 (0,0)):=by
     rw[set_in hA1.1 2 _,←hc2]
     rfl
    have hf2:=Fr.one (wr.setCell ⟨z+1,0,none⟩ (.int .u32 ((v:Int)*2))) B 2 (.int .u32 ((eg:Int)/2))
    have HA2:=Hd (hA1.new (e:=⟨eb,er,eg/2,en⟩) q5 rfl hf2 s2)
    have hv2:((wr.setCell ⟨z+1,0,none⟩ (.int .u32 ((v:Int)*2))).setCell ⟨B,2,none⟩ (.int .u32 ((eg:Int)/2))).heap[z+1]? =some (.cells #[.int .u32 ((2*v:Nat):Int)] 180 (0,0)):=by
     rw[show((2*v:Nat):Int)=(v:Int)*2 by omega]
     exact hf2.keep hvb1 (by omega)
    have HV2:=Hd hv2
    have HF2:=Hd (hF1.trans (hf2.mono (fun _ _ h=>.inl h)))
    have z0:=cell_in (i:=0) (hf2.keep hdb1 (by omega)) rfl
    rw[←hm2] at hst
    clear hdir s2 hf2 hA1 hvb1 hdb1 hF1 hv2
    have HT:=Hd hst
    have hbl2:0<eb.length:=hek.2.2.2.2
    cases hw:(⟨eb,er,eg/2,en⟩:D).widen with
    |none=>
      have hbad:D.direct n 0 d=.error 1:=by rw[HT.out,hw]
      have HW:=Hd hw
      have HBAD:=Hd hbad
      clear hw hbad hst
      go_wp2_with fail
      refine(widen_none B bv ⟨eb,er,eg/2,en⟩ _ HA2.out hok2 HW.out).mono ?_
      rintro r w10 ⟨rfl,hfr10⟩
      exact direct_panicked B z n 1 bv d ⟨eb,er,eg/2,en⟩ _ w W w10 _ _ hz hBl (by omega) HBAD.out rfl rfl rfl HF.out (HF2.out.trans (hfr10.mono (fun _ _ h=>h.elim))) (HA2.out.keep hfr10 (fun h=>h) (fun _ _ h=>h)) heb (by rw[←heb];exact hbl2) HB.out.1 (hfr10.keep HV2.out (fun h=>h)) HB.out.2.2
    |some e'=>
      have hgo:D.direct (n-(k+1)) (2*v) e'=D.direct n 0 d:=by rw[HT.out,hw]
      have HW:=Hd hw
      have HGO:=Hd hgo
      have hwok:=D.widen_ok hok2 hw
      clear hw hgo hst
      go_wp2_with fail
      refine(widen_some B bv ⟨eb,er,eg/2,en⟩ e' _ HA2.out hok2 HW.out).mono ?_
      rintro r w10 ⟨rfl,hfr10,hA10⟩
      go_wp2_with fail
      go_roundw
      case rel=>
       refine⟨k+1,(2*v),e',by omega,by go_num,by rw[Nat.pow_succ];omega,hwok.1,hwok.2.trans heb,hA10,?_,HF2.out.trans (hfr10.mono (fun _ _ h=>.inl h)),HGO.out⟩
       exact hfr10.keep HV2.out (by omega)
      case measure=>simp[intOf];omega
  ·obtain rfl:k=n:=by omega
   have hq:D.direct k 0 d=.ok (v,e):=by rw[←hdir,Nat.sub_self];rfl
   have herb1:(wr.setCell ⟨z+1,0,none⟩ (.int .u32 v)).heap[z+1+1]? =some (.cells #[.int .i64 0] 28 (0,0)):=set_out herb (by omega) _
   have k3:=cell_in (i:=0) herb1 rfl
   have k4:=frozen_in herb1 0
   have hvb1:(wr.setCell ⟨z+1,0,none⟩ (.int .u32 v)).heap[z+1]? =some (.cells #[.int .u32 v] 180 (0,0)):=set_in hvb 0 _
   have herb2:((wr.setCell ⟨z+1,0,none⟩ (.int .u32 v)).setCell ⟨z+1+1,0,none⟩ (.int .i64 0)).heap[z+1+1]? =some (.cells #[.int .i64 0] 28 (0,0)):=set_in herb1 0 _
   have hvb2:=set_out (i:=0) hvb1 (show z+1≠z+1+1 by omega) (.int .i64 0)
   have hf12:=(Fr.one wr (z+1) 0 (.int .u32 v)).mono (T:=fun k=>k=z+1∨k=z+1+1) (fun _ _ h=>.inl h)|>.trans ((Fr.one _ (z+1+1) 0 (.int .i64 0)).mono (fun _ _ h=>.inr h))
   have hbl:0<e.b.length:=hek.2.2.2.2
   have hA2:=hAe.keep hf12 (fun h=>by omega) (fun k hk h=>by
    rcases h with h|h
    ·exact rd_off hAe.2 hbl hvb (no_byte1 (by simp)) k hk h
    ·exact rd_off hAe.2 hbl herb (no_byte1 (by simp)) k hk h)
   have hF2:=(hfr.mono (T:=fun k=>k=B∨k=z+1∨k=z+1+1) (fun _ _ h=>by omega)).trans (hf12.mono (fun _ _ h=>.inr h))
   have HQ:=Hd hq
   have HDB:=Hd (hf12.keep hdb (fun h=>by omega))
   clear hdir hq
   go_wp2_with fail
   generalize(wr.setCell ⟨z+1,0,none⟩ (.int .u32 v)).setCell ⟨z+1+1,0,none⟩ (.int .i64 0)=w11 at*
   refine leaves_cons (f:=310) (args:=#[placeV d,.pointer (some ⟨z,0,none⟩),.pointer (some ⟨z+1+1,0,none⟩),.pointer (some ⟨z+1,0,none⟩)]) (by simp) (by simp[go_sem,placeV]) ?_
   refine(dcatch_ok B z (z+1+1) (z+1) d 0 w11 HDB.out herb2).mono ?_
   rintro r u w12 ⟨rfl,rfl,hfr12,he12⟩
   have m1:=cell_in (i:=0) (hfr12.keep hvb2 (by omega)) rfl
   have m2:=cell_in (i:=0) he12 rfl
   simp[Leaves,settle,results,Tryz.results297,go_sem,m1,m2]
   rw[HQ.out]
   exact⟨rfl,(HF.out.mono (fun _ _ h=>h.elim)).trans' (hF2.trans (hfr12.mono (fun _ _ h=>.inr (.inr h)))) (fun k hk h=>by omega),hA2.keep hfr12 (fun h=>by omega) (fun k hk h=>rd_off hA2.2 hbl herb2 (no_byte1 (by simp)) k hk h)⟩
end Rc
end Go.Proofs.YtffoddpjfgjelaaGreatDoor
