/- Part 7 of 54: lemmas of the last part, each under the conditions that it names. -/
import Derived.Deep.RegionHeld3
import Derived.Deep.DeepCutAuto
import Derived.Deep.CutBlock
import Derived.Test.YtlgccpjccopdmaaGreatDoorRows
import Derived.BigRegion
import Derived.Deep.QuietTactic
import Derived.BigQuiet
import Derived.WalkLawsBesides
import Derived.Recover
import Derived.Orders
import Derived.WalkKit
import Derived.Test.YtlgccpjccopdmaaGreatDoorP01
import Derived.Test.YtlgccpjccopdmaaGreatDoorP04
import Derived.Test.YtlgccpjccopdmaaGreatDoorP06
set_option linter.unusedVariables false
set_option linter.unusedSimpArgs false
set_option maxRecDepth 1500
set_option maxHeartbeats 4000000
namespace Go.Proofs.YtlgccpjccopdmaaGreatDoor
open Go.RowKit
namespace St
open Mem
theorem step_copy_rep{ops:Array Oper}{o:Oper}{a:Act}{w:World}{K:Act→World→Prop}{Q:Exit→Act→World→Prop}{E:Prop}(hgd:o.guard=none)(d s:Operand)
 (ho:o.op=.call {callee:=.builtin .copy,args:=#[d,s],argTypes:=#[81,81]})(g k:Nat)(cs:List Value)(cur:Array Value)(T:TypeId)
 (hd:a.eval d=.slice (some ⟨g,2,none⟩) 3 3)(hs:a.eval s=.slice (some ⟨g,1,none⟩) k 4)(hg:w.heap[g]? =some (.cells cur T (0,0)))(hn:cs.length=k)(hk:k≤3)
 (hsrc:∀j v,cs[j]? =some v→w.cell? ⟨g,1+j,none⟩=some v)(h1:∀v ∈ cs,v.oneCell'=true)(hfit:2+k≤cur.size)
 (h:∀w',w'.heap[g]? =some (.cells (cur.toList.take 2++cs++cur.toList.drop (2+cs.length)).toArray T (0,0))→Fr (fun j=>j=g) w w'→K (a.put o.dst (.int .i64 (k:Int))) w'):
 if Region.wanted o (yielded ops a.tmps)=true then Oper.wp Tryz.prog o a w K Q else E:=by
 have hw:Region.wanted o (yielded ops a.tmps)=true:=by simp[Region.wanted,hgd]
 rw[if_pos hw]
 have hr:=run_copy_row (P:=Tryz.prog) w 81 81 o.type 3 g 2 3 3 ⟨g,1,none⟩ k 4 cur T cs Tryz.underlying81 (by kernel_rfl) hg (by rw[hn];exact(Nat.min_eq_left hk).symm) (fun j v hj=>by rw[add_mid];exact hsrc j v hj) (by omega) h1
 unfold Oper.wp
 simp[execOp,ho,resolve,invoke,builtin,hd,hs,hr,Result.andThen,hn]
 have h2:=h _ (setRow_heap w g _ _ T _ hg) ⟨rfl,rfl,rfl,by simp[World.setRow],fun j hj hne=>setRow_other w g j _ hne⟩
 simp only[List.append_assoc,hn] at h2
 exact h2
set_option maxRecDepth 100000 in
theorem rep_slices0(h:Nat):(∀W,(Instr.sliceAt 69 (.pointer (some ⟨h,1,none⟩)) (some (.int .i64 1)) none none).run Tryz.prog W=.ok (.slice (some ⟨h,2,none⟩) 3 3) W)∧(∀W,(Instr.sliceAt 69 (.pointer (some ⟨h,1,none⟩)) none (some (.int .i64 0)) none).run Tryz.prog W=.ok (.slice (some ⟨h,1,none⟩) 0 4) W):=by
 refine⟨fun _=>by kernel_rfl,fun _=>by kernel_rfl⟩
theorem rep_src0{w:World}{h:Nat}{q r0 r1 r2 r3:Nat}{T:TypeId}{fr:Nat×Nat}(hg:w.heap[h]? =some (.cells #[.int .i64 q,.int .i64 r0,.int .i64 r1,.int .i64 r2,.int .i64 r3] T fr)):∀(j:Nat)(v:Value),([]:List Value)[j]? =some v→w.cell? ⟨h,1+j,none⟩=some v:=by
 intro j v hj
 match j,hj with
 |j+0,hj=>simp at hj
set_option maxRecDepth 100000 in
theorem rep_slices1(h:Nat):(∀W,(Instr.sliceAt 69 (.pointer (some ⟨h,1,none⟩)) (some (.int .i64 1)) none none).run Tryz.prog W=.ok (.slice (some ⟨h,2,none⟩) 3 3) W)∧(∀W,(Instr.sliceAt 69 (.pointer (some ⟨h,1,none⟩)) none (some (.int .i64 1)) none).run Tryz.prog W=.ok (.slice (some ⟨h,1,none⟩) 1 4) W):=by
 refine⟨fun _=>by kernel_rfl,fun _=>by kernel_rfl⟩
theorem rep_src1{w:World}{h:Nat}{q r0 r1 r2 r3:Nat}{T:TypeId}{fr:Nat×Nat}(hg:w.heap[h]? =some (.cells #[.int .i64 q,.int .i64 r0,.int .i64 r1,.int .i64 r2,.int .i64 r3] T fr)):∀(j:Nat)(v:Value),([.int .i64 r0]:List Value)[j]? =some v→w.cell? ⟨h,1+j,none⟩=some v:=by
 intro j v hj
 match j,hj with
 |0,hj=>exact cell_in hg (by simpa using hj)
 |j+1,hj=>simp at hj
set_option maxRecDepth 100000 in
theorem rep_slices2(h:Nat):(∀W,(Instr.sliceAt 69 (.pointer (some ⟨h,1,none⟩)) (some (.int .i64 1)) none none).run Tryz.prog W=.ok (.slice (some ⟨h,2,none⟩) 3 3) W)∧(∀W,(Instr.sliceAt 69 (.pointer (some ⟨h,1,none⟩)) none (some (.int .i64 2)) none).run Tryz.prog W=.ok (.slice (some ⟨h,1,none⟩) 2 4) W):=by
 refine⟨fun _=>by kernel_rfl,fun _=>by kernel_rfl⟩
theorem rep_src2{w:World}{h:Nat}{q r0 r1 r2 r3:Nat}{T:TypeId}{fr:Nat×Nat}(hg:w.heap[h]? =some (.cells #[.int .i64 q,.int .i64 r0,.int .i64 r1,.int .i64 r2,.int .i64 r3] T fr)):∀(j:Nat)(v:Value),([.int .i64 r0,.int .i64 r1]:List Value)[j]? =some v→w.cell? ⟨h,1+j,none⟩=some v:=by
 intro j v hj
 match j,hj with
 |0,hj=>exact cell_in hg (by simpa using hj)
 |1,hj=>exact cell_in hg (by simpa using hj)
 |j+2,hj=>simp at hj
set_option maxRecDepth 100000 in
theorem rep_slices3(h:Nat):(∀W,(Instr.sliceAt 69 (.pointer (some ⟨h,1,none⟩)) (some (.int .i64 1)) none none).run Tryz.prog W=.ok (.slice (some ⟨h,2,none⟩) 3 3) W)∧(∀W,(Instr.sliceAt 69 (.pointer (some ⟨h,1,none⟩)) none (some (.int .i64 3)) none).run Tryz.prog W=.ok (.slice (some ⟨h,1,none⟩) 3 4) W):=by
 refine⟨fun _=>by kernel_rfl,fun _=>by kernel_rfl⟩
theorem rep_src3{w:World}{h:Nat}{q r0 r1 r2 r3:Nat}{T:TypeId}{fr:Nat×Nat}(hg:w.heap[h]? =some (.cells #[.int .i64 q,.int .i64 r0,.int .i64 r1,.int .i64 r2,.int .i64 r3] T fr)):∀(j:Nat)(v:Value),([.int .i64 r0,.int .i64 r1,.int .i64 r2]:List Value)[j]? =some v→w.cell? ⟨h,1+j,none⟩=some v:=by
 intro j v hj
 match j,hj with
 |0,hj=>exact cell_in hg (by simpa using hj)
 |1,hj=>exact cell_in hg (by simpa using hj)
 |2,hj=>exact cell_in hg (by simpa using hj)
 |j+3,hj=>simp at hj
set_option maxRecDepth 100000 in
theorem next_rep0(s:S)(hs:s.Ok)(y:Int)(l:Nat)(w:World)(hT:Tabs w)(hl:2≤l∧l≤273):
    Calls Tryz.prog 97 #[.agg s.cells,.agg #[.int .i64 3,.int .u8 y,.int .i64 l,.int .i64 0]] w fun e w'=>e=.returned (.tuple #[.agg (s.rep 0).cells,.int .i64 0])∧Fr (fun _=>False) w w':=by
  have HR:=fun W=>Hd (right_calls s hs W)
  have hn:=hs.num
  clear hs
  obtain⟨n,r0,r1,r2,r3⟩:=s
  simp only at hn
  unfold S.cells at*
  simp only[S.rep]
  try simp only[if_true,if_false,Nat.reduceEqDiff,one_ne_zero]
  have hf0:Fr (fun _=>False) w (((w.alloc (.cells #[.int .i64 n,.int .i64 r0,.int .i64 r1,.int .i64 r2,.int .i64 r3] 71)).alloc (.cells #[.int .i64 3,.int .u8 y,.int .i64 l,.int .i64 0] 96)).alloc (.cells #[.int .i64 0,.int .i64 0,.int .i64 0,.int .i64 0,.int .i64 0] 71)):=(((Fr.refl _ w).alloc _).alloc _).alloc _
  have hx0:=(((Fr.refl (fun _=>False) (w.alloc (.cells #[.int .i64 n,.int .i64 r0,.int .i64 r1,.int .i64 r2,.int .i64 r3] 71))).alloc (.cells #[.int .i64 3,.int .u8 y,.int .i64 l,.int .i64 0] 96)).alloc (.cells #[.int .i64 0,.int .i64 0,.int .i64 0,.int .i64 0,.int .i64 0] 71)).keep (heap_alloc_new w (.cells #[.int .i64 n,.int .i64 r0,.int .i64 r1,.int .i64 r2,.int .i64 r3] 71)) (fun h=>h)
  have hx1:=((Fr.refl (fun _=>False) ((w.alloc (.cells #[.int .i64 n,.int .i64 r0,.int .i64 r1,.int .i64 r2,.int .i64 r3] 71)).alloc (.cells #[.int .i64 3,.int .u8 y,.int .i64 l,.int .i64 0] 96))).alloc (.cells #[.int .i64 0,.int .i64 0,.int .i64 0,.int .i64 0,.int .i64 0] 71)).keep (heap_alloc_new (w.alloc (.cells #[.int .i64 n,.int .i64 r0,.int .i64 r1,.int .i64 r2,.int .i64 r3] 71)) (.cells #[.int .i64 3,.int .u8 y,.int .i64 l,.int .i64 0] 96)) (fun h=>h)
  have hx2:=heap_alloc_new ((w.alloc (.cells #[.int .i64 n,.int .i64 r0,.int .i64 r1,.int .i64 r2,.int .i64 r3] 71)).alloc (.cells #[.int .i64 3,.int .u8 y,.int .i64 l,.int .i64 0] 96)) (.cells #[.int .i64 0,.int .i64 0,.int .i64 0,.int .i64 0,.int .i64 0] 71)
  simp only[World.size_alloc] at hx1 hx2
  have HX0:=Hd hx0
  have HX1:=Hd hx1
  have HX2:=Hd hx2
  have HF0:=Hd hf0
  have HT:=Hd hT
  clear hf0 hT hx0 hx1 hx2
  have HL:=Hd (decide_eq_true hl)
  clear hl
  go_enter Tryz.func97,Tryz.ntmps97
  go_wp2_with fail
  refine(HR _).out.mono ?_
  rintro e w1 ⟨rfl,hfr⟩
  have hf1:=HF0.out.trans hfr
  have hx0:=hfr.keep HX0.out (fun h=>h)
  have hx1:=hfr.keep HX1.out (fun h=>h)
  have hx2:=hfr.keep HX2.out (fun h=>h)
  have hT1:=HT.out.keep hf1
  have HF1:=Hd hf1
  obtain⟨s0,s1,s2,s3,s4,sf⟩:=cf5 hx0 rfl rfl rfl rfl rfl
  have y0:=cell_in (i:=0) hx1 rfl
  have y2:=cell_in (i:=2) hx1 rfl
  have y3:=cell_in (i:=3) hx1 rfl
  obtain⟨z0,z1,z2,z3,z4,zf⟩:=cf5 hx2 rfl rfl rfl rfl rfl
  have ht:=tab_at hT1.rep (n:=n) hn
  have hsz:=lt_of_block hx2
  have hh5:=HT.out.size
  clear HX0 HX1 HX2
  have HX0:=Hd hx0
  have HX1:=Hd hx1
  have HX2:=Hd hx2
  clear hfr hx0 hx1 hx2 hT1 hf1 HR HF0
  generalize hh:w.heap.size=b0 at*
  have HH:=Hd hh
  clear hh
  generalize hq:repL.getD n 0=q at*
  have HQ:=Hd hq
  clear hq
  go_wp2_with fail
  refine(len_calls l _).mono ?_
  rw[HL.out]
  rintro e w2 ⟨rfl,rfl⟩
  go_wp2_with fail
  have hc0:(w1.setCell ⟨b0,0,none⟩ (.int .i64 q)).drew.heap[b0]? =some (.cells #[.int .i64 q,.int .i64 r0,.int .i64 r1,.int .i64 r2,.int .i64 r3] 71 (0,0)):=set_in HX0.out 0 _
  have hc2:(w1.setCell ⟨b0,0,none⟩ (.int .i64 q)).drew.heap[b0+1+1]? =_:=set_out HX2.out (by omega) _
  have HC0:=Hd hc0
  have HC2:=Hd hc2
  have hd3:(w1.setCell ⟨b0,0,none⟩ (.int .i64 q)).drew.cell? ⟨b0+1,3,none⟩=some (.int .i64 0):=cell_in (set_out HX1.out (by omega) _) rfl
  clear hc0 hc2
  obtain⟨l1,l2⟩:=rep_slices0 b0
  go_region_law (refine step_copy_rep rfl _ _ rfl b0 0 [] #[.int .i64 q,.int .i64 r0,.int .i64 r1,.int .i64 r2,.int .i64 r3] 71 (by simp[Act.eval,Act.put]) (by simp[Act.eval,Act.put]) HC0.out rfl (by decide) (rep_src0 HC0.out) (by simp[Value.oneCell']) (by simp) ?_
                 intro w2 hx2 hfr2
                 try simp only[List.length_cons,List.length_nil,List.take,List.drop,List.append,List.cons_append,List.nil_append] at hx2
                 have hz:=hfr2.keep HC2.out (fun(e:_=_)=>by omega)
                 obtain⟨s0,s1,s2,s3,s4,sf⟩:=cf5 hx2 rfl rfl rfl rfl rfl
                 obtain⟨z0,z1,z2,z3,z4,zf⟩:=cf5 hz rfl rfl rfl rfl rfl
                 have HFR2:=Hd hfr2
                 clear hx2 hz hfr2)
  go_wp2_with fail
  refine bodyPost_ret (v:=.tuple #[.agg #[.int .i64 q,.int .i64 r0,.int .i64 r1,.int .i64 r2,.int .i64 r3],.int .i64 0]) (by simp[results,Tryz.results97,go_sem,z0,z1,z2,z3,z4]) rfl ?_
  have hh:=HH.out
  refine⟨by first|rw[HQ.out]|(rw[←HQ.out];simp),HF1.out.trans' (S:=fun _=>False) (T:=fun k=>b0≤k) ?_ (fun i hi hk=>by omega)⟩
  repeat refine Fr.setCell ?_ (.inl (by simp;try omega)) _
  exact((Fr.one w1 b0 0 (.int .i64 q)).drew.trans HFR2.out).mono (fun k _(h:k=b0)=>by omega)
set_option maxRecDepth 100000 in
theorem next_rep1(s:S)(hs:s.Ok)(y:Int)(l:Nat)(w:World)(hT:Tabs w)(hl:2≤l∧l≤273):
    Calls Tryz.prog 97 #[.agg s.cells,.agg #[.int .i64 3,.int .u8 y,.int .i64 l,.int .i64 1]] w fun e w'=>e=.returned (.tuple #[.agg (s.rep 1).cells,.int .i64 0])∧Fr (fun _=>False) w w':=by
  have HR:=fun W=>Hd (right_calls s hs W)
  have hn:=hs.num
  clear hs
  obtain⟨n,r0,r1,r2,r3⟩:=s
  simp only at hn
  unfold S.cells at*
  simp only[S.rep]
  try simp only[if_true,if_false,Nat.reduceEqDiff,one_ne_zero]
  have hf0:Fr (fun _=>False) w (((w.alloc (.cells #[.int .i64 n,.int .i64 r0,.int .i64 r1,.int .i64 r2,.int .i64 r3] 71)).alloc (.cells #[.int .i64 3,.int .u8 y,.int .i64 l,.int .i64 1] 96)).alloc (.cells #[.int .i64 0,.int .i64 0,.int .i64 0,.int .i64 0,.int .i64 0] 71)):=(((Fr.refl _ w).alloc _).alloc _).alloc _
  have hx0:=(((Fr.refl (fun _=>False) (w.alloc (.cells #[.int .i64 n,.int .i64 r0,.int .i64 r1,.int .i64 r2,.int .i64 r3] 71))).alloc (.cells #[.int .i64 3,.int .u8 y,.int .i64 l,.int .i64 1] 96)).alloc (.cells #[.int .i64 0,.int .i64 0,.int .i64 0,.int .i64 0,.int .i64 0] 71)).keep (heap_alloc_new w (.cells #[.int .i64 n,.int .i64 r0,.int .i64 r1,.int .i64 r2,.int .i64 r3] 71)) (fun h=>h)
  have hx1:=((Fr.refl (fun _=>False) ((w.alloc (.cells #[.int .i64 n,.int .i64 r0,.int .i64 r1,.int .i64 r2,.int .i64 r3] 71)).alloc (.cells #[.int .i64 3,.int .u8 y,.int .i64 l,.int .i64 1] 96))).alloc (.cells #[.int .i64 0,.int .i64 0,.int .i64 0,.int .i64 0,.int .i64 0] 71)).keep (heap_alloc_new (w.alloc (.cells #[.int .i64 n,.int .i64 r0,.int .i64 r1,.int .i64 r2,.int .i64 r3] 71)) (.cells #[.int .i64 3,.int .u8 y,.int .i64 l,.int .i64 1] 96)) (fun h=>h)
  have hx2:=heap_alloc_new ((w.alloc (.cells #[.int .i64 n,.int .i64 r0,.int .i64 r1,.int .i64 r2,.int .i64 r3] 71)).alloc (.cells #[.int .i64 3,.int .u8 y,.int .i64 l,.int .i64 1] 96)) (.cells #[.int .i64 0,.int .i64 0,.int .i64 0,.int .i64 0,.int .i64 0] 71)
  simp only[World.size_alloc] at hx1 hx2
  have HX0:=Hd hx0
  have HX1:=Hd hx1
  have HX2:=Hd hx2
  have HF0:=Hd hf0
  have HT:=Hd hT
  clear hf0 hT hx0 hx1 hx2
  have HL:=Hd (decide_eq_true hl)
  clear hl
  go_enter Tryz.func97,Tryz.ntmps97
  go_wp2_with fail
  refine(HR _).out.mono ?_
  rintro e w1 ⟨rfl,hfr⟩
  have hf1:=HF0.out.trans hfr
  have hx0:=hfr.keep HX0.out (fun h=>h)
  have hx1:=hfr.keep HX1.out (fun h=>h)
  have hx2:=hfr.keep HX2.out (fun h=>h)
  have hT1:=HT.out.keep hf1
  have HF1:=Hd hf1
  obtain⟨s0,s1,s2,s3,s4,sf⟩:=cf5 hx0 rfl rfl rfl rfl rfl
  have y0:=cell_in (i:=0) hx1 rfl
  have y2:=cell_in (i:=2) hx1 rfl
  have y3:=cell_in (i:=3) hx1 rfl
  obtain⟨z0,z1,z2,z3,z4,zf⟩:=cf5 hx2 rfl rfl rfl rfl rfl
  have ht:=tab_at hT1.rep (n:=n) hn
  have hsz:=lt_of_block hx2
  have hh5:=HT.out.size
  clear HX0 HX1 HX2
  have HX0:=Hd hx0
  have HX1:=Hd hx1
  have HX2:=Hd hx2
  clear hfr hx0 hx1 hx2 hT1 hf1 HR HF0
  generalize hh:w.heap.size=b0 at*
  have HH:=Hd hh
  clear hh
  generalize hq:repL.getD n 0=q at*
  have HQ:=Hd hq
  clear hq
  go_wp2_with fail
  refine(len_calls l _).mono ?_
  rw[HL.out]
  rintro e w2 ⟨rfl,rfl⟩
  go_wp2_with fail
  have hc0:(w1.setCell ⟨b0,0,none⟩ (.int .i64 q)).drew.heap[b0]? =some (.cells #[.int .i64 q,.int .i64 r0,.int .i64 r1,.int .i64 r2,.int .i64 r3] 71 (0,0)):=set_in HX0.out 0 _
  have hc2:(w1.setCell ⟨b0,0,none⟩ (.int .i64 q)).drew.heap[b0+1+1]? =_:=set_out HX2.out (by omega) _
  have HC0:=Hd hc0
  have HC2:=Hd hc2
  have hd3:(w1.setCell ⟨b0,0,none⟩ (.int .i64 q)).drew.cell? ⟨b0+1,3,none⟩=some (.int .i64 1):=cell_in (set_out HX1.out (by omega) _) rfl
  clear hc0 hc2
  obtain⟨l1,l2⟩:=rep_slices1 b0
  go_region_law (refine step_copy_rep rfl _ _ rfl b0 1 [.int .i64 r0] #[.int .i64 q,.int .i64 r0,.int .i64 r1,.int .i64 r2,.int .i64 r3] 71 (by simp[Act.eval,Act.put]) (by simp[Act.eval,Act.put]) HC0.out rfl (by decide) (rep_src1 HC0.out) (by simp[Value.oneCell']) (by simp) ?_
                 intro w2 hx2 hfr2
                 try simp only[List.length_cons,List.length_nil,List.take,List.drop,List.append,List.cons_append,List.nil_append] at hx2
                 have hz:=hfr2.keep HC2.out (fun(e:_=_)=>by omega)
                 obtain⟨s0,s1,s2,s3,s4,sf⟩:=cf5 hx2 rfl rfl rfl rfl rfl
                 obtain⟨z0,z1,z2,z3,z4,zf⟩:=cf5 hz rfl rfl rfl rfl rfl
                 have HFR2:=Hd hfr2
                 clear hx2 hz hfr2)
  go_wp2_with fail
  refine bodyPost_ret (v:=.tuple #[.agg #[.int .i64 q,.int .i64 r1,.int .i64 r0,.int .i64 r2,.int .i64 r3],.int .i64 0]) (by simp[results,Tryz.results97,go_sem,z0,z1,z2,z3,z4]) rfl ?_
  have hh:=HH.out
  refine⟨by first|rw[HQ.out]|(rw[←HQ.out];simp),HF1.out.trans' (S:=fun _=>False) (T:=fun k=>b0≤k) ?_ (fun i hi hk=>by omega)⟩
  repeat refine Fr.setCell ?_ (.inl (by simp;try omega)) _
  exact((Fr.one w1 b0 0 (.int .i64 q)).drew.trans HFR2.out).mono (fun k _(h:k=b0)=>by omega)
set_option maxRecDepth 100000 in
theorem next_rep2(s:S)(hs:s.Ok)(y:Int)(l:Nat)(w:World)(hT:Tabs w)(hl:2≤l∧l≤273):
    Calls Tryz.prog 97 #[.agg s.cells,.agg #[.int .i64 3,.int .u8 y,.int .i64 l,.int .i64 2]] w fun e w'=>e=.returned (.tuple #[.agg (s.rep 2).cells,.int .i64 0])∧Fr (fun _=>False) w w':=by
  have HR:=fun W=>Hd (right_calls s hs W)
  have hn:=hs.num
  clear hs
  obtain⟨n,r0,r1,r2,r3⟩:=s
  simp only at hn
  unfold S.cells at*
  simp only[S.rep]
  try simp only[if_true,if_false,Nat.reduceEqDiff,one_ne_zero]
  have hf0:Fr (fun _=>False) w (((w.alloc (.cells #[.int .i64 n,.int .i64 r0,.int .i64 r1,.int .i64 r2,.int .i64 r3] 71)).alloc (.cells #[.int .i64 3,.int .u8 y,.int .i64 l,.int .i64 2] 96)).alloc (.cells #[.int .i64 0,.int .i64 0,.int .i64 0,.int .i64 0,.int .i64 0] 71)):=(((Fr.refl _ w).alloc _).alloc _).alloc _
  have hx0:=(((Fr.refl (fun _=>False) (w.alloc (.cells #[.int .i64 n,.int .i64 r0,.int .i64 r1,.int .i64 r2,.int .i64 r3] 71))).alloc (.cells #[.int .i64 3,.int .u8 y,.int .i64 l,.int .i64 2] 96)).alloc (.cells #[.int .i64 0,.int .i64 0,.int .i64 0,.int .i64 0,.int .i64 0] 71)).keep (heap_alloc_new w (.cells #[.int .i64 n,.int .i64 r0,.int .i64 r1,.int .i64 r2,.int .i64 r3] 71)) (fun h=>h)
  have hx1:=((Fr.refl (fun _=>False) ((w.alloc (.cells #[.int .i64 n,.int .i64 r0,.int .i64 r1,.int .i64 r2,.int .i64 r3] 71)).alloc (.cells #[.int .i64 3,.int .u8 y,.int .i64 l,.int .i64 2] 96))).alloc (.cells #[.int .i64 0,.int .i64 0,.int .i64 0,.int .i64 0,.int .i64 0] 71)).keep (heap_alloc_new (w.alloc (.cells #[.int .i64 n,.int .i64 r0,.int .i64 r1,.int .i64 r2,.int .i64 r3] 71)) (.cells #[.int .i64 3,.int .u8 y,.int .i64 l,.int .i64 2] 96)) (fun h=>h)
  have hx2:=heap_alloc_new ((w.alloc (.cells #[.int .i64 n,.int .i64 r0,.int .i64 r1,.int .i64 r2,.int .i64 r3] 71)).alloc (.cells #[.int .i64 3,.int .u8 y,.int .i64 l,.int .i64 2] 96)) (.cells #[.int .i64 0,.int .i64 0,.int .i64 0,.int .i64 0,.int .i64 0] 71)
  simp only[World.size_alloc] at hx1 hx2
  have HX0:=Hd hx0
  have HX1:=Hd hx1
  have HX2:=Hd hx2
  have HF0:=Hd hf0
  have HT:=Hd hT
  clear hf0 hT hx0 hx1 hx2
  have HL:=Hd (decide_eq_true hl)
  clear hl
  go_enter Tryz.func97,Tryz.ntmps97
  go_wp2_with fail
  refine(HR _).out.mono ?_
  rintro e w1 ⟨rfl,hfr⟩
  have hf1:=HF0.out.trans hfr
  have hx0:=hfr.keep HX0.out (fun h=>h)
  have hx1:=hfr.keep HX1.out (fun h=>h)
  have hx2:=hfr.keep HX2.out (fun h=>h)
  have hT1:=HT.out.keep hf1
  have HF1:=Hd hf1
  obtain⟨s0,s1,s2,s3,s4,sf⟩:=cf5 hx0 rfl rfl rfl rfl rfl
  have y0:=cell_in (i:=0) hx1 rfl
  have y2:=cell_in (i:=2) hx1 rfl
  have y3:=cell_in (i:=3) hx1 rfl
  obtain⟨z0,z1,z2,z3,z4,zf⟩:=cf5 hx2 rfl rfl rfl rfl rfl
  have ht:=tab_at hT1.rep (n:=n) hn
  have hsz:=lt_of_block hx2
  have hh5:=HT.out.size
  clear HX0 HX1 HX2
  have HX0:=Hd hx0
  have HX1:=Hd hx1
  have HX2:=Hd hx2
  clear hfr hx0 hx1 hx2 hT1 hf1 HR HF0
  generalize hh:w.heap.size=b0 at*
  have HH:=Hd hh
  clear hh
  generalize hq:repL.getD n 0=q at*
  have HQ:=Hd hq
  clear hq
  go_wp2_with fail
  refine(len_calls l _).mono ?_
  rw[HL.out]
  rintro e w2 ⟨rfl,rfl⟩
  go_wp2_with fail
  have hc0:(w1.setCell ⟨b0,0,none⟩ (.int .i64 q)).drew.heap[b0]? =some (.cells #[.int .i64 q,.int .i64 r0,.int .i64 r1,.int .i64 r2,.int .i64 r3] 71 (0,0)):=set_in HX0.out 0 _
  have hc2:(w1.setCell ⟨b0,0,none⟩ (.int .i64 q)).drew.heap[b0+1+1]? =_:=set_out HX2.out (by omega) _
  have HC0:=Hd hc0
  have HC2:=Hd hc2
  have hd3:(w1.setCell ⟨b0,0,none⟩ (.int .i64 q)).drew.cell? ⟨b0+1,3,none⟩=some (.int .i64 2):=cell_in (set_out HX1.out (by omega) _) rfl
  clear hc0 hc2
  obtain⟨l1,l2⟩:=rep_slices2 b0
  go_region_law (refine step_copy_rep rfl _ _ rfl b0 2 [.int .i64 r0,.int .i64 r1] #[.int .i64 q,.int .i64 r0,.int .i64 r1,.int .i64 r2,.int .i64 r3] 71 (by simp[Act.eval,Act.put]) (by simp[Act.eval,Act.put]) HC0.out rfl (by decide) (rep_src2 HC0.out) (by simp[Value.oneCell']) (by simp) ?_
                 intro w2 hx2 hfr2
                 try simp only[List.length_cons,List.length_nil,List.take,List.drop,List.append,List.cons_append,List.nil_append] at hx2
                 have hz:=hfr2.keep HC2.out (fun(e:_=_)=>by omega)
                 obtain⟨s0,s1,s2,s3,s4,sf⟩:=cf5 hx2 rfl rfl rfl rfl rfl
                 obtain⟨z0,z1,z2,z3,z4,zf⟩:=cf5 hz rfl rfl rfl rfl rfl
                 have HFR2:=Hd hfr2
                 clear hx2 hz hfr2)
  go_wp2_with fail
  refine bodyPost_ret (v:=.tuple #[.agg #[.int .i64 q,.int .i64 r2,.int .i64 r0,.int .i64 r1,.int .i64 r3],.int .i64 0]) (by simp[results,Tryz.results97,go_sem,z0,z1,z2,z3,z4]) rfl ?_
  have hh:=HH.out
  refine⟨by first|rw[HQ.out]|(rw[←HQ.out];simp),HF1.out.trans' (S:=fun _=>False) (T:=fun k=>b0≤k) ?_ (fun i hi hk=>by omega)⟩
  repeat refine Fr.setCell ?_ (.inl (by simp;try omega)) _
  exact((Fr.one w1 b0 0 (.int .i64 q)).drew.trans HFR2.out).mono (fun k _(h:k=b0)=>by omega)
set_option maxRecDepth 100000 in
theorem next_rep3(s:S)(hs:s.Ok)(y:Int)(l:Nat)(w:World)(hT:Tabs w)(hl:2≤l∧l≤273):
    Calls Tryz.prog 97 #[.agg s.cells,.agg #[.int .i64 3,.int .u8 y,.int .i64 l,.int .i64 3]] w fun e w'=>e=.returned (.tuple #[.agg (s.rep 3).cells,.int .i64 0])∧Fr (fun _=>False) w w':=by
  have HR:=fun W=>Hd (right_calls s hs W)
  have hn:=hs.num
  clear hs
  obtain⟨n,r0,r1,r2,r3⟩:=s
  simp only at hn
  unfold S.cells at*
  simp only[S.rep]
  try simp only[if_true,if_false,Nat.reduceEqDiff,one_ne_zero]
  have hf0:Fr (fun _=>False) w (((w.alloc (.cells #[.int .i64 n,.int .i64 r0,.int .i64 r1,.int .i64 r2,.int .i64 r3] 71)).alloc (.cells #[.int .i64 3,.int .u8 y,.int .i64 l,.int .i64 3] 96)).alloc (.cells #[.int .i64 0,.int .i64 0,.int .i64 0,.int .i64 0,.int .i64 0] 71)):=(((Fr.refl _ w).alloc _).alloc _).alloc _
  have hx0:=(((Fr.refl (fun _=>False) (w.alloc (.cells #[.int .i64 n,.int .i64 r0,.int .i64 r1,.int .i64 r2,.int .i64 r3] 71))).alloc (.cells #[.int .i64 3,.int .u8 y,.int .i64 l,.int .i64 3] 96)).alloc (.cells #[.int .i64 0,.int .i64 0,.int .i64 0,.int .i64 0,.int .i64 0] 71)).keep (heap_alloc_new w (.cells #[.int .i64 n,.int .i64 r0,.int .i64 r1,.int .i64 r2,.int .i64 r3] 71)) (fun h=>h)
  have hx1:=((Fr.refl (fun _=>False) ((w.alloc (.cells #[.int .i64 n,.int .i64 r0,.int .i64 r1,.int .i64 r2,.int .i64 r3] 71)).alloc (.cells #[.int .i64 3,.int .u8 y,.int .i64 l,.int .i64 3] 96))).alloc (.cells #[.int .i64 0,.int .i64 0,.int .i64 0,.int .i64 0,.int .i64 0] 71)).keep (heap_alloc_new (w.alloc (.cells #[.int .i64 n,.int .i64 r0,.int .i64 r1,.int .i64 r2,.int .i64 r3] 71)) (.cells #[.int .i64 3,.int .u8 y,.int .i64 l,.int .i64 3] 96)) (fun h=>h)
  have hx2:=heap_alloc_new ((w.alloc (.cells #[.int .i64 n,.int .i64 r0,.int .i64 r1,.int .i64 r2,.int .i64 r3] 71)).alloc (.cells #[.int .i64 3,.int .u8 y,.int .i64 l,.int .i64 3] 96)) (.cells #[.int .i64 0,.int .i64 0,.int .i64 0,.int .i64 0,.int .i64 0] 71)
  simp only[World.size_alloc] at hx1 hx2
  have HX0:=Hd hx0
  have HX1:=Hd hx1
  have HX2:=Hd hx2
  have HF0:=Hd hf0
  have HT:=Hd hT
  clear hf0 hT hx0 hx1 hx2
  have HL:=Hd (decide_eq_true hl)
  clear hl
  go_enter Tryz.func97,Tryz.ntmps97
  go_wp2_with fail
  refine(HR _).out.mono ?_
  rintro e w1 ⟨rfl,hfr⟩
  have hf1:=HF0.out.trans hfr
  have hx0:=hfr.keep HX0.out (fun h=>h)
  have hx1:=hfr.keep HX1.out (fun h=>h)
  have hx2:=hfr.keep HX2.out (fun h=>h)
  have hT1:=HT.out.keep hf1
  have HF1:=Hd hf1
  obtain⟨s0,s1,s2,s3,s4,sf⟩:=cf5 hx0 rfl rfl rfl rfl rfl
  have y0:=cell_in (i:=0) hx1 rfl
  have y2:=cell_in (i:=2) hx1 rfl
  have y3:=cell_in (i:=3) hx1 rfl
  obtain⟨z0,z1,z2,z3,z4,zf⟩:=cf5 hx2 rfl rfl rfl rfl rfl
  have ht:=tab_at hT1.rep (n:=n) hn
  have hsz:=lt_of_block hx2
  have hh5:=HT.out.size
  clear HX0 HX1 HX2
  have HX0:=Hd hx0
  have HX1:=Hd hx1
  have HX2:=Hd hx2
  clear hfr hx0 hx1 hx2 hT1 hf1 HR HF0
  generalize hh:w.heap.size=b0 at*
  have HH:=Hd hh
  clear hh
  generalize hq:repL.getD n 0=q at*
  have HQ:=Hd hq
  clear hq
  go_wp2_with fail
  refine(len_calls l _).mono ?_
  rw[HL.out]
  rintro e w2 ⟨rfl,rfl⟩
  go_wp2_with fail
  have hc0:(w1.setCell ⟨b0,0,none⟩ (.int .i64 q)).drew.heap[b0]? =some (.cells #[.int .i64 q,.int .i64 r0,.int .i64 r1,.int .i64 r2,.int .i64 r3] 71 (0,0)):=set_in HX0.out 0 _
  have hc2:(w1.setCell ⟨b0,0,none⟩ (.int .i64 q)).drew.heap[b0+1+1]? =_:=set_out HX2.out (by omega) _
  have HC0:=Hd hc0
  have HC2:=Hd hc2
  have hd3:(w1.setCell ⟨b0,0,none⟩ (.int .i64 q)).drew.cell? ⟨b0+1,3,none⟩=some (.int .i64 3):=cell_in (set_out HX1.out (by omega) _) rfl
  clear hc0 hc2
  obtain⟨l1,l2⟩:=rep_slices3 b0
  go_region_law (refine step_copy_rep rfl _ _ rfl b0 3 [.int .i64 r0,.int .i64 r1,.int .i64 r2] #[.int .i64 q,.int .i64 r0,.int .i64 r1,.int .i64 r2,.int .i64 r3] 71 (by simp[Act.eval,Act.put]) (by simp[Act.eval,Act.put]) HC0.out rfl (by decide) (rep_src3 HC0.out) (by simp[Value.oneCell']) (by simp) ?_
                 intro w2 hx2 hfr2
                 try simp only[List.length_cons,List.length_nil,List.take,List.drop,List.append,List.cons_append,List.nil_append] at hx2
                 have hz:=hfr2.keep HC2.out (fun(e:_=_)=>by omega)
                 obtain⟨s0,s1,s2,s3,s4,sf⟩:=cf5 hx2 rfl rfl rfl rfl rfl
                 obtain⟨z0,z1,z2,z3,z4,zf⟩:=cf5 hz rfl rfl rfl rfl rfl
                 have HFR2:=Hd hfr2
                 clear hx2 hz hfr2)
  go_wp2_with fail
  refine bodyPost_ret (v:=.tuple #[.agg #[.int .i64 q,.int .i64 r3,.int .i64 r0,.int .i64 r1,.int .i64 r2],.int .i64 0]) (by simp[results,Tryz.results97,go_sem,z0,z1,z2,z3,z4]) rfl ?_
  have hh:=HH.out
  refine⟨by first|rw[HQ.out]|(rw[←HQ.out];simp),HF1.out.trans' (S:=fun _=>False) (T:=fun k=>b0≤k) ?_ (fun i hi hk=>by omega)⟩
  repeat refine Fr.setCell ?_ (.inl (by simp;try omega)) _
  exact((Fr.one w1 b0 0 (.int .i64 q)).drew.trans HFR2.out).mono (fun k _(h:k=b0)=>by omega)
end St
namespace St
open Mem
structure Sy where
 kind:Nat
 byte:Nat
 len:Nat
 dist:Nat
def Sy.cells(y:Sy):Array Value:=#[.int .i64 y.kind,.int .u8 y.byte,.int .i64 y.len,.int .i64 y.dist]
structure Sy.Ok(y:Sy):Prop where
 kind:y.kind=1∨y.kind=2∨y.kind=3∨y.kind=4
 dist:y.kind=3→y.dist≤3
 byte:y.byte<256
abbrev isL(n:Nat):Prop:=2≤n∧n≤273
def S.zero:S:=⟨0,0,0,0,0⟩
def S.next(s:S)(y:Sy):Nat×S:=
 if y.kind=1 then(0,s.lit) else if y.kind=4 then(0,s.short) else if y.kind=2 then(if isL y.len then(if isD y.dist then(0,s.mat y.dist) else(7,.zero)) else(7,.zero))
 else if isL y.len then(0,s.rep y.dist) else(7,.zero)
theorem S.next_ok{s:S}(hs:s.Ok){y:Sy}(h0:(s.next y).1=0):(s.next y).2.Ok:=by
 unfold S.next at*
 split
 ·exact hs.lit
 ·rename_i h1
  rw[if_neg h1] at h0
  split
  ·exact hs.short
  ·rename_i h2
   rw[if_neg h2] at h0
   split
   ·rename_i h3
    rw[if_pos h3] at h0
    split
    ·rename_i h4
     rw[if_pos h4] at h0
     split
     ·rename_i h5
      exact hs.mat h5
     ·rename_i h5
      rw[if_neg h5] at h0
      simp at h0
    ·rename_i h4
     rw[if_neg h4] at h0
     simp at h0
   ·rename_i h3
    rw[if_neg h3] at h0
    split
    ·exact hs.rep
    ·rename_i h4
     rw[if_neg h4] at h0
     simp at h0
theorem S.next_err(s:S)(y:Sy):(s.next y).1=0∨(s.next y).1=7:=by
 unfold S.next
 repeat' split
 all_goals first|exact .inl rfl|exact .inr rfl
theorem next_calls(s:S)(hs:s.Ok)(y:Sy)(hy:y.Ok)(w:World)(hT:Tabs w):
 Calls Tryz.prog 97 #[.agg s.cells,.agg y.cells] w fun e w'=>e=.returned (.tuple #[.agg (s.next y).2.cells,.int .i64 (s.next y).1])∧Fr (fun _=>False) w w':=by
 obtain⟨kind,byte,len,dist⟩:=y
 obtain⟨hk,hd,hb⟩:=hy
 simp only at hk hd hb
 simp only[Sy.cells,S.next]
 rcases hk with rfl|rfl|rfl|rfl
 ·exact next_lit s hs _ _ _ w hT
 ·rw[if_neg (by decide),if_neg (by decide),if_pos rfl]
  by_cases hl:isL len
  ·rw[if_pos hl]
   by_cases hdd:isD dist
   ·rw[if_pos hdd]
    exact next_mat s hs _ _ _ w hT hl hdd
   ·rw[if_neg hdd]
    exact next_mat_dist s hs _ _ _ w hT hl hdd
  ·rw[if_neg hl]
   exact next_mat_len s hs _ _ _ w hT hl
 ·rw[if_neg (by decide),if_neg (by decide),if_neg (by decide)]
  by_cases hl:isL len
  ·rw[if_pos hl]
   have hd3:=hd rfl
   obtain rfl|rfl|rfl|rfl:dist=0∨dist=1∨dist=2∨dist=3:=by omega
   ·exact next_rep0 s hs _ _ w hT hl
   ·exact next_rep1 s hs _ _ w hT hl
   ·exact next_rep2 s hs _ _ w hT hl
   ·exact next_rep3 s hs _ _ w hT hl
  ·rw[if_neg hl]
   exact next_rep_len s hs _ _ _ w hT hl
 ·rw[if_neg (by decide),if_pos rfl]
  exact next_short s hs _ _ _ w hT
theorem new_at(w0 w:World)(h:Fr (fun _=>False) w0 w):Calls Tryz.prog 25 #[] w fun e w'=>e=.returned (.agg S.new.cells)∧Fr (fun _=>False) w w':=new_calls w
def size(y:Sy):Nat:=if(S.new.next y).1=0 then(if y.kind=2∨y.kind=3 then y.len else 1) else 0
end St
namespace St
open Mem Win
def distOf(s:S)(y:Sy):Nat:=if y.kind=2 then y.dist else if y.kind=3 then repAt s y.dist else s.r0
def lenOfSy(y:Sy):Nat:=if y.kind=4 then 1 else y.len
def apply(size:Nat)(all:List UInt8)(s:S)(y:Sy):Nat×List UInt8×S:=
 if(s.next y).1=0 then
  if y.kind=1 then(0,[UInt8.ofNat y.byte],(s.next y).2)
  else if 1≤distOf s y∧distOf s y≤min size all.length then(0,copied all (distOf s y) (lenOfSy y),(s.next y).2)
  else(7,[],.zero)
 else((s.next y).1,[],.zero)
structure Done(w:World)(B size:Nat)(rv:Value)(all bytes:List UInt8)(v:Value)(w':World):Prop where
 fr:Fr (fun k=>k=B∨rv.ownBlock=some k) w w'
 mine:Mine w w' v bytes
 win:∃rv' ring' t',Win.At w' B rv' size (all++bytes) ring' t'∧(∀k,rv'.ownBlock=some k→rv.ownBlock=some k∨w.heap.size≤k)∧(∀k,v.ownBlock=some k→rv'.ownBlock≠some k)
theorem Done.fin{w W2 wx wy:World}{B size g:Nat}{rv v:Value}{all bytes:List UInt8}(hF:Fr (fun _=>False) w W2)(h:Done W2 B size rv all bytes v wx)(hch:Fr (fun k=>k=g) wx wy)(hg0:w.heap.size≤g)(hg1:g<W2.heap.size)(hB:B<w.heap.size)(hrv:∀k,rv.ownBlock=some k→k<w.heap.size):Done w B size rv all bytes v wy:=by
 obtain⟨h1,h2,rv',ring',t',h3,h4,h5⟩:=h
 have hs:=hF.size
 refine⟨((hF.mono (fun _ _ h=>h.elim)).trans h1).trans' hch (fun i hi(e:i=g)=>by omega),⟨(h2.step hch (fun k hk(e:k=g)=>by have:=h2.new k hk;omega)).own,fun k hk=>Nat.le_trans hs (h2.new k hk)⟩,rv',ring',t',h3.keep hch (fun(e:B=g)=>by omega) (fun k hk(e:k=g)=> ?_),fun k hk=>(h4 k hk).imp id (Nat.le_trans hs),h5⟩
 rcases h4 k hk with h|h
 ·have:=hrv k h
  omega
 ·omega
theorem next_len(s:S)(y:Sy)(h0:(s.next y).1=0)(hk:y.kind=2∨y.kind=3):y.len≤273:=by
 by_cases hl:isL y.len
 ·exact hl.2
 ·exfalso
  unfold S.next at h0
  rcases hk with hk|hk
  ·rw[if_neg (by omega),if_neg (by omega),if_pos hk,if_neg hl] at h0
   simp at h0
  ·rw[if_neg (by omega),if_neg (by omega),if_neg (by omega),if_neg hl] at h0
   simp at h0
theorem copy_all(B size t d n:Nat)(rv:Value)(all ring:List UInt8)(w:World)(h:Win.At w B rv size all ring t)(hn:n≤273)(hmuch:all.length≤1152921504606846000):
 Calls Tryz.prog 98 #[.pointer (some ⟨B,0,none⟩),.int .i64 d,.int .i64 n] w fun e w'=>∃(e2:Nat)(bytes:List UInt8)(v:Value),e=.returned (.tuple #[v,.int .i64 (e2:Int)])∧
  ((1≤d∧d≤min size all.length)∧e2=0∧bytes=copied all d n∨¬(1≤d∧d≤min size all.length)∧e2=7∧bytes=[])∧Done w B size rv all bytes v w':=by
 have hl:=h.of.len
 by_cases hin:1≤d∧d≤ring.length
 ·refine(copy_in B size t d n rv all ring w h hin hn hmuch).mono ?_
  rintro e w' ⟨v,rfl,rv2,ring2,t2,hA,hF,hN,hM,hP⟩
  exact⟨0,_,v,rfl,.inl ⟨⟨hin.1,by omega⟩,rfl,rfl⟩,hF,hM,rv2,ring2,t2,by rw[←grown_eq];exact hA,hN,hP⟩
 ·refine(copy_out B size t d n rv all ring w h (.inl hin)).mono ?_
  rintro e w' ⟨rfl,rfl⟩
  exact⟨7,[],_,rfl,.inr ⟨by rw[←hl];exact hin,rfl,rfl⟩,Fr.refl _ _,Mine.nil _ _,rv,ring,t,by rw[List.append_nil];exact h,fun k hk=>.inl hk,fun k hk=>by simp[Value.ownBlock] at hk⟩
end St
namespace Rc
open Mem
structure D where
 b:List UInt8
 read:Nat
 rng:Nat
 now:Nat
def D.widen(d:D):Option D:=
 if 16777216≤d.rng then some d else match d.b[d.read]? with
  |none=>none
  |some c=>some ⟨d.b,d.read+1,d.rng*256,d.now*256+c.toNat⟩
def D.upper(d:D)(cut:Nat):Nat×D:=if d.now<cut then(0,⟨d.b,d.read,cut,d.now⟩) else(1,⟨d.b,d.read,d.rng-cut,d.now-cut⟩)
def cutAt(r p:Nat):Nat:=r/2048*p
def D.bit(d:D)(p:Nat):Option (Nat×D):=(d.upper (cutAt d.rng p)).2.widen.map fun e=>((d.upper (cutAt d.rng p)).1,e)
def D.direct:Nat→Nat→D→Except Nat (Nat×D)
 |0,v,d=>.ok (v,d)
 |n+1,v,d=>
   if(if d.rng/2≤d.now then d.now-d.rng/2 else d.now)=d.rng/2 then .error 2 else
   match (⟨d.b,d.read,d.rng/2,if d.rng/2≤d.now then d.now-d.rng/2 else d.now⟩:D).widen with
   |none=>.error 1
   |some e=>D.direct n (if d.rng/2≤d.now then 2*v+1 else 2*v) e
end Rc
namespace Rc
open Mem
end Rc
namespace Mem
end Mem
namespace Rc
open Mem
end Rc
namespace Rc
open Mem
end Rc
end Go.Proofs.YtlgccpjccopdmaaGreatDoor
