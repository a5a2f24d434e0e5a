/- Part 9 of 52: lemmas of the last part, each under the conditions that it names. -/
import Derived.Deep.RegionHeld3
import Derived.Test.YtffoddpjfgjelaaGreatDoorP04
set_option linter.unusedVariables false
set_option linter.unusedSimpArgs false
set_option maxRecDepth 1500
set_option maxHeartbeats 2000000
namespace Go.Proofs.YtffoddpjfgjelaaGreatDoor
open Go.RowKit
namespace St
open Mem
theorem step_copy_rep{ops:Array Oper}{o:Oper}{a:Act}{w:World}{K:Act→World→Prop}{Q:Exit→Act→World→Prop}{E:Prop}(hgd:o.guard=none)(d s:Operand)
 (ho:o.op=.call {callee:=.builtin .copy,args:=#[d,s],argTypes:=#[94,94]})(g k:Nat)(cs:List Value)(cur:Array Value)(T:TypeId)
 (hd:a.eval d=.slice (some ⟨g,2,none⟩) 3 3)(hs:a.eval s=.slice (some ⟨g,1,none⟩) k 4)(hg:w.heap[g]? =some (.cells cur T (0,0)))(hn:cs.length=k)(hk:k≤3)
 (hsrc:∀j v,cs[j]? =some v→w.cell? ⟨g,1+j,none⟩=some v)(h1:∀v ∈ cs,v.oneCell'=true)(hfit:2+k≤cur.size)
 (h:∀w',w'.heap[g]? =some (.cells (cur.toList.take 2++cs++cur.toList.drop (2+cs.length)).toArray T (0,0))→Fr (fun j=>j=g) w w'→K (a.put o.dst (.int .i64 (k:Int))) w'):
 if Region.wanted o (yielded ops a.tmps)=true then Oper.wp Tryz.prog o a w K Q else E:=by
 have hw:Region.wanted o (yielded ops a.tmps)=true:=by simp[Region.wanted,hgd]
 rw[if_pos hw]
 have hr:=run_copy_row (P:=Tryz.prog) w 94 94 o.type 3 g 2 3 3 ⟨g,1,none⟩ k 4 cur T cs Tryz.underlying94 (by kernel_rfl) hg (by rw[hn];exact(Nat.min_eq_left hk).symm) (fun j v hj=>by rw[add_mid];exact hsrc j v hj) (by omega) h1
 unfold Oper.wp
 simp[execOp,ho,resolve,invoke,builtin,hd,hs,hr,Result.andThen,hn]
 have h2:=h _ (setRow_heap w g _ _ T _ hg) ⟨rfl,rfl,rfl,by simp[World.setRow],fun j hj hne=>setRow_other w g j _ hne⟩
 simp only[List.append_assoc,hn] at h2
 exact h2
set_option maxRecDepth 100000 in
theorem rep_slices0(h:Nat):(∀W,(Instr.sliceAt 82 (.pointer (some ⟨h,1,none⟩)) (some (.int .i64 1)) none none).run Tryz.prog W=.ok (.slice (some ⟨h,2,none⟩) 3 3) W)∧(∀W,(Instr.sliceAt 82 (.pointer (some ⟨h,1,none⟩)) none (some (.int .i64 0)) none).run Tryz.prog W=.ok (.slice (some ⟨h,1,none⟩) 0 4) W):=by
 refine⟨fun _=>by kernel_rfl,fun _=>by kernel_rfl⟩
theorem rep_src0{w:World}{h:Nat}{q r0 r1 r2 r3:Nat}{T:TypeId}{fr:Nat×Nat}(hg:w.heap[h]? =some (.cells #[.int .i64 q,.int .i64 r0,.int .i64 r1,.int .i64 r2,.int .i64 r3] T fr)):∀(j:Nat)(v:Value),([]:List Value)[j]? =some v→w.cell? ⟨h,1+j,none⟩=some v:=by
 intro j v hj
 match j,hj with
 |j+0,hj=>simp at hj
set_option maxRecDepth 100000 in
theorem rep_slices1(h:Nat):(∀W,(Instr.sliceAt 82 (.pointer (some ⟨h,1,none⟩)) (some (.int .i64 1)) none none).run Tryz.prog W=.ok (.slice (some ⟨h,2,none⟩) 3 3) W)∧(∀W,(Instr.sliceAt 82 (.pointer (some ⟨h,1,none⟩)) none (some (.int .i64 1)) none).run Tryz.prog W=.ok (.slice (some ⟨h,1,none⟩) 1 4) W):=by
 refine⟨fun _=>by kernel_rfl,fun _=>by kernel_rfl⟩
theorem rep_src1{w:World}{h:Nat}{q r0 r1 r2 r3:Nat}{T:TypeId}{fr:Nat×Nat}(hg:w.heap[h]? =some (.cells #[.int .i64 q,.int .i64 r0,.int .i64 r1,.int .i64 r2,.int .i64 r3] T fr)):∀(j:Nat)(v:Value),([.int .i64 r0]:List Value)[j]? =some v→w.cell? ⟨h,1+j,none⟩=some v:=by
 intro j v hj
 match j,hj with
 |0,hj=>exact cell_in hg (by simpa using hj)
 |j+1,hj=>simp at hj
set_option maxRecDepth 100000 in
theorem rep_slices2(h:Nat):(∀W,(Instr.sliceAt 82 (.pointer (some ⟨h,1,none⟩)) (some (.int .i64 1)) none none).run Tryz.prog W=.ok (.slice (some ⟨h,2,none⟩) 3 3) W)∧(∀W,(Instr.sliceAt 82 (.pointer (some ⟨h,1,none⟩)) none (some (.int .i64 2)) none).run Tryz.prog W=.ok (.slice (some ⟨h,1,none⟩) 2 4) W):=by
 refine⟨fun _=>by kernel_rfl,fun _=>by kernel_rfl⟩
theorem rep_src2{w:World}{h:Nat}{q r0 r1 r2 r3:Nat}{T:TypeId}{fr:Nat×Nat}(hg:w.heap[h]? =some (.cells #[.int .i64 q,.int .i64 r0,.int .i64 r1,.int .i64 r2,.int .i64 r3] T fr)):∀(j:Nat)(v:Value),([.int .i64 r0,.int .i64 r1]:List Value)[j]? =some v→w.cell? ⟨h,1+j,none⟩=some v:=by
 intro j v hj
 match j,hj with
 |0,hj=>exact cell_in hg (by simpa using hj)
 |1,hj=>exact cell_in hg (by simpa using hj)
 |j+2,hj=>simp at hj
set_option maxRecDepth 100000 in
theorem rep_slices3(h:Nat):(∀W,(Instr.sliceAt 82 (.pointer (some ⟨h,1,none⟩)) (some (.int .i64 1)) none none).run Tryz.prog W=.ok (.slice (some ⟨h,2,none⟩) 3 3) W)∧(∀W,(Instr.sliceAt 82 (.pointer (some ⟨h,1,none⟩)) none (some (.int .i64 3)) none).run Tryz.prog W=.ok (.slice (some ⟨h,1,none⟩) 3 4) W):=by
 refine⟨fun _=>by kernel_rfl,fun _=>by kernel_rfl⟩
theorem rep_src3{w:World}{h:Nat}{q r0 r1 r2 r3:Nat}{T:TypeId}{fr:Nat×Nat}(hg:w.heap[h]? =some (.cells #[.int .i64 q,.int .i64 r0,.int .i64 r1,.int .i64 r2,.int .i64 r3] T fr)):∀(j:Nat)(v:Value),([.int .i64 r0,.int .i64 r1,.int .i64 r2]:List Value)[j]? =some v→w.cell? ⟨h,1+j,none⟩=some v:=by
 intro j v hj
 match j,hj with
 |0,hj=>exact cell_in hg (by simpa using hj)
 |1,hj=>exact cell_in hg (by simpa using hj)
 |2,hj=>exact cell_in hg (by simpa using hj)
 |j+3,hj=>simp at hj
set_option maxRecDepth 100000 in
theorem next_rep0(s:S)(hs:s.Ok)(y:Int)(l:Nat)(w:World)(hT:Tabs w)(hl:2≤l∧l≤273):
    Calls Tryz.prog 126 #[.agg s.cells,.agg #[.int .i64 3,.int .u8 y,.int .i64 l,.int .i64 0]] w fun e w'=>e=.returned (.tuple #[.agg (s.rep 0).cells,.int .i64 0])∧Fr (fun _=>False) w w':=by
  have HR:=fun W=>Hd (right_calls s hs W)
  have hn:=hs.num
  clear hs
  obtain⟨n,r0,r1,r2,r3⟩:=s
  simp only at hn
  unfold S.cells at*
  simp only[S.rep]
  try simp only[if_true,if_false,Nat.reduceEqDiff,one_ne_zero]
  have hf0:Fr (fun _=>False) w (((w.alloc (.cells #[.int .i64 n,.int .i64 r0,.int .i64 r1,.int .i64 r2,.int .i64 r3] 84)).alloc (.cells #[.int .i64 3,.int .u8 y,.int .i64 l,.int .i64 0] 110)).alloc (.cells #[.int .i64 0,.int .i64 0,.int .i64 0,.int .i64 0,.int .i64 0] 84)):=(((Fr.refl _ w).alloc _).alloc _).alloc _
  have hx0:=(((Fr.refl (fun _=>False) (w.alloc (.cells #[.int .i64 n,.int .i64 r0,.int .i64 r1,.int .i64 r2,.int .i64 r3] 84))).alloc (.cells #[.int .i64 3,.int .u8 y,.int .i64 l,.int .i64 0] 110)).alloc (.cells #[.int .i64 0,.int .i64 0,.int .i64 0,.int .i64 0,.int .i64 0] 84)).keep (heap_alloc_new w (.cells #[.int .i64 n,.int .i64 r0,.int .i64 r1,.int .i64 r2,.int .i64 r3] 84)) (fun h=>h)
  have hx1:=((Fr.refl (fun _=>False) ((w.alloc (.cells #[.int .i64 n,.int .i64 r0,.int .i64 r1,.int .i64 r2,.int .i64 r3] 84)).alloc (.cells #[.int .i64 3,.int .u8 y,.int .i64 l,.int .i64 0] 110))).alloc (.cells #[.int .i64 0,.int .i64 0,.int .i64 0,.int .i64 0,.int .i64 0] 84)).keep (heap_alloc_new (w.alloc (.cells #[.int .i64 n,.int .i64 r0,.int .i64 r1,.int .i64 r2,.int .i64 r3] 84)) (.cells #[.int .i64 3,.int .u8 y,.int .i64 l,.int .i64 0] 110)) (fun h=>h)
  have hx2:=heap_alloc_new ((w.alloc (.cells #[.int .i64 n,.int .i64 r0,.int .i64 r1,.int .i64 r2,.int .i64 r3] 84)).alloc (.cells #[.int .i64 3,.int .u8 y,.int .i64 l,.int .i64 0] 110)) (.cells #[.int .i64 0,.int .i64 0,.int .i64 0,.int .i64 0,.int .i64 0] 84)
  simp only[World.size_alloc] at hx1 hx2
  have HX0:=Hd hx0
  have HX1:=Hd hx1
  have HX2:=Hd hx2
  have HF0:=Hd hf0
  have HT:=Hd hT
  clear hf0 hT hx0 hx1 hx2
  have HL:=Hd (decide_eq_true hl)
  clear hl
  go_enter Tryz.func126,Tryz.ntmps126
  go_wp2_with fail
  refine(HR _).out.mono ?_
  rintro e w1 ⟨rfl,hfr⟩
  have hf1:=HF0.out.trans hfr
  have hx0:=hfr.keep HX0.out (fun h=>h)
  have hx1:=hfr.keep HX1.out (fun h=>h)
  have hx2:=hfr.keep HX2.out (fun h=>h)
  have hT1:=HT.out.keep hf1
  have HF1:=Hd hf1
  obtain⟨s0,s1,s2,s3,s4,sf⟩:=cf5 hx0 rfl rfl rfl rfl rfl
  have y0:=cell_in (i:=0) hx1 rfl
  have y2:=cell_in (i:=2) hx1 rfl
  have y3:=cell_in (i:=3) hx1 rfl
  obtain⟨z0,z1,z2,z3,z4,zf⟩:=cf5 hx2 rfl rfl rfl rfl rfl
  have ht:=tab_at hT1.rep (n:=n) hn
  have hsz:=lt_of_block hx2
  have hh5:=HT.out.size
  clear HX0 HX1 HX2
  have HX0:=Hd hx0
  have HX1:=Hd hx1
  have HX2:=Hd hx2
  clear hfr hx0 hx1 hx2 hT1 hf1 HR HF0
  generalize hh:w.heap.size=b0 at*
  have HH:=Hd hh
  clear hh
  generalize hq:repL.getD n 0=q at*
  have HQ:=Hd hq
  clear hq
  go_wp2_with fail
  refine(len_calls l _).mono ?_
  rw[HL.out]
  rintro e w2 ⟨rfl,rfl⟩
  go_wp2_with fail
  have hc0:(w1.setCell ⟨b0,0,none⟩ (.int .i64 q)).drew.heap[b0]? =some (.cells #[.int .i64 q,.int .i64 r0,.int .i64 r1,.int .i64 r2,.int .i64 r3] 84 (0,0)):=set_in HX0.out 0 _
  have hc2:(w1.setCell ⟨b0,0,none⟩ (.int .i64 q)).drew.heap[b0+1+1]? =_:=set_out HX2.out (by omega) _
  have HC0:=Hd hc0
  have HC2:=Hd hc2
  have hd3:(w1.setCell ⟨b0,0,none⟩ (.int .i64 q)).drew.cell? ⟨b0+1,3,none⟩=some (.int .i64 0):=cell_in (set_out HX1.out (by omega) _) rfl
  clear hc0 hc2
  obtain⟨l1,l2⟩:=rep_slices0 b0
  go_region_law (refine step_copy_rep rfl _ _ rfl b0 0 [] #[.int .i64 q,.int .i64 r0,.int .i64 r1,.int .i64 r2,.int .i64 r3] 84 (by simp[Act.eval,Act.put]) (by simp[Act.eval,Act.put]) HC0.out rfl (by decide) (rep_src0 HC0.out) (by simp[Value.oneCell']) (by simp) ?_
                 intro w2 hx2 hfr2
                 try simp only[List.length_cons,List.length_nil,List.take,List.drop,List.append,List.cons_append,List.nil_append] at hx2
                 have hz:=hfr2.keep HC2.out (fun(e:_=_)=>by omega)
                 obtain⟨s0,s1,s2,s3,s4,sf⟩:=cf5 hx2 rfl rfl rfl rfl rfl
                 obtain⟨z0,z1,z2,z3,z4,zf⟩:=cf5 hz rfl rfl rfl rfl rfl
                 have HFR2:=Hd hfr2
                 clear hx2 hz hfr2)
  go_wp2_with fail
  refine bodyPost_ret (v:=.tuple #[.agg #[.int .i64 q,.int .i64 r0,.int .i64 r1,.int .i64 r2,.int .i64 r3],.int .i64 0]) (by simp[results,Tryz.results126,go_sem,z0,z1,z2,z3,z4]) rfl ?_
  have hh:=HH.out
  refine⟨by first|rw[HQ.out]|(rw[←HQ.out];simp),HF1.out.trans' (S:=fun _=>False) (T:=fun k=>b0≤k) ?_ (fun i hi hk=>by omega)⟩
  repeat refine Fr.setCell ?_ (.inl (by simp;try omega)) _
  exact((Fr.one w1 b0 0 (.int .i64 q)).drew.trans HFR2.out).mono (fun k _(h:k=b0)=>by omega)
set_option maxRecDepth 100000 in
theorem next_rep1(s:S)(hs:s.Ok)(y:Int)(l:Nat)(w:World)(hT:Tabs w)(hl:2≤l∧l≤273):
    Calls Tryz.prog 126 #[.agg s.cells,.agg #[.int .i64 3,.int .u8 y,.int .i64 l,.int .i64 1]] w fun e w'=>e=.returned (.tuple #[.agg (s.rep 1).cells,.int .i64 0])∧Fr (fun _=>False) w w':=by
  have HR:=fun W=>Hd (right_calls s hs W)
  have hn:=hs.num
  clear hs
  obtain⟨n,r0,r1,r2,r3⟩:=s
  simp only at hn
  unfold S.cells at*
  simp only[S.rep]
  try simp only[if_true,if_false,Nat.reduceEqDiff,one_ne_zero]
  have hf0:Fr (fun _=>False) w (((w.alloc (.cells #[.int .i64 n,.int .i64 r0,.int .i64 r1,.int .i64 r2,.int .i64 r3] 84)).alloc (.cells #[.int .i64 3,.int .u8 y,.int .i64 l,.int .i64 1] 110)).alloc (.cells #[.int .i64 0,.int .i64 0,.int .i64 0,.int .i64 0,.int .i64 0] 84)):=(((Fr.refl _ w).alloc _).alloc _).alloc _
  have hx0:=(((Fr.refl (fun _=>False) (w.alloc (.cells #[.int .i64 n,.int .i64 r0,.int .i64 r1,.int .i64 r2,.int .i64 r3] 84))).alloc (.cells #[.int .i64 3,.int .u8 y,.int .i64 l,.int .i64 1] 110)).alloc (.cells #[.int .i64 0,.int .i64 0,.int .i64 0,.int .i64 0,.int .i64 0] 84)).keep (heap_alloc_new w (.cells #[.int .i64 n,.int .i64 r0,.int .i64 r1,.int .i64 r2,.int .i64 r3] 84)) (fun h=>h)
  have hx1:=((Fr.refl (fun _=>False) ((w.alloc (.cells #[.int .i64 n,.int .i64 r0,.int .i64 r1,.int .i64 r2,.int .i64 r3] 84)).alloc (.cells #[.int .i64 3,.int .u8 y,.int .i64 l,.int .i64 1] 110))).alloc (.cells #[.int .i64 0,.int .i64 0,.int .i64 0,.int .i64 0,.int .i64 0] 84)).keep (heap_alloc_new (w.alloc (.cells #[.int .i64 n,.int .i64 r0,.int .i64 r1,.int .i64 r2,.int .i64 r3] 84)) (.cells #[.int .i64 3,.int .u8 y,.int .i64 l,.int .i64 1] 110)) (fun h=>h)
  have hx2:=heap_alloc_new ((w.alloc (.cells #[.int .i64 n,.int .i64 r0,.int .i64 r1,.int .i64 r2,.int .i64 r3] 84)).alloc (.cells #[.int .i64 3,.int .u8 y,.int .i64 l,.int .i64 1] 110)) (.cells #[.int .i64 0,.int .i64 0,.int .i64 0,.int .i64 0,.int .i64 0] 84)
  simp only[World.size_alloc] at hx1 hx2
  have HX0:=Hd hx0
  have HX1:=Hd hx1
  have HX2:=Hd hx2
  have HF0:=Hd hf0
  have HT:=Hd hT
  clear hf0 hT hx0 hx1 hx2
  have HL:=Hd (decide_eq_true hl)
  clear hl
  go_enter Tryz.func126,Tryz.ntmps126
  go_wp2_with fail
  refine(HR _).out.mono ?_
  rintro e w1 ⟨rfl,hfr⟩
  have hf1:=HF0.out.trans hfr
  have hx0:=hfr.keep HX0.out (fun h=>h)
  have hx1:=hfr.keep HX1.out (fun h=>h)
  have hx2:=hfr.keep HX2.out (fun h=>h)
  have hT1:=HT.out.keep hf1
  have HF1:=Hd hf1
  obtain⟨s0,s1,s2,s3,s4,sf⟩:=cf5 hx0 rfl rfl rfl rfl rfl
  have y0:=cell_in (i:=0) hx1 rfl
  have y2:=cell_in (i:=2) hx1 rfl
  have y3:=cell_in (i:=3) hx1 rfl
  obtain⟨z0,z1,z2,z3,z4,zf⟩:=cf5 hx2 rfl rfl rfl rfl rfl
  have ht:=tab_at hT1.rep (n:=n) hn
  have hsz:=lt_of_block hx2
  have hh5:=HT.out.size
  clear HX0 HX1 HX2
  have HX0:=Hd hx0
  have HX1:=Hd hx1
  have HX2:=Hd hx2
  clear hfr hx0 hx1 hx2 hT1 hf1 HR HF0
  generalize hh:w.heap.size=b0 at*
  have HH:=Hd hh
  clear hh
  generalize hq:repL.getD n 0=q at*
  have HQ:=Hd hq
  clear hq
  go_wp2_with fail
  refine(len_calls l _).mono ?_
  rw[HL.out]
  rintro e w2 ⟨rfl,rfl⟩
  go_wp2_with fail
  have hc0:(w1.setCell ⟨b0,0,none⟩ (.int .i64 q)).drew.heap[b0]? =some (.cells #[.int .i64 q,.int .i64 r0,.int .i64 r1,.int .i64 r2,.int .i64 r3] 84 (0,0)):=set_in HX0.out 0 _
  have hc2:(w1.setCell ⟨b0,0,none⟩ (.int .i64 q)).drew.heap[b0+1+1]? =_:=set_out HX2.out (by omega) _
  have HC0:=Hd hc0
  have HC2:=Hd hc2
  have hd3:(w1.setCell ⟨b0,0,none⟩ (.int .i64 q)).drew.cell? ⟨b0+1,3,none⟩=some (.int .i64 1):=cell_in (set_out HX1.out (by omega) _) rfl
  clear hc0 hc2
  obtain⟨l1,l2⟩:=rep_slices1 b0
  go_region_law (refine step_copy_rep rfl _ _ rfl b0 1 [.int .i64 r0] #[.int .i64 q,.int .i64 r0,.int .i64 r1,.int .i64 r2,.int .i64 r3] 84 (by simp[Act.eval,Act.put]) (by simp[Act.eval,Act.put]) HC0.out rfl (by decide) (rep_src1 HC0.out) (by simp[Value.oneCell']) (by simp) ?_
                 intro w2 hx2 hfr2
                 try simp only[List.length_cons,List.length_nil,List.take,List.drop,List.append,List.cons_append,List.nil_append] at hx2
                 have hz:=hfr2.keep HC2.out (fun(e:_=_)=>by omega)
                 obtain⟨s0,s1,s2,s3,s4,sf⟩:=cf5 hx2 rfl rfl rfl rfl rfl
                 obtain⟨z0,z1,z2,z3,z4,zf⟩:=cf5 hz rfl rfl rfl rfl rfl
                 have HFR2:=Hd hfr2
                 clear hx2 hz hfr2)
  go_wp2_with fail
  refine bodyPost_ret (v:=.tuple #[.agg #[.int .i64 q,.int .i64 r1,.int .i64 r0,.int .i64 r2,.int .i64 r3],.int .i64 0]) (by simp[results,Tryz.results126,go_sem,z0,z1,z2,z3,z4]) rfl ?_
  have hh:=HH.out
  refine⟨by first|rw[HQ.out]|(rw[←HQ.out];simp),HF1.out.trans' (S:=fun _=>False) (T:=fun k=>b0≤k) ?_ (fun i hi hk=>by omega)⟩
  repeat refine Fr.setCell ?_ (.inl (by simp;try omega)) _
  exact((Fr.one w1 b0 0 (.int .i64 q)).drew.trans HFR2.out).mono (fun k _(h:k=b0)=>by omega)
set_option maxRecDepth 100000 in
theorem next_rep2(s:S)(hs:s.Ok)(y:Int)(l:Nat)(w:World)(hT:Tabs w)(hl:2≤l∧l≤273):
    Calls Tryz.prog 126 #[.agg s.cells,.agg #[.int .i64 3,.int .u8 y,.int .i64 l,.int .i64 2]] w fun e w'=>e=.returned (.tuple #[.agg (s.rep 2).cells,.int .i64 0])∧Fr (fun _=>False) w w':=by
  have HR:=fun W=>Hd (right_calls s hs W)
  have hn:=hs.num
  clear hs
  obtain⟨n,r0,r1,r2,r3⟩:=s
  simp only at hn
  unfold S.cells at*
  simp only[S.rep]
  try simp only[if_true,if_false,Nat.reduceEqDiff,one_ne_zero]
  have hf0:Fr (fun _=>False) w (((w.alloc (.cells #[.int .i64 n,.int .i64 r0,.int .i64 r1,.int .i64 r2,.int .i64 r3] 84)).alloc (.cells #[.int .i64 3,.int .u8 y,.int .i64 l,.int .i64 2] 110)).alloc (.cells #[.int .i64 0,.int .i64 0,.int .i64 0,.int .i64 0,.int .i64 0] 84)):=(((Fr.refl _ w).alloc _).alloc _).alloc _
  have hx0:=(((Fr.refl (fun _=>False) (w.alloc (.cells #[.int .i64 n,.int .i64 r0,.int .i64 r1,.int .i64 r2,.int .i64 r3] 84))).alloc (.cells #[.int .i64 3,.int .u8 y,.int .i64 l,.int .i64 2] 110)).alloc (.cells #[.int .i64 0,.int .i64 0,.int .i64 0,.int .i64 0,.int .i64 0] 84)).keep (heap_alloc_new w (.cells #[.int .i64 n,.int .i64 r0,.int .i64 r1,.int .i64 r2,.int .i64 r3] 84)) (fun h=>h)
  have hx1:=((Fr.refl (fun _=>False) ((w.alloc (.cells #[.int .i64 n,.int .i64 r0,.int .i64 r1,.int .i64 r2,.int .i64 r3] 84)).alloc (.cells #[.int .i64 3,.int .u8 y,.int .i64 l,.int .i64 2] 110))).alloc (.cells #[.int .i64 0,.int .i64 0,.int .i64 0,.int .i64 0,.int .i64 0] 84)).keep (heap_alloc_new (w.alloc (.cells #[.int .i64 n,.int .i64 r0,.int .i64 r1,.int .i64 r2,.int .i64 r3] 84)) (.cells #[.int .i64 3,.int .u8 y,.int .i64 l,.int .i64 2] 110)) (fun h=>h)
  have hx2:=heap_alloc_new ((w.alloc (.cells #[.int .i64 n,.int .i64 r0,.int .i64 r1,.int .i64 r2,.int .i64 r3] 84)).alloc (.cells #[.int .i64 3,.int .u8 y,.int .i64 l,.int .i64 2] 110)) (.cells #[.int .i64 0,.int .i64 0,.int .i64 0,.int .i64 0,.int .i64 0] 84)
  simp only[World.size_alloc] at hx1 hx2
  have HX0:=Hd hx0
  have HX1:=Hd hx1
  have HX2:=Hd hx2
  have HF0:=Hd hf0
  have HT:=Hd hT
  clear hf0 hT hx0 hx1 hx2
  have HL:=Hd (decide_eq_true hl)
  clear hl
  go_enter Tryz.func126,Tryz.ntmps126
  go_wp2_with fail
  refine(HR _).out.mono ?_
  rintro e w1 ⟨rfl,hfr⟩
  have hf1:=HF0.out.trans hfr
  have hx0:=hfr.keep HX0.out (fun h=>h)
  have hx1:=hfr.keep HX1.out (fun h=>h)
  have hx2:=hfr.keep HX2.out (fun h=>h)
  have hT1:=HT.out.keep hf1
  have HF1:=Hd hf1
  obtain⟨s0,s1,s2,s3,s4,sf⟩:=cf5 hx0 rfl rfl rfl rfl rfl
  have y0:=cell_in (i:=0) hx1 rfl
  have y2:=cell_in (i:=2) hx1 rfl
  have y3:=cell_in (i:=3) hx1 rfl
  obtain⟨z0,z1,z2,z3,z4,zf⟩:=cf5 hx2 rfl rfl rfl rfl rfl
  have ht:=tab_at hT1.rep (n:=n) hn
  have hsz:=lt_of_block hx2
  have hh5:=HT.out.size
  clear HX0 HX1 HX2
  have HX0:=Hd hx0
  have HX1:=Hd hx1
  have HX2:=Hd hx2
  clear hfr hx0 hx1 hx2 hT1 hf1 HR HF0
  generalize hh:w.heap.size=b0 at*
  have HH:=Hd hh
  clear hh
  generalize hq:repL.getD n 0=q at*
  have HQ:=Hd hq
  clear hq
  go_wp2_with fail
  refine(len_calls l _).mono ?_
  rw[HL.out]
  rintro e w2 ⟨rfl,rfl⟩
  go_wp2_with fail
  have hc0:(w1.setCell ⟨b0,0,none⟩ (.int .i64 q)).drew.heap[b0]? =some (.cells #[.int .i64 q,.int .i64 r0,.int .i64 r1,.int .i64 r2,.int .i64 r3] 84 (0,0)):=set_in HX0.out 0 _
  have hc2:(w1.setCell ⟨b0,0,none⟩ (.int .i64 q)).drew.heap[b0+1+1]? =_:=set_out HX2.out (by omega) _
  have HC0:=Hd hc0
  have HC2:=Hd hc2
  have hd3:(w1.setCell ⟨b0,0,none⟩ (.int .i64 q)).drew.cell? ⟨b0+1,3,none⟩=some (.int .i64 2):=cell_in (set_out HX1.out (by omega) _) rfl
  clear hc0 hc2
  obtain⟨l1,l2⟩:=rep_slices2 b0
  go_region_law (refine step_copy_rep rfl _ _ rfl b0 2 [.int .i64 r0,.int .i64 r1] #[.int .i64 q,.int .i64 r0,.int .i64 r1,.int .i64 r2,.int .i64 r3] 84 (by simp[Act.eval,Act.put]) (by simp[Act.eval,Act.put]) HC0.out rfl (by decide) (rep_src2 HC0.out) (by simp[Value.oneCell']) (by simp) ?_
                 intro w2 hx2 hfr2
                 try simp only[List.length_cons,List.length_nil,List.take,List.drop,List.append,List.cons_append,List.nil_append] at hx2
                 have hz:=hfr2.keep HC2.out (fun(e:_=_)=>by omega)
                 obtain⟨s0,s1,s2,s3,s4,sf⟩:=cf5 hx2 rfl rfl rfl rfl rfl
                 obtain⟨z0,z1,z2,z3,z4,zf⟩:=cf5 hz rfl rfl rfl rfl rfl
                 have HFR2:=Hd hfr2
                 clear hx2 hz hfr2)
  go_wp2_with fail
  refine bodyPost_ret (v:=.tuple #[.agg #[.int .i64 q,.int .i64 r2,.int .i64 r0,.int .i64 r1,.int .i64 r3],.int .i64 0]) (by simp[results,Tryz.results126,go_sem,z0,z1,z2,z3,z4]) rfl ?_
  have hh:=HH.out
  refine⟨by first|rw[HQ.out]|(rw[←HQ.out];simp),HF1.out.trans' (S:=fun _=>False) (T:=fun k=>b0≤k) ?_ (fun i hi hk=>by omega)⟩
  repeat refine Fr.setCell ?_ (.inl (by simp;try omega)) _
  exact((Fr.one w1 b0 0 (.int .i64 q)).drew.trans HFR2.out).mono (fun k _(h:k=b0)=>by omega)
set_option maxRecDepth 100000 in
theorem next_rep3(s:S)(hs:s.Ok)(y:Int)(l:Nat)(w:World)(hT:Tabs w)(hl:2≤l∧l≤273):
    Calls Tryz.prog 126 #[.agg s.cells,.agg #[.int .i64 3,.int .u8 y,.int .i64 l,.int .i64 3]] w fun e w'=>e=.returned (.tuple #[.agg (s.rep 3).cells,.int .i64 0])∧Fr (fun _=>False) w w':=by
  have HR:=fun W=>Hd (right_calls s hs W)
  have hn:=hs.num
  clear hs
  obtain⟨n,r0,r1,r2,r3⟩:=s
  simp only at hn
  unfold S.cells at*
  simp only[S.rep]
  try simp only[if_true,if_false,Nat.reduceEqDiff,one_ne_zero]
  have hf0:Fr (fun _=>False) w (((w.alloc (.cells #[.int .i64 n,.int .i64 r0,.int .i64 r1,.int .i64 r2,.int .i64 r3] 84)).alloc (.cells #[.int .i64 3,.int .u8 y,.int .i64 l,.int .i64 3] 110)).alloc (.cells #[.int .i64 0,.int .i64 0,.int .i64 0,.int .i64 0,.int .i64 0] 84)):=(((Fr.refl _ w).alloc _).alloc _).alloc _
  have hx0:=(((Fr.refl (fun _=>False) (w.alloc (.cells #[.int .i64 n,.int .i64 r0,.int .i64 r1,.int .i64 r2,.int .i64 r3] 84))).alloc (.cells #[.int .i64 3,.int .u8 y,.int .i64 l,.int .i64 3] 110)).alloc (.cells #[.int .i64 0,.int .i64 0,.int .i64 0,.int .i64 0,.int .i64 0] 84)).keep (heap_alloc_new w (.cells #[.int .i64 n,.int .i64 r0,.int .i64 r1,.int .i64 r2,.int .i64 r3] 84)) (fun h=>h)
  have hx1:=((Fr.refl (fun _=>False) ((w.alloc (.cells #[.int .i64 n,.int .i64 r0,.int .i64 r1,.int .i64 r2,.int .i64 r3] 84)).alloc (.cells #[.int .i64 3,.int .u8 y,.int .i64 l,.int .i64 3] 110))).alloc (.cells #[.int .i64 0,.int .i64 0,.int .i64 0,.int .i64 0,.int .i64 0] 84)).keep (heap_alloc_new (w.alloc (.cells #[.int .i64 n,.int .i64 r0,.int .i64 r1,.int .i64 r2,.int .i64 r3] 84)) (.cells #[.int .i64 3,.int .u8 y,.int .i64 l,.int .i64 3] 110)) (fun h=>h)
  have hx2:=heap_alloc_new ((w.alloc (.cells #[.int .i64 n,.int .i64 r0,.int .i64 r1,.int .i64 r2,.int .i64 r3] 84)).alloc (.cells #[.int .i64 3,.int .u8 y,.int .i64 l,.int .i64 3] 110)) (.cells #[.int .i64 0,.int .i64 0,.int .i64 0,.int .i64 0,.int .i64 0] 84)
  simp only[World.size_alloc] at hx1 hx2
  have HX0:=Hd hx0
  have HX1:=Hd hx1
  have HX2:=Hd hx2
  have HF0:=Hd hf0
  have HT:=Hd hT
  clear hf0 hT hx0 hx1 hx2
  have HL:=Hd (decide_eq_true hl)
  clear hl
  go_enter Tryz.func126,Tryz.ntmps126
  go_wp2_with fail
  refine(HR _).out.mono ?_
  rintro e w1 ⟨rfl,hfr⟩
  have hf1:=HF0.out.trans hfr
  have hx0:=hfr.keep HX0.out (fun h=>h)
  have hx1:=hfr.keep HX1.out (fun h=>h)
  have hx2:=hfr.keep HX2.out (fun h=>h)
  have hT1:=HT.out.keep hf1
  have HF1:=Hd hf1
  obtain⟨s0,s1,s2,s3,s4,sf⟩:=cf5 hx0 rfl rfl rfl rfl rfl
  have y0:=cell_in (i:=0) hx1 rfl
  have y2:=cell_in (i:=2) hx1 rfl
  have y3:=cell_in (i:=3) hx1 rfl
  obtain⟨z0,z1,z2,z3,z4,zf⟩:=cf5 hx2 rfl rfl rfl rfl rfl
  have ht:=tab_at hT1.rep (n:=n) hn
  have hsz:=lt_of_block hx2
  have hh5:=HT.out.size
  clear HX0 HX1 HX2
  have HX0:=Hd hx0
  have HX1:=Hd hx1
  have HX2:=Hd hx2
  clear hfr hx0 hx1 hx2 hT1 hf1 HR HF0
  generalize hh:w.heap.size=b0 at*
  have HH:=Hd hh
  clear hh
  generalize hq:repL.getD n 0=q at*
  have HQ:=Hd hq
  clear hq
  go_wp2_with fail
  refine(len_calls l _).mono ?_
  rw[HL.out]
  rintro e w2 ⟨rfl,rfl⟩
  go_wp2_with fail
  have hc0:(w1.setCell ⟨b0,0,none⟩ (.int .i64 q)).drew.heap[b0]? =some (.cells #[.int .i64 q,.int .i64 r0,.int .i64 r1,.int .i64 r2,.int .i64 r3] 84 (0,0)):=set_in HX0.out 0 _
  have hc2:(w1.setCell ⟨b0,0,none⟩ (.int .i64 q)).drew.heap[b0+1+1]? =_:=set_out HX2.out (by omega) _
  have HC0:=Hd hc0
  have HC2:=Hd hc2
  have hd3:(w1.setCell ⟨b0,0,none⟩ (.int .i64 q)).drew.cell? ⟨b0+1,3,none⟩=some (.int .i64 3):=cell_in (set_out HX1.out (by omega) _) rfl
  clear hc0 hc2
  obtain⟨l1,l2⟩:=rep_slices3 b0
  go_region_law (refine step_copy_rep rfl _ _ rfl b0 3 [.int .i64 r0,.int .i64 r1,.int .i64 r2] #[.int .i64 q,.int .i64 r0,.int .i64 r1,.int .i64 r2,.int .i64 r3] 84 (by simp[Act.eval,Act.put]) (by simp[Act.eval,Act.put]) HC0.out rfl (by decide) (rep_src3 HC0.out) (by simp[Value.oneCell']) (by simp) ?_
                 intro w2 hx2 hfr2
                 try simp only[List.length_cons,List.length_nil,List.take,List.drop,List.append,List.cons_append,List.nil_append] at hx2
                 have hz:=hfr2.keep HC2.out (fun(e:_=_)=>by omega)
                 obtain⟨s0,s1,s2,s3,s4,sf⟩:=cf5 hx2 rfl rfl rfl rfl rfl
                 obtain⟨z0,z1,z2,z3,z4,zf⟩:=cf5 hz rfl rfl rfl rfl rfl
                 have HFR2:=Hd hfr2
                 clear hx2 hz hfr2)
  go_wp2_with fail
  refine bodyPost_ret (v:=.tuple #[.agg #[.int .i64 q,.int .i64 r3,.int .i64 r0,.int .i64 r1,.int .i64 r2],.int .i64 0]) (by simp[results,Tryz.results126,go_sem,z0,z1,z2,z3,z4]) rfl ?_
  have hh:=HH.out
  refine⟨by first|rw[HQ.out]|(rw[←HQ.out];simp),HF1.out.trans' (S:=fun _=>False) (T:=fun k=>b0≤k) ?_ (fun i hi hk=>by omega)⟩
  repeat refine Fr.setCell ?_ (.inl (by simp;try omega)) _
  exact((Fr.one w1 b0 0 (.int .i64 q)).drew.trans HFR2.out).mono (fun k _(h:k=b0)=>by omega)
end St
namespace St
open Mem
structure Sy where
 kind:Nat
 byte:Nat
 len:Nat
 dist:Nat
def Sy.cells(y:Sy):Array Value:=#[.int .i64 y.kind,.int .u8 y.byte,.int .i64 y.len,.int .i64 y.dist]
structure Sy.Ok(y:Sy):Prop where
 kind:y.kind=1∨y.kind=2∨y.kind=3∨y.kind=4
 dist:y.kind=3→y.dist≤3
 byte:y.byte<256
abbrev isL(n:Nat):Prop:=2≤n∧n≤273
def S.zero:S:=⟨0,0,0,0,0⟩
def S.next(s:S)(y:Sy):Nat×S:=
 if y.kind=1 then(0,s.lit) else if y.kind=4 then(0,s.short) else if y.kind=2 then(if isL y.len then(if isD y.dist then(0,s.mat y.dist) else(7,.zero)) else(7,.zero))
 else if isL y.len then(0,s.rep y.dist) else(7,.zero)
theorem S.next_ok{s:S}(hs:s.Ok){y:Sy}(h0:(s.next y).1=0):(s.next y).2.Ok:=by
 unfold S.next at*
 split
 ·exact hs.lit
 ·rename_i h1
  rw[if_neg h1] at h0
  split
  ·exact hs.short
  ·rename_i h2
   rw[if_neg h2] at h0
   split
   ·rename_i h3
    rw[if_pos h3] at h0
    split
    ·rename_i h4
     rw[if_pos h4] at h0
     split
     ·rename_i h5
      exact hs.mat h5
     ·rename_i h5
      rw[if_neg h5] at h0
      simp at h0
    ·rename_i h4
     rw[if_neg h4] at h0
     simp at h0
   ·rename_i h3
    rw[if_neg h3] at h0
    split
    ·exact hs.rep
    ·rename_i h4
     rw[if_neg h4] at h0
     simp at h0
theorem S.next_err(s:S)(y:Sy):(s.next y).1=0∨(s.next y).1=7:=by
 unfold S.next
 repeat' split
 all_goals first|exact .inl rfl|exact .inr rfl
theorem next_calls(s:S)(hs:s.Ok)(y:Sy)(hy:y.Ok)(w:World)(hT:Tabs w):
 Calls Tryz.prog 126 #[.agg s.cells,.agg y.cells] w fun e w'=>e=.returned (.tuple #[.agg (s.next y).2.cells,.int .i64 (s.next y).1])∧Fr (fun _=>False) w w':=by
 obtain⟨kind,byte,len,dist⟩:=y
 obtain⟨hk,hd,hb⟩:=hy
 simp only at hk hd hb
 simp only[Sy.cells,S.next]
 rcases hk with rfl|rfl|rfl|rfl
 ·exact next_lit s hs _ _ _ w hT
 ·rw[if_neg (by decide),if_neg (by decide),if_pos rfl]
  by_cases hl:isL len
  ·rw[if_pos hl]
   by_cases hdd:isD dist
   ·rw[if_pos hdd]
    exact next_mat s hs _ _ _ w hT hl hdd
   ·rw[if_neg hdd]
    exact next_mat_dist s hs _ _ _ w hT hl hdd
  ·rw[if_neg hl]
   exact next_mat_len s hs _ _ _ w hT hl
 ·rw[if_neg (by decide),if_neg (by decide),if_neg (by decide)]
  by_cases hl:isL len
  ·rw[if_pos hl]
   have hd3:=hd rfl
   obtain rfl|rfl|rfl|rfl:dist=0∨dist=1∨dist=2∨dist=3:=by omega
   ·exact next_rep0 s hs _ _ w hT hl
   ·exact next_rep1 s hs _ _ w hT hl
   ·exact next_rep2 s hs _ _ w hT hl
   ·exact next_rep3 s hs _ _ w hT hl
  ·rw[if_neg hl]
   exact next_rep_len s hs _ _ _ w hT hl
 ·rw[if_neg (by decide),if_pos rfl]
  exact next_short s hs _ _ _ w hT
theorem new_at(w0 w:World)(h:Fr (fun _=>False) w0 w):Calls Tryz.prog 34 #[] w fun e w'=>e=.returned (.agg S.new.cells)∧Fr (fun _=>False) w w':=new_calls w
def size(y:Sy):Nat:=if(S.new.next y).1=0 then(if y.kind=2∨y.kind=3 then y.len else 1) else 0
set_option maxRecDepth 100000 in
theorem size_calls(y:Sy)(hy:y.Ok)(w:World)(hT:Tabs w):
    Calls Tryz.prog 221 #[.agg y.cells] w fun e w'=>e=.returned (.int .i64 (size y))∧Fr (fun _=>False) w w':=by
  have herr:=S.next_err S.new y
  generalize hsz:size y=sz
  unfold size at hsz
  have HN:=fun W(h:Tabs W)=>Hd (next_calls S.new S.new_ok y hy W h)
  obtain⟨kind,byte,len,dist⟩:=y
  have hk:=hy.kind
  simp only at hk hsz
  clear hy
  unfold Sy.cells at*
  simp only at HN ⊢
  generalize S.new.next ⟨kind,byte,len,dist⟩=r at*
  obtain⟨er,rn,ra,rb,rc,rd⟩:=r
  simp only at herr hsz HN
  have HN2:∀W,Tabs W→Hid (Calls Tryz.prog 126 #[.agg S.new.cells,.agg #[.int .i64 kind,.int .u8 byte,.int .i64 len,.int .i64 dist]] W fun e w'=>e=.returned (.tuple #[.agg #[.int .i64 rn,.int .i64 ra,.int .i64 rb,.int .i64 rc,.int .i64 rd],.int .i64 er])∧Fr (fun _=>False) W w'):=HN
  clear HN
  have HN:=HN2
  clear HN2
  have HSZ:=Hd hsz
  have hbx:=heap_alloc_new w (.cells #[.int .i64 kind,.int .u8 byte,.int .i64 len,.int .i64 dist] 110)
  have hf0:=(Fr.refl (fun _=>False) w).alloc (.cells #[.int .i64 kind,.int .u8 byte,.int .i64 len,.int .i64 dist] 110)
  have HT:=Hd (hT.keep hf0)
  have HF0:=Hd hf0
  have hS:∀w':World,Fr (fun _=>False) (w.alloc (.cells #[.int .i64 kind,.int .u8 byte,.int .i64 len,.int .i64 dist] 110)) w'→w'.cell? ⟨w.heap.size,0,none⟩=some (.int .i64 kind)∧w'.cell? ⟨w.heap.size,1,none⟩=some (.int .u8 byte)∧w'.cell? ⟨w.heap.size,2,none⟩=some (.int .i64 len)∧w'.cell? ⟨w.heap.size,3,none⟩=some (.int .i64 dist):=fun w' h=>
    ⟨cell_in (i:=0) (h.keep hbx (fun h=>h)) rfl,cell_in (i:=1) (h.keep hbx (fun h=>h)) rfl,cell_in (i:=2) (h.keep hbx (fun h=>h)) rfl,cell_in (i:=3) (h.keep hbx (fun h=>h)) rfl⟩
  clear hT hsz hf0 hbx
  go_enter Tryz.func221,Tryz.ntmps221
  go_wp2_with fail
  generalize hb:w.alloc (.cells #[.int .i64 kind,.int .u8 byte,.int .i64 len,.int .i64 dist] 110)=wb at*
  have HS:=Hd hS
  have FC:=Hd (Fr.refl (fun _=>False) wb).drew
  have HSC:=Hd (hS wb.drew FC.out)
  obtain⟨e0,e1,e2,e3⟩:=HSC.out
  have HB:=Hd hb
  clear hS hb
  go_region_held3 (fun w'=>w'.cell? ⟨w.heap.size,0,none⟩=some (.int .i64 kind)∧w'.cell? ⟨w.heap.size,1,none⟩=some (.int .u8 byte)∧w'.cell? ⟨w.heap.size,2,none⟩=some (.int .i64 len)∧w'.cell? ⟨w.heap.size,3,none⟩=some (.int .i64 dist)) (first|with_reducible exact HSC.out|(refine HS.out _ ?_;(repeat refine Fr.setCell ?_ (.inr (by first|exact FC.out.size|exact HY.out)) _);first|exact FC.out|exact FC.out.alloc _)) ((first
    | (go_at_call 34
       first
         | (refine (new_at wb _ FC.out).mono ?_
            rintro e wc ⟨rfl,hfrc⟩
            have FC:=Hd (FC.out.trans hfrc)
            have HSC:=Hd (HS.out _ FC.out)
            obtain⟨e0,e1,e2,e3⟩:=HSC.out
            try (have hz:=hfrc.keep HZ.out (fun h=>h)
                 obtain⟨z0,z1,z2,z3,z4,zf⟩:=cf5 hz rfl rfl rfl rfl rfl
                 have HZ:=Hd hz
                 clear hz)
            clear hfrc)
         | (refine (new_at wb _ (FC.out.alloc _)).mono ?_
            rintro e wc ⟨rfl,hfrc⟩
            have HY:=Hd FC.out.size
            have FC:=Hd ((FC.out.alloc _).trans hfrc)
            have HSC:=Hd (HS.out _ FC.out)
            obtain⟨e0,e1,e2,e3⟩:=HSC.out
            have hz:=hfrc.keep (heap_alloc_new _ _) (fun h=>h)
            try simp only[World.size_drew] at hz
            obtain⟨z0,z1,z2,z3,z4,zf⟩:=cf5 hz rfl rfl rfl rfl rfl
            have HZ:=Hd hz
            clear hz
            clear hfrc))
    | (go_at_call 126
       first
         | (refine (HN _ (HT.out.keep FC.out)).out.mono ?_
            rintro e wc ⟨rfl,hfrc⟩
            have FC:=Hd (FC.out.trans hfrc)
            have HSC:=Hd (HS.out _ FC.out)
            obtain⟨e0,e1,e2,e3⟩:=HSC.out
            try (have hz:=hfrc.keep HZ.out (fun h=>h)
                 obtain⟨z0,z1,z2,z3,z4,zf⟩:=cf5 hz rfl rfl rfl rfl rfl
                 have HZ:=Hd hz
                 clear hz)
            clear hfrc)
         | (refine (HN _ (HT.out.keep (FC.out.alloc _))).out.mono ?_
            rintro e wc ⟨rfl,hfrc⟩
            have HY:=Hd FC.out.size
            have FC:=Hd ((FC.out.alloc _).trans hfrc)
            have HSC:=Hd (HS.out _ FC.out)
            obtain⟨e0,e1,e2,e3⟩:=HSC.out
            have hz:=hfrc.keep (heap_alloc_new _ _) (fun h=>h)
            try simp only[World.size_drew] at hz
            obtain⟨z0,z1,z2,z3,z4,zf⟩:=cf5 hz rfl rfl rfl rfl rfl
            have HZ:=Hd hz
            clear hz
            clear hfrc))))
  all_goals
    rcases herr with rfl|rfl
    · rcases hk with rfl|rfl|rfl|rfl
      all_goals
        go_wp2_with fail
        go_ret
        refine⟨?_,HF0.out.trans ?_⟩
        · have h:=HSZ.out
          simp at h
          subst h
          rfl
        · (repeat refine Fr.setCell ?_ (.inr (by first|exact FC.out.size|exact HY.out)) _)
          first|exact FC.out|exact FC.out.alloc _
    · go_wp2_with fail
      go_ret
      refine⟨?_,HF0.out.trans ?_⟩
      · have h:=HSZ.out
        simp at h
        subst h
        rfl
      · (repeat refine Fr.setCell ?_ (.inr (by first|exact FC.out.size|exact HY.out)) _)
        first|exact FC.out|exact FC.out.alloc _
end St
end Go.Proofs.YtffoddpjfgjelaaGreatDoor
