/- Part 6 of 54: lemmas of the last part, each under the conditions that it names. -/
import Derived.Test.YtlgccpjccopdmaaGreatDoorP04
set_option linter.unusedVariables false
set_option linter.unusedSimpArgs false
set_option maxRecDepth 1500
set_option maxHeartbeats 2000000
namespace Go.Proofs.YtlgccpjccopdmaaGreatDoor
open Go.RowKit
namespace St
open Mem
def litL:List Nat:=[0,0,0,0,1,2,3,4,5,6,4,5]
def matchL:List Nat:=[7,7,7,7,7,7,7,10,10,10,10,10]
def repL:List Nat:=[8,8,8,8,8,8,8,11,11,11,11,11]
def shortL:List Nat:=[9,9,9,9,9,9,9,11,11,11,11,11]
def rowOf(l:List Nat):Array Value:=(l.map fun(x:Nat)=>Value.int .i64 (x:Int)).toArray
structure Tabs(w:World):Prop where
 lit:∃T fr,w.heap[1]? =some (.cells (rowOf litL) T fr)
 short:∃T fr,w.heap[2]? =some (.cells (rowOf shortL) T fr)
 mat:∃T fr,w.heap[3]? =some (.cells (rowOf matchL) T fr)
 rep:∃T fr,w.heap[4]? =some (.cells (rowOf repL) T fr)
theorem Tabs.step{S:Nat→Prop}{w w':World}(h:Tabs w)(hfr:Fr S w w')(hS:∀k,S k→5≤k):Tabs w':=by
 obtain⟨⟨t1,f1,h1⟩,⟨t2,f2,h2⟩,⟨t3,f3,h3⟩,⟨t4,f4,h4⟩⟩:=h
 refine⟨⟨t1,f1,hfr.keep h1 (fun h=> ?_)⟩,⟨t2,f2,hfr.keep h2 (fun h=> ?_)⟩,⟨t3,f3,hfr.keep h3 (fun h=> ?_)⟩,⟨t4,f4,hfr.keep h4 (fun h=> ?_)⟩⟩
 all_goals exact absurd (hS _ h) (by decide)
theorem Tabs.keep{w w':World}(h:Tabs w)(hfr:Fr (fun _=>False) w w'):Tabs w':=h.step hfr (fun _ h=>h.elim)
theorem Tabs.size{w:World}(h:Tabs w):5≤w.heap.size:=by
 obtain⟨_,_,h4⟩:=h.rep
 exact lt_of_block h4
theorem tab_at{w:World}{g n:Nat}{l:List Nat}(h:∃T fr,w.heap[g]? =some (.cells (rowOf l) T fr))(hn:n<l.length):w.cell? ⟨g,n,none⟩=some (.int .i64 (l.getD n 0:Nat)):=by
 obtain⟨T,fr,h⟩:=h
 refine cell_in h ?_
 simp[rowOf,hn]
def S.lit(s:S):S:={s with num:=litL.getD s.num 0}
def S.short(s:S):S:={s with num:=shortL.getD s.num 0}
def S.mat(s:S)(d:Nat):S:=⟨matchL.getD s.num 0,d,s.r0,s.r1,s.r2⟩
def S.rep(s:S)(k:Nat):S:=if k=0 then⟨repL.getD s.num 0,s.r0,s.r1,s.r2,s.r3⟩ else if k=1 then⟨repL.getD s.num 0,s.r1,s.r0,s.r2,s.r3⟩ else if k=2 then⟨repL.getD s.num 0,s.r2,s.r0,s.r1,s.r3⟩ else⟨repL.getD s.num 0,s.r3,s.r0,s.r1,s.r2⟩
theorem L_lt:∀n:Fin 12,litL.getD n 0<12∧shortL.getD n 0<12∧matchL.getD n 0<12∧repL.getD n 0<12:=by decide
theorem S.Ok.lit{s:S}(h:s.Ok):s.lit.Ok:=⟨(L_lt ⟨s.num,h.num⟩).1,h.r0,h.r1,h.r2,h.r3⟩
theorem S.Ok.short{s:S}(h:s.Ok):s.short.Ok:=⟨(L_lt ⟨s.num,h.num⟩).2.1,h.r0,h.r1,h.r2,h.r3⟩
theorem S.Ok.mat{s:S}{d:Nat}(h:s.Ok)(hd:isD d):(s.mat d).Ok:=⟨(L_lt ⟨s.num,h.num⟩).2.2.1,hd,h.r0,h.r1,h.r2⟩
theorem S.Ok.rep{s:S}{k:Nat}(h:s.Ok):(s.rep k).Ok:=by
 have h1:=(L_lt ⟨s.num,h.num⟩).2.2.2
 unfold S.rep
 split
 ·exact⟨h1,h.r0,h.r1,h.r2,h.r3⟩
 ·split
  ·exact⟨h1,h.r1,h.r0,h.r2,h.r3⟩
  ·split
   ·exact⟨h1,h.r2,h.r0,h.r1,h.r3⟩
   ·exact⟨h1,h.r3,h.r0,h.r1,h.r2⟩
set_option maxRecDepth 100000 in
theorem next_lit(s:S)(hs:s.Ok)(y:Int)(l d:Nat)(w:World)(hT:Tabs w):
 Calls Tryz.prog 97 #[.agg s.cells,.agg #[.int .i64 1,.int .u8 y,.int .i64 l,.int .i64 d]] w fun e w'=>e=.returned (.tuple #[.agg s.lit.cells,.int .i64 0])∧Fr (fun _=>False) w w':=by
 have HR:=fun W=>Hd (right_calls s hs W)
 have hn:=hs.num
 clear hs
 obtain⟨n,r0,r1,r2,r3⟩:=s
 simp only at hn
 unfold S.cells at*
 simp only[S.lit]
 have hf0:Fr (fun _=>False) w (((w.alloc (.cells #[.int .i64 n,.int .i64 r0,.int .i64 r1,.int .i64 r2,.int .i64 r3] 71)).alloc (.cells #[.int .i64 1,.int .u8 y,.int .i64 l,.int .i64 d] 96)).alloc (.cells #[.int .i64 0,.int .i64 0,.int .i64 0,.int .i64 0,.int .i64 0] 71)):=(((Fr.refl _ w).alloc _).alloc _).alloc _
 have hx0:=(((Fr.refl (fun _=>False) (w.alloc (.cells #[.int .i64 n,.int .i64 r0,.int .i64 r1,.int .i64 r2,.int .i64 r3] 71))).alloc (.cells #[.int .i64 1,.int .u8 y,.int .i64 l,.int .i64 d] 96)).alloc (.cells #[.int .i64 0,.int .i64 0,.int .i64 0,.int .i64 0,.int .i64 0] 71)).keep (heap_alloc_new w (.cells #[.int .i64 n,.int .i64 r0,.int .i64 r1,.int .i64 r2,.int .i64 r3] 71)) (fun h=>h)
 have hx1:=((Fr.refl (fun _=>False) ((w.alloc (.cells #[.int .i64 n,.int .i64 r0,.int .i64 r1,.int .i64 r2,.int .i64 r3] 71)).alloc (.cells #[.int .i64 1,.int .u8 y,.int .i64 l,.int .i64 d] 96))).alloc (.cells #[.int .i64 0,.int .i64 0,.int .i64 0,.int .i64 0,.int .i64 0] 71)).keep (heap_alloc_new (w.alloc (.cells #[.int .i64 n,.int .i64 r0,.int .i64 r1,.int .i64 r2,.int .i64 r3] 71)) (.cells #[.int .i64 1,.int .u8 y,.int .i64 l,.int .i64 d] 96)) (fun h=>h)
 have hx2:=heap_alloc_new ((w.alloc (.cells #[.int .i64 n,.int .i64 r0,.int .i64 r1,.int .i64 r2,.int .i64 r3] 71)).alloc (.cells #[.int .i64 1,.int .u8 y,.int .i64 l,.int .i64 d] 96)) (.cells #[.int .i64 0,.int .i64 0,.int .i64 0,.int .i64 0,.int .i64 0] 71)
 simp only[World.size_alloc] at hx1 hx2
 have HX0:=Hd hx0
 have HX1:=Hd hx1
 have HX2:=Hd hx2
 have HF0:=Hd hf0
 have HT:=Hd hT
 clear hf0 hT hx0 hx1 hx2
 go_enter Tryz.func97,Tryz.ntmps97
 go_wp2_with fail
 refine(HR _).out.mono ?_
 rintro e w1 ⟨rfl,hfr⟩
 have hf1:=HF0.out.trans hfr
 have hx0:=hfr.keep HX0.out (fun h=>h)
 have hx1:=hfr.keep HX1.out (fun h=>h)
 have hx2:=hfr.keep HX2.out (fun h=>h)
 have hT1:=HT.out.keep hf1
 have HF1:=Hd hf1
 obtain⟨s0,s1,s2,s3,s4,sf⟩:=cf5 hx0 rfl rfl rfl rfl rfl
 have y0:=cell_in (i:=0) hx1 rfl
 have y2:=cell_in (i:=2) hx1 rfl
 have y3:=cell_in (i:=3) hx1 rfl
 obtain⟨z0,z1,z2,z3,z4,zf⟩:=cf5 hx2 rfl rfl rfl rfl rfl
 have ht:=tab_at hT1.lit (n:=n) hn
 have hsz:=lt_of_block hx2
 have hh5:=HT.out.size
 clear HX0 HX1 HX2
 have HX0:=Hd hx0
 have HX1:=Hd hx1
 have HX2:=Hd hx2
 clear hfr hx0 hx1 hx2 hT1 hf1 HR HF0
 generalize hh:w.heap.size=b0 at*
 have HH:=Hd hh
 clear hh
 generalize hq:litL.getD n 0=q at*
 have HQ:=Hd hq
 clear hq
 go_wp2_with fail
 refine bodyPost_ret (v:=.tuple #[.agg #[.int .i64 q,.int .i64 r0,.int .i64 r1,.int .i64 r2,.int .i64 r3],.int .i64 0]) (by simp[results,Tryz.results97,go_sem,z0,z1,z2,z3,z4]) rfl ?_
 have hh:=HH.out
 refine⟨by first|rw[HQ.out]|(rw[←HQ.out];simp),HF1.out.trans' (S:=fun _=>False) (T:=fun k=>b0≤k) ?_ (fun i hi hk=>by omega)⟩
 repeat refine Fr.setCell ?_ (.inl (by simp;try omega)) _
 exact Fr.refl _ _
set_option maxRecDepth 100000 in
theorem next_short(s:S)(hs:s.Ok)(y:Int)(l d:Nat)(w:World)(hT:Tabs w):
 Calls Tryz.prog 97 #[.agg s.cells,.agg #[.int .i64 4,.int .u8 y,.int .i64 l,.int .i64 d]] w fun e w'=>e=.returned (.tuple #[.agg s.short.cells,.int .i64 0])∧Fr (fun _=>False) w w':=by
 have HR:=fun W=>Hd (right_calls s hs W)
 have hn:=hs.num
 clear hs
 obtain⟨n,r0,r1,r2,r3⟩:=s
 simp only at hn
 unfold S.cells at*
 simp only[S.short]
 have hf0:Fr (fun _=>False) w (((w.alloc (.cells #[.int .i64 n,.int .i64 r0,.int .i64 r1,.int .i64 r2,.int .i64 r3] 71)).alloc (.cells #[.int .i64 4,.int .u8 y,.int .i64 l,.int .i64 d] 96)).alloc (.cells #[.int .i64 0,.int .i64 0,.int .i64 0,.int .i64 0,.int .i64 0] 71)):=(((Fr.refl _ w).alloc _).alloc _).alloc _
 have hx0:=(((Fr.refl (fun _=>False) (w.alloc (.cells #[.int .i64 n,.int .i64 r0,.int .i64 r1,.int .i64 r2,.int .i64 r3] 71))).alloc (.cells #[.int .i64 4,.int .u8 y,.int .i64 l,.int .i64 d] 96)).alloc (.cells #[.int .i64 0,.int .i64 0,.int .i64 0,.int .i64 0,.int .i64 0] 71)).keep (heap_alloc_new w (.cells #[.int .i64 n,.int .i64 r0,.int .i64 r1,.int .i64 r2,.int .i64 r3] 71)) (fun h=>h)
 have hx1:=((Fr.refl (fun _=>False) ((w.alloc (.cells #[.int .i64 n,.int .i64 r0,.int .i64 r1,.int .i64 r2,.int .i64 r3] 71)).alloc (.cells #[.int .i64 4,.int .u8 y,.int .i64 l,.int .i64 d] 96))).alloc (.cells #[.int .i64 0,.int .i64 0,.int .i64 0,.int .i64 0,.int .i64 0] 71)).keep (heap_alloc_new (w.alloc (.cells #[.int .i64 n,.int .i64 r0,.int .i64 r1,.int .i64 r2,.int .i64 r3] 71)) (.cells #[.int .i64 4,.int .u8 y,.int .i64 l,.int .i64 d] 96)) (fun h=>h)
 have hx2:=heap_alloc_new ((w.alloc (.cells #[.int .i64 n,.int .i64 r0,.int .i64 r1,.int .i64 r2,.int .i64 r3] 71)).alloc (.cells #[.int .i64 4,.int .u8 y,.int .i64 l,.int .i64 d] 96)) (.cells #[.int .i64 0,.int .i64 0,.int .i64 0,.int .i64 0,.int .i64 0] 71)
 simp only[World.size_alloc] at hx1 hx2
 have HX0:=Hd hx0
 have HX1:=Hd hx1
 have HX2:=Hd hx2
 have HF0:=Hd hf0
 have HT:=Hd hT
 clear hf0 hT hx0 hx1 hx2
 go_enter Tryz.func97,Tryz.ntmps97
 go_wp2_with fail
 refine(HR _).out.mono ?_
 rintro e w1 ⟨rfl,hfr⟩
 have hf1:=HF0.out.trans hfr
 have hx0:=hfr.keep HX0.out (fun h=>h)
 have hx1:=hfr.keep HX1.out (fun h=>h)
 have hx2:=hfr.keep HX2.out (fun h=>h)
 have hT1:=HT.out.keep hf1
 have HF1:=Hd hf1
 obtain⟨s0,s1,s2,s3,s4,sf⟩:=cf5 hx0 rfl rfl rfl rfl rfl
 have y0:=cell_in (i:=0) hx1 rfl
 have y2:=cell_in (i:=2) hx1 rfl
 have y3:=cell_in (i:=3) hx1 rfl
 obtain⟨z0,z1,z2,z3,z4,zf⟩:=cf5 hx2 rfl rfl rfl rfl rfl
 have ht:=tab_at hT1.short (n:=n) hn
 have hsz:=lt_of_block hx2
 have hh5:=HT.out.size
 clear HX0 HX1 HX2
 have HX0:=Hd hx0
 have HX1:=Hd hx1
 have HX2:=Hd hx2
 clear hfr hx0 hx1 hx2 hT1 hf1 HR HF0
 generalize hh:w.heap.size=b0 at*
 have HH:=Hd hh
 clear hh
 generalize hq:shortL.getD n 0=q at*
 have HQ:=Hd hq
 clear hq
 go_wp2_with fail
 refine bodyPost_ret (v:=.tuple #[.agg #[.int .i64 q,.int .i64 r0,.int .i64 r1,.int .i64 r2,.int .i64 r3],.int .i64 0]) (by simp[results,Tryz.results97,go_sem,z0,z1,z2,z3,z4]) rfl ?_
 have hh:=HH.out
 refine⟨by first|rw[HQ.out]|(rw[←HQ.out];simp),HF1.out.trans' (S:=fun _=>False) (T:=fun k=>b0≤k) ?_ (fun i hi hk=>by omega)⟩
 repeat refine Fr.setCell ?_ (.inl (by simp;try omega)) _
 exact Fr.refl _ _
set_option maxRecDepth 100000 in
theorem next_mat(s:S)(hs:s.Ok)(y:Int)(l d:Nat)(w:World)(hT:Tabs w)(hl:2≤l∧l≤273)(hd:1≤d∧d≤4294967295):
 Calls Tryz.prog 97 #[.agg s.cells,.agg #[.int .i64 2,.int .u8 y,.int .i64 l,.int .i64 d]] w fun e w'=>e=.returned (.tuple #[.agg (s.mat d).cells,.int .i64 0])∧Fr (fun _=>False) w w':=by
 have HR:=fun W=>Hd (right_calls s hs W)
 have hn:=hs.num
 clear hs
 obtain⟨n,r0,r1,r2,r3⟩:=s
 simp only at hn
 unfold S.cells at*
 simp only[S.mat]
 have hf0:Fr (fun _=>False) w (((w.alloc (.cells #[.int .i64 n,.int .i64 r0,.int .i64 r1,.int .i64 r2,.int .i64 r3] 71)).alloc (.cells #[.int .i64 2,.int .u8 y,.int .i64 l,.int .i64 d] 96)).alloc (.cells #[.int .i64 0,.int .i64 0,.int .i64 0,.int .i64 0,.int .i64 0] 71)):=(((Fr.refl _ w).alloc _).alloc _).alloc _
 have hx0:=(((Fr.refl (fun _=>False) (w.alloc (.cells #[.int .i64 n,.int .i64 r0,.int .i64 r1,.int .i64 r2,.int .i64 r3] 71))).alloc (.cells #[.int .i64 2,.int .u8 y,.int .i64 l,.int .i64 d] 96)).alloc (.cells #[.int .i64 0,.int .i64 0,.int .i64 0,.int .i64 0,.int .i64 0] 71)).keep (heap_alloc_new w (.cells #[.int .i64 n,.int .i64 r0,.int .i64 r1,.int .i64 r2,.int .i64 r3] 71)) (fun h=>h)
 have hx1:=((Fr.refl (fun _=>False) ((w.alloc (.cells #[.int .i64 n,.int .i64 r0,.int .i64 r1,.int .i64 r2,.int .i64 r3] 71)).alloc (.cells #[.int .i64 2,.int .u8 y,.int .i64 l,.int .i64 d] 96))).alloc (.cells #[.int .i64 0,.int .i64 0,.int .i64 0,.int .i64 0,.int .i64 0] 71)).keep (heap_alloc_new (w.alloc (.cells #[.int .i64 n,.int .i64 r0,.int .i64 r1,.int .i64 r2,.int .i64 r3] 71)) (.cells #[.int .i64 2,.int .u8 y,.int .i64 l,.int .i64 d] 96)) (fun h=>h)
 have hx2:=heap_alloc_new ((w.alloc (.cells #[.int .i64 n,.int .i64 r0,.int .i64 r1,.int .i64 r2,.int .i64 r3] 71)).alloc (.cells #[.int .i64 2,.int .u8 y,.int .i64 l,.int .i64 d] 96)) (.cells #[.int .i64 0,.int .i64 0,.int .i64 0,.int .i64 0,.int .i64 0] 71)
 simp only[World.size_alloc] at hx1 hx2
 have HX0:=Hd hx0
 have HX1:=Hd hx1
 have HX2:=Hd hx2
 have HF0:=Hd hf0
 have HT:=Hd hT
 clear hf0 hT hx0 hx1 hx2
 have HL:=Hd (decide_eq_true hl)
 have HD:=Hd (decide_eq_true hd)
 clear hl hd
 go_enter Tryz.func97,Tryz.ntmps97
 go_wp2_with fail
 refine(HR _).out.mono ?_
 rintro e w1 ⟨rfl,hfr⟩
 have hf1:=HF0.out.trans hfr
 have hx0:=hfr.keep HX0.out (fun h=>h)
 have hx1:=hfr.keep HX1.out (fun h=>h)
 have hx2:=hfr.keep HX2.out (fun h=>h)
 have hT1:=HT.out.keep hf1
 have HF1:=Hd hf1
 obtain⟨s0,s1,s2,s3,s4,sf⟩:=cf5 hx0 rfl rfl rfl rfl rfl
 have y0:=cell_in (i:=0) hx1 rfl
 have y2:=cell_in (i:=2) hx1 rfl
 have y3:=cell_in (i:=3) hx1 rfl
 obtain⟨z0,z1,z2,z3,z4,zf⟩:=cf5 hx2 rfl rfl rfl rfl rfl
 have ht:=tab_at hT1.mat (n:=n) hn
 have hsz:=lt_of_block hx2
 have hh5:=HT.out.size
 clear HX0 HX1 HX2
 have HX0:=Hd hx0
 have HX1:=Hd hx1
 have HX2:=Hd hx2
 clear hfr hx0 hx1 hx2 hT1 hf1 HR HF0
 generalize hh:w.heap.size=b0 at*
 have HH:=Hd hh
 clear hh
 generalize hq:matchL.getD n 0=q at*
 have HQ:=Hd hq
 clear hq
 go_wp2_with fail
 refine(len_calls l _).mono ?_
 rw[HL.out]
 rintro e w2 ⟨rfl,rfl⟩
 go_wp2_with fail
 refine(dist_calls d _).mono ?_
 rw[HD.out]
 rintro e w2 ⟨rfl,rfl⟩
 go_wp2_with fail
 refine bodyPost_ret (v:=.tuple #[.agg #[.int .i64 q,.int .i64 d,.int .i64 r0,.int .i64 r1,.int .i64 r2],.int .i64 0]) (by simp[results,Tryz.results97,go_sem,z0,z1,z2,z3,z4]) rfl ?_
 have hh:=HH.out
 refine⟨by first|rw[HQ.out]|(rw[←HQ.out];simp),HF1.out.trans' (S:=fun _=>False) (T:=fun k=>b0≤k) ?_ (fun i hi hk=>by omega)⟩
 repeat refine Fr.setCell ?_ (.inl (by simp;try omega)) _
 exact Fr.refl _ _
set_option maxRecDepth 100000 in
theorem next_mat_len(s:S)(hs:s.Ok)(y:Int)(l d:Nat)(w:World)(hT:Tabs w)(hl:¬(2≤l∧l≤273)):
 Calls Tryz.prog 97 #[.agg s.cells,.agg #[.int .i64 2,.int .u8 y,.int .i64 l,.int .i64 d]] w fun e w'=>e=.returned (.tuple #[.agg #[.int .i64 0,.int .i64 0,.int .i64 0,.int .i64 0,.int .i64 0],.int .i64 7])∧Fr (fun _=>False) w w':=by
 have HR:=fun W=>Hd (right_calls s hs W)
 have hn:=hs.num
 clear hs
 obtain⟨n,r0,r1,r2,r3⟩:=s
 simp only at hn
 unfold S.cells at*
 have hf0:Fr (fun _=>False) w (((w.alloc (.cells #[.int .i64 n,.int .i64 r0,.int .i64 r1,.int .i64 r2,.int .i64 r3] 71)).alloc (.cells #[.int .i64 2,.int .u8 y,.int .i64 l,.int .i64 d] 96)).alloc (.cells #[.int .i64 0,.int .i64 0,.int .i64 0,.int .i64 0,.int .i64 0] 71)):=(((Fr.refl _ w).alloc _).alloc _).alloc _
 have hx0:=(((Fr.refl (fun _=>False) (w.alloc (.cells #[.int .i64 n,.int .i64 r0,.int .i64 r1,.int .i64 r2,.int .i64 r3] 71))).alloc (.cells #[.int .i64 2,.int .u8 y,.int .i64 l,.int .i64 d] 96)).alloc (.cells #[.int .i64 0,.int .i64 0,.int .i64 0,.int .i64 0,.int .i64 0] 71)).keep (heap_alloc_new w (.cells #[.int .i64 n,.int .i64 r0,.int .i64 r1,.int .i64 r2,.int .i64 r3] 71)) (fun h=>h)
 have hx1:=((Fr.refl (fun _=>False) ((w.alloc (.cells #[.int .i64 n,.int .i64 r0,.int .i64 r1,.int .i64 r2,.int .i64 r3] 71)).alloc (.cells #[.int .i64 2,.int .u8 y,.int .i64 l,.int .i64 d] 96))).alloc (.cells #[.int .i64 0,.int .i64 0,.int .i64 0,.int .i64 0,.int .i64 0] 71)).keep (heap_alloc_new (w.alloc (.cells #[.int .i64 n,.int .i64 r0,.int .i64 r1,.int .i64 r2,.int .i64 r3] 71)) (.cells #[.int .i64 2,.int .u8 y,.int .i64 l,.int .i64 d] 96)) (fun h=>h)
 have hx2:=heap_alloc_new ((w.alloc (.cells #[.int .i64 n,.int .i64 r0,.int .i64 r1,.int .i64 r2,.int .i64 r3] 71)).alloc (.cells #[.int .i64 2,.int .u8 y,.int .i64 l,.int .i64 d] 96)) (.cells #[.int .i64 0,.int .i64 0,.int .i64 0,.int .i64 0,.int .i64 0] 71)
 simp only[World.size_alloc] at hx1 hx2
 have HX0:=Hd hx0
 have HX1:=Hd hx1
 have HX2:=Hd hx2
 have HF0:=Hd hf0
 have HT:=Hd hT
 clear hf0 hT hx0 hx1 hx2
 have HL:=Hd (decide_eq_false hl)
 clear hl
 go_enter Tryz.func97,Tryz.ntmps97
 go_wp2_with fail
 refine(HR _).out.mono ?_
 rintro e w1 ⟨rfl,hfr⟩
 have hf1:=HF0.out.trans hfr
 have hx0:=hfr.keep HX0.out (fun h=>h)
 have hx1:=hfr.keep HX1.out (fun h=>h)
 have hx2:=hfr.keep HX2.out (fun h=>h)
 have hT1:=HT.out.keep hf1
 have HF1:=Hd hf1
 obtain⟨s0,s1,s2,s3,s4,sf⟩:=cf5 hx0 rfl rfl rfl rfl rfl
 have y0:=cell_in (i:=0) hx1 rfl
 have y2:=cell_in (i:=2) hx1 rfl
 have y3:=cell_in (i:=3) hx1 rfl
 obtain⟨z0,z1,z2,z3,z4,zf⟩:=cf5 hx2 rfl rfl rfl rfl rfl
 have ht:=tab_at hT1.mat (n:=n) hn
 have hsz:=lt_of_block hx2
 have hh5:=HT.out.size
 clear HX0 HX1 HX2
 have HX0:=Hd hx0
 have HX1:=Hd hx1
 have HX2:=Hd hx2
 clear hfr hx0 hx1 hx2 hT1 hf1 HR HF0
 generalize hh:w.heap.size=b0 at*
 have HH:=Hd hh
 clear hh
 generalize hq:matchL.getD n 0=q at*
 have HQ:=Hd hq
 clear hq
 go_wp2_with fail
 refine(len_calls l _).mono ?_
 rw[HL.out]
 rintro e w2 ⟨rfl,rfl⟩
 go_wp2_with fail
 refine bodyPost_ret (v:=.tuple #[.agg #[.int .i64 0,.int .i64 0,.int .i64 0,.int .i64 0,.int .i64 0],.int .i64 7]) (by simp[results,Tryz.results97,go_sem,z0,z1,z2,z3,z4]) rfl ?_
 have hh:=HH.out
 refine⟨rfl,HF1.out.trans' (S:=fun _=>False) (T:=fun k=>b0≤k) ?_ (fun i hi hk=>by omega)⟩
 repeat refine Fr.setCell ?_ (.inl (by simp;try omega)) _
 exact Fr.refl _ _
set_option maxRecDepth 100000 in
theorem next_rep_len(s:S)(hs:s.Ok)(y:Int)(l d:Nat)(w:World)(hT:Tabs w)(hl:¬(2≤l∧l≤273)):
 Calls Tryz.prog 97 #[.agg s.cells,.agg #[.int .i64 3,.int .u8 y,.int .i64 l,.int .i64 d]] w fun e w'=>e=.returned (.tuple #[.agg #[.int .i64 0,.int .i64 0,.int .i64 0,.int .i64 0,.int .i64 0],.int .i64 7])∧Fr (fun _=>False) w w':=by
 have HR:=fun W=>Hd (right_calls s hs W)
 have hn:=hs.num
 clear hs
 obtain⟨n,r0,r1,r2,r3⟩:=s
 simp only at hn
 unfold S.cells at*
 have hf0:Fr (fun _=>False) w (((w.alloc (.cells #[.int .i64 n,.int .i64 r0,.int .i64 r1,.int .i64 r2,.int .i64 r3] 71)).alloc (.cells #[.int .i64 3,.int .u8 y,.int .i64 l,.int .i64 d] 96)).alloc (.cells #[.int .i64 0,.int .i64 0,.int .i64 0,.int .i64 0,.int .i64 0] 71)):=(((Fr.refl _ w).alloc _).alloc _).alloc _
 have hx0:=(((Fr.refl (fun _=>False) (w.alloc (.cells #[.int .i64 n,.int .i64 r0,.int .i64 r1,.int .i64 r2,.int .i64 r3] 71))).alloc (.cells #[.int .i64 3,.int .u8 y,.int .i64 l,.int .i64 d] 96)).alloc (.cells #[.int .i64 0,.int .i64 0,.int .i64 0,.int .i64 0,.int .i64 0] 71)).keep (heap_alloc_new w (.cells #[.int .i64 n,.int .i64 r0,.int .i64 r1,.int .i64 r2,.int .i64 r3] 71)) (fun h=>h)
 have hx1:=((Fr.refl (fun _=>False) ((w.alloc (.cells #[.int .i64 n,.int .i64 r0,.int .i64 r1,.int .i64 r2,.int .i64 r3] 71)).alloc (.cells #[.int .i64 3,.int .u8 y,.int .i64 l,.int .i64 d] 96))).alloc (.cells #[.int .i64 0,.int .i64 0,.int .i64 0,.int .i64 0,.int .i64 0] 71)).keep (heap_alloc_new (w.alloc (.cells #[.int .i64 n,.int .i64 r0,.int .i64 r1,.int .i64 r2,.int .i64 r3] 71)) (.cells #[.int .i64 3,.int .u8 y,.int .i64 l,.int .i64 d] 96)) (fun h=>h)
 have hx2:=heap_alloc_new ((w.alloc (.cells #[.int .i64 n,.int .i64 r0,.int .i64 r1,.int .i64 r2,.int .i64 r3] 71)).alloc (.cells #[.int .i64 3,.int .u8 y,.int .i64 l,.int .i64 d] 96)) (.cells #[.int .i64 0,.int .i64 0,.int .i64 0,.int .i64 0,.int .i64 0] 71)
 simp only[World.size_alloc] at hx1 hx2
 have HX0:=Hd hx0
 have HX1:=Hd hx1
 have HX2:=Hd hx2
 have HF0:=Hd hf0
 have HT:=Hd hT
 clear hf0 hT hx0 hx1 hx2
 have HL:=Hd (decide_eq_false hl)
 clear hl
 go_enter Tryz.func97,Tryz.ntmps97
 go_wp2_with fail
 refine(HR _).out.mono ?_
 rintro e w1 ⟨rfl,hfr⟩
 have hf1:=HF0.out.trans hfr
 have hx0:=hfr.keep HX0.out (fun h=>h)
 have hx1:=hfr.keep HX1.out (fun h=>h)
 have hx2:=hfr.keep HX2.out (fun h=>h)
 have hT1:=HT.out.keep hf1
 have HF1:=Hd hf1
 obtain⟨s0,s1,s2,s3,s4,sf⟩:=cf5 hx0 rfl rfl rfl rfl rfl
 have y0:=cell_in (i:=0) hx1 rfl
 have y2:=cell_in (i:=2) hx1 rfl
 have y3:=cell_in (i:=3) hx1 rfl
 obtain⟨z0,z1,z2,z3,z4,zf⟩:=cf5 hx2 rfl rfl rfl rfl rfl
 have ht:=tab_at hT1.rep (n:=n) hn
 have hsz:=lt_of_block hx2
 have hh5:=HT.out.size
 clear HX0 HX1 HX2
 have HX0:=Hd hx0
 have HX1:=Hd hx1
 have HX2:=Hd hx2
 clear hfr hx0 hx1 hx2 hT1 hf1 HR HF0
 generalize hh:w.heap.size=b0 at*
 have HH:=Hd hh
 clear hh
 generalize hq:repL.getD n 0=q at*
 have HQ:=Hd hq
 clear hq
 go_wp2_with fail
 refine(len_calls l _).mono ?_
 rw[HL.out]
 rintro e w2 ⟨rfl,rfl⟩
 go_wp2_with fail
 refine bodyPost_ret (v:=.tuple #[.agg #[.int .i64 0,.int .i64 0,.int .i64 0,.int .i64 0,.int .i64 0],.int .i64 7]) (by simp[results,Tryz.results97,go_sem,z0,z1,z2,z3,z4]) rfl ?_
 have hh:=HH.out
 refine⟨rfl,HF1.out.trans' (S:=fun _=>False) (T:=fun k=>b0≤k) ?_ (fun i hi hk=>by omega)⟩
 repeat refine Fr.setCell ?_ (.inl (by simp;try omega)) _
 exact Fr.refl _ _
set_option maxRecDepth 100000 in
theorem next_mat_dist(s:S)(hs:s.Ok)(y:Int)(l d:Nat)(w:World)(hT:Tabs w)(hl:2≤l∧l≤273)(hd:¬(1≤d∧d≤4294967295)):
 Calls Tryz.prog 97 #[.agg s.cells,.agg #[.int .i64 2,.int .u8 y,.int .i64 l,.int .i64 d]] w fun e w'=>e=.returned (.tuple #[.agg #[.int .i64 0,.int .i64 0,.int .i64 0,.int .i64 0,.int .i64 0],.int .i64 7])∧Fr (fun _=>False) w w':=by
 have HR:=fun W=>Hd (right_calls s hs W)
 have hn:=hs.num
 clear hs
 obtain⟨n,r0,r1,r2,r3⟩:=s
 simp only at hn
 unfold S.cells at*
 have hf0:Fr (fun _=>False) w (((w.alloc (.cells #[.int .i64 n,.int .i64 r0,.int .i64 r1,.int .i64 r2,.int .i64 r3] 71)).alloc (.cells #[.int .i64 2,.int .u8 y,.int .i64 l,.int .i64 d] 96)).alloc (.cells #[.int .i64 0,.int .i64 0,.int .i64 0,.int .i64 0,.int .i64 0] 71)):=(((Fr.refl _ w).alloc _).alloc _).alloc _
 have hx0:=(((Fr.refl (fun _=>False) (w.alloc (.cells #[.int .i64 n,.int .i64 r0,.int .i64 r1,.int .i64 r2,.int .i64 r3] 71))).alloc (.cells #[.int .i64 2,.int .u8 y,.int .i64 l,.int .i64 d] 96)).alloc (.cells #[.int .i64 0,.int .i64 0,.int .i64 0,.int .i64 0,.int .i64 0] 71)).keep (heap_alloc_new w (.cells #[.int .i64 n,.int .i64 r0,.int .i64 r1,.int .i64 r2,.int .i64 r3] 71)) (fun h=>h)
 have hx1:=((Fr.refl (fun _=>False) ((w.alloc (.cells #[.int .i64 n,.int .i64 r0,.int .i64 r1,.int .i64 r2,.int .i64 r3] 71)).alloc (.cells #[.int .i64 2,.int .u8 y,.int .i64 l,.int .i64 d] 96))).alloc (.cells #[.int .i64 0,.int .i64 0,.int .i64 0,.int .i64 0,.int .i64 0] 71)).keep (heap_alloc_new (w.alloc (.cells #[.int .i64 n,.int .i64 r0,.int .i64 r1,.int .i64 r2,.int .i64 r3] 71)) (.cells #[.int .i64 2,.int .u8 y,.int .i64 l,.int .i64 d] 96)) (fun h=>h)
 have hx2:=heap_alloc_new ((w.alloc (.cells #[.int .i64 n,.int .i64 r0,.int .i64 r1,.int .i64 r2,.int .i64 r3] 71)).alloc (.cells #[.int .i64 2,.int .u8 y,.int .i64 l,.int .i64 d] 96)) (.cells #[.int .i64 0,.int .i64 0,.int .i64 0,.int .i64 0,.int .i64 0] 71)
 simp only[World.size_alloc] at hx1 hx2
 have HX0:=Hd hx0
 have HX1:=Hd hx1
 have HX2:=Hd hx2
 have HF0:=Hd hf0
 have HT:=Hd hT
 clear hf0 hT hx0 hx1 hx2
 have HL:=Hd (decide_eq_true hl)
 have HD:=Hd (decide_eq_false hd)
 clear hl hd
 go_enter Tryz.func97,Tryz.ntmps97
 go_wp2_with fail
 refine(HR _).out.mono ?_
 rintro e w1 ⟨rfl,hfr⟩
 have hf1:=HF0.out.trans hfr
 have hx0:=hfr.keep HX0.out (fun h=>h)
 have hx1:=hfr.keep HX1.out (fun h=>h)
 have hx2:=hfr.keep HX2.out (fun h=>h)
 have hT1:=HT.out.keep hf1
 have HF1:=Hd hf1
 obtain⟨s0,s1,s2,s3,s4,sf⟩:=cf5 hx0 rfl rfl rfl rfl rfl
 have y0:=cell_in (i:=0) hx1 rfl
 have y2:=cell_in (i:=2) hx1 rfl
 have y3:=cell_in (i:=3) hx1 rfl
 obtain⟨z0,z1,z2,z3,z4,zf⟩:=cf5 hx2 rfl rfl rfl rfl rfl
 have ht:=tab_at hT1.mat (n:=n) hn
 have hsz:=lt_of_block hx2
 have hh5:=HT.out.size
 clear HX0 HX1 HX2
 have HX0:=Hd hx0
 have HX1:=Hd hx1
 have HX2:=Hd hx2
 clear hfr hx0 hx1 hx2 hT1 hf1 HR HF0
 generalize hh:w.heap.size=b0 at*
 have HH:=Hd hh
 clear hh
 generalize hq:matchL.getD n 0=q at*
 have HQ:=Hd hq
 clear hq
 go_wp2_with fail
 refine(len_calls l _).mono ?_
 rw[HL.out]
 rintro e w2 ⟨rfl,rfl⟩
 go_wp2_with fail
 refine(dist_calls d _).mono ?_
 rw[HD.out]
 rintro e w2 ⟨rfl,rfl⟩
 go_wp2_with fail
 refine bodyPost_ret (v:=.tuple #[.agg #[.int .i64 0,.int .i64 0,.int .i64 0,.int .i64 0,.int .i64 0],.int .i64 7]) (by simp[results,Tryz.results97,go_sem,z0,z1,z2,z3,z4]) rfl ?_
 have hh:=HH.out
 refine⟨rfl,HF1.out.trans' (S:=fun _=>False) (T:=fun k=>b0≤k) ?_ (fun i hi hk=>by omega)⟩
 repeat refine Fr.setCell ?_ (.inl (by simp;try omega)) _
 exact Fr.refl _ _
end St
end Go.Proofs.YtlgccpjccopdmaaGreatDoor
