/- Part 28 of 52: lemmas of the last part, each under the conditions that it names. -/
import Derived.Test.YtffoddpjfgjelaaGreatDoorP01
import Derived.Test.YtffoddpjfgjelaaGreatDoorP09
set_option linter.unusedVariables false
set_option linter.unusedSimpArgs false
set_option maxRecDepth 1500
set_option maxHeartbeats 2000000
namespace Go.Proofs.YtffoddpjfgjelaaGreatDoor
open Go.RowKit
namespace St
open Mem
theorem dist_any(d:Int)(w:World):Calls Tryz.prog 187 #[.int .i64 d] w fun e w'=>e=.returned (.bool (decide (1≤d∧d≤4294967295)))∧w=w':=by
 generalize hq:decide (1≤d∧d≤4294967295)=q
 have HQ:=Hd hq
 clear hq
 by_cases h1:1≤d
 ·have t1:decide (d≥1)=true:=by simp;omega
  have t2:decide ((1:Int)≤d)=true:=by simp;omega
  by_cases h2:d≤4294967295
  ·have t3:decide (d≤4294967295)=true:=by simp;omega
   go_enter Tryz.func187,Tryz.ntmps187
   go_wp2_with fail
   go_ret
   exact⟨by rw[←HQ.out];simp[h1,h2],rfl⟩
  ·have t3:decide (d≤4294967295)=false:=by simp;omega
   go_enter Tryz.func187,Tryz.ntmps187
   go_wp2_with fail
   go_ret
   exact⟨by rw[←HQ.out];simp[h1,h2],rfl⟩
 ·have t1:decide (d≥1)=false:=by simp;omega
  have t2:decide ((1:Int)≤d)=false:=by simp;omega
  go_enter Tryz.func187,Tryz.ntmps187
  go_wp2_with fail
  go_ret
  exact⟨by rw[←HQ.out];simp;omega,rfl⟩
theorem len_any(d:Int)(w:World):Calls Tryz.prog 186 #[.int .i64 d] w fun e w'=>e=.returned (.bool (decide (2≤d∧d≤273)))∧w=w':=by
 generalize hq:decide (2≤d∧d≤273)=q
 have HQ:=Hd hq
 clear hq
 by_cases h1:2≤d
 ·have t1:decide (d≥2)=true:=by simp;omega
  have t2:decide ((2:Int)≤d)=true:=by simp;omega
  by_cases h2:d≤273
  ·have t3:decide (d≤273)=true:=by simp;omega
   go_enter Tryz.func186,Tryz.ntmps186
   go_wp2_with fail
   go_ret
   exact⟨by rw[←HQ.out];simp[h1,h2],rfl⟩
  ·have t3:decide (d≤273)=false:=by simp;omega
   go_enter Tryz.func186,Tryz.ntmps186
   go_wp2_with fail
   go_ret
   exact⟨by rw[←HQ.out];simp[h1,h2],rfl⟩
 ·have t1:decide (d≥2)=false:=by simp;omega
  have t2:decide ((2:Int)≤d)=false:=by simp;omega
  go_enter Tryz.func186,Tryz.ntmps186
  go_wp2_with fail
  go_ret
  exact⟨by rw[←HQ.out];simp;omega,rfl⟩
set_option maxRecDepth 100000 in
theorem nexti_lit(s:S)(hs:s.Ok)(y l d:Int)(w:World)(hT:Tabs w):
 Calls Tryz.prog 126 #[.agg s.cells,.agg #[.int .i64 1,.int .u8 y,.int .i64 l,.int .i64 d]] w fun e w'=>e=.returned (.tuple #[.agg s.lit.cells,.int .i64 0])∧Fr (fun _=>False) w w':=by
 have HR:=fun W=>Hd (right_calls s hs W)
 have hn:=hs.num
 clear hs
 obtain⟨n,r0,r1,r2,r3⟩:=s
 simp only at hn
 unfold S.cells at*
 simp only[S.lit]
 have hf0:Fr (fun _=>False) w (((w.alloc (.cells #[.int .i64 n,.int .i64 r0,.int .i64 r1,.int .i64 r2,.int .i64 r3] 84)).alloc (.cells #[.int .i64 1,.int .u8 y,.int .i64 l,.int .i64 d] 110)).alloc (.cells #[.int .i64 0,.int .i64 0,.int .i64 0,.int .i64 0,.int .i64 0] 84)):=(((Fr.refl _ w).alloc _).alloc _).alloc _
 have hx0:=(((Fr.refl (fun _=>False) (w.alloc (.cells #[.int .i64 n,.int .i64 r0,.int .i64 r1,.int .i64 r2,.int .i64 r3] 84))).alloc (.cells #[.int .i64 1,.int .u8 y,.int .i64 l,.int .i64 d] 110)).alloc (.cells #[.int .i64 0,.int .i64 0,.int .i64 0,.int .i64 0,.int .i64 0] 84)).keep (heap_alloc_new w (.cells #[.int .i64 n,.int .i64 r0,.int .i64 r1,.int .i64 r2,.int .i64 r3] 84)) (fun h=>h)
 have hx1:=((Fr.refl (fun _=>False) ((w.alloc (.cells #[.int .i64 n,.int .i64 r0,.int .i64 r1,.int .i64 r2,.int .i64 r3] 84)).alloc (.cells #[.int .i64 1,.int .u8 y,.int .i64 l,.int .i64 d] 110))).alloc (.cells #[.int .i64 0,.int .i64 0,.int .i64 0,.int .i64 0,.int .i64 0] 84)).keep (heap_alloc_new (w.alloc (.cells #[.int .i64 n,.int .i64 r0,.int .i64 r1,.int .i64 r2,.int .i64 r3] 84)) (.cells #[.int .i64 1,.int .u8 y,.int .i64 l,.int .i64 d] 110)) (fun h=>h)
 have hx2:=heap_alloc_new ((w.alloc (.cells #[.int .i64 n,.int .i64 r0,.int .i64 r1,.int .i64 r2,.int .i64 r3] 84)).alloc (.cells #[.int .i64 1,.int .u8 y,.int .i64 l,.int .i64 d] 110)) (.cells #[.int .i64 0,.int .i64 0,.int .i64 0,.int .i64 0,.int .i64 0] 84)
 simp only[World.size_alloc] at hx1 hx2
 have HX0:=Hd hx0
 have HX1:=Hd hx1
 have HX2:=Hd hx2
 have HF0:=Hd hf0
 have HT:=Hd hT
 clear hf0 hT hx0 hx1 hx2
 go_enter Tryz.func126,Tryz.ntmps126
 go_wp2_with fail
 refine(HR _).out.mono ?_
 rintro e w1 ⟨rfl,hfr⟩
 have hf1:=HF0.out.trans hfr
 have hx0:=hfr.keep HX0.out (fun h=>h)
 have hx1:=hfr.keep HX1.out (fun h=>h)
 have hx2:=hfr.keep HX2.out (fun h=>h)
 have hT1:=HT.out.keep hf1
 have HF1:=Hd hf1
 obtain⟨s0,s1,s2,s3,s4,sf⟩:=cf5 hx0 rfl rfl rfl rfl rfl
 have y0:=cell_in (i:=0) hx1 rfl
 have y2:=cell_in (i:=2) hx1 rfl
 have y3:=cell_in (i:=3) hx1 rfl
 obtain⟨z0,z1,z2,z3,z4,zf⟩:=cf5 hx2 rfl rfl rfl rfl rfl
 have ht:=tab_at hT1.lit (n:=n) hn
 have hsz:=lt_of_block hx2
 have hh5:=HT.out.size
 clear HX0 HX1 HX2
 have HX0:=Hd hx0
 have HX1:=Hd hx1
 have HX2:=Hd hx2
 clear hfr hx0 hx1 hx2 hT1 hf1 HR HF0
 generalize hh:w.heap.size=b0 at*
 have HH:=Hd hh
 clear hh
 generalize hq:litL.getD n 0=q at*
 have HQ:=Hd hq
 clear hq
 go_wp2_with fail
 refine bodyPost_ret (v:=.tuple #[.agg #[.int .i64 q,.int .i64 r0,.int .i64 r1,.int .i64 r2,.int .i64 r3],.int .i64 0]) (by simp[results,Tryz.results126,go_sem,z0,z1,z2,z3,z4]) rfl ?_
 have hh:=HH.out
 refine⟨by first|rw[HQ.out]|(rw[←HQ.out];simp),HF1.out.trans' (S:=fun _=>False) (T:=fun k=>b0≤k) ?_ (fun i hi hk=>by omega)⟩
 repeat refine Fr.setCell ?_ (.inl (by simp;try omega)) _
 exact Fr.refl _ _
set_option maxRecDepth 100000 in
theorem nexti_short(s:S)(hs:s.Ok)(y l d:Int)(w:World)(hT:Tabs w):
 Calls Tryz.prog 126 #[.agg s.cells,.agg #[.int .i64 4,.int .u8 y,.int .i64 l,.int .i64 d]] w fun e w'=>e=.returned (.tuple #[.agg s.short.cells,.int .i64 0])∧Fr (fun _=>False) w w':=by
 have HR:=fun W=>Hd (right_calls s hs W)
 have hn:=hs.num
 clear hs
 obtain⟨n,r0,r1,r2,r3⟩:=s
 simp only at hn
 unfold S.cells at*
 simp only[S.short]
 have hf0:Fr (fun _=>False) w (((w.alloc (.cells #[.int .i64 n,.int .i64 r0,.int .i64 r1,.int .i64 r2,.int .i64 r3] 84)).alloc (.cells #[.int .i64 4,.int .u8 y,.int .i64 l,.int .i64 d] 110)).alloc (.cells #[.int .i64 0,.int .i64 0,.int .i64 0,.int .i64 0,.int .i64 0] 84)):=(((Fr.refl _ w).alloc _).alloc _).alloc _
 have hx0:=(((Fr.refl (fun _=>False) (w.alloc (.cells #[.int .i64 n,.int .i64 r0,.int .i64 r1,.int .i64 r2,.int .i64 r3] 84))).alloc (.cells #[.int .i64 4,.int .u8 y,.int .i64 l,.int .i64 d] 110)).alloc (.cells #[.int .i64 0,.int .i64 0,.int .i64 0,.int .i64 0,.int .i64 0] 84)).keep (heap_alloc_new w (.cells #[.int .i64 n,.int .i64 r0,.int .i64 r1,.int .i64 r2,.int .i64 r3] 84)) (fun h=>h)
 have hx1:=((Fr.refl (fun _=>False) ((w.alloc (.cells #[.int .i64 n,.int .i64 r0,.int .i64 r1,.int .i64 r2,.int .i64 r3] 84)).alloc (.cells #[.int .i64 4,.int .u8 y,.int .i64 l,.int .i64 d] 110))).alloc (.cells #[.int .i64 0,.int .i64 0,.int .i64 0,.int .i64 0,.int .i64 0] 84)).keep (heap_alloc_new (w.alloc (.cells #[.int .i64 n,.int .i64 r0,.int .i64 r1,.int .i64 r2,.int .i64 r3] 84)) (.cells #[.int .i64 4,.int .u8 y,.int .i64 l,.int .i64 d] 110)) (fun h=>h)
 have hx2:=heap_alloc_new ((w.alloc (.cells #[.int .i64 n,.int .i64 r0,.int .i64 r1,.int .i64 r2,.int .i64 r3] 84)).alloc (.cells #[.int .i64 4,.int .u8 y,.int .i64 l,.int .i64 d] 110)) (.cells #[.int .i64 0,.int .i64 0,.int .i64 0,.int .i64 0,.int .i64 0] 84)
 simp only[World.size_alloc] at hx1 hx2
 have HX0:=Hd hx0
 have HX1:=Hd hx1
 have HX2:=Hd hx2
 have HF0:=Hd hf0
 have HT:=Hd hT
 clear hf0 hT hx0 hx1 hx2
 go_enter Tryz.func126,Tryz.ntmps126
 go_wp2_with fail
 refine(HR _).out.mono ?_
 rintro e w1 ⟨rfl,hfr⟩
 have hf1:=HF0.out.trans hfr
 have hx0:=hfr.keep HX0.out (fun h=>h)
 have hx1:=hfr.keep HX1.out (fun h=>h)
 have hx2:=hfr.keep HX2.out (fun h=>h)
 have hT1:=HT.out.keep hf1
 have HF1:=Hd hf1
 obtain⟨s0,s1,s2,s3,s4,sf⟩:=cf5 hx0 rfl rfl rfl rfl rfl
 have y0:=cell_in (i:=0) hx1 rfl
 have y2:=cell_in (i:=2) hx1 rfl
 have y3:=cell_in (i:=3) hx1 rfl
 obtain⟨z0,z1,z2,z3,z4,zf⟩:=cf5 hx2 rfl rfl rfl rfl rfl
 have ht:=tab_at hT1.short (n:=n) hn
 have hsz:=lt_of_block hx2
 have hh5:=HT.out.size
 clear HX0 HX1 HX2
 have HX0:=Hd hx0
 have HX1:=Hd hx1
 have HX2:=Hd hx2
 clear hfr hx0 hx1 hx2 hT1 hf1 HR HF0
 generalize hh:w.heap.size=b0 at*
 have HH:=Hd hh
 clear hh
 generalize hq:shortL.getD n 0=q at*
 have HQ:=Hd hq
 clear hq
 go_wp2_with fail
 refine bodyPost_ret (v:=.tuple #[.agg #[.int .i64 q,.int .i64 r0,.int .i64 r1,.int .i64 r2,.int .i64 r3],.int .i64 0]) (by simp[results,Tryz.results126,go_sem,z0,z1,z2,z3,z4]) rfl ?_
 have hh:=HH.out
 refine⟨by first|rw[HQ.out]|(rw[←HQ.out];simp),HF1.out.trans' (S:=fun _=>False) (T:=fun k=>b0≤k) ?_ (fun i hi hk=>by omega)⟩
 repeat refine Fr.setCell ?_ (.inl (by simp;try omega)) _
 exact Fr.refl _ _
set_option maxRecDepth 100000 in
theorem nexti_mat_len(s:S)(hs:s.Ok)(y l d:Int)(w:World)(hT:Tabs w)(hl:¬(2≤l∧l≤273)):
 Calls Tryz.prog 126 #[.agg s.cells,.agg #[.int .i64 2,.int .u8 y,.int .i64 l,.int .i64 d]] w fun e w'=>e=.returned (.tuple #[.agg #[.int .i64 0,.int .i64 0,.int .i64 0,.int .i64 0,.int .i64 0],.int .i64 7])∧Fr (fun _=>False) w w':=by
 have HR:=fun W=>Hd (right_calls s hs W)
 have hn:=hs.num
 clear hs
 obtain⟨n,r0,r1,r2,r3⟩:=s
 simp only at hn
 unfold S.cells at*
 have hf0:Fr (fun _=>False) w (((w.alloc (.cells #[.int .i64 n,.int .i64 r0,.int .i64 r1,.int .i64 r2,.int .i64 r3] 84)).alloc (.cells #[.int .i64 2,.int .u8 y,.int .i64 l,.int .i64 d] 110)).alloc (.cells #[.int .i64 0,.int .i64 0,.int .i64 0,.int .i64 0,.int .i64 0] 84)):=(((Fr.refl _ w).alloc _).alloc _).alloc _
 have hx0:=(((Fr.refl (fun _=>False) (w.alloc (.cells #[.int .i64 n,.int .i64 r0,.int .i64 r1,.int .i64 r2,.int .i64 r3] 84))).alloc (.cells #[.int .i64 2,.int .u8 y,.int .i64 l,.int .i64 d] 110)).alloc (.cells #[.int .i64 0,.int .i64 0,.int .i64 0,.int .i64 0,.int .i64 0] 84)).keep (heap_alloc_new w (.cells #[.int .i64 n,.int .i64 r0,.int .i64 r1,.int .i64 r2,.int .i64 r3] 84)) (fun h=>h)
 have hx1:=((Fr.refl (fun _=>False) ((w.alloc (.cells #[.int .i64 n,.int .i64 r0,.int .i64 r1,.int .i64 r2,.int .i64 r3] 84)).alloc (.cells #[.int .i64 2,.int .u8 y,.int .i64 l,.int .i64 d] 110))).alloc (.cells #[.int .i64 0,.int .i64 0,.int .i64 0,.int .i64 0,.int .i64 0] 84)).keep (heap_alloc_new (w.alloc (.cells #[.int .i64 n,.int .i64 r0,.int .i64 r1,.int .i64 r2,.int .i64 r3] 84)) (.cells #[.int .i64 2,.int .u8 y,.int .i64 l,.int .i64 d] 110)) (fun h=>h)
 have hx2:=heap_alloc_new ((w.alloc (.cells #[.int .i64 n,.int .i64 r0,.int .i64 r1,.int .i64 r2,.int .i64 r3] 84)).alloc (.cells #[.int .i64 2,.int .u8 y,.int .i64 l,.int .i64 d] 110)) (.cells #[.int .i64 0,.int .i64 0,.int .i64 0,.int .i64 0,.int .i64 0] 84)
 simp only[World.size_alloc] at hx1 hx2
 have HX0:=Hd hx0
 have HX1:=Hd hx1
 have HX2:=Hd hx2
 have HF0:=Hd hf0
 have HT:=Hd hT
 clear hf0 hT hx0 hx1 hx2
 have HL:=Hd (decide_eq_false hl)
 clear hl
 go_enter Tryz.func126,Tryz.ntmps126
 go_wp2_with fail
 refine(HR _).out.mono ?_
 rintro e w1 ⟨rfl,hfr⟩
 have hf1:=HF0.out.trans hfr
 have hx0:=hfr.keep HX0.out (fun h=>h)
 have hx1:=hfr.keep HX1.out (fun h=>h)
 have hx2:=hfr.keep HX2.out (fun h=>h)
 have hT1:=HT.out.keep hf1
 have HF1:=Hd hf1
 obtain⟨s0,s1,s2,s3,s4,sf⟩:=cf5 hx0 rfl rfl rfl rfl rfl
 have y0:=cell_in (i:=0) hx1 rfl
 have y2:=cell_in (i:=2) hx1 rfl
 have y3:=cell_in (i:=3) hx1 rfl
 obtain⟨z0,z1,z2,z3,z4,zf⟩:=cf5 hx2 rfl rfl rfl rfl rfl
 have ht:=tab_at hT1.mat (n:=n) hn
 have hsz:=lt_of_block hx2
 have hh5:=HT.out.size
 clear HX0 HX1 HX2
 have HX0:=Hd hx0
 have HX1:=Hd hx1
 have HX2:=Hd hx2
 clear hfr hx0 hx1 hx2 hT1 hf1 HR HF0
 generalize hh:w.heap.size=b0 at*
 have HH:=Hd hh
 clear hh
 generalize hq:matchL.getD n 0=q at*
 have HQ:=Hd hq
 clear hq
 go_wp2_with fail
 refine(len_any l _).mono ?_
 rw[HL.out]
 rintro e w2 ⟨rfl,rfl⟩
 go_wp2_with fail
 refine bodyPost_ret (v:=.tuple #[.agg #[.int .i64 0,.int .i64 0,.int .i64 0,.int .i64 0,.int .i64 0],.int .i64 7]) (by simp[results,Tryz.results126,go_sem,z0,z1,z2,z3,z4]) rfl ?_
 have hh:=HH.out
 refine⟨rfl,HF1.out.trans' (S:=fun _=>False) (T:=fun k=>b0≤k) ?_ (fun i hi hk=>by omega)⟩
 repeat refine Fr.setCell ?_ (.inl (by simp;try omega)) _
 exact Fr.refl _ _
set_option maxRecDepth 100000 in
theorem nexti_rep_len(s:S)(hs:s.Ok)(y l d:Int)(w:World)(hT:Tabs w)(hl:¬(2≤l∧l≤273)):
 Calls Tryz.prog 126 #[.agg s.cells,.agg #[.int .i64 3,.int .u8 y,.int .i64 l,.int .i64 d]] w fun e w'=>e=.returned (.tuple #[.agg #[.int .i64 0,.int .i64 0,.int .i64 0,.int .i64 0,.int .i64 0],.int .i64 7])∧Fr (fun _=>False) w w':=by
 have HR:=fun W=>Hd (right_calls s hs W)
 have hn:=hs.num
 clear hs
 obtain⟨n,r0,r1,r2,r3⟩:=s
 simp only at hn
 unfold S.cells at*
 have hf0:Fr (fun _=>False) w (((w.alloc (.cells #[.int .i64 n,.int .i64 r0,.int .i64 r1,.int .i64 r2,.int .i64 r3] 84)).alloc (.cells #[.int .i64 3,.int .u8 y,.int .i64 l,.int .i64 d] 110)).alloc (.cells #[.int .i64 0,.int .i64 0,.int .i64 0,.int .i64 0,.int .i64 0] 84)):=(((Fr.refl _ w).alloc _).alloc _).alloc _
 have hx0:=(((Fr.refl (fun _=>False) (w.alloc (.cells #[.int .i64 n,.int .i64 r0,.int .i64 r1,.int .i64 r2,.int .i64 r3] 84))).alloc (.cells #[.int .i64 3,.int .u8 y,.int .i64 l,.int .i64 d] 110)).alloc (.cells #[.int .i64 0,.int .i64 0,.int .i64 0,.int .i64 0,.int .i64 0] 84)).keep (heap_alloc_new w (.cells #[.int .i64 n,.int .i64 r0,.int .i64 r1,.int .i64 r2,.int .i64 r3] 84)) (fun h=>h)
 have hx1:=((Fr.refl (fun _=>False) ((w.alloc (.cells #[.int .i64 n,.int .i64 r0,.int .i64 r1,.int .i64 r2,.int .i64 r3] 84)).alloc (.cells #[.int .i64 3,.int .u8 y,.int .i64 l,.int .i64 d] 110))).alloc (.cells #[.int .i64 0,.int .i64 0,.int .i64 0,.int .i64 0,.int .i64 0] 84)).keep (heap_alloc_new (w.alloc (.cells #[.int .i64 n,.int .i64 r0,.int .i64 r1,.int .i64 r2,.int .i64 r3] 84)) (.cells #[.int .i64 3,.int .u8 y,.int .i64 l,.int .i64 d] 110)) (fun h=>h)
 have hx2:=heap_alloc_new ((w.alloc (.cells #[.int .i64 n,.int .i64 r0,.int .i64 r1,.int .i64 r2,.int .i64 r3] 84)).alloc (.cells #[.int .i64 3,.int .u8 y,.int .i64 l,.int .i64 d] 110)) (.cells #[.int .i64 0,.int .i64 0,.int .i64 0,.int .i64 0,.int .i64 0] 84)
 simp only[World.size_alloc] at hx1 hx2
 have HX0:=Hd hx0
 have HX1:=Hd hx1
 have HX2:=Hd hx2
 have HF0:=Hd hf0
 have HT:=Hd hT
 clear hf0 hT hx0 hx1 hx2
 have HL:=Hd (decide_eq_false hl)
 clear hl
 go_enter Tryz.func126,Tryz.ntmps126
 go_wp2_with fail
 refine(HR _).out.mono ?_
 rintro e w1 ⟨rfl,hfr⟩
 have hf1:=HF0.out.trans hfr
 have hx0:=hfr.keep HX0.out (fun h=>h)
 have hx1:=hfr.keep HX1.out (fun h=>h)
 have hx2:=hfr.keep HX2.out (fun h=>h)
 have hT1:=HT.out.keep hf1
 have HF1:=Hd hf1
 obtain⟨s0,s1,s2,s3,s4,sf⟩:=cf5 hx0 rfl rfl rfl rfl rfl
 have y0:=cell_in (i:=0) hx1 rfl
 have y2:=cell_in (i:=2) hx1 rfl
 have y3:=cell_in (i:=3) hx1 rfl
 obtain⟨z0,z1,z2,z3,z4,zf⟩:=cf5 hx2 rfl rfl rfl rfl rfl
 have ht:=tab_at hT1.rep (n:=n) hn
 have hsz:=lt_of_block hx2
 have hh5:=HT.out.size
 clear HX0 HX1 HX2
 have HX0:=Hd hx0
 have HX1:=Hd hx1
 have HX2:=Hd hx2
 clear hfr hx0 hx1 hx2 hT1 hf1 HR HF0
 generalize hh:w.heap.size=b0 at*
 have HH:=Hd hh
 clear hh
 generalize hq:repL.getD n 0=q at*
 have HQ:=Hd hq
 clear hq
 go_wp2_with fail
 refine(len_any l _).mono ?_
 rw[HL.out]
 rintro e w2 ⟨rfl,rfl⟩
 go_wp2_with fail
 refine bodyPost_ret (v:=.tuple #[.agg #[.int .i64 0,.int .i64 0,.int .i64 0,.int .i64 0,.int .i64 0],.int .i64 7]) (by simp[results,Tryz.results126,go_sem,z0,z1,z2,z3,z4]) rfl ?_
 have hh:=HH.out
 refine⟨rfl,HF1.out.trans' (S:=fun _=>False) (T:=fun k=>b0≤k) ?_ (fun i hi hk=>by omega)⟩
 repeat refine Fr.setCell ?_ (.inl (by simp;try omega)) _
 exact Fr.refl _ _
set_option maxRecDepth 100000 in
theorem nexti_mat_dist(s:S)(hs:s.Ok)(y l d:Int)(w:World)(hT:Tabs w)(hl:2≤l∧l≤273)(hd:¬(1≤d∧d≤4294967295)):
 Calls Tryz.prog 126 #[.agg s.cells,.agg #[.int .i64 2,.int .u8 y,.int .i64 l,.int .i64 d]] w fun e w'=>e=.returned (.tuple #[.agg #[.int .i64 0,.int .i64 0,.int .i64 0,.int .i64 0,.int .i64 0],.int .i64 7])∧Fr (fun _=>False) w w':=by
 have HR:=fun W=>Hd (right_calls s hs W)
 have hn:=hs.num
 clear hs
 obtain⟨n,r0,r1,r2,r3⟩:=s
 simp only at hn
 unfold S.cells at*
 have hf0:Fr (fun _=>False) w (((w.alloc (.cells #[.int .i64 n,.int .i64 r0,.int .i64 r1,.int .i64 r2,.int .i64 r3] 84)).alloc (.cells #[.int .i64 2,.int .u8 y,.int .i64 l,.int .i64 d] 110)).alloc (.cells #[.int .i64 0,.int .i64 0,.int .i64 0,.int .i64 0,.int .i64 0] 84)):=(((Fr.refl _ w).alloc _).alloc _).alloc _
 have hx0:=(((Fr.refl (fun _=>False) (w.alloc (.cells #[.int .i64 n,.int .i64 r0,.int .i64 r1,.int .i64 r2,.int .i64 r3] 84))).alloc (.cells #[.int .i64 2,.int .u8 y,.int .i64 l,.int .i64 d] 110)).alloc (.cells #[.int .i64 0,.int .i64 0,.int .i64 0,.int .i64 0,.int .i64 0] 84)).keep (heap_alloc_new w (.cells #[.int .i64 n,.int .i64 r0,.int .i64 r1,.int .i64 r2,.int .i64 r3] 84)) (fun h=>h)
 have hx1:=((Fr.refl (fun _=>False) ((w.alloc (.cells #[.int .i64 n,.int .i64 r0,.int .i64 r1,.int .i64 r2,.int .i64 r3] 84)).alloc (.cells #[.int .i64 2,.int .u8 y,.int .i64 l,.int .i64 d] 110))).alloc (.cells #[.int .i64 0,.int .i64 0,.int .i64 0,.int .i64 0,.int .i64 0] 84)).keep (heap_alloc_new (w.alloc (.cells #[.int .i64 n,.int .i64 r0,.int .i64 r1,.int .i64 r2,.int .i64 r3] 84)) (.cells #[.int .i64 2,.int .u8 y,.int .i64 l,.int .i64 d] 110)) (fun h=>h)
 have hx2:=heap_alloc_new ((w.alloc (.cells #[.int .i64 n,.int .i64 r0,.int .i64 r1,.int .i64 r2,.int .i64 r3] 84)).alloc (.cells #[.int .i64 2,.int .u8 y,.int .i64 l,.int .i64 d] 110)) (.cells #[.int .i64 0,.int .i64 0,.int .i64 0,.int .i64 0,.int .i64 0] 84)
 simp only[World.size_alloc] at hx1 hx2
 have HX0:=Hd hx0
 have HX1:=Hd hx1
 have HX2:=Hd hx2
 have HF0:=Hd hf0
 have HT:=Hd hT
 clear hf0 hT hx0 hx1 hx2
 have HL:=Hd (decide_eq_true hl)
 have HD:=Hd (decide_eq_false hd)
 clear hl hd
 go_enter Tryz.func126,Tryz.ntmps126
 go_wp2_with fail
 refine(HR _).out.mono ?_
 rintro e w1 ⟨rfl,hfr⟩
 have hf1:=HF0.out.trans hfr
 have hx0:=hfr.keep HX0.out (fun h=>h)
 have hx1:=hfr.keep HX1.out (fun h=>h)
 have hx2:=hfr.keep HX2.out (fun h=>h)
 have hT1:=HT.out.keep hf1
 have HF1:=Hd hf1
 obtain⟨s0,s1,s2,s3,s4,sf⟩:=cf5 hx0 rfl rfl rfl rfl rfl
 have y0:=cell_in (i:=0) hx1 rfl
 have y2:=cell_in (i:=2) hx1 rfl
 have y3:=cell_in (i:=3) hx1 rfl
 obtain⟨z0,z1,z2,z3,z4,zf⟩:=cf5 hx2 rfl rfl rfl rfl rfl
 have ht:=tab_at hT1.mat (n:=n) hn
 have hsz:=lt_of_block hx2
 have hh5:=HT.out.size
 clear HX0 HX1 HX2
 have HX0:=Hd hx0
 have HX1:=Hd hx1
 have HX2:=Hd hx2
 clear hfr hx0 hx1 hx2 hT1 hf1 HR HF0
 generalize hh:w.heap.size=b0 at*
 have HH:=Hd hh
 clear hh
 generalize hq:matchL.getD n 0=q at*
 have HQ:=Hd hq
 clear hq
 go_wp2_with fail
 refine(len_any l _).mono ?_
 rw[HL.out]
 rintro e w2 ⟨rfl,rfl⟩
 go_wp2_with fail
 refine(dist_any d _).mono ?_
 rw[HD.out]
 rintro e w2 ⟨rfl,rfl⟩
 go_wp2_with fail
 refine bodyPost_ret (v:=.tuple #[.agg #[.int .i64 0,.int .i64 0,.int .i64 0,.int .i64 0,.int .i64 0],.int .i64 7]) (by simp[results,Tryz.results126,go_sem,z0,z1,z2,z3,z4]) rfl ?_
 have hh:=HH.out
 refine⟨rfl,HF1.out.trans' (S:=fun _=>False) (T:=fun k=>b0≤k) ?_ (fun i hi hk=>by omega)⟩
 repeat refine Fr.setCell ?_ (.inl (by simp;try omega)) _
 exact Fr.refl _ _
set_option maxRecDepth 100000 in
theorem nexti_rep_neg(s:S)(hs:s.Ok)(y l d:Int)(w:World)(hT:Tabs w)(hl:2≤l∧l≤273)(hd:d<0):
 Calls Tryz.prog 126 #[.agg s.cells,.agg #[.int .i64 3,.int .u8 y,.int .i64 l,.int .i64 d]] w fun e w'=>e=.returned (.tuple #[.agg #[.int .i64 0,.int .i64 0,.int .i64 0,.int .i64 0,.int .i64 0],.int .i64 7])∧Fr (fun _=>False) w w':=by
 have HR:=fun W=>Hd (right_calls s hs W)
 have hn:=hs.num
 clear hs
 obtain⟨n,r0,r1,r2,r3⟩:=s
 simp only at hn
 unfold S.cells at*
 have hf0:Fr (fun _=>False) w (((w.alloc (.cells #[.int .i64 n,.int .i64 r0,.int .i64 r1,.int .i64 r2,.int .i64 r3] 84)).alloc (.cells #[.int .i64 3,.int .u8 y,.int .i64 l,.int .i64 d] 110)).alloc (.cells #[.int .i64 0,.int .i64 0,.int .i64 0,.int .i64 0,.int .i64 0] 84)):=(((Fr.refl _ w).alloc _).alloc _).alloc _
 have hx0:=(((Fr.refl (fun _=>False) (w.alloc (.cells #[.int .i64 n,.int .i64 r0,.int .i64 r1,.int .i64 r2,.int .i64 r3] 84))).alloc (.cells #[.int .i64 3,.int .u8 y,.int .i64 l,.int .i64 d] 110)).alloc (.cells #[.int .i64 0,.int .i64 0,.int .i64 0,.int .i64 0,.int .i64 0] 84)).keep (heap_alloc_new w (.cells #[.int .i64 n,.int .i64 r0,.int .i64 r1,.int .i64 r2,.int .i64 r3] 84)) (fun h=>h)
 have hx1:=((Fr.refl (fun _=>False) ((w.alloc (.cells #[.int .i64 n,.int .i64 r0,.int .i64 r1,.int .i64 r2,.int .i64 r3] 84)).alloc (.cells #[.int .i64 3,.int .u8 y,.int .i64 l,.int .i64 d] 110))).alloc (.cells #[.int .i64 0,.int .i64 0,.int .i64 0,.int .i64 0,.int .i64 0] 84)).keep (heap_alloc_new (w.alloc (.cells #[.int .i64 n,.int .i64 r0,.int .i64 r1,.int .i64 r2,.int .i64 r3] 84)) (.cells #[.int .i64 3,.int .u8 y,.int .i64 l,.int .i64 d] 110)) (fun h=>h)
 have hx2:=heap_alloc_new ((w.alloc (.cells #[.int .i64 n,.int .i64 r0,.int .i64 r1,.int .i64 r2,.int .i64 r3] 84)).alloc (.cells #[.int .i64 3,.int .u8 y,.int .i64 l,.int .i64 d] 110)) (.cells #[.int .i64 0,.int .i64 0,.int .i64 0,.int .i64 0,.int .i64 0] 84)
 simp only[World.size_alloc] at hx1 hx2
 have HX0:=Hd hx0
 have HX1:=Hd hx1
 have HX2:=Hd hx2
 have HF0:=Hd hf0
 have HT:=Hd hT
 clear hf0 hT hx0 hx1 hx2
 have HL:=Hd (decide_eq_true hl)
 have t1:decide (d<0)=true:=by simp;omega
 have t2:decide ((0:Int)>d)=true:=by simp;omega
 clear hl hd
 go_enter Tryz.func126,Tryz.ntmps126
 go_wp2_with fail
 refine(HR _).out.mono ?_
 rintro e w1 ⟨rfl,hfr⟩
 have hf1:=HF0.out.trans hfr
 have hx0:=hfr.keep HX0.out (fun h=>h)
 have hx1:=hfr.keep HX1.out (fun h=>h)
 have hx2:=hfr.keep HX2.out (fun h=>h)
 have hT1:=HT.out.keep hf1
 have HF1:=Hd hf1
 obtain⟨s0,s1,s2,s3,s4,sf⟩:=cf5 hx0 rfl rfl rfl rfl rfl
 have y0:=cell_in (i:=0) hx1 rfl
 have y2:=cell_in (i:=2) hx1 rfl
 have y3:=cell_in (i:=3) hx1 rfl
 obtain⟨z0,z1,z2,z3,z4,zf⟩:=cf5 hx2 rfl rfl rfl rfl rfl
 have ht:=tab_at hT1.rep (n:=n) hn
 have hsz:=lt_of_block hx2
 have hh5:=HT.out.size
 clear HX0 HX1 HX2
 have HX0:=Hd hx0
 have HX1:=Hd hx1
 have HX2:=Hd hx2
 clear hfr hx0 hx1 hx2 hT1 hf1 HR HF0
 generalize hh:w.heap.size=b0 at*
 have HH:=Hd hh
 clear hh
 generalize hq:repL.getD n 0=q at*
 have HQ:=Hd hq
 clear hq
 go_wp2_with fail
 refine(len_any l _).mono ?_
 rw[HL.out]
 rintro e w2 ⟨rfl,rfl⟩
 go_wp2_with fail
 refine bodyPost_ret (v:=.tuple #[.agg #[.int .i64 0,.int .i64 0,.int .i64 0,.int .i64 0,.int .i64 0],.int .i64 7]) (by simp[results,Tryz.results126,go_sem,z0,z1,z2,z3,z4]) rfl ?_
 have hh:=HH.out
 refine⟨rfl,HF1.out.trans' (S:=fun _=>False) (T:=fun k=>b0≤k) ?_ (fun i hi hk=>by omega)⟩
 repeat refine Fr.setCell ?_ (.inl (by simp;try omega)) _
 exact Fr.refl _ _
set_option maxRecDepth 100000 in
theorem nexti_rep_big(s:S)(hs:s.Ok)(y l d:Int)(w:World)(hT:Tabs w)(hl:2≤l∧l≤273)(hd:3<d):
 Calls Tryz.prog 126 #[.agg s.cells,.agg #[.int .i64 3,.int .u8 y,.int .i64 l,.int .i64 d]] w fun e w'=>e=.returned (.tuple #[.agg #[.int .i64 0,.int .i64 0,.int .i64 0,.int .i64 0,.int .i64 0],.int .i64 7])∧Fr (fun _=>False) w w':=by
 have HR:=fun W=>Hd (right_calls s hs W)
 have hn:=hs.num
 clear hs
 obtain⟨n,r0,r1,r2,r3⟩:=s
 simp only at hn
 unfold S.cells at*
 have hf0:Fr (fun _=>False) w (((w.alloc (.cells #[.int .i64 n,.int .i64 r0,.int .i64 r1,.int .i64 r2,.int .i64 r3] 84)).alloc (.cells #[.int .i64 3,.int .u8 y,.int .i64 l,.int .i64 d] 110)).alloc (.cells #[.int .i64 0,.int .i64 0,.int .i64 0,.int .i64 0,.int .i64 0] 84)):=(((Fr.refl _ w).alloc _).alloc _).alloc _
 have hx0:=(((Fr.refl (fun _=>False) (w.alloc (.cells #[.int .i64 n,.int .i64 r0,.int .i64 r1,.int .i64 r2,.int .i64 r3] 84))).alloc (.cells #[.int .i64 3,.int .u8 y,.int .i64 l,.int .i64 d] 110)).alloc (.cells #[.int .i64 0,.int .i64 0,.int .i64 0,.int .i64 0,.int .i64 0] 84)).keep (heap_alloc_new w (.cells #[.int .i64 n,.int .i64 r0,.int .i64 r1,.int .i64 r2,.int .i64 r3] 84)) (fun h=>h)
 have hx1:=((Fr.refl (fun _=>False) ((w.alloc (.cells #[.int .i64 n,.int .i64 r0,.int .i64 r1,.int .i64 r2,.int .i64 r3] 84)).alloc (.cells #[.int .i64 3,.int .u8 y,.int .i64 l,.int .i64 d] 110))).alloc (.cells #[.int .i64 0,.int .i64 0,.int .i64 0,.int .i64 0,.int .i64 0] 84)).keep (heap_alloc_new (w.alloc (.cells #[.int .i64 n,.int .i64 r0,.int .i64 r1,.int .i64 r2,.int .i64 r3] 84)) (.cells #[.int .i64 3,.int .u8 y,.int .i64 l,.int .i64 d] 110)) (fun h=>h)
 have hx2:=heap_alloc_new ((w.alloc (.cells #[.int .i64 n,.int .i64 r0,.int .i64 r1,.int .i64 r2,.int .i64 r3] 84)).alloc (.cells #[.int .i64 3,.int .u8 y,.int .i64 l,.int .i64 d] 110)) (.cells #[.int .i64 0,.int .i64 0,.int .i64 0,.int .i64 0,.int .i64 0] 84)
 simp only[World.size_alloc] at hx1 hx2
 have HX0:=Hd hx0
 have HX1:=Hd hx1
 have HX2:=Hd hx2
 have HF0:=Hd hf0
 have HT:=Hd hT
 clear hf0 hT hx0 hx1 hx2
 have HL:=Hd (decide_eq_true hl)
 have t1:decide (d<0)=false:=by simp;omega
 have t2:decide ((0:Int)>d)=false:=by simp;omega
 have t3:decide (d>3)=true:=by simp;omega
 have t4:decide ((3:Int)<d)=true:=by simp;omega
 clear hl hd
 go_enter Tryz.func126,Tryz.ntmps126
 go_wp2_with fail
 refine(HR _).out.mono ?_
 rintro e w1 ⟨rfl,hfr⟩
 have hf1:=HF0.out.trans hfr
 have hx0:=hfr.keep HX0.out (fun h=>h)
 have hx1:=hfr.keep HX1.out (fun h=>h)
 have hx2:=hfr.keep HX2.out (fun h=>h)
 have hT1:=HT.out.keep hf1
 have HF1:=Hd hf1
 obtain⟨s0,s1,s2,s3,s4,sf⟩:=cf5 hx0 rfl rfl rfl rfl rfl
 have y0:=cell_in (i:=0) hx1 rfl
 have y2:=cell_in (i:=2) hx1 rfl
 have y3:=cell_in (i:=3) hx1 rfl
 obtain⟨z0,z1,z2,z3,z4,zf⟩:=cf5 hx2 rfl rfl rfl rfl rfl
 have ht:=tab_at hT1.rep (n:=n) hn
 have hsz:=lt_of_block hx2
 have hh5:=HT.out.size
 clear HX0 HX1 HX2
 have HX0:=Hd hx0
 have HX1:=Hd hx1
 have HX2:=Hd hx2
 clear hfr hx0 hx1 hx2 hT1 hf1 HR HF0
 generalize hh:w.heap.size=b0 at*
 have HH:=Hd hh
 clear hh
 generalize hq:repL.getD n 0=q at*
 have HQ:=Hd hq
 clear hq
 go_wp2_with fail
 refine(len_any l _).mono ?_
 rw[HL.out]
 rintro e w2 ⟨rfl,rfl⟩
 go_wp2_with fail
 refine bodyPost_ret (v:=.tuple #[.agg #[.int .i64 0,.int .i64 0,.int .i64 0,.int .i64 0,.int .i64 0],.int .i64 7]) (by simp[results,Tryz.results126,go_sem,z0,z1,z2,z3,z4]) rfl ?_
 have hh:=HH.out
 refine⟨rfl,HF1.out.trans' (S:=fun _=>False) (T:=fun k=>b0≤k) ?_ (fun i hi hk=>by omega)⟩
 repeat refine Fr.setCell ?_ (.inl (by simp;try omega)) _
 exact Fr.refl _ _
set_option maxRecDepth 100000 in
theorem nexti_kind(s:S)(hs:s.Ok)(kd y l d:Int)(w:World)(hT:Tabs w)(hk:¬(1≤kd∧kd≤4)):
 Calls Tryz.prog 126 #[.agg s.cells,.agg #[.int .i64 kd,.int .u8 y,.int .i64 l,.int .i64 d]] w fun e w'=>e=.returned (.tuple #[.agg #[.int .i64 0,.int .i64 0,.int .i64 0,.int .i64 0,.int .i64 0],.int .i64 6])∧Fr (fun _=>False) w w':=by
 have HR:=fun W=>Hd (right_calls s hs W)
 have hn:=hs.num
 clear hs
 obtain⟨n,r0,r1,r2,r3⟩:=s
 simp only at hn
 unfold S.cells at*
 have hf0:Fr (fun _=>False) w (((w.alloc (.cells #[.int .i64 n,.int .i64 r0,.int .i64 r1,.int .i64 r2,.int .i64 r3] 84)).alloc (.cells #[.int .i64 kd,.int .u8 y,.int .i64 l,.int .i64 d] 110)).alloc (.cells #[.int .i64 0,.int .i64 0,.int .i64 0,.int .i64 0,.int .i64 0] 84)):=(((Fr.refl _ w).alloc _).alloc _).alloc _
 have hx0:=(((Fr.refl (fun _=>False) (w.alloc (.cells #[.int .i64 n,.int .i64 r0,.int .i64 r1,.int .i64 r2,.int .i64 r3] 84))).alloc (.cells #[.int .i64 kd,.int .u8 y,.int .i64 l,.int .i64 d] 110)).alloc (.cells #[.int .i64 0,.int .i64 0,.int .i64 0,.int .i64 0,.int .i64 0] 84)).keep (heap_alloc_new w (.cells #[.int .i64 n,.int .i64 r0,.int .i64 r1,.int .i64 r2,.int .i64 r3] 84)) (fun h=>h)
 have hx1:=((Fr.refl (fun _=>False) ((w.alloc (.cells #[.int .i64 n,.int .i64 r0,.int .i64 r1,.int .i64 r2,.int .i64 r3] 84)).alloc (.cells #[.int .i64 kd,.int .u8 y,.int .i64 l,.int .i64 d] 110))).alloc (.cells #[.int .i64 0,.int .i64 0,.int .i64 0,.int .i64 0,.int .i64 0] 84)).keep (heap_alloc_new (w.alloc (.cells #[.int .i64 n,.int .i64 r0,.int .i64 r1,.int .i64 r2,.int .i64 r3] 84)) (.cells #[.int .i64 kd,.int .u8 y,.int .i64 l,.int .i64 d] 110)) (fun h=>h)
 have hx2:=heap_alloc_new ((w.alloc (.cells #[.int .i64 n,.int .i64 r0,.int .i64 r1,.int .i64 r2,.int .i64 r3] 84)).alloc (.cells #[.int .i64 kd,.int .u8 y,.int .i64 l,.int .i64 d] 110)) (.cells #[.int .i64 0,.int .i64 0,.int .i64 0,.int .i64 0,.int .i64 0] 84)
 simp only[World.size_alloc] at hx1 hx2
 have HX0:=Hd hx0
 have HX1:=Hd hx1
 have HX2:=Hd hx2
 have HF0:=Hd hf0
 have HT:=Hd hT
 clear hf0 hT hx0 hx1 hx2
 have k1:(kd==1)=false:=by simp;omega
 have k2:(kd==2)=false:=by simp;omega
 have k3:(kd==3)=false:=by simp;omega
 have k4:(kd==4)=false:=by simp;omega
 clear hk
 go_enter Tryz.func126,Tryz.ntmps126
 go_wp2_with fail
 refine(HR _).out.mono ?_
 rintro e w1 ⟨rfl,hfr⟩
 have hf1:=HF0.out.trans hfr
 have hx0:=hfr.keep HX0.out (fun h=>h)
 have hx1:=hfr.keep HX1.out (fun h=>h)
 have hx2:=hfr.keep HX2.out (fun h=>h)
 have hT1:=HT.out.keep hf1
 have HF1:=Hd hf1
 obtain⟨s0,s1,s2,s3,s4,sf⟩:=cf5 hx0 rfl rfl rfl rfl rfl
 have y0:=cell_in (i:=0) hx1 rfl
 have y2:=cell_in (i:=2) hx1 rfl
 have y3:=cell_in (i:=3) hx1 rfl
 obtain⟨z0,z1,z2,z3,z4,zf⟩:=cf5 hx2 rfl rfl rfl rfl rfl
 have ht:=tab_at hT1.rep (n:=n) hn
 have hsz:=lt_of_block hx2
 have hh5:=HT.out.size
 clear HX0 HX1 HX2
 have HX0:=Hd hx0
 have HX1:=Hd hx1
 have HX2:=Hd hx2
 clear hfr hx0 hx1 hx2 hT1 hf1 HR HF0
 generalize hh:w.heap.size=b0 at*
 have HH:=Hd hh
 clear hh
 generalize hq:repL.getD n 0=q at*
 have HQ:=Hd hq
 clear hq
 go_wp2_with fail
 refine bodyPost_ret (v:=.tuple #[.agg #[.int .i64 0,.int .i64 0,.int .i64 0,.int .i64 0,.int .i64 0],.int .i64 6]) (by simp[results,Tryz.results126,go_sem,z0,z1,z2,z3,z4]) rfl ?_
 have hh:=HH.out
 refine⟨rfl,HF1.out.trans' (S:=fun _=>False) (T:=fun k=>b0≤k) ?_ (fun i hi hk=>by omega)⟩
 repeat refine Fr.setCell ?_ (.inl (by simp;try omega)) _
 exact Fr.refl _ _
structure Sz where
 kind:Int
 byte:Nat
 len:Int
 dist:Int
def Sz.cells(z:Sz):Array Value:=#[.int .i64 z.kind,.int .u8 z.byte,.int .i64 z.len,.int .i64 z.dist]
def Sz.bad(z:Sz):Nat:=
 if z.kind=1∨z.kind=4 then 0
 else if z.kind=2 then(if(2≤z.len∧z.len≤273)∧1≤z.dist∧z.dist≤4294967295 then 0 else 7)
 else if z.kind=3 then(if(2≤z.len∧z.len≤273)∧0≤z.dist∧z.dist≤3 then 0 else 7)
 else 6
def Sz.sy(z:Sz):Sy:=⟨z.kind.toNat,z.byte,z.len.toNat,z.dist.toNat⟩
theorem Sz.ok{z:Sz}(h:z.bad=0)(hb:z.byte<256):z.sy.Ok∧∀s:S,(s.next z.sy).1=0:=by
 obtain⟨k,b,n,d⟩:=z
 unfold Sz.bad at h
 simp only at h hb
 simp only[Sz.sy]
 split at h
 ·rename_i hk
  rcases hk with rfl|rfl
  ·exact⟨⟨.inl rfl,fun h=>by simp at h,hb⟩,fun s=>by simp[S.next]⟩
  ·exact⟨⟨.inr (.inr (.inr rfl)),fun h=>by simp at h,hb⟩,fun s=>by simp[S.next]⟩
 ·split at h
  ·rename_i hk
   subst hk
   split at h
   ·rename_i h2
    have e1:isL n.toNat:=⟨by omega,by omega⟩
    have e2:isD d.toNat:=⟨by omega,by omega⟩
    exact⟨⟨.inr (.inl rfl),fun h=>by simp at h,hb⟩,fun s=>by unfold S.next;rw[if_neg (by simp),if_neg (by simp),if_pos (by rfl),if_pos e1,if_pos e2]⟩
   ·simp at h
  ·split at h
   ·rename_i hk
    subst hk
    split at h
    ·rename_i h2
     have e1:isL n.toNat:=⟨by omega,by omega⟩
     exact⟨⟨.inr (.inr (.inl rfl)),fun _=>by simp only;omega,hb⟩,fun s=>by unfold S.next;rw[if_neg (by simp),if_neg (by simp),if_neg (by simp),if_pos e1]⟩
    ·simp at h
   ·simp at h
theorem Sz.same{z:Sz}(h:z.bad=0)(hk:z.kind=2∨z.kind=3):(z.sy.len:Int)=z.len∧(z.sy.dist:Int)=z.dist∧(z.sy.kind:Int)=z.kind:=by
 obtain⟨k,b,n,d⟩:=z
 unfold Sz.bad at h
 simp only at h hk
 simp only[Sz.sy]
 rcases hk with rfl|rfl
 ·rw[if_neg (by decide),if_pos rfl] at h
  split at h
  ·omega
  ·simp at h
 ·rw[if_neg (by decide),if_neg (by decide),if_pos rfl] at h
  split at h
  ·omega
  ·simp at h
theorem next_any(s:S)(hs:s.Ok)(z:Sz)(hb:z.byte<256)(w:World)(hT:Tabs w):
 Calls Tryz.prog 126 #[.agg s.cells,.agg z.cells] w fun e w'=>e=.returned (.tuple #[.agg (if z.bad=0 then(s.next z.sy).2 else .zero).cells,.int .i64 z.bad])∧Fr (fun _=>False) w w':=by
 by_cases h0:z.bad=0
 ·rw[h0,if_pos rfl]
  obtain⟨hy,hn⟩:=Sz.ok h0 hb
  have hsm:=Sz.same h0
  have hnx:=next_calls s hs z.sy hy w hT
  rw[hn s] at hnx
  obtain⟨k,b,n,d⟩:=z
  simp only at hsm
  by_cases hk:k=2∨k=3
  ·obtain⟨e1,e2,e3⟩:=hsm hk
   unfold Sy.cells at hnx
   rw[e1,e2,e3] at hnx
   exact hnx
  ·have hk2:k=1∨k=4:=by
    unfold Sz.bad at h0
    simp only at h0
    split at h0
    ·assumption
    ·rw[if_neg (by omega),if_neg (by omega)] at h0
     simp at h0
   rcases hk2 with rfl|rfl
   ·exact nexti_lit s hs _ _ _ w hT
   ·exact nexti_short s hs _ _ _ w hT
 ·rw[if_neg h0]
  obtain⟨k,b,n,d⟩:=z
  unfold Sz.bad at*
  simp only at*
  simp only[Sz.cells,S.zero,S.cells]
  by_cases h1:k=1∨k=4
  ·rw[if_pos h1] at h0
   exact absurd rfl h0
  ·rw[if_neg h1] at h0 ⊢
   by_cases h2:k=2
   ·subst h2
    rw[if_pos rfl] at h0 ⊢
    by_cases hl:2≤n∧n≤273
    ·by_cases hd:1≤d∧d≤4294967295
     ·rw[if_pos ⟨hl,hd⟩] at h0
      exact absurd rfl h0
     ·rw[if_neg (fun h=>hd h.2)]
      exact nexti_mat_dist s hs _ _ _ w hT hl hd
    ·rw[if_neg (fun h=>hl h.1)]
     exact nexti_mat_len s hs _ _ _ w hT hl
   ·rw[if_neg h2] at h0 ⊢
    by_cases h3:k=3
    ·subst h3
     rw[if_pos rfl] at h0 ⊢
     by_cases hl:2≤n∧n≤273
     ·by_cases hd:0≤d∧d≤3
      ·rw[if_pos ⟨hl,hd⟩] at h0
       exact absurd rfl h0
      ·rw[if_neg (fun h=>hd h.2)]
       by_cases hd0:d<0
       ·exact nexti_rep_neg s hs _ _ _ w hT hl hd0
       ·exact nexti_rep_big s hs _ _ _ w hT hl (by omega)
     ·rw[if_neg (fun h=>hl h.1)]
      exact nexti_rep_len s hs _ _ _ w hT hl
    ·rw[if_neg h3]
     exact nexti_kind s hs _ _ _ _ w hT (by omega)
end St
namespace En
open Mem St
def sizedP(size packed:Nat):Bool:=decide (1≤size∧size≤2097152∧1≤packed∧packed≤65536)
end En
end Go.Proofs.YtffoddpjfgjelaaGreatDoor
