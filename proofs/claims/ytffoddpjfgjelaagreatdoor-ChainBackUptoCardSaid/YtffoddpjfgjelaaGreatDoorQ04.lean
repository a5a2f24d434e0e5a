/- Part 4 of 48: lemmas of the last part, each under the conditions that it names. -/
import Derived.Test.YtffoddpjfgjelaaGreatDoorQ03
set_option linter.unusedVariables false
set_option linter.unusedSimpArgs false
set_option maxRecDepth 1500
set_option maxHeartbeats 4000000
namespace Go.Proofs.YtffoddpjfgjelaaGreatDoor
open Go.RowKit
namespace St
open Mem
structure S where
 num:Nat
 r0:Nat
 r1:Nat
 r2:Nat
 r3:Nat
abbrev isD(d:Nat):Prop:=1≤d∧d≤4294967295
structure S.Ok(s:S):Prop where
 num:s.num<12
 r0:isD s.r0
 r1:isD s.r1
 r2:isD s.r2
 r3:isD s.r3
def S.cells(s:S):Array Value:=#[.int .i64 s.num,.int .i64 s.r0,.int .i64 s.r1,.int .i64 s.r2,.int .i64 s.r3]
def S.new:S:=⟨0,1,1,1,1⟩
theorem S.new_ok:S.new.Ok:=by constructor<;>simp[S.new,isD]
theorem dist_calls(d:Nat)(w:World):Calls Tryz.prog 187 #[.int .i64 d] w fun e w'=>e=.returned (.bool (decide (1≤d∧d≤4294967295)))∧w=w':=by
 generalize hq:decide (1≤d∧d≤4294967295)=q
 have HQ:=Hd hq
 clear hq
 by_cases h1:1≤d
 ·have t1:decide ((d:Int)≥1)=true:=by simp;omega
  have t2:decide ((1:Int)≤d)=true:=by simp;omega
  by_cases h2:d≤4294967295
  ·have t3:decide ((d:Int)≤4294967295)=true:=by simp;omega
   go_enter Tryz.func187,Tryz.ntmps187
   go_wp2_with fail
   go_ret
   exact⟨by rw[←HQ.out];simp[h1,h2],rfl⟩
  ·have t3:decide ((d:Int)≤4294967295)=false:=by simp;omega
   go_enter Tryz.func187,Tryz.ntmps187
   go_wp2_with fail
   go_ret
   exact⟨by rw[←HQ.out];simp[h2],rfl⟩
 ·have t1:decide ((d:Int)≥1)=false:=by simp;omega
  have t2:decide ((1:Int)≤d)=false:=by simp;omega
  go_enter Tryz.func187,Tryz.ntmps187
  go_wp2_with fail
  go_ret
  exact⟨by rw[←HQ.out];simp[h1],rfl⟩
theorem len_calls(d:Nat)(w:World):Calls Tryz.prog 186 #[.int .i64 d] w fun e w'=>e=.returned (.bool (decide (2≤d∧d≤273)))∧w=w':=by
 generalize hq:decide (2≤d∧d≤273)=q
 have HQ:=Hd hq
 clear hq
 by_cases h1:2≤d
 ·have t1:decide ((d:Int)≥2)=true:=by simp;omega
  have t2:decide ((2:Int)≤d)=true:=by simp;omega
  by_cases h2:d≤273
  ·have t3:decide ((d:Int)≤273)=true:=by simp;omega
   go_enter Tryz.func186,Tryz.ntmps186
   go_wp2_with fail
   go_ret
   exact⟨by rw[←HQ.out];simp[h1,h2],rfl⟩
  ·have t3:decide ((d:Int)≤273)=false:=by simp;omega
   go_enter Tryz.func186,Tryz.ntmps186
   go_wp2_with fail
   go_ret
   exact⟨by rw[←HQ.out];simp[h2],rfl⟩
 ·have t1:decide ((d:Int)≥2)=false:=by simp;omega
  have t2:decide ((2:Int)≤d)=false:=by simp;omega
  go_enter Tryz.func186,Tryz.ntmps186
  go_wp2_with fail
  go_ret
  exact⟨by rw[←HQ.out];simp[h1],rfl⟩
theorem new_calls(w:World):Calls Tryz.prog 34 #[] w fun e w'=>e=.returned (.agg S.new.cells)∧Fr (fun _=>False) w w':=by
 have hbx:=heap_alloc_new w (.cells #[.int .i64 0,.int .i64 1,.int .i64 1,.int .i64 1,.int .i64 1] 84)
 obtain⟨c0,c1,c2,c3,c4⟩:=cs5 hbx rfl rfl rfl rfl rfl
 clear hbx
 go_enter Tryz.func34,Tryz.ntmps34
 go_wp2_with fail
 refine bodyPost_ret (v:=.agg #[.int .i64 0,.int .i64 1,.int .i64 1,.int .i64 1,.int .i64 1]) (by simp[results,Tryz.results34,go_sem,c0,c1,c2,c3,c4]) rfl ?_
 exact⟨rfl,(Fr.refl _ _).alloc _⟩
theorem literal_calls(s:S)(w:World):Calls Tryz.prog 242 #[.agg s.cells] w fun e w'=>e=.returned (.bool (decide (s.num<7)))∧Fr (fun _=>False) w w':=by
 obtain⟨n,a,b,c,d⟩:=s
 unfold S.cells
 generalize hq:decide (n<7)=q
 have HQ:=Hd hq
 have HF:=Hd ((R0 w).alloc (.cells #[.int .i64 n,.int .i64 a,.int .i64 b,.int .i64 c,.int .i64 d] 84))
 clear hq
 have t1:decide ((n:Int)≥0)=true:=by simp
 have t2:decide ((0:Int)≤n)=true:=by simp
 by_cases h:n<7
 ·have t3:decide ((n:Int)<7)=true:=by simp;omega
  go_enter Tryz.func242,Tryz.ntmps242
  go_wp2_with fail
  go_ret
  exact⟨by rw[←HQ.out];simp[h],HF.out⟩
 ·have t3:decide ((n:Int)<7)=false:=by simp;omega
  go_enter Tryz.func242,Tryz.ntmps242
  go_wp2_with fail
  go_ret
  exact⟨by rw[←HQ.out];simp[h],HF.out⟩
set_option maxRecDepth 100000 in
theorem reps_at(b0 b1 b2 b3:Int):(∀w,(Instr.index 82 (.agg #[.int .i64 b0,.int .i64 b1,.int .i64 b2,.int .i64 b3]) (.int .i64 0)).run Tryz.prog w=.ok (.int .i64 b0) w)∧(∀w,(Instr.index 82 (.agg #[.int .i64 b0,.int .i64 b1,.int .i64 b2,.int .i64 b3]) (.int .i64 1)).run Tryz.prog w=.ok (.int .i64 b1) w)∧(∀w,(Instr.index 82 (.agg #[.int .i64 b0,.int .i64 b1,.int .i64 b2,.int .i64 b3]) (.int .i64 2)).run Tryz.prog w=.ok (.int .i64 b2) w)∧(∀w,(Instr.index 82 (.agg #[.int .i64 b0,.int .i64 b1,.int .i64 b2,.int .i64 b3]) (.int .i64 3)).run Tryz.prog w=.ok (.int .i64 b3) w):=by
 refine⟨?_,?_,?_,?_⟩
 all_goals exact fun _=>by kernel_rfl
def repAt(s:S)(k:Nat):Nat:=if k=0 then s.r0 else if k=1 then s.r1 else if k=2 then s.r2 else s.r3
set_option maxRecDepth 100000 in
theorem right_calls(s:S)(hs:s.Ok)(w:World):Calls Tryz.prog 185 #[.agg s.cells] w fun e w'=>e=.returned (.bool true)∧Fr (fun _=>False) w w':=by
 obtain⟨n,a,b,c,d⟩:=s
 obtain⟨hn,ha,hb,hc,hd⟩:=hs
 simp only at hn ha hb hc hd
 unfold S.cells
 have HF:=Hd ((R0 w).alloc (.cells #[.int .i64 n,.int .i64 a,.int .i64 b,.int .i64 c,.int .i64 d] 84))
 have t1:decide ((n:Int)≥0)=true:=by simp
 have t2:decide ((0:Int)≤n)=true:=by simp
 have t3:decide ((n:Int)<12)=true:=by simp;omega
 have HA:=Hd (decide_eq_true ha)
 have HB:=Hd (decide_eq_true hb)
 have HC:=Hd (decide_eq_true hc)
 have HD:=Hd (decide_eq_true hd)
 clear ha hb hc hd
 obtain⟨x0,x1,x2,x3⟩:=reps_at a b c d
 go_enter Tryz.func185,Tryz.ntmps185
 go_wp2_with fail
 go_loopw [4,7](fun _ s7 wx=>∃k:Nat,k≤4∧s7=.int .i64 (k:Int)∧wx=w.alloc (.cells #[.int .i64 n,.int .i64 a,.int .i64 b,.int .i64 c,.int .i64 d] 84)) (fun _ s7 _=>4-(intOf s7).toNat)
 case atStart=>exact⟨0,by omega,rfl,rfl⟩
 case round=>
  obtain⟨k,hk,rfl,rfl⟩:=hrel
  obtain rfl|rfl|rfl|rfl|rfl:k=0∨k=1∨k=2∨k=3∨k=4:=by omega
  ·go_wp2_with fail
   refine(dist_calls a _).mono ?_
   rw[show decide (1≤a∧a≤4294967295)=true from HA.out]
   rintro e w' ⟨rfl,rfl⟩
   go_wp2_with fail
   go_roundw
   case rel=>exact⟨1,by omega,by first|rfl|trivial,by first|rfl|trivial⟩
   case measure=>simp[intOf]
  ·go_wp2_with fail
   refine(dist_calls b _).mono ?_
   rw[show decide (1≤b∧b≤4294967295)=true from HB.out]
   rintro e w' ⟨rfl,rfl⟩
   go_wp2_with fail
   go_roundw
   case rel=>exact⟨2,by omega,by first|rfl|trivial,by first|rfl|trivial⟩
   case measure=>simp[intOf]
  ·go_wp2_with fail
   refine(dist_calls c _).mono ?_
   rw[show decide (1≤c∧c≤4294967295)=true from HC.out]
   rintro e w' ⟨rfl,rfl⟩
   go_wp2_with fail
   go_roundw
   case rel=>exact⟨3,by omega,by first|rfl|trivial,by first|rfl|trivial⟩
   case measure=>simp[intOf]
  ·go_wp2_with fail
   refine(dist_calls d _).mono ?_
   rw[show decide (1≤d∧d≤4294967295)=true from HD.out]
   rintro e w' ⟨rfl,rfl⟩
   go_wp2_with fail
   go_roundw
   case rel=>exact⟨4,by omega,by first|rfl|trivial,by first|rfl|trivial⟩
   case measure=>simp[intOf]
  ·go_wp2_with fail
   go_ret
   exact⟨rfl,HF.out⟩
def range(s:Nat):Nat×Nat:=if s<4 then(s+1,0) else((2+s%2)*2^(s/2-1)+1,s/2-1)
theorem range_calls(s:Nat)(hs:s≤63)(w:World):Calls Tryz.prog 244 #[.int .i64 s] w fun e w'=>e=.returned (.tuple #[.int .i64 (range s).1,.int .i64 (range s).2,.int .i64 0])∧w=w':=by
 obtain rfl|rfl|rfl|rfl|rfl|rfl|rfl|rfl|rfl|rfl|rfl|rfl|rfl|rfl|rfl|rfl|rfl|rfl|rfl|rfl|rfl|rfl|rfl|rfl|rfl|rfl|rfl|rfl|rfl|rfl|rfl|rfl|rfl|rfl|rfl|rfl|rfl|rfl|rfl|rfl|rfl|rfl|rfl|rfl|rfl|rfl|rfl|rfl|rfl|rfl|rfl|rfl|rfl|rfl|rfl|rfl|rfl|rfl|rfl|rfl|rfl|rfl|rfl|rfl:s=0∨s=1∨s=2∨s=3∨s=4∨s=5∨s=6∨s=7∨s=8∨s=9∨s=10∨s=11∨s=12∨s=13∨s=14∨s=15∨s=16∨s=17∨s=18∨s=19∨s=20∨s=21∨s=22∨s=23∨s=24∨s=25∨s=26∨s=27∨s=28∨s=29∨s=30∨s=31∨s=32∨s=33∨s=34∨s=35∨s=36∨s=37∨s=38∨s=39∨s=40∨s=41∨s=42∨s=43∨s=44∨s=45∨s=46∨s=47∨s=48∨s=49∨s=50∨s=51∨s=52∨s=53∨s=54∨s=55∨s=56∨s=57∨s=58∨s=59∨s=60∨s=61∨s=62∨s=63:=by omega
 all_goals
  go_enter Tryz.func244,Tryz.ntmps244
  go_wp2_with fail
  go_ret3
  exact⟨by kernel_rfl,rfl⟩
end St
namespace St
open Mem
def litL:List Nat:=[0,0,0,0,1,2,3,4,5,6,4,5]
def matchL:List Nat:=[7,7,7,7,7,7,7,10,10,10,10,10]
def repL:List Nat:=[8,8,8,8,8,8,8,11,11,11,11,11]
def shortL:List Nat:=[9,9,9,9,9,9,9,11,11,11,11,11]
def rowOf(l:List Nat):Array Value:=(l.map fun(x:Nat)=>Value.int .i64 (x:Int)).toArray
structure Tabs(w:World):Prop where
 lit:∃T fr,w.heap[1]? =some (.cells (rowOf litL) T fr)
 short:∃T fr,w.heap[2]? =some (.cells (rowOf shortL) T fr)
 mat:∃T fr,w.heap[3]? =some (.cells (rowOf matchL) T fr)
 rep:∃T fr,w.heap[4]? =some (.cells (rowOf repL) T fr)
 size:6≤w.heap.size
theorem Tabs.step{S:Nat→Prop}{w w':World}(h:Tabs w)(hfr:Fr S w w')(hS:∀k,S k→6≤k):Tabs w':=by
 obtain⟨⟨t1,f1,h1⟩,⟨t2,f2,h2⟩,⟨t3,f3,h3⟩,⟨t4,f4,h4⟩,h5⟩:=h
 refine⟨⟨t1,f1,hfr.keep h1 (fun h=> ?_)⟩,⟨t2,f2,hfr.keep h2 (fun h=> ?_)⟩,⟨t3,f3,hfr.keep h3 (fun h=> ?_)⟩,⟨t4,f4,hfr.keep h4 (fun h=> ?_)⟩,Nat.le_trans h5 hfr.size⟩
 all_goals exact absurd (hS _ h) (by decide)
theorem Tabs.keep{w w':World}(h:Tabs w)(hfr:Fr (fun _=>False) w w'):Tabs w':=h.step hfr (fun _ h=>h.elim)
theorem tab_at{w:World}{g n:Nat}{l:List Nat}(h:∃T fr,w.heap[g]? =some (.cells (rowOf l) T fr))(hn:n<l.length):w.cell? ⟨g,n,none⟩=some (.int .i64 (l.getD n 0:Nat)):=by
 obtain⟨T,fr,h⟩:=h
 refine cell_in h ?_
 simp[rowOf,hn]
def S.lit(s:S):S:={s with num:=litL.getD s.num 0}
def S.short(s:S):S:={s with num:=shortL.getD s.num 0}
def S.mat(s:S)(d:Nat):S:=⟨matchL.getD s.num 0,d,s.r0,s.r1,s.r2⟩
def S.rep(s:S)(k:Nat):S:=if k=0 then⟨repL.getD s.num 0,s.r0,s.r1,s.r2,s.r3⟩ else if k=1 then⟨repL.getD s.num 0,s.r1,s.r0,s.r2,s.r3⟩ else if k=2 then⟨repL.getD s.num 0,s.r2,s.r0,s.r1,s.r3⟩ else⟨repL.getD s.num 0,s.r3,s.r0,s.r1,s.r2⟩
theorem L_lt:∀n:Fin 12,litL.getD n 0<12∧shortL.getD n 0<12∧matchL.getD n 0<12∧repL.getD n 0<12:=by decide
theorem S.Ok.lit{s:S}(h:s.Ok):s.lit.Ok:=⟨(L_lt ⟨s.num,h.num⟩).1,h.r0,h.r1,h.r2,h.r3⟩
theorem S.Ok.short{s:S}(h:s.Ok):s.short.Ok:=⟨(L_lt ⟨s.num,h.num⟩).2.1,h.r0,h.r1,h.r2,h.r3⟩
theorem S.Ok.mat{s:S}{d:Nat}(h:s.Ok)(hd:isD d):(s.mat d).Ok:=⟨(L_lt ⟨s.num,h.num⟩).2.2.1,hd,h.r0,h.r1,h.r2⟩
theorem S.Ok.rep{s:S}{k:Nat}(h:s.Ok):(s.rep k).Ok:=by
 have h1:=(L_lt ⟨s.num,h.num⟩).2.2.2
 unfold S.rep
 split
 ·exact⟨h1,h.r0,h.r1,h.r2,h.r3⟩
 ·split
  ·exact⟨h1,h.r1,h.r0,h.r2,h.r3⟩
  ·split
   ·exact⟨h1,h.r2,h.r0,h.r1,h.r3⟩
   ·exact⟨h1,h.r3,h.r0,h.r1,h.r2⟩
theorem box3(w:World)(A B:Array Value):Fr (fun _=>False) w (((w.alloc (.cells A 84)).alloc (.cells B 110)).alloc (.cells #[.int .i64 0,.int .i64 0,.int .i64 0,.int .i64 0,.int .i64 0] 84))∧
 (((w.alloc (.cells A 84)).alloc (.cells B 110)).alloc (.cells #[.int .i64 0,.int .i64 0,.int .i64 0,.int .i64 0,.int .i64 0] 84)).heap[w.heap.size]? =some (.cells A 84 (0,0))∧
 (((w.alloc (.cells A 84)).alloc (.cells B 110)).alloc (.cells #[.int .i64 0,.int .i64 0,.int .i64 0,.int .i64 0,.int .i64 0] 84)).heap[w.heap.size+1]? =some (.cells B 110 (0,0))∧
 (((w.alloc (.cells A 84)).alloc (.cells B 110)).alloc (.cells #[.int .i64 0,.int .i64 0,.int .i64 0,.int .i64 0,.int .i64 0] 84)).heap[w.heap.size+1+1]? =some (.cells #[.int .i64 0,.int .i64 0,.int .i64 0,.int .i64 0,.int .i64 0] 84 (0,0)):=by
 have hx1:=((R0 ((w.alloc (.cells A 84)).alloc (.cells B 110))).alloc (.cells #[.int .i64 0,.int .i64 0,.int .i64 0,.int .i64 0,.int .i64 0] 84)).keep (heap_alloc_new (w.alloc (.cells A 84)) (.cells B 110)) (fun h=>h)
 have hx2:=heap_alloc_new ((w.alloc (.cells A 84)).alloc (.cells B 110)) (.cells #[.int .i64 0,.int .i64 0,.int .i64 0,.int .i64 0,.int .i64 0] 84)
 simp only[World.size_alloc] at hx1 hx2
 exact⟨(((Fr.refl _ w).alloc _).alloc _).alloc _,(((R0 (w.alloc (.cells A 84))).alloc _).alloc _).keep (heap_alloc_new w _) (fun h=>h),hx1,hx2⟩
set_option maxRecDepth 100000 in
theorem next_lit(s:S)(hs:s.Ok)(y:Int)(l d:Nat)(w:World)(hT:Tabs w):
 Calls Tryz.prog 126 #[.agg s.cells,.agg #[.int .i64 1,.int .u8 y,.int .i64 l,.int .i64 d]] w fun e w'=>e=.returned (.tuple #[.agg s.lit.cells,.int .i64 0])∧Fr (fun _=>False) w w':=by
 have HR:=fun W=>Hd (right_calls s hs W)
 have hn:=hs.num
 clear hs
 obtain⟨n,r0,r1,r2,r3⟩:=s
 simp only at hn
 unfold S.cells at*
 simp only[S.lit]
 obtain⟨hf0,hx0,hx1,hx2⟩:=box3 w #[.int .i64 n,.int .i64 r0,.int .i64 r1,.int .i64 r2,.int .i64 r3] #[.int .i64 1,.int .u8 y,.int .i64 l,.int .i64 d]
 have HX0:=Hd hx0
 have HX1:=Hd hx1
 have HX2:=Hd hx2
 have HF0:=Hd hf0
 have HT:=Hd hT
 clear hf0 hT hx0 hx1 hx2
 go_enter Tryz.func126,Tryz.ntmps126
 go_wp2_with fail
 refine(HR _).out.mono ?_
 rintro e w1 ⟨rfl,hfr⟩
 have hf1:=HF0.out.trans hfr
 have hx0:=hfr.keep HX0.out (fun h=>h)
 have hx1:=hfr.keep HX1.out (fun h=>h)
 have hx2:=hfr.keep HX2.out (fun h=>h)
 have hT1:=HT.out.keep hf1
 have HF1:=Hd hf1
 obtain⟨s0,s1,s2,s3,s4,sf⟩:=cf5 hx0 rfl rfl rfl rfl rfl
 have y0:=cell_in (i:=0) hx1 rfl
 have y2:=cell_in (i:=2) hx1 rfl
 have y3:=cell_in (i:=3) hx1 rfl
 obtain⟨z0,z1,z2,z3,z4,zf⟩:=cf5 hx2 rfl rfl rfl rfl rfl
 have ht:=tab_at hT1.lit (n:=n) hn
 have hsz:=lt_of_block hx2
 have hh5:=HT.out.size
 clear HX0 HX1 HX2
 have HX0:=Hd hx0
 have HX1:=Hd hx1
 have HX2:=Hd hx2
 clear hfr hx0 hx1 hx2 hT1 hf1 HR HF0
 generalize hh:w.heap.size=b0 at*
 have HH:=Hd hh
 clear hh
 generalize hq:litL.getD n 0=q at*
 have HQ:=Hd hq
 clear hq
 go_wp2_with fail
 refine bodyPost_ret (v:=.tuple #[.agg #[.int .i64 q,.int .i64 r0,.int .i64 r1,.int .i64 r2,.int .i64 r3],.int .i64 0]) (by simp[results,Tryz.results126,go_sem,z0,z1,z2,z3,z4]) rfl ?_
 have hh:=HH.out
 refine⟨by first|rw[HQ.out]|(rw[←HQ.out];simp),HF1.out.trans' (S:=fun _=>False) (T:=fun k=>b0≤k) ?_ (fun i hi hk=>by omega)⟩
 repeat refine Fr.setCell ?_ (.inl (by simp;try omega)) _
 exact Fr.refl _ _
set_option maxRecDepth 100000 in
theorem next_short(s:S)(hs:s.Ok)(y:Int)(l d:Nat)(w:World)(hT:Tabs w):
 Calls Tryz.prog 126 #[.agg s.cells,.agg #[.int .i64 4,.int .u8 y,.int .i64 l,.int .i64 d]] w fun e w'=>e=.returned (.tuple #[.agg s.short.cells,.int .i64 0])∧Fr (fun _=>False) w w':=by
 have HR:=fun W=>Hd (right_calls s hs W)
 have hn:=hs.num
 clear hs
 obtain⟨n,r0,r1,r2,r3⟩:=s
 simp only at hn
 unfold S.cells at*
 simp only[S.short]
 obtain⟨hf0,hx0,hx1,hx2⟩:=box3 w #[.int .i64 n,.int .i64 r0,.int .i64 r1,.int .i64 r2,.int .i64 r3] #[.int .i64 4,.int .u8 y,.int .i64 l,.int .i64 d]
 have HX0:=Hd hx0
 have HX1:=Hd hx1
 have HX2:=Hd hx2
 have HF0:=Hd hf0
 have HT:=Hd hT
 clear hf0 hT hx0 hx1 hx2
 go_enter Tryz.func126,Tryz.ntmps126
 go_wp2_with fail
 refine(HR _).out.mono ?_
 rintro e w1 ⟨rfl,hfr⟩
 have hf1:=HF0.out.trans hfr
 have hx0:=hfr.keep HX0.out (fun h=>h)
 have hx1:=hfr.keep HX1.out (fun h=>h)
 have hx2:=hfr.keep HX2.out (fun h=>h)
 have hT1:=HT.out.keep hf1
 have HF1:=Hd hf1
 obtain⟨s0,s1,s2,s3,s4,sf⟩:=cf5 hx0 rfl rfl rfl rfl rfl
 have y0:=cell_in (i:=0) hx1 rfl
 have y2:=cell_in (i:=2) hx1 rfl
 have y3:=cell_in (i:=3) hx1 rfl
 obtain⟨z0,z1,z2,z3,z4,zf⟩:=cf5 hx2 rfl rfl rfl rfl rfl
 have ht:=tab_at hT1.short (n:=n) hn
 have hsz:=lt_of_block hx2
 have hh5:=HT.out.size
 clear HX0 HX1 HX2
 have HX0:=Hd hx0
 have HX1:=Hd hx1
 have HX2:=Hd hx2
 clear hfr hx0 hx1 hx2 hT1 hf1 HR HF0
 generalize hh:w.heap.size=b0 at*
 have HH:=Hd hh
 clear hh
 generalize hq:shortL.getD n 0=q at*
 have HQ:=Hd hq
 clear hq
 go_wp2_with fail
 refine bodyPost_ret (v:=.tuple #[.agg #[.int .i64 q,.int .i64 r0,.int .i64 r1,.int .i64 r2,.int .i64 r3],.int .i64 0]) (by simp[results,Tryz.results126,go_sem,z0,z1,z2,z3,z4]) rfl ?_
 have hh:=HH.out
 refine⟨by first|rw[HQ.out]|(rw[←HQ.out];simp),HF1.out.trans' (S:=fun _=>False) (T:=fun k=>b0≤k) ?_ (fun i hi hk=>by omega)⟩
 repeat refine Fr.setCell ?_ (.inl (by simp;try omega)) _
 exact Fr.refl _ _
set_option maxRecDepth 100000 in
theorem next_mat(s:S)(hs:s.Ok)(y:Int)(l d:Nat)(w:World)(hT:Tabs w)(hl:2≤l∧l≤273)(hd:1≤d∧d≤4294967295):
 Calls Tryz.prog 126 #[.agg s.cells,.agg #[.int .i64 2,.int .u8 y,.int .i64 l,.int .i64 d]] w fun e w'=>e=.returned (.tuple #[.agg (s.mat d).cells,.int .i64 0])∧Fr (fun _=>False) w w':=by
 have HR:=fun W=>Hd (right_calls s hs W)
 have hn:=hs.num
 clear hs
 obtain⟨n,r0,r1,r2,r3⟩:=s
 simp only at hn
 unfold S.cells at*
 simp only[S.mat]
 obtain⟨hf0,hx0,hx1,hx2⟩:=box3 w #[.int .i64 n,.int .i64 r0,.int .i64 r1,.int .i64 r2,.int .i64 r3] #[.int .i64 2,.int .u8 y,.int .i64 l,.int .i64 d]
 have HX0:=Hd hx0
 have HX1:=Hd hx1
 have HX2:=Hd hx2
 have HF0:=Hd hf0
 have HT:=Hd hT
 clear hf0 hT hx0 hx1 hx2
 have HL:=Hd (decide_eq_true hl)
 have HD:=Hd (decide_eq_true hd)
 clear hl hd
 go_enter Tryz.func126,Tryz.ntmps126
 go_wp2_with fail
 refine(HR _).out.mono ?_
 rintro e w1 ⟨rfl,hfr⟩
 have hf1:=HF0.out.trans hfr
 have hx0:=hfr.keep HX0.out (fun h=>h)
 have hx1:=hfr.keep HX1.out (fun h=>h)
 have hx2:=hfr.keep HX2.out (fun h=>h)
 have hT1:=HT.out.keep hf1
 have HF1:=Hd hf1
 obtain⟨s0,s1,s2,s3,s4,sf⟩:=cf5 hx0 rfl rfl rfl rfl rfl
 have y0:=cell_in (i:=0) hx1 rfl
 have y2:=cell_in (i:=2) hx1 rfl
 have y3:=cell_in (i:=3) hx1 rfl
 obtain⟨z0,z1,z2,z3,z4,zf⟩:=cf5 hx2 rfl rfl rfl rfl rfl
 have ht:=tab_at hT1.mat (n:=n) hn
 have hsz:=lt_of_block hx2
 have hh5:=HT.out.size
 clear HX0 HX1 HX2
 have HX0:=Hd hx0
 have HX1:=Hd hx1
 have HX2:=Hd hx2
 clear hfr hx0 hx1 hx2 hT1 hf1 HR HF0
 generalize hh:w.heap.size=b0 at*
 have HH:=Hd hh
 clear hh
 generalize hq:matchL.getD n 0=q at*
 have HQ:=Hd hq
 clear hq
 go_wp2_with fail
 refine(len_calls l _).mono ?_
 rw[HL.out]
 rintro e w2 ⟨rfl,rfl⟩
 go_wp2_with fail
 refine(dist_calls d _).mono ?_
 rw[HD.out]
 rintro e w2 ⟨rfl,rfl⟩
 go_wp2_with fail
 refine bodyPost_ret (v:=.tuple #[.agg #[.int .i64 q,.int .i64 d,.int .i64 r0,.int .i64 r1,.int .i64 r2],.int .i64 0]) (by simp[results,Tryz.results126,go_sem,z0,z1,z2,z3,z4]) rfl ?_
 have hh:=HH.out
 refine⟨by first|rw[HQ.out]|(rw[←HQ.out];simp),HF1.out.trans' (S:=fun _=>False) (T:=fun k=>b0≤k) ?_ (fun i hi hk=>by omega)⟩
 repeat refine Fr.setCell ?_ (.inl (by simp;try omega)) _
 exact Fr.refl _ _
set_option maxRecDepth 100000 in
theorem next_mat_len(s:S)(hs:s.Ok)(y:Int)(l d:Nat)(w:World)(hT:Tabs w)(hl:¬(2≤l∧l≤273)):
 Calls Tryz.prog 126 #[.agg s.cells,.agg #[.int .i64 2,.int .u8 y,.int .i64 l,.int .i64 d]] w fun e w'=>e=.returned (.tuple #[.agg #[.int .i64 0,.int .i64 0,.int .i64 0,.int .i64 0,.int .i64 0],.int .i64 7])∧Fr (fun _=>False) w w':=by
 have HR:=fun W=>Hd (right_calls s hs W)
 have hn:=hs.num
 clear hs
 obtain⟨n,r0,r1,r2,r3⟩:=s
 simp only at hn
 unfold S.cells at*
 obtain⟨hf0,hx0,hx1,hx2⟩:=box3 w #[.int .i64 n,.int .i64 r0,.int .i64 r1,.int .i64 r2,.int .i64 r3] #[.int .i64 2,.int .u8 y,.int .i64 l,.int .i64 d]
 have HX0:=Hd hx0
 have HX1:=Hd hx1
 have HX2:=Hd hx2
 have HF0:=Hd hf0
 have HT:=Hd hT
 clear hf0 hT hx0 hx1 hx2
 have HL:=Hd (decide_eq_false hl)
 clear hl
 go_enter Tryz.func126,Tryz.ntmps126
 go_wp2_with fail
 refine(HR _).out.mono ?_
 rintro e w1 ⟨rfl,hfr⟩
 have hf1:=HF0.out.trans hfr
 have hx0:=hfr.keep HX0.out (fun h=>h)
 have hx1:=hfr.keep HX1.out (fun h=>h)
 have hx2:=hfr.keep HX2.out (fun h=>h)
 have hT1:=HT.out.keep hf1
 have HF1:=Hd hf1
 obtain⟨s0,s1,s2,s3,s4,sf⟩:=cf5 hx0 rfl rfl rfl rfl rfl
 have y0:=cell_in (i:=0) hx1 rfl
 have y2:=cell_in (i:=2) hx1 rfl
 have y3:=cell_in (i:=3) hx1 rfl
 obtain⟨z0,z1,z2,z3,z4,zf⟩:=cf5 hx2 rfl rfl rfl rfl rfl
 have ht:=tab_at hT1.mat (n:=n) hn
 have hsz:=lt_of_block hx2
 have hh5:=HT.out.size
 clear HX0 HX1 HX2
 have HX0:=Hd hx0
 have HX1:=Hd hx1
 have HX2:=Hd hx2
 clear hfr hx0 hx1 hx2 hT1 hf1 HR HF0
 generalize hh:w.heap.size=b0 at*
 have HH:=Hd hh
 clear hh
 generalize hq:matchL.getD n 0=q at*
 have HQ:=Hd hq
 clear hq
 go_wp2_with fail
 refine(len_calls l _).mono ?_
 rw[HL.out]
 rintro e w2 ⟨rfl,rfl⟩
 go_wp2_with fail
 refine bodyPost_ret (v:=.tuple #[.agg #[.int .i64 0,.int .i64 0,.int .i64 0,.int .i64 0,.int .i64 0],.int .i64 7]) (by simp[results,Tryz.results126,go_sem,z0,z1,z2,z3,z4]) rfl ?_
 have hh:=HH.out
 refine⟨rfl,HF1.out.trans' (S:=fun _=>False) (T:=fun k=>b0≤k) ?_ (fun i hi hk=>by omega)⟩
 repeat refine Fr.setCell ?_ (.inl (by simp;try omega)) _
 exact Fr.refl _ _
set_option maxRecDepth 100000 in
theorem next_rep_len(s:S)(hs:s.Ok)(y:Int)(l d:Nat)(w:World)(hT:Tabs w)(hl:¬(2≤l∧l≤273)):
 Calls Tryz.prog 126 #[.agg s.cells,.agg #[.int .i64 3,.int .u8 y,.int .i64 l,.int .i64 d]] w fun e w'=>e=.returned (.tuple #[.agg #[.int .i64 0,.int .i64 0,.int .i64 0,.int .i64 0,.int .i64 0],.int .i64 7])∧Fr (fun _=>False) w w':=by
 have HR:=fun W=>Hd (right_calls s hs W)
 have hn:=hs.num
 clear hs
 obtain⟨n,r0,r1,r2,r3⟩:=s
 simp only at hn
 unfold S.cells at*
 obtain⟨hf0,hx0,hx1,hx2⟩:=box3 w #[.int .i64 n,.int .i64 r0,.int .i64 r1,.int .i64 r2,.int .i64 r3] #[.int .i64 3,.int .u8 y,.int .i64 l,.int .i64 d]
 have HX0:=Hd hx0
 have HX1:=Hd hx1
 have HX2:=Hd hx2
 have HF0:=Hd hf0
 have HT:=Hd hT
 clear hf0 hT hx0 hx1 hx2
 have HL:=Hd (decide_eq_false hl)
 clear hl
 go_enter Tryz.func126,Tryz.ntmps126
 go_wp2_with fail
 refine(HR _).out.mono ?_
 rintro e w1 ⟨rfl,hfr⟩
 have hf1:=HF0.out.trans hfr
 have hx0:=hfr.keep HX0.out (fun h=>h)
 have hx1:=hfr.keep HX1.out (fun h=>h)
 have hx2:=hfr.keep HX2.out (fun h=>h)
 have hT1:=HT.out.keep hf1
 have HF1:=Hd hf1
 obtain⟨s0,s1,s2,s3,s4,sf⟩:=cf5 hx0 rfl rfl rfl rfl rfl
 have y0:=cell_in (i:=0) hx1 rfl
 have y2:=cell_in (i:=2) hx1 rfl
 have y3:=cell_in (i:=3) hx1 rfl
 obtain⟨z0,z1,z2,z3,z4,zf⟩:=cf5 hx2 rfl rfl rfl rfl rfl
 have ht:=tab_at hT1.rep (n:=n) hn
 have hsz:=lt_of_block hx2
 have hh5:=HT.out.size
 clear HX0 HX1 HX2
 have HX0:=Hd hx0
 have HX1:=Hd hx1
 have HX2:=Hd hx2
 clear hfr hx0 hx1 hx2 hT1 hf1 HR HF0
 generalize hh:w.heap.size=b0 at*
 have HH:=Hd hh
 clear hh
 generalize hq:repL.getD n 0=q at*
 have HQ:=Hd hq
 clear hq
 go_wp2_with fail
 refine(len_calls l _).mono ?_
 rw[HL.out]
 rintro e w2 ⟨rfl,rfl⟩
 go_wp2_with fail
 refine bodyPost_ret (v:=.tuple #[.agg #[.int .i64 0,.int .i64 0,.int .i64 0,.int .i64 0,.int .i64 0],.int .i64 7]) (by simp[results,Tryz.results126,go_sem,z0,z1,z2,z3,z4]) rfl ?_
 have hh:=HH.out
 refine⟨rfl,HF1.out.trans' (S:=fun _=>False) (T:=fun k=>b0≤k) ?_ (fun i hi hk=>by omega)⟩
 repeat refine Fr.setCell ?_ (.inl (by simp;try omega)) _
 exact Fr.refl _ _
set_option maxRecDepth 100000 in
theorem next_mat_dist(s:S)(hs:s.Ok)(y:Int)(l d:Nat)(w:World)(hT:Tabs w)(hl:2≤l∧l≤273)(hd:¬(1≤d∧d≤4294967295)):
 Calls Tryz.prog 126 #[.agg s.cells,.agg #[.int .i64 2,.int .u8 y,.int .i64 l,.int .i64 d]] w fun e w'=>e=.returned (.tuple #[.agg #[.int .i64 0,.int .i64 0,.int .i64 0,.int .i64 0,.int .i64 0],.int .i64 7])∧Fr (fun _=>False) w w':=by
 have HR:=fun W=>Hd (right_calls s hs W)
 have hn:=hs.num
 clear hs
 obtain⟨n,r0,r1,r2,r3⟩:=s
 simp only at hn
 unfold S.cells at*
 obtain⟨hf0,hx0,hx1,hx2⟩:=box3 w #[.int .i64 n,.int .i64 r0,.int .i64 r1,.int .i64 r2,.int .i64 r3] #[.int .i64 2,.int .u8 y,.int .i64 l,.int .i64 d]
 have HX0:=Hd hx0
 have HX1:=Hd hx1
 have HX2:=Hd hx2
 have HF0:=Hd hf0
 have HT:=Hd hT
 clear hf0 hT hx0 hx1 hx2
 have HL:=Hd (decide_eq_true hl)
 have HD:=Hd (decide_eq_false hd)
 clear hl hd
 go_enter Tryz.func126,Tryz.ntmps126
 go_wp2_with fail
 refine(HR _).out.mono ?_
 rintro e w1 ⟨rfl,hfr⟩
 have hf1:=HF0.out.trans hfr
 have hx0:=hfr.keep HX0.out (fun h=>h)
 have hx1:=hfr.keep HX1.out (fun h=>h)
 have hx2:=hfr.keep HX2.out (fun h=>h)
 have hT1:=HT.out.keep hf1
 have HF1:=Hd hf1
 obtain⟨s0,s1,s2,s3,s4,sf⟩:=cf5 hx0 rfl rfl rfl rfl rfl
 have y0:=cell_in (i:=0) hx1 rfl
 have y2:=cell_in (i:=2) hx1 rfl
 have y3:=cell_in (i:=3) hx1 rfl
 obtain⟨z0,z1,z2,z3,z4,zf⟩:=cf5 hx2 rfl rfl rfl rfl rfl
 have ht:=tab_at hT1.mat (n:=n) hn
 have hsz:=lt_of_block hx2
 have hh5:=HT.out.size
 clear HX0 HX1 HX2
 have HX0:=Hd hx0
 have HX1:=Hd hx1
 have HX2:=Hd hx2
 clear hfr hx0 hx1 hx2 hT1 hf1 HR HF0
 generalize hh:w.heap.size=b0 at*
 have HH:=Hd hh
 clear hh
 generalize hq:matchL.getD n 0=q at*
 have HQ:=Hd hq
 clear hq
 go_wp2_with fail
 refine(len_calls l _).mono ?_
 rw[HL.out]
 rintro e w2 ⟨rfl,rfl⟩
 go_wp2_with fail
 refine(dist_calls d _).mono ?_
 rw[HD.out]
 rintro e w2 ⟨rfl,rfl⟩
 go_wp2_with fail
 refine bodyPost_ret (v:=.tuple #[.agg #[.int .i64 0,.int .i64 0,.int .i64 0,.int .i64 0,.int .i64 0],.int .i64 7]) (by simp[results,Tryz.results126,go_sem,z0,z1,z2,z3,z4]) rfl ?_
 have hh:=HH.out
 refine⟨rfl,HF1.out.trans' (S:=fun _=>False) (T:=fun k=>b0≤k) ?_ (fun i hi hk=>by omega)⟩
 repeat refine Fr.setCell ?_ (.inl (by simp;try omega)) _
 exact Fr.refl _ _
end St
namespace St
open Mem
def propsBad(lc lp pb:Int):Bool:=decide (lc<0∨lp<0∨pb<0∨4<pb∨4<lc∨4-lc<lp)
theorem props_calls(lc lp pb:Int)(w:World)(b_lc:-9223372036854775808≤lc∧lc≤9223372036854775807)(b_lp:-9223372036854775808≤lp∧lp≤9223372036854775807)(b_pb:-9223372036854775808≤pb∧pb≤9223372036854775807):
 Calls Tryz.prog 49 #[.agg #[.int .i64 lc,.int .i64 lp,.int .i64 pb]] w fun e w'=>(∃x,e=.returned (.tuple #[.int .i64 x,.int .i64 (if propsBad lc lp pb then 6 else 0)]))∧Fr (fun _=>False) w w':=by
 have HF:=Hd ((R0 w).alloc (.cells #[.int .i64 lc,.int .i64 lp,.int .i64 pb] 24))
 go_enter Tryz.func49,Tryz.ntmps49
 by_cases h2_0:lc<0
 ·have t2_0_0:(decide (lc<0))=true:=by simp;omega
  have hq:propsBad lc lp pb=true:=by unfold propsBad;simp;omega
  rw[hq]
  go_wp2_with fail
  go_ret2
  exact⟨⟨_,rfl⟩,HF.out⟩
 have g2_0_0:(decide (lc<0))=false:=by simp;omega
 by_cases h2_1:lp<0
 ·have t2_1_0:(decide (lp<0))=true:=by simp;omega
  have hq:propsBad lc lp pb=true:=by unfold propsBad;simp;omega
  rw[hq]
  go_wp2_with fail
  go_ret2
  exact⟨⟨_,rfl⟩,HF.out⟩
 have g2_1_0:(decide (lp<0))=false:=by simp;omega
 by_cases h2_2:pb<0
 ·have t2_2_0:(decide (pb<0))=true:=by simp;omega
  have hq:propsBad lc lp pb=true:=by unfold propsBad;simp;omega
  rw[hq]
  go_wp2_with fail
  go_ret2
  exact⟨⟨_,rfl⟩,HF.out⟩
 have g2_2_0:(decide (pb<0))=false:=by simp;omega
 by_cases h2_3:4<pb
 ·have t2_3_0:(decide (4<pb))=true:=by simp;omega
  have t2_3_1:(decide (pb>4))=true:=by simp;omega
  have hq:propsBad lc lp pb=true:=by unfold propsBad;simp;omega
  rw[hq]
  go_wp2_with fail
  go_ret2
  exact⟨⟨_,rfl⟩,HF.out⟩
 have g2_3_0:(decide (4<pb))=false:=by simp;omega
 have g2_3_1:(decide (pb>4))=false:=by simp;omega
 by_cases h2_4:4<lc
 ·have t2_4_0:(decide (4<lc))=true:=by simp;omega
  have t2_4_1:(decide (lc>4))=true:=by simp;omega
  have hq:propsBad lc lp pb=true:=by unfold propsBad;simp;omega
  rw[hq]
  go_wp2_with fail
  go_ret2
  exact⟨⟨_,rfl⟩,HF.out⟩
 have g2_4_0:(decide (4<lc))=false:=by simp;omega
 have g2_4_1:(decide (lc>4))=false:=by simp;omega
 by_cases h2_5:4-lc<lp
 ·have t2_5_0:(decide (4-lc<lp))=true:=by simp;omega
  have t2_5_1:(decide (lp>4-lc))=true:=by simp;omega
  have hq:propsBad lc lp pb=true:=by unfold propsBad;simp;omega
  rw[hq]
  go_wp2_with fail
  go_ret2
  exact⟨⟨_,rfl⟩,HF.out⟩
 have g2_5_0:(decide (4-lc<lp))=false:=by simp;omega
 have g2_5_1:(decide (lp>4-lc))=false:=by simp;omega
 have hq:propsBad lc lp pb=false:=by unfold propsBad;simp;omega
 rw[hq]
 go_wp2_with fail
 go_ret2
 exact⟨⟨_,rfl⟩,HF.out⟩
theorem props_ok(lc lp pb:Nat)(hl:lc+lp≤4)(hp:pb≤4)(w:World):
 Calls Tryz.prog 49 #[.agg #[.int .i64 lc,.int .i64 lp,.int .i64 pb]] w fun e w'=>(∃x,e=.returned (.tuple #[.int .i64 x,.int .i64 0]))∧Fr (fun _=>False) w w':=by
 have h:=props_calls lc lp pb w (by omega) (by omega) (by omega)
 rwa [if_neg (by unfold propsBad;simp;omega)] at h
def bytePropsOk(b:Nat):Bool:=decide (b%9+b/9%5≤4∧b/45≤4)
theorem byteProps_in(b p q r:Nat)(hb:b<256)(hp:p=b%9)(hq:q=b/9%5)(hr:r=b/45)(w:World)(bad:Bool)(hbad:propsBad p q r=bad):
 Calls Tryz.prog 227 #[.int .i64 b] w fun e w'=>e=.returned (.tuple #[if bad then .agg #[.int .i64 0,.int .i64 0,.int .i64 0] else .agg #[.int .i64 p,.int .i64 q,.int .i64 r],.int .i64 (if bad then 2 else 0)])∧Fr (fun _=>False) w w':=by
 have HPR:=fun W=>Hd (props_calls p q r W (by omega) (by omega) (by omega))
 rw[hbad] at HPR
 have h9:((b:Int)%9)=(p:Int):=by omega
 have h5:((b:Int)/9%5)=(q:Int):=by omega
 have h45:((b:Int)/45)=(r:Int):=by omega
 clear hp hq hr hbad
 have hx:=heap_alloc_new w (.cells #[.int .i64 0,.int .i64 0,.int .i64 0] 24)
 have hf0:=(R0 w).alloc (.cells #[.int .i64 0,.int .i64 0,.int .i64 0] 24)
 have hy:=heap_alloc_new (w.alloc (.cells #[.int .i64 0,.int .i64 0,.int .i64 0] 24)) (.cells #[.int .i64 p,.int .i64 q,.int .i64 r] 24)
 have hf1:=(R0 (w.alloc (.cells #[.int .i64 0,.int .i64 0,.int .i64 0] 24))).alloc (.cells #[.int .i64 p,.int .i64 q,.int .i64 r] 24)
 have hx1:=hf1.keep hx (fun h=>h)
 simp only[World.size_alloc] at hy
 have HX:=Hd hx1
 have HY:=Hd hy
 have HF:=Hd (hf0.trans hf1)
 clear hx hx1 hy hf0 hf1
 go_enter Tryz.func227,Tryz.ntmps227
 cases bad with
 |true=>
   go_wp2_with fail
   refine(HPR _).out.mono ?_
   rintro e w2 ⟨⟨x,rfl⟩,hfr⟩
   have hx2:=hfr.keep HX.out (fun h=>h)
   obtain⟨z0,z1,z2,zf⟩:=cf3 hx2 rfl rfl rfl
   have HF2:=Hd (HF.out.trans hfr)
   clear hfr hx2
   go_wp2_with fail
   refine bodyPost_ret (v:=.tuple #[.agg #[.int .i64 0,.int .i64 0,.int .i64 0],.int .i64 2]) (by simp[results,Tryz.results227,go_sem,z0,z1,z2]) rfl ?_
   refine⟨rfl,?_⟩
   repeat refine Fr.setCell ?_ (.inr (by simp)) _
   exact HF2.out
 |false=>
   go_wp2_with fail
   refine(HPR _).out.mono ?_
   rintro e w2 ⟨⟨x,rfl⟩,hfr⟩
   have hx2:=hfr.keep HX.out (fun h=>h)
   have hy2:=hfr.keep HY.out (fun h=>h)
   obtain⟨z0,z1,z2⟩:=cs3 hx2 rfl rfl rfl
   obtain⟨y0,y1,y2⟩:=cs3 hy2 rfl rfl rfl
   have zf:=fun i=>frozen_in hx2 i
   have HF2:=Hd (HF.out.trans hfr)
   clear hfr hx2 hy2
   go_wp2_with fail
   refine bodyPost_ret (v:=.tuple #[.agg #[.int .i64 p,.int .i64 q,.int .i64 r],.int .i64 0]) (by simp[results,Tryz.results227,go_sem,z0,z1,z2]) rfl ?_
   refine⟨rfl,?_⟩
   repeat refine Fr.setCell ?_ (.inr (by simp)) _
   exact HF2.out
end St
end Go.Proofs.YtffoddpjfgjelaaGreatDoor
