/- Part 20 of 55: lemmas of the last part, each under the conditions that it names. -/
import Derived.Test.YtlgccpjccopdmaaGreatDoorP13
import Derived.Test.YtlgccpjccopdmaaGreatDoorP19
set_option linter.unusedVariables false
set_option linter.unusedSimpArgs false
set_option maxRecDepth 1500
set_option maxHeartbeats 1000000
namespace Go.Proofs.YtlgccpjccopdmaaGreatDoor
open Go.RowKit
namespace En
open Mem Rc Win Lz St
structure XCells(w:World)(l:XL)(x:Xe):Prop where
 d0:w.cell? ⟨l.D,0,none⟩=some (ptr l.T)
 d1:w.cell? ⟨l.D,1,none⟩=some (ptr l.W)
 d2:w.cell? ⟨l.D,2,none⟩=some (ptr l.E)
 t0:w.cell? ⟨l.T,0,none⟩=some (.int .i64 x.c.lc)
 t1:w.cell? ⟨l.T,1,none⟩=some (.int .i64 x.c.lp)
 t2:w.cell? ⟨l.T,2,none⟩=some (.int .i64 x.c.pb)
 t3:w.cell? ⟨l.T,3,none⟩=some (.int .i64 x.c.s.num)
 t4:w.cell? ⟨l.T,4,none⟩=some (.int .i64 x.c.s.r0)
 t5:w.cell? ⟨l.T,5,none⟩=some (.int .i64 x.c.s.r1)
 t6:w.cell? ⟨l.T,6,none⟩=some (.int .i64 x.c.s.r2)
 t7:w.cell? ⟨l.T,7,none⟩=some (.int .i64 x.c.s.r3)
 row:∀j,j<18→w.cell? ⟨l.T,8+j,none⟩=some (ptr (l.b j))
theorem XAt.cells{w:World}{l:XL}{x:Xe}(h:XAt w l x):XCells w l x:=by
 refine⟨cell_in h.d rfl,cell_in h.d rfl,cell_in h.d rfl,cell_in h.tab.box rfl,cell_in h.tab.box rfl,cell_in h.tab.box rfl,cell_in h.tab.box rfl,cell_in h.tab.box rfl,cell_in h.tab.box rfl,cell_in h.tab.box rfl,cell_in h.tab.box rfl,fun j hj=>cell_in h.tab.box ?_⟩
 have:∀j,j<18→(tabV x.c.lc x.c.lp x.c.pb x.c.s l.b)[8+j]? =some (ptr (l.b j)):=by
  intro j hj
  match j,hj with
  |0,_|1,_|2,_|3,_|4,_|5,_|6,_|7,_|8,_|9,_|10,_|11,_|12,_|13,_|14,_|15,_|16,_|17,_=>rfl
  |n+18,h=>omega
 exact this j hj
theorem XAt.drewN{w:World}{l:XL}{x:Xe}(h:XAt w l x)(n:Nat):XAt (w.drewN n) l x:=h.keep ((Fr.refl _ _).drewN n)
theorem XAt.pos{w:World}{l:XL}{x:Xe}(h:XAt w l x)(m:Nat):Calls Tryz.prog 168 #[ptr l.W] (w.drewN m) fun e w'=>e=.returned (.int .i64 x.c.all.length)∧w.drewN m=w':=
 Win.pos_calls l.W x.c.size l.t l.rv x.c.all l.ring _ (h.drewN m).win
theorem XAt.placeC{w:World}{l:XL}{x:Xe}(h:XAt w l x)(m:Nat):Calls Tryz.prog 205 #[ptr l.T,.int .i64 x.c.all.length] (w.drewN m) fun e w'=>e=.returned (.int .i64 x.c.place)∧w.drewN m=w':=
 place_calls l.T x.c.all.length x.c.pb _ (h.drewN m).cells.t2 h.ok.c.pb (by have:=h.win.much;omega)
abbrev iV(E:Nat):Value:=.iface 211 (sinkV E)
theorem ops_ops(x:Xe)(o p:List Op):(x.ops o).ops p=x.ops (o++p):=by unfold Xe.ops;rw[Es.run_append]
theorem m_bit (k E : Nat) (w : World) : (method (k + 1) 211 (sinkV E) "pith/lzenc.bit").run Tryz.prog w = .ok (286, sinkV E) w := by kernel_rfl
theorem m_tree (k E : Nat) (w : World) : (method (k + 1) 211 (sinkV E) "pith/lzenc.tree").run Tryz.prog w = .ok (288, sinkV E) w := by kernel_rfl
theorem m_back (k E : Nat) (w : World) : (method (k + 1) 211 (sinkV E) "pith/lzenc.back").run Tryz.prog w = .ok (285, sinkV E) w := by kernel_rfl
theorem m_direct (k E : Nat) (w : World) : (method (k + 1) 211 (sinkV E) "pith/lzenc.direct").run Tryz.prog w = .ok (287, sinkV E) w := by kernel_rfl
theorem na_bit (k E : Nat) (w : World) : (nilAhead (k + 1) 211 (sinkV E) "pith/lzenc.bit").run Tryz.prog w = .ok (some false) w := by kernel_rfl
theorem na_tree (k E : Nat) (w : World) : (nilAhead (k + 1) 211 (sinkV E) "pith/lzenc.tree").run Tryz.prog w = .ok (some false) w := by kernel_rfl
theorem na_back (k E : Nat) (w : World) : (nilAhead (k + 1) 211 (sinkV E) "pith/lzenc.back").run Tryz.prog w = .ok (some false) w := by kernel_rfl
set_option maxRecDepth 4000 in
theorem length_calls{w:World}{l:XL}{x:Xe}(h:XAt w l x)(hp:XSep l){q n:Nat}(hq:q=7∨q=11)(h1:2≤n)(h2:n≤273)(hs:x.e.k.s≤1099511620000):
 Calls Tryz.prog 170 #[ptr l.D,iV l.E,.agg #[ptr (l.b q),ptr (l.b (q+1)),ptr (l.b (q+2)),ptr (l.b (q+3))],.int .i64 n] w (SPost l w (x.ops (lenOps x.c q n))):=by
 have hf:=(Fr.refl (fun _=>False) w).alloc (.cells #[ptr (l.b q),ptr (l.b (q+1)),ptr (l.b (q+2)),ptr (l.b (q+3))] 185)
 have hx:=heap_alloc_new w (.cells #[ptr (l.b q),ptr (l.b (q+1)),ptr (l.b (q+2)),ptr (l.b (q+3))] 185)
 have hA:=h.keep hf
 have HF:=Hd hf
 have HSP:=Hd hp
 clear h hp hf
 have hpl:=place_lt x.c hA.ok.c
 obtain⟨a8,ha8⟩:∃a,a=8*x.c.place:=⟨_,rfl⟩
 have hw8:8*(x.c.place:Int)=(a8:Int):=by omega
 have ha8l:a8+8≤128:=by omega
 have HL1:=Hd (show n<10→lenOps x.c q n=[.bit q 0 0]++treeOps false (q+1) a8 3 (n-2) 3 1 from fun k=>by unfold lenOps;rw[if_pos k,ha8])
 have HL2:=Hd (show¬n<10→n<18→lenOps x.c q n=[.bit q 0 1]++([.bit q 1 0]++treeOps false (q+2) a8 3 (n-10) 3 1) from fun k k2=>by unfold lenOps;rw[if_neg k,if_pos k2,ha8])
 have HL3:=Hd (show¬n<10→¬n<18→lenOps x.c q n=[.bit q 0 1]++([.bit q 1 1]++treeOps false (q+3) 0 8 (n-18) 8 1) from fun k k2=>by unfold lenOps;rw[if_neg k,if_neg k2])
 go_enter Tryz.func170,Tryz.ntmps170
 go_wp2_with fail
 generalize hW:w.alloc (.cells #[ptr (l.b q),ptr (l.b (q+1)),ptr (l.b (q+2)),ptr (l.b (q+3))] 185)=W at*
 have HPOS:=Hd hA.pos
 have HPL:=Hd hA.placeC
 have c0:=hA.cells.d0
 have c1:=hA.cells.d1
 have HX:=Hd hx
 have HA:=Hd hA
 clear hW hx hA ha8
 go_quiet (first|exact quiet_left (HPOS.out _)|exact quiet_left (HPL.out _))
 have hx1:=((Fr.refl (fun _=>False) W).drewN nq).keep HX.out (fun h=>h)
 have HX1:=Hd hx1
 have HA1:=Hd (HA.out.drewN nq)
 have HF1:=Hd (HF.out.drewN nq)
 clear HPOS HPL HX HA HF c0 c1
 generalize W.drewN nq=W1 at*
 have z0:=cell_in (i:=0) hx1 rfl
 clear hx1
 have hm1:=fun k=>m_bit k l.E
 have hm2:=fun k=>m_tree k l.E
 have HBX:=Hd (show∀(W:World)(l':XL)(x':Xe)(w':World),XAt W l' x'→W.heap[w.heap.size]? =some (.cells #[ptr (l.b q),ptr (l.b (q+1)),ptr (l.b (q+2)),ptr (l.b (q+3))] 185 (0,0))→Fr (XF l') W w'→w'.heap[w.heap.size]? =some (.cells #[ptr (l.b q),ptr (l.b (q+1)),ptr (l.b (q+2)),ptr (l.b (q+3))] 185 (0,0)) from fun W l' x' w' ha hb hf=>hf.keep hb (ha.off hb (by decide) (by decide) (by decide)))
 have HFIN:=Hd (show∀(o:List Op)(w':World),lenOps x.c q n=o→XPost l W1 (x.ops o) w'→XPost l w (x.ops (lenOps x.c q n)) w' from fun o w' e hp=>by rw[e];exact XPost.box HF1.out hp)
 have HBIT:=Hd (show∀(i c:Nat),i<2→c≤1→Op.Ok x.c.lc x.c.lp (.bit q i c) from fun i c hi hc=>⟨by omega,by rcases hq with rfl|rfl<;>exact hi,hc⟩)
 by_cases k1:n<10
 ·have d1:decide ((n:Int)-2<8)=true:=decide_eq_true (by omega)
  have e2:(n:Int)-2=((n-2:Nat):Int):=by omega
  have hc:=cbit_calls HA1.out HSP.out (HBIT.out 0 0 (by omega) (by omega)) (by omega)
  have HC:=Hd hc
  have HL:=Hd (HL1.out k1)
  have E2:=Hd e2
  clear hc e2
  go_wp2_with fail
  refine HC.out.mono ?_
  rintro e w2 ⟨rfl,f2,v2,a2,s2,n2⟩
  have hx2:=HBX.out _ _ _ _ HA1.out HX1.out f2
  have z1:=cell_in (i:=1) hx2 rfl
  have HT:=Hd (ctree_calls (j:=q+1) (a:=a8) (n:=3) (v:=n-2) a2 s2 (by omega) (by omega) (by omega) (by rcases hq with rfl|rfl<;>exact ha8l) (by have:=run_s [.bit q 0 0] x.e;simp only[List.length_singleton] at this;exact Nat.le_trans this (by omega)))
  rw[←E2.out] at HT
  have HF2:=Hd f2
  have HN2:=Hd n2
  clear f2 a2 s2 n2 hx2 z0
  go_wp2_with fail
  refine HT.out.mono ?_
  rintro e w3 ⟨rfl,hp⟩
  have HP:=Hd (HFIN.out _ w3 HL.out (by rw[←ops_ops];exact XPost.trans HF2.out HN2.out hp))
  clear hp
  go_wp2_with fail
  go_end0
  exact⟨rfl,HP.out⟩
 have c1:=cbit_calls HA1.out HSP.out (HBIT.out 0 1 (by omega) (by omega)) (by omega)
 have HC:=Hd c1
 have d1:decide ((n:Int)-2<8)=false:=decide_eq_false (by omega)
 clear c1
 by_cases k2:n<18
 ·have d2:decide ((n:Int)-2<16)=true:=decide_eq_true (by omega)
  have HL:=Hd (HL2.out k1 k2)
  go_wp2_with fail
  refine HC.out.mono ?_
  rintro e w2 ⟨rfl,f2,v2,a2,s2,n2⟩
  have hx2:=HBX.out _ _ _ _ HA1.out HX1.out f2
  have z1:=cell_in (i:=0) hx2 rfl
  have hu:=run_s [.bit q 0 1] x.e
  simp only[List.length_singleton] at hu
  have HU:=Hd hu
  have HC3:=Hd (cbit_calls a2 s2 (HBIT.out 1 0 (by omega) (by omega)) (Nat.le_trans hu (by omega)))
  have HF2:=Hd f2
  have HN2:=Hd n2
  have HA2:=Hd a2
  have HX2:=Hd hx2
  clear f2 a2 s2 n2 hx2 z0 hu
  go_wp2_with fail
  refine HC3.out.mono ?_
  rintro e w3 ⟨rfl,f3,v3,a3,s3,n3⟩
  have hx3:=HBX.out _ _ _ _ HA2.out HX2.out f3
  have z2:=cell_in (i:=2) hx3 rfl
  have hu:=run_s [.bit q 1 0] (x.e.run [.bit q 0 1])
  simp only[List.length_singleton] at hu
  have ht:=ctree_calls (j:=q+2) (a:=a8) (n:=3) (v:=n-10) a3 s3 (by omega) (by omega) (by omega) (by rcases hq with rfl|rfl<;>exact ha8l) (Nat.le_trans hu (by have:=HU.out;omega))
  have e2:((n-10:Nat):Int)=(n:Int)-2-8:=by omega
  rw[e2] at ht
  have HT:=Hd ht
  have HF3:=Hd f3
  have HN3:=Hd n3
  clear f3 a3 s3 n3 hx3 z1 hu ht e2
  go_wp2_with fail
  refine HT.out.mono ?_
  rintro e w4 ⟨rfl,hp⟩
  have HP:=Hd (HFIN.out _ w4 HL.out (by rw[←ops_ops,←ops_ops];exact XPost.trans HF2.out HN2.out (XPost.trans HF3.out HN3.out hp)))
  clear hp
  go_wp2_with fail
  go_end0
  exact⟨rfl,HP.out⟩
 ·have d2:decide ((n:Int)-2<16)=false:=decide_eq_false (by omega)
  have HL:=Hd (HL3.out k1 k2)
  go_wp2_with fail
  refine HC.out.mono ?_
  rintro e w2 ⟨rfl,f2,v2,a2,s2,n2⟩
  have hx2:=HBX.out _ _ _ _ HA1.out HX1.out f2
  have z1:=cell_in (i:=0) hx2 rfl
  have hu:=run_s [.bit q 0 1] x.e
  simp only[List.length_singleton] at hu
  have HU:=Hd hu
  have HC3:=Hd (cbit_calls a2 s2 (HBIT.out 1 1 (by omega) (by omega)) (Nat.le_trans hu (by omega)))
  have HF2:=Hd f2
  have HN2:=Hd n2
  have HA2:=Hd a2
  have HX2:=Hd hx2
  clear f2 a2 s2 n2 hx2 z0 hu
  go_wp2_with fail
  refine HC3.out.mono ?_
  rintro e w3 ⟨rfl,f3,v3,a3,s3,n3⟩
  have hx3:=HBX.out _ _ _ _ HA2.out HX2.out f3
  have z2:=cell_in (i:=3) hx3 rfl
  have hu:=run_s [.bit q 1 1] (x.e.run [.bit q 0 1])
  simp only[List.length_singleton] at hu
  have ht:=ctree_calls (j:=q+3) (a:=0) (n:=8) (v:=n-18) a3 s3 (by omega) (by omega) (by omega) (by rcases hq with rfl|rfl<;>exact(show 0+2^8≤256 by decide)) (Nat.le_trans hu (by have:=HU.out;omega))
  have e2:((n-18:Nat):Int)=(n:Int)-2-16:=by omega
  rw[e2] at ht
  have HT:=Hd ht
  have HF3:=Hd f3
  have HN3:=Hd n3
  clear f3 a3 s3 n3 hx3 z1 hu ht e2
  go_wp2_with fail
  refine HT.out.mono ?_
  rintro e w4 ⟨rfl,hp⟩
  have HP:=Hd (HFIN.out _ w4 HL.out (by rw[←ops_ops,←ops_ops];exact XPost.trans HF2.out HN2.out (XPost.trans HF3.out HN3.out hp)))
  clear hp
  go_wp2_with fail
  go_end0
  exact⟨rfl,HP.out⟩
end En
end Go.Proofs.YtlgccpjccopdmaaGreatDoor
