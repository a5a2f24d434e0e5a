/- Part 34 of 48: lemmas of the last part, each under the conditions that it names. -/
import Derived.Test.YtffoddpjfgjelaaGreatDoorQ04
import Derived.Test.YtffoddpjfgjelaaGreatDoorQ05
import Derived.Test.YtffoddpjfgjelaaGreatDoorQ14
import Derived.Test.YtffoddpjfgjelaaGreatDoorQ28
import Derived.Test.YtffoddpjfgjelaaGreatDoorQ32
import Derived.Test.YtffoddpjfgjelaaGreatDoorQ33
set_option linter.unusedVariables false
set_option linter.unusedSimpArgs false
set_option maxRecDepth 1500
set_option maxHeartbeats 2000000
namespace Go.Proofs.YtffoddpjfgjelaaGreatDoor
open Go.RowKit
namespace En
open Mem Rc Win Lz St
structure XCells(w:World)(l:XL)(x:Xe):Prop where
 d0:w.cell? ⟨l.D,0,none⟩=some (ptr l.T)
 d1:w.cell? ⟨l.D,1,none⟩=some (ptr l.W)
 d2:w.cell? ⟨l.D,2,none⟩=some (ptr l.E)
 t0:w.cell? ⟨l.T,0,none⟩=some (.int .i64 x.c.lc)
 t1:w.cell? ⟨l.T,1,none⟩=some (.int .i64 x.c.lp)
 t2:w.cell? ⟨l.T,2,none⟩=some (.int .i64 x.c.pb)
 t3:w.cell? ⟨l.T,3,none⟩=some (.int .i64 x.c.s.num)
 t4:w.cell? ⟨l.T,4,none⟩=some (.int .i64 x.c.s.r0)
 t5:w.cell? ⟨l.T,5,none⟩=some (.int .i64 x.c.s.r1)
 t6:w.cell? ⟨l.T,6,none⟩=some (.int .i64 x.c.s.r2)
 t7:w.cell? ⟨l.T,7,none⟩=some (.int .i64 x.c.s.r3)
 row:∀j,j<18→w.cell? ⟨l.T,8+j,none⟩=some (ptr (l.b j))
theorem XAt.cells{w:World}{l:XL}{x:Xe}(h:XAt w l x):XCells w l x:=by
 refine⟨cell_in h.d rfl,cell_in h.d rfl,cell_in h.d rfl,cell_in h.tab.box rfl,cell_in h.tab.box rfl,cell_in h.tab.box rfl,cell_in h.tab.box rfl,cell_in h.tab.box rfl,cell_in h.tab.box rfl,cell_in h.tab.box rfl,cell_in h.tab.box rfl,fun j hj=>cell_in h.tab.box ?_⟩
 have:∀j,j<18→(tabV x.c.lc x.c.lp x.c.pb x.c.s l.b)[8+j]? =some (ptr (l.b j)):=by
  intro j hj
  match j,hj with
  |0,_|1,_|2,_|3,_|4,_|5,_|6,_|7,_|8,_|9,_|10,_|11,_|12,_|13,_|14,_|15,_|16,_|17,_=>rfl
  |n+18,h=>omega
 exact this j hj
theorem XAt.drewN{w:World}{l:XL}{x:Xe}(h:XAt w l x)(n:Nat):XAt (w.drewN n) l x:=h.keep ((Fr.refl _ _).drewN n)
theorem XAt.pos{w:World}{l:XL}{x:Xe}(h:XAt w l x)(m:Nat):Calls Tryz.prog 193 #[ptr l.W] (w.drewN m) fun e w'=>e=.returned (.int .i64 x.c.all.length)∧w.drewN m=w':=
 Win.pos_calls l.W x.c.size l.t l.rv x.c.all l.ring _ (h.drewN m).win
theorem XAt.placeC{w:World}{l:XL}{x:Xe}(h:XAt w l x)(m:Nat):Calls Tryz.prog 240 #[ptr l.T,.int .i64 x.c.all.length] (w.drewN m) fun e w'=>e=.returned (.int .i64 x.c.place)∧w.drewN m=w':=
 place_calls l.T x.c.all.length x.c.pb _ (h.drewN m).cells.t2 h.ok.c.pb (by have:=h.win.much;omega)
abbrev iV(E:Nat):Value:=.iface 242 (sinkV E)
theorem ops_ops(x:Xe)(o p:List Op):(x.ops o).ops p=x.ops (o++p):=by unfold Xe.ops;rw[Es.run_append]
theorem m_bit (k E : Nat) (w : World) : (method (k + 1) 242 (sinkV E) "pith/lzenc.bit").run Tryz.prog w = .ok (339, sinkV E) w := by kernel_rfl
theorem m_tree (k E : Nat) (w : World) : (method (k + 1) 242 (sinkV E) "pith/lzenc.tree").run Tryz.prog w = .ok (341, sinkV E) w := by kernel_rfl
theorem m_back (k E : Nat) (w : World) : (method (k + 1) 242 (sinkV E) "pith/lzenc.back").run Tryz.prog w = .ok (338, sinkV E) w := by kernel_rfl
theorem m_direct (k E : Nat) (w : World) : (method (k + 1) 242 (sinkV E) "pith/lzenc.direct").run Tryz.prog w = .ok (340, sinkV E) w := by kernel_rfl
theorem na_bit (k E : Nat) (w : World) : (nilAhead (k + 1) 242 (sinkV E) "pith/lzenc.bit").run Tryz.prog w = .ok (some false) w := by kernel_rfl
theorem na_tree (k E : Nat) (w : World) : (nilAhead (k + 1) 242 (sinkV E) "pith/lzenc.tree").run Tryz.prog w = .ok (some false) w := by kernel_rfl
theorem na_back (k E : Nat) (w : World) : (nilAhead (k + 1) 242 (sinkV E) "pith/lzenc.back").run Tryz.prog w = .ok (some false) w := by kernel_rfl
set_option maxRecDepth 4000 in
theorem length_calls{w:World}{l:XL}{x:Xe}(h:XAt w l x)(hp:XSep l){q n:Nat}(hq:q=7∨q=11)(h1:2≤n)(h2:n≤273)(hs:x.e.k.s≤1099511620000):
 Calls Tryz.prog 195 #[ptr l.D,iV l.E,.agg #[ptr (l.b q),ptr (l.b (q+1)),ptr (l.b (q+2)),ptr (l.b (q+3))],.int .i64 n] w (SPost l w (x.ops (lenOps x.c q n))):=by
 have hf:=(R0 w).alloc (.cells #[ptr (l.b q),ptr (l.b (q+1)),ptr (l.b (q+2)),ptr (l.b (q+3))] 214)
 have hx:=heap_alloc_new w (.cells #[ptr (l.b q),ptr (l.b (q+1)),ptr (l.b (q+2)),ptr (l.b (q+3))] 214)
 have hA:=h.keep hf
 have HF:=Hd hf
 have HSP:=Hd hp
 clear h hp hf
 have hpl:=place_lt x.c hA.ok.c
 obtain⟨a8,ha8⟩:∃a,a=8*x.c.place:=⟨_,rfl⟩
 have hw8:8*(x.c.place:Int)=(a8:Int):=by omega
 have ha8l:a8+8≤128:=by omega
 have HL1:=Hd (show n<10→lenOps x.c q n=[.bit q 0 0]++treeOps false (q+1) a8 3 (n-2) 3 1 from fun k=>by unfold lenOps;rw[if_pos k,ha8])
 have HL2:=Hd (show¬n<10→n<18→lenOps x.c q n=[.bit q 0 1]++([.bit q 1 0]++treeOps false (q+2) a8 3 (n-10) 3 1) from fun k k2=>by unfold lenOps;rw[if_neg k,if_pos k2,ha8])
 have HL3:=Hd (show¬n<10→¬n<18→lenOps x.c q n=[.bit q 0 1]++([.bit q 1 1]++treeOps false (q+3) 0 8 (n-18) 8 1) from fun k k2=>by unfold lenOps;rw[if_neg k,if_neg k2])
 go_enter Tryz.func195,Tryz.ntmps195
 go_wp2_with fail
 generalize hW:w.alloc (.cells #[ptr (l.b q),ptr (l.b (q+1)),ptr (l.b (q+2)),ptr (l.b (q+3))] 214)=W at*
 have HPOS:=Hd hA.pos
 have HPL:=Hd hA.placeC
 have c0:=hA.cells.d0
 have c1:=hA.cells.d1
 have HX:=Hd hx
 have HA:=Hd hA
 clear hW hx hA ha8
 go_quiet (first|exact quiet_left (HPOS.out _)|exact quiet_left (HPL.out _))
 have hx1:=((R0 W).drewN nq).keep HX.out (fun h=>h)
 have HX1:=Hd hx1
 have HA1:=Hd (HA.out.drewN nq)
 have HF1:=Hd (HF.out.drewN nq)
 clear HPOS HPL HX HA HF c0 c1
 generalize W.drewN nq=W1 at*
 have z0:=cell_in (i:=0) hx1 rfl
 clear hx1
 have hm1:=fun k=>m_bit k l.E
 have hm2:=fun k=>m_tree k l.E
 have HBX:=Hd (show∀(W:World)(l':XL)(x':Xe)(w':World),XAt W l' x'→W.heap[w.heap.size]? =some (.cells #[ptr (l.b q),ptr (l.b (q+1)),ptr (l.b (q+2)),ptr (l.b (q+3))] 214 (0,0))→Fr (XF l') W w'→w'.heap[w.heap.size]? =some (.cells #[ptr (l.b q),ptr (l.b (q+1)),ptr (l.b (q+2)),ptr (l.b (q+3))] 214 (0,0)) from fun W l' x' w' ha hb hf=>hf.keep hb (ha.off hb (by decide) (by decide) (by decide)))
 have HFIN:=Hd (show∀(o:List Op)(w':World),lenOps x.c q n=o→XPost l W1 (x.ops o) w'→XPost l w (x.ops (lenOps x.c q n)) w' from fun o w' e hp=>by rw[e];exact XPost.box HF1.out hp)
 have HBIT:=Hd (show∀(i c:Nat),i<2→c≤1→Op.Ok x.c.lc x.c.lp (.bit q i c) from fun i c hi hc=>⟨by omega,by rcases hq with rfl|rfl<;>exact hi,hc⟩)
 by_cases k1:n<10
 ·have d1:decide ((n:Int)-2<8)=true:=decide_eq_true (by omega)
  have e2:(n:Int)-2=((n-2:Nat):Int):=by omega
  have hc:=cbit_calls HA1.out HSP.out (HBIT.out 0 0 (by omega) (by omega)) (by omega)
  have HC:=Hd hc
  have HL:=Hd (HL1.out k1)
  have E2:=Hd e2
  clear hc e2
  go_wp2_with fail
  refine HC.out.mono ?_
  rintro e w2 ⟨rfl,f2,v2,a2,s2,n2⟩
  have hx2:=HBX.out _ _ _ _ HA1.out HX1.out f2
  have z1:=cell_in (i:=1) hx2 rfl
  have HT:=Hd (ctree_calls (j:=q+1) (a:=a8) (n:=3) (v:=n-2) a2 s2 (by omega) (by omega) (by omega) (by rcases hq with rfl|rfl<;>exact ha8l) (by have:=run_s [.bit q 0 0] x.e;simp only[List.length_singleton] at this;exact Nat.le_trans this (by omega)))
  rw[←E2.out] at HT
  have HF2:=Hd f2
  have HN2:=Hd n2
  clear f2 a2 s2 n2 hx2 z0
  go_wp2_with fail
  refine HT.out.mono ?_
  rintro e w3 ⟨rfl,hp⟩
  have HP:=Hd (HFIN.out _ w3 HL.out (by rw[←ops_ops];exact XPost.trans HF2.out HN2.out hp))
  clear hp
  go_wp2_with fail
  go_end0
  exact⟨rfl,HP.out⟩
 have c1:=cbit_calls HA1.out HSP.out (HBIT.out 0 1 (by omega) (by omega)) (by omega)
 have HC:=Hd c1
 have d1:decide ((n:Int)-2<8)=false:=decide_eq_false (by omega)
 clear c1
 by_cases k2:n<18
 ·have d2:decide ((n:Int)-2<16)=true:=decide_eq_true (by omega)
  have HL:=Hd (HL2.out k1 k2)
  go_wp2_with fail
  refine HC.out.mono ?_
  rintro e w2 ⟨rfl,f2,v2,a2,s2,n2⟩
  have hx2:=HBX.out _ _ _ _ HA1.out HX1.out f2
  have z1:=cell_in (i:=0) hx2 rfl
  have hu:=run_s [.bit q 0 1] x.e
  simp only[List.length_singleton] at hu
  have HU:=Hd hu
  have HC3:=Hd (cbit_calls a2 s2 (HBIT.out 1 0 (by omega) (by omega)) (Nat.le_trans hu (by omega)))
  have HF2:=Hd f2
  have HN2:=Hd n2
  have HA2:=Hd a2
  have HX2:=Hd hx2
  clear f2 a2 s2 n2 hx2 z0 hu
  go_wp2_with fail
  refine HC3.out.mono ?_
  rintro e w3 ⟨rfl,f3,v3,a3,s3,n3⟩
  have hx3:=HBX.out _ _ _ _ HA2.out HX2.out f3
  have z2:=cell_in (i:=2) hx3 rfl
  have hu:=run_s [.bit q 1 0] (x.e.run [.bit q 0 1])
  simp only[List.length_singleton] at hu
  have ht:=ctree_calls (j:=q+2) (a:=a8) (n:=3) (v:=n-10) a3 s3 (by omega) (by omega) (by omega) (by rcases hq with rfl|rfl<;>exact ha8l) (Nat.le_trans hu (by have:=HU.out;omega))
  have e2:((n-10:Nat):Int)=(n:Int)-2-8:=by omega
  rw[e2] at ht
  have HT:=Hd ht
  have HF3:=Hd f3
  have HN3:=Hd n3
  clear f3 a3 s3 n3 hx3 z1 hu ht e2
  go_wp2_with fail
  refine HT.out.mono ?_
  rintro e w4 ⟨rfl,hp⟩
  have HP:=Hd (HFIN.out _ w4 HL.out (by rw[←ops_ops,←ops_ops];exact XPost.trans HF2.out HN2.out (XPost.trans HF3.out HN3.out hp)))
  clear hp
  go_wp2_with fail
  go_end0
  exact⟨rfl,HP.out⟩
 ·have d2:decide ((n:Int)-2<16)=false:=decide_eq_false (by omega)
  have HL:=Hd (HL3.out k1 k2)
  go_wp2_with fail
  refine HC.out.mono ?_
  rintro e w2 ⟨rfl,f2,v2,a2,s2,n2⟩
  have hx2:=HBX.out _ _ _ _ HA1.out HX1.out f2
  have z1:=cell_in (i:=0) hx2 rfl
  have hu:=run_s [.bit q 0 1] x.e
  simp only[List.length_singleton] at hu
  have HU:=Hd hu
  have HC3:=Hd (cbit_calls a2 s2 (HBIT.out 1 1 (by omega) (by omega)) (Nat.le_trans hu (by omega)))
  have HF2:=Hd f2
  have HN2:=Hd n2
  have HA2:=Hd a2
  have HX2:=Hd hx2
  clear f2 a2 s2 n2 hx2 z0 hu
  go_wp2_with fail
  refine HC3.out.mono ?_
  rintro e w3 ⟨rfl,f3,v3,a3,s3,n3⟩
  have hx3:=HBX.out _ _ _ _ HA2.out HX2.out f3
  have z2:=cell_in (i:=3) hx3 rfl
  have hu:=run_s [.bit q 1 1] (x.e.run [.bit q 0 1])
  simp only[List.length_singleton] at hu
  have ht:=ctree_calls (j:=q+3) (a:=0) (n:=8) (v:=n-18) a3 s3 (by omega) (by omega) (by omega) (by rcases hq with rfl|rfl<;>exact(show 0+2^8≤256 by decide)) (Nat.le_trans hu (by have:=HU.out;omega))
  have e2:((n-18:Nat):Int)=(n:Int)-2-16:=by omega
  rw[e2] at ht
  have HT:=Hd ht
  have HF3:=Hd f3
  have HN3:=Hd n3
  clear f3 a3 s3 n3 hx3 z1 hu ht e2
  go_wp2_with fail
  refine HT.out.mono ?_
  rintro e w4 ⟨rfl,hp⟩
  have HP:=Hd (HFIN.out _ w4 HL.out (by rw[←ops_ops,←ops_ops];exact XPost.trans HF2.out HN2.out (XPost.trans HF3.out HN3.out hp)))
  clear hp
  go_wp2_with fail
  go_end0
  exact⟨rfl,HP.out⟩
end En
namespace Wire
open Mem Win
structure Wr(w0 w:World)(B:Nat)(v:Value)(bs:List UInt8):Prop where
 box:w.heap[B]? =some (.cells #[.int .i64 bs.length,v] 300 (0,0))
 own:Mine w0 w v bs
 new:w0.heap.size≤B
 apart:∀k,v.ownBlock=some k→k≠B
theorem onT_calls(B n k:Nat)(v:Value)(T:TypeId)(w:World)(h:w.heap[B]? =some (.cells #[.int .i64 n,v] T (0,0)))(hk:n+k≤9223372036854775807):
 Calls Tryz.prog 175 #[.pointer (some ⟨B,0,none⟩),.int .i64 k] w fun e w'=>e=.returned (.tuple #[])∧Fr (fun k=>k=B) w w'∧w'.heap[B]? =some (.cells #[.int .i64 ((n+k:Nat):Int),v] T (0,0)):=by
 have c0:w.cell? ⟨B,0,none⟩=some (.int .i64 n):=cell_in h rfl
 have f0:=frozen_in h 0
 have hw:IntKind.i64.wrap ((n:Int)+k)=((n+k:Nat):Int):=by rw[IntWalk.i64_in _ (by omega)];omega
 have H:=Hd h
 clear h
 generalize n+k=nk at*
 go_enter Tryz.func175,Tryz.ntmps175
 go_wp2_with fail
 go_end0
 exact⟨rfl,Fr.one _ _ _ _,by rw[set_in H.out 0];rfl⟩
theorem newWriter_calls(w:World):Calls Tryz.prog 115 #[] w fun e w'=>e=.returned (.pointer (some ⟨w.heap.size,0,none⟩))∧Fr (fun _=>False) w w'∧Wr w w' w.heap.size (.slice none 0 0) []:=by
 go_enter Tryz.func115,Tryz.ntmps115
 go_wp2_with fail
 go_ret
 exact⟨rfl,(Fr.refl _ w).alloc _,heap_alloc_new w _,Mine.nil _ _,Nat.le_refl _,fun k hk=>by simp[Value.ownBlock] at hk⟩
theorem Wr.on{w0 w w2 w3:World}{B:Nat}{v v2:Value}{bs bs2:List UInt8}(h:Wr w0 w B v bs)(hle:w0.heap.size≤w.heap.size)(W:World)(hW:Fr (fun _=>False) w W)(hM:Mine w0 w2 v2 bs2)(hfr:Fr (fun k=>v.ownBlock=some k) W w2)(hnew:∀k,v2.ownBlock=some k→v.ownBlock=some k∨W.heap.size≤k)
 (hfr3:Fr (fun k=>k=B) (w2.setCell ⟨B,1,none⟩ v2) w3)(hb:w3.heap[B]? =some (.cells #[.int .i64 bs2.length,v2] 300 (0,0))):Wr w0 w3 B v2 bs2∧Fr (fun k=>w0.heap.size≤k) w w3:=by
 have hB:=lt_of_block h.box
 have hap:∀k,v2.ownBlock=some k→k≠B:=fun k hk=>by
  rcases hnew k hk with h1|h1
  ·exact h.apart k h1
  ·have:=hW.size
   omega
 refine⟨⟨hb,(hM.step ((Fr.one w2 B 1 v2).trans hfr3) (fun k hk=>hap k hk)),h.new,hap⟩,?_⟩
 have hn:=h.new
 refine((hW.mono (fun _ _ h=>h.elim)).trans' hfr (fun k _ hk=>h.own.new k hk)).trans (((Fr.one w2 B 1 v2).trans hfr3).mono (fun k _ hk=> ?_))
 show w0.heap.size≤k
 omega
theorem add_calls{w0 w:World}(B:Nat)(v:Value)(bs:List UInt8)(c:UInt8)(x:Int)(hx:x=(c.toNat:Int))(h:Wr w0 w B v bs)(hle:w0.heap.size≤w.heap.size)(hn:bs.length≤1000000):
 Calls Tryz.prog 177 #[.pointer (some ⟨B,0,none⟩),.int .u8 x] w fun e w'=>e=.returned (.tuple #[])∧∃v',Wr w0 w' B v' (bs++[c])∧Fr (fun k=>w0.heap.size≤k) w w':=by
 obtain⟨p,cap,rfl⟩:=h.own.slice
 have c1:w.cell? ⟨B,1,none⟩=some (.slice p bs.length cap):=cell_in h.box rfl
 have HA:=Hd ((R0 w).alloc (.cells #[.int .u8 x] 5))
 have HRD:=Hd (rd_one w w.heap.size rfl c x hx)
 have HH:=Hd h
 have HLE:=Hd hle
 have HBX:=Hd (HA.out.keep h.box (fun h=>h))
 have HM:=Hd (h.own.keep HA.out)
 have HN:=Hd hn
 obtain⟨nb,hnb⟩:∃nb,nb=bs.length:=⟨_,rfl⟩
 have HNB:=Hd hnb
 rw[←hnb] at c1
 have HAP:=Hd (show∀k,(Value.slice p nb cap).ownBlock=some k→k≠B from fun k hk=>h.apart k (by rw[←hnb];exact hk))
 clear h hle hx hn hnb
 go_enter Tryz.func177,Tryz.ntmps177
 go_wp2_with (at_builtin;refine append_mine rfl _ _ rfl (w0:=w0) (.slice p nb cap) (.slice (some ⟨w.heap.size,0,none⟩) 1 1) bs [c] rfl rfl (by rw[HNB.out];exact HM.out) (Nat.le_trans HLE.out HA.out.size) HRD.out (by have:=HN.out;simp only[List.length_singleton];omega) ?_;intro p2 cap2 n2 w2 hn2 hM2 hfr2 hnew2;have hx2:=hfr2.keep HBX.out (fun h=>HAP.out B h rfl);have z1:=cell_in (i:=1) hx2 rfl;have zf:=frozen_in hx2 1;have HX2:=Hd hx2;have HM2:=Hd hM2;have HF2:=Hd hfr2;have HN2:=Hd hnew2;have HL2:=Hd hn2;clear hx2 hM2 hfr2 hnew2 hn2)
 have HON:=Hd (onT_calls B bs.length 1 (.slice p2 n2 cap2) 300 (w2.setCell ⟨B,1,none⟩ (.slice p2 n2 cap2)) (by rw[set_in HX2.out 1,←HNB.out];rfl) (by have:=HN.out;omega))
 go_wp2_with fail
 refine HON.out.mono ?_
 rintro e w3 ⟨rfl,hfr3,hb3⟩
 have KEY:=Hd (Wr.on HH.out HLE.out _ HA.out HM2.out (by have:=HF2.out;rw[HNB.out] at this;exact this) (by have:=HN2.out;rw[HNB.out] at this;exact this) hfr3 (by rw[List.length_append];exact hb3))
 clear hfr3 hb3
 go_wp2_with fail
 go_end0
 exact⟨rfl,_,KEY.out⟩
theorem wput_calls{w0 w:World}(B:Nat)(v:Value)(bs ys:List UInt8)(q:Option Addr)(n qc:Nat)(h:Wr w0 w B v bs)(hle:w0.heap.size≤w.heap.size)(hrd:Rd w (.slice q n qc) ys)(hn:bs.length+ys.length≤1000000)(hyn:ys.length=n):
 Calls Tryz.prog 116 #[.pointer (some ⟨B,0,none⟩),.slice q n qc] w fun e w'=>e=.returned (.tuple #[])∧∃v',Wr w0 w' B v' (bs++ys)∧Fr (fun k=>w0.heap.size≤k) w w':=by
 obtain⟨p,cap,rfl⟩:=h.own.slice
 have c1:w.cell? ⟨B,1,none⟩=some (.slice p bs.length cap):=cell_in h.box rfl
 have HRD:=Hd hrd
 have HH:=Hd h
 have HLE:=Hd hle
 have HN:=Hd hn
 have HYN:=Hd hyn
 obtain⟨nb,hnb⟩:∃nb,nb=bs.length:=⟨_,rfl⟩
 have HNB:=Hd hnb
 rw[←hnb] at c1
 have HAP:=Hd (show∀k,(Value.slice p nb cap).ownBlock=some k→k≠B from fun k hk=>h.apart k (by rw[←hnb];exact hk))
 clear h hle hn hnb hrd hyn
 go_enter Tryz.func116,Tryz.ntmps116
 go_wp2_with (at_builtin;refine append_mine rfl _ _ rfl (w0:=w0) (.slice p nb cap) (.slice q n qc) bs ys rfl rfl (by rw[HNB.out];exact HH.out.own) HLE.out HRD.out (by have:=HN.out;omega) ?_;intro p2 cap2 n2 w2 hn2 hM2 hfr2 hnew2;have hx2:=hfr2.keep HH.out.box (fun h=>HAP.out B h rfl);have z1:=cell_in (i:=1) hx2 rfl;have zf:=frozen_in hx2 1;have HX2:=Hd hx2;have HM2:=Hd hM2;have HF2:=Hd hfr2;have HN2:=Hd hnew2;have HL2:=Hd hn2;clear hx2 hM2 hfr2 hnew2 hn2)
 have HON:=Hd (onT_calls B bs.length n (.slice p2 n2 cap2) 300 (w2.setCell ⟨B,1,none⟩ (.slice p2 n2 cap2)) (by rw[set_in HX2.out 1];rfl) (by have:=HN.out;have:=HYN.out;omega))
 go_wp2_with fail
 refine HON.out.mono ?_
 rintro e w3 ⟨rfl,hfr3,hb3⟩
 have KEY:=Hd (Wr.on HH.out HLE.out _ (Fr.refl _ _) HM2.out (by have:=HF2.out;rw[HNB.out] at this;exact this) (by have:=HN2.out;rw[HNB.out] at this;exact this) hfr3 (by rw[List.length_append,HYN.out];exact hb3))
 clear hfr3 hb3
 go_wp2_with fail
 go_end0
 exact⟨rfl,_,KEY.out⟩
theorem bytes_calls{w0 w:World}(B:Nat)(v:Value)(bs:List UInt8)(h:Wr w0 w B v bs)(h0:0<bs.length)(hn:bs.length≤1000000):
    Calls Tryz.prog 118 #[.pointer (some ⟨B,0,none⟩)] w fun e w'=>Fr (fun _=>False) w w'∧∃p cap,e=.returned (.slice p bs.length cap)∧Mine w w' (.slice p bs.length cap) bs:=by
  obtain⟨p,cap,rfl⟩:=h.own.slice
  have hrd:=h.own.rd
  have c1:w.cell? ⟨B,1,none⟩=some (.slice p bs.length cap):=cell_in h.box rfl
  have hf1:=(R0 w).alloc (.cells (Array.replicate bs.length (.int .u8 0)) 5)
  have hx:=heap_alloc_new w (.cells (Array.replicate bs.length (.int .u8 0)) 5)
  have hmk:=make_u8 bs.length (by omega)
  have hown:(w.alloc (.cells (Array.replicate bs.length (.int .u8 0)) 5)).ownsRow 0 5 1 (.slice (some ⟨w.heap.size,0,none⟩) bs.length bs.length) bs.length (bvs (List.replicate bs.length 0)):=by
    refine own_row (g:=w.heap.size) ?_ (by simp[bvs]) (by simp only[maxLen];omega)
    rw[hx]
    simp[bvs,bv]
  have z1:(w.alloc (.cells (Array.replicate bs.length (.int .u8 0)) 5)).cell? ⟨B,1,none⟩=some (.slice p bs.length cap):=cell_in (hf1.keep h.box (fun h=>h)) rfl
  have HO:=Hd hown
  have HR:=Hd (hrd.keep hf1)
  have HF:=Hd hf1
  have hu:=Tryz.underlying22
  clear hrd hf1 hx hown h
  go_enter Tryz.func118,Tryz.ntmps118
  go_wp2_with (refine wpList_copy_any rfl (.tmp 10) (.tmp 14) 22 22 5 rfl hu sizeU8 (some ⟨w.heap.size,0,none⟩) bs.length bs.length 0 (List.replicate bs.length 0) 5 (by rw[dropP_zero];rfl) HO.out h0 p bs.length cap bs rfl HR.out h0 bs.length (by omega) ?_
               intro w2 hown2 hfr2
               have HO2:=Hd hown2
               have HF2:=Hd hfr2
               clear hown2 hfr2)
  go_ret
  have h1:=HO2.out
  simp only[List.take_zero,List.nil_append,Nat.zero_add] at h1
  rw[List.drop_of_length_le (by simp),List.append_nil,List.take_length] at h1
  refine⟨HF.out.trans' HF2.out (fun i hi h=> ?_),_,_,rfl,h1,fun k hk=>by simp only[Value.ownBlock,Option.some.injEq] at hk;omega⟩
  simp only[Value.ownBlock,Option.some.injEq] at h
  omega
end Wire
namespace Enc
open Mem Win
end Enc
namespace Enc
open Mem Win
theorem sized_raw(k n lc lp pb:Nat)(hk:k=1∨k=2)(w:World):Calls Tryz.prog 114 #[.agg #[.int .i64 k,.int .i64 n,.int .i64 n,.int .i64 lc,.int .i64 lp,.int .i64 pb]] w fun e w'=>e=.returned (.bool (decide (1≤n∧n≤65536)))∧Fr (fun _=>False) w w':=by
 have HF:=Hd ((R0 w).alloc (.cells #[.int .i64 k,.int .i64 n,.int .i64 n,.int .i64 lc,.int .i64 lp,.int .i64 pb] 47))
 have hx:=heap_alloc_new w (.cells #[.int .i64 k,.int .i64 n,.int .i64 n,.int .i64 lc,.int .i64 lp,.int .i64 pb] 47)
 obtain⟨z0,z1,z2⟩:=cs3 hx rfl rfl rfl
 clear hx
 generalize hq:decide (1≤n∧n≤65536)=q
 have HQ:=Hd hq
 clear hq
 have te:((n:Int)==(n:Int))=true:=by simp
 by_cases h1:1≤n
 ·have t1:decide ((n:Int)≥1)=true:=by simp;omega
  have t2:decide ((1:Int)≤n)=true:=by simp;omega
  by_cases h2:n≤65536
  ·have t3:decide ((n:Int)≤65536)=true:=by simp;omega
   rcases hk with rfl|rfl
   all_goals
    go_enter Tryz.func114,Tryz.ntmps114
    go_wp2_with fail
    go_ret
    exact⟨by rw[←HQ.out];simp[h1,h2],HF.out⟩
  ·have t3:decide ((n:Int)≤65536)=false:=by simp;omega
   rcases hk with rfl|rfl
   all_goals
    go_enter Tryz.func114,Tryz.ntmps114
    go_wp2_with fail
    go_ret
    exact⟨by rw[←HQ.out];simp[h1,h2],HF.out⟩
 ·have t1:decide ((n:Int)≥1)=false:=by simp;omega
  have t2:decide ((1:Int)≤n)=false:=by simp;omega
  rcases hk with rfl|rfl
  all_goals
   go_enter Tryz.func114,Tryz.ntmps114
   go_wp2_with fail
   go_ret
   exact⟨by rw[←HQ.out];simp[h1],HF.out⟩
theorem sized_packed(k n m lc lp pb:Nat)(hk:k=3∨k=4∨k=5∨k=6)(w:World):Calls Tryz.prog 114 #[.agg #[.int .i64 k,.int .i64 n,.int .i64 m,.int .i64 lc,.int .i64 lp,.int .i64 pb]] w fun e w'=>e=.returned (.bool (En.sizedP n m))∧Fr (fun _=>False) w w':=by
 have HF:=Hd ((R0 w).alloc (.cells #[.int .i64 k,.int .i64 n,.int .i64 m,.int .i64 lc,.int .i64 lp,.int .i64 pb] 47))
 have hx:=heap_alloc_new w (.cells #[.int .i64 k,.int .i64 n,.int .i64 m,.int .i64 lc,.int .i64 lp,.int .i64 pb] 47)
 obtain⟨z0,z1,z2⟩:=cs3 hx rfl rfl rfl
 clear hx
 generalize hq:En.sizedP n m=q
 unfold En.sizedP at hq
 have HQ:=Hd hq
 clear hq
 have c1:(1≤n∧decide ((n:Int)≥1)=true∧decide ((1:Int)≤n)=true)∨(¬1≤n∧decide ((n:Int)≥1)=false∧decide ((1:Int)≤n)=false):=by simp;omega
 have c2:(n≤2097152∧decide ((n:Int)≤2097152)=true)∨(¬n≤2097152∧decide ((n:Int)≤2097152)=false):=by simp;omega
 have c3:(1≤m∧decide ((m:Int)≥1)=true∧decide ((1:Int)≤m)=true)∨(¬1≤m∧decide ((m:Int)≥1)=false∧decide ((1:Int)≤m)=false):=by simp;omega
 have c4:(m≤65536∧decide ((m:Int)≤65536)=true)∨(¬m≤65536∧decide ((m:Int)≤65536)=false):=by simp;omega
 rcases hk with rfl|rfl|rfl|rfl
 all_goals
  rcases c1 with⟨h1,t1,t2⟩|⟨h1,t1,t2⟩
  ·rcases c2 with⟨h2,t3⟩|⟨h2,t3⟩
   ·rcases c3 with⟨h3,t4,t5⟩|⟨h3,t4,t5⟩
    ·rcases c4 with⟨h4,t6⟩|⟨h4,t6⟩
     all_goals
      go_enter Tryz.func114,Tryz.ntmps114
      go_wp2_with fail
      go_ret
      exact⟨by rw[←HQ.out];simp[h1,h2,h3,h4],HF.out⟩
    ·go_enter Tryz.func114,Tryz.ntmps114
     go_wp2_with fail
     go_ret
     exact⟨by rw[←HQ.out];simp[h1,h2,h3],HF.out⟩
   ·go_enter Tryz.func114,Tryz.ntmps114
    go_wp2_with fail
    go_ret
    exact⟨by rw[←HQ.out];simp[h1,h2],HF.out⟩
  ·go_enter Tryz.func114,Tryz.ntmps114
   go_wp2_with fail
   go_ret
   exact⟨by rw[←HQ.out];simp[h1],HF.out⟩
end Enc
namespace Wire
open Mem Win
theorem whigh_calls{w0 w:World}(B:Nat)(v:Value)(bs:List UInt8)(x:Nat)(hx:x<16777216)(h:Wr w0 w B v bs)(hle:w0.heap.size≤w.heap.size)(hn:bs.length≤1000):
 Calls Tryz.prog 117 #[.pointer (some ⟨B,0,none⟩),.int .u64 x,.int .i64 2] w fun e w'=>e=.returned (.int .i64 0)∧∃v',Wr w0 w' B v' (bs++[UInt8.ofNat (x/256),UInt8.ofNat (x%256)])∧Fr (fun k=>w0.heap.size≤k) w w':=by
 have HLE:=Hd hle
 have HH:=Hd h
 have HN:=Hd hn
 have HX:=Hd hx
 clear h hle hn hx
 go_enter Tryz.func117,Tryz.ntmps117
 go_wp2_with fail
 refine(wide_calls _).mono ?_
 rintro e w1 ⟨rfl,rfl⟩
 go_wp2_with fail
 go_loopw [12] (fun i wr=>∃(k:Nat)(v':Value),k≤2∧i=.int .i64 k∧Wr w0 wr B v' (bs++[UInt8.ofNat (x/256),UInt8.ofNat (x%256)].take k)∧Fr (fun k=>w0.heap.size≤k) w wr) (fun i _=>2-(intOf i).toNat)
 case atStart=>exact⟨0,v,by omega,rfl,by simpa using HH.out,Fr.refl _ _⟩
 case round=>
  obtain⟨k,v',hk,rfl,hW,hfr⟩:=hrel
  have hle2:=Nat.le_trans HLE.out hfr.size
  have HFR:=Hd hfr
  have HL2:=Hd hle2
  have HW:=Hd hW
  clear hfr hle2 hW
  have h3:k=0∨k=1∨k=2:=by omega
  clear hk
  rcases h3 with rfl|rfl|rfl
  ·have HAD:=fun(y:Int)(hy:y=((UInt8.ofNat (x/256)).toNat:Int))=>Hd (add_calls (w0:=w0) (w:=wr) B v' bs (UInt8.ofNat (x/256)) y hy (by simpa using HW.out) HL2.out (by have:=HN.out;omega))
   go_wp2_with fail
   refine(HAD _ ?_).out.mono ?_
   ·have:=HX.out
    rw[UInt8.toNat_ofNat']
    simp<;>omega
   rintro e w2 ⟨rfl,v2,hW2,hfr2⟩
   have HW2:=Hd hW2
   have HF2:=Hd hfr2
   clear hW2 hfr2
   go_wp2_with fail
   go_roundw
   case rel=>exact⟨1,v2,by omega,by go_num,by simpa using HW2.out,HFR.out.trans HF2.out⟩
   case measure=>simp[intOf]
  ·have HAD:=fun(y:Int)(hy:y=((UInt8.ofNat (x%256)).toNat:Int))=>Hd (add_calls (w0:=w0) (w:=wr) B v' (bs++[UInt8.ofNat (x/256)]) (UInt8.ofNat (x%256)) y hy (by simpa using HW.out) HL2.out (by have:=HN.out;rw[List.length_append,List.length_singleton];omega))
   go_wp2_with fail
   refine(HAD _ ?_).out.mono ?_
   ·have:=HX.out
    rw[UInt8.toNat_ofNat']
    simp<;>omega
   rintro e w2 ⟨rfl,v2,hW2,hfr2⟩
   have HW2:=Hd hW2
   have HF2:=Hd hfr2
   clear hW2 hfr2
   go_wp2_with fail
   go_roundw
   case rel=>exact⟨2,v2,by omega,by go_num,by simpa using HW2.out,HFR.out.trans HF2.out⟩
   case measure=>simp[intOf]
  ·go_wp2_with fail
   go_ret
   exact⟨rfl,v',by simpa using HW.out,HFR.out⟩
end Wire
namespace Enc
open Mem Win
theorem hput_raw(k m lc lp pb:Nat)(hk:k=1∨k=2)(hm:m<65536)(w:World):Calls Tryz.prog 67 #[.agg #[.int .i64 k,.int .i64 (m+1:Nat),.int .i64 (m+1:Nat),.int .i64 lc,.int .i64 lp,.int .i64 pb]] w fun e w'=>Fr (fun _=>False) w w'∧∃p cap,e=.returned (.tuple #[.slice p 3 cap,.int .i64 0])∧Mine w w' (.slice p 3 cap) [UInt8.ofNat k,UInt8.ofNat (m/256),UInt8.ofNat (m%256)]:=by
 have HS:=fun W=>Hd (sized_raw k (m+1) lc lp pb hk W)
 rw[show decide (1≤m+1∧m+1≤65536)=true by simp;omega] at HS
 have HF:=Hd ((R0 w).alloc (.cells #[.int .i64 k,.int .i64 (m+1:Nat),.int .i64 (m+1:Nat),.int .i64 lc,.int .i64 lp,.int .i64 pb] 47))
 have hx:=heap_alloc_new w (.cells #[.int .i64 k,.int .i64 (m+1:Nat),.int .i64 (m+1:Nat),.int .i64 lc,.int .i64 lp,.int .i64 pb] 47)
 have HX:=Hd hx
 obtain⟨y0,y1⟩:=cs2 hx rfl rfl
 clear hx
 rcases hk with rfl|rfl
 ·go_enter Tryz.func67,Tryz.ntmps67
  go_wp2_with fail
  refine(HS _).out.mono ?_
  rintro e w1 ⟨rfl,hfr⟩
  have hx1:=hfr.keep HX.out (fun h=>h)
  obtain⟨c0,c1⟩:=cs2 hx1 rfl rfl
  have HX1:=Hd hx1
  have HF1:=Hd (HF.out.trans hfr)
  clear hfr hx1 y0 y1
  go_wp2_with fail
  refine(Wire.newWriter_calls _).mono ?_
  rintro e w2 ⟨rfl,hfr,hW⟩
  have hx2:=hfr.keep HX1.out (fun h=>h)
  obtain⟨d0,d1⟩:=cs2 hx2 rfl rfl
  have HX2:=Hd hx2
  have HF2:=Hd hfr
  have HW:=Hd hW
  clear hfr hx2 hW
  go_wp2_with fail
  have hA:=(R0 w2).alloc (.cells #[.int .u8 1] 5)
  have hrd:=rd_one w2 w2.heap.size rfl 1 1 rfl
  refine(Wire.wput_calls (w0:=w1) w1.heap.size (.slice none 0 0) [] [1] (some ⟨w2.heap.size,0,none⟩) 1 1 ⟨hA.keep HW.out.box (fun h=>h),HW.out.own.keep hA,HW.out.new,HW.out.apart⟩ (Nat.le_trans HF2.out.size hA.size) hrd (by decide) rfl).mono ?_
  rintro e w3 ⟨rfl,v3,hW3,hfr3⟩
  have hx3:=hfr3.keep (hA.keep HX2.out (fun h=>h)) (by have:=lt_of_block HX1.out;omega)
  obtain⟨a0,a1⟩:=cs2 hx3 rfl rfl
  have HW3:=Hd hW3
  have HF3:=Hd ((HF2.out.trans hA).trans' hfr3 (fun k h1 h2=>by omega))
  clear hfr3 hx3 hW3 hA hrd
  have HH:=fun(y:Int)(hy:y=(m:Int))=>Hd (show Calls Tryz.prog 117 #[.pointer (some ⟨w1.heap.size,0,none⟩),.int .u64 y,.int .i64 2] w3 _ from hy ▸ Wire.whigh_calls (w0:=w1) w1.heap.size v3 [1] m (by omega) HW3.out HF3.out.size (by decide))
  go_wp2_with fail
  refine(HH _ ?_).out.mono ?_
  ·try simp
   try omega
  rintro e w4 ⟨rfl,v4,hW4,hfr4⟩
  have HW4:=Hd hW4
  have HF4:=Hd (HF3.out.trans' hfr4 (fun k h1 h2=>by omega))
  clear hfr4 hW4
  go_wp2_with fail
  refine(Wire.bytes_calls (w0:=w1) w1.heap.size v4 [1,UInt8.ofNat (m/256),UInt8.ofNat (m%256)] HW4.out (by simp) (by simp)).mono ?_
  rintro e w5 ⟨hfr5,p,cap,rfl,hM⟩
  have HM:=Hd hM
  have HF5:=Hd hfr5
  clear hfr5 hM
  go_wp2_with fail
  go_ret2
  exact⟨HF1.out.trans (HF4.out.trans HF5.out),p,cap,rfl,HM.out.own,fun k hk=>Nat.le_trans (Nat.le_trans HF1.out.size HF4.out.size) (HM.out.new k hk)⟩
 ·go_enter Tryz.func67,Tryz.ntmps67
  go_wp2_with fail
  refine(HS _).out.mono ?_
  rintro e w1 ⟨rfl,hfr⟩
  have hx1:=hfr.keep HX.out (fun h=>h)
  obtain⟨c0,c1⟩:=cs2 hx1 rfl rfl
  have HX1:=Hd hx1
  have HF1:=Hd (HF.out.trans hfr)
  clear hfr hx1 y0 y1
  go_wp2_with fail
  refine(Wire.newWriter_calls _).mono ?_
  rintro e w2 ⟨rfl,hfr,hW⟩
  have hx2:=hfr.keep HX1.out (fun h=>h)
  obtain⟨d0,d1⟩:=cs2 hx2 rfl rfl
  have HX2:=Hd hx2
  have HF2:=Hd hfr
  have HW:=Hd hW
  clear hfr hx2 hW
  go_wp2_with fail
  have hA:=(R0 w2).alloc (.cells #[.int .u8 2] 5)
  have hrd:=rd_one w2 w2.heap.size rfl 2 2 rfl
  refine(Wire.wput_calls (w0:=w1) w1.heap.size (.slice none 0 0) [] [2] (some ⟨w2.heap.size,0,none⟩) 1 1 ⟨hA.keep HW.out.box (fun h=>h),HW.out.own.keep hA,HW.out.new,HW.out.apart⟩ (Nat.le_trans HF2.out.size hA.size) hrd (by decide) rfl).mono ?_
  rintro e w3 ⟨rfl,v3,hW3,hfr3⟩
  have hx3:=hfr3.keep (hA.keep HX2.out (fun h=>h)) (by have:=lt_of_block HX1.out;omega)
  obtain⟨a0,a1⟩:=cs2 hx3 rfl rfl
  have HW3:=Hd hW3
  have HF3:=Hd ((HF2.out.trans hA).trans' hfr3 (fun k h1 h2=>by omega))
  clear hfr3 hx3 hW3 hA hrd
  have HH:=fun(y:Int)(hy:y=(m:Int))=>Hd (show Calls Tryz.prog 117 #[.pointer (some ⟨w1.heap.size,0,none⟩),.int .u64 y,.int .i64 2] w3 _ from hy ▸ Wire.whigh_calls (w0:=w1) w1.heap.size v3 [2] m (by omega) HW3.out HF3.out.size (by decide))
  go_wp2_with fail
  refine(HH _ ?_).out.mono ?_
  ·try simp
   try omega
  rintro e w4 ⟨rfl,v4,hW4,hfr4⟩
  have HW4:=Hd hW4
  have HF4:=Hd (HF3.out.trans' hfr4 (fun k h1 h2=>by omega))
  clear hfr4 hW4
  go_wp2_with fail
  refine(Wire.bytes_calls (w0:=w1) w1.heap.size v4 [2,UInt8.ofNat (m/256),UInt8.ofNat (m%256)] HW4.out (by simp) (by simp)).mono ?_
  rintro e w5 ⟨hfr5,p,cap,rfl,hM⟩
  have HM:=Hd hM
  have HF5:=Hd hfr5
  clear hfr5 hM
  go_wp2_with fail
  go_ret2
  exact⟨HF1.out.trans (HF4.out.trans HF5.out),p,cap,rfl,HM.out.own,fun k hk=>Nat.le_trans (Nat.le_trans HF1.out.size HF4.out.size) (HM.out.new k hk)⟩
end Enc
namespace St
open Mem
theorem ret_two{a b:Int}(h:a=b):Ending.returned (.tuple #[.int .i64 a,.int .i64 0])=.returned (.tuple #[.int .i64 b,.int .i64 0]):=by rw[h]
theorem propsV_calls(lc lp pb:Nat)(hl:lc+lp≤4)(hp:pb≤4)(w:World):
 Calls Tryz.prog 49 #[.agg #[.int .i64 lc,.int .i64 lp,.int .i64 pb]] w fun e w'=>e=.returned (.tuple #[.int .i64 ((5*pb+lp)*9+lc:Nat),.int .i64 0])∧Fr (fun _=>False) w w':=by
 have HF:=Hd ((R0 w).alloc (.cells #[.int .i64 lc,.int .i64 lp,.int .i64 pb] 24))
 obtain⟨x,hx⟩:∃x:Nat,x=(5*pb+lp)*9+lc:=⟨_,rfl⟩
 rw[←hx]
 have HQ:=Hd hx
 clear hx
 have t1:(decide ((lc:Int)<0))=false:=decide_eq_false (by omega)
 have t2:(decide ((lp:Int)<0))=false:=decide_eq_false (by omega)
 have t3:(decide ((pb:Int)<0))=false:=decide_eq_false (by omega)
 have t4:(decide (4<(pb:Int)))=false:=decide_eq_false (by omega)
 have t5:(decide ((pb:Int)>4))=false:=decide_eq_false (by omega)
 have t6:(decide (4<(lc:Int)))=false:=decide_eq_false (by omega)
 have t7:(decide ((lc:Int)>4))=false:=decide_eq_false (by omega)
 have t8:(decide (4-(lc:Int)<lp))=false:=decide_eq_false (by omega)
 have t9:(decide ((lp:Int)>4-(lc:Int)))=false:=decide_eq_false (by omega)
 go_enter Tryz.func49,Tryz.ntmps49
 go_wp2_with fail
 go_ret2
 exact⟨ret_two (by have:=HQ.out;omega),HF.out⟩
end St
end Go.Proofs.YtffoddpjfgjelaaGreatDoor
