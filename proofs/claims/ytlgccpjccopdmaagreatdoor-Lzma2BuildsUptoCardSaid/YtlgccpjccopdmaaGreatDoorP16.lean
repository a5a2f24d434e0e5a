/- Part 16 of 54: lemmas of the last part, each under the conditions that it names. -/
import Derived.Deep.RegionHeld3
import Derived.BigRegion
import Derived.Test.YtlgccpjccopdmaaGreatDoorP06
import Derived.Test.YtlgccpjccopdmaaGreatDoorP08
import Derived.Test.YtlgccpjccopdmaaGreatDoorP09
import Derived.Test.YtlgccpjccopdmaaGreatDoorP15
set_option linter.unusedVariables false
set_option linter.unusedSimpArgs false
set_option maxRecDepth 1500
set_option maxHeartbeats 4000000
namespace Go.Proofs.YtlgccpjccopdmaaGreatDoor
open Go.RowKit
namespace Ck
open Mem
structure Head where
 kind:Nat
 size:Nat
 packed:Nat
 lc:Nat
 lp:Nat
 pb:Nat
def Head.cells(h:Head):Array Value:=#[.int .i64 h.kind,.int .i64 h.size,.int .i64 h.packed,.int .i64 h.lc,.int .i64 h.lp,.int .i64 h.pb]
def Head.none:Head:=⟨0,0,0,0,0,0⟩
def movesL:List Nat:=[3,1,4,4,4,4,2,3,1,1,4,4,2,2,3,1,2,2,2,2,2,4,4,4,4,4,4,4]
def Moves(w:World):Prop:=∃T fr,w.heap[0]? =some (.cells (St.rowOf movesL) T fr)
theorem Moves.step{S:Nat→Prop}{w w':World}(h:Moves w)(hfr:Fr S w w')(hS:∀k,S k→5≤k):Moves w':=by
 obtain⟨t1,f1,h1⟩:=h
 exact⟨t1,f1,hfr.keep h1 (fun h=>absurd (hS _ h) (by decide))⟩
def move(now kind:Nat):Nat:=movesL.getD (7*now+kind) 0
theorem move_le:∀a:Fin 4,∀k:Fin 7,move a k≤4:=by decide
theorem Moves.at{w:World}(h:Moves w){now kind:Nat}(h1:now<4)(h2:kind<7):w.cell? ⟨0,7*now+kind,none⟩=some (.int .i64 (move now kind)):=by
 have h3:7*now+kind<movesL.length:=by simp[movesL];omega
 exact St.tab_at h h3
def OrdAt(w:World)(B now:Nat):Prop:=w.heap[B]? =some (.cells #[.int .i64 now] 174 (0,0))
theorem newOrder_calls(w:World):Calls Tryz.prog 46 #[] w fun e w'=>e=.returned (.pointer (some ⟨w.heap.size,0,none⟩))∧Fr (fun _=>False) w w'∧OrdAt w' w.heap.size 0:=by
 go_enter Tryz.func46,Tryz.ntmps46
 go_wp2_with fail
 go_ret
 exact⟨rfl,(Fr.refl _ _).alloc _,heap_alloc_new _ _⟩
theorem ended_calls(B now:Nat)(w:World)(h:OrdAt w B now):Calls Tryz.prog 91 #[.pointer (some ⟨B,0,none⟩)] w fun e w'=>e=.returned (.bool (decide (now=3)))∧w=w':=by
 have c0:w.cell? ⟨B,0,none⟩=some (.int .i64 now):=cell_in h rfl
 clear h
 by_cases h3:now=3
 ·subst h3
  go_enter Tryz.func91,Tryz.ntmps91
  go_wp2_with fail
  go_ret
  exact⟨rfl,rfl⟩
 ·have e1:((now:Int)==3)=false:=by simp;omega
  rw[show decide (now=3)=false by simp[h3]]
  clear h3
  go_enter Tryz.func91,Tryz.ntmps91
  go_wp2_with fail
  go_ret
  exact⟨rfl,rfl⟩
theorem order_calls(B now kind:Nat)(w:World)(h:OrdAt w B now)(hM:Moves w)(hn:now<4)(hk:kind<7):
 Calls Tryz.prog 47 #[.pointer (some ⟨B,0,none⟩),.int .i64 kind] w fun e w'=>e=.returned (.int .i64 (if move now kind=4 then 2 else 0))∧Fr (fun k=>k=B) w w'∧OrdAt w' B (if move now kind=4 then now else move now kind):=by
 have c0:w.cell? ⟨B,0,none⟩=some (.int .i64 now):=cell_in h rfl
 have f0:=frozen_in h 0
 have hmv:=hM.at hn hk
 have H:=Hd h
 clear h hM
 obtain rfl|rfl|rfl|rfl:now=0∨now=1∨now=2∨now=3:=by omega
 all_goals
  obtain rfl|rfl|rfl|rfl|rfl|rfl|rfl:kind=0∨kind=1∨kind=2∨kind=3∨kind=4∨kind=5∨kind=6:=by omega
 all_goals
  simp only[Nat.reduceMul,Nat.reduceAdd,Nat.mul_zero,Nat.zero_add,Nat.add_zero,move,movesL,List.getD_cons_zero,List.getD_cons_succ,Nat.reduceEqDiff,if_true,if_false] at hmv ⊢
  go_enter Tryz.func47,Tryz.ntmps47
  go_wp2_with fail
  go_ret
  first
   |exact⟨rfl,Fr.one _ _ _ _,set_in H.out 0 _⟩
   |exact⟨rfl,Fr.refl _ _,H.out⟩
def kindOf(x:Nat):Option Nat:=if x≤2 then some x else if x<128 then none else some (3+x/32%4)
def kindI(x:Nat):Int:=match kindOf x with
 |none=>-1
 |some k=>k
set_option maxRecDepth 100000 in
theorem kindOf_calls(x:Nat)(hx:x<256)(w:World):Calls Tryz.prog 143 #[.int .u8 x] w fun e w'=>e=.returned (.int .i64 (kindI x))∧w=w':=by
 have hb:bits BinOp.and IntKind.u8 ((x:Int)/32) 3=((x/32%4:Nat):Int):=by
  have h1:∀n:Fin 256,bits BinOp.and IntKind.u8 ((n.val:Int)/32) 3=((n.val/32%4:Nat):Int):=by decide+kernel
  exact h1 ⟨x,hx⟩
 have hlt:x/32%4<4:=Nat.mod_lt _ (by omega)
 unfold kindI kindOf
 generalize x/32%4=m at*
 by_cases h1:x≤2
 ·rw[if_pos h1]
  simp only
  go_enter Tryz.func143,Tryz.ntmps143
  go_wp2_with fail
  go_ret
  exact⟨rfl,rfl⟩
 ·rw[if_neg h1]
  by_cases h2:x<128
  ·rw[if_pos h2]
   simp only
   go_enter Tryz.func143,Tryz.ntmps143
   go_wp2_with fail
   go_ret
   exact⟨rfl,rfl⟩
  ·rw[if_neg h2]
   simp only
   go_enter Tryz.func143,Tryz.ntmps143
   go_wp2_with fail
   go_ret
   exact⟨ret_int (by omega),rfl⟩
def beyond(told:Int)(n:Nat):Bool:=decide (0≤told∧told<(n:Int))
theorem beyond_calls(told:Int)(n:Nat)(w:World):Calls Tryz.prog 142 #[.int .i64 told,.int .i64 n] w fun e w'=>e=.returned (.bool (beyond told n))∧w=w':=by
 generalize hq:beyond told n=q
 have HQ:=Hd hq
 clear hq
 go_enter Tryz.func142,Tryz.ntmps142
 go_wp2_with fail
 all_goals
  go_ret
  refine⟨ret_bool ?_,rfl⟩
  have h1:=HQ.out
  unfold beyond at h1
  rw[←h1,Bool.eq_iff_iff]
  simp
  try omega
end Ck
namespace Ck
open Mem Wire
def get(xs:List UInt8):Head×Nat×Nat:=
 let x:=(xs.getD 0 0).toNat
 if xs.length=0 then(Head.none,0,1)
 else if x=0 then(Head.none,1,0)
 else if x≤2 then if xs.length<3 then(Head.none,0,1) else(⟨x,beV (xs.drop 1) 2+1,beV (xs.drop 1) 2+1,0,0,0⟩,3,0)
 else if x<128 then(Head.none,0,2)
 else if xs.length<5 then(Head.none,0,1)
 else if(x-128)/32<2 then(⟨3+(x-128)/32,x%32*65536+beV (xs.drop 1) 2+1,beV (xs.drop 3) 2+1,0,0,0⟩,5,0)
 else if xs.length<6 then(Head.none,0,1)
 else if St.bytePropsOk (xs.getD 5 0).toNat then(⟨3+(x-128)/32,x%32*65536+beV (xs.drop 1) 2+1,beV (xs.drop 3) 2+1,(xs.getD 5 0).toNat%9,(xs.getD 5 0).toNat/9%5,(xs.getD 5 0).toNat/45⟩,6,0)
 else(Head.none,0,2)
theorem get_le(xs:List UInt8):(get xs).2.1≤6:=by
 unfold get
 simp only
 repeat' split
 all_goals simp
theorem el_at{xs:List UInt8}{n:Nat}(h:n<xs.length):xs[n]? =some (xs.getD n 0):=by
 rw[List.getD_eq_getElem?_getD,List.getElem?_eq_getElem h]
 rfl
theorem beV2_lt(xs:List UInt8):beV xs 2<65536:=beV_lt xs 2
theorem rdr_keep0{w w':World}{B n:Nat}{v:Value}{xs:List UInt8}(h:Rdr w B n v xs)(hfr:Fr (fun _=>False) w w'):Rdr w' B n v xs:=h.keep hfr (fun h=>h) (fun _ _ h=>h)
theorem rd_lt{w:World}{v:Value}{xs:List UInt8}(h:Rd w v xs)(h0:0<xs.length):∀k,v.ownBlock=some k→k<w.heap.size:=by
 obtain⟨p,cap,rfl,_,_,h3⟩:=h
 obtain⟨b,o,rfl,hc⟩:=h3 h0
 intro k hk
 simp only[Value.ownBlock,Option.some.injEq] at hk
 subst hk
 exact block_lt_of_cell (hc 0 xs[0] (by simp[h0]))
structure G(w0 wk:World)(z2 z8 B n:Nat)(v2:Value)(xs:List UInt8)(c:Array Value):Prop where
 fr:Fr (fun _=>False) w0 wk
 b2:wk.heap[z2]? =some (.cells #[.int .i64 0,.int .i64 0,.int .i64 0,.int .i64 0,.int .i64 0,.int .i64 0] 47 (0,0))
 b8:wk.heap[z8]? =some (.cells c 47 (0,0))
 rdr:Rdr wk B n v2 xs
 o2:w0.heap.size≤z2
 o8:w0.heap.size≤z8
 oB:w0.heap.size≤B
 ne:z2≠z8
 off:∀k,v2.ownBlock=some k→k≠z2∧k≠z8
theorem G.B2{w0 wk:World}{z2 z8 B n:Nat}{v2:Value}{xs:List UInt8}{c:Array Value}(h:G w0 wk z2 z8 B n v2 xs c):B≠z2∧B≠z8:=by
 constructor
 ·intro e
  have h1:=h.rdr.box
  rw[e,h.b2] at h1
  simp at h1
 ·intro e
  have h1:=h.rdr.box
  rw[e,h.b8] at h1
  simp at h1
theorem G.call{w0 wk wk':World}{z2 z8 B n n':Nat}{v2:Value}{xs:List UInt8}{c:Array Value}(h:G w0 wk z2 z8 B n v2 xs c)(hfr:Fr (fun k=>k=B) wk wk')(hR:Rdr wk' B n' v2 xs):G w0 wk' z2 z8 B n' v2 xs c:=
 ⟨h.fr.trans' hfr (fun i hi(e:i=B)=>by have:=h.oB;omega),hfr.keep h.b2 (fun(e:z2=B)=>h.B2.1 e.symm),hfr.keep h.b8 (fun(e:z8=B)=>h.B2.2 e.symm),hR,h.o2,h.o8,h.oB,h.ne,h.off⟩
theorem G.set{w0 wk:World}{z2 z8 B n:Nat}{v2:Value}{xs:List UInt8}{c:Array Value}(h:G w0 wk z2 z8 B n v2 xs c)(i:Nat)(u:Value):G w0 (wk.setCell ⟨z8,i,none⟩ u) z2 z8 B n v2 xs (c.setIfInBounds i u):=by
 have hfr:Fr (fun k=>k=z8) wk (wk.setCell ⟨z8,i,none⟩ u):=Fr.one _ _ _ _
 exact⟨h.fr.trans' hfr (fun i hi(e:i=z8)=>by have:=h.o8;omega),hfr.keep h.b2 h.ne,set_in h.b8 i u,h.rdr.keep hfr h.B2.2 (fun k hk e=>(h.off k hk).2 e),h.o2,h.o8,h.oB,h.ne,h.off⟩
theorem G.set6{w0 wk:World}{z2 z8 B n:Nat}{v2:Value}{xs:List UInt8}(h:G w0 wk z2 z8 B n v2 xs #[.int .i64 0,.int .i64 0,.int .i64 0,.int .i64 0,.int .i64 0,.int .i64 0])(a b c d e f:Value):G w0 ((((((wk.setCell ⟨z8,0,none⟩ a).setCell ⟨z8,1,none⟩ b).setCell ⟨z8,2,none⟩ c).setCell ⟨z8,3,none⟩ d).setCell ⟨z8,4,none⟩ e).setCell ⟨z8,5,none⟩ f) z2 z8 B n v2 xs #[a,b,c,d,e,f]:=
 (((((h.set 0 a).set 1 b).set 2 c).set 3 d).set 4 e).set 5 f
theorem G.off'{w0 wk:World}{z2 z8 B n:Nat}{v2:Value}{xs:List UInt8}{c:Array Value}(h:G w0 wk z2 z8 B n v2 xs c){w':World}(hfr:Fr (fun k=>k=z2) wk w'):Calls Tryz.prog 198 #[.pointer (some ⟨B,0,none⟩)] w' fun e w''=>e=.returned (.int .i64 n)∧w'=w'':=
 off_calls B n v2 xs w' (h.rdr.keep hfr h.B2.1 (fun k hk e=>(h.off k hk).1 e))
theorem G.cells'{w0 wk:World}{z2 z8 B n:Nat}{v2:Value}{xs:List UInt8}{a b c d e f:Value}(h:G w0 wk z2 z8 B n v2 xs #[a,b,c,d,e,f]){w':World}(hfr:Fr (fun k=>k=z2) wk w'):
 w'.cell? ⟨z8,0,none⟩=some a∧w'.cell? ⟨z8,1,none⟩=some b∧w'.cell? ⟨z8,2,none⟩=some c∧w'.cell? ⟨z8,3,none⟩=some d∧w'.cell? ⟨z8,4,none⟩=some e∧w'.cell? ⟨z8,5,none⟩=some f:=by
 have h1:=hfr.keep h.b8 (fun(e:z8=z2)=>h.ne e.symm)
 exact⟨cell_in h1 rfl,cell_in h1 rfl,cell_in h1 rfl,cell_in h1 rfl,cell_in h1 rfl,cell_in h1 rfl⟩
theorem G.fin{w0 wk:World}{z2 z8 B n:Nat}{v2:Value}{xs:List UInt8}{c:Array Value}(h:G w0 wk z2 z8 B n v2 xs c){w':World}(hfr:Fr (fun k=>k=z2) wk w'):Fr (fun _=>False) w0 w':=
 h.fr.trans' hfr (fun i hi(e:i=z2)=>by have:=h.o2;omega)
theorem set6{wk:World}{z2:Nat}{a b c d e f:Value}:Fr (fun k=>k=z2) wk ((((((wk.setCell ⟨z2,0,none⟩ a).setCell ⟨z2,1,none⟩ b).setCell ⟨z2,2,none⟩ c).setCell ⟨z2,3,none⟩ d).setCell ⟨z2,4,none⟩ e).setCell ⟨z2,5,none⟩ f):=
 (((((Fr.one _ _ _ _).trans (Fr.one _ _ _ _)).trans (Fr.one _ _ _ _)).trans (Fr.one _ _ _ _)).trans (Fr.one _ _ _ _)).trans (Fr.one _ _ _ _)
abbrev zeros:Array Value:=#[.int .i64 0,.int .i64 0,.int .i64 0,.int .i64 0,.int .i64 0,.int .i64 0]
set_option maxRecDepth 100000 in
theorem get_end(v:Value)(ys:List UInt8)(w:World)(hr:Rd w v ys)(h0:0<ys.length)(hl:ys.length≤1099511627776)(xs:List UInt8)(hxs:xs=ys.take 6)(hx0:(xs.getD 0 0).toNat=0):
 Calls Tryz.prog 145 #[v] w fun e w'=>e=.returned (.tuple #[.agg Head.none.cells,.int .i64 1,.int .i64 0])∧Fr (fun _=>False) w w':=by
 obtain⟨p,cap,rfl,hc1,hc2,h3⟩:=hr
 have hr:Rd w (.slice p ys.length cap) ys:=⟨p,cap,rfl,hc1,hc2,h3⟩
 have hxl:xs.length=min ys.length 6:=by rw[hxs,List.length_take];omega
 have hx1:0<xs.length:=by omega
 have hel:=el_at hx1
 have hxb:=UInt8.toNat_lt (xs.getD 0 0)
 have hf0:=(Fr.refl (fun _=>False) w).alloc (.cells zeros 47)
 have hz:=heap_alloc_new w (.cells zeros 47)
 have hall:∃M:Nat,Rd w (.slice p M cap) xs∧M=xs.length∧M≤6∧((ys.length≤6∧M=ys.length)∨(6<ys.length∧M=6)):=by
  by_cases h6:ys.length≤6
  ·have e:xs=ys:=by rw[hxs,List.take_of_length_le h6]
   exact⟨ys.length,e ▸ hr,by rw[e],h6,.inl ⟨h6,rfl⟩⟩
  ·have h1:=rd_take (m:=6) hr (by omega)
   exact⟨6,hxs ▸ h1,by omega,by omega,.inr ⟨by omega,rfl⟩⟩
 obtain⟨M,hrx,hM,hM6,hcase⟩:=hall
 have HNR:=Hd (newReader_calls (.slice p M cap) xs _ (hrx.keep hf0) hx1 (by omega))
 have HZ:=Hd hz
 have HF:=Hd hf0
 have HEL:=Hd hel
 have HXL:=Hd hxl
 clear hr hrx hf0 hz hel hxl h3 hxs hM
 generalize hx:(xs.getD 0 0).toNat=x at*
 have HXX:=Hd hx
 clear hx
 have hsl:=Win.slice_hbI p ys.length cap M (M:Int) rfl (by omega)
 generalize ys.length=yl at*
 obtain⟨h6,rfl⟩|⟨h6,rfl⟩:=hcase
 all_goals go_enter Tryz.func145,Tryz.ntmps145
 all_goals
  go_wp2_with fail
  refine HNR.out.mono ?_
  rintro e w1 ⟨hfr1,B,v2,rfl,hR1,hB1,hv2⟩
  have HU:=Hd (u8_calls B 0 v2 xs _ w1 hR1 HEL.out)
  rw[HXX.out] at HU
  have HR1:=Hd hR1
  have HF1:=Hd hfr1
  have HV2:=Hd hv2
  clear hfr1 hR1 hv2
  go_wp2_with fail
  refine HU.out.mono ?_
  rintro e w2 ⟨rfl,hfr2,hR2⟩
  have hf3:=(Fr.refl (fun _=>False) w2).alloc (.cells zeros 47)
  have hz3:=heap_alloc_new w2 (.cells zeros 47)
  have HG:=Hd (show G w (w2.alloc (.cells zeros 47)) w.heap.size w2.heap.size B 1 v2 xs zeros from by
   have s1:=HF1.out.size
   have s2:=hfr2.size
   simp only[World.size_alloc] at s1 hB1
   have e1:=hfr2.keep (HF1.out.keep HZ.out (fun h=>h)) (fun(e:w.heap.size=B)=>by omega)
   refine⟨((HF.out.trans HF1.out).trans' hfr2 (fun i hi(e:i=B)=>by omega)).trans hf3,hf3.keep e1 (fun h=>h),hz3,rdr_keep0 hR2 hf3,Nat.le_refl _,by omega,by omega,by omega,fun k hk=> ?_⟩
   have h1:=HV2.out k hk
   have h2:=rd_lt hR2.rd (by have:=HXL.out;omega) k hk
   simp only[World.size_alloc] at h1
   omega)
  clear hfr2 hR2 hf3 hz3 HR1 HF1 HV2 HZ HF HNR HU
  subst hx0
  have q2:=HG.out.b2
  have q8:=HG.out.b8
  obtain⟨a0,a1,a2,a3,a4,a5,af⟩:=cf6 q2 rfl rfl rfl rfl rfl rfl
  obtain⟨c0,c1,c2,c3,c4,c5,cf⟩:=cf6 q8 rfl rfl rfl rfl rfl rfl
  clear q2 q8
  go_wp2_with fail
  refine bodyPost_ret (v:=.tuple #[.agg #[.int .i64 0,.int .i64 0,.int .i64 0,.int .i64 0,.int .i64 0,.int .i64 0],.int .i64 1,.int .i64 0]) (by simp[results,Tryz.results145,go_sem,a0,a1,a2,a3,a4,a5]) rfl ?_
  exact⟨rfl,HG.out.fin set6⟩
set_option maxRecDepth 100000 in
set_option maxRecDepth 100000 in
set_option maxRecDepth 100000 in
theorem get_raw(v:Value)(ys:List UInt8)(w:World)(hr:Rd w v ys)(h0:0<ys.length)(hl:ys.length≤1099511627776)(xs:List UInt8)(hxs:xs=ys.take 6)(hx1:1≤(xs.getD 0 0).toNat)(hx2:(xs.getD 0 0).toNat≤2)(hlen:3≤xs.length):
 Calls Tryz.prog 145 #[v] w fun e w'=>e=.returned (.tuple #[.agg (Head.mk (xs.getD 0 0).toNat (beV (xs.drop 1) 2+1) (beV (xs.drop 1) 2+1) 0 0 0).cells,.int .i64 3,.int .i64 0])∧Fr (fun _=>False) w w':=by
 obtain⟨p,cap,rfl,hc1,hc2,h3⟩:=hr
 have hr:Rd w (.slice p ys.length cap) ys:=⟨p,cap,rfl,hc1,hc2,h3⟩
 have hxl:xs.length=min ys.length 6:=by rw[hxs,List.length_take];omega
 have hx1:0<xs.length:=by omega
 have hel:=el_at hx1
 have hxb:=UInt8.toNat_lt (xs.getD 0 0)
 have hf0:=(Fr.refl (fun _=>False) w).alloc (.cells zeros 47)
 have hz:=heap_alloc_new w (.cells zeros 47)
 have hall:∃M:Nat,Rd w (.slice p M cap) xs∧M=xs.length∧M≤6∧((ys.length≤6∧M=ys.length)∨(6<ys.length∧M=6)):=by
  by_cases h6:ys.length≤6
  ·have e:xs=ys:=by rw[hxs,List.take_of_length_le h6]
   exact⟨ys.length,e ▸ hr,by rw[e],h6,.inl ⟨h6,rfl⟩⟩
  ·have h1:=rd_take (m:=6) hr (by omega)
   exact⟨6,hxs ▸ h1,by omega,by omega,.inr ⟨by omega,rfl⟩⟩
 obtain⟨M,hrx,hM,hM6,hcase⟩:=hall
 have HNR:=Hd (newReader_calls (.slice p M cap) xs _ (hrx.keep hf0) hx1 (by omega))
 have HZ:=Hd hz
 have HF:=Hd hf0
 have HEL:=Hd hel
 have HXL:=Hd hxl
 clear hr hrx hf0 hz hel hxl h3 hxs hM
 generalize hx:(xs.getD 0 0).toNat=x at*
 have HXX:=Hd hx
 clear hx
 have hsl:=Win.slice_hbI p ys.length cap M (M:Int) rfl (by omega)
 generalize ys.length=yl at*
 have hbn1:=beV2_lt (xs.drop 1)
 generalize hn1:beV (xs.drop 1) 2=n1 at*
 have Hn1:=Hd hn1
 clear hn1
 obtain⟨h6,rfl⟩|⟨h6,rfl⟩:=hcase
 all_goals go_enter Tryz.func145,Tryz.ntmps145
 all_goals
  go_wp2_with fail
  refine HNR.out.mono ?_
  rintro e w1 ⟨hfr1,B,v2,rfl,hR1,hB1,hv2⟩
  have HU:=Hd (u8_calls B 0 v2 xs _ w1 hR1 HEL.out)
  rw[HXX.out] at HU
  have HR1:=Hd hR1
  have HF1:=Hd hfr1
  have HV2:=Hd hv2
  clear hfr1 hR1 hv2
  go_wp2_with fail
  refine HU.out.mono ?_
  rintro e w2 ⟨rfl,hfr2,hR2⟩
  have hf3:=(Fr.refl (fun _=>False) w2).alloc (.cells zeros 47)
  have hz3:=heap_alloc_new w2 (.cells zeros 47)
  have HG:=Hd (show G w (w2.alloc (.cells zeros 47)) w.heap.size w2.heap.size B 1 v2 xs zeros from by
   have s1:=HF1.out.size
   have s2:=hfr2.size
   simp only[World.size_alloc] at s1 hB1
   have e1:=hfr2.keep (HF1.out.keep HZ.out (fun h=>h)) (fun(e:w.heap.size=B)=>by omega)
   refine⟨((HF.out.trans HF1.out).trans' hfr2 (fun i hi(e:i=B)=>by omega)).trans hf3,hf3.keep e1 (fun h=>h),hz3,rdr_keep0 hR2 hf3,Nat.le_refl _,by omega,by omega,by omega,fun k hk=> ?_⟩
   have h1:=HV2.out k hk
   have h2:=rd_lt hR2.rd (by have:=HXL.out;omega) k hk
   simp only[World.size_alloc] at h1
   omega)
  clear hfr2 hR2 hf3 hz3 HR1 HF1 HV2 HZ HF HNR HU
  have e0:((x:Int)==0)=false:=by simp;omega
  go_wp2_with fail
  generalize w.heap.size=z2 at*
  generalize w2.heap.size=z8 at*
  generalize w2.alloc (.cells zeros 47)=wk at*
  have HH:=Hd (high_calls B 1 v2 xs wk HG.out.rdr (by have:=HXL.out;omega))
  rw[Hn1.out] at HH
  refine HH.out.mono ?_
  rintro e w4 ⟨rfl,hfr,hR⟩
  replace HG:=Hd (HG.out.call hfr hR)
  clear hfr hR HH wk
  obtain⟨wk,rfl⟩:∃wk,wk=w4:=⟨_,rfl⟩
  have q8:=HG.out.b8
  obtain⟨c0,c1,c2,c3,c4,c5,cf⟩:=cf6 q8 rfl rfl rfl rfl rfl rfl
  clear q8
  go_wp2_with fail
  replace HG:=Hd (HG.out.set6 (.int .i64 x) (.int .i64 ((n1:Int)+1)) (.int .i64 ((n1:Int)+1)) (.int .i64 0) (.int .i64 0) (.int .i64 0))
  generalize((((((wk.setCell ⟨z8,0,none⟩ (.int .i64 x)).setCell ⟨z8,1,none⟩ (.int .i64 ((n1:Int)+1))).setCell ⟨z8,2,none⟩ (.int .i64 ((n1:Int)+1))).setCell ⟨z8,3,none⟩ (.int .i64 0)).setCell ⟨z8,4,none⟩ (.int .i64 0)).setCell ⟨z8,5,none⟩ (.int .i64 0))=w5 at*
  have _tt:=True.intro
  clear c0 c1 c2 c3 c4 c5 cf
  have q2:=HG.out.b2
  obtain⟨a0,a1,a2,a3,a4,a5,af⟩:=cf6 q2 rfl rfl rfl rfl rfl rfl
  clear q2
  have HSC:=Hd (HG.out.cells' (w':=w5.drew) (Fr.refl _ _).drew)
  have ss:=HSC.out
  obtain⟨c0,c1,c2,c3,c4,c5⟩:=ss
  go_region_held3 (fun w'=>w'.cell? ⟨z8,0,none⟩=some (.int .i64 x)∧w'.cell? ⟨z8,1,none⟩=some (.int .i64 ((n1:Int)+1))∧w'.cell? ⟨z8,2,none⟩=some (.int .i64 ((n1:Int)+1))∧w'.cell? ⟨z8,3,none⟩=some (.int .i64 0)∧w'.cell? ⟨z8,4,none⟩=some (.int .i64 0)∧w'.cell? ⟨z8,5,none⟩=some (.int .i64 0))
   (first|with_reducible exact HSC.out|(refine HG.out.cells' ?_;((try refine Fr.drew ?_);(repeat refine Fr.setCell ?_ (.inl (by simp)) _);first|exact Fr.refl _ _|exact(Fr.refl _ _).drew))) ((first
   | (go_at_call 198
      refine(HG.out.off' (by((try refine Fr.drew ?_);(repeat refine Fr.setCell ?_ (.inl (by simp)) _);first|exact Fr.refl _ _|exact(Fr.refl _ _).drew))).mono ?_
      rintro e wc ⟨rfl,rfl⟩)))
  all_goals
   go_wp2_with fail
   refine bodyPost_ret (v:=.tuple #[.agg #[.int .i64 x,.int .i64 ((n1:Int)+1),.int .i64 ((n1:Int)+1),.int .i64 0,.int .i64 0,.int .i64 0],.int .i64 3,.int .i64 0]) (by simp[results,Tryz.results145,go_sem,a0,a1,a2,a3,a4,a5]) rfl ?_
   exact⟨rfl,HG.out.fin (by((try refine Fr.drew ?_);(repeat refine Fr.setCell ?_ (.inl (by simp)) _);first|exact Fr.refl _ _|exact(Fr.refl _ _).drew))⟩
end Ck
namespace Ck
open Mem Wire
end Ck
namespace Lz
open Mem Rc St Win
end Lz
namespace Lz
open Mem Rc St Win
end Lz
namespace Lz
open Mem Rc St Win
end Lz
namespace Ck
open Mem Wire
def rowV(bv:Value)(at' plain:Nat)(packed size:Int)(Ob:Nat):Array Value:=#[bv,.int .i64 at',.int .i64 plain,.int .i64 packed,.int .i64 size,.pointer (some ⟨Ob,0,none⟩)]
def RowAt(w:World)(Rb:Nat)(bv:Value)(at' plain:Nat)(packed size:Int)(Ob:Nat):Prop:=w.heap[Rb]? =some (.cells (rowV bv at' plain packed size Ob) 170 (0,0))
def ends(packed size:Int)(at' plain:Nat):Bool:=decide ((packed<0∨packed=(at':Int)+1)∧(size<0∨size=(plain:Int)))
set_option maxRecDepth 100000 in
theorem ends_calls(Rb Ob at' plain:Nat)(bv:Value)(packed size:Int)(w:World)(h:RowAt w Rb bv at' plain packed size Ob)(ha:at'≤1099511627776)(q:Bool)(hq:ends packed size at' plain=q):
 Calls Tryz.prog 144 #[.pointer (some ⟨Rb,0,none⟩)] w fun e w'=>e=.returned (.bool q)∧∃m,w'=w.drewN m:=by
 have c1:w.cell? ⟨Rb,1,none⟩=some (.int .i64 at'):=cell_in h rfl
 have c2:w.cell? ⟨Rb,2,none⟩=some (.int .i64 plain):=cell_in h rfl
 have c3:w.cell? ⟨Rb,3,none⟩=some (.int .i64 packed):=cell_in h rfl
 have c4:w.cell? ⟨Rb,4,none⟩=some (.int .i64 size):=cell_in h rfl
 clear h
 unfold ends at hq
 obtain⟨a1,ha1⟩:∃a1:Int,a1=(at':Int)+1:=⟨_,rfl⟩
 have hw:IntKind.i64.wrap ((at':Int)+1)=a1:=by rw[IntWalk.i64_in _ (by omega)];exact ha1.symm
 have hw2:(at':Int)+1=a1:=ha1.symm
 rw[←ha1] at hq
 have HQ:=Hd hq
 clear hq ha1
 by_cases h1:packed<0
 ·have e1:decide (packed<0)=true:=by simp[h1]
  have H1:=Hd h1
  clear h1
  by_cases h2:size<0
  ·have e2:decide (size<0)=true:=by simp[h2]
   have H2:=Hd h2
   clear h2
   go_enter Tryz.func144,Tryz.ntmps144
   go_wp2_with fail
   go_quiet (fail)
   go_wp2_with fail
   go_ret
   exact⟨ret_bool (by rw[←HQ.out];simp[H1.out,H2.out]),_,rfl⟩
  ·have e2:decide (size<0)=false:=by simp;omega
   have H2:=Hd h2
   clear h2
   by_cases h3:size=plain
   ·have e3:(size==(plain:Int))=true:=by simp[h3]
    have H3:=Hd h3
    clear h3
    go_enter Tryz.func144,Tryz.ntmps144
    go_wp2_with fail
    go_quiet (fail)
    go_wp2_with fail
    go_ret
    exact⟨ret_bool (by rw[←HQ.out];simp[H1.out,H2.out,H3.out]),_,rfl⟩
   ·have e3:(size==(plain:Int))=false:=by simp[h3]
    have H3:=Hd h3
    clear h3
    go_enter Tryz.func144,Tryz.ntmps144
    go_wp2_with fail
    go_quiet (fail)
    go_wp2_with fail
    go_ret
    exact⟨ret_bool (by rw[←HQ.out];simp[H1.out,H2.out,H3.out]),_,rfl⟩
 ·have e1:decide (packed<0)=false:=by simp;omega
  have H1:=Hd h1
  clear h1
  by_cases h4:packed=a1
  ·have e4:(packed==a1)=true:=by simp[h4]
   have H4:=Hd h4
   clear h4
   by_cases h2:size<0
   ·have e2:decide (size<0)=true:=by simp[h2]
    have H2:=Hd h2
    clear h2
    go_enter Tryz.func144,Tryz.ntmps144
    go_wp2_with fail
    go_quiet (fail)
    go_wp2_with fail
    go_ret
    exact⟨ret_bool (by rw[←HQ.out];simp[H1.out,H4.out,H2.out]),_,rfl⟩
   ·have e2:decide (size<0)=false:=by simp;omega
    have H2:=Hd h2
    clear h2
    by_cases h3:size=plain
    ·have e3:(size==(plain:Int))=true:=by simp[h3]
     have H3:=Hd h3
     clear h3
     go_enter Tryz.func144,Tryz.ntmps144
     go_wp2_with fail
     go_quiet (fail)
     go_wp2_with fail
     go_ret
     exact⟨ret_bool (by rw[←HQ.out];simp[H1.out,H4.out,H2.out,H3.out]),_,rfl⟩
    ·have e3:(size==(plain:Int))=false:=by simp[h3]
     have H3:=Hd h3
     clear h3
     go_enter Tryz.func144,Tryz.ntmps144
     go_wp2_with fail
     go_quiet (fail)
     go_wp2_with fail
     go_ret
     exact⟨ret_bool (by rw[←HQ.out];simp[H1.out,H4.out,H2.out,H3.out]),_,rfl⟩
  ·have e4:(packed==a1)=false:=by simp[h4]
   have H4:=Hd h4
   clear h4
   go_enter Tryz.func144,Tryz.ntmps144
   go_wp2_with fail
   go_quiet (fail)
   go_wp2_with fail
   go_ret
   exact⟨ret_bool (by rw[←HQ.out];simp[H4.out];intro h;have:=H1.out;omega),_,rfl⟩
structure Sr where
 at':Nat
 plain:Nat
 now:Nat
def nextP(b:List UInt8)(packed size:Int)(s:Sr):Except (Nat×Nat) (Head×List UInt8×Nat×Sr):=
 if beyond packed (s.at'+1) then .error (s.at',2)
 else if s.at'=b.length then .error (s.at',1)
 else match kindOf (b.getD s.at' 0).toNat with
  |none=>.error (s.at',2)
  |some k=>
    if move s.now k=4 then .error (s.at',2)
    else if k=0∧ends packed size s.at' s.plain=false then .error (s.at',2)
    else if(get ((b.drop s.at').take 6)).2.2≠0 then .error (s.at',(get ((b.drop s.at').take 6)).2.2)
    else if beyond packed (s.at'+(get ((b.drop s.at').take 6)).2.1+(get ((b.drop s.at').take 6)).1.packed)=true∨beyond size (s.plain+(get ((b.drop s.at').take 6)).1.size)=true then .error (s.at',2)
    else if b.length-(s.at'+(get ((b.drop s.at').take 6)).2.1)<(get ((b.drop s.at').take 6)).1.packed then .error (s.at'+(get ((b.drop s.at').take 6)).2.1,1)
    else .ok ((get ((b.drop s.at').take 6)).1,(b.drop (s.at'+(get ((b.drop s.at').take 6)).2.1)).take (get ((b.drop s.at').take 6)).1.packed,s.at'+(get ((b.drop s.at').take 6)).2.1,
     ⟨s.at'+(get ((b.drop s.at').take 6)).2.1+(get ((b.drop s.at').take 6)).1.packed,s.plain+(get ((b.drop s.at').take 6)).1.size,move s.now k⟩)
theorem kindOf_lt{x k:Nat}(hx:x<256)(h:kindOf x=some k):k<7:=by
 unfold kindOf at h
 split at h
 ·have:=Option.some.inj h
  omega
 ·split at h
  ·cases h
  ·have:=Option.some.inj h
   omega
theorem get_le_len(xs:List UInt8)(h:(get xs).2.2=0):(get xs).2.1≤xs.length:=by
 unfold get at*
 simp only at*
 by_cases h0:xs.length=0
 ·rw[if_pos h0] at h
  simp at h
 rw[if_neg h0] at h ⊢
 by_cases h1:(xs.getD 0 0).toNat=0
 ·rw[if_pos h1]
  simp only
  omega
 rw[if_neg h1] at h ⊢
 by_cases h2:(xs.getD 0 0).toNat≤2
 ·rw[if_pos h2] at h ⊢
  by_cases h3:xs.length<3
  ·rw[if_pos h3] at h
   simp at h
  ·rw[if_neg h3]
   simp only
   omega
 rw[if_neg h2] at h ⊢
 by_cases h3:(xs.getD 0 0).toNat<128
 ·rw[if_pos h3] at h
  simp at h
 rw[if_neg h3] at h ⊢
 by_cases h4:xs.length<5
 ·rw[if_pos h4] at h
  simp at h
 rw[if_neg h4] at h ⊢
 by_cases h5:((xs.getD 0 0).toNat-128)/32<2
 ·rw[if_pos h5]
  simp only
  omega
 rw[if_neg h5] at h ⊢
 by_cases h6:xs.length<6
 ·rw[if_pos h6] at h
  simp at h
 rw[if_neg h6] at h ⊢
 by_cases h7:St.bytePropsOk (xs.getD 5 0).toNat=true
 ·rw[if_pos h7]
  simp only
  omega
 ·rw[if_neg h7] at h
  simp at h
theorem get_small(xs:List UInt8):(get xs).1.size≤2097152∧(get xs).1.packed≤65536∧(get xs).1.kind≤6∧(get xs).2.2≤2∧(get xs).1.lc+(get xs).1.lp≤4∧(get xs).1.pb≤4:=by
 have hb1:=beV2_lt (xs.drop 1)
 have hb3:=beV2_lt (xs.drop 3)
 have hx:=UInt8.toNat_lt (xs.getD 0 0)
 have hm:(xs.getD 0 0).toNat%32<32:=Nat.mod_lt _ (by omega)
 unfold get Head.none
 simp only
 generalize beV (xs.drop 1) 2=n1 at*
 generalize beV (xs.drop 3) 2=n3 at*
 split
 ·simp
 ·split
  ·simp
  ·split
   ·split
    ·simp
    ·simp only;omega
   ·split
    ·simp
    ·split
     ·simp
     ·split
      ·simp only;omega
      ·split
       ·simp
       ·split
        ·rename_i h
         unfold St.bytePropsOk at h
         have h:=of_decide_eq_true h
         simp only
         omega
        ·simp
end Ck
namespace Ck
open Mem Wire Win
def OutAt(w:World)(Vb:Nat)(v:Value):Prop:=w.heap[Vb]? =some (.cells #[v] 22 (0,0))
theorem decode1_calls(Vb:Nat)(ov pv lv:Value)(h:Head)(out plain:List UInt8)(w0 w:World)(hV:OutAt w Vb ov)(hM:Mine w0 w ov out)(h0:w0.heap.size≤w.heap.size)(hr:Rd w pv plain)(hb:out.length+plain.length≤70368744177664):
    Calls Tryz.prog 42 #[.agg h.cells,lv,pv,Lz.ptr Vb] w fun e w'=>e=.returned (.tuple #[])∧∃ov',OutAt w' Vb ov'∧Mine w0 w' ov' (out++plain)∧Fr (fun k=>k=Vb∨ov.ownBlock=some k) w w'∧(∀k,ov'.ownBlock=some k→ov.ownBlock=some k∨w.heap.size≤k):=by
  have hf:=(Fr.refl (fun _=>False) w).alloc (.cells h.cells 47)
  have hV1:=hf.keep hV (fun h=>h)
  have c0:=cell_in (i:=0) hV1 rfl
  have hoff:∀k,ov.ownBlock=some k→k≠Vb:=by
    intro k hk e
    obtain⟨cur,hc⟩:=Lz.own_block hM.own hk
    rw[e,hV] at hc
    simp at hc
  have HV1:=Hd hV1
  have HM:=Hd (hM.keep hf)
  have HR:=Hd (hr.keep hf)
  have HF:=Hd hf
  have HOFF:=Hd hoff
  obtain⟨ph,capv,hov⟩:=hM.slice
  subst hov
  unfold Head.cells at*
  clear hV hM hr hf hV1 hoff
  go_enter Tryz.func42,Tryz.ntmps42
  go_wp2_with (at_builtin
               refine append_mine rfl _ _ rfl (w0:=w0) (.slice ph out.length capv) pv out plain rfl rfl HM.out (Nat.le_trans h0 HF.out.size) HR.out hb ?_
               intro p5 cap5 n5 w5 hn5 hM5 hfr5 hnew5
               have hV5:=hfr5.keep HV1.out (fun(e:(Value.slice ph out.length capv).ownBlock=some Vb)=>HOFF.out _ e rfl)
               have d0:=cell_in (i:=0) hV5 rfl
               have df:=fun i=>frozen_in hV5 i
               have HV5:=Hd hV5
               have HM5:=Hd hM5
               have HF5:=Hd hfr5
               have HN5:=Hd hnew5
               clear hM5 hfr5 hnew5 hn5 hV5)
  go_end0
  have hset:Fr (fun k=>k=Vb) w5 (w5.setCell ⟨Vb,0,none⟩ (.slice p5 n5 cap5)):=Fr.one _ _ _ _
  have hVm:∀k,(Value.slice p5 n5 cap5).ownBlock=some k→¬k=Vb:=by
    intro k hk e
    obtain⟨cur,hc⟩:=Lz.own_block HM5.out.own hk
    have:=HV5.out
    rw[e] at hc
    rw[hc] at this
    simp at this
  refine⟨rfl,_,set_in HV5.out 0 _,HM5.out.step hset hVm,((HF.out.mono (fun _ _ h=>h.elim)).trans (HF5.out.mono (fun _ _ h=>.inr h))).trans (hset.mono (fun _ _ h=>.inl h)),fun k hk=> ?_⟩
  have:=HF.out.size
  exact(HN5.out k hk).imp id (fun h=>Nat.le_trans this h)
end Ck
end Go.Proofs.YtlgccpjccopdmaaGreatDoor
