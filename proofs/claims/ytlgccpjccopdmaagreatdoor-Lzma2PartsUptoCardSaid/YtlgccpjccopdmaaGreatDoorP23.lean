/- Part 23 of 55: lemmas of the last part, each under the conditions that it names. -/
import Derived.Test.YtlgccpjccopdmaaGreatDoorP06
import Derived.Test.YtlgccpjccopdmaaGreatDoorP14
import Derived.Test.YtlgccpjccopdmaaGreatDoorP22
set_option linter.unusedVariables false
set_option linter.unusedSimpArgs false
set_option maxRecDepth 1500
set_option maxHeartbeats 1000000
namespace Go.Proofs.YtlgccpjccopdmaaGreatDoor
open Go.RowKit
namespace Ck
open Mem
structure Head where
 kind:Nat
 size:Nat
 packed:Nat
 lc:Nat
 lp:Nat
 pb:Nat
def Head.cells(h:Head):Array Value:=#[.int .i64 h.kind,.int .i64 h.size,.int .i64 h.packed,.int .i64 h.lc,.int .i64 h.lp,.int .i64 h.pb]
def Head.none:Head:=⟨0,0,0,0,0,0⟩
def movesL:List Nat:=[3,1,4,4,4,4,2,3,1,1,4,4,2,2,3,1,2,2,2,2,2,4,4,4,4,4,4,4]
def Moves(w:World):Prop:=∃T fr,w.heap[0]? =some (.cells (St.rowOf movesL) T fr)
theorem Moves.step{S:Nat→Prop}{w w':World}(h:Moves w)(hfr:Fr S w w')(hS:∀k,S k→5≤k):Moves w':=by
 obtain⟨t1,f1,h1⟩:=h
 exact⟨t1,f1,hfr.keep h1 (fun h=>absurd (hS _ h) (by decide))⟩
def move(now kind:Nat):Nat:=movesL.getD (7*now+kind) 0
theorem move_le:∀a:Fin 4,∀k:Fin 7,move a k≤4:=by decide
theorem Moves.at{w:World}(h:Moves w){now kind:Nat}(h1:now<4)(h2:kind<7):w.cell? ⟨0,7*now+kind,none⟩=some (.int .i64 (move now kind)):=by
 have h3:7*now+kind<movesL.length:=by simp[movesL];omega
 exact St.tab_at h h3
def OrdAt(w:World)(B now:Nat):Prop:=w.heap[B]? =some (.cells #[.int .i64 now] 174 (0,0))
theorem newOrder_calls(w:World):Calls Tryz.prog 46 #[] w fun e w'=>e=.returned (.pointer (some ⟨w.heap.size,0,none⟩))∧Fr (fun _=>False) w w'∧OrdAt w' w.heap.size 0:=by
 go_enter Tryz.func46,Tryz.ntmps46
 go_wp2_with fail
 go_ret
 exact⟨rfl,(Fr.refl _ _).alloc _,heap_alloc_new _ _⟩
theorem ended_calls(B now:Nat)(w:World)(h:OrdAt w B now):Calls Tryz.prog 91 #[.pointer (some ⟨B,0,none⟩)] w fun e w'=>e=.returned (.bool (decide (now=3)))∧w=w':=by
 have c0:w.cell? ⟨B,0,none⟩=some (.int .i64 now):=cell_in h rfl
 clear h
 by_cases h3:now=3
 ·subst h3
  go_enter Tryz.func91,Tryz.ntmps91
  go_wp2_with fail
  go_ret
  exact⟨rfl,rfl⟩
 ·have e1:((now:Int)==3)=false:=by simp;omega
  rw[show decide (now=3)=false by simp[h3]]
  clear h3
  go_enter Tryz.func91,Tryz.ntmps91
  go_wp2_with fail
  go_ret
  exact⟨rfl,rfl⟩
theorem order_calls(B now kind:Nat)(w:World)(h:OrdAt w B now)(hM:Moves w)(hn:now<4)(hk:kind<7):
 Calls Tryz.prog 47 #[.pointer (some ⟨B,0,none⟩),.int .i64 kind] w fun e w'=>e=.returned (.int .i64 (if move now kind=4 then 2 else 0))∧Fr (fun k=>k=B) w w'∧OrdAt w' B (if move now kind=4 then now else move now kind):=by
 have c0:w.cell? ⟨B,0,none⟩=some (.int .i64 now):=cell_in h rfl
 have f0:=frozen_in h 0
 have hmv:=hM.at hn hk
 have H:=Hd h
 clear h hM
 obtain rfl|rfl|rfl|rfl:now=0∨now=1∨now=2∨now=3:=by omega
 all_goals
  obtain rfl|rfl|rfl|rfl|rfl|rfl|rfl:kind=0∨kind=1∨kind=2∨kind=3∨kind=4∨kind=5∨kind=6:=by omega
 all_goals
  simp only[Nat.reduceMul,Nat.reduceAdd,Nat.mul_zero,Nat.zero_add,Nat.add_zero,move,movesL,List.getD_cons_zero,List.getD_cons_succ,Nat.reduceEqDiff,if_true,if_false] at hmv ⊢
  go_enter Tryz.func47,Tryz.ntmps47
  go_wp2_with fail
  go_ret
  first
   |exact⟨rfl,Fr.one _ _ _ _,set_in H.out 0 _⟩
   |exact⟨rfl,Fr.refl _ _,H.out⟩
def kindOf(x:Nat):Option Nat:=if x≤2 then some x else if x<128 then none else some (3+x/32%4)
def kindI(x:Nat):Int:=match kindOf x with
 |none=>-1
 |some k=>k
set_option maxRecDepth 100000 in
theorem kindOf_calls(x:Nat)(hx:x<256)(w:World):Calls Tryz.prog 143 #[.int .u8 x] w fun e w'=>e=.returned (.int .i64 (kindI x))∧w=w':=by
 have hb:bits BinOp.and IntKind.u8 ((x:Int)/32) 3=((x/32%4:Nat):Int):=by
  have h1:∀n:Fin 256,bits BinOp.and IntKind.u8 ((n.val:Int)/32) 3=((n.val/32%4:Nat):Int):=by decide+kernel
  exact h1 ⟨x,hx⟩
 have hlt:x/32%4<4:=Nat.mod_lt _ (by omega)
 unfold kindI kindOf
 generalize x/32%4=m at*
 by_cases h1:x≤2
 ·rw[if_pos h1]
  simp only
  go_enter Tryz.func143,Tryz.ntmps143
  go_wp2_with fail
  go_ret
  exact⟨rfl,rfl⟩
 ·rw[if_neg h1]
  by_cases h2:x<128
  ·rw[if_pos h2]
   simp only
   go_enter Tryz.func143,Tryz.ntmps143
   go_wp2_with fail
   go_ret
   exact⟨rfl,rfl⟩
  ·rw[if_neg h2]
   simp only
   go_enter Tryz.func143,Tryz.ntmps143
   go_wp2_with fail
   go_ret
   exact⟨ret_int (by omega),rfl⟩
def beyond(told:Int)(n:Nat):Bool:=decide (0≤told∧told<(n:Int))
theorem beyond_calls(told:Int)(n:Nat)(w:World):Calls Tryz.prog 142 #[.int .i64 told,.int .i64 n] w fun e w'=>e=.returned (.bool (beyond told n))∧w=w':=by
 generalize hq:beyond told n=q
 have HQ:=Hd hq
 clear hq
 go_enter Tryz.func142,Tryz.ntmps142
 go_wp2_with fail
 all_goals
  go_ret
  refine⟨ret_bool ?_,rfl⟩
  have h1:=HQ.out
  unfold beyond at h1
  rw[←h1,Bool.eq_iff_iff]
  simp
  try omega
end Ck
end Go.Proofs.YtlgccpjccopdmaaGreatDoor
