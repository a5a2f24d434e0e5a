/- Part 11 of 54: lemmas of the last part, each under the conditions that it names. -/
import Derived.Deep.DeepCutAuto
import Derived.Deep.CutBlock
import Derived.Test.YtffoddpjfgjelaaGreatDoorK03
set_option linter.unusedVariables false
set_option linter.unusedSimpArgs false
set_option maxRecDepth 1500
namespace Go.Proofs.YtffoddpjfgjelaaGreatDoor
open Go.RowKit
namespace St
open Mem
structure Sz where
 kind:Int
 byte:Nat
 len:Int
 dist:Int
def Sz.cells(z:Sz):Array Value:=#[.int .i64 z.kind,.int .u8 z.byte,.int .i64 z.len,.int .i64 z.dist]
def Sz.bad(z:Sz):Nat:=
 if z.kind=1∨z.kind=4 then 0
 else if z.kind=2 then(if(2≤z.len∧z.len≤273)∧1≤z.dist∧z.dist≤4294967295 then 0 else 7)
 else if z.kind=3 then(if(2≤z.len∧z.len≤273)∧0≤z.dist∧z.dist≤3 then 0 else 7)
 else 6
def Sz.sy(z:Sz):Sy:=⟨z.kind.toNat,z.byte,z.len.toNat,z.dist.toNat⟩
theorem Sz.ok{z:Sz}(h:z.bad=0)(a:z.byte<256):z.sy.Ok∧∀s:S,(s.next z.sy).1=0:=by
 obtain⟨k,b,n,d⟩:=z;unfold Sz.bad at h;simp only at h a;simp only[Sz.sy];split at h
 ·rename_i hk
  rcases hk with rfl|rfl
  ·exact⟨⟨.inl rfl,fun h=>by simp at h,a⟩,fun s=>by simp[S.next]⟩
  ·exact⟨⟨.inr (.inr (.inr rfl)),fun h=>by simp at h,a⟩,fun s=>by simp[S.next]⟩
 ·split at h
  ·rename_i hk
   subst hk;split at h
   ·rename_i h2
    have c:isL n.toNat:=⟨by omega,by omega⟩;have e:isD d.toNat:=⟨by omega,by omega⟩;exact⟨⟨.inr (.inl rfl),fun h=>by simp at h,a⟩,fun s=>by unfold S.next;rw[if_neg (by simp),if_neg (by simp),if_pos (by rfl),if_pos c,if_pos e]⟩
   ·simp at h
  ·split at h
   ·rename_i hk
    subst hk;split at h
    ·rename_i h2
     have c:isL n.toNat:=⟨by omega,by omega⟩;exact⟨⟨.inr (.inr (.inl rfl)),fun _=>by simp only;omega,a⟩,fun s=>by unfold S.next;rw[if_neg (by simp),if_neg (by simp),if_neg (by simp),if_pos c]⟩
    ·simp at h
   ·simp at h
theorem Sz.same{z:Sz}(h:z.bad=0)(a:z.kind=2∨z.kind=3):(z.sy.len:Int)=z.len∧(z.sy.dist:Int)=z.dist∧(z.sy.kind:Int)=z.kind:=by
 obtain⟨k,b,n,d⟩:=z;unfold Sz.bad at h;simp only at h a;simp only[Sz.sy];rcases a with rfl|rfl
 ·rw[if_neg (by decide),if_pos rfl] at h
  split at h
  ·omega
  ·simp at h
 ·rw[if_neg (by decide),if_neg (by decide),if_pos rfl] at h
  split at h
  ·omega
  ·simp at h
structure Sz.Fine(z:Sz):Prop where
 bad:z.bad=0
 cells:z.cells=z.sy.cells
theorem next_any(s:S)(g:s.Ok)(z:Sz)(d:z.byte<256)(b:z.Fine)(w:World)(c:Tabs w):
 Calls Tryz.prog 126 #[.agg s.cells,.agg z.cells] w fun e i=>e=.returned (.tuple #[.agg (if z.bad=0 then(s.next z.sy).2 else .zero).cells,.int .i64 z.bad])∧Fr (fun _=>False) w i:=by
 obtain⟨h,f⟩:=Sz.ok b.bad d;have a:=next_calls s g z.sy h w c;rw[f s] at a;rw[b.bad,if_pos rfl,b.cells];exact a
end St
namespace St
open Mem Win
def applyZ(size:Nat)(all:List UInt8)(s:S)(z:Sz):Nat×List UInt8×S:=if z.bad=0 then apply size all s z.sy else(z.bad,[],.zero)
theorem apply_any(B size t:Nat)(rv:Value)(all ring:List UInt8)(s:S)(f:s.Ok)(z:Sz)(d:z.byte<256)(b:z.Fine)(w:World)(c:Tabs w)(h:Win.At w B rv size all ring t)(a:all.length≤1152921504606846000):
 Calls Tryz.prog 133 #[.pointer (some ⟨B,0,none⟩),.agg s.cells,.agg z.cells] w fun e g=>∃v,e=.returned (.tuple #[v,.agg (applyZ size all s z).2.2.cells,.int .i64 (applyZ size all s z).1])∧Done w B size rv all (applyZ size all s z).2.1 v g:=by
 unfold applyZ;rw[if_pos b.bad,b.cells];exact apply_calls B size t rv all ring s f z.sy (Sz.ok b.bad d).1 w c h a
end St
namespace St
open Mem
theorem ret_two{a b:Int}(h:a=b):Ending.returned (.tuple #[.int .i64 a,.int .i64 0])=.returned (.tuple #[.int .i64 b,.int .i64 0]):=by rw[h]
theorem propsV_calls(lc lp pb:Nat)(f:lc+lp≤4)(g:pb≤4)(w:World):
 Calls Tryz.prog 49 #[.agg #[.int .i64 lc,.int .i64 lp,.int .i64 pb]] w fun e d=>e=.returned (.tuple #[.int .i64 ((5*pb+lp)*9+lc:Nat),.int .i64 0])∧Fr (fun _=>False) w d:=by
 have b:=Hd ((R0 w).alloc (.cells #[.int .i64 lc,.int .i64 lp,.int .i64 pb] 24));obtain⟨x,a⟩:∃x:Nat,x=(5*pb+lp)*9+lc:=⟨_,rfl⟩;rw[←a];have c:=Hd a;clear a;have h:(decide ((lc:Int)<0))=false:=decide_eq_false (by omega);have i:(decide ((lp:Int)<0))=false:=decide_eq_false (by omega);have j:(decide ((pb:Int)<0))=false:=decide_eq_false (by omega);have k:(decide (4<(pb:Int)))=false:=decide_eq_false (by omega);have l:(decide ((pb:Int)>4))=false:=decide_eq_false (by omega);have m:(decide (4<(lc:Int)))=false:=decide_eq_false (by omega);have n:(decide ((lc:Int)>4))=false:=decide_eq_false (by omega);have o:(decide (4-(lc:Int)<lp))=false:=decide_eq_false (by omega);have p:(decide ((lp:Int)>4-(lc:Int)))=false:=decide_eq_false (by omega);go_enter Tryz.func49,Tryz.ntmps49;go_wp2_with fail;go_ret2;exact⟨ret_two (by have:=c.out;omega),b.out⟩
end St
namespace Pa
theorem flat_at{α:Type}(f:α→List Value)(z:Nat)(b:∀a,(f a).length=z):∀(l:List α)(i j:Nat)(a:α),j<z→l[i]? =some a→(l.flatMap f)[i*z+j]? =(f a)[j]?
 |[],i,j,a,hj,h=>by simp at h
 |x::r,0,j,a,hj,h=>by
   simp only[List.getElem?_cons_zero,Option.some.injEq] at h;subst h;rw[List.flatMap_cons,Nat.zero_mul,Nat.zero_add,List.getElem?_append_left (by rw[b];exact hj)]
 |x::r,i+1,j,a,hj,h=>by
   rw[List.getElem?_cons_succ] at h;have c:=flat_at f z b r i j a hj h;rw[List.flatMap_cons,List.getElem?_append_right (by rw[b,Nat.add_mul];omega),b,←c];congr 1;rw[Nat.add_mul];omega
end Pa
end Go.Proofs.YtffoddpjfgjelaaGreatDoor
