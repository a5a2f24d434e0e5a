/- Part 4 of 54: lemmas of the last part, each under the conditions that it names. -/
import Derived.Test.YtffoddpjfgjelaaGreatDoorRows
import Derived.BigRegion
import Derived.Deep.QuietTactic
import Derived.BigQuiet
import Derived.WalkLawsBesides
import Derived.Deep.RegionHeld3
import Derived.Laws.Bits64b
import Derived.LoopN
import Derived.Test.YtffoddpjfgjelaaGreatDoorK03
set_option linter.unusedVariables false
set_option linter.unusedSimpArgs false
set_option maxRecDepth 1500
set_option maxHeartbeats 4000000
namespace Go.Proofs.YtffoddpjfgjelaaGreatDoor
open Go.RowKit
namespace Rc
open Mem
structure D where
 b:List UInt8
 read:Nat
 rng:Nat
 now:Nat
def D.widen(d:D):Option D:=
 if 16777216≤d.rng then some d else match d.b[d.read]? with
  |none=>none
  |some c=>some ⟨d.b,d.read+1,d.rng*256,d.now*256+c.toNat⟩
def D.upper(d:D)(cut:Nat):Nat×D:=if d.now<cut then(0,⟨d.b,d.read,cut,d.now⟩) else(1,⟨d.b,d.read,d.rng-cut,d.now-cut⟩)
def cutAt(r p:Nat):Nat:=r/2048*p
def D.bit(d:D)(p:Nat):Option (Nat×D):=(d.upper (cutAt d.rng p)).2.widen.map fun e=>((d.upper (cutAt d.rng p)).1,e)
def D.direct:Nat→Nat→D→Except Nat (Nat×D)
 |0,v,d=>.ok (v,d)
 |n+1,v,d=>
   if(if d.rng/2≤d.now then d.now-d.rng/2 else d.now)=d.rng/2 then .error 2 else
   match (⟨d.b,d.read,d.rng/2,if d.rng/2≤d.now then d.now-d.rng/2 else d.now⟩:D).widen with
   |none=>.error 1
   |some e=>D.direct n (if d.rng/2≤d.now then 2*v+1 else 2*v) e
end Rc
namespace Rc
open Mem
end Rc
namespace Rc
open Mem
end Rc
namespace Rc
open Mem
end Rc
namespace Rc
open Mem
theorem five(w:World)(a b c d e:Obj):Fr (fun _=>False) w (((((w.alloc a).alloc b).alloc c).alloc d).alloc e)∧(((((w.alloc a).alloc b).alloc c).alloc d).alloc e).heap.size=w.heap.size+5∧
 (((((w.alloc a).alloc b).alloc c).alloc d).alloc e).heap[w.heap.size]? =some a∧(((((w.alloc a).alloc b).alloc c).alloc d).alloc e).heap[w.heap.size+1]? =some b∧(((((w.alloc a).alloc b).alloc c).alloc d).alloc e).heap[w.heap.size+1+1]? =some c∧
 (((((w.alloc a).alloc b).alloc c).alloc d).alloc e).heap[w.heap.size+1+1+1]? =some d∧(((((w.alloc a).alloc b).alloc c).alloc d).alloc e).heap[w.heap.size+1+1+1+1]? =some e:=by
 have k:=fun(W:World)(o:Obj)=>(R0 W).alloc o;have l:=heap_alloc_new w a;have f:=heap_alloc_new (w.alloc a) b;have g:=heap_alloc_new ((w.alloc a).alloc b) c;have i:=heap_alloc_new (((w.alloc a).alloc b).alloc c) d;have j:=heap_alloc_new ((((w.alloc a).alloc b).alloc c).alloc d) e;simp only[World.size_alloc] at f g i j;exact⟨((((k w a).alloc b).alloc c).alloc d).alloc e,by simp,((((k _ b).alloc c).alloc d).alloc e).keep l (fun h=>h),(((k _ c).alloc d).alloc e).keep f (fun h=>h),((k _ d).alloc e).keep g (fun h=>h),(k _ e).keep i (fun h=>h),j⟩
set_option maxRecDepth 100000 in
theorem bound_cut(r p:Nat)(w:World)(c:r≤4294967295)(b:p≤2047):Calls Tryz.prog 293 #[.int .u32 r,.int .i64 p] w fun e a=>e=.returned (.int .u32 (cutAt r p:Nat))∧w=a:=by
 refine(Prob.boundR_calls r p w (by omega) (by omega)).mono ?_;rintro e a ⟨rfl,rfl⟩;refine⟨?_,rfl⟩;have:Prob.bnd (r:Int) (p:Int)=((cutAt r p:Nat):Int):=by
  unfold Prob.bnd cutAt;rw[Prob.taken_id _ (by omega) (by omega)];simp
 rw[this]
end Rc
namespace Rc
open Mem
structure R where
 bit:Nat
 err:Nat
 d:D
 ps:List Nat
def bitAt(d:D)(ps:List Nat)(i:Nat):R:=
 match ps[i]? with
 |none=>⟨0,7,d,ps⟩
 |some p=>match d.bit p with
   |none=>⟨0,1,d,ps⟩
   |some (v,e)=>⟨v,0,e,ps.set i (Prob.nextN p v)⟩
def okP(ps:List Nat):Prop:=∀p ∈ ps,p≤2047
end Rc
namespace Tr
open Mem Rc
def ord(back:Bool)(n k:Nat):Nat:=if back then k else n-1-k
structure G where
 err:Nat
 v:Nat
 d:D
 ps:List Nat
def go(back:Bool)(n a:Nat):Nat→Nat→Nat→D→List Nat→G
 |0,_,v,d,ps=>⟨0,v,d,ps⟩
 |f+1,m,v,d,ps=>
   if(bitAt d ps (a+m)).err≠0 then⟨(bitAt d ps (a+m)).err,v|||((bitAt d ps (a+m)).bit<<<ord back n (n-(f+1))),(bitAt d ps (a+m)).d,(bitAt d ps (a+m)).ps⟩
   else go back n a f (2*m+(bitAt d ps (a+m)).bit) (v|||((bitAt d ps (a+m)).bit<<<ord back n (n-(f+1)))) (bitAt d ps (a+m)).d (bitAt d ps (a+m)).ps
def get(back:Bool)(d:D)(ps:List Nat)(a n:Nat):R:=
 if n≤16∧a≤ps.length∧2^n≤ps.length-a then
  ⟨if(go back n a n 1 0 d ps).err=0 then(go back n a n 1 0 d ps).v else 0,(go back n a n 1 0 d ps).err,(go back n a n 1 0 d ps).d,(go back n a n 1 0 d ps).ps⟩
 else⟨0,7,d,ps⟩
theorem order_calls(back:Bool)(n k:Nat)(w:World)(d:k<n)(f:n≤16):
 Calls Tryz.prog 318 #[.bool back,.int .i64 n,.int .i64 k] w fun e c=>e=.returned (.int .i64 (ord back n k))∧w=c:=by
 have b:((n-1-k:Nat):Int)=(n:Int)-1-k:=by omega
 cases back
 ·have a:ord false n k=n-1-k:=rfl
  rw[a,b];clear a b;go_enter Tryz.func318,Tryz.ntmps318;go_wp2_with fail;go_ret;exact⟨rfl,rfl⟩
 ·have a:ord true n k=k:=rfl
  rw[a];clear a b;go_enter Tryz.func318,Tryz.ntmps318;go_wp2_with fail;go_ret;exact⟨rfl,rfl⟩
theorem slen_calls(b g:Nat)(ps:List Nat)(w:World)(h:Prob.SetAt w b g ps):
 Calls Tryz.prog 319 #[.pointer (some ⟨b,0,none⟩)] w fun e d=>e=.returned (.int .i64 ps.length)∧w=d:=by
 obtain⟨a,f,c,_⟩:=h;exact Prob.len_calls b g ps.length a w (cell_in c rfl)
end Tr
namespace Tr
open Mem Rc
end Tr
namespace Tr
open Mem Rc
def thereB(ps:List Nat)(a n:Nat):Bool:=decide (n≤16∧a≤ps.length∧2^n≤ps.length-a)
set_option maxRecDepth 100000 in
theorem there_calls(b g a n:Nat)(ps:List Nat)(w:World)(h:Prob.SetAt w b g ps)(B:a≤1099511627776)(D:n≤1099511627776)(C:ps.length≤1099511627776):
 Calls Tryz.prog 315 #[.pointer (some ⟨b,0,none⟩),.int .i64 a,.int .i64 n] w fun e r=>e=.returned (.bool (thereB ps a n))∧Fr (fun _=>False) w r:=by
 have f:∀m,Calls Tryz.prog 319 #[.pointer (some ⟨b,0,none⟩)] (w.drewN m) fun e r=>e=.returned (.int .i64 ps.length)∧w.drewN m=r:=fun m=>slen_calls b g ps _ (h.keep ((Fr.refl _ _).drewN m));generalize u:thereB ps a n=q;have i:=Hd u;have c:=Hd f;clear u h f;unfold thereB at i;generalize ps.length=l at*;have F:decide ((n:Int)≥0)=true:=by simp
 have G:decide ((0:Int)≤(n:Int))=true:=by simp
 have H:decide ((a:Int)≥0)=true:=by simp
 have I:decide ((0:Int)≤(a:Int))=true:=by simp
 by_cases j:n≤16
 ·have y:decide ((n:Int)≤16)=true:=by simp;omega
  by_cases k:a≤l
  ·have z:decide ((a:Int)≤(l:Int))=true:=by simp;omega
   have o:2^n≤65536:=Nat.le_trans (Nat.pow_le_pow_right (by omega) j) (by decide);have d:((2^n:Nat):Int)=2^n:=by simp
   have p:IntKind.i64.wrap (2^n)=2^n:=by
    rw[←d];have v:=Int.natCast_nonneg (2^n);have x:((2^n:Nat):Int)≤((65536:Nat):Int):=Int.ofNat_le.2 o;exact IntWalk.i64_in _ ⟨Int.le_trans (by decide) v,Int.le_trans x (by decide)⟩
   have E:IntKind.i64.wrap (1*2^n)=2^n:=by rw[Int.one_mul];exact p
   have t:min n 64=n:=by omega
   by_cases s:2^n≤l-a
   ·have A:decide ((2:Int)^n≤(l:Int)-a)=true:=by rw[←d];simp only[decide_eq_true_eq];omega
    clear d o;go_enter Tryz.func315,Tryz.ntmps315;go_wp2_with fail;go_quiet (exact quiet_left (c.out _));go_wp2_with fail;go_ret;exact⟨by rw[←i.out];simp[j,k,s],(Fr.refl _ _).drewN _⟩
   ·have A:decide ((2:Int)^n≤(l:Int)-a)=false:=by rw[←d];simp only[decide_eq_false_iff_not];omega
    clear d o;go_enter Tryz.func315,Tryz.ntmps315;go_wp2_with fail;go_quiet (exact quiet_left (c.out _));go_wp2_with fail;go_ret;exact⟨by rw[←i.out];simp[j,k,s],(Fr.refl _ _).drewN _⟩
  ·have z:decide ((a:Int)≤(l:Int))=false:=by simp;omega
   go_enter Tryz.func315,Tryz.ntmps315;go_wp2_with fail;go_quiet (exact quiet_left (c.out _));go_wp2_with fail;go_ret;exact⟨by rw[←i.out];simp[k],(Fr.refl _ _).drewN _⟩
 ·have y:decide ((n:Int)≤16)=false:=by simp;omega
  go_enter Tryz.func315,Tryz.ntmps315;go_wp2_with fail;go_quiet (exact quiet_left (c.out _));go_wp2_with fail;go_ret;exact⟨by rw[←i.out];simp[j],(Fr.refl _ _).drewN _⟩
end Tr
namespace Rc
open Mem
end Rc
namespace Rc
open Mem
theorem three(w:World)(a b c:Obj):Fr (fun _=>False) w (((w.alloc a).alloc b).alloc c)∧(((w.alloc a).alloc b).alloc c).heap.size=w.heap.size+3∧
 (((w.alloc a).alloc b).alloc c).heap[w.heap.size]? =some a∧(((w.alloc a).alloc b).alloc c).heap[w.heap.size+1]? =some b∧(((w.alloc a).alloc b).alloc c).heap[w.heap.size+1+1]? =some c:=by
 have k:=fun(W:World)(o:Obj)=>(R0 W).alloc o;have f:=heap_alloc_new w a;have d:=heap_alloc_new (w.alloc a) b;have e:=heap_alloc_new ((w.alloc a).alloc b) c;simp only[World.size_alloc] at d e;exact⟨((k w a).alloc b).alloc c,by simp,((k _ b).alloc c).keep f (fun h=>h),(k _ c).keep d (fun h=>h),e⟩
end Rc
namespace Rc
open Mem
def beN(xs:List UInt8):Nat→Nat
 |0=>0
 |k+1=>beN xs k*256+(xs.getD (k+1) 0).toNat
def init(xs:List UInt8):Except Nat D:=
 if xs.length<5 then .error 1 else if xs.getD 0 0≠0∨beN xs 4=4294967295 then .error 2 else .ok ⟨xs,5,4294967295,beN xs 4⟩
end Rc
namespace Lz
open Mem Rc St
structure Y where
 d:D
 bad:Bool
 ps:Nat→List Nat
def upd(ps:Nat→List Nat)(j:Nat)(l:List Nat):Nat→List Nat:=fun k=>if k=j then l else ps k
theorem upd_same(ps:Nat→List Nat)(j:Nat)(l:List Nat):upd ps j l j=l:=if_pos rfl
theorem upd_other(ps:Nat→List Nat){j k:Nat}(l:List Nat)(h:k≠j):upd ps j l k=ps k:=if_neg h
def gotN(v er:Nat):Nat:=if er=0 then v else 0
def Y.put(y:Y)(j:Nat)(r:R):Nat×Y:=(gotN r.bit r.err,⟨r.d,decide (r.err≠0),upd y.ps j r.ps⟩)
def Y.bit(y:Y)(j i:Nat):Nat×Y:=if y.bad then(0,y) else y.put j (bitAt y.d (y.ps j) i)
def Y.tree(y:Y)(back:Bool)(j a n:Nat):Nat×Y:=if y.bad then(0,y) else y.put j (Tr.get back y.d (y.ps j) a n)
def Y.direct(y:Y)(n:Nat):Nat×Y:=if y.bad then(0,y) else match D.direct n 0 y.d with
 |.ok (v,e)=>(v,⟨e,false,y.ps⟩)
 |.error _=>(0,⟨y.d,true,y.ps⟩)
structure C where
 lc:Nat
 lp:Nat
 pb:Nat
 s:S
 size:Nat
 all:List UInt8
structure C.Ok(c:C):Prop where
 l:c.lc+c.lp≤4
 pb:c.pb≤4
 s:c.s.Ok
def C.place(c:C):Nat:=c.all.length%2^c.pb
def C.at(c:C):Nat:=c.s.num*16+c.place
def C.lastB(c:C)(d:Nat):Nat:=(Win.last c.size c.all d).1
def C.context(c:C):Nat:=768*(c.all.length%2^c.lp*2^c.lc+c.lastB 1/2^(8-c.lc))
def litGo(u a:Nat):Nat→Nat→Bool→Y→Nat×Y
 |0,m,_,y=>(m,y)
 |k+1,m,same,y=>
   litGo u a k (2*m+(y.bit 6 (a+m+if same then 256*(1+u/2^k%2) else 0)).1) (same&&decide ((y.bit 6 (a+m+if same then 256*(1+u/2^k%2) else 0)).1=u/2^k%2)) (y.bit 6 (a+m+if same then 256*(1+u/2^k%2) else 0)).2
def Y.literal(y:Y)(c:C):Nat×Y:=
 if c.s.num<7 then y.tree false 6 c.context 8 else((litGo (c.lastB c.s.r0) c.context 8 1 true y).1-256,(litGo (c.lastB c.s.r0) c.context 8 1 true y).2)
def Y.length(y:Y)(c:C)(q:Nat):Nat×Y:=
 if(y.bit q 0).1=0 then(2+((y.bit q 0).2.tree false (q+1) (8*c.place) 3).1,((y.bit q 0).2.tree false (q+1) (8*c.place) 3).2)
 else if((y.bit q 0).2.bit q 1).1=0 then(10+(((y.bit q 0).2.bit q 1).2.tree false (q+2) (8*c.place) 3).1,(((y.bit q 0).2.bit q 1).2.tree false (q+2) (8*c.place) 3).2)
 else(18+(((y.bit q 0).2.bit q 1).2.tree false (q+3) 0 8).1,(((y.bit q 0).2.bit q 1).2.tree false (q+3) 0 8).2)
def Y.rest(y:Y)(slot:Nat):Nat×Y:=
 if(range slot).2=0 then((range slot).1,y)
 else if slot<14 then((range slot).1+(y.tree true 16 (restAt slot) (range slot).2).1,(y.tree true 16 (restAt slot) (range slot).2).2)
 else((range slot).1+(y.direct ((range slot).2-4)).1*16+((y.direct ((range slot).2-4)).2.tree true 17 0 4).1,((y.direct ((range slot).2-4)).2.tree true 17 0 4).2)
def slotAt(n:Nat):Nat:=64*min (n-2) 3
def Y.dist(y:Y)(n:Nat):Nat×Y:=(y.tree false 15 (slotAt n) 6).2.rest (y.tree false 15 (slotAt n) 6).1
def Y.match(y:Y)(c:C):Sy×Y:=(⟨2,0,(y.length c 7).1,((y.length c 7).2.dist (y.length c 7).1).1⟩,((y.length c 7).2.dist (y.length c 7).1).2)
def Y.repeat(y:Y)(c:C)(i:Nat):Sy×Y:=(⟨3,0,(y.length c 11).1,i⟩,(y.length c 11).2)
def Y.lit(y:Y)(c:C):Sy×Y:=(⟨1,(y.literal c).1,0,0⟩,(y.literal c).2)
def Y.short(y:Y)(c:C):Sy×Y:=if(y.bit 1 c.at).1=0 then(⟨4,0,0,0⟩,(y.bit 1 c.at).2) else(y.bit 1 c.at).2.repeat c 0
def Y.older(y:Y)(c:C):Sy×Y:=if(y.bit 4 c.s.num).1=1 then((y.bit 4 c.s.num).2.bit 5 c.s.num).2.repeat c (2+((y.bit 4 c.s.num).2.bit 5 c.s.num).1) else(y.bit 4 c.s.num).2.repeat c 1
def Y.symbol2(y:Y)(c:C):Sy×Y:=if(y.bit 3 c.s.num).1=0 then(y.bit 3 c.s.num).2.short c else(y.bit 3 c.s.num).2.older c
def Y.symbol1(y:Y)(c:C):Sy×Y:=if(y.bit 2 c.s.num).1=0 then(y.bit 2 c.s.num).2.match c else(y.bit 2 c.s.num).2.symbol2 c
def Y.symbol(y:Y)(c:C):Sy×Y:=if(y.bit 0 c.at).1=0 then(y.bit 0 c.at).2.lit c else(y.bit 0 c.at).2.symbol1 c
/- what is so of them -/
end Lz
namespace Lz
open Mem Rc St
structure L where
 X:Nat
 D:Nat
 R:Nat
 T:Nat
 W:Nat
 bv:Value
 rv:Value
 ring:List UInt8
 t:Nat
 b:Nat→Nat
 g:Nat→Nat
end Lz
namespace Lz
open Mem Rc St
end Lz
namespace Lz
open Mem Rc St
theorem lift{S:Nat→Prop}{w w':World}(h:Fr (fun _=>False) w w'):Fr S w w':=h.mono (fun _ _ h=>h.elim)
theorem C.Ok.place{c:C}(h:c.Ok):c.place<16:=Nat.lt_of_lt_of_le (Nat.mod_lt _ (Nat.two_pow_pos c.pb)) (Nat.pow_le_pow_right (n:=2) (by omega) h.pb)
end Lz
namespace Lz
open Mem Rc St
theorem late_yes(s:Nat)(h:14≤s)(w:World):Calls Tryz.prog 245 #[.int .i64 s] w fun e a=>e=.returned (.bool true)∧w=a:=by
 have:=late_calls s w;rwa [show decide (14≤s)=true by simp[h]] at this
theorem late_no(s:Nat)(h:s<14)(w:World):Calls Tryz.prog 245 #[.int .i64 s] w fun e a=>e=.returned (.bool false)∧w=a:=by
 have:=late_calls s w;rwa [show decide (14≤s)=false by simp;omega] at this
end Lz
namespace Lz
open Mem Rc St
theorem and_one(b j:Nat)(d:b<256):bits BinOp.and IntKind.i64 ((b:Int)/2^j) 1=((b/2^j%2:Nat):Int):=by
 have a:((b:Int)/2^j)=((b/2^j:Nat):Int):=by simp
 rw[a];have c:b/2^j≤b:=Nat.div_le_self _ _;exact and_low (b/2^j) 1 (by omega) (by omega)
theorem At.litC(c:C)(W:World)(b:Bool)(a:decide (c.s.num<7)=b):Calls Tryz.prog 242 #[.agg #[.int .i64 c.s.num,.int .i64 c.s.r0,.int .i64 c.s.r1,.int .i64 c.s.r2,.int .i64 c.s.r3]] W fun e d=>e=.returned (.bool b)∧Fr (fun _=>False) W d:=by
 rw[←a];exact St.literal_calls c.s W
end Lz
namespace Lz
open Mem Rc St
end Lz
namespace Lz
open Mem Rc St
def L.F(l:L)(k:Nat):Prop:=k=l.D∨k=l.T∨k=l.W∨l.rv.ownBlock=some k∨∃j,j<18∧(k=l.g j∨k=l.b j)
structure Dec(w:World)(l:L)(c:C)(ps:Nat→List Nat)(sp:Bool):Prop where
 d:w.heap[l.D]? =some (.cells #[ptr l.T,ptr l.W,.bool sp] 272 (0,0))
 tab:Tab w l.T l.b l.g c.lc c.lp c.pb c.s ps
 win:Win.At w l.W l.rv c.size c.all l.ring l.t
 okc:c.Ok
 len:∀j,j<18→(ps j).length=rowLen c.lc c.lp j
theorem Dec.old{w:World}{l:L}{c:C}{ps:Nat→List Nat}{d:Bool}(h:Dec w l c ps d):∀k,l.F k→k<w.heap.size:=by
 rintro k (rfl|rfl|rfl|b|⟨j,a,rfl|rfl⟩)
 ·exact lt_of_block h.d
 ·exact lt_of_block h.tab.box
 ·exact lt_of_block h.win.box
 ·exact(World.ownsRow.lt h.win.own k b).2
 ·exact(h.tab.set j a).lt.2
 ·exact(h.tab.set j a).lt.1
theorem Dec.keep{S:Nat→Prop}{w w':World}{l:L}{c:C}{ps:Nat→List Nat}{e:Bool}(h:Dec w l c ps e)(a:Fr S w w')(b:∀k,l.F k→¬S k):Dec w' l c ps e:=
 ⟨a.keep h.d (b _ (.inl rfl)),⟨a.keep h.tab.box (b _ (.inr (.inl rfl))),fun j d=>(h.tab.set j d).step a (b _ (.inr (.inr (.inr (.inr ⟨j,d,.inr rfl⟩))))) (b _ (.inr (.inr (.inr (.inr ⟨j,d,.inl rfl⟩))))),h.tab.inj⟩,
  h.win.keep a (b _ (.inr (.inr (.inl rfl)))) (fun k hk=>b k (.inr (.inr (.inr (.inl hk))))),h.okc,h.len⟩
theorem Dec.keep0{w w':World}{l:L}{c:C}{ps:Nat→List Nat}{b:Bool}(h:Dec w l c ps b)(a:Fr (fun _=>False) w w'):Dec w' l c ps b:=h.keep a (fun _ _ h=>h)
structure Nx(w:World)(l l':L):Prop where
 D:l'.D=l.D
 F:∀k,l'.F k→l.F k∨w.heap.size≤k
theorem raw_calls{l:L}{c:C}{ps:Nat→List Nat}{x:Bool}{w:World}(h:Dec w l c ps x)(v:Value)(xs:List UInt8)(E:Rd w v xs)(n:0<xs.length→∀k,v.ownBlock=some k→¬l.F k)(Q:c.all.length+xs.length≤1152921504606846976):
 Calls Tryz.prog 96 #[ptr l.D,v] w fun e F=>e=.returned (.tuple #[])∧Fr l.F w F∧∃l',Nx w l l'∧Dec F l' {c with all:=c.all++xs} ps x:=by
 have I:=Hd (Win.put_calls l.W c.size l.t l.rv v c.all l.ring xs w h.win E (fun M k a O=>n M k a (.inr (.inr (.inr (.inl O))))) Q);have U:w.cell? ⟨l.D,1,none⟩=some (ptr l.W):=cell_in h.d rfl;have H:=Hd h;clear h E;go_enter Tryz.func96,Tryz.ntmps96;go_wp2_with fail;refine I.out.mono ?_;rintro e G ⟨rfl,u,m,T,f,A,B⟩;have h:=H.out;have q:∀k,l.F k→k≠l.W→l.rv.ownBlock≠some k→¬(k=l.W∨l.rv.ownBlock=some k):=fun k _ o p d=>d.elim o p;have i:Fr l.F w G∧∃l',Nx w l l'∧Dec G l' {c with all:=c.all++xs} ps x:=by
  refine⟨f.mono (fun k _ a=>by rcases a with a|a;exact .inr (.inr (.inl a));exact .inr (.inr (.inr (.inl a)))),{l with rv:=u,ring:=m,t:=T},⟨rfl,fun k a=> ?_⟩,?_⟩
  ·rcases a with a|a|a|a|a
   ·exact .inl (.inl a)
   ·exact .inl (.inr (.inl a))
   ·exact .inl (.inr (.inr (.inl a)))
   ·exact(B k a).imp (fun h=>.inr (.inr (.inr (.inl h)))) id
   ·exact .inl (.inr (.inr (.inr (.inr a))))
  ·have b:∀{k:Nat}{y:Array Value}{t:TypeId}{z:Nat×Nat},w.heap[k]? =some (.cells y t z)→t≠210→t≠5→¬(k=l.W∨l.rv.ownBlock=some k):=by
    intro k y t z a o p d;rcases d with d|d
    ·rw[d,h.win.box] at a
     simp only[Option.some.injEq,Obj.cells.injEq] at a;exact o a.2.1.symm
    ·rcases h.win.own.2 with⟨R,_⟩|⟨g,J,K,s,_,r,_⟩
     ·rw[R] at d
      simp[Value.ownBlock] at d
     ·rw[s] at d
      simp only[Value.ownBlock,Option.some.injEq] at d;rw[←d,r] at a;simp only[Option.some.injEq,Obj.cells.injEq] at a;exact p a.2.1.symm
   refine⟨f.keep h.d (b h.d (by decide) (by decide)),⟨f.keep h.tab.box (b h.tab.box (by decide) (by decide)),fun j D=> ?_,h.tab.inj⟩,A,⟨h.okc.l,h.okc.pb,h.okc.s⟩,h.len⟩;have S:=h.tab.set j D;obtain⟨_,_,N,P,_⟩:=h.tab.set j D;exact S.step f (b N (by decide) (by decide)) (b P (by decide) (by decide))
 have i:=Hd i;clear f A B h q;go_wp2_with fail;go_end0;exact⟨rfl,i.out⟩
end Lz
namespace Lz
open Mem Rc St
def C.fresh(c:C)(lc lp pb:Nat):C:={c with lc:=lc,lp:=lp,pb:=pb,s:=S.new}
theorem fresh_len(lc lp j:Nat):(fresh lc lp j).length=rowLen lc lp j:=by simp[fresh]
theorem Dec.tabs{w f:World}{l:L}{c:C}{ps:Nat→List Nat}{u:Bool}(h:Dec w l c ps u){T lc lp pb:Nat}{b g:Nat→Nat}(d:Fr (fun _=>False) w f)(q:Tab f T b g lc lp pb S.new (fresh lc lp))
 (y:w.heap.size≤T)(s:∀j,j<18→w.heap.size≤b j∧w.heap.size≤g j)(A:lc+lp≤4)(B:pb≤4):
 Fr l.F w (f.setCell ⟨l.D,0,none⟩ (ptr T))∧Nx w l {l with T:=T,b:=b,g:=g}∧Dec (f.setCell ⟨l.D,0,none⟩ (ptr T)) {l with T:=T,b:=b,g:=g} (c.fresh lc lp pb) (fresh lc lp) u:=by
 have z:=d.keep h.d (fun h=>h);have E:=lt_of_block h.d;have p:Fr (fun k=>k=l.D) f (f.setCell ⟨l.D,0,none⟩ (ptr T)):=Fr.one _ _ _ _;refine⟨(lift d).trans (p.mono (fun i _(e:i=l.D)=>.inl e)),⟨rfl,fun k a=> ?_⟩,⟨set_in z 0 _,⟨p.keep q.box (show¬T=l.D by omega),fun j n=> ?_,q.inj⟩,?_,⟨A,B,S.new_ok⟩,fun j _=>fresh_len lc lp j⟩⟩
 ·rcases a with a|a|a|a|⟨j,n,a|a⟩
  ·exact .inl (.inl a)
  ·exact .inr (by simp only at a;omega)
  ·exact .inl (.inr (.inr (.inl a)))
  ·exact .inl (.inr (.inr (.inr (.inl a))))
  ·have:=s j n
   exact .inr (by simp only at a;omega)
  ·have:=s j n
   exact .inr (by simp only at a;omega)
 ·have:=s j n
  exact(q.set j n).step p (fun(e:b j=l.D)=>by omega) (fun(e:g j=l.D)=>by omega)
 ·refine(h.win.keep d (fun h=>h) (fun _ _ h=>h)).keep p (fun(e:l.W=l.D)=> ?_) (fun k a(e:k=l.D)=> ?_)
  ·have t:=h.win.box
   rw[e,h.d] at t;simp at t
  ·rcases h.win.own.2 with⟨o,_⟩|⟨D,v,x,r,_,m,_⟩
   ·rw[o] at a
    simp[Value.ownBlock] at a
   ·rw[r] at a
    simp only[Value.ownBlock,Option.some.injEq] at a;rw[a,e,h.d] at m;simp at m
theorem clear_calls{l:L}{c:C}{ps:Nat→List Nat}{Q:Bool}{w:World}(h:Dec w l c ps Q):
 Calls Tryz.prog 94 #[ptr l.D] w fun e R=>e=.returned (.tuple #[])∧Fr l.F w R∧∃l',Nx w l l'∧Dec R l' {c.fresh c.lc c.lp c.pb with all:=[]} (fresh c.lc c.lp) false:=by
 have I:=fun W=>Hd (tables_calls c.lc c.lp c.pb W h.okc.l);unfold NewPost at I;have X:w.cell? ⟨l.D,0,none⟩=some (ptr l.T):=cell_in h.d rfl;have Y:w.cell? ⟨l.T,0,none⟩=some (.int .i64 c.lc):=cell_in h.tab.box rfl;have Z:w.cell? ⟨l.T,1,none⟩=some (.int .i64 c.lp):=cell_in h.tab.box rfl;have x3:w.cell? ⟨l.T,2,none⟩=some (.int .i64 c.pb):=cell_in h.tab.box rfl;have z:=Hd h;clear h;go_enter Tryz.func94,Tryz.ntmps94;go_wp2_with fail;refine(I _).out.mono ?_;rintro e H ⟨T,b,g,rfl,m,p,D,O⟩;have A:=z.out.keep0 m;have n:=Hd (z.out.tabs m p D O z.out.okc.l z.out.okc.pb);have y0:H.cell? ⟨l.D,0,none⟩=some (ptr l.T):=cell_in A.d rfl;have y1:H.cell? ⟨l.D,1,none⟩=some (ptr l.W):=cell_in A.d rfl;have yf:=frozen_in A.d 0;have U:=Hd (Win.clear_calls l.W c.size l.t l.rv c.all l.ring _ n.out.2.2.win);clear m p O A X Y Z x3;go_wp2_with fail;refine U.out.mono ?_;rintro e u ⟨rfl,a,s⟩;have k:=n.out.2.2;have f:=a.keep k.d (fun(e:l.D=l.W)=>by
  have r:=k.win.box;simp only[←e] at r;rw[k.d] at r;simp at r)
 have z0:u.cell? ⟨l.D,2,none⟩=some (.bool Q):=cell_in f rfl;have zf:=frozen_in f 2;have q:Fr l.F w (u.setCell ⟨l.D,2,none⟩ (.bool false))∧∃l',Nx w l l'∧Dec (u.setCell ⟨l.D,2,none⟩ (.bool false)) l' {c.fresh c.lc c.lp c.pb with all:=[]} (fresh c.lc c.lp) false:=by
  have B:Fr (fun k=>k=l.D) u (u.setCell ⟨l.D,2,none⟩ (.bool false)):=Fr.one _ _ _ _;have o:∀{k:Nat}{v:Array Value}{t:TypeId}{x:Nat×Nat},u.heap[k]? =some (.cells v t x)→t≠272→¬k=l.D:=by
   intro k v t x hk r e;rw[e,f] at hk;simp only[Option.some.injEq,Obj.cells.injEq] at hk;exact r hk.2.1.symm
  have d:∀{k:Nat}{v:Array Value}{t:TypeId}{x:Nat×Nat},(H.setCell ⟨l.D,0,none⟩ (ptr T)).heap[k]? =some (.cells v t x)→t≠210→¬k=l.W:=by
   intro P v t x hk r e;have J:=k.win.box;simp only at J;rw[e,J] at hk;simp only[Option.some.injEq,Obj.cells.injEq] at hk;exact r hk.2.1.symm
  refine⟨(n.out.1.trans (a.mono (fun i _(e:i=l.W)=>.inr (.inr (.inl e))))).trans (B.mono (fun i _(e:i=l.D)=>.inl e)),{l with T:=T,b:=b,g:=g,rv:=.slice none 0 0,ring:=[],t:=0},⟨rfl,fun P hk=> ?_⟩,?_⟩
  ·refine n.out.2.1.F P ?_
   rcases hk with hk|hk|hk|hk|hk
   ·exact .inl hk
   ·exact .inr (.inl hk)
   ·exact .inr (.inr (.inl hk))
   ·simp[Value.ownBlock] at hk
   ·exact .inr (.inr (.inr (.inr hk)))
  ·have V:=k.tab.box
   refine⟨set_in f 2 _,⟨B.keep (a.keep k.tab.box (d k.tab.box (by decide))) (o (a.keep k.tab.box (d k.tab.box (by decide))) (by decide)),fun j N=> ?_,k.tab.inj⟩,s.keep B (o s.box (by decide)) (fun k hk=>by simp[Value.ownBlock] at hk),⟨k.okc.l,k.okc.pb,S.new_ok⟩,k.len⟩;have y:=k.tab.set j N;obtain⟨_,_,K,M,_⟩:=k.tab.set j N;have G:=y.step a (d K (by decide)) (d M (by decide));obtain⟨_,_,E,F,_⟩:=y.step a (d K (by decide)) (d M (by decide));exact G.step B (o E (by decide)) (o F (by decide))
 have q:=Hd q;clear a s k f;go_wp2_with fail;go_end0;exact⟨rfl,q.out⟩
theorem zero_props(w:World):Calls Tryz.prog 49 #[.agg #[.int .i64 0,.int .i64 0,.int .i64 0]] w fun e a=>(∃x,e=.returned (.tuple #[.int .i64 x,.int .i64 0]))∧Fr (fun _=>False) w a:=props_ok 0 0 0 (by omega) (by omega) w
theorem zero_tables(w:World):Calls Tryz.prog 65 #[.agg #[.int .i64 0,.int .i64 0,.int .i64 0]] w (NewPost 0 0 0 w):=tables_calls 0 0 0 w (by omega)
theorem dnew_in(n:Nat)(w:World)(P:1≤n)(J:n≤4294967295):
 Calls Tryz.prog 92 #[.agg #[.int .i64 0,.int .i64 0,.int .i64 0],.int .i64 n] w fun e G=>Fr (fun _=>False) w G∧∃l:L,e=.returned (.tuple #[ptr l.D,.int .i64 0])∧Dec G l ⟨0,0,0,S.new,n,[]⟩ (fresh 0 0) false∧∀k,l.F k→w.heap.size≤k:=by
 have F:=heap_alloc_new w (.cells #[.int .i64 0,.int .i64 0,.int .i64 0] 24);have u:=(R0 w).alloc (.cells #[.int .i64 0,.int .i64 0,.int .i64 0] 24);have D:=fun W=>Hd (zero_tables W);unfold NewPost at D;have I:=Hd F;have H:=Hd u;clear F u;go_enter Tryz.func92,Tryz.ntmps92;go_wp2_with fail;refine(zero_props _).mono ?_;rintro e o ⟨⟨x,rfl⟩,i⟩;have v:=i.keep I.out (fun h=>h);have B:=Hd v;have r:=Hd (H.out.trans i);clear i v;go_wp2_with fail;refine(Win.new_in n _ (by omega) J).mono ?_;rintro e Q ⟨rfl,m,t⟩;have y:=m.keep B.out (fun h=>h);obtain⟨R,U,V⟩:=cs3 y rfl rfl rfl;have s:=Hd m;have A:=Hd t;clear m t y;go_wp2_with fail;refine(D _).out.mono ?_;rintro e p ⟨T,b,g,rfl,c,a,K,C⟩;have E:=heap_alloc_new p (.cells #[ptr T,ptr o.heap.size,.bool false] 272);have f:=(R0 p).alloc (.cells #[ptr T,ptr o.heap.size,.bool false] 272);have q:=Hd (show Fr (fun _=>False) w (p.alloc (.cells #[ptr T,ptr o.heap.size,.bool false] 272))∧Dec (p.alloc (.cells #[ptr T,ptr o.heap.size,.bool false] 272)) ⟨0,p.heap.size,0,T,o.heap.size,.slice none 0 0,.slice none 0 0,[],0,b,g⟩ ⟨0,0,0,S.new,n,[]⟩ (fresh 0 0) false∧∀k,L.F ⟨0,p.heap.size,0,T,o.heap.size,.slice none 0 0,.slice none 0 0,[],0,b,g⟩ k→w.heap.size≤k from by
  have M:=r.out.size;have N:=s.out.size;have O:=c.size;refine⟨((r.out.trans s.out).trans c).trans f,⟨E,⟨f.keep a.box (fun h=>h),fun j z=>(a.set j z).keep f,a.inj⟩,(A.out.keep c (fun h=>h) (fun _ _ h=>h)).keep f (fun h=>h) (fun _ _ h=>h),⟨by simp,by simp,S.new_ok⟩,fun j _=>fresh_len 0 0 j⟩,fun k d=> ?_⟩;rcases d with d|d|d|d|⟨j,z,d|d⟩
  ·simp only at d
   omega
  ·simp only at d
   omega
  ·simp only at d
   omega
  ·simp[Value.ownBlock] at d
  ·have:=C j z
   simp only at d;omega
  ·have:=C j z
   simp only at d;omega)
 clear c a C E f;go_wp2_with fail;go_ret2;exact⟨q.out.1,_,rfl,q.out.2⟩
theorem dnew_out(n:Int)(w:World)(h:n<1∨4294967295<n):
 Calls Tryz.prog 92 #[.agg #[.int .i64 0,.int .i64 0,.int .i64 0],.int .i64 n] w fun e f=>Fr (fun _=>False) w f∧e=.returned (.tuple #[.pointer none,.int .i64 7]):=by
 have c:=Hd ((R0 w).alloc (.cells #[.int .i64 0,.int .i64 0,.int .i64 0] 24));have d:=fun W=>Hd (Win.new_out n W h);clear h;go_enter Tryz.func92,Tryz.ntmps92;go_wp2_with fail;refine(zero_props _).mono ?_;rintro e g ⟨⟨x,rfl⟩,a⟩;have b:=Hd (c.out.trans a);clear a;go_wp2_with fail;refine(d _).out.mono ?_;rintro e i ⟨rfl,rfl⟩;go_wp2_with fail;go_ret2;exact⟨b.out,rfl⟩
end Lz
namespace Lz
open Mem Rc St
theorem next_err_same(s t:S)(y:Sy):(s.next y).1=(t.next y).1:=by
 unfold S.next;repeat' split
 all_goals rfl
theorem apply_len{size:Nat}{all:List UInt8}{s:S}{y:Sy}(h:(apply size all s y).1=0)(e:y.kind=1∨y.kind=2∨y.kind=3∨y.kind=4):(apply size all s y).2.1.length=St.size y:=by
 unfold apply at*;unfold St.size;rw[next_err_same S.new s y];by_cases a:(s.next y).1=0
 ·rw[if_pos a] at h ⊢
  rw[if_pos a];by_cases b:y.kind=1
  ·rw[if_pos b,if_neg (by omega)]
   rfl
  ·rw[if_neg b] at h ⊢
   by_cases c:1≤distOf s y∧distOf s y≤min size all.length
   ·rw[if_pos c]
    simp only[Win.copied_len,lenOfSy];by_cases d:y.kind=4
    ·rw[if_pos d,if_neg (by omega)]
    ·rw[if_neg d,if_pos (by omega)]
   ·rw[if_neg c] at h
    simp at h
 ·rw[if_neg a] at h
  exact absurd h a
theorem apply_ok{size:Nat}{all:List UInt8}{s:S}{y:Sy}(h:(apply size all s y).1=0)(b:s.Ok):(apply size all s y).2.2.Ok:=by
 unfold apply at*;by_cases a:(s.next y).1=0
 ·rw[if_pos a] at h ⊢
  have:=S.next_ok b a;split
  ·exact this
  ·split
   ·exact this
   ·rename_i h1 h2
    rw[if_neg h1,if_neg h2] at h;simp at h
 ·rw[if_neg a] at h
  exact absurd h a
def C.on(c:C)(bytes:List UInt8):C:={c with all:=c.all++bytes}
def C.to(c:C)(s:S):C:={c with s:=s}
def takeGo(n:Nat):Nat→C→Y→List Sy→List UInt8→Option (C×Y×List Sy×List UInt8)
 |0,_,_,_,_=>none
 |f+1,c,y,l,out=>
   if n≤out.length then some (c,y,l,out)
   else if(y.symbol c).2.bad=true∨St.size (y.symbol c).1<1∨n-out.length<St.size (y.symbol c).1 then none
   else if(apply c.size c.all c.s (y.symbol c).1).1≠0 then none
   else takeGo n f ((c.on (apply c.size c.all c.s (y.symbol c).1).2.1).to (apply c.size c.all c.s (y.symbol c).1).2.2) (y.symbol c).2 (l++[(y.symbol c).1]) (out++(apply c.size c.all c.s (y.symbol c).1).2.1)
def takeAll(c:C)(ps:Nat→List Nat)(xs:List UInt8)(n:Nat):Option (List Sy×List UInt8×C×(Nat→List Nat)):=
 match init xs with
 |.error _=>none
 |.ok d=>match takeGo n (n+1) c ⟨d,false,ps⟩ [] [] with
   |none=>none
   |some (c2,y2,l,out)=>if y2.d.read=y2.d.b.length∧y2.d.now=0 then some (l,out,c2,y2.ps) else none
def syCells(l:List Sy):List Value:=l.flatMap (fun y=>y.cells.toList)
theorem syCells_snoc(l:List Sy)(y:Sy):syCells (l++[y])=syCells l++y.cells.toList:=by simp[syCells]
structure Syms(w0 w:World)(v:Value)(l:List Sy):Prop where
 own:w.ownsRow 0 110 4 v l.length (syCells l)
 new:∀k,v.ownBlock=some k→w0.heap.size≤k
theorem own_block{w:World}{T:TypeId}{size n:Nat}{v:Value}{xs:List Value}(h:w.ownsRow 0 T size v n xs){k:Nat}(b:v.ownBlock=some k):∃a,w.heap[k]? =some (.cells a T (0,0)):=by
 rcases h.2 with⟨f,_⟩|⟨g,e,a,d,_,c,_⟩
 ·rw[f] at b
  simp[Value.ownBlock] at b
 ·rw[d] at b
  simp only[Value.ownBlock,Option.some.injEq] at b;exact⟨a,b ▸ c⟩
theorem own_stepN{S:Nat→Prop}{w w':World}{T:TypeId}{size n:Nat}{v:Value}{xs:List Value}(h:w.ownsRow 0 T size v n xs)(e:Fr S w w')(j:∀k,v.ownBlock=some k→¬S k):w'.ownsRow 0 T size v n xs:=by
 obtain⟨f,d⟩:=h;refine⟨f,?_⟩;rcases d with d|⟨g,b,c,rfl,i,l,a⟩
 ·exact .inl d
 ·exact .inr ⟨g,b,c,rfl,i,e.keep l (j g rfl),a⟩
theorem Syms.step{S:Nat→Prop}{w0 w w':World}{v:Value}{l:List Sy}(h:Syms w0 w v l)(a:Fr S w w')(b:∀k,v.ownBlock=some k→¬S k):Syms w0 w' v l:=⟨own_stepN h.own a b,h.new⟩
def owned(t:TypeId):Prop:=t=341∨t=272∨t=217∨t=210∨t=381∨t=360∨t=3
instance (t:TypeId):Decidable (owned t):=by unfold owned;infer_instance
end Lz
namespace Lz
open Mem Rc St Win
theorem infoSym:(Tryz.prog.info? 110).map (fun i=>(i.zero,i.size,i.bytes))=some (some (.agg #[.int .i64 0,.int .u8 0,.int .i64 0,.int .i64 0]),4,32):=by kernel_rfl
theorem src_sym{w:World}{B:Nat}{a:Sy}(b:w.heap[B]? =some (.cells a.cells 110 (0,0))):Src Tryz.prog 4 98 (.slice (some ⟨B,0,none⟩) 1 1) 1 a.cells.toList w:=by
 refine Src.ofSlice w Tryz.underlying98 ⟨B,0,none⟩ 1 1 a.cells.toList rfl (fun j u hu=> ?_) (fun u hu=> ?_)
 ·rw[add_mid,Nat.zero_add]
  exact cell_in b (by simpa using hu)
 ·simp only[Sy.cells,List.mem_cons,List.not_mem_nil,or_false] at hu
  rcases hu with rfl|rfl|rfl|rfl<;>rfl
theorem append_sym{d:Array Oper}{rest:List Oper}{o:Oper}{a:Act}{Q:Exit→Act→World→Prop}(i:o.guard=none)(s y:Operand)
 (q:o.op=.call {callee:=.builtin .append,args:=#[s,y],argTypes:=#[98,98]}){w0 w:World}(v:Value)(ls:List Sy)(sy:Sy)(B:Nat)(hv:a.eval s=v)(hx:a.eval y=.slice (some ⟨B,0,none⟩) 1 1)(hm:Syms w0 w v ls)(hle:w0.heap.size≤w.heap.size)
 (hB:w.heap[B]? =some (.cells sy.cells 110 (0,0)))(hb:ls.length≤1099511627776)
 (h:∀e f,Syms w0 f e (ls++[sy])→Fr (fun k=>v.ownBlock=some k) w f→(∀k,e.ownBlock=some k→v.ownBlock=some k∨w.heap.size≤k)→wpList Tryz.prog d Q rest (a.put o.dst e) f):
 wpList Tryz.prog d Q (o::rest) a w:=by
 obtain⟨r,n,j,l,m⟩:=info_parts infoSym;refine wpList_append_any w i s y 98 98 q 110 r _ 4 32 Tryz.underlying98 n j l m rfl (by decide) v ls.length (syCells ls) hv hm.own _ 1 sy.cells.toList hx (src_sym hB) (by simp only[maxLen];omega) (by omega) ?_;intro e f c g b _;refine h e f ⟨by rw[List.length_append,syCells_snoc];exact c,fun k p=> ?_⟩ g b;rcases b k p with h|h
 ·exact hm.new k h
 ·omega
end Lz
end Go.Proofs.YtffoddpjfgjelaaGreatDoor
