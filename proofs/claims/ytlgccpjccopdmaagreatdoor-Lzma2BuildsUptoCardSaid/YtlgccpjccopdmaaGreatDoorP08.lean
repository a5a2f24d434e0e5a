/- Part 8 of 54: lemmas of the last part, each under the conditions that it names. -/
import Derived.Deep.RegionHeld3
import Derived.Laws.Bits64b
import Derived.LoopN
import Derived.Deep.QuietTactic
import Derived.BigQuiet
import Derived.Test.YtlgccpjccopdmaaGreatDoorP02
import Derived.Test.YtlgccpjccopdmaaGreatDoorP04
import Derived.Test.YtlgccpjccopdmaaGreatDoorP05
import Derived.Test.YtlgccpjccopdmaaGreatDoorP07
set_option linter.unusedVariables false
set_option linter.unusedSimpArgs false
set_option maxRecDepth 1500
set_option maxHeartbeats 8000000
namespace Go.Proofs.YtlgccpjccopdmaaGreatDoor
open Go.RowKit
namespace Rc
open Mem
theorem five(w:World)(o1 o2 o3 o4 o5:Obj):Fr (fun _=>False) w (((((w.alloc o1).alloc o2).alloc o3).alloc o4).alloc o5)∧(((((w.alloc o1).alloc o2).alloc o3).alloc o4).alloc o5).heap.size=w.heap.size+5∧
 (((((w.alloc o1).alloc o2).alloc o3).alloc o4).alloc o5).heap[w.heap.size]? =some o1∧(((((w.alloc o1).alloc o2).alloc o3).alloc o4).alloc o5).heap[w.heap.size+1]? =some o2∧(((((w.alloc o1).alloc o2).alloc o3).alloc o4).alloc o5).heap[w.heap.size+1+1]? =some o3∧
 (((((w.alloc o1).alloc o2).alloc o3).alloc o4).alloc o5).heap[w.heap.size+1+1+1]? =some o4∧(((((w.alloc o1).alloc o2).alloc o3).alloc o4).alloc o5).heap[w.heap.size+1+1+1+1]? =some o5:=by
 have k:=fun(W:World)(o:Obj)=>(Fr.refl (fun _=>False) W).alloc o
 have h1:=heap_alloc_new w o1
 have h2:=heap_alloc_new (w.alloc o1) o2
 have h3:=heap_alloc_new ((w.alloc o1).alloc o2) o3
 have h4:=heap_alloc_new (((w.alloc o1).alloc o2).alloc o3) o4
 have h5:=heap_alloc_new ((((w.alloc o1).alloc o2).alloc o3).alloc o4) o5
 simp only[World.size_alloc] at h2 h3 h4 h5
 exact⟨((((k w o1).alloc o2).alloc o3).alloc o4).alloc o5,by simp,((((k _ o2).alloc o3).alloc o4).alloc o5).keep h1 (fun h=>h),(((k _ o3).alloc o4).alloc o5).keep h2 (fun h=>h),((k _ o4).alloc o5).keep h3 (fun h=>h),(k _ o5).keep h4 (fun h=>h),h5⟩
set_option maxRecDepth 100000 in
theorem bound_cut(r p:Nat)(w:World)(hr:r≤4294967295)(hp:p≤2047):Calls Tryz.prog 247 #[.int .u32 r,.int .i64 p] w fun e w'=>e=.returned (.int .u32 (cutAt r p:Nat))∧w=w':=by
 refine(Prob.boundR_calls r p w (by omega) (by omega)).mono ?_
 rintro e w' ⟨rfl,rfl⟩
 refine⟨?_,rfl⟩
 have:Prob.bnd (r:Int) (p:Int)=((cutAt r p:Nat):Int):=by
  unfold Prob.bnd cutAt
  rw[Prob.taken_id _ (by omega) (by omega)]
  simp
 rw[this]
end Rc
namespace Rc
open Mem
structure R where
 bit:Nat
 err:Nat
 d:D
 ps:List Nat
def bitAt(d:D)(ps:List Nat)(i:Nat):R:=
 match ps[i]? with
 |none=>⟨0,7,d,ps⟩
 |some p=>match d.bit p with
   |none=>⟨0,1,d,ps⟩
   |some (v,e)=>⟨v,0,e,ps.set i (Prob.nextN p v)⟩
def okP(ps:List Nat):Prop:=∀p ∈ ps,p≤2047
end Rc
namespace Tr
open Mem Rc
def ord(back:Bool)(n k:Nat):Nat:=if back then k else n-1-k
structure G where
 err:Nat
 v:Nat
 d:D
 ps:List Nat
def go(back:Bool)(n a:Nat):Nat→Nat→Nat→D→List Nat→G
 |0,_,v,d,ps=>⟨0,v,d,ps⟩
 |f+1,m,v,d,ps=>
   if(bitAt d ps (a+m)).err≠0 then⟨(bitAt d ps (a+m)).err,v|||((bitAt d ps (a+m)).bit<<<ord back n (n-(f+1))),(bitAt d ps (a+m)).d,(bitAt d ps (a+m)).ps⟩
   else go back n a f (2*m+(bitAt d ps (a+m)).bit) (v|||((bitAt d ps (a+m)).bit<<<ord back n (n-(f+1)))) (bitAt d ps (a+m)).d (bitAt d ps (a+m)).ps
def get(back:Bool)(d:D)(ps:List Nat)(a n:Nat):R:=
 if n≤16∧a≤ps.length∧2^n≤ps.length-a then
  ⟨if(go back n a n 1 0 d ps).err=0 then(go back n a n 1 0 d ps).v else 0,(go back n a n 1 0 d ps).err,(go back n a n 1 0 d ps).d,(go back n a n 1 0 d ps).ps⟩
 else⟨0,7,d,ps⟩
theorem order_calls(back:Bool)(n k:Nat)(w:World)(hk:k<n)(hn:n≤16):
 Calls Tryz.prog 266 #[.bool back,.int .i64 n,.int .i64 k] w fun e w'=>e=.returned (.int .i64 (ord back n k))∧w=w':=by
 have h1:((n-1-k:Nat):Int)=(n:Int)-1-k:=by omega
 cases back
 ·have ho:ord false n k=n-1-k:=rfl
  rw[ho,h1]
  clear ho h1
  go_enter Tryz.func266,Tryz.ntmps266
  go_wp2_with fail
  go_ret
  exact⟨rfl,rfl⟩
 ·have ho:ord true n k=k:=rfl
  rw[ho]
  clear ho h1
  go_enter Tryz.func266,Tryz.ntmps266
  go_wp2_with fail
  go_ret
  exact⟨rfl,rfl⟩
theorem slen_calls(b g:Nat)(ps:List Nat)(w:World)(h:Prob.SetAt w b g ps):
 Calls Tryz.prog 267 #[.pointer (some ⟨b,0,none⟩)] w fun e w'=>e=.returned (.int .i64 ps.length)∧w=w':=by
 obtain⟨cap,cs,h1,_⟩:=h
 exact Prob.len_calls b g ps.length cap w (cell_in h1 rfl)
end Tr
namespace Tr
open Mem Rc
end Tr
namespace Tr
open Mem Rc
def thereB(ps:List Nat)(a n:Nat):Bool:=decide (n≤16∧a≤ps.length∧2^n≤ps.length-a)
set_option maxRecDepth 100000 in
theorem there_calls(b g a n:Nat)(ps:List Nat)(w:World)(h:Prob.SetAt w b g ps)(ha:a≤1099511627776)(hn:n≤1099511627776)(hl:ps.length≤1099511627776):
 Calls Tryz.prog 263 #[.pointer (some ⟨b,0,none⟩),.int .i64 a,.int .i64 n] w fun e w'=>e=.returned (.bool (thereB ps a n))∧Fr (fun _=>False) w w':=by
 have hlen:∀m,Calls Tryz.prog 267 #[.pointer (some ⟨b,0,none⟩)] (w.drewN m) fun e w'=>e=.returned (.int .i64 ps.length)∧w.drewN m=w':=fun m=>slen_calls b g ps _ (h.keep ((Fr.refl _ _).drewN m))
 generalize hq:thereB ps a n=q
 have HQ:=Hd hq
 have HLEN:=Hd hlen
 clear hq h hlen
 unfold thereB at HQ
 generalize ps.length=l at*
 have z1:decide ((n:Int)≥0)=true:=by simp
 have z2:decide ((0:Int)≤(n:Int))=true:=by simp
 have z3:decide ((a:Int)≥0)=true:=by simp
 have z4:decide ((0:Int)≤(a:Int))=true:=by simp
 by_cases h1:n≤16
 ·have t1:decide ((n:Int)≤16)=true:=by simp;omega
  by_cases h2:a≤l
  ·have t2:decide ((a:Int)≤(l:Int))=true:=by simp;omega
   have hp:2^n≤65536:=Nat.le_trans (Nat.pow_le_pow_right (by omega) h1) (by decide)
   have hpi:((2^n:Nat):Int)=2^n:=by simp
   have hw2:IntKind.i64.wrap (2^n)=2^n:=by
    rw[←hpi]
    have k1:=Int.natCast_nonneg (2^n)
    have k2:((2^n:Nat):Int)≤((65536:Nat):Int):=Int.ofNat_le.2 hp
    exact IntWalk.i64_in _ ⟨Int.le_trans (by decide) k1,Int.le_trans k2 (by decide)⟩
   have hw:IntKind.i64.wrap (1*2^n)=2^n:=by rw[Int.one_mul];exact hw2
   have hmin:min n 64=n:=by omega
   by_cases h3:2^n≤l-a
   ·have t3:decide ((2:Int)^n≤(l:Int)-a)=true:=by rw[←hpi];simp only[decide_eq_true_eq];omega
    clear hpi hp
    go_enter Tryz.func263,Tryz.ntmps263
    go_wp2_with fail
    go_quiet (exact quiet_left (HLEN.out _))
    go_wp2_with fail
    go_ret
    exact⟨by rw[←HQ.out];simp[h1,h2,h3],(Fr.refl _ _).drewN _⟩
   ·have t3:decide ((2:Int)^n≤(l:Int)-a)=false:=by rw[←hpi];simp only[decide_eq_false_iff_not];omega
    clear hpi hp
    go_enter Tryz.func263,Tryz.ntmps263
    go_wp2_with fail
    go_quiet (exact quiet_left (HLEN.out _))
    go_wp2_with fail
    go_ret
    exact⟨by rw[←HQ.out];simp[h1,h2,h3],(Fr.refl _ _).drewN _⟩
  ·have t2:decide ((a:Int)≤(l:Int))=false:=by simp;omega
   go_enter Tryz.func263,Tryz.ntmps263
   go_wp2_with fail
   go_quiet (exact quiet_left (HLEN.out _))
   go_wp2_with fail
   go_ret
   exact⟨by rw[←HQ.out];simp[h2],(Fr.refl _ _).drewN _⟩
 ·have t1:decide ((n:Int)≤16)=false:=by simp;omega
  go_enter Tryz.func263,Tryz.ntmps263
  go_wp2_with fail
  go_quiet (exact quiet_left (HLEN.out _))
  go_wp2_with fail
  go_ret
  exact⟨by rw[←HQ.out];simp[h1],(Fr.refl _ _).drewN _⟩
end Tr
namespace Rc
open Mem
end Rc
namespace Rc
open Mem
theorem three(w:World)(o1 o2 o3:Obj):Fr (fun _=>False) w (((w.alloc o1).alloc o2).alloc o3)∧(((w.alloc o1).alloc o2).alloc o3).heap.size=w.heap.size+3∧
 (((w.alloc o1).alloc o2).alloc o3).heap[w.heap.size]? =some o1∧(((w.alloc o1).alloc o2).alloc o3).heap[w.heap.size+1]? =some o2∧(((w.alloc o1).alloc o2).alloc o3).heap[w.heap.size+1+1]? =some o3:=by
 have k:=fun(W:World)(o:Obj)=>(Fr.refl (fun _=>False) W).alloc o
 have h1:=heap_alloc_new w o1
 have h2:=heap_alloc_new (w.alloc o1) o2
 have h3:=heap_alloc_new ((w.alloc o1).alloc o2) o3
 simp only[World.size_alloc] at h2 h3
 exact⟨((k w o1).alloc o2).alloc o3,by simp,((k _ o2).alloc o3).keep h1 (fun h=>h),(k _ o3).keep h2 (fun h=>h),h3⟩
end Rc
namespace Rc
open Mem
def beN(xs:List UInt8):Nat→Nat
 |0=>0
 |k+1=>beN xs k*256+(xs.getD (k+1) 0).toNat
def init(xs:List UInt8):Except Nat D:=
 if xs.length<5 then .error 1 else if xs.getD 0 0≠0∨beN xs 4=4294967295 then .error 2 else .ok ⟨xs,5,4294967295,beN xs 4⟩
end Rc
namespace Lz
open Mem Rc St
structure Y where
 d:D
 bad:Bool
 ps:Nat→List Nat
def upd(ps:Nat→List Nat)(j:Nat)(l:List Nat):Nat→List Nat:=fun k=>if k=j then l else ps k
theorem upd_same(ps:Nat→List Nat)(j:Nat)(l:List Nat):upd ps j l j=l:=if_pos rfl
theorem upd_other(ps:Nat→List Nat){j k:Nat}(l:List Nat)(h:k≠j):upd ps j l k=ps k:=if_neg h
def gotN(v er:Nat):Nat:=if er=0 then v else 0
def Y.put(y:Y)(j:Nat)(r:R):Nat×Y:=(gotN r.bit r.err,⟨r.d,decide (r.err≠0),upd y.ps j r.ps⟩)
def Y.bit(y:Y)(j i:Nat):Nat×Y:=if y.bad then(0,y) else y.put j (bitAt y.d (y.ps j) i)
def Y.tree(y:Y)(back:Bool)(j a n:Nat):Nat×Y:=if y.bad then(0,y) else y.put j (Tr.get back y.d (y.ps j) a n)
def Y.direct(y:Y)(n:Nat):Nat×Y:=if y.bad then(0,y) else match D.direct n 0 y.d with
 |.ok (v,e)=>(v,⟨e,false,y.ps⟩)
 |.error _=>(0,⟨y.d,true,y.ps⟩)
structure C where
 lc:Nat
 lp:Nat
 pb:Nat
 s:S
 size:Nat
 all:List UInt8
structure C.Ok(c:C):Prop where
 l:c.lc+c.lp≤4
 pb:c.pb≤4
 s:c.s.Ok
def C.place(c:C):Nat:=c.all.length%2^c.pb
def C.at(c:C):Nat:=c.s.num*16+c.place
def C.lastB(c:C)(d:Nat):Nat:=(Win.last c.size c.all d).1
def C.context(c:C):Nat:=768*(c.all.length%2^c.lp*2^c.lc+c.lastB 1/2^(8-c.lc))
def litGo(u a:Nat):Nat→Nat→Bool→Y→Nat×Y
 |0,m,_,y=>(m,y)
 |k+1,m,same,y=>
   litGo u a k (2*m+(y.bit 6 (a+m+if same then 256*(1+u/2^k%2) else 0)).1) (same&&decide ((y.bit 6 (a+m+if same then 256*(1+u/2^k%2) else 0)).1=u/2^k%2)) (y.bit 6 (a+m+if same then 256*(1+u/2^k%2) else 0)).2
def Y.literal(y:Y)(c:C):Nat×Y:=
 if c.s.num<7 then y.tree false 6 c.context 8 else((litGo (c.lastB c.s.r0) c.context 8 1 true y).1-256,(litGo (c.lastB c.s.r0) c.context 8 1 true y).2)
def Y.length(y:Y)(c:C)(q:Nat):Nat×Y:=
 if(y.bit q 0).1=0 then(2+((y.bit q 0).2.tree false (q+1) (8*c.place) 3).1,((y.bit q 0).2.tree false (q+1) (8*c.place) 3).2)
 else if((y.bit q 0).2.bit q 1).1=0 then(10+(((y.bit q 0).2.bit q 1).2.tree false (q+2) (8*c.place) 3).1,(((y.bit q 0).2.bit q 1).2.tree false (q+2) (8*c.place) 3).2)
 else(18+(((y.bit q 0).2.bit q 1).2.tree false (q+3) 0 8).1,(((y.bit q 0).2.bit q 1).2.tree false (q+3) 0 8).2)
def Y.rest(y:Y)(slot:Nat):Nat×Y:=
 if(range slot).2=0 then((range slot).1,y)
 else if slot<14 then((range slot).1+(y.tree true 16 (restAt slot) (range slot).2).1,(y.tree true 16 (restAt slot) (range slot).2).2)
 else((range slot).1+(y.direct ((range slot).2-4)).1*16+((y.direct ((range slot).2-4)).2.tree true 17 0 4).1,((y.direct ((range slot).2-4)).2.tree true 17 0 4).2)
def slotAt(n:Nat):Nat:=64*min (n-2) 3
def Y.dist(y:Y)(n:Nat):Nat×Y:=(y.tree false 15 (slotAt n) 6).2.rest (y.tree false 15 (slotAt n) 6).1
def Y.match(y:Y)(c:C):Sy×Y:=(⟨2,0,(y.length c 7).1,((y.length c 7).2.dist (y.length c 7).1).1⟩,((y.length c 7).2.dist (y.length c 7).1).2)
def Y.repeat(y:Y)(c:C)(i:Nat):Sy×Y:=(⟨3,0,(y.length c 11).1,i⟩,(y.length c 11).2)
def Y.lit(y:Y)(c:C):Sy×Y:=(⟨1,(y.literal c).1,0,0⟩,(y.literal c).2)
def Y.short(y:Y)(c:C):Sy×Y:=if(y.bit 1 c.at).1=0 then(⟨4,0,0,0⟩,(y.bit 1 c.at).2) else(y.bit 1 c.at).2.repeat c 0
def Y.older(y:Y)(c:C):Sy×Y:=if(y.bit 4 c.s.num).1=1 then((y.bit 4 c.s.num).2.bit 5 c.s.num).2.repeat c (2+((y.bit 4 c.s.num).2.bit 5 c.s.num).1) else(y.bit 4 c.s.num).2.repeat c 1
def Y.symbol2(y:Y)(c:C):Sy×Y:=if(y.bit 3 c.s.num).1=0 then(y.bit 3 c.s.num).2.short c else(y.bit 3 c.s.num).2.older c
def Y.symbol1(y:Y)(c:C):Sy×Y:=if(y.bit 2 c.s.num).1=0 then(y.bit 2 c.s.num).2.match c else(y.bit 2 c.s.num).2.symbol2 c
def Y.symbol(y:Y)(c:C):Sy×Y:=if(y.bit 0 c.at).1=0 then(y.bit 0 c.at).2.lit c else(y.bit 0 c.at).2.symbol1 c
/- what is so of them -/
end Lz
namespace Lz
open Mem Rc St
structure L where
 X:Nat
 D:Nat
 R:Nat
 T:Nat
 W:Nat
 bv:Value
 rv:Value
 ring:List UInt8
 t:Nat
 b:Nat→Nat
 g:Nat→Nat
end Lz
namespace Lz
open Mem Rc St
end Lz
namespace Lz
open Mem Rc St
theorem lift{S:Nat→Prop}{w w':World}(h:Fr (fun _=>False) w w'):Fr S w w':=h.mono (fun _ _ h=>h.elim)
theorem C.Ok.place{c:C}(h:c.Ok):c.place<16:=Nat.lt_of_lt_of_le (Nat.mod_lt _ (Nat.two_pow_pos c.pb)) (Nat.pow_le_pow_right (n:=2) (by omega) h.pb)
end Lz
namespace Lz
open Mem Rc St
theorem late_yes(s:Nat)(h:14≤s)(w:World):Calls Tryz.prog 210 #[.int .i64 s] w fun e w'=>e=.returned (.bool true)∧w=w':=by
 have:=late_calls s w
 rwa [show decide (14≤s)=true by simp[h]] at this
theorem late_no(s:Nat)(h:s<14)(w:World):Calls Tryz.prog 210 #[.int .i64 s] w fun e w'=>e=.returned (.bool false)∧w=w':=by
 have:=late_calls s w
 rwa [show decide (14≤s)=false by simp;omega] at this
end Lz
namespace Lz
open Mem Rc St
theorem and_one(b j:Nat)(hb:b<256):bits BinOp.and IntKind.i64 ((b:Int)/2^j) 1=((b/2^j%2:Nat):Int):=by
 have h1:((b:Int)/2^j)=((b/2^j:Nat):Int):=by simp
 rw[h1]
 have h2:b/2^j≤b:=Nat.div_le_self _ _
 exact and_low (b/2^j) 1 (by omega) (by omega)
theorem At.litC(c:C)(W:World)(b:Bool)(hb:decide (c.s.num<7)=b):Calls Tryz.prog 207 #[.agg #[.int .i64 c.s.num,.int .i64 c.s.r0,.int .i64 c.s.r1,.int .i64 c.s.r2,.int .i64 c.s.r3]] W fun e w'=>e=.returned (.bool b)∧Fr (fun _=>False) W w':=by
 rw[←hb]
 exact St.literal_calls c.s W
end Lz
namespace Lz
open Mem Rc St
theorem rd_lt{w:World}{v:Value}{xs:List UInt8}(h:Rd w v xs)(h0:0<xs.length):∀k,v.ownBlock=some k→k<w.heap.size:=by
 obtain⟨p,cap,rfl,_,_,h3⟩:=h
 obtain⟨b,o,rfl,hc⟩:=h3 h0
 intro k hk
 simp only[Value.ownBlock,Option.some.injEq] at hk
 subst hk
 exact block_lt_of_cell (hc 0 xs[0] (by simp[h0]))
end Lz
namespace St
open Mem
def propsBad(lc lp pb:Int):Bool:=decide (lc<0∨lp<0∨pb<0∨4<pb∨4<lc∨4-lc<lp)
theorem props_calls(lc lp pb:Int)(w:World)(b_lc:-9223372036854775808≤lc∧lc≤9223372036854775807)(b_lp:-9223372036854775808≤lp∧lp≤9223372036854775807)(b_pb:-9223372036854775808≤pb∧pb≤9223372036854775807):
 Calls Tryz.prog 40 #[.agg #[.int .i64 lc,.int .i64 lp,.int .i64 pb]] w fun e w'=>(∃x,e=.returned (.tuple #[.int .i64 x,.int .i64 (if propsBad lc lp pb then 6 else 0)]))∧Fr (fun _=>False) w w':=by
 have HF:=Hd ((Fr.refl (fun _=>False) w).alloc (.cells #[.int .i64 lc,.int .i64 lp,.int .i64 pb] 24))
 go_enter Tryz.func40,Tryz.ntmps40
 by_cases h2_0:lc<0
 ·have t2_0_0:(decide (lc<0))=true:=by simp;omega
  have hq:propsBad lc lp pb=true:=by unfold propsBad;simp;omega
  rw[hq]
  go_wp2_with fail
  go_ret2
  exact⟨⟨_,rfl⟩,HF.out⟩
 have g2_0_0:(decide (lc<0))=false:=by simp;omega
 by_cases h2_1:lp<0
 ·have t2_1_0:(decide (lp<0))=true:=by simp;omega
  have hq:propsBad lc lp pb=true:=by unfold propsBad;simp;omega
  rw[hq]
  go_wp2_with fail
  go_ret2
  exact⟨⟨_,rfl⟩,HF.out⟩
 have g2_1_0:(decide (lp<0))=false:=by simp;omega
 by_cases h2_2:pb<0
 ·have t2_2_0:(decide (pb<0))=true:=by simp;omega
  have hq:propsBad lc lp pb=true:=by unfold propsBad;simp;omega
  rw[hq]
  go_wp2_with fail
  go_ret2
  exact⟨⟨_,rfl⟩,HF.out⟩
 have g2_2_0:(decide (pb<0))=false:=by simp;omega
 by_cases h2_3:4<pb
 ·have t2_3_0:(decide (4<pb))=true:=by simp;omega
  have t2_3_1:(decide (pb>4))=true:=by simp;omega
  have hq:propsBad lc lp pb=true:=by unfold propsBad;simp;omega
  rw[hq]
  go_wp2_with fail
  go_ret2
  exact⟨⟨_,rfl⟩,HF.out⟩
 have g2_3_0:(decide (4<pb))=false:=by simp;omega
 have g2_3_1:(decide (pb>4))=false:=by simp;omega
 by_cases h2_4:4<lc
 ·have t2_4_0:(decide (4<lc))=true:=by simp;omega
  have t2_4_1:(decide (lc>4))=true:=by simp;omega
  have hq:propsBad lc lp pb=true:=by unfold propsBad;simp;omega
  rw[hq]
  go_wp2_with fail
  go_ret2
  exact⟨⟨_,rfl⟩,HF.out⟩
 have g2_4_0:(decide (4<lc))=false:=by simp;omega
 have g2_4_1:(decide (lc>4))=false:=by simp;omega
 by_cases h2_5:4-lc<lp
 ·have t2_5_0:(decide (4-lc<lp))=true:=by simp;omega
  have t2_5_1:(decide (lp>4-lc))=true:=by simp;omega
  have hq:propsBad lc lp pb=true:=by unfold propsBad;simp;omega
  rw[hq]
  go_wp2_with fail
  go_ret2
  exact⟨⟨_,rfl⟩,HF.out⟩
 have g2_5_0:(decide (4-lc<lp))=false:=by simp;omega
 have g2_5_1:(decide (lp>4-lc))=false:=by simp;omega
 have hq:propsBad lc lp pb=false:=by unfold propsBad;simp;omega
 rw[hq]
 go_wp2_with fail
 go_ret2
 exact⟨⟨_,rfl⟩,HF.out⟩
theorem props_ok(lc lp pb:Nat)(hl:lc+lp≤4)(hp:pb≤4)(w:World):
 Calls Tryz.prog 40 #[.agg #[.int .i64 lc,.int .i64 lp,.int .i64 pb]] w fun e w'=>(∃x,e=.returned (.tuple #[.int .i64 x,.int .i64 0]))∧Fr (fun _=>False) w w':=by
 have h:=props_calls lc lp pb w (by omega) (by omega) (by omega)
 rwa [if_neg (by unfold propsBad;simp;omega)] at h
def bytePropsOk(b:Nat):Bool:=decide (b%9+b/9%5≤4∧b/45≤4)
end St
namespace Lz
open Mem Rc St
def L.F(l:L)(k:Nat):Prop:=k=l.D∨k=l.T∨k=l.W∨l.rv.ownBlock=some k∨∃j,j<18∧(k=l.g j∨k=l.b j)
structure Dec(w:World)(l:L)(c:C)(ps:Nat→List Nat)(sp:Bool):Prop where
 d:w.heap[l.D]? =some (.cells #[ptr l.T,ptr l.W,.bool sp] 240 (0,0))
 tab:Tab w l.T l.b l.g c.lc c.lp c.pb c.s ps
 win:Win.At w l.W l.rv c.size c.all l.ring l.t
 okc:c.Ok
 len:∀j,j<18→(ps j).length=rowLen c.lc c.lp j
theorem Dec.old{w:World}{l:L}{c:C}{ps:Nat→List Nat}{sp:Bool}(h:Dec w l c ps sp):∀k,l.F k→k<w.heap.size:=by
 rintro k (rfl|rfl|rfl|hk|⟨j,hj,rfl|rfl⟩)
 ·exact lt_of_block h.d
 ·exact lt_of_block h.tab.box
 ·exact lt_of_block h.win.box
 ·exact(World.ownsRow.lt h.win.own k hk).2
 ·exact(h.tab.set j hj).lt.2
 ·exact(h.tab.set j hj).lt.1
theorem Dec.keep{S:Nat→Prop}{w w':World}{l:L}{c:C}{ps:Nat→List Nat}{sp:Bool}(h:Dec w l c ps sp)(hfr:Fr S w w')(hS:∀k,l.F k→¬S k):Dec w' l c ps sp:=
 ⟨hfr.keep h.d (hS _ (.inl rfl)),⟨hfr.keep h.tab.box (hS _ (.inr (.inl rfl))),fun j hj=>(h.tab.set j hj).step hfr (hS _ (.inr (.inr (.inr (.inr ⟨j,hj,.inr rfl⟩))))) (hS _ (.inr (.inr (.inr (.inr ⟨j,hj,.inl rfl⟩))))),h.tab.inj⟩,
  h.win.keep hfr (hS _ (.inr (.inr (.inl rfl)))) (fun k hk=>hS k (.inr (.inr (.inr (.inl hk))))),h.okc,h.len⟩
theorem Dec.keep0{w w':World}{l:L}{c:C}{ps:Nat→List Nat}{sp:Bool}(h:Dec w l c ps sp)(hfr:Fr (fun _=>False) w w'):Dec w' l c ps sp:=h.keep hfr (fun _ _ h=>h)
structure Nx(w:World)(l l':L):Prop where
 D:l'.D=l.D
 F:∀k,l'.F k→l.F k∨w.heap.size≤k
theorem raw_calls{l:L}{c:C}{ps:Nat→List Nat}{sp:Bool}{w:World}(h:Dec w l c ps sp)(v:Value)(xs:List UInt8)(hr:Rd w v xs)(hoff:0<xs.length→∀k,v.ownBlock=some k→¬l.F k)(hm:c.all.length+xs.length≤1152921504606846976):
 Calls Tryz.prog 89 #[ptr l.D,v] w fun e w'=>e=.returned (.tuple #[])∧Fr l.F w w'∧∃l',Nx w l l'∧Dec w' l' {c with all:=c.all++xs} ps sp:=by
 have HP:=Hd (Win.put_calls l.W c.size l.t l.rv v c.all l.ring xs w h.win hr (fun h0 k hk he=>hoff h0 k hk (.inr (.inr (.inr (.inl he))))) hm)
 have hd:w.cell? ⟨l.D,1,none⟩=some (ptr l.W):=cell_in h.d rfl
 have H:=Hd h
 clear h hr
 go_enter Tryz.func89,Tryz.ntmps89
 go_wp2_with fail
 refine HP.out.mono ?_
 rintro e w1 ⟨rfl,rv2,ring2,t2,hfr,hA,hN⟩
 have h:=H.out
 have hWn:∀k,l.F k→k≠l.W→l.rv.ownBlock≠some k→¬(k=l.W∨l.rv.ownBlock=some k):=fun k _ h1 h2 h3=>h3.elim h1 h2
 have KEY:Fr l.F w w1∧∃l',Nx w l l'∧Dec w1 l' {c with all:=c.all++xs} ps sp:=by
  refine⟨hfr.mono (fun k _ hk=>by rcases hk with hk|hk;exact .inr (.inr (.inl hk));exact .inr (.inr (.inr (.inl hk)))),{l with rv:=rv2,ring:=ring2,t:=t2},⟨rfl,fun k hk=> ?_⟩,?_⟩
  ·rcases hk with hk|hk|hk|hk|hk
   ·exact .inl (.inl hk)
   ·exact .inl (.inr (.inl hk))
   ·exact .inl (.inr (.inr (.inl hk)))
   ·exact(hN k hk).imp (fun h=>.inr (.inr (.inr (.inl h)))) id
   ·exact .inl (.inr (.inr (.inr (.inr hk))))
  ·have hown:∀{k:Nat}{cs:Array Value}{t:TypeId}{fr:Nat×Nat},w.heap[k]? =some (.cells cs t fr)→t≠178→t≠5→¬(k=l.W∨l.rv.ownBlock=some k):=by
    intro k cs t fr hk h1 h2 h3
    rcases h3 with h3|h3
    ·rw[h3,h.win.box] at hk
     simp only[Option.some.injEq,Obj.cells.injEq] at hk
     exact h1 hk.2.1.symm
    ·rcases h.win.own.2 with⟨hn,_⟩|⟨g,cap,cur,hgv,_,hg2,_⟩
     ·rw[hn] at h3
      simp[Value.ownBlock] at h3
     ·rw[hgv] at h3
      simp only[Value.ownBlock,Option.some.injEq] at h3
      rw[←h3,hg2] at hk
      simp only[Option.some.injEq,Obj.cells.injEq] at hk
      exact h2 hk.2.1.symm
   refine⟨hfr.keep h.d (hown h.d (by decide) (by decide)),⟨hfr.keep h.tab.box (hown h.tab.box (by decide) (by decide)),fun j hj=> ?_,h.tab.inj⟩,hA,⟨h.okc.l,h.okc.pb,h.okc.s⟩,h.len⟩
   have hs:=h.tab.set j hj
   obtain⟨_,_,hb,hg,_⟩:=h.tab.set j hj
   exact hs.step hfr (hown hb (by decide) (by decide)) (hown hg (by decide) (by decide))
 have KEY:=Hd KEY
 clear hfr hA hN h hWn
 go_wp2_with fail
 go_end0
 exact⟨rfl,KEY.out⟩
end Lz
end Go.Proofs.YtlgccpjccopdmaaGreatDoor
