/- Part 11 of 53: lemmas of the last part, each under the conditions that it names. -/
import Derived.Deep.RegionHeld3
import Derived.Test.YtilegoadokmcdaaGreatDoorP06
import Derived.Test.YtilegoadokmcdaaGreatDoorP07
import Derived.Test.YtilegoadokmcdaaGreatDoorP09
import Derived.Test.YtilegoadokmcdaaGreatDoorP10
set_option linter.unusedVariables false
set_option linter.unusedSimpArgs false
set_option maxRecDepth 1500
set_option maxHeartbeats 4000000
namespace Go.Proofs.YtilegoadokmcdaaGreatDoor
open Go.RowKit
namespace Lz
open Mem Rc St
structure Y where
 d:D
 bad:Bool
 ps:Nat→List Nat
def upd(ps:Nat→List Nat)(j:Nat)(l:List Nat):Nat→List Nat:=fun k=>if k=j then l else ps k
theorem upd_same(ps:Nat→List Nat)(j:Nat)(l:List Nat):upd ps j l j=l:=if_pos rfl
theorem upd_other(ps:Nat→List Nat){j k:Nat}(l:List Nat)(h:k≠j):upd ps j l k=ps k:=if_neg h
structure Y.Ok(lc lp:Nat)(y:Y):Prop where
 d:y.d.ok
 p:∀j,j<18→okP (y.ps j)
 len:∀j,j<18→(y.ps j).length=rowLen lc lp j
def gotN(v er:Nat):Nat:=if er=0 then v else 0
def Y.put(y:Y)(j:Nat)(r:R):Nat×Y:=(gotN r.bit r.err,⟨r.d,decide (r.err≠0),upd y.ps j r.ps⟩)
def Y.bit(y:Y)(j i:Nat):Nat×Y:=if y.bad then(0,y) else y.put j (bitAt y.d (y.ps j) i)
def Y.tree(y:Y)(back:Bool)(j a n:Nat):Nat×Y:=if y.bad then(0,y) else y.put j (Tr.get back y.d (y.ps j) a n)
def Y.direct(y:Y)(n:Nat):Nat×Y:=if y.bad then(0,y) else match D.direct n 0 y.d with
 |.ok (v,e)=>(v,⟨e,false,y.ps⟩)
 |.error _=>(0,⟨y.d,true,y.ps⟩)
structure C where
 lc:Nat
 lp:Nat
 pb:Nat
 s:S
 size:Nat
 all:List UInt8
structure C.Ok(c:C):Prop where
 l:c.lc+c.lp≤4
 pb:c.pb≤4
 s:c.s.Ok
def C.place(c:C):Nat:=c.all.length%2^c.pb
def C.at(c:C):Nat:=c.s.num*16+c.place
def C.lastB(c:C)(d:Nat):Nat:=(Win.last c.size c.all d).1
def C.context(c:C):Nat:=768*(c.all.length%2^c.lp*2^c.lc+c.lastB 1/2^(8-c.lc))
def litGo(u a:Nat):Nat→Nat→Bool→Y→Nat×Y
 |0,m,_,y=>(m,y)
 |k+1,m,same,y=>
   litGo u a k (2*m+(y.bit 6 (a+m+if same then 256*(1+u/2^k%2) else 0)).1) (same&&decide ((y.bit 6 (a+m+if same then 256*(1+u/2^k%2) else 0)).1=u/2^k%2)) (y.bit 6 (a+m+if same then 256*(1+u/2^k%2) else 0)).2
def Y.literal(y:Y)(c:C):Nat×Y:=
 if c.s.num<7 then y.tree false 6 c.context 8 else((litGo (c.lastB c.s.r0) c.context 8 1 true y).1-256,(litGo (c.lastB c.s.r0) c.context 8 1 true y).2)
def Y.length(y:Y)(c:C)(q:Nat):Nat×Y:=
 if(y.bit q 0).1=0 then(2+((y.bit q 0).2.tree false (q+1) (8*c.place) 3).1,((y.bit q 0).2.tree false (q+1) (8*c.place) 3).2)
 else if((y.bit q 0).2.bit q 1).1=0 then(10+(((y.bit q 0).2.bit q 1).2.tree false (q+2) (8*c.place) 3).1,(((y.bit q 0).2.bit q 1).2.tree false (q+2) (8*c.place) 3).2)
 else(18+(((y.bit q 0).2.bit q 1).2.tree false (q+3) 0 8).1,(((y.bit q 0).2.bit q 1).2.tree false (q+3) 0 8).2)
def Y.rest(y:Y)(slot:Nat):Nat×Y:=
 if(range slot).2=0 then((range slot).1,y)
 else if slot<14 then((range slot).1+(y.tree true 16 (restAt slot) (range slot).2).1,(y.tree true 16 (restAt slot) (range slot).2).2)
 else((range slot).1+(y.direct ((range slot).2-4)).1*16+((y.direct ((range slot).2-4)).2.tree true 17 0 4).1,((y.direct ((range slot).2-4)).2.tree true 17 0 4).2)
def slotAt(n:Nat):Nat:=64*min (n-2) 3
def Y.dist(y:Y)(n:Nat):Nat×Y:=(y.tree false 15 (slotAt n) 6).2.rest (y.tree false 15 (slotAt n) 6).1
def Y.match(y:Y)(c:C):Sy×Y:=(⟨2,0,(y.length c 7).1,((y.length c 7).2.dist (y.length c 7).1).1⟩,((y.length c 7).2.dist (y.length c 7).1).2)
def Y.repeat(y:Y)(c:C)(i:Nat):Sy×Y:=(⟨3,0,(y.length c 11).1,i⟩,(y.length c 11).2)
def Y.lit(y:Y)(c:C):Sy×Y:=(⟨1,(y.literal c).1,0,0⟩,(y.literal c).2)
def Y.short(y:Y)(c:C):Sy×Y:=if(y.bit 1 c.at).1=0 then(⟨4,0,0,0⟩,(y.bit 1 c.at).2) else(y.bit 1 c.at).2.repeat c 0
def Y.older(y:Y)(c:C):Sy×Y:=if(y.bit 4 c.s.num).1=1 then((y.bit 4 c.s.num).2.bit 5 c.s.num).2.repeat c (2+((y.bit 4 c.s.num).2.bit 5 c.s.num).1) else(y.bit 4 c.s.num).2.repeat c 1
def Y.symbol2(y:Y)(c:C):Sy×Y:=if(y.bit 3 c.s.num).1=0 then(y.bit 3 c.s.num).2.short c else(y.bit 3 c.s.num).2.older c
def Y.symbol1(y:Y)(c:C):Sy×Y:=if(y.bit 2 c.s.num).1=0 then(y.bit 2 c.s.num).2.match c else(y.bit 2 c.s.num).2.symbol2 c
def Y.symbol(y:Y)(c:C):Sy×Y:=if(y.bit 0 c.at).1=0 then(y.bit 0 c.at).2.lit c else(y.bit 0 c.at).2.symbol1 c
/- what is so of them -/
theorem Y.put_ok{lc lp:Nat}{y:Y}(h:y.Ok lc lp){j:Nat}{r:R}(hd:r.d.ok)(hp:okP r.ps)(hl:r.ps.length=(y.ps j).length):(y.put j r).2.Ok lc lp:=by
 refine⟨hd,fun k hk=> ?_,fun k hk=> ?_⟩
 ·simp only[Y.put,upd]
  split
  ·exact hp
  ·exact h.p k hk
 ·simp only[Y.put,upd]
  split
  ·rename_i e
   subst e
   rw[hl]
   exact h.len k hk
  ·exact h.len k hk
theorem Y.bit_ok{lc lp:Nat}{y:Y}(h:y.Ok lc lp){j:Nat}(hj:j<18)(i:Nat):(y.bit j i).2.Ok lc lp∧(y.bit j i).1≤1:=by
 unfold Y.bit
 split
 ·exact⟨h,by simp⟩
 ·have hb:=bitAt_ok i h.d (h.p j hj)
  refine⟨Y.put_ok h hb.1 hb.2.2.2.1 hb.2.2.2.2,?_⟩
  unfold Y.put gotN
  simp only
  split
  ·exact hb.2.2.1
  ·simp
theorem go_ok(back:Bool)(n a:Nat):∀(f m v:Nat)(d:D)(ps:List Nat),d.ok→okP ps→f≤n→v<2^n→(Tr.go back n a f m v d ps).d.ok∧okP (Tr.go back n a f m v d ps).ps∧(Tr.go back n a f m v d ps).ps.length=ps.length∧(Tr.go back n a f m v d ps).v<2^n
 |0,m,v,d,ps,hd,hp,hf,hv=>⟨hd,hp,rfl,hv⟩
 |f+1,m,v,d,ps,hd,hp,hf,hv=>by
   have hb:=bitAt_ok (a+m) hd hp
   have ho:Tr.ord back n (n-(f+1))<n:=by unfold Tr.ord;split<;>omega
   have hv2:=Tr.or_lt v (bitAt d ps (a+m)).bit _ n hv hb.2.2.1 ho
   unfold Tr.go
   split
   ·exact⟨hb.1,hb.2.2.2.1,hb.2.2.2.2,hv2⟩
   ·have ih:=go_ok back n a f (2*m+(bitAt d ps (a+m)).bit) _ _ _ hb.1 hb.2.2.2.1 (by omega) hv2
    exact⟨ih.1,ih.2.1,ih.2.2.1.trans hb.2.2.2.2,ih.2.2.2⟩
theorem get_ok(back:Bool)(d:D)(ps:List Nat)(a n:Nat)(hd:d.ok)(hp:okP ps):(Tr.get back d ps a n).d.ok∧okP (Tr.get back d ps a n).ps∧(Tr.get back d ps a n).ps.length=ps.length∧(Tr.get back d ps a n).bit<2^n:=by
 unfold Tr.get
 split
 ·have h:=go_ok back n a n 1 0 d ps hd hp (Nat.le_refl _) (Nat.two_pow_pos n)
  refine⟨h.1,h.2.1,h.2.2.1,?_⟩
  simp only
  split
  ·exact h.2.2.2
  ·exact Nat.two_pow_pos n
 ·exact⟨hd,hp,rfl,Nat.two_pow_pos n⟩
theorem Y.tree_ok{lc lp:Nat}{y:Y}(h:y.Ok lc lp)(back:Bool){j:Nat}(hj:j<18)(a n:Nat):(y.tree back j a n).2.Ok lc lp∧(y.tree back j a n).1<2^n:=by
 unfold Y.tree
 split
 ·exact⟨h,Nat.two_pow_pos n⟩
 ·have hb:=get_ok back y.d (y.ps j) a n h.d (h.p j hj)
  refine⟨Y.put_ok h hb.1 hb.2.1 hb.2.2.1,?_⟩
  unfold Y.put gotN
  simp only
  split
  ·exact hb.2.2.2
  ·exact Nat.two_pow_pos n
theorem direct_ok:∀(n v:Nat)(d e:D)(x k:Nat),d.ok→v<2^k→D.direct n v d=.ok (x,e)→e.ok∧e.b=d.b∧x<2^(k+n)
 |0,v,d,e,x,k,hd,hv,h=>by
   simp only[D.direct,Except.ok.injEq,Prod.mk.injEq] at h
   obtain⟨rfl,rfl⟩:=h
   exact⟨hd,rfl,hv⟩
 |n+1,v,d,e,x,k,hd,hv,h=>by
   unfold D.direct at h
   by_cases hne:(if d.rng/2≤d.now then d.now-d.rng/2 else d.now)=d.rng/2
   ·rw[if_pos hne] at h
    cases h
   ·rw[if_neg hne] at h
    split at h
    ·cases h
    ·rename_i e2 he2
     have hw:=D.widen_ok (D.half_ok hd hne) he2
     have hv2:(if d.rng/2≤d.now then 2*v+1 else 2*v)<2^(k+1):=by
      rw[Nat.pow_succ]
      split<;>omega
     have ih:=direct_ok n _ e2 e x (k+1) hw.1 hv2 h
     exact⟨ih.1,ih.2.1.trans hw.2,by rw[show k+(n+1)=k+1+n by omega];exact ih.2.2⟩
theorem Y.direct_ok{lc lp:Nat}{y:Y}(h:y.Ok lc lp)(n:Nat):(y.direct n).2.Ok lc lp∧(y.direct n).1<2^n:=by
 unfold Y.direct
 split
 ·exact⟨h,Nat.two_pow_pos n⟩
 ·split
  ·rename_i v e he
   have:=Lz.direct_ok n 0 y.d e v 0 h.d (by simp) he
   exact⟨⟨this.1,h.p,h.len⟩,by simpa using this.2.2⟩
  ·exact⟨⟨h.d,h.p,h.len⟩,Nat.two_pow_pos n⟩
theorem litGo_ok{lc lp:Nat}(u a:Nat):∀(k m:Nat)(same:Bool)(y:Y)(n:Nat),y.Ok lc lp→2^n≤m→m<2^(n+1)→(litGo u a k m same y).2.Ok lc lp∧2^(n+k)≤(litGo u a k m same y).1∧(litGo u a k m same y).1<2^(n+k+1)
 |0,m,same,y,n,h,h1,h2=>⟨h,h1,h2⟩
 |k+1,m,same,y,n,h,h1,h2=>by
   have hb:=Y.bit_ok h (by omega:6<18) (a+m+if same then 256*(1+u/2^k%2) else 0)
   rw[Nat.pow_succ] at h2
   have ih:=litGo_ok u a k (2*m+(y.bit 6 (a+m+if same then 256*(1+u/2^k%2) else 0)).1) (same&&decide ((y.bit 6 (a+m+if same then 256*(1+u/2^k%2) else 0)).1=u/2^k%2)) (y.bit 6 (a+m+if same then 256*(1+u/2^k%2) else 0)).2 (n+1) hb.1 (by rw[Nat.pow_succ];omega) (by rw[Nat.pow_succ,Nat.pow_succ];omega)
   rw[show n+(k+1)=n+1+k by omega]
   exact ih
theorem Y.literal_ok{y:Y}{c:C}(h:y.Ok c.lc c.lp):(y.literal c).2.Ok c.lc c.lp∧(y.literal c).1<256:=by
 unfold Y.literal
 split
 ·exact Y.tree_ok h false (by omega) _ 8
 ·have:=litGo_ok (c.lastB c.s.r0) c.context 8 1 true y 0 h (by omega) (by omega)
  exact⟨this.1,by simp only;omega⟩
theorem Y.length_ok{y:Y}{c:C}(h:y.Ok c.lc c.lp){q:Nat}(hq:q=7∨q=11):(y.length c q).2.Ok c.lc c.lp∧2≤(y.length c q).1∧(y.length c q).1≤273:=by
 have h1:=Y.bit_ok h (by omega:q<18) 0
 have h2:=Y.bit_ok h1.1 (by omega:q<18) 1
 unfold Y.length
 split
 ·have:=Y.tree_ok h1.1 false (by omega:q+1<18) (8*c.place) 3
  exact⟨this.1,by simp only;omega,by simp only;omega⟩
 ·split
  ·have:=Y.tree_ok h2.1 false (by omega:q+2<18) (8*c.place) 3
   exact⟨this.1,by simp only;omega,by simp only;omega⟩
  ·have:=Y.tree_ok h2.1 false (by omega:q+3<18) 0 8
   exact⟨this.1,by simp only;omega,by simp only;omega⟩
theorem Y.rest_ok{lc lp:Nat}{y:Y}(h:y.Ok lc lp){slot:Nat}(hs:slot<64):(y.rest slot).2.Ok lc lp∧1≤(y.rest slot).1∧(y.rest slot).1≤4294967296:=by
 have hr:=range_le ⟨slot,hs⟩
 simp only at hr
 obtain⟨r1,r2,r3,r4,r5⟩:=hr
 unfold Y.rest
 split
 ·have:=Nat.two_pow_pos (range slot).2
  exact⟨h,r3,by simp only;omega⟩
 ·split
  ·have:=Y.tree_ok h true (by omega:16<18) (restAt slot) (range slot).2
   exact⟨this.1,by simp only;omega,by simp only;omega⟩
  ·have h1:=Y.direct_ok h ((range slot).2-4)
   have h2:=Y.tree_ok h1.1 true (by omega:17<18) 0 4
   have e:2^(range slot).2=2^((range slot).2-4)*16:=by
    rw[show(16:Nat)=2^4 by rfl,←Nat.pow_add]
    congr 1
    have:=r4 (by omega)
    omega
   refine⟨h2.1,by simp only;omega,?_⟩
   simp only
   have h22:=h2.2
   have h12:=h1.2
   omega
theorem Y.dist_ok{lc lp:Nat}{y:Y}(h:y.Ok lc lp)(n:Nat):(y.dist n).2.Ok lc lp∧1≤(y.dist n).1∧(y.dist n).1≤4294967296:=by
 have h1:=Y.tree_ok h false (by omega:15<18) (slotAt n) 6
 exact Y.rest_ok h1.1 (by simpa using h1.2)
theorem Y.repeat_ok{y:Y}{c:C}(h:y.Ok c.lc c.lp){i:Nat}(hi:i≤3):(y.repeat c i).2.Ok c.lc c.lp∧(y.repeat c i).1.Ok:=by
 have h1:=Y.length_ok h (.inr rfl:11=7∨11=11)
 exact⟨h1.1,⟨.inr (.inr (.inl rfl)),fun _=>hi,by simp[Y.repeat]⟩⟩
theorem Y.symbol_ok{y:Y}{c:C}(h:y.Ok c.lc c.lp):(y.symbol c).2.Ok c.lc c.lp∧(y.symbol c).1.Ok:=by
 have h0:=Y.bit_ok h (by omega:0<18) c.at
 unfold Y.symbol
 split
 ·have h1:=Y.literal_ok (c:=c) h0.1
  exact⟨h1.1,⟨.inl rfl,fun e=>by simp[Y.lit] at e,h1.2⟩⟩
 ·have h2:=Y.bit_ok h0.1 (by omega:2<18) c.s.num
  unfold Y.symbol1
  split
  ·have h3:=Y.length_ok (c:=c) h2.1 (.inl rfl:7=7∨7=11)
   have h4:=Y.dist_ok h3.1 (((y.bit 0 c.at).2.bit 2 c.s.num).2.length c 7).1
   exact⟨h4.1,⟨.inr (.inl rfl),fun e=>by simp[Y.match] at e,by simp[Y.match]⟩⟩
  ·have h3:=Y.bit_ok h2.1 (by omega:3<18) c.s.num
   unfold Y.symbol2
   split
   ·have h4:=Y.bit_ok h3.1 (by omega:1<18) c.at
    unfold Y.short
    split
    ·exact⟨h4.1,⟨.inr (.inr (.inr rfl)),fun _=>by simp,by simp⟩⟩
    ·exact Y.repeat_ok h4.1 (by omega)
   ·have h4:=Y.bit_ok h3.1 (by omega:4<18) c.s.num
    have h5:=Y.bit_ok h4.1 (by omega:5<18) c.s.num
    unfold Y.older
    split
    ·exact Y.repeat_ok h5.1 (by omega)
    ·exact Y.repeat_ok h4.1 (by omega)
end Lz
namespace Prob
open Mem
theorem bound_calls(p:Int)(w:World):
 Calls Tryz.prog 223 #[.int .i64 p] w fun e w'=>e=.returned (.int .i64 (taken p))∧w=w':=by
 go_enter Tryz.func223,Tryz.ntmps223
 go_wp2
 all_goals go_ret
 all_goals refine⟨ret_int ?_,rfl⟩
 all_goals(unfold taken;repeat' split)
 all_goals omega
theorem rnext_calls(p b:Int)(w:World):
 Calls Tryz.prog 224 #[.int .i64 p,.int .i64 b] w fun e w'=>e=.returned (.int .i64 (next p b))∧w=w':=by
 have h0:=taken_lo p
 have h1:=taken_hi p
 go_enter Tryz.func224,Tryz.ntmps224
 go_wp2_with ((with_reducible refine(bound_calls _ _).mono ?_);rintro e w' ⟨rfl,rfl⟩)
 all_goals go_ret
 all_goals refine⟨ret_int ?_,rfl⟩
 all_goals simp only[beq_iff_eq,beq_eq_false_iff_ne] at*
 all_goals(unfold next;first|rw[if_pos (by assumption)]|rw[if_neg (by assumption)])
theorem rboundR_calls(r p:Int)(w:World)(h0:0≤r)(h1:r≤4294967295):
 Calls Tryz.prog 204 #[.int .u32 r,.int .i64 p] w fun e w'=>e=.returned (.int .u32 (bnd r p))∧w=w':=by
 have h2:=taken_lo p
 have h3:=taken_hi p
 go_enter Tryz.func204,Tryz.ntmps204
 go_wp2_with ((with_reducible refine(bound_calls _ _).mono ?_);rintro e w' ⟨rfl,rfl⟩)
 all_goals go_ret
 all_goals refine⟨ret_int ?_,rfl⟩
 all_goals exact bnd_in r p h0 h1
theorem rat_in(b g n cap i:Nat)(N:Value)(p:Int)(w:World)(hb:w.cell? ⟨b,1,none⟩=some (.slice (some ⟨g,0,none⟩) n cap))
 (hg:w.cell? ⟨g,i,none⟩=some (.int .i64 p))(hi:i<n)(hn:n≤maxLen):
 Calls Tryz.prog 203 #[.pointer (some ⟨b,0,none⟩),.int .i64 i] w fun e w'=>e=.returned (.tuple #[.int .i64 p,.int .i64 0])∧w=w':=by
 unfold maxLen at hn
 have hd:decide ((i:Int)<0)=false:=by simp
 go_enter Tryz.func203,Tryz.ntmps203
 go_wp2
 go_ret2
 exact⟨rfl,rfl⟩
theorem rturn_in(b g n cap i:Nat)(N:Value)(cs:Array Value)(p bit:Int)(w:World)(hb:w.heap[b]? =some (.cells #[N,.slice (some ⟨g,0,none⟩) n cap] 337 (0,0)))
 (hg:w.heap[g]? =some (.cells cs 3 (0,0)))(hi:i<n)(hn:n≤maxLen)(hp:cs[i]? =some (.int .i64 p))(hbg:b≠g):
 Calls Tryz.prog 207 #[.pointer (some ⟨b,0,none⟩),.int .i64 i,.int .i64 bit] w fun e w'=>e=.returned (.int .i64 0)∧
  Fr (fun k=>k=g) w w'∧w'.heap[g]? =some (.cells (cs.setIfInBounds i (.int .i64 (next p bit))) 3 (0,0))∧w'.heap.size=w.heap.size:=by
 have hcb:=cell_in (i:=1) hb rfl
 have hcg:=cell_in hg hp
 have hf:=frozen_in hg i
 have Hb:=Hd hb
 have Hg:=Hd hg
 have Hp:=Hd hp
 clear hb hg hp
 unfold maxLen at hn
 have hd:decide ((i:Int)<0)=false:=by simp
 go_enter Tryz.func207,Tryz.ntmps207
 go_wp2_with fail
 go_region_with ((with_reducible refine(rnext_calls _ _ _).mono ?_);rintro e w' ⟨rfl,rfl⟩)
 all_goals go_wp2
 all_goals go_ret
 all_goals exact⟨rfl,(Fr.one _ _ _ _).drew,set_in Hg.out _ _,by simp⟩
theorem rreset_calls(b g n cap:Nat)(N:Value)(p:Option Addr)(cs:Array Value)(w:World)(hb:w.heap[b]? =some (.cells #[N,.slice p n cap] 337 (0,0)))
 (hp:0<n→p=some ⟨g,0,none⟩∧w.heap[g]? =some (.cells cs 3 (0,0))∧n≤cs.size)(hn:n≤maxLen)(hbg:b≠g):
 Calls Tryz.prog 225 #[.pointer (some ⟨b,0,none⟩)] w fun e w'=>e=.returned (.tuple #[])∧
  Fr (fun k=>k=g∧0<n) w w'∧(0<n→w'.heap[g]? =some (.cells ((List.replicate n (.int .i64 1024)).toArray++cs.extract n cs.size) 3 (0,0)))∧w'.heap.size=w.heap.size:=by
 have hcb:=cell_in (i:=1) hb rfl
 have Hb:=Hd hb
 have Hp:=Hd hp
 clear hb hp
 unfold maxLen at hn
 go_enter Tryz.func225,Tryz.ntmps225
 go_wp2
 go_loopw [2](fun i wr=>∃k:Nat,k≤n∧i=.int .i64 k∧Fr (fun k=>k=g∧0<n) w wr∧wr.heap.size=w.heap.size∧
  (0<n→wr.heap[g]? =some (.cells ((List.replicate k (.int .i64 1024)).toArray++cs.extract k cs.size) 3 (0,0)))) (fun i _=>n-(intOf i).toNat)
 case atStart=>exact⟨0,by omega,rfl,Fr.refl _ _,rfl,fun h=>by rw[(Hp.out h).2.1];simp⟩
 case round=>
  obtain⟨k,hk,rfl,hfr,hsz,hgr⟩:=hrel
  have hcb1:=cell_in (i:=1) (hfr.keep Hb.out (fun h=>hbg h.1)) rfl
  have Hgr:=Hd hgr
  clear hgr
  by_cases hlt:k<n
  ·obtain⟨rfl,hg0,hc⟩:=Hp.out (by omega)
   have hgr:=Hgr.out (by omega)
   have hf1:=frozen_in hgr k
   have hcg1:wr.cell? ⟨g,k,none⟩=cs[k]? :=by
    rw[cell_of_row _ _ _ _ _ _ hgr]
    exact rep_at cs k (by omega) _
   obtain⟨v,hv⟩:∃v,cs[k]? =some v:=⟨cs[k]'(by omega),by simp⟩
   rw[hv] at hcg1
   clear hv hg0 hgr
   go_wp2
   go_roundw
   case rel=>exact⟨k+1,by omega,by go_num,hfr.trans ((Fr.one _ _ _ _).mono (fun i hi(h:i=_)=>⟨h,by omega⟩)),by simpa using hsz,fun h=>by rw[set_in (Hgr.out h),rep_set cs k (by omega)]⟩
   case measure=>simp[intOf];omega
  ·obtain rfl:k=n:=by omega
   go_wp2
   go_end0
   exact⟨rfl,hfr,Hgr.out,hsz⟩
theorem rnew_in(n:Nat)(w:World)(hn:n≤1048576):
 Calls Tryz.prog 208 #[.int .i64 n] w fun e w'=>e=.returned (.tuple #[.pointer (some ⟨w.heap.size+1,0,none⟩),.int .i64 0])∧
  Fr (fun _=>False) w w'∧w'.heap[w.heap.size+1]? =some (.cells #[.int .i64 n,.slice (some ⟨w.heap.size,0,none⟩) n n] 337 (0,0))∧
  w'.heap[w.heap.size]? =some (.cells (List.replicate n (.int .i64 1024)).toArray 3 (0,0))∧w'.heap.size=w.heap.size+2:=by
 have hmk:=make_ints n (by omega)
 go_enter Tryz.func208,Tryz.ntmps208
 go_wp2_with fail
 refine(rreset_calls (w.heap.size+1) w.heap.size n n (.int .i64 n) _ (Array.replicate n (.int .i64 0)) _ (heap_alloc2_new w _ _) (fun _=>⟨rfl,heap_alloc2_old w _ _,by simp⟩) (by simp only[maxLen];omega) (by omega)).mono ?_
 rintro e w1 ⟨rfl,hfr,hg,hsz⟩
 have hfr0:Fr (fun _=>False) w w1:=(((Fr.refl (fun _=>False) w).alloc _).alloc _).trans' hfr (fun i hi h=>by omega)
 have hb:=hfr.keep (heap_alloc2_new w _ _) (by simp)
 have hg':w1.heap[w.heap.size]? =some (.cells (List.replicate n (.int .i64 1024)).toArray 3 (0,0)):=by
  by_cases h0:0<n
  ·rw[hg h0];simp
  ·obtain rfl:n=0:=by omega
   have:=hfr.keep (heap_alloc2_old w _ _) (by simp)
   rw[this];simp
 simp only[World.size_alloc] at hsz
 have HG:=Hd hg'
 have HB:=Hd hb
 have HS:=Hd hsz
 clear hg hb hfr hsz hg'
 go_wp2
 go_ret2
 exact⟨rfl,hfr0,HB.out,HG.out,HS.out⟩
structure RSet(w:World)(b g:Nat)(L:List Nat):Prop where
 box:w.heap[b]? =some (.cells #[.int .i64 L.length,.slice (some ⟨g,0,none⟩) L.length L.length] 337 (0,0))
 row:w.heap[g]? =some (.cells (L.map fun p:Nat=>Value.int .i64 (p:Int)).toArray 3 (0,0))
 ok:∀p ∈ L,p≤2047
 small:L.length≤1048576
theorem RSet.apart{w:World}{b g:Nat}{L:List Nat}(h:RSet w b g L):b≠g:=by
 rintro rfl
 have h1:=h.box
 rw[h.row] at h1
 simp only[Option.some.injEq,Obj.cells.injEq] at h1
 exact absurd h1.2.1 (by decide)
theorem RSet.step{S:Nat→Prop}{w w':World}{b g:Nat}{L:List Nat}(h:RSet w b g L)(hfr:Fr S w w')(hb:¬S b)(hg:¬S g):RSet w' b g L:=⟨hfr.keep h.box hb,hfr.keep h.row hg,h.ok,h.small⟩
theorem RSet.lt{w:World}{b g:Nat}{L:List Nat}(h:RSet w b g L):b<w.heap.size∧g<w.heap.size:=⟨lt_of_block h.box,lt_of_block h.row⟩
theorem rset_new(w:World):Calls Tryz.prog 208 #[.int .i64 768] w fun e w'=>e=.returned (.tuple #[.pointer (some ⟨w.heap.size+1,0,none⟩),.int .i64 0])∧Fr (fun _=>False) w w'∧RSet w' (w.heap.size+1) w.heap.size (List.replicate 768 1024):=by
 refine(rnew_in 768 w (by omega)).mono ?_
 rintro e w' ⟨rfl,hfr,h1,h2,_⟩
 refine⟨rfl,hfr,⟨by rw[List.length_replicate];exact h1,by rw[List.map_replicate];exact h2,fun p hp=> ?_,by rw[List.length_replicate];omega⟩⟩
 rw[List.mem_replicate] at hp
 omega
theorem rset_at(b g i p:Nat)(L:List Nat)(w:World)(h:RSet w b g L)(hp:L[i]? =some p):Calls Tryz.prog 203 #[.pointer (some ⟨b,0,none⟩),.int .i64 i] w fun e w'=>e=.returned (.tuple #[.int .i64 p,.int .i64 0])∧w=w':=by
 have hi:=(List.getElem?_eq_some_iff.1 hp).1
 refine rat_in b g L.length L.length i .nilIface p w (cell_in h.box rfl) (cell_in h.row ?_) hi (by have:=h.small;simp only[maxLen];omega)
 simp[hp]
theorem rset_turn(b g i p v:Nat)(L:List Nat)(w:World)(h:RSet w b g L)(hp:L[i]? =some p):Calls Tryz.prog 207 #[.pointer (some ⟨b,0,none⟩),.int .i64 i,.int .i64 v] w fun e w'=>e=.returned (.int .i64 0)∧Fr (fun k=>k=g) w w'∧RSet w' b g (L.set i (nextN p v)):=by
 have hi:=(List.getElem?_eq_some_iff.1 hp).1
 have hp2:=h.ok p (List.mem_of_getElem? hp)
 refine (rturn_in b g L.length L.length i (.int .i64 L.length) _ (p:Int) (v:Int) w h.box h.row hi (by have:=h.small;simp only [maxLen];omega) (by simp [hp]) h.apart).mono ?_
 rintro e w' ⟨rfl,hfr,h1,_⟩
 refine⟨rfl,hfr,⟨by rw[List.length_set];exact hfr.keep h.box h.apart,?_,fun q hq=> ?_,by rw[List.length_set];exact h.small⟩⟩
 ·rw[h1,next_nat p v hp2]
  congr 2
  apply Array.ext'
  simp
 ·rcases List.mem_or_eq_of_mem_set hq with h1|h1
  ·exact h.ok q h1
  ·exact h1 ▸ nextN_le p v hp2
theorem rbound_nat(r p:Nat)(w:World)(hr:r≤4294967295)(hp:p≤2047):Calls Tryz.prog 204 #[.int .u32 r,.int .i64 p] w fun e w'=>e=.returned (.int .u32 (Rc.cutAt r p))∧w=w':=by
 refine(rboundR_calls r p w (by omega) (by omega)).mono ?_
 rintro e w' ⟨rfl,rfl⟩
 refine⟨?_,rfl⟩
 apply ret_int
 unfold bnd Rc.cutAt
 have e:((r/2048:Nat):Int)=(r:Int)/2048:=by omega
 rw[taken_id _ (by omega) (by omega),Int.natCast_mul,e]
end Prob
namespace Lz
open Mem St
abbrev ptr(n:Nat):Value:=.pointer (some ⟨n,0,none⟩)
structure Row1(w w':World)(x:Nat×Nat×Nat):Prop where
 fr:Fr (fun _=>False) w w'
 set:Prob.SetAt w' x.1 x.2.1 (List.replicate x.2.2 1024)
 lo:w.heap.size≤x.1∧w.heap.size≤x.2.1
structure Rows(w0 w:World)(l:List (Nat×Nat×Nat)):Prop where
 fr:Fr (fun _=>False) w0 w
 set:∀x ∈ l,Prob.SetAt w x.1 x.2.1 (List.replicate x.2.2 1024)
 lo:∀x ∈ l,w0.heap.size≤x.1∧w0.heap.size≤x.2.1
 pair:l.Pairwise (fun x y=>x.2.1<y.2.1)
theorem Rows.start(w:World):Rows w w []:=⟨Fr.refl _ _,by simp,by simp,by simp⟩
theorem Rows.keep{w0 w w':World}{l:List (Nat×Nat×Nat)}(h:Rows w0 w l)(hfr:Fr (fun _=>False) w w'):Rows w0 w' l:=
 ⟨h.fr.trans hfr,fun x hx=>(h.set x hx).keep hfr,h.lo,h.pair⟩
theorem Rows.snoc{w0 w w':World}{l:List (Nat×Nat×Nat)}(h:Rows w0 w l){x:Nat×Nat×Nat}(h1:Row1 w w' x):Rows w0 w' (l++[x]):=by
 refine⟨h.fr.trans h1.fr,fun y hy=> ?_,fun y hy=> ?_,?_⟩
 ·rcases List.mem_append.1 hy with hy|hy
  ·exact(h.set y hy).keep h1.fr
  ·rw[List.mem_singleton.1 hy]
   exact h1.set
 ·rcases List.mem_append.1 hy with hy|hy
  ·exact h.lo y hy
  ·rw[List.mem_singleton.1 hy]
   have:=h.fr.size
   have:=h1.lo
   omega
 ·rw[List.pairwise_append]
  refine⟨h.pair,by simp,fun y hy z hz=> ?_⟩
  rw[List.mem_singleton.1 hz]
  have h2:=(h.set y hy).lt.2
  have h3:=h1.lo.2
  omega
theorem Rows.join{w0 w w':World}{l m:List (Nat×Nat×Nat)}(h:Rows w0 w l)(k:Rows w w' m):Rows w0 w' (l++m):=by
 refine⟨h.fr.trans k.fr,fun y hy=> ?_,fun y hy=> ?_,?_⟩
 ·rcases List.mem_append.1 hy with hy|hy
  ·exact(h.set y hy).keep k.fr
  ·exact k.set y hy
 ·rcases List.mem_append.1 hy with hy|hy
  ·exact h.lo y hy
  ·have:=h.fr.size
   have:=k.lo y hy
   omega
 ·rw[List.pairwise_append]
  refine⟨h.pair,k.pair,fun y hy z hz=> ?_⟩
  have h2:=(h.set y hy).lt.2
  have h3:=(k.lo z hz).2
  omega
theorem Rows.fin{w0 W w w':World}{l:List (Nat×Nat×Nat)}(h:Rows W w l)(hF:Fr (fun _=>False) w0 W)(hch:Fr (fun k=>w0.heap.size≤k∧k<W.heap.size) w w'):Rows w0 w' l:=by
 have hs:=hF.size
 refine⟨(hF.trans h.fr).trans' hch (fun i hi h=>by omega),fun x hx=>(h.set x hx).step hch ?_ ?_,fun x hx=> ?_,h.pair⟩
 ·have:=(h.lo x hx).1
  omega
 ·have:=(h.lo x hx).2
  omega
 ·have:=h.lo x hx
  omega
theorem row_calls(n:Nat)(w:World)(hn:n≤1048576):
 Calls Tryz.prog 73 #[.int .i64 n] w fun e w'=>∃b g,e=.returned (ptr b)∧Row1 w w' (b,g,n):=by
 have HN:=Hd (Prob.new_in n w hn)
 go_enter Tryz.func73,Tryz.ntmps73
 go_wp2_with fail
 refine HN.out.mono ?_
 rintro e w1 ⟨rfl,hfr,hb,hg,hsz⟩
 have HF:=Hd hfr
 have HB:=Hd hb
 have HG:=Hd hg
 clear hfr hb hg hsz
 go_wp2_with fail
 go_ret
 refine⟨_,w.heap.size,rfl,HF.out,⟨n,_,?_,HG.out,by simp,by simp only[maxLen];omega,?_,?_⟩,by simp⟩
 ·rw[List.length_replicate]
  exact HB.out
 ·intro i p hp
  have hi:=(List.getElem?_eq_some_iff.1 hp).1
  simp only[List.length_replicate] at hi
  rw[List.getElem?_replicate,if_pos hi] at hp
  obtain rfl:=Option.some.inj hp
  simp[hi]
 ·intro j x hx
  obtain⟨h1,h2⟩:=Array.getElem?_eq_some_iff.1 hx
  exact⟨1024,by rw[←h2];simp⟩
theorem lengths_calls(w:World):
 Calls Tryz.prog 74 #[] w fun e w'=>∃b0 g0 b1 g1 b2 g2 b3 g3,e=.returned (.agg #[ptr b0,ptr b1,ptr b2,ptr b3])∧Rows w w' [(b0,g0,2),(b1,g1,128),(b2,g2,128),(b3,g3,256)]:=by
 have hf0:=(Fr.refl (fun _=>False) w).alloc (.cells #[.pointer none,.pointer none,.pointer none,.pointer none] 117)
 have hx:=heap_alloc_new w (.cells #[.pointer none,.pointer none,.pointer none,.pointer none] 117)
 have HF0:=Hd hf0
 have HX:=Hd hx
 clear hf0 hx
 go_enter Tryz.func74,Tryz.ntmps74
 go_wp2_with fail
 refine(row_calls 2 _ (by omega)).mono ?_
 rintro e w1 ⟨b0,g0,rfl,h1⟩
 have H1:=Hd ((Rows.start _).snoc h1)
 have hx1:=h1.fr.keep HX.out (fun h=>h)
 have HX1:=Hd hx1
 clear h1 hx1
 go_wp2_with fail
 refine(row_calls 128 _ (by omega)).mono ?_
 rintro e w2 ⟨b1,g1,rfl,h2⟩
 have H2:=Hd (H1.out.snoc h2)
 have HX2:=Hd (h2.fr.keep HX1.out (fun h=>h))
 clear h2
 go_wp2_with fail
 refine(row_calls 128 _ (by omega)).mono ?_
 rintro e w3 ⟨b2,g2,rfl,h3⟩
 have H3:=Hd (H2.out.snoc h3)
 have HX3:=Hd (h3.fr.keep HX2.out (fun h=>h))
 clear h3
 go_wp2_with fail
 refine(row_calls 256 _ (by omega)).mono ?_
 rintro e w4 ⟨b3,g3,rfl,h4⟩
 have H4:=Hd (H3.out.snoc h4)
 have hx4:=h4.fr.keep HX3.out (fun h=>h)
 obtain⟨z0,z1,z2,z3,zf⟩:=cf4 hx4 rfl rfl rfl rfl
 clear h4 hx4
 go_wp2_with fail
 refine bodyPost_ret (v:=.agg #[ptr b0,ptr b1,ptr b2,ptr b3]) (by simp[results,Tryz.results74,go_sem,z0,z1,z2,z3]) rfl ?_
 refine⟨b0,g0,b1,g1,b2,g2,b3,g3,rfl,H4.out.fin HF0.out ?_⟩
 repeat refine Fr.setCell ?_ (.inl (by simp)) _
 exact Fr.refl _ _
def tabV(lc lp pb:Nat)(s:S)(b:Nat→Nat):Array Value:=
 #[.int .i64 lc,.int .i64 lp,.int .i64 pb,.int .i64 s.num,.int .i64 s.r0,.int .i64 s.r1,.int .i64 s.r2,.int .i64 s.r3,
  ptr (b 0),ptr (b 1),ptr (b 2),ptr (b 3),ptr (b 4),ptr (b 5),ptr (b 6),ptr (b 7),ptr (b 8),ptr (b 9),ptr (b 10),ptr (b 11),ptr (b 12),ptr (b 13),ptr (b 14),ptr (b 15),ptr (b 16),ptr (b 17)]
structure Tab(w:World)(T:Nat)(b g:Nat→Nat)(lc lp pb:Nat)(s:S)(ps:Nat→List Nat):Prop where
 box:w.heap[T]? =some (.cells (tabV lc lp pb s b) 119 (0,0))
 set:∀j,j<18→Prob.SetAt w (b j) (g j) (ps j)
 inj:∀i j,i<18→j<18→g i=g j→i=j
def fresh(lc lp:Nat):Nat→List Nat:=fun j=>List.replicate (rowLen lc lp j) 1024
theorem pairwise_at{α:Type}{R:α→α→Prop}{l:List α}(h:l.Pairwise R){i j:Nat}{x y:α}(hi:l[i]? =some x)(hj:l[j]? =some y)(hij:i<j):R x y:=by
 obtain⟨h1,rfl⟩:=List.getElem?_eq_some_iff.1 hi
 obtain⟨h2,rfl⟩:=List.getElem?_eq_some_iff.1 hj
 exact List.pairwise_iff_getElem.1 h i j h1 h2 hij
theorem rows_tab{w0 w:World}{l:List (Nat×Nat×Nat)}{T lc lp pb:Nat}{s:S}(h:Rows w0 w l)(hl:l.map (fun x=>x.2.2)=(List.range 18).map (rowLen lc lp))
 (hT:w.heap[T]? =some (.cells (tabV lc lp pb s (fun j=>(l.getD j (0,0,0)).1)) 119 (0,0))):
 Tab w T (fun j=>(l.getD j (0,0,0)).1) (fun j=>(l.getD j (0,0,0)).2.1) lc lp pb s (fresh lc lp)∧∀j,j<18→w0.heap.size≤(l.getD j (0,0,0)).1∧w0.heap.size≤(l.getD j (0,0,0)).2.1:=by
 have hlen:l.length=18:=by
  have:=congrArg List.length hl
  simpa using this
 have hx:∀j,j<18→∃x,l[j]? =some x∧l.getD j (0,0,0)=x∧x ∈ l∧x.2.2=rowLen lc lp j:=by
  intro j hj
  refine⟨l[j]'(by omega),by simp,by simp[List.getD_eq_getElem?_getD,List.getElem?_eq_getElem (show j<l.length by omega)],List.getElem_mem _,?_⟩
  have:=congrArg (fun m=>m[j]?) hl
  simp only[List.getElem?_map,List.getElem?_range,hj,List.getElem?_eq_getElem (show j<l.length by omega)] at this
  simpa using this
 refine⟨⟨hT,fun j hj=> ?_,fun i j hi hj hij=> ?_⟩,fun j hj=> ?_⟩
 ·obtain⟨x,h1,h2,h3,h4⟩:=hx j hj
  simp only[h2,fresh,←h4]
  exact h.set x h3
 ·obtain⟨x,h1,h2,h3,h4⟩:=hx i hi
  obtain⟨y,k1,k2,k3,k4⟩:=hx j hj
  simp only[h2,k2] at hij
  rcases Nat.lt_trichotomy i j with hlt|rfl|hlt
  ·have:=pairwise_at h.pair h1 k1 hlt
   omega
  ·rfl
  ·have:=pairwise_at h.pair k1 h1 hlt
   omega
 ·obtain⟨x,h1,h2,h3,h4⟩:=hx j hj
  rw[h2]
  exact h.lo x h3
theorem row_k(n:Nat)(k:Int)(hk:k=n)(w:World)(hn:n≤1048576):
 Calls Tryz.prog 73 #[.int .i64 k] w fun e w'=>∃b g,e=.returned (ptr b)∧Row1 w w' (b,g,n):=by
 subst hk
 exact row_calls n w hn
theorem new_st(w:World):Calls Tryz.prog 38 #[] w fun e w'=>e=.returned (.agg #[.int .i64 0,.int .i64 1,.int .i64 1,.int .i64 1,.int .i64 1])∧Fr (fun _=>False) w w':=new_calls w
def NewPost(lc lp pb:Nat)(w:World)(e:Ending)(w':World):Prop:=
 ∃T b g,e=.returned (ptr T)∧Fr (fun _=>False) w w'∧Tab w' T b g lc lp pb S.new (fresh lc lp)∧w.heap.size≤T∧∀j,j<18→w.heap.size≤b j∧w.heap.size≤g j
set_option maxRecDepth 100000 in
theorem tables_calls(lc lp pb:Nat)(w:World)(hl:lc+lp≤4):
 Calls Tryz.prog 47 #[.agg #[.int .i64 lc,.int .i64 lp,.int .i64 pb]] w (NewPost lc lp pb w):=by
 have hf0:=(Fr.refl (fun _=>False) w).alloc (.cells #[.int .i64 lc,.int .i64 lp,.int .i64 pb] 50)
 have hx:=heap_alloc_new w (.cells #[.int .i64 lc,.int .i64 lp,.int .i64 pb] 50)
 have e1:IntKind.i64.wrap ((lc:Int)+lp)=((lc+lp:Nat):Int):=by rw[IntWalk.i64_in _ (by omega)];omega
 have HF0:=Hd hf0
 go_enter Tryz.func47,Tryz.ntmps47
 go_wp2_with fail
 generalize hW:w.alloc (.cells #[.int .i64 lc,.int .i64 lp,.int .i64 pb] 50)=W at*
 have HB:=Hd (hx)
 have HR:=Hd (Rows.start W.drew)
 have HS:=Hd (show∀w':World,Fr (fun _=>False) W w'→w'.cell? ⟨w.heap.size,0,none⟩=some (.int .i64 lc)∧w'.cell? ⟨w.heap.size,1,none⟩=some (.int .i64 lp)∧w'.cell? ⟨w.heap.size,2,none⟩=some (.int .i64 pb) from fun w' h=>
  ⟨cell_in (i:=0) (h.keep hx (fun h=>h)) rfl,cell_in (i:=1) (h.keep hx (fun h=>h)) rfl,cell_in (i:=2) (h.keep hx (fun h=>h)) rfl⟩)
 have HSC:=Hd (HS.out W.drew (Fr.refl _ _).drew)
 obtain⟨c0,c1,c2⟩:=HSC.out
 clear hx hf0 hW
 have HV:Hid (768*2^(lc+lp)≤1048576∧IntKind.i64.wrap (768*2^((lc:Int)+lp).toNat:Int)=((768*2^(lc+lp):Nat):Int)):=by
  have hp:2^(lc+lp)≤16:=Nat.pow_le_pow_right (n:=2) (by omega) hl
  have e2:((lc:Int)+lp).toNat=lc+lp:=by omega
  have e4:(768*2^(lc+lp):Int)=((768*2^(lc+lp):Nat):Int):=by simp
  rw[e2,e4]
  exact Hd ⟨by omega,IntWalk.i64_in _ (by omega)⟩
 have R192:=fun W=>Hd (row_k 192 192 rfl W (by omega))
 have R12:=fun W=>Hd (row_k 12 12 rfl W (by omega))
 have R256:=fun W=>Hd (row_k 256 256 rfl W (by omega))
 have R128:=fun W=>Hd (row_k 128 128 rfl W (by omega))
 have R16:=fun W=>Hd (row_k 16 16 rfl W (by omega))
 have RL:=fun W=>Hd (row_k (768*2^(lc+lp)) _ HV.out.2 W HV.out.1)
 go_region_held3 (fun w'=>w'.cell? ⟨w.heap.size,0,none⟩=some (.int .i64 lc)∧w'.cell? ⟨w.heap.size,1,none⟩=some (.int .i64 lp)∧w'.cell? ⟨w.heap.size,2,none⟩=some (.int .i64 pb)) (first|with_reducible exact HSC.out|exact HS.out _ (((Fr.refl _ W).drew.trans HR.out.fr).alloc _)) ((first
  | (go_at_call 38
     refine(new_st _).mono ?_
     rintro e wc ⟨rfl,hfrc⟩
     have HR:=Hd (HR.out.keep hfrc)
     have HSC:=Hd (HS.out _ ((Fr.refl _ W).drew.trans HR.out.fr))
     obtain⟨c0,c1,c2⟩:=HSC.out
     clear hfrc)
  | (go_at_call 73
     first
      |(with_reducible refine(R192 _).out.mono ?_)
      |(with_reducible refine(R12 _).out.mono ?_)
      |(with_reducible refine(R256 _).out.mono ?_)
      |(with_reducible refine(R128 _).out.mono ?_)
      |(with_reducible refine(R16 _).out.mono ?_)
      |(with_reducible refine(RL _).out.mono ?_)
     rintro e wc ⟨b,g,rfl,h1⟩
     have HR:=Hd (HR.out.snoc h1)
     have HSC:=Hd (HS.out _ ((Fr.refl _ W).drew.trans HR.out.fr))
     obtain⟨c0,c1,c2⟩:=HSC.out
     clear h1)
  | (go_at_call 74
     refine(lengths_calls _).mono ?_
     rintro e wc ⟨b0,g0,b1,g1,b2,g2,b3,g3,rfl,h1⟩
     have HR:=Hd (HR.out.join h1)
     have HSC:=Hd (HS.out _ ((Fr.refl _ W).drew.trans HR.out.fr))
     obtain⟨c0,c1,c2⟩:=HSC.out
     clear h1)))
 have hW:=HF0.out.size
 go_wp2_with fail
 go_ret
 obtain⟨h1,h2⟩:=rows_tab (T:=wc.heap.size) (lc:=lc) (lp:=lp) (pb:=pb) (s:=S.new) (HR.out.keep ((Fr.refl (fun _=>False) wc).alloc _)) (by rfl) (heap_alloc_new wc _)
 have hfr:=fun o=>HF0.out.trans (((Fr.refl (fun _=>False) W).drew.trans HR.out.fr).alloc o)
 have hs:=((Fr.refl (fun _=>False) W).drew.trans HR.out.fr).size
 refine⟨wc.heap.size,_,_,rfl,hfr _,h1,by omega,fun j hj=> ?_⟩
 have h3:=h2 j hj
 simp only[World.size_drew] at h3
 exact⟨Nat.le_trans hW h3.1,Nat.le_trans hW h3.2⟩
end Lz
end Go.Proofs.YtilegoadokmcdaaGreatDoor
