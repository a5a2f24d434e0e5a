/- Part 26 of 54: lemmas of the last part, each under the conditions that it names. -/
import Derived.Test.YtffoddpjfgjelaaGreatDoorK25
set_option linter.unusedVariables false
set_option linter.unusedSimpArgs false
set_option maxRecDepth 1500
set_option maxHeartbeats 4000000
namespace Go.Proofs.YtffoddpjfgjelaaGreatDoor
open Go.RowKit
namespace Ps
open Mem Win St Fi Pk
theorem own_put{w:World}{T:TypeId}{z g a n:Nat}{xs:List Value}(h:w.ownsRow 0 T z (.slice (some ⟨g,0,none⟩) n a) n xs)(i:Nat)(u:Value):(w.setCell ⟨g,i,none⟩ u).ownsRow 0 T z (.slice (some ⟨g,0,none⟩) n a) n (xs.set i u):=by
 obtain⟨k,l⟩:=h;rcases l with⟨e,s⟩|⟨r,f,j,b,m,o,d,p,c,q⟩
 ·simp at e
 ·simp only[Value.slice.injEq,Option.some.injEq,Addr.mk.injEq,and_true,true_and] at b
  obtain⟨rfl,rfl⟩:=b;exact⟨by rw[List.length_set];exact k,.inr ⟨g,a,_,rfl,m,set_in o i u,d,p,by simp[c],by rw[Array.toList_setIfInBounds,List.take_set,q]⟩⟩
theorem syCells_length(l:List Sy):(Lz.syCells l).length=l.length*4:=by
 induction l with
 |nil=>rfl
 |cons y l ih=>
   simp only[Lz.syCells,List.flatMap_cons,List.length_append,List.length_cons] at ih ⊢;rw[ih];simp only[Sy.cells,List.length_cons,List.length_nil];omega
theorem set_mid{α:Type}(A B:List α)(e f g i a b c d:α)(k:Nat)(h:A.length=k):
 ((((A++(e::f::g::i::B)).set k a).set (k+1) b).set (k+2) c).set (k+3) d=A++(a::b::c::d::B):=by
 subst h;simp[List.set_append]
theorem syCells_mid(a:List Sy)(y:Sy)(b:List Sy):Lz.syCells (a++y::b)=Lz.syCells a++(.int .i64 y.kind::.int .u8 y.byte::.int .i64 y.len::.int .i64 y.dist::Lz.syCells b):=by
 simp[Lz.syCells,Sy.cells]
theorem sy_open {w0 w:World} {v:Value} {a b:List Sy} {y:Sy} (h:Lz.Syms w0 w v (a++y::b)):∃g j c,v=.slice (some ⟨g,0,none⟩) (a++y::b).length j∧w.heap[g]? =some (.cells c 110 (0,0))∧
 c[a.length*4]? =some (.int .i64 y.kind)∧c[a.length*4+1]? =some (.int .u8 y.byte)∧c[a.length*4+2]? =some (.int .i64 y.len)∧c[a.length*4+3]? =some (.int .i64 y.dist)∧(a.length+1)*4≤c.size∧
 ∀z:Sy,Lz.Syms w0 ((((w.setCell ⟨g,a.length*4,none⟩ (.int .i64 z.kind)).setCell ⟨g,a.length*4+1,none⟩ (.int .u8 z.byte)).setCell ⟨g,a.length*4+2,none⟩ (.int .i64 z.len)).setCell ⟨g,a.length*4+3,none⟩ (.int .i64 z.dist)) v (a++z::b):=by
 obtain⟨C,s⟩:=h.own;rcases s with⟨A,r⟩|⟨g,j,c,m,D,t,p,E,o,B⟩
 ·simp at r
 ·have d:=syCells_length a
  have l:∀(i:Nat)(u:Value),(Lz.syCells (a++y::b))[i]? =some u→c[i]? =some u:=by
   intro i u n;rw[←B,List.getElem?_take] at n;split at n
   ·rw[←Array.getElem?_toList]
    exact n
   ·cases n
  have f:=syCells_mid a y b;refine⟨g,j,c,m,t,l _ _ ?_,l _ _ ?_,l _ _ ?_,l _ _ ?_,?_,fun z=>⟨?_,fun k x=>h.new k x⟩⟩
  ·rw[f,←d];simp
  ·rw[f,←d,List.getElem?_append_right (by omega)];simp
  ·rw[f,←d,List.getElem?_append_right (by omega)];simp
  ·rw[f,←d,List.getElem?_append_right (by omega)];simp
  ·rw[o]
   have:a.length+1≤j:=by simp only[List.length_append,List.length_cons] at p;omega
   exact Nat.mul_le_mul_right _ this
  ·have q:=h.own
   rw[m] at q ⊢;have e:(a++z::b).length=(a++y::b).length:=by simp
   rw[e,syCells_mid,←set_mid (Lz.syCells a) (Lz.syCells b) (.int .i64 y.kind) (.int .u8 y.byte) (.int .i64 y.len) (.int .i64 y.dist) _ _ _ _ (a.length*4) d,←f];exact own_put (own_put (own_put (own_put q _ _) _ _) _ _) _ _
theorem sy_at {w0 w:World} {g n d:Nat} {a b:List Sy} {y:Sy} (h:Lz.Syms w0 w (.slice (some ⟨g,0,none⟩) n d) (a++y::b)):∃c,w.heap[g]? =some (.cells c 110 (0,0))∧
 c[a.length*4]? =some (.int .i64 y.kind)∧c[a.length*4+1]? =some (.int .u8 y.byte)∧c[a.length*4+2]? =some (.int .i64 y.len)∧c[a.length*4+3]? =some (.int .i64 y.dist)∧(a.length+1)*4≤c.size∧
 ∀z:Sy,Lz.Syms w0 ((((w.setCell ⟨g,a.length*4,none⟩ (.int .i64 z.kind)).setCell ⟨g,a.length*4+1,none⟩ (.int .u8 z.byte)).setCell ⟨g,a.length*4+2,none⟩ (.int .i64 z.len)).setCell ⟨g,a.length*4+3,none⟩ (.int .i64 z.dist)) (.slice (some ⟨g,0,none⟩) n d) (a++z::b):=by
 obtain⟨i,f,c,e,h⟩:=sy_open h;simp only[Value.slice.injEq,Option.some.injEq,Addr.mk.injEq,and_true] at e;obtain⟨rfl,_,_⟩:=e;exact⟨c,h⟩
theorem fr5z{w wc:World}{Y:Nat}(h:Fr (fun _=>False) w wc)(f:w.heap.size≤Y)(a b c d e:Value):Fr (fun _=>False) w (((((wc.setCell ⟨Y,0,none⟩ a).setCell ⟨Y,1,none⟩ b).setCell ⟨Y,2,none⟩ c).setCell ⟨Y,3,none⟩ d).setCell ⟨Y,4,none⟩ e):=
 ((((h.setCell (p:=⟨Y,0,none⟩) (.inr f) _).setCell (p:=⟨Y,1,none⟩) (.inr f) _).setCell (p:=⟨Y,2,none⟩) (.inr f) _).setCell (p:=⟨Y,3,none⟩) (.inr f) _).setCell (p:=⟨Y,4,none⟩) (.inr f) _
theorem s5{W:World}{Y:Nat}{x y z u v:Value}(h:W.heap[Y]? =some (.cells #[x,y,z,u,v] 84 (0,0)))(a b c d e:Value):
 (((((W.setCell ⟨Y,0,none⟩ a).setCell ⟨Y,1,none⟩ b).setCell ⟨Y,2,none⟩ c).setCell ⟨Y,3,none⟩ d).setCell ⟨Y,4,none⟩ e).heap[Y]? =some (.cells #[a,b,c,d,e] 84 (0,0)):=set_in (set_in (set_in (set_in (set_in h 0 a) 1 b) 2 c) 3 d) 4 e
theorem PlanOk.length{data:List UInt8}{tp a:Nat}{b:List Px.Stp}:∀{l:List Sy}{p q:Nat},PlanOk data tp a b l p q→l.length+p≤q
 |[],p,q,h=>by subst h;simp
 |y::l,p,q,⟨h1,h2,h3⟩=>by
   have:=h3.length;have:=(StepOk.fits h1.1 h2).2;rw[List.length_cons];omega
theorem stepSize_sy{data:List UInt8}{p:Nat}{z:Px.Stp}{y:Sy}(h:z.sy data p=y)(a:z.n=1∨3≤z.n):stepSize y=z.n:=by
 subst h;unfold stepSize Px.Stp.sy;by_cases e:z.n=1
 ·rw[if_pos e,if_pos (Nat.zero_le 1),e]
 ·rw[if_neg e]
  show(if z.n≤1 then 1 else z.n)=_;rw[if_neg (by omega)]
structure CR(ps:List Px.Stp)(w:World)(data:List UInt8)(tp fm dict:Nat)(s:S)(P:Nat)(pv fv v:Value)(p:Nat)(t:S)(a b:List Sy)(wr:World):Prop where
 fr:Fr (fun _=>False) w wr
 st:wr.heap[w.heap.size]? =some (.cells t.cells 84 (0,0))
 rs:wr.heap[w.heap.size+1]? =some (.cells S.zero.cells 84 (0,0))
 sy:Lz.Syms w wr v (a++b)
 steps:Pk.Steps data tp a fm s p t
 ok:t.Ok
 pl:PlanOk data tp fm ps b p tp
 ch:Px.Cheap data tp dict fm ps a fm s p t
 ge:fm≤p
 pc:PcAt wr P tp dict pv fv data
theorem CR.keep{ps:List Px.Stp}{w wr d:World}{data:List UInt8}{tp e dict P p:Nat}{s t:S}{pv f v:Value}{a b:List Sy}(h:CR ps w data tp e dict s P pv f v p t a b wr)(c:Fr (fun _=>False) wr d):CR ps w data tp e dict s P pv f v p t a b d:=
 ⟨h.fr.trans c,c.keep h.st (fun h=>h),c.keep h.rs (fun h=>h),h.sy.step c (fun _ _ h=>h),h.steps,h.ok,h.pl,h.ch,h.ge,h.pc.keep c⟩
set_option maxRecDepth 100000 in
theorem cheap_calls(pv:Value)(data:List UInt8)(H tp dict:Nat)(s:S)(w:World)(h:Rd w pv data)(hT:Tabs w)(hs:s.Ok)(l7:H<tp)(ht:tp≤data.length)(hb:data.length≤1073741824)(l6:1≤dict)(j3:dict≤4294967295):
 Calls Tryz.prog 73 #[pv,.int .i64 H,.int .i64 tp,.int .i64 dict,.agg s.cells] w (ParsePost w data tp H s (fun l t=>∃pl,Px.Plan data tp dict pl∧pl.length=tp-H∧Px.Cheap data tp dict H pl l H s tp t)):=by
 have hx:=heap_alloc_new w (.cells s.cells 84);have b7:=((R0 w).alloc (.cells s.cells 84)).alloc (.cells S.zero.cells 84);have k3:=((R0 (w.alloc (.cells s.cells 84))).alloc (.cells S.zero.cells 84)).keep hx (fun h=>h);have g7:=heap_alloc_new (w.alloc (.cells s.cells 84)) (.cells S.zero.cells 84);rw[World.size_alloc] at g7;have HN:=Hd (plan_calls pv data H tp dict _ (h.keep b7) (hT.keep b7) l7 ht hb l6 j3);have h7:=Hd (fun(w':World)(hf:Fr (fun _=>False) w w')=>right_calls s hs w' (hT.keep hf));have HR:=Hd h;have HT:=Hd hT;have HS:=Hd hs;have f6:=Hd b7;have g0:=Hd k3;have g1:=Hd g7;obtain⟨pa,pc,rfl,_⟩:=h;obtain⟨sn,s0,s1,s2,s3⟩:=s;simp only[S.cells,S.zero] at HN h7 g0 g1 f6 ⊢;clear hx b7 k3 g7 hT hs;go_enter Tryz.func73,Tryz.ntmps73;go_wp2_with fail;refine HN.out.mono ?_;rintro e w2 ⟨b6,v,l,ps,rfl,c6,g4,O⟩;have a8:=Hd (f6.out.trans b6);have g2:=Hd (b6.keep g0.out (fun h=>h));have i6:=Hd (b6.keep g1.out (fun h=>h));obtain⟨pm,Q,rfl⟩:=own_slice c6.own;have d8:∀k,(Value.slice pm l.length Q).ownBlock=some k→w.heap.size+2≤k:=fun k hk=>by
  have:=c6.new k hk;simpa using this
 have i3:=Hd c6;have K:=Hd d8;have h6:=Hd g4;have j8:l.length≤1073741824:=by have:=g4.length;omega
 obtain⟨c0,c1,c2,c3,c4⟩:=cs5 g2.out rfl rfl rfl rfl rfl;clear b6 c6 g4 g0 g1 HN d8;go_wp2_with fail;refine(h7.out w2 a8.out).mono ?_;rintro e w3 ⟨rfl,j4⟩;clear c0 c1 c2 c3 c4;have T:=j4.alloc (.cells #[.slice pa data.length pc,.int .i64 tp,.int .i64 dict,.pointer none] 235);have k0:=heap_alloc_new w3 (.cells #[.slice pa data.length pc,.int .i64 tp,.int .i64 dict,.pointer none] 235);have l8:=f6.out.size;simp only[World.size_alloc] at l8;have H0:=Hd (show CR ps w data tp H dict ⟨sn,s0,s1,s2,s3⟩ w3.heap.size (.slice pa data.length pc) (.pointer none) (.slice pm l.length Q) H ⟨sn,s0,s1,s2,s3⟩ [] l (w3.alloc (.cells #[.slice pa data.length pc,.int .i64 tp,.int .i64 dict,.pointer none] 235)) from
  ⟨a8.out.trans T,T.keep g2.out (fun h=>h),T.keep i6.out (fun h=>h),⟨Lz.own_stepN i3.out.own T (fun _ _ h=>h),fun k hk=>by have:=K.out k hk;omega⟩,⟨rfl,rfl⟩,HS.out,h6.out,⟨rfl,rfl⟩,Nat.le_refl _,k0,HR.out.keep (a8.out.trans T)⟩)
 clear T k0 j4 g2 i6 i3 a8 h6;go_wp2_with fail;obtain⟨P,hP⟩:∃P,w3.heap.size=P:=⟨_,rfl⟩;rw[hP] at H0 ⊢;generalize w3.alloc (.cells #[.slice pa data.length pc,.int .i64 tp,.int .i64 dict,.pointer none] 235)=W4 at*;obtain⟨n,hn⟩:∃n,l.length=n:=⟨_,rfl⟩;rw[hn] at H0 K j8 ⊢;have k7:=Hd hn;clear hn;go_loopw [49,17] (fun s49 s17 wr=>∃(p:Nat)(t:S)(a b:List Sy),s49=.int .i64 a.length∧s17=.int .i64 p∧(a++b).length=n∧CR ps w data tp H dict ⟨sn,s0,s1,s2,s3⟩ P (.slice pa data.length pc) (.pointer none) (.slice pm n Q) p t a b wr) (fun s49 _ _=>n-(intOf s49).toNat);case atStart=>exact⟨H,_,[],l,rfl,rfl,by simpa using k7.out,H0.out⟩
 case round=>
  obtain⟨p,t,a,b,rfl,rfl,R,u⟩:=hrel;rcases b with _|⟨y,b⟩
  ·have hp:tp=p:=u.pl
   subst hp;have A:=u.st;have g5:=u.rs;obtain⟨tn,t0,t1,t2,t3⟩:=t;simp only[S.cells,S.zero] at A g5;obtain⟨c0,c1,c2,c3,c4⟩:=cs5 A rfl rfl rfl rfl rfl;obtain⟨z0,z1,z2,z3,z4,zf⟩:=cf5 g5 rfl rfl rfl rfl rfl;rw[List.append_nil] at R;rw[R];have m8:¬((n:Int)<(n:Int)):=by omega
   have HG:=Hd u;have d4:=Hd (show Lz.Syms w wr (.slice pm n Q) a from by simpa using u.sy);clear u R;go_upto_region 20 with fail;go_region;all_goals go_wp2_with fail
   all_goals
    refine bodyPost_ret (v:=.tuple #[.slice pm n Q,.agg #[.int .i64 tn,.int .i64 t0,.int .i64 t1,.int .i64 t2,.int .i64 t3],.int .i64 0]) (by simp[results,Tryz.results73,go_sem,z0,z1,z2,z3,z4]) rfl ?_;refine⟨?_,_,a,⟨tn,t0,t1,t2,t3⟩,rfl,d4.out.step (S:=fun k=>k=w.heap.size+1) ?_ (fun k hk e=> ?_),HG.out.steps,HG.out.ok,Hd ⟨ps,O.out.1,O.out.2,HG.out.ch⟩⟩
    ·refine Fr.drew ?_
     repeat refine Fr.setCell ?_ (.inr (Nat.le_succ _)) _
     exact HG.out.fr
    ·refine Fr.drew ?_
     repeat refine Fr.setCell ?_ (.inl (by simp)) _
     exact Fr.refl _ _
    ·subst e
     obtain⟨l3,hc⟩:=Lz.own_block d4.out.own hk;exact neOf g5 hc (by decide) rfl
  ·obtain⟨g,l9,l3,j7,x,U,V,X,Y,b5,_⟩:=sy_open u.sy
   simp only[Value.slice.injEq] at j7;obtain⟨rfl, -, -⟩:=j7;have A:=u.st;obtain⟨tn,t0,t1,t2,t3⟩:=t;obtain⟨yk,yb,Z,yd⟩:=y;simp only[S.cells] at A;simp only at U V X Y;have q0:=cell_in (i:=a.length*4) x U;have q1:=cell_in (i:=a.length*4+1) x V;have q2:=cell_in (i:=a.length*4+2) x X;have q3:=cell_in (i:=a.length*4+3) x Y;have j6:=(R0 wr).alloc (.cells #[.int .i64 yk,.int .u8 yb,.int .i64 Z,.int .i64 yd] 110);have g8:=heap_alloc_new wr (.cells #[.int .i64 yk,.int .u8 yb,.int .i64 Z,.int .i64 yd] 110);have h0:=Hd (u.keep j6);have i7:=Hd g8;obtain⟨b0,b1,b2,b3⟩:=cs4 g8 rfl rfl rfl rfl;have j9:(a.length:Int)<(n:Int):=by
    rw[←R];simp only[List.length_append,List.length_cons];omega
   have m6:=lt_of_block x;obtain⟨k,hk⟩:∃k,a.length=k:=⟨_,rfl⟩;rw[hk] at q0 q1 q2 q3 j9 ⊢;have i1:(0:Int)≤(k:Int):=by omega
   have HK:=Hd hk;have k6:=Hd R;clear u A j6 g8 x U V X Y b5 hk R;go_wp2_with fail;have g6:(if(Z:Int)≤1 then(1:Int) else(Z:Int))=((stepSize ⟨yk,yb,Z,yd⟩:Nat):Int):=by
    unfold stepSize;by_cases h:Z≤1
    ·rw[if_pos (by omega),if_pos h];rfl
    ·rw[if_neg (by omega),if_neg h]
   refine(size_calls _ _ _ _ _ (by omega)).mono ?_;rintro e w5 ⟨rfl,g3⟩;rw[g6];have r:=Hd (h0.out.keep g3);have l0:=Hd (g3.keep i7.out (fun h=>h));have A:=r.out.st;obtain⟨c0,c1,c2,c3,c4⟩:=cs5 A rfl rfl rfl rfl rfl;obtain⟨d0,d1,d2,d3⟩:=cs4 l0.out rfl rfl rfl rfl;have f:=Hd r.out.pl;obtain⟨m2,m3⟩:=StepOk.fits f.out.1.1 f.out.2.1;have m4:=Hd g6;clear b0 b1 b2 b3 q0 q1 q2 q3 A g3 g6 h0 i7;go_wp2_with fail;have i5:=Hd (told_calls P tp dict p (.slice pa data.length pc) (.pointer none) data ⟨yk,yb,Z,yd⟩ ⟨tn,t0,t1,t2,t3⟩ _ r.out.pc f.out.1.1 f.out.2.1 ht (by omega));refine i5.out.mono ?_;rintro e w6 ⟨j5,⟨E,C,F,D⟩,rfl,j1,k5,h4⟩;have I:=r.out.keep j5;obtain⟨m0,m,U,V,X,Y,b5,a4⟩:=sy_at I.sy;rw[HK.out] at U V X Y b5 a4;simp only at U V X Y;have q0:=cell_in (i:=k*4) m U;have q1:=cell_in (i:=k*4+1) m V;have q2:=cell_in (i:=k*4+2) m X;have q3:=cell_in (i:=k*4+3) m Y;have qf:=fun j=>frozen_in m j;have m7:w.heap.size+2≤g:=K.out g rfl;obtain⟨L,b4⟩:∃L,L=((((w6.setCell ⟨g,k*4,none⟩ (.int .i64 E)).setCell ⟨g,k*4+1,none⟩ (.int .u8 C)).setCell ⟨g,k*4+2,none⟩ (.int .i64 F)).setCell ⟨g,k*4+3,none⟩ (.int .i64 D)):=⟨_,rfl⟩;have c:Fr (fun j=>j=g) w6 L:=by
    rw[b4];exact(((Fr.one _ _ _ _).trans (Fr.one _ _ _ _)).trans (Fr.one _ _ _ _)).trans (Fr.one _ _ _ _)
   have N:=a4 ⟨E,C,F,D⟩;simp only at N;rw[←b4] at N;have a1:=I.fr.trans' c (fun j hj e=>by omega);have d:=c.keep I.st (by omega);have f2:=c.keep I.rs (by omega);have f0:=c.keep I.pc.box (fun e=>neOf I.pc.box m (by decide) e);have d9:PcAt L P tp dict (.slice pa data.length pc) (.pointer none) data:=⟨f0,HR.out.keep a1⟩;have c9:=Hd N;have c7:=Hd a1;have a0:=Hd d;have i0:=Hd f2;have h5:=Hd d9;have f5:=Hd j1;have l2:=Hd k5;have k9:=Hd b4;clear b4 c N a1 d f2 f0 d9 j1 k5 I m a4 U V X Y b5 d0 d1 d2 d3 c0 c1 c2 c3 c4 j5 i5;simp only[Sy.cells];go_wp2_with fail;rw[←k9.out];have d:=a0.out;simp only[S.cells] at d;obtain⟨m1,q,U,V,X,Y,d6,_⟩:=sy_at c9.out;rw[HK.out] at U V X Y d6;simp only at U V X Y;have hS:∀w':World,Fr (fun _=>False) L w'→(w'.cell? ⟨w.heap.size,0,none⟩=some (.int .i64 tn)∧w'.cell? ⟨w.heap.size,1,none⟩=some (.int .i64 t0)∧w'.cell? ⟨w.heap.size,2,none⟩=some (.int .i64 t1)∧w'.cell? ⟨w.heap.size,3,none⟩=some (.int .i64 t2)∧w'.cell? ⟨w.heap.size,4,none⟩=some (.int .i64 t3)∧w'.cell? ⟨g,k*4,none⟩=some (.int .i64 E)∧w'.cell? ⟨g,k*4+1,none⟩=some (.int .u8 C)∧w'.cell? ⟨g,k*4+2,none⟩=some (.int .i64 F)∧w'.cell? ⟨g,k*4+3,none⟩=some (.int .i64 D)):=fun w' hf=>
    ⟨cell_in (i:=0) (hf.keep d (fun h=>h)) rfl,cell_in (i:=1) (hf.keep d (fun h=>h)) rfl,cell_in (i:=2) (hf.keep d (fun h=>h)) rfl,cell_in (i:=3) (hf.keep d (fun h=>h)) rfl,cell_in (i:=4) (hf.keep d (fun h=>h)) rfl,
     cell_in (i:=k*4) (hf.keep q (fun h=>h)) U,cell_in (i:=k*4+1) (hf.keep q (fun h=>h)) V,cell_in (i:=k*4+2) (hf.keep q (fun h=>h)) X,cell_in (i:=k*4+3) (hf.keep q (fun h=>h)) Y⟩
   have i8:=Hd f.out.1.2;have d7:(S.next ⟨tn,t0,t1,t2,t3⟩ ⟨E,C,F,D⟩).1=0:=by
    obtain⟨z9,h8,h9⟩:=i8.out;rw[h4.out z9 h9];obtain⟨b9,l5⟩:=O.out.1.best h8 (by rw[O.out.2];omega);refine Px.named_next _ (b:=b9) ?_ j3;rw[show p=tp-ps.length+(p-H) by(have:=r.out.ge;rw[O.out.2];omega)];exact l5
   have HN:=fun W(h:Tabs W)=>Hd (next_calls ⟨tn,t0,t1,t2,t3⟩ r.out.ok ⟨E,C,F,D⟩ f5.out.ok W h);generalize k1:S.next ⟨tn,t0,t1,t2,t3⟩ ⟨E,C,F,D⟩=rr at*;obtain⟨er,rn,ra,rb,rc,rd⟩:=rr;have k8:=Hd k1;simp only[S.cells,Sy.cells] at HN ⊢;have h3:=Hd (show er=0 from d7);clear d7;have HS:=Hd hS;have G:=Hd (R0 L).drew;have f9:=Hd (hS L.drew G.out);have f8:=Hd (((R0 L).alloc (.cells #[.int .i64 0,.int .i64 0,.int .i64 0,.int .i64 0,.int .i64 0] 84)).drew);have k4:((L.alloc (.cells #[.int .i64 0,.int .i64 0,.int .i64 0,.int .i64 0,.int .i64 0] 84)).drew).heap[L.heap.size]? =some (.cells #[.int .i64 0,.int .i64 0,.int .i64 0,.int .i64 0,.int .i64 0] 84 (0,0)):=heap_alloc_new L _;have l1:=Hd k4;clear k4;obtain⟨e0,e1,e2,e3,e4,e5,e6,e7,e8⟩:=hS L (Fr.refl _ _);have i4:=Hd (HT.out.keep c7.out);clear hS d q U V X Y d6 k1;go_cut [21,22] (fun s21 s22 wx=>∃zs,s21=.pointer (some ⟨zs,0,none⟩)∧s22=.int .i64 er∧wx.heap[zs]? =some (.cells #[.int .i64 rn,.int .i64 ra,.int .i64 rb,.int .i64 rc,.int .i64 rd] 84 (0,0))∧Fr (fun _=>False) L wx∧L.heap.size≤zs);case first=>
    go_region_held3 (fun w'=>w'.cell? ⟨w.heap.size,0,none⟩=some (.int .i64 tn)∧w'.cell? ⟨w.heap.size,1,none⟩=some (.int .i64 t0)∧w'.cell? ⟨w.heap.size,2,none⟩=some (.int .i64 t1)∧w'.cell? ⟨w.heap.size,3,none⟩=some (.int .i64 t2)∧w'.cell? ⟨w.heap.size,4,none⟩=some (.int .i64 t3)∧w'.cell? ⟨g,k*4,none⟩=some (.int .i64 E)∧w'.cell? ⟨g,k*4+1,none⟩=some (.int .u8 C)∧w'.cell? ⟨g,k*4+2,none⟩=some (.int .i64 F)∧w'.cell? ⟨g,k*4+3,none⟩=some (.int .i64 D))
     (first|with_reducible exact f9.out|with_reducible exact HS.out _ G.out|with_reducible exact HS.out _ f8.out|with_reducible exact HS.out _ (G.out.alloc _)|(refine HS.out _ ?_;(repeat refine Fr.setCell ?_ (.inr (by first|exact Nat.le_refl _|exact G.out.size)) _);first|exact G.out|exact G.out.alloc _)) ((
     (go_at_call 126
      first
       | (with_reducible refine (HN _ (i4.out.keep G.out)).out.mono ?_
          rintro e wc ⟨rfl,z⟩;have G:=Hd (G.out.trans z);have f9:=Hd (HS.out _ G.out);clear z)
       | (with_reducible refine (HN _ (i4.out.keep f8.out)).out.mono ?_
          rintro e wc ⟨rfl,z⟩;have hz:=z.keep l1.out (fun h=>h);have G:=Hd (f8.out.trans z);have f9:=Hd (HS.out _ G.out);obtain⟨z0,z1,z2,z3,z4,zf⟩:=cf5 hz rfl rfl rfl rfl rfl;have HZ:=Hd hz;clear hz z))))
    all_goals go_wp2_with fail
    all_goals go_meet
    all_goals first
     |with_reducible exact⟨_,rfl,rfl,heap_alloc_new wc _,G.out.alloc _,G.out.size⟩
     |with_reducible exact⟨_,rfl,rfl,s5 HZ.out _ _ _ _ _,fr5z G.out (Nat.le_refl _) _ _ _ _ _,Nat.le_refl _⟩
   case rest=>
    obtain⟨zs,rfl,rfl,g9,b8,n5⟩:=hcut;have f7:=Hd b8;have m5:=Hd g9;have B:=b8.keep a0.out (fun h=>h);have a5:=b8.keep i0.out (fun h=>h);have m9:=lt_of_block a0.out;simp only[S.cells,S.zero] at B a5;clear e0 e1 e2 e3 e4 e5 e6 e7 e8;obtain rfl:er=0:=h3.out
    ·have sf:=fun i=>frozen_in B i
     obtain⟨x0,x1,x2,x3,x4⟩:=cs5 B rfl rfl rfl rfl rfl;obtain⟨n0,n1,n2,n3,n4⟩:=cs5 g9 rfl rfl rfl rfl rfl;have c8:=Hd B;have i2:=Hd a5;clear g9 B a5 b8;go_wp2_with fail;have c:∀W9,W9=(((((wc.setCell ⟨w.heap.size,0,none⟩ (.int .i64 rn)).setCell ⟨w.heap.size,1,none⟩ (.int .i64 ra)).setCell ⟨w.heap.size,2,none⟩ (.int .i64 rb)).setCell ⟨w.heap.size,3,none⟩ (.int .i64 rc)).setCell ⟨w.heap.size,4,none⟩ (.int .i64 rd))→Fr (fun k=>k=w.heap.size) wc W9:=fun W9 l4=>by
      rw[l4];exact((((Fr.one _ _ _ _).trans (Fr.one _ _ _ _)).trans (Fr.one _ _ _ _)).trans (Fr.one _ _ _ _)).trans (Fr.one _ _ _ _)
     have c:=c _ rfl;have f4:=set_in (set_in (set_in (set_in (set_in c8.out 0 (.int .i64 rn)) 1 (.int .i64 ra)) 2 (.int .i64 rb)) 3 (.int .i64 rc)) 4 (.int .i64 rd);have c5:S.next ⟨tn,t0,t1,t2,t3⟩ ⟨E,C,F,D⟩=(0,⟨rn,ra,rb,rc,rd⟩):=k8.out;have a9:(S.next ⟨tn,t0,t1,t2,t3⟩ ⟨E,C,F,D⟩).1=0:=by rw[c5]
     have M:=f5.out.right a9;have a7:=f5.out.size a9;have J:=S.next_ok r.out.ok a9;have o:=r.out.steps.snoc M;rw[c5] at J o;have k2:St.size ⟨E,C,F,D⟩=stepSize ⟨yk,yb,Z,yd⟩:=by
      have h1:stepSize ⟨E,C,F,D⟩=stepSize ⟨yk,yb,Z,yd⟩:=l2.out;rw[←h1];simp only at a7;unfold stepSize;simp only;split at a7<;>split<;>omega
     rw[k2] at o;have j2:Px.Cheap data tp dict H ps (a++[(⟨E,C,F,D⟩:Sy)]) H ⟨sn,s0,s1,s2,s3⟩ (p+stepSize ⟨yk,yb,Z,yd⟩) ⟨rn,ra,rb,rc,rd⟩:=by
      obtain⟨z9,h8,h9⟩:=i8.out;have i9:=r.out.ch.snoc f.out.2.1 h8;rw[←h4.out z9 h9,c5,←stepSize_sy h9 (O.out.1.pos h8)] at i9;exact i9
     have e9:=f.out.2.2;have a2:=(c7.out.trans f7.out).trans' c (fun j hj e=>by omega);have f3:=c.keep i2.out (by omega);have a3:=f7.out.keep h5.out.box (fun h=>h);have f1:=c.keep a3 (fun e=>neOf a3 c8.out (by decide) e);have a6:=(c9.out.step f7.out (fun _ _ h=>h)).step c (fun j hj e=>by
      have:=K.out j hj;omega)
     have d5:a++(⟨E,C,F,D⟩:Sy)::b=(a++[(⟨E,C,F,D⟩:Sy)])++b:=by simp
     rw[d5] at a6;have j0:((a++[(⟨E,C,F,D⟩:Sy)])++b).length=n:=by
      rw[←k6.out];simp
     have h2:=Hd (show CR ps w data tp H dict ⟨sn,s0,s1,s2,s3⟩ P (.slice pa data.length pc) (.pointer none) (.slice (some ⟨g,0,none⟩) n Q) (p+stepSize ⟨yk,yb,Z,yd⟩) ⟨rn,ra,rb,rc,rd⟩ (a++[⟨E,C,F,D⟩]) b _ from⟨a2,f4,f3,a6,o,J,e9,j2,Nat.le_trans r.out.ge (Nat.le_add_right _ _),f1,HR.out.keep a2⟩);clear j2 a2 f3 a3 f1 a6 d5 e9 o J k2 a7 M a9 c5 f4 c;go_roundw
     ·exact⟨p+stepSize ⟨yk,yb,Z,yd⟩,⟨rn,ra,rb,rc,rd⟩,a++[⟨E,C,F,D⟩],b,by simp[HK.out],by simp,j0,h2.out⟩
     ·simp[intOf];omega
end Ps
end Go.Proofs.YtffoddpjfgjelaaGreatDoor
