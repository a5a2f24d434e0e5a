/- Part 25 of 54: lemmas of the last part, each under the conditions that it names. -/
import Derived.Deep.OwnRows
import Derived.Test.YtffoddpjfgjelaaGreatDoorK24
set_option linter.unusedVariables false
set_option linter.unusedSimpArgs false
set_option maxRecDepth 1500
set_option maxHeartbeats 4000000
namespace Go.Proofs.YtffoddpjfgjelaaGreatDoor
open Go.RowKit
namespace Ps
open Mem Win St Fi Pk
structure ClAt(w:World)(Br Bf R fm N m:Nat)(pl:List Px.Stp):Prop where
 br:∃cap,w.heap[Br]? =some (.cells #[.slice (some ⟨R,0,none⟩) N cap] 94 (0,0))
 bf:w.heap[Bf]? =some (.cells #[.int .i64 fm] 3 (0,0))
 row:∃cs,w.heap[R]? =some (.cells cs 3 (0,0))∧cs.size=N∧(∀j,j<N→∃z:Int,cs[j]? =some (.int .i64 z))∧∀j,m≤j→j<N→cs[j]? =some (.int .i64 (Px.behind pl (j-m+1):Nat))
theorem price_le(n d:Nat):Px.price n d≤82:=by
 have:=bits_le d;have:=long_le n;unfold Px.price;omega
theorem ClAt.keep{w w':World}{d c R e N m:Nat}{f:List Px.Stp}(h:ClAt w d c R e N m f)(b:Fr (fun _=>False) w w'):ClAt w' d c R e N m f:=by
 obtain⟨⟨a,i⟩,j,g,k,l⟩:=h;exact⟨⟨a,b.keep i (fun h=>h)⟩,b.keep j (fun h=>h),g,b.keep k (fun h=>h),l⟩
theorem behind_calls(j g R a N m x:Nat)(f:List Px.Stp)(w:World)(h:ClAt w j g R a N m f)(A:a+m≤x)(B:x<a+N)(C:x≤1099511627776):
 Calls Tryz.prog 190 #[.int .i64 x,ptr j,ptr g] w fun e r=>e=.returned (.int .i64 (Px.behind f (x-a-m+1):Nat))∧w=r:=by
 obtain⟨⟨o,b⟩,c,u,l,p,_,d⟩:=h;have q:=d (x-a) (by omega) (by omega);generalize Px.behind f (x-a-m+1)=z at*;have s:=cell_in (i:=0) b rfl;have t:=cell_in (i:=0) c rfl;have n:=cell_in (i:=x-a) l q;obtain⟨k,rfl⟩:∃k,x=a+k:=⟨x-a,by omega⟩;rw[Nat.add_sub_cancel_left] at n;have D:IntKind.i64.wrap (((a+k:Nat):Int)-(a:Int))=(k:Int):=by
  rw[IntWalk.i64_in _ (by omega)];omega
 have v:(0:Int)≤(k:Int):=by omega
 have y:(k:Int)<(N:Int):=by omega
 clear b c l d;go_enter Tryz.func190,Tryz.ntmps190;go_wp2_with fail;go_ret;exact⟨rfl,rfl⟩
def StepOk(data:List UInt8)(tp p:Nat)(y:Sy):Prop:=
 (y.kind=1∧data[p]? =some (UInt8.ofNat y.byte)∧y.byte<256∧y.len=0∧y.dist=0)∨(y.kind=2∧y.byte=0∧3≤y.len∧y.len≤273∧Run data p y.len y.dist∧p+y.len≤tp)
theorem mt_cell{w0 w:World}{f:Option Addr}{b i:Nat}{l:List (Nat×Nat)}(h:Mts w0 w (.slice f l.length b) l)(a:i<l.length):
 ∃g,f=some ⟨g,0,none⟩∧w.cell? ⟨g,i*2,none⟩=some (.int .i64 (l[i].1:Nat))∧w.cell? ⟨g,i*2+1,none⟩=some (.int .i64 (l[i].2:Nat)):=by
 have d:∀(l:List (Nat×Nat))(i:Nat)(a:i<l.length),(mtCells l)[i*2]? =some (.int .i64 (l[i].1:Nat))∧(mtCells l)[i*2+1]? =some (.int .i64 (l[i].2:Nat)):=by
  intro l;induction l with
  |nil=>intro i a;simp at a
  |cons x l ih=>
    intro i a;cases i with
    |zero=>simp[mtCells]
    |succ i=>
      have:=ih i (by simpa using a);simp only[mtCells,List.flatMap_cons,List.getElem_cons_succ] at this ⊢;rw[show(i+1)*2=i*2+2 by omega,show i*2+2+1=i*2+1+2 by omega];simpa using this
 obtain⟨m,n⟩:=d l i a;obtain⟨g,e,j⟩:=h.cell m;obtain⟨o,c,k⟩:=h.cell n;rw[e] at c;simp only[Option.some.injEq,Addr.mk.injEq,and_true] at c;exact⟨g,e,j,by rw[c];exact k⟩
def BestS(data:List UInt8)(p:Nat)(l:List (Nat×Nat))(b:Nat→Nat)(k n c:Nat)(y:Sy):Prop:=∃z:Px.Stp,z.c=c∧z.sy data p=y∧c≤9+b 1∧Px.BestTo l b k n z
theorem BestS.more{data:List UInt8}{p k n c:Nat}{l:List (Nat×Nat)}{b:Nat→Nat}{y:Sy}{x:Nat×Nat}(h:BestS data p l b k n c y)(i:l[k]? =some x)(g:x.1<n):BestS data p l b (k+1) n c y:=by
 obtain⟨z,a,d,e,f⟩:=h;exact⟨z,a,d,e,f.more i g⟩
theorem BestS.take{data:List UInt8}{p k n c L d:Nat}{l:List (Nat×Nat)}{b:Nat→Nat}{y:Sy}(h:BestS data p l b k n c y)(g:3≤n)(q:l[k]? =some (L,d))(o:n≤L):
 (Px.price n d+b n≤c→BestS data p l b k (n+1) (Px.price n d+b n) ⟨2,0,n,d⟩)∧(¬Px.price n d+b n≤c→BestS data p l b k (n+1) c y):=by
 obtain⟨z,rfl,f,e,i⟩:=h;obtain⟨j,m⟩:=i.take g q o;refine⟨fun a=>⟨_,rfl,?_,Nat.le_trans a e,j a⟩,fun a=>⟨z,rfl,f,e,m a⟩⟩;show Px.Stp.sy data p ⟨n,d,_⟩=_;unfold Px.Stp.sy;rw[if_neg (by show¬n=1;omega)]
set_option maxRecDepth 100000 in
theorem cheapest_calls(I:List Px.Stp)(P tp dict p Br Bf R f:Nat)(pv fv lv:Value)(data:List UInt8)(l:List (Nat×Nat))(w0 w:World)(X:PcAt w P tp dict pv fv data)(hT:Tabs w)(hm:Mts w0 w lv l)(d1:∀x ∈ l,MOk data dict p (min 273 (tp-p)) x)(c3:ClAt w Br Bf R f (tp-f+1) (p-f+1) I)(d2:∀n,Px.behind I n≤9663676416)(d4:l=(Px.up (Px.mts data tp dict p)).1)(h0:f≤p)(hp:p<tp)(ht:tp≤data.length)(hb:data.length≤1073741824)(hd:dict≤4294967295)(h4:l.length≤1073741824):
 Calls Tryz.prog 189 #[ptr P,.int .i64 p,lv,.func (.func 190) #[] #[ptr Br,ptr Bf]] w fun e w'=>Fr (fun _=>False) w w'∧∃y:Px.Stp,e=.returned (.tuple #[.agg (y.sy data p).cells,.int .i64 (y.c:Nat)])∧StepOk data tp p (y.sy data p)∧Px.IsBest (Px.mts data tp dict p) (Px.behind I) y:=by
 obtain⟨pm,g8,rfl⟩:=hm.slice;have c4:=(R0 w).alloc (.cells #[.int .i64 0,.int .u8 0,.int .i64 0,.int .i64 0] 110);have Q:=heap_alloc_new w (.cells #[.int .i64 0,.int .u8 0,.int .i64 0,.int .i64 0] 110);have G:=X.keep c4;have g1:=G.rd;have c0:=cell_in (i:=0) G.box rfl;obtain⟨pa,g6,rfl,_,_,r⟩:=g1;obtain⟨g,o,rfl,c⟩:=r (by omega);obtain⟨x,hx⟩:∃x,data[p]? =some x:=⟨data[p],List.getElem?_eq_getElem (by omega)⟩;have q1:(w.alloc (.cells #[.int .i64 0,.int .u8 0,.int .i64 0,.int .i64 0] 110)).cell? ⟨g,o+p,none⟩=some (.int .u8 x.toNat):=c p x hx;obtain⟨b0,b1,b2,b3,bf⟩:=cf4 Q rfl rfl rfl rfl;have i1:(0:Int)≤(p:Int):=by omega
 have i2:(p:Int)<(data.length:Int):=by omega
 have g7:=Hd X;have HT:=Hd hT;have HM:=Hd hm;have e6:=Hd d1;have a6:=Hd c3;have HX:=Hd hx;have Z:=Hd Q;have f1:=Hd d4;have b4:=Hd d2;clear X G hT hm d1 c3 c r hx c4 Q d4 d2;go_enter Tryz.func189,Tryz.ntmps189;go_wp2_with fail;have V:=((R0 w).alloc (.cells #[.int .i64 0,.int .u8 0,.int .i64 0,.int .i64 0] 110)).alloc (.cells #[.int .i64 1,.int .u8 x.toNat,.int .i64 0,.int .i64 0] 110);refine(behind_calls Br Bf R f (tp-f+1) (p-f+1) (p+1) I _ (a6.out.keep V) (by omega) (by omega) (by omega)).mono ?_;rintro e w2 ⟨rfl,rfl⟩;rw[show p+1-f-(p-f+1)+1=1 by omega];have g9:=b4.out 1;have b9:BestS data p l (Px.behind I) 0 3 (9+Px.behind I 1) ⟨1,x.toNat,0,0⟩:=⟨⟨1,0,_⟩,rfl,by
  show(⟨1,(data.getD p 0).toNat,0,0⟩:Sy)=_;rw[List.getD_eq_getElem?_getD,HX.out];rfl,Nat.le_refl _,Px.BestTo.start _ _⟩
 generalize Px.behind I 1=v1 at*;have e7:=Hd b9;clear b9;have b8:=((R0 _).alloc (.cells #[.int .i64 1,.int .u8 x.toNat,.int .i64 0,.int .i64 0] 110)).keep Z.out (fun h=>h);have S:=heap_alloc_new (w.alloc (.cells #[.int .i64 0,.int .u8 0,.int .i64 0,.int .i64 0] 110)) (.cells #[.int .i64 1,.int .u8 x.toNat,.int .i64 0,.int .i64 0] 110);rw[World.size_alloc] at S;generalize(w.alloc (.cells #[.int .i64 0,.int .u8 0,.int .i64 0,.int .i64 0] 110)).alloc (.cells #[.int .i64 1,.int .u8 x.toNat,.int .i64 0,.int .i64 0] 110)=W2 at*;have K:=Hd V;have d8:=Hd b8;have a3:=Hd S;clear V b8 S c0 q1 b0 b1 b2 b3 bf Z;go_wp2_with fail;have H0:=Hd (show StepOk data tp p ⟨1,x.toNat,0,0⟩ from .inl ⟨rfl,by simpa using HX.out,x.toNat_lt,rfl,rfl⟩);go_loopw [34,11,12] (fun s34 s11 s12 wr=>∃(k n z:Nat)(y:Sy),s34=.int .i64 k∧s11=.int .i64 z∧s12=.int .i64 n∧k≤l.length∧3≤n∧n≤274∧z≤9+v1∧BestS data p l (Px.behind I) k n z y∧StepOk data tp p y∧Fr (fun j=>j=w.heap.size+1) W2 wr∧wr.heap[w.heap.size+1]? =some (.cells y.cells 110 (0,0))) (fun s34 _ _ _=>l.length-(intOf s34).toNat);case atStart=>exact⟨0,3,9+v1,⟨1,x.toNat,0,0⟩,rfl,by simp,rfl,by omega,by omega,by omega,by omega,e7.out,H0.out,Fr.refl _ _,a3.out⟩
 case round=>
  obtain⟨k,n,z1,y,rfl,rfl,rfl,hk,f8,f9,g3,U,Y,E,c⟩:=hrel;by_cases W:k<l.length
  ·have c5:=K.out.trans' E (fun j hj e=>by omega)
   obtain⟨g2,rfl,m0,m1⟩:=mt_cell (HM.out.keep c5) W;have c9:=e6.out l[k] (List.getElem_mem W);have c8:l[k]? =some l[k]:=List.getElem?_eq_getElem W;generalize l[k]=m at*;obtain⟨J,s⟩:=m;have u:=Hd c9;have a8:=Hd E;have d9:=Hd c
   have e9:=Hd Y;have e1:=Hd U;have a9:=Hd c8;clear c9 E c Y c5 U c8;go_wp2_with fail;have d:=(R0 wr).alloc (.cells #[.int .i64 J,.int .i64 s] 310);have T:=heap_alloc_new wr (.cells #[.int .i64 J,.int .i64 s] 310);have e3:=Hd (a8.out.alloc (.cells #[.int .i64 J,.int .i64 s] 310));have a0:=Hd (d.keep d9.out (fun h=>h));have h6:=a8.out.size;have h5:=lt_of_block a3.out;generalize wr.alloc (.cells #[.int .i64 J,.int .i64 s] 310)=W3 at*;obtain⟨bm,c1⟩:∃bm,wr.heap.size=bm:=⟨_,rfl⟩;rw[c1] at T ⊢;have e0:=Hd T;clear d T m0 m1;go_loopw [11,12] (fun s11 s12 wy=>∃(n z:Nat)(y:Sy),s11=.int .i64 z∧s12=.int .i64 n∧3≤n∧n≤274∧z≤9+v1∧BestS data p l (Px.behind I) k n z y∧StepOk data tp p y∧Fr (fun j=>j=w.heap.size+1) W2 wy∧wy.heap[w.heap.size+1]? =some (.cells y.cells 110 (0,0))∧wy.heap[bm]? =some (.cells #[.int .i64 J,.int .i64 s] 310 (0,0))) (fun _ s12 _=>J+1-(intOf s12).toNat);case atStart=>exact⟨n,z1,y,rfl,rfl,f8,f9,g3,e1.out,e9.out,e3.out,a0.out,e0.out⟩
   case round=>
    obtain⟨b,z5,y5,rfl,rfl,O,f4,d5,B,H,F,C,A⟩:=hrel;obtain⟨m0,m1⟩:=cs2 A rfl rfl;by_cases c6:b≤J
    ·have c7:(b:Int)≤(J:Int):=by omega
     have h1:=u.out.le;have h2:=u.out.d1;have h3:=u.out.dd;simp only at h1 h2 h3;obtain⟨d3,d0⟩:=B.take O a9.out c6;have f0:=Hd d3;have e5:=Hd d0;clear d3 d0 B;have e4:=Hd F;have b5:=Hd H;have a4:=Hd C;have a1:=Hd A;clear F H C A;go_wp2_with fail;refine(match_calls b s _).mono ?_;rintro e w6 ⟨rfl,L⟩;simp only[Sy.cells];have d:=(R0 w6).alloc (.cells (Sy.cells ⟨2,0,b,s⟩) 110);have M:=heap_alloc_new w6 (.cells (Sy.cells ⟨2,0,b,s⟩) 110);simp only[Sy.cells] at d M;obtain⟨y0,y1,y2,y3⟩:=cs4 M rfl rfl rfl rfl;have a7:=Hd (e4.out.trans ((L.trans d).mono (fun _ _ h=>h.elim)));have f2:=Hd M;have a5:=Hd ((L.trans d).keep a4.out (fun h=>h));have a2:=Hd ((L.trans d).keep a1.out (fun h=>h));clear d M L m0 m1;go_wp2_with fail;refine(price_calls b s _ (HT.out.keep (K.out.trans' a7.out (fun j hj e=>by omega))) (by omega) (by omega) h2 (by omega)).mono ?_;rintro e w8 ⟨rfl,D⟩;have hq:=price_le b s;generalize Px.price b s=q at*;have N:=Hd (a7.out.trans (D.mono (fun _ _ h=>h.elim)));have b6:=Hd (D.keep f2.out (fun h=>h));have a:=Hd (D.keep a5.out (fun h=>h));have t:=Hd (D.keep a2.out (fun h=>h));clear D y0 y1 y2 y3;obtain⟨y0,y1,y2,y3⟩:=cs4 b6.out rfl rfl rfl rfl;have m0:=cell_in (i:=0) t.out rfl;have z0:=cell_in (i:=0) a.out rfl;have g4:=cell_in (i:=1) a.out rfl;have z2:=cell_in (i:=2) a.out rfl;have z3:=cell_in (i:=3) a.out rfl;have zf:=fun i=>frozen_in a.out i;go_wp2_with fail;refine(behind_calls Br Bf R f (tp-f+1) (p-f+1) (p+b) I _ (a6.out.keep (K.out.trans' N.out (fun j hj e=>by omega))) (by omega) (by omega) (by omega)).mono ?_;rintro e w9 ⟨rfl,rfl⟩;rw[show p+b-f-(p-f+1)+1=b by omega];have h8:=b4.out b;generalize Px.behind I b=zb at*;have h7:IntKind.i64.wrap ((q:Int)+(zb:Int))=(q:Int)+zb:=IntWalk.i64_in _ (by omega);have e8:=Hd (show StepOk data tp p ⟨2,0,b,s⟩ from .inr ⟨rfl,rfl,O,(by show b≤273;omega),⟨h2,u.out.dp,fun j hj=>u.out.run j (Nat.lt_of_lt_of_le hj c6)⟩,(by show p+b≤tp;omega)⟩);have g0:¬bm=w.heap.size+1:=by omega
     by_cases hc:q+zb≤z5
     ·have f6:(q:Int)+zb≤z5:=by omega
      go_wp2_with fail;go_roundw
      ·refine⟨b+1,q+zb,⟨2,0,b,s⟩,by simp,by simp,by omega,by omega,by omega,f0.out hc,e8.out,?_,?_,?_⟩
       ·exact(((N.out.setCell (p:=⟨w.heap.size+1,0,none⟩) (.inl rfl) _).setCell (p:=⟨w.heap.size+1,1,none⟩) (.inl rfl) _).setCell (p:=⟨w.heap.size+1,2,none⟩) (.inl rfl) _).setCell (p:=⟨w.heap.size+1,3,none⟩) (.inl rfl) _
       ·exact set_in (set_in (set_in (set_in a.out 0 (.int .i64 2)) 1 (.int .u8 0)) 2 (.int .i64 b)) 3 (.int .i64 s)
       ·exact((((Fr.one _ (w.heap.size+1) 0 _).trans (Fr.one _ (w.heap.size+1) 1 _)).trans (Fr.one _ (w.heap.size+1) 2 _)).trans (Fr.one _ (w.heap.size+1) 3 _)).keep t.out g0
      ·simp[intOf];omega
     ·have f6:¬(q:Int)+zb≤z5:=by omega
      go_wp2_with fail;go_roundw
      ·exact⟨b+1,z5,y5,rfl,by simp,by omega,by omega,d5,e5.out hc,b5.out,N.out,a.out,t.out⟩
      ·simp[intOf];omega
    ·have c7:¬(b:Int)≤(J:Int):=by omega
     go_wp2_with fail;go_roundw
     ·exact⟨k+1,b,z5,y5,by simp,rfl,rfl,by omega,O,f4,d5,B.more a9.out (by show J<b;omega),H,F,C⟩
     ·simp[intOf];omega
  ·have f7:k=l.length:=by omega
   subst f7;have g5:¬((l.length:Int)<(l.length:Int)):=by omega
   obtain⟨zz,d7,d6,_,c2⟩:=U;have e2:=Hd (c2.fin (Px.mts_rise data tp dict p) f1.out);have f3:=Hd d7;have b7:=Hd d6;clear d7 d6 c2;obtain⟨yk,yb,yl,yd⟩:=y;simp only[Sy.cells] at c
   have z0:=cell_in (i:=0) c rfl;have g4:=cell_in (i:=1) c rfl;have z2:=cell_in (i:=2) c rfl;have z3:=cell_in (i:=3) c rfl;have f5:=E.keep d8.out (by omega);obtain⟨b0,b1,b2,b3,bf⟩:=cf4 f5 rfl rfl rfl rfl;go_wp2_with fail;refine bodyPost_ret (v:=.tuple #[.agg #[.int .i64 yk,.int .u8 yb,.int .i64 yl,.int .i64 yd],.int .i64 z1]) (by simp[results,Tryz.results189,go_sem,b0,b1,b2,b3]) rfl ?_;refine⟨?_,zz,by rw[b7.out,f3.out];rfl,by rw[b7.out];exact Y,e2.out⟩;repeat refine Fr.setCell ?_ (.inr (Nat.le_refl _)) _
   exact K.out.trans' E (fun j hj e=>by omega)
end Ps
namespace Ps
open Mem Win St Fi Pk
def stepSize(y:Sy):Nat:=if y.len≤1 then 1 else y.len
theorem StepOk.fits{data:List UInt8}{tp p:Nat}{y:Sy}(h:StepOk data tp p y)(b:p<tp):p+stepSize y≤tp∧1≤stepSize y:=by
 unfold stepSize;rcases h with⟨_,_,_,h,_⟩|⟨_,_,a,_,_,h⟩
 ·rw[if_pos (by omega)]
  omega
 ·rw[if_neg (by omega)]
  omega
def PlanOk(data:List UInt8)(tp fm:Nat)(pl:List Px.Stp):List Sy→Nat→Nat→Prop
 |[],p,q=>q=p
 |y::l,p,q=>(StepOk data tp p y∧∃z,pl[p-fm]? =some z∧z.sy data p=y)∧p<tp∧PlanOk data tp fm pl l (p+stepSize y) q
theorem PlanOk.snoc{data:List UInt8}{tp a:Nat}{b:List Px.Stp}{y:Sy}:∀{l:List Sy}{p q:Nat},PlanOk data tp a b l p q→(StepOk data tp q y∧∃z,b[q-a]? =some z∧z.sy data q=y)→q<tp→PlanOk data tp a b (l++[y]) p (q+stepSize y)
 |[],p,q,h,hy,hq=>by subst h;exact⟨hy,hq,rfl⟩
 |z::l,p,q,⟨h1,h2,h3⟩,hy,hq=>⟨h1,h2,h3.snoc hy hq⟩
theorem make_rows(n:Nat)(h:n≤1073741824)(W:World):
 (Instr.makeSlice 316 (.int .i64 n) (.int .i64 n)).run Tryz.prog W=.ok (.slice (some ⟨W.heap.size,0,none⟩) n n) (W.alloc (.cells (madeCells #[.slice none 0 0] n) 317)):=
 run_make_row' 316 317 (.slice none 0 0) 24 Tryz.underlying316 (by kernel_rfl) rfl .i64 .i64 n (by omega) (by omega) W
theorem make_nums(n:Nat)(h:n≤1073741825)(W:World):
 (Instr.makeSlice 94 (.int .i64 n) (.int .i64 n)).run Tryz.prog W=.ok (.slice (some ⟨W.heap.size,0,none⟩) n n) (W.alloc (.cells (madeCells #[.int .i64 0] n) 3)):=
 run_make_row' 94 3 (.int .i64 0) 8 Tryz.underlying94 (by kernel_rfl) rfl .i64 .i64 n (by omega) (by omega) W
theorem make_syms(n:Nat)(h:n≤1073741824)(W:World):
 (Instr.makeSlice 98 (.int .i64 n) (.int .i64 n)).run Tryz.prog W=.ok (.slice (some ⟨W.heap.size,0,none⟩) n n) (W.alloc (.cells (madeCells #[.int .i64 0,.int .u8 0,.int .i64 0,.int .i64 0] (n*4)) 110)):=by
 obtain⟨i,b,d,c,a⟩:=info_parts Lz.infoSym;have:=run_make (P:=Tryz.prog) W 98 110 i _ Tryz.underlying98 b d .i64 .i64 n n (by omega) (by omega) (by rw[a];omega) (by omega);rw[this,c,Int.toNat_natCast];rfl
structure RowsAt(w wr:World)(A n k fm dict tp:Nat)(data:List UInt8):Prop where
 ex:∃cs,wr.heap[A]? =some (.cells cs 317 (0,0))∧cs.size=n∧∀j,j<k→∃(v:Value)(l:List (Nat×Nat)),cs[j]? =some v∧Mts w wr v l∧(∀x ∈ l,MOk data dict (fm+j) (min 273 (tp-(fm+j))) x)∧l.length≤273∧l=(Px.up (Px.mts data tp dict (fm+j))).1
theorem RowsAt.step{S:Nat→Prop}{w wr a:World}{A n k e dict tp:Nat}{data:List UInt8}(h:RowsAt w wr A n k e dict tp data)(f:Fr S wr a)(s:¬S A)(t:∀j c fr,wr.heap[j]? =some (.cells c 310 fr)→¬S j):RowsAt w a A n k e dict tp data:=by
 obtain⟨c,p,q,r⟩:=h.ex;refine⟨c,f.keep p s,q,fun j y=> ?_⟩;obtain⟨v,l,i,d,m,o⟩:=r j y;refine⟨v,l,i,d.step f (fun b u=> ?_),m,o⟩;obtain⟨g,x⟩:=d.block u;exact t b _ _ x
theorem RowsAt.keep{w wr a:World}{A n k b dict tp:Nat}{data:List UInt8}(h:RowsAt w wr A n k b dict tp data)(c:Fr (fun _=>False) wr a):RowsAt w a A n k b dict tp data:=h.step c (fun h=>h) (fun _ _ _ _ h=>h)
theorem RowsAt.put{w wr:World}{A n k c dict tp:Nat}{data:List UInt8}(h:RowsAt w wr A n k c dict tp data)(B:k<n){v:Value}{l:List (Nat×Nat)}(D:Mts w wr v l)(C:∀x ∈ l,MOk data dict (c+k) (min 273 (tp-(c+k))) x)(d:l.length≤273)(f:l=(Px.up (Px.mts data tp dict (c+k))).1):
 RowsAt w (wr.setCell ⟨A,k,none⟩ v) A n (k+1) c dict tp data:=by
 obtain⟨o,g,i,t⟩:=h.ex;have z:=Fr.one wr A k v;have a:∀{u:Value}{l:List (Nat×Nat)},Mts w wr u l→Mts w (wr.setCell ⟨A,k,none⟩ v) u l:=fun m=>m.step z (fun b y e=>by
  subst e;exact m.off g (by decide) y)
 refine⟨o.set! k v,set_in g k v,by simp[i],fun j F=> ?_⟩;by_cases e:j=k
 ·subst e
  exact⟨v,l,by simp[i,B],a D,C,d,f⟩
 ·obtain⟨u,E,p,q,r,s⟩:=t j (by omega)
  exact⟨u,E,by simpa [Array.set!,Array.getElem?_setIfInBounds,Ne.symm e] using p,a q,r,s⟩
structure PB(w wr:World)(P tp dict fm:Nat)(pv fv:Value)(data:List UInt8):Prop where
 fr:Fr (fun _=>False) w wr
 bf:wr.heap[w.heap.size]? =some (.cells #[.int .i64 fm] 3 (0,0))
 pc:PcAt wr P tp dict pv fv data
theorem PB.step{S:Nat→Prop}{w wr b:World}{P tp dict d:Nat}{pv e:Value}{data:List UInt8}(h:PB w wr P tp dict d pv e data)(c:Fr S wr b)(f:¬S w.heap.size)(g:¬S P)(i:∀k,S k→w.heap.size≤k)(j:Rd w pv data):PB w b P tp dict d pv e data:=by
 have a:=h.fr.trans' c (fun k m l=>by have:=i k l;omega);exact⟨a,c.keep h.bf f,c.keep h.pc.box g,j.keep a⟩
theorem PB.keep{w wr a:World}{P tp dict c:Nat}{pv d:Value}{data:List UInt8}(h:PB w wr P tp dict c pv d data)(b:Fr (fun _=>False) wr a):PB w a P tp dict c pv d data:=⟨h.fr.trans b,b.keep h.bf (fun h=>h),h.pc.keep b⟩
structure BestAt(wr:World)(Q n m fm tp:Nat)(data:List UInt8)(pl:List Px.Stp):Prop where
 ex:∃cs,wr.heap[Q]? =some (.cells cs 110 (0,0))∧cs.size=n*4∧∀j,m≤j→j<n→∃y:Sy,cs[j*4]? =some (.int .i64 y.kind)∧cs[j*4+1]? =some (.int .u8 y.byte)∧cs[j*4+2]? =some (.int .i64 y.len)∧cs[j*4+3]? =some (.int .i64 y.dist)∧StepOk data tp (fm+j) y∧∃z,pl[j-m]? =some z∧z.sy data (fm+j)=y
theorem BestAt.step{S:Nat→Prop}{wr a:World}{Q n m b tp:Nat}{data:List UInt8}{c:List Px.Stp}(h:BestAt wr Q n m b tp data c)(i:Fr S wr a)(g:¬S Q):BestAt a Q n m b tp data c:=by
 obtain⟨d,e,f⟩:=h.ex;exact⟨d,i.keep e g,f⟩
theorem BestAt.put{wr:World}{Q n i a tp:Nat}{data:List UInt8}{c:List Px.Stp}(h:BestAt wr Q n (i+1) a tp data c)(x:i<n)(y:Sy)(o:StepOk data tp (a+i) y)(z:Px.Stp)(p:z.sy data (a+i)=y):
 BestAt ((((wr.setCell ⟨Q,i*4,none⟩ (.int .i64 y.kind)).setCell ⟨Q,i*4+1,none⟩ (.int .u8 y.byte)).setCell ⟨Q,i*4+2,none⟩ (.int .i64 y.len)).setCell ⟨Q,i*4+3,none⟩ (.int .i64 y.dist)) Q n i a tp data (z::c):=by
 obtain⟨s,g,k,l⟩:=h.ex;refine⟨_,set_in (set_in (set_in (set_in g (i*4) (.int .i64 y.kind)) (i*4+1) (.int .u8 y.byte)) (i*4+2) (.int .i64 y.len)) (i*4+3) (.int .i64 y.dist),by simp[k],fun j A m=> ?_⟩;by_cases e:j=i
 ·subst e
  refine⟨y,?_,?_,?_,?_,o,z,by simp,p⟩;all_goals
   simp only[Array.set!,Array.getElem?_setIfInBounds,Array.size_setIfInBounds];repeat' split
   all_goals first|rfl|omega|exact absurd trivial (by assumption)
 ·obtain⟨q,t,u,v,w,b⟩:=l j (by omega) m
  obtain⟨b,r,d,f⟩:=b;refine⟨q,?_,?_,?_,?_,b,r,by rw[show j-i=j-(i+1)+1 by omega];exact d,f⟩;all_goals
   simp only[Array.set!,Array.getElem?_setIfInBounds,Array.size_setIfInBounds];repeat' split
   all_goals first|assumption|omega
theorem ClAt.step{S:Nat→Prop}{w w':World}{b a R e N m:Nat}{f:List Px.Stp}(h:ClAt w b a R e N m f)(d:Fr S w w')(i:¬S b)(j:¬S a)(k:¬S R):ClAt w' b a R e N m f:=by
 obtain⟨⟨c,l⟩,n,g,o,p⟩:=h;exact⟨⟨c,d.keep l i⟩,d.keep n j,g,d.keep o k,p⟩
theorem ClAt.put{w:World}{b a R k N i:Nat}{n:List Px.Stp}(h:ClAt w b a R k N (i+1) n)(p:¬b=R)(q:¬a=R)(m:i<N)(z:Px.Stp):ClAt (w.setCell ⟨R,i,none⟩ (.int .i64 (z.c:Nat))) b a R k N i (z::n):=by
 obtain⟨⟨c,r⟩,s,o,t,g,v,x⟩:=h;have l:=Fr.one w R i (.int .i64 (z.c:Nat));refine⟨⟨c,l.keep r p⟩,l.keep s q,o.set! i (.int .i64 (z.c:Nat)),set_in t i _,by simp[g],fun j d=> ?_,fun j y d=> ?_⟩
 ·by_cases e:j=i
  ·subst e
   exact⟨(z.c:Nat),by simp[g,m]⟩
  ·obtain⟨u,f⟩:=v j d
   exact⟨u,by simpa [Array.set!,Array.getElem?_setIfInBounds,Ne.symm e] using f⟩
 ·rw[Px.behind_cons]
  by_cases e:j=i
  ·subst e
   rw[if_pos (by omega)];simp[g,m]
  ·have f:=x j (by omega) d
   rw[if_neg (by omega),show j-i=j-(i+1)+1 by omega];simpa [Array.set!,Array.getElem?_setIfInBounds,Ne.symm e] using f
set_option maxRecDepth 100000 in
theorem plan_calls(pv:Value)(data:List UInt8)(a tp dict:Nat)(w:World)(h:Rd w pv data)(hT:Tabs w)(l5:a<tp)(ht:tp≤data.length)(hb:data.length≤1073741824)(j5:1≤dict)(d6:dict≤4294967295):
    Calls Tryz.prog 129 #[pv,.int .i64 a,.int .i64 tp,.int .i64 dict] w fun e w'=>Fr (fun _=>False) w w'∧∃v l z,e=.returned (.tuple #[v,.int .i64 0])∧Lz.Syms w w' v l∧PlanOk data tp a z l a tp∧Hid (Px.Plan data tp dict z∧z.length=tp-a):=by
  have e3:=(R0 w).alloc (.cells #[.int .i64 a] 3);have s:=heap_alloc_new w (.cells #[.int .i64 a] 3);have HN:=Hd (newPiece_calls pv data a tp dict _ (h.keep e3) (by omega) ht (by omega) j5 d6);have f4:=Hd e3;have f2:=Hd s;have r:=Hd h;have i7:=Hd h;have HT:=Hd hT;obtain⟨pa,pc,rfl,_⟩:=h;have c0:=cell_in (i:=0) s rfl;clear e3 s hT;go_enter Tryz.func129,Tryz.ntmps129;go_wp2_with fail;refine HN.out.mono ?_;rintro e w2 ⟨d7,P,F,dv,M,B,rfl,h3,D,j2,j3⟩;have c6:=Hd (f4.out.trans d7);have c3:=Hd (d7.keep f2.out (fun h=>h));have f7:=Hd h3;have a0:=Hd D;have c0:=cell_in (i:=0) c3.out rfl;clear d7 h3 D f2 f4 HN;obtain⟨n,rfl⟩:∃n,tp=a+n:=⟨tp-a,by omega⟩;have j9:=make_rows n (by omega);have m2:(a:Int)+(n:Int)-(a:Int)=(n:Int):=by omega
  go_wp2_with fail;have o:=(R0 w2).alloc (.cells (madeCells #[.slice none 0 0] n) 317);have hA:=heap_alloc_new w2 (.cells (madeCells #[.slice none 0 0] n) 317);rw[World.size_alloc] at j2 j3;have H0:=Hd (show PB w (w2.alloc (.cells (madeCells #[.slice none 0 0] n) 317)) P (a+n) dict a (.slice pa data.length pc) (ptr F) data from⟨c6.out.trans o,o.keep c3.out (fun h=>h),f7.out.keep o⟩);have H1:=Hd (a0.out.still o);have H2:=Hd (show RowsAt w (w2.alloc (.cells (madeCells #[.slice none 0 0] n) 317)) w2.heap.size n 0 a dict (a+n) data from⟨_,hA,by simp[madeCells],fun j hj=>by omega⟩);have j0:=c6.out.size;clear o hA c6 c3 f7 a0 c0 j9;obtain⟨A,j1⟩:∃A,w2.heap.size=A:=⟨_,rfl⟩;rw[j1] at H2 j0 ⊢;generalize w2.alloc (.cells (madeCells #[.slice none 0 0] n) 317)=W2 at*;go_loopw [38](fun s38 wr=>∃k:Nat,s38=.int .i64 k∧k≤n∧PB w wr P (a+n) dict a (.slice pa data.length pc) (ptr F) data∧FiAt wr F data dict (a+k) dv M B∧RowsAt w wr A n k a dict (a+n) data) (fun s38 _=>n-(intOf s38).toNat);case atStart=>exact⟨0,rfl,by omega,H0.out,H1.out,H2.out⟩
  case round=>
    obtain⟨k,rfl,hk,d,D,q⟩:=hrel;by_cases e5:k<n
    · have a1:=Hd (steps_calls P F (a+n) dict (a+k) M B (.slice pa data.length pc) dv data wr d.pc D (by omega) ht hb d6)
      have c0:=cell_in (i:=0) d.bf rfl;have f:=Hd d;have a0:=Hd D;have J:=Hd q;clear d D q;go_wp2_with fail;refine a1.out.mono ?_;rintro e w5 ⟨a7,v,l,rfl,hm,h0,Q,c2⟩;have k7:=f.out.fr.size;have g8:Mts w w5 v l:=⟨hm.own,fun j hj=>Nat.le_trans k7 (hm.new j hj)⟩;obtain⟨pm,L,rfl⟩:=hm.slice;have X:=J.out.keep a7;have H:=f.out.keep a7;have b3:=a0.out.still a7;obtain⟨cs,c,g5,_⟩:=X.ex;have q0:=cell_in (i:=k) c (Array.getElem?_eq_getElem (by omega));have qf:=fun i=>frozen_in c i;have p:=Fr.one w5 A k (.slice pm l.length L);have k2:¬w.heap.size=A:=neOf H.bf c (by decide);have k3:¬P=A:=neOf H.pc.box c (by decide);have U:=H.step p (fun e=>k2 e) (fun e=>k3 e) (fun j hj=>by omega) r.out;have b9:=X.put e5 g8 h0 Q c2.out;have b4:=b3.keep p (fun j hj _=>by
        subst hj;exact⟨_,_,(0,0),c,by decide,by decide,by decide⟩)
      have p3:=cell_in (i:=3) U.pc.box rfl;have b0:=Hd U;have b1:=Hd b9;have E:=Hd b4;have i1:(0:Int)≤(k:Int):=by omega
      have i2:(k:Int)<(n:Int):=by omega
      clear hm g8 h0 Q c2 X H b3 c p U b9 b4 a7;go_wp2_with fail;refine(skip_calls F dict (a+k) 1 M B data dv _ E.out (by omega) (by omega)).mono ?_;rintro e w7 ⟨rfl,d9,b5⟩;have b8:=b0.out.step d9 (fun e=>by omega) (fun e=>neOf b0.out.pc.box E.out.box (by decide) e) (fun j hj=>by omega) r.out;have c1:=b1.out.step d9 (fun e=>by
        obtain⟨cs',g6,_⟩:=b1.out.ex;exact neOf g6 E.out.box (by decide) e) (fun j cs' fr hj e=>by
        have hx:=E.out.box;subst e;rw[hj] at hx;cases hx)
      have f6:=Hd b8;have f9:=Hd c1;have f5:=Hd b5;clear b8 c1 b5 d9;go_wp2_with fail;go_roundw
      · exact⟨k+1,by simp,by omega,f6.out,f5.out,f9.out⟩
      · simp[intOf];omega
    · have j7:k=n:=by omega
      subst j7;have f:=Hd d;have J:=Hd q;clear d D q H0 H1 H2;have k0:∀W:World,(Instr.makeSlice 94 (.int .i64 ((k:Int)+1)) (.int .i64 ((k:Int)+1))).run Tryz.prog W=.ok (.slice (some ⟨W.heap.size,0,none⟩) (k+1) (k+1)) (W.alloc (.cells (madeCells #[.int .i64 0] (k+1)) 3)):=fun W=>make_nums (k+1) (by omega) W;have k1:=make_syms k (by omega);have l1:¬((k:Int)<(k:Int)):=by omega
      go_wp2_with fail;have d8:=((((R0 wr).alloc (.cells (madeCells #[.int .i64 0] (k+1)) 3)).alloc (.cells #[.slice (some ⟨wr.heap.size,0,none⟩) (k+1) (k+1)] 94)).alloc (.cells (madeCells #[.int .i64 0,.int .u8 0,.int .i64 0,.int .i64 0] (k*4)) 110));have d4:=(((R0 _).alloc (.cells #[.slice (some ⟨wr.heap.size,0,none⟩) (k+1) (k+1)] 94)).alloc (.cells (madeCells #[.int .i64 0,.int .u8 0,.int .i64 0,.int .i64 0] (k*4)) 110)).keep (heap_alloc_new wr (.cells (madeCells #[.int .i64 0] (k+1)) 3)) (fun h=>h);have a4:=((R0 _).alloc (.cells (madeCells #[.int .i64 0,.int .u8 0,.int .i64 0,.int .i64 0] (k*4)) 110)).keep (heap_alloc_new (wr.alloc (.cells (madeCells #[.int .i64 0] (k+1)) 3)) (.cells #[.slice (some ⟨wr.heap.size,0,none⟩) (k+1) (k+1)] 94)) (fun h=>h);have a5:=heap_alloc_new ((wr.alloc (.cells (madeCells #[.int .i64 0] (k+1)) 3)).alloc (.cells #[.slice (some ⟨wr.heap.size,0,none⟩) (k+1) (k+1)] 94)) (.cells (madeCells #[.int .i64 0,.int .u8 0,.int .i64 0,.int .i64 0] (k*4)) 110);simp only[World.size_alloc] at a4 a5;have H0:=Hd (f.out.keep d8);have H1:=Hd (J.out.keep d8);have k6:=lt_of_block f.out.bf;obtain⟨R,j4⟩:∃R,wr.heap.size=R:=⟨_,rfl⟩;rw[j4] at H0 H1 d4 a4 a5 k6 ⊢;generalize((wr.alloc (.cells (madeCells #[.int .i64 0] (k+1)) 3)).alloc (.cells #[.slice (some ⟨R,0,none⟩) (k+1) (k+1)] 94)).alloc (.cells (madeCells #[.int .i64 0,.int .u8 0,.int .i64 0,.int .i64 0] (k*4)) 110)=W3 at*;have H2:=Hd (show ClAt W3 (R+1) w.heap.size R a (k+1) k [] from⟨⟨_,a4⟩,H0.out.bf,_,d4,by simp[madeCells],fun j hj=>⟨0,by simp[madeCells,hj,Nat.mod_one]⟩,fun j _ hj=>by simp[madeCells,hj,Nat.mod_one,Px.behind]⟩);have H3:=Hd (show BestAt W3 (R+1+1) k k a (a+k) data [] from⟨_,a5,by simp[madeCells],fun j h1 h2=>by omega⟩);clear d8 d4 a4 a5 k0 k1 f J c0;go_loopw [17] (fun s17 wr=>∃(m:Nat)(z:List Px.Stp),s17=.int .i64 ((m:Int)-1)∧m≤k∧PB w wr P (a+k) dict a (.slice pa data.length pc) (ptr F) data∧RowsAt w wr A k k a dict (a+k) data∧ClAt wr (R+1) w.heap.size R a (k+1) m z∧BestAt wr (R+1+1) k m a (a+k) data z∧Hid (Px.Plan data (a+k) dict z∧z.length=k-m)) (fun s17 _=>(intOf s17+1).toNat);case atStart=>exact⟨k,[],rfl,by omega,H0.out,H1.out,H2.out,H3.out,Hd ⟨trivial,by simp⟩⟩
      case round=>
        obtain⟨m,z,rfl,hm,d,q,g4,S,I⟩:=hrel;rcases m with _|i
        · have hi:((0:Nat):Int)-1=-1:=by omega
          rw[hi];have f:=Hd d;have O:=Hd S;clear d q g4 S H0 H1 H2 H3;obtain⟨w9,rfl⟩:∃w9,w9=wr:=⟨_,rfl⟩;have l8:R+1+1<w9.heap.size:=by
            obtain⟨cs,c,_⟩:=O.out.ex;exact lt_of_block c
          go_wp2_with fail;go_loopw [18,19] (fun s18 s19 wr=>∃(j:Nat)(l:List Sy),s19=.int .i64 j∧j≤k∧Fr (fun _=>False) w wr∧w9.heap.size≤wr.heap.size∧BestAt wr (R+1+1) k 0 a (a+k) data z∧Lz.Syms w9 wr s18 l∧PlanOk data (a+k) a z l a (a+j)∧l.length≤j) (fun _ s19 _=>k-(intOf s19).toNat);case atStart=>exact⟨0,[],rfl,by omega,f.out.fr,Nat.le_refl _,O.out,⟨World.ownsRow_nil _ _ _ _,fun k hk=>by simp[Value.ownBlock] at hk⟩,rfl,by simp⟩
          case round=>
            obtain⟨j,l,rfl,hj,e4,m1,d5,a9,e7,l7⟩:=hrel;by_cases e5:j<k
            · obtain⟨cs,c,g5,a3⟩:=d5.ex
              obtain⟨⟨yk,Z,N,yd⟩,y0,y1,y2,y3,Y,f1⟩:=a3 j (by omega) e5;rw[Nat.sub_zero] at f1;have i9:=Hd f1;clear f1;have q0:=cell_in (i:=j*4) c y0;have q1:=cell_in (i:=j*4+1) c y1;have q2:=cell_in (i:=j*4+2) c y2;have q3:=cell_in (i:=j*4+3) c y3;have i1:(0:Int)≤(j:Int):=by omega
              have i2:(j:Int)<(k:Int):=by omega
              simp only at q0 q1 q2 q3;have o:=(R0 wr).alloc (.cells #[.int .i64 yk,.int .u8 Z,.int .i64 N,.int .i64 yd] 110);have h7:=Hd (heap_alloc_new wr (.cells #[.int .i64 yk,.int .u8 Z,.int .i64 N,.int .i64 yd] 110));have a2:=Hd (a9.step o (fun _ _ h=>h));have h8:=Hd (d5.step o (fun h=>h));have c7:=Hd (e4.trans o);have i5:=Hd (o.keep c (fun h=>h));have K:=Hd (show cs[j*4]? =some (.int .i64 yk)∧cs[j*4+1]? =some (.int .u8 Z)∧cs[j*4+2]? =some (.int .i64 N)∧cs[j*4+3]? =some (.int .i64 yd) from⟨y0,y1,y2,y3⟩);have a1:=Hd Y;have d1:=Hd e7;have d0:=Hd (show∀b,u18.ownBlock=some b→w9.heap.size≤b from a9.new)
              go_wp2_with (at_builtin
                           refine Lz.append_sym rfl _ _ rfl (w0:=w9) u18 l ⟨yk,Z,N,yd⟩ wr.heap.size rfl rfl a2.out (by rw[World.size_alloc];omega) h7.out (by omega) ?_;intro m4 m5 b2 t g9;have T:=h8.out.step t (fun e=>by
                             have:=d0.out _ e;omega)
                           have c8:=Hd (c7.out.trans' t (fun b hb e=>by
                             have:=d0.out _ e;have:=f.out.fr.size;omega))
                           have g:=t.keep i5.out (fun e=>by
                             have:=d0.out _ e;omega)
                           have q0:=cell_in (i:=j*4) g K.out.1;have q1:=cell_in (i:=j*4+1) g K.out.2.1;have q2:=cell_in (i:=j*4+2) g K.out.2.2.1;have q3:=cell_in (i:=j*4+3) g K.out.2.2.2;have d2:=Hd b2;have c4:=Hd T;have h5:=t.size;rw[World.size_alloc] at h5;clear T g b2 t g9)
              have k8:(if(N:Int)≤1 then(1:Int) else(N:Int))=((stepSize ⟨yk,Z,N,yd⟩:Nat):Int):=by
                unfold stepSize;by_cases h:N≤1
                · rw[if_pos (by omega),if_pos h];rfl
                · rw[if_neg (by omega),if_neg h]
              obtain⟨l0,h1⟩:=StepOk.fits a1.out (by omega);have f8:=Hd (d1.out.snoc ⟨a1.out,by rw[Nat.add_sub_cancel_left];exact i9.out⟩ (by omega));generalize stepSize ⟨yk,Z,N,yd⟩=n5 at*;refine(size_calls _ _ _ _ _ (by omega)).mono ?_;rintro e m6 ⟨rfl,u⟩;rw[k8];have d3:=Hd (d2.out.step u (fun _ _ h=>h));have c5:=Hd (c4.out.step u (fun h=>h));have c9:=Hd (c8.out.trans u);have l4:=u.size;clear u;go_wp2_with fail;go_roundw
              · exact⟨j+n5,_,by simp,by omega,c9.out,by omega,c5.out,d3.out,by rw[←Nat.add_assoc];exact f8.out,by rw[List.length_append,List.length_singleton];omega⟩
              · simp[intOf];omega
            · have j6:j=k:=by omega
              subst j6;have j8:¬((j:Int)<(j:Int)):=by omega
              have a2:=Hd a9;have c7:=Hd e4;have d1:=Hd e7;clear a9 e4 e7 d5 f O;go_wp2_with fail;go_ret2;exact⟨c7.out,u18,rfl,l,⟨a2.out.own,fun b hb=>Nat.le_trans (by omega) (a2.out.new b hb)⟩,z,d1.out,I⟩
        · have hi:((i+1:Nat):Int)-1=(i:Int):=by omega
          rw[hi];have l6:(0:Int)≤(i:Int):=by omega
          go_wp2_with fail;obtain⟨cs,c,g5,a3⟩:=q.ex;obtain⟨v,l,hv,e6,b7,Q,h6⟩:=a3 i (by omega);obtain⟨pm,L,rfl⟩:=e6.slice;obtain⟨⟨G,a6⟩,s,g3,x,h4,a8,e8⟩:=g4;obtain⟨zi,m3⟩:=a8 i (by omega);obtain⟨cq,C,l9,k5⟩:=S.ex;have h9:=Hd (show∀w':World,Fr (fun _=>False) wr w'→Calls Tryz.prog 189 #[ptr P,.int .i64 (IntKind.i64.wrap ((a:Int)+(i:Int))),.slice pm l.length L,.func (.func 190) #[] #[.pointer (some ⟨R+1,0,none⟩),.pointer (some ⟨w.heap.size,0,none⟩)]] w' (fun e k9=>Fr (fun _=>False) w' k9∧∃y:Px.Stp,e=.returned (.tuple #[.agg (y.sy data (a+i)).cells,.int .i64 (y.c:Nat)])∧StepOk data (a+k) (a+i) (y.sy data (a+i))∧Px.IsBest (Px.mts data (a+k) dict (a+i)) (Px.behind z) y) from fun(w':World)(hf:Fr (fun _=>False) wr w')=>by
            rw[IntWalk.i64_in _ (by omega)];exact cheapest_calls z P (a+k) dict (a+i) (R+1) w.heap.size R a (.slice pa data.length pc) (ptr F) (.slice pm l.length L) data l w w' (d.pc.keep hf) (HT.out.keep (d.fr.trans hf)) (e6.keep hf) b7 (by rw[Nat.add_sub_cancel_left,Nat.add_sub_cancel_left];exact ClAt.keep ⟨⟨G,a6⟩,s,g3,x,h4,a8,e8⟩ hf) (fun n=>Nat.le_trans (I.out.1.cost n) (by have:=I.out.2;omega)) h6 (by omega) (by omega) ht hb d6 (by omega))
          have f:=Hd d;have J:=Hd q;have O:=Hd S;have i0:=Hd (show ClAt wr (R+1) w.heap.size R a (k+1) (i+1) z from⟨⟨G,a6⟩,s,g3,x,h4,a8,e8⟩);have m0:=d.fr.size;have n1:¬A=R:=neOf c x (by decide);have n2:¬A=R+1+1:=neOf c C (by decide);have n3:¬w.heap.size=R+1+1:=neOf d.bf C (by decide);have r:=Hd ((R0 wr).drew);have HS:=Hd (show∀w':World,Fr (fun j=>j=R∨j=R+1+1) wr w'→(w'.cell? ⟨R+1,0,none⟩=some (.slice (some ⟨R,0,none⟩) (k+1) G)∧w'.cell? ⟨w.heap.size,0,none⟩=some (.int .i64 a)∧w'.cell? ⟨A,i,none⟩=some (.slice pm l.length L)) from fun w' hf=>
            ⟨cell_in (i:=0) (hf.keep a6 (by omega)) rfl,cell_in (i:=0) (hf.keep s (by omega)) rfl,cell_in (i:=i) (hf.keep c (by omega)) hv⟩)
          have g1:=Hd (HS.out _ (r.out.mono (fun _ _ h=>h.elim)));obtain⟨e0,e1,e2⟩:=HS.out wr (Fr.refl _ _);have i1:(0:Int)≤(i:Int):=by omega
          have i2:(i:Int)<(k:Int):=by omega
          have i3:(i:Int)<(k:Int)+1:=by omega
          have i4:(i:Int)<((k+1:Nat):Int):=by omega
          have f3:=Hd C;have g0:=Hd x;clear d q S c a6 s x C e6 b7 a8 e8 h6 k5 a3 hv;go_region_held3 (fun w'=>w'.cell? ⟨R+1,0,none⟩=some (.slice (some ⟨R,0,none⟩) (k+1) G)∧w'.cell? ⟨w.heap.size,0,none⟩=some (.int .i64 a)∧w'.cell? ⟨A,i,none⟩=some (.slice pm l.length L)) (first|with_reducible exact g1.out|(refine HS.out _ ?_;(repeat refine Fr.setCell ?_ (.inl (by simp)) _);exact r.out.mono (fun _ _ h=>h.elim))) ((
            (go_at_call 189
             with_reducible refine(h9.out _ r.out).mono ?_
             rintro e wc ⟨b6,zz,rfl,Y,g7⟩;obtain⟨zc,f0⟩:∃zc,zc=zz.c:=⟨_,rfl⟩;obtain⟨y,e9⟩:∃y,y=zz.sy data (a+i):=⟨_,rfl⟩;rw[←e9] at Y ⊢;rw[←f0];have K:=Hd e9;have i8:=Hd f0;have i6:=Hd g7;clear e9 f0 g7;obtain⟨yk,Z,N,yd⟩:=y;simp only[Sy.cells];have r:=Hd (r.out.trans b6);have g1:=Hd (HS.out _ (r.out.mono (fun _ _ h=>h.elim)));have g2:=Hd Y;have hq:=r.out.keep f3.out (fun h=>h);have hr:=r.out.keep g0.out (fun h=>h);have q0:=cell_in (i:=i*4) hq (Array.getElem?_eq_getElem (by omega));have q1:=cell_in (i:=i*4+1) hq (Array.getElem?_eq_getElem (by omega));have q2:=cell_in (i:=i*4+2) hq (Array.getElem?_eq_getElem (by omega));have q3:=cell_in (i:=i*4+3) hq (Array.getElem?_eq_getElem (by omega));have qf:=fun j=>frozen_in hq j;have r0:=cell_in (i:=i) hr (Array.getElem?_eq_getElem (by omega));have rf:=fun j=>frozen_in hr j;clear b6 Y hq hr)))
          all_goals go_wp2_with fail
          all_goals
            have p:Fr (fun j=>j=R∨j=R+1+1) wc (((((wc.setCell ⟨R+1+1,i*4,none⟩ (.int .i64 yk)).setCell ⟨R+1+1,i*4+1,none⟩ (.int .u8 Z)).setCell ⟨R+1+1,i*4+2,none⟩ (.int .i64 N)).setCell ⟨R+1+1,i*4+3,none⟩ (.int .i64 yd)).setCell ⟨R,i,none⟩ (.int .i64 zc)):=by
              refine Fr.setCell ?_ (.inl (.inl rfl)) _;refine Fr.setCell ?_ (.inl (.inr rfl)) _;refine Fr.setCell ?_ (.inl (.inr rfl)) _;refine Fr.setCell ?_ (.inl (.inr rfl)) _;exact Fr.setCell (Fr.refl _ _) (.inl (.inr rfl)) _
            have k4:Fr (fun j=>j=R+1+1) wc ((((wc.setCell ⟨R+1+1,i*4,none⟩ (.int .i64 yk)).setCell ⟨R+1+1,i*4+1,none⟩ (.int .u8 Z)).setCell ⟨R+1+1,i*4+2,none⟩ (.int .i64 N)).setCell ⟨R+1+1,i*4+3,none⟩ (.int .i64 yd)):=
              (((Fr.one _ _ _ _).trans (Fr.one _ _ _ _)).trans (Fr.one _ _ _ _)).trans (Fr.one _ _ _ _)
            have C:=r.out.keep f3.out (fun h=>h);have x:=r.out.keep g0.out (fun h=>h);have V:=f.out.keep r.out;have l2:=neOf V.pc.box C (by decide);have l3:=neOf V.pc.box x (by decide);refine⟨⟨i,zz::z,rfl,by omega,V.step p (by omega) (by omega) (fun j hj=>by omega) i7.out,(J.out.keep r.out).step p (by omega) (fun j cs' fr' hj e=> ?_),by rw[i8.out];exact((i0.out.keep r.out).step k4 (by omega) (by omega) (by omega)).put (by omega) (by omega) (by omega) zz,((O.out.step r.out (fun h=>h)).put (by omega) ⟨yk,Z,N,yd⟩ g2.out zz K.out.symm).step (Fr.one _ R i _) (by omega),Hd ⟨⟨by rw[I.out.2,show a+k-(k-(i+1)+1)=a+i by omega];exact i6.out,I.out.1⟩,by rw[List.length_cons,I.out.2];omega⟩⟩,?_⟩
            · rcases e with e|e
              · exact neOf hj x (by decide) e
              · exact neOf hj C (by decide) e
            · first|(simp[intOf];done)|(simp[intOf];omega)
end Ps
namespace Ps
open Mem Win St Fi Pk
theorem StepOk.cand{data:List UInt8}{tp p:Nat}{s:S}{y:Sy}(h:StepOk data tp p y)(e:p<tp):Cand data tp p s y:=by
 obtain⟨i,f,j,g⟩:=y;rcases h with⟨rfl,b,c,a,d⟩|⟨rfl,rfl,b,c,a,d⟩
 ·exact⟨⟨.inl rfl,fun h=>absurd h (by simp),c⟩,fun _=>⟨b,by omega,a⟩,fun h=>absurd rfl h,fun h=>absurd h (by simp)⟩
 ·exact⟨⟨.inr (.inl rfl),fun h=>absurd h (by simp),by simp⟩,fun h=>absurd h (by simp),fun _=>⟨a,d⟩,fun h=>absurd h (by simp)⟩
theorem sy_lit{data:List UInt8}{p a c b:Nat}{d:Px.Stp}(h:d.sy data p=⟨1,a,c,b⟩):d.n=1∧(⟨1,(data.getD p 0).toNat,0,0⟩:Sy)=⟨1,a,c,b⟩:=by
 unfold Px.Stp.sy at h;split at h
 ·rename_i h1
  exact⟨h1,h⟩
 ·simp at h
theorem sy_match{data:List UInt8}{p b d c:Nat}{a:Px.Stp}(h:a.sy data p=⟨2,b,d,c⟩):a.n≠1∧0=b∧a.n=d∧a.d=c:=by
 unfold Px.Stp.sy at h;split at h
 ·simp at h
 ·rename_i h1
  simp only[Sy.mk.injEq,true_and] at h;exact⟨h1,h⟩
theorem named_rep{data:List UInt8}{tp dict p g d c i:Nat}{e:Px.Stp}{s:S}(h:e.sy data p=⟨2,g,d,c⟩)(k:i<4)(b:repAt s i=c)(a:∀j,j<i→repAt s j≠c):(⟨3,0,d,i⟩:Sy)=Px.named data tp dict p e s:=by
 obtain⟨f,rfl,rfl,rfl⟩:=sy_match h;unfold Px.named;rw[if_neg f];obtain rfl|rfl|rfl|rfl:i=0∨i=1∨i=2∨i=3:=by omega
 ·rw[if_pos (show s.r0=_ from b)]
 ·rw[if_neg (show¬s.r0=_ from a 0 (by decide)),if_pos (show s.r1=_ from b)]
 ·rw[if_neg (show¬s.r0=_ from a 0 (by decide)),if_neg (show¬s.r1=_ from a 1 (by decide)),if_pos (show s.r2=_ from b)]
 ·rw[if_neg (show¬s.r0=_ from a 0 (by decide)),if_neg (show¬s.r1=_ from a 1 (by decide)),if_neg (show¬s.r2=_ from a 2 (by decide)),if_pos (show s.r3=_ from b)]
theorem named_none{data:List UInt8}{tp dict p c d b:Nat}{e:Px.Stp}{s:S}(h:e.sy data p=⟨2,c,d,b⟩)(a:∀j,j<4→repAt s j≠b):(⟨2,c,d,b⟩:Sy)=Px.named data tp dict p e s:=by
 obtain⟨f,rfl,rfl,rfl⟩:=sy_match h;unfold Px.named;rw[if_neg f,if_neg (show¬s.r0=_ from a 0 (by decide)),if_neg (show¬s.r1=_ from a 1 (by decide)),if_neg (show¬s.r2=_ from a 2 (by decide)),if_neg (show¬s.r3=_ from a 3 (by decide))]
set_option maxRecDepth 100000 in
theorem told_calls(P tp dict p:Nat)(pv fv:Value)(data:List UInt8)(y:Sy)(s:S)(w:World)(h:PcAt w P tp dict pv fv data)(M:StepOk data tp p y)(hp:p<tp)(ht:tp≤data.length)(hb:data.length≤1099511627776):
 Calls Tryz.prog 130 #[ptr P,.int .i64 p,.agg y.cells,.agg s.cells] w fun e N=>Fr (fun _=>False) w N∧∃z:Sy,e=.returned (.agg z.cells)∧Cand data tp p s z∧stepSize z=stepSize y∧Hid (∀B:Px.Stp,B.sy data p=y→z=Px.named data tp dict p B s):=by
 have C:=Hd (M.cand (s:=s) hp);have HY:=Hd M;obtain⟨A,x,o,g⟩:=y;obtain⟨q,m,r,t,u⟩:=s;simp only[S.cells,Sy.cells];have a:=(((R0 _).alloc (.cells #[.int .i64 q,.int .i64 m,.int .i64 r,.int .i64 t,.int .i64 u] 84)).alloc (.cells #[.int .i64 0,.int .u8 0,.int .i64 0,.int .i64 0] 110)).keep (heap_alloc_new w (.cells #[.int .i64 A,.int .u8 x,.int .i64 o,.int .i64 g] 110)) (fun h=>h);have l:=((R0 _).alloc (.cells #[.int .i64 0,.int .u8 0,.int .i64 0,.int .i64 0] 110)).keep (heap_alloc_new (w.alloc (.cells #[.int .i64 A,.int .u8 x,.int .i64 o,.int .i64 g] 110)) (.cells #[.int .i64 q,.int .i64 m,.int .i64 r,.int .i64 t,.int .i64 u] 84)) (fun h=>h);have b:=heap_alloc_new ((w.alloc (.cells #[.int .i64 A,.int .u8 x,.int .i64 o,.int .i64 g] 110)).alloc (.cells #[.int .i64 q,.int .i64 m,.int .i64 r,.int .i64 t,.int .i64 u] 84)) (.cells #[.int .i64 0,.int .u8 0,.int .i64 0,.int .i64 0] 110);have U:=Hd ((((R0 w).alloc (.cells #[.int .i64 A,.int .u8 x,.int .i64 o,.int .i64 g] 110)).alloc (.cells #[.int .i64 q,.int .i64 m,.int .i64 r,.int .i64 t,.int .i64 u] 84)).alloc (.cells #[.int .i64 0,.int .u8 0,.int .i64 0,.int .i64 0] 110));simp only[World.size_alloc] at l b;obtain⟨O,Q,R,T⟩:=cs4 a rfl rfl rfl rfl;obtain⟨s0,s1,s2,s3,s4⟩:=cs5 l rfl rfl rfl rfl rfl;have HR:=Hd (fun(d:Nat)(N:World)(hf:Fr (fun _=>False) w N)=>run_calls P tp dict p d pv fv data N (h.keep hf) (by omega) ht hb);have F:=Hd a;have a0:=Hd l;have G:=Hd b;have hk:A=1∨A=2:=by rcases M with h|h;exact .inl h.1;exact .inr h.1
 clear h M a l b;rcases hk with rfl|rfl
 ·go_enter Tryz.func130,Tryz.ntmps130
  go_wp2_with fail;refine(HR.out m _ U.out).mono ?_;rintro e w2 ⟨k,n,rfl,a6,J,K⟩;have E:=Hd K;clear K;have D:=Hd (U.out.trans k);have c:=Hd (k.keep G.out (fun h=>h));have a:=k.keep F.out (fun h=>h);clear O Q R T s0 s1 s2 s3 s4;obtain⟨O,Q,R,T⟩:=cs4 a rfl rfl rfl rfl;obtain⟨z0,z1,z2,z3,zf⟩:=cf4 c.out rfl rfl rfl rfl;have HN:=Hd J;have f:w.heap.size≤w.heap.size+1+1:=by omega
  have Z:o=0:=by
   rcases HY.out with h|h
   ·exact h.2.2.2.1
   ·exact absurd h.1 (by simp)
  subst Z;clear k J a;by_cases h5:(0:Int)<(n:Int)
  ·go_wp2_with fail
   refine bodyPost_ret (results_cell_row Tryz.results130 _ _ (w.heap.size+1+1) _ _ _ _ rfl (y4 c.out _ _ _ _) Tryz.underlying110 rfl symSize) rfl ?_;refine⟨fr4z D.out f _ _ _ _,⟨4,0,0,0⟩,rfl,⟨⟨.inr (.inr (.inr rfl)),fun h=>absurd h (by simp),by simp⟩,fun h=>absurd h (by simp),fun _=>⟨?_,by simp only[lenOfSy,if_true];omega⟩,fun _=>rfl⟩,rfl,Hd fun B f=> ?_⟩;rotate_left
   ·unfold Px.named
    rw[if_pos (sy_lit f).1,if_pos (by rw[←E.out];show 0<n;omega)]
   obtain⟨a1,a2,a3⟩:=HN.out.resolve_left (by omega);exact⟨a1,a2,fun j L=>a3 j (by simp only[lenOfSy,if_true] at L;omega)⟩
  ·go_wp2_with fail
   refine bodyPost_ret (results_cell_row Tryz.results130 _ _ (w.heap.size+1+1) _ _ _ _ rfl (y4 c.out _ _ _ _) Tryz.underlying110 rfl symSize) rfl ?_;refine⟨fr4z D.out f _ _ _ _,⟨1,x,0,g⟩,rfl,C.out,rfl,Hd fun B f=> ?_⟩;unfold Px.named;rw[if_pos (sy_lit f).1,if_neg (by rw[←E.out];show¬0<n;omega)];exact(sy_lit f).2.symm
 ·go_enter Tryz.func130,Tryz.ntmps130
  go_wp2_with fail;have f:w.heap.size≤w.heap.size+1+1:=by omega
  clear O Q R T s0 s1 s2 s3 s4;go_loopw [25](fun s25 wr=>∃i:Nat,s25=.int .i64 i∧i≤4∧Hid (∀j,j<i→repAt ⟨q,m,r,t,u⟩ j≠g)∧Fr (fun _=>False) w wr∧wr.heap[w.heap.size]? =some (.cells #[.int .i64 2,.int .u8 x,.int .i64 o,.int .i64 g] 110 (0,0))∧wr.heap[w.heap.size+1+1]? =some (.cells #[.int .i64 0,.int .u8 0,.int .i64 0,.int .i64 0] 110 (0,0))) (fun s25 _=>4-(intOf s25).toNat);case atStart=>exact⟨0,rfl,by omega,Hd (fun j L=>absurd L (Nat.not_lt_zero _)),U.out,F.out,G.out⟩
  case round=>
   obtain⟨i,rfl,hi,v,H,a,b⟩:=hrel;obtain⟨O,Q,R,T⟩:=cs4 a rfl rfl rfl rfl;have zf:=fun i=>frozen_in b i;obtain⟨z0,z1,z2,z3⟩:=cs4 b rfl rfl rfl rfl;have W:=Hd H;have X:=Hd a;have c:=Hd b;clear H a b;by_cases I:i<4
   ·have a5:=index4 q m r t u i I
    generalize hd:repAt ⟨q,m,r,t,u⟩ i=d at*;have V:=Hd hd;clear hd;by_cases a4:(d:Int)=(g:Int)
    ·have Y:d=g:=by omega
     subst Y;go_wp2_with fail;refine bodyPost_ret (results_cell_row Tryz.results130 _ _ (w.heap.size+1+1) _ _ _ _ rfl (y4 c.out _ _ _ _) Tryz.underlying110 rfl symSize) rfl ?_;refine⟨fr4z W.out f _ _ _ _,⟨3,0,o,i⟩,rfl,⟨⟨.inr (.inr (.inl rfl)),fun _=>by simp only;omega,by simp⟩,fun h=>absurd h (by simp),fun _=> ?_,fun h=>absurd h (by simp)⟩,rfl,Hd fun B f=>named_rep f I V.out v.out⟩;rcases HY.out with h|h
     ·exact absurd h.1 (by simp)
     ·have h1:distOf ⟨q,m,r,t,u⟩ ⟨3,0,o,i⟩=d:=by
       simp only[distOf];exact V.out
      rw[h1];exact⟨h.2.2.2.2.1,h.2.2.2.2.2⟩
    ·go_wp2_with fail
     go_roundw
     ·exact⟨i+1,by simp,by omega,Hd (fun j L=>by
       by_cases e:j=i
       ·subst e
        rw[V.out];omega
       ·exact v.out j (by omega)),W.out,X.out,c.out⟩
     ·simp[intOf];omega
   ·obtain rfl:i=4:=by omega
    go_wp2_with fail;refine bodyPost_ret (results_cell_row Tryz.results130 _ _ (w.heap.size+1+1) _ _ _ _ rfl (y4 c.out _ _ _ _) Tryz.underlying110 rfl symSize) rfl ?_;exact⟨fr4z W.out f _ _ _ _,⟨2,x,o,g⟩,rfl,C.out,rfl,Hd fun B f=>named_none f v.out⟩
end Ps
end Go.Proofs.YtffoddpjfgjelaaGreatDoor
