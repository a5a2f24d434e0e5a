/- Part 46 of 54: lemmas of the last part, each under the conditions that it names. -/
import Derived.Test.YtffoddpjfgjelaaGreatDoorK45
set_option linter.unusedVariables false
set_option linter.unusedSimpArgs false
set_option maxRecDepth 1500
set_option maxHeartbeats 1000000
namespace Go.Proofs.YtffoddpjfgjelaaGreatDoor
open Go.RowKit
namespace Rx
open Mem Win St Ps
structure QA(wr:World)(R Q n i fm:Nat)(data:List UInt8)(pl:List Px.Stp):Prop where
 r:∃cs,wr.heap[R]? =some (.cells cs 3 (0,0))∧cs.size=n+1∧∀j,i≤j→j≤n→cs[j]? =some (.int .i64 (Px.behind pl (j-i+1):Nat))
 q:∃cs,wr.heap[Q]? =some (.cells cs 110 (0,0))∧cs.size=(n+1)*4∧∀j,i≤j→j<n→∃z,pl[j-i]? =some z∧cs[j*4]? =some (.int .i64 (z.sy data (fm+j)).kind)∧cs[j*4+1]? =some (.int .u8 (z.sy data (fm+j)).byte)∧cs[j*4+2]? =some (.int .i64 (z.sy data (fm+j)).len)∧cs[j*4+3]? =some (.int .i64 (z.sy data (fm+j)).dist)
theorem QA.step{S:Nat→Prop}{wr a:World}{R Q n i b:Nat}{data:List UInt8}{d:List Px.Stp}(h:QA wr R Q n i b data d)(c:Fr S wr a)(o:¬S R)(m:¬S Q):QA a R Q n i b data d:=by
 obtain⟨⟨e,g,j⟩,f,k,l⟩:=h;exact⟨⟨e,c.keep g o,j⟩,f,c.keep k m,l⟩
theorem QA.keep{wr a:World}{R Q n i b:Nat}{data:List UInt8}{c:List Px.Stp}(h:QA wr R Q n i b data c)(d:Fr (fun _=>False) wr a):QA a R Q n i b data c:=h.step d (fun h=>h) (fun h=>h)
theorem QA.tail{wr:World}{R Q n i b:Nat}{data:List UInt8}{y:Px.Stp}{d:List Px.Stp}(h:QA wr R Q n i b data (y::d)):QA wr R Q n (i+1) b data d:=by
 obtain⟨⟨e,g,k,l⟩,f,m,o,p⟩:=h;refine⟨⟨e,g,k,fun j r a=> ?_⟩,f,m,o,fun j r a=> ?_⟩
 ·rw[l j (by omega) a,Px.behind_cons,if_neg (by omega),show j-i=j-(i+1)+1 by omega]
 ·obtain⟨z,c,q⟩:=p j (by omega) a
  rw[show j-i=j-(i+1)+1 by omega,List.getElem?_cons_succ] at c;exact⟨z,c,q⟩
theorem QA.put{W c:World}{R Q n i b:Nat}{data:List UInt8}{g:List Px.Stp}(h:QA W R Q n (i+1) b data g)(C:i<n)(y:Px.Stp)
 (t:∀a,W.heap[R]? =some (.cells a 3 (0,0))→c.heap[R]? =some (.cells (a.set! i (.int .i64 (y.c:Nat))) 3 (0,0)))
 (s:∀a,W.heap[Q]? =some (.cells a 110 (0,0))→c.heap[Q]? =some (.cells ((((a.set! (i*4) (.int .i64 (y.sy data (b+i)).kind)).set! (i*4+1) (.int .u8 (y.sy data (b+i)).byte)).set! (i*4+2) (.int .i64 (y.sy data (b+i)).len)).set! (i*4+3) (.int .i64 (y.sy data (b+i)).dist)) 110 (0,0))):
 QA c R Q n i b data (y::g):=by
 obtain⟨⟨a,l,f,m⟩,k,o,p,q⟩:=h;refine⟨⟨_,t a l,by simp[f],fun j u d=> ?_⟩,_,s k o,by simp[p],fun j u d=> ?_⟩
 ·rw[Px.behind_cons]
  by_cases e:j=i
  ·subst e
   rw[if_pos (by omega)];simp[f,show j<n+1 by omega]
  ·have v:=m j (by omega) d
   rw[if_neg (by omega),show j-i=j-(i+1)+1 by omega];simpa [Array.set!,Array.getElem?_setIfInBounds,Ne.symm e] using v
 ·by_cases e:j=i
  ·subst e
   refine⟨y,by simp,?_,?_,?_,?_⟩;all_goals
    simp only[Array.set!,Array.getElem?_setIfInBounds,Array.size_setIfInBounds];repeat' split
    all_goals first|rfl|omega|exact absurd trivial (by assumption)
  ·obtain⟨z,r,w,x,A,B⟩:=q j (by omega) d
   refine⟨z,by rw[show j-i=j-(i+1)+1 by omega];exact r,?_,?_,?_,?_⟩;all_goals
    simp only[Array.set!,Array.getElem?_setIfInBounds,Array.size_setIfInBounds];repeat' split
    all_goals first|assumption|omega
def Along(data:List UInt8)(tp fm:Nat)(pl:List Px.Stp):List Sy→Nat→Nat→Prop
 |[],p,q=>q=p
 |y::l,p,q=>p<tp∧∃z,pl[p-fm]? =some z∧z.sy data p=y∧Along data tp fm pl l (p+z.n) q
theorem Along.snoc{data:List UInt8}{tp a:Nat}{b:List Px.Stp}{z:Px.Stp}:∀{l:List Sy}{p q:Nat},Along data tp a b l p q→q<tp→b[q-a]? =some z→Along data tp a b (l++[z.sy data q]) p (q+z.n)
 |[],p,q,h,hq,hz=>by subst h;exact⟨hq,z,hz,rfl,rfl⟩
 |y::l,p,q,⟨h1,x,h2,h3,h4⟩,hq,hz=>⟨h1,x,h2,h3,h4.snoc hq hz⟩
theorem sy_len{data:List UInt8}{p:Nat}{z:Px.Stp}(h:z.n=1∨3≤z.n):(if(z.sy data p).kind=2∨(z.sy data p).kind=3 then(z.sy data p).len else 1)=z.n:=by
 unfold Px.Stp.sy;by_cases e:z.n=1
 ·rw[if_pos e,e]
  rfl
 ·rw[if_neg e]
  rfl
theorem best_fits{D:List UInt8}{tp dict p:Nat}{b:Nat→Nat}{z:Px.Stp}(c:Px.IsBest (Px.mts D tp dict p) b z)(f:p<tp):p+z.n≤tp∧1≤z.n:=by
 rcases c.cand with⟨h,_⟩|⟨d,⟨L,a,e⟩,_⟩
 ·omega
 ·have:=Px.mts_fits (by omega) a
  omega
theorem set4{W:World}{Q j:Nat}{e:Array Value}(h:W.heap[Q]? =some (.cells e 110 (0,0)))(a b c d:Value):
 ((((W.setCell ⟨Q,j,none⟩ a).setCell ⟨Q,j+1,none⟩ b).setCell ⟨Q,j+2,none⟩ c).setCell ⟨Q,j+3,none⟩ d).heap[Q]? =some (.cells ((((e.set! j a).set! (j+1) b).set! (j+2) c).set! (j+3) d) 110 (0,0)):=set_in (set_in (set_in (set_in h j a) (j+1) b) (j+2) c) (j+3) d
theorem fr4q(W:World)(Q j:Nat)(a b c d:Value):Fr (fun k=>k=Q) W ((((W.setCell ⟨Q,j,none⟩ a).setCell ⟨Q,j+1,none⟩ b).setCell ⟨Q,j+2,none⟩ c).setCell ⟨Q,j+3,none⟩ d):=
 (((Fr.one _ _ _ _).trans (Fr.one _ _ _ _)).trans (Fr.one _ _ _ _)).trans (Fr.one _ _ _ _)
structure RP(w wr:World)(bp:Nat)(a:Option Addr)(cap fm n dict R Q i:Nat)(data:List UInt8)(pl:List Px.Stp):Prop where
 fr:Fr (fun _=>False) w wr
 pc:wr.heap[bp]? =some (.cells #[.slice a data.length cap,.int .i64 fm,.int .i64 (fm+n:Nat),.int .i64 dict] 101 (0,0))
 qa:QA wr R Q n i fm data pl
theorem RP.keep{w wr c:World}{e:Nat}{a:Option Addr}{b f n dict R Q i:Nat}{data:List UInt8}{g:List Px.Stp}(h:RP w wr e a b f n dict R Q i data g)(d:Fr (fun _=>False) wr c):RP w c e a b f n dict R Q i data g:=
 ⟨h.fr.trans d,d.keep h.pc (fun h=>h),h.qa.keep d⟩
theorem fr5q(W:World)(R i:Nat)(v a b c d:Value):Fr (fun k=>k=R∨k=R+1) W (((((W.setCell ⟨R,i,none⟩ v).setCell ⟨R+1,i*4,none⟩ a).setCell ⟨R+1,i*4+1,none⟩ b).setCell ⟨R+1,i*4+2,none⟩ c).setCell ⟨R+1,i*4+3,none⟩ d):=
 ((Fr.one W R i v).mono (fun _ _ h=>.inl h)).trans ((fr4q _ (R+1) (i*4) a b c d).mono (fun _ _ h=>.inr h))
theorem RP.upd{w wr:World}{f:Nat}{a:Option Addr}{b g n dict R i:Nat}{data:List UInt8}{y:Px.Stp}{o:List Px.Stp}(h:RP w wr f a b g n dict R (R+1) i data (y::o))(p:i<n)(z:w.heap.size≤R)(t:¬f=R)(u:¬f=R+1){m d c:Nat}{v:Value}(q:¬m=1)(r:v=.int .i64 (c:Nat)):
 RP w (((((wr.setCell ⟨R,i,none⟩ v).setCell ⟨R+1,i*4,none⟩ (.int .i64 2)).setCell ⟨R+1,i*4+1,none⟩ (.int .u8 0)).setCell ⟨R+1,i*4+2,none⟩ (.int .i64 m)).setCell ⟨R+1,i*4+3,none⟩ (.int .i64 d)) f a b g n dict R (R+1) i data (⟨m,d,c⟩::o):=by
 subst r;have l:=fr5q wr R i (.int .i64 (c:Nat)) (.int .i64 2) (.int .u8 0) (.int .i64 m) (.int .i64 d);refine⟨h.fr.trans' l (fun k x e=>by omega),l.keep h.pc (by omega),h.qa.tail.put p _ (fun s j=> ?_) (fun ds hds=> ?_)⟩
 ·exact(fr4q _ (R+1) (i*4) _ _ _ _).keep (set_in j i _) (by omega)
 ·have e:(⟨m,d,c⟩:Px.Stp).sy data (g+i)=⟨2,0,m,d⟩:=by
   unfold Px.Stp.sy;exact if_neg q
  rw[e];exact set4 ((Fr.one wr R i _).keep hds (by omega)) _ _ _ _
set_option maxRecDepth 100000 in
theorem plan_calls(a:Option Addr)(s c tp dict:Nat)(data:List UInt8)(w:World)(h:Rd w (.slice a data.length s) data)(h8:c<tp)(ht:tp≤data.length)(hb:data.length≤1073741823)(l5:1≤dict)(l6:dict≤4294967295):
    Calls Tryz.prog 140 #[pcV a data.length s c tp dict] w fun e O=>Fr (fun _=>False) w O∧∃v l r,e=.returned (.tuple #[v,.int .i64 0])∧Lz.Syms w O v l∧Hid (Px.Plan data tp dict r∧r.length=tp-c∧Along data tp c r l c tp):=by
  obtain⟨n,rfl⟩:∃n,tp=c+n:=⟨tp-c,by omega⟩;rw[Nat.add_sub_cancel_left];have HR:=Hd h;have k9:=Hd (fun(O:World)=>refuses_calls a data.length s c (c+n) dict O (Nat.le_of_lt h8) ht l5 l6);have f2:=heap_alloc_new w (.cells #[.slice a data.length s,.int .i64 c,.int .i64 (c+n:Nat),.int .i64 dict] 101);have hf:=(R0 w).alloc (.cells #[.slice a data.length s,.int .i64 c,.int .i64 (c+n:Nat),.int .i64 dict] 101);obtain⟨c0,c1,c2,c3⟩:=cs4 f2 rfl rfl rfl rfl;have l1:=Hd f2;have HF:=Hd hf;have m4:∀W:World,(Instr.makeSlice 94 (.int .i64 ((n:Int)+1)) (.int .i64 ((n:Int)+1))).run Tryz.prog W=.ok (.slice (some ⟨W.heap.size,0,none⟩) (n+1) (n+1)) (W.alloc (.cells (madeCells #[.int .i64 0] (n+1)) 3)):=fun W=>make_nums (n+1) (by omega) W;have m5:∀W:World,(Instr.makeSlice 98 (.int .i64 ((n:Int)+1)) (.int .i64 ((n:Int)+1))).run Tryz.prog W=.ok (.slice (some ⟨W.heap.size,0,none⟩) (n+1) (n+1)) (W.alloc (.cells (madeCells #[.int .i64 0,.int .u8 0,.int .i64 0,.int .i64 0] ((n+1)*4)) 110)):=fun W=>make_syms (n+1) (by omega) W;have o9:(c:Int)+(n:Int)-(c:Int)=(n:Int):=by omega
  clear f2 hf h;go_enter Tryz.func140,Tryz.ntmps140;go_wp2_with fail;refine(k9.out _).mono ?_;rintro e w1 ⟨rfl,e6⟩;have b8:=e6.keep l1.out (fun h=>h);clear c0 c1 c2 c3;have c1:=cell_in (i:=1) b8 rfl;have c2:=cell_in (i:=2) b8 rfl;have k0:=Hd (HF.out.trans e6);have g7:=Hd b8;clear e6 b8;go_wp2_with fail;have e8:=(R0 w1).alloc (.cells (madeCells #[.int .i64 0] (n+1)) 3);have b5:=(R0 (w1.alloc (.cells (madeCells #[.int .i64 0] (n+1)) 3))).alloc (.cells (madeCells #[.int .i64 0,.int .u8 0,.int .i64 0,.int .i64 0] ((n+1)*4)) 110);have hr:=b5.keep (heap_alloc_new w1 (.cells (madeCells #[.int .i64 0] (n+1)) 3)) (fun h=>h);have hq:=heap_alloc_new (w1.alloc (.cells (madeCells #[.int .i64 0] (n+1)) 3)) (.cells (madeCells #[.int .i64 0,.int .u8 0,.int .i64 0,.int .i64 0] ((n+1)*4)) 110);rw[World.size_alloc] at hq;obtain⟨R,g9⟩:∃R,w1.heap.size=R:=⟨_,rfl⟩;have l3:=lt_of_block g7.out;rw[g9] at hr hq l3 ⊢;have H0:=Hd (show RP w _ w.heap.size a s c n dict R (R+1) n data [] from⟨k0.out.trans (e8.trans b5),(e8.trans b5).keep g7.out (fun h=>h),⟨_,hr,by simp[madeCells],fun j h1 h2=>by
    have:j<n+1:=by omega
    simp[madeCells,this,Nat.mod_one,Px.behind]⟩,_,hq,by simp[madeCells],fun j h1 h2=>by omega⟩)
  generalize(w1.alloc (.cells (madeCells #[.int .i64 0] (n+1)) 3)).alloc (.cells (madeCells #[.int .i64 0,.int .u8 0,.int .i64 0,.int .i64 0] ((n+1)*4)) 110)=W2 at*;clear e8 b5 hr hq m4 m5 g9 c1 c2;go_wp2_with fail;go_loopw [8] (fun s8 wr=>∃(m:Nat)(r:List Px.Stp),s8=.int .i64 ((m:Int)-1)∧m≤n∧RP w wr w.heap.size a s c n dict R (R+1) m data r∧Hid (Px.Plan data (c+n) dict r∧r.length=n-m)) (fun s8 _=>(intOf s8+1).toNat);case atStart=>exact⟨n,[],rfl,Nat.le_refl _,H0.out,Hd ⟨trivial,by simp⟩⟩
  case round=>
    obtain⟨m,r,rfl,hm,K,q⟩:=hrel;have Q:=Hd K;rcases m with _|i
    · have hi:((0:Nat):Int)-1=-1:=by omega
      rw[hi];rw[Nat.sub_zero] at q;have j3:R+1<wr.heap.size:=by
        obtain⟨_,ds,hds,_⟩:=K.qa;exact lt_of_block hds
      obtain⟨w9,rfl⟩:∃w9,w9=wr:=⟨_,rfl⟩;clear K H0;go_wp2_with fail;go_loopw [15,16] (fun s15 s16 wx=>∃(j:Nat)(l:List Sy),s16=.int .i64 j∧j≤n∧RP w wx w.heap.size a s c n dict R (R+1) 0 data r∧w9.heap.size≤wx.heap.size∧Lz.Syms w9 wx s15 l∧l.length≤j∧Hid (Along data (c+n) c r l c (c+j))) (fun _ s16 _=>n-(intOf s16).toNat);case atStart=>exact⟨0,[],rfl,Nat.zero_le _,Q.out,Nat.le_refl _,⟨World.ownsRow_nil _ _ _ _,fun k hk=>by simp[Value.ownBlock] at hk⟩,Nat.le_refl _,Hd rfl⟩
      case round=>
        obtain⟨j,l,rfl,hj,B,j5,a7,m2,f4⟩:=hrel;by_cases E:j<n
        · have t1:(j:Int)<(n:Int):=by omega
          obtain⟨_,ds,hds,h5,J⟩:=B.qa;obtain⟨z,hz,e0,e1,e2,e3⟩:=J j (Nat.zero_le _) E;rw[Nat.sub_zero] at hz;obtain⟨b,e5⟩:=q.out.1.best hz (by have:=q.out.2;omega);rw[show c+n-r.length+j=c+j by have:=q.out.2;omega] at e5;obtain⟨h7,h1⟩:=best_fits e5 (by omega);have f3:=Hd (f4.out.snoc (show c+j<c+n by omega) (by rw[Nat.add_sub_cancel_left];exact hz));have a6:=sy_len (data:=data) (p:=c+j) (z:=z) (q.out.1.pos hz);have A:=Hd (fun O=>length_calls (z.sy data (c+j)) O);rw[a6] at A;obtain⟨zn,m6⟩:∃zn,z.n=zn:=⟨_,rfl⟩;rw[m6] at f3 A h7 h1;generalize z.sy data (c+j)=ys at*;obtain⟨yk,yb,yl,yd⟩:=ys;simp only[Sy.cells] at A e0 e1 e2 e3;have d0:=cell_in (i:=j*4) hds e0;have d1:=cell_in (i:=j*4+1) hds e1;have d2:=cell_in (i:=j*4+2) hds e2;have d3:=cell_in (i:=j*4+3) hds e3;have i1:(0:Int)≤(j:Int):=by omega
          have i2:(j:Int)<(n:Int)+1:=by omega
          have i3:(j:Int)<((n+1:Nat):Int):=by omega
          have Z:=(R0 wr).alloc (.cells #[.int .i64 yk,.int .u8 yb,.int .i64 yl,.int .i64 yd] 110);have j8:=Hd (heap_alloc_new wr (.cells #[.int .i64 yk,.int .u8 yb,.int .i64 yl,.int .i64 yd] 110));have t:=Hd (a7.step Z (fun _ _ h=>h));have u:=Hd (B.keep Z);have f5:=Hd (Z.keep hds (fun h=>h));have b4:=Hd (show ds[j*4]? =some (.int .i64 yk)∧ds[j*4+1]? =some (.int .u8 yb)∧ds[j*4+2]? =some (.int .i64 yl)∧ds[j*4+3]? =some (.int .i64 yd) from⟨e0,e1,e2,e3⟩);have k4:=Hd a7.new;have g6:=Hd Z.size;clear B a7 hds J Z e0 e1 e2 e3 e5 a6 hz
          go_wp2_with (at_builtin
                       refine Lz.append_sym rfl _ _ rfl (w0:=w9) u15 l ⟨yk,yb,yl,yd⟩ wr.heap.size rfl rfl t.out (Nat.le_trans j5 g6.out) j8.out (by omega) ?_;intro p0 j7 c5 C i8;have D:∀k,k<w9.heap.size→¬u15.ownBlock=some k:=fun k hk e=>by
                         have:=k4.out k e;omega
                       have H:=C.keep f5.out (D _ j3);have d9:=Hd (show RP w j7 w.heap.size a s c n dict R (R+1) 0 data r from⟨u.out.fr.trans' C (fun k hk e=>D k (by omega) e),C.keep u.out.pc (D _ (by omega)),u.out.qa.step C (D _ (by omega)) (D _ j3)⟩);clear d0 d1 d2 d3;have d0:=cell_in (i:=j*4) H b4.out.1;have d1:=cell_in (i:=j*4+1) H b4.out.2.1;have d2:=cell_in (i:=j*4+2) H b4.out.2.2.1;have d3:=cell_in (i:=j*4+3) H b4.out.2.2.2;have g3:=Hd c5;have f6:=Hd (Nat.le_trans g6.out C.size);clear D H c5 C i8)
          refine(A.out j7).mono ?_;rintro e p1 ⟨rfl,c6⟩;have P:=Hd c6;clear c6 d0 d1 d2 d3;go_wp2_with fail;go_roundw
          · exact⟨j+zn,l++[⟨yk,yb,yl,yd⟩],by simp,by omega,d9.out.keep P.out,Nat.le_trans j5 (Nat.le_trans f6.out P.out.size),g3.out.step P.out (fun _ _ h=>h),by rw[List.length_append,List.length_singleton];omega,by rw[←Nat.add_assoc];exact f3⟩
          · simp[intOf];omega
        · have l7:j=n:=by omega
          subst l7;have hl:¬((j:Int)<(j:Int)):=by omega
          have u:=Hd B;have t:=Hd a7;clear B a7 E hj h8 ht;go_wp2_with fail;go_ret2;exact⟨u.out.fr,u15,rfl,l,⟨t.out.own,fun b hb=>Nat.le_trans Q.out.fr.size (t.out.new b hb)⟩,r,Hd ⟨q.out.1,q.out.2,f4.out⟩⟩
    · have hi:((i+1:Nat):Int)-1=(i:Int):=by omega
      rw[hi];have o4:(0:Int)≤(i:Int):=by omega
      obtain⟨c0,c1,c2,c3⟩:=cs4 K.pc rfl rfl rfl rfl;obtain⟨x,hx⟩:∃x,data[c+i]? =some x:=⟨data[c+i]'(by omega),List.getElem?_eq_getElem _⟩;obtain⟨a',cp,e',_,_,h3⟩:=HR.out.keep K.fr;obtain⟨g,o,rfl,h4⟩:=h3 (by omega);simp only[Value.slice.injEq] at e';obtain⟨rfl, -,rfl⟩:=e';have q1:wr.cell? ⟨g,o+(c+i),none⟩=some (.int .u8 x.toNat):=h4 _ x hx;obtain⟨⟨cs,f,l4,F⟩,ds,hds,h5,_⟩:=K.qa;have r1:=cell_in (i:=i+1) f (F (i+1) (Nat.le_refl _) (by omega));have r0:=cell_in (i:=i) f (Array.getElem?_eq_getElem (by omega));have rf:=fun j=>frozen_in f j;have d0:=cell_in (i:=i*4) hds (Array.getElem?_eq_getElem (by omega));have d1:=cell_in (i:=i*4+1) hds (Array.getElem?_eq_getElem (by omega));have d2:=cell_in (i:=i*4+2) hds (Array.getElem?_eq_getElem (by omega));have d3:=cell_in (i:=i*4+3) hds (Array.getElem?_eq_getElem (by omega));have df:=fun j=>frozen_in hds j;have i1:(0:Int)≤(c:Int)+(i:Int):=by omega
      have i2:(c:Int)+(i:Int)<(data.length:Int):=by omega
      have i3:(i:Int)<(n:Int)+1:=by omega
      have i4:(i:Int)<((n+1:Nat):Int):=by omega
      have i5:(i:Int)+1<(n:Int)+1:=by omega
      have i6:(i:Int)+1<((n+1:Nat):Int):=by omega
      have i7:(0:Int)≤(i:Int)+1:=by omega
      have n1:¬R=w.heap.size:=by omega
      have n2:¬R+1=w.heap.size:=by omega
      have n3:¬w.heap.size=R:=by omega
      have n4:¬w.heap.size=R+1:=by omega
      rw[show i+1-(i+1)+1=1 by omega] at r1;have o1:Px.behind r 1≤9663676416:=Nat.le_trans (q.out.1.cost 1) (by have:=q.out.2;omega);generalize h0:Px.behind r 1=b1 at*;have j9:=Hd h0;have HX:=Hd hx;have n9:=Hd f;have f5:=Hd hds;clear hx h3 h4 f hds F K h0 hi;have o8:((c+i:Nat):Int)=(c:Int)+(i:Int):=by omega
      have f8:=Hd (fun(O:World)(hf:Fr (fun _=>False) w O)=>matches_calls (some ⟨g,o,none⟩) s c (c+n) dict (c+i) data O (HR.out.keep hf) (by omega) ht (by omega));have a4:=Px.mts_rise data (c+n) dict (c+i);have c7:=fun(L d:Nat)(h:(L,d) ∈ Px.mts data (c+n) dict (c+i))=>(⟨Px.mts_mem h,Px.mts_fits (by omega) h⟩:(3≤L∧L≤273∧1≤d∧d≤c+i∧d≤dict)∧c+i+L≤c+n);have a0:∀y,Px.IsBest (Px.mts data (c+n) dict (c+i)) (Px.behind r) y→Px.Plan data (c+n) dict (y::r):=fun y hy=>⟨by rw[q.out.2,show c+n-(n-(i+1)+1)=c+i by omega];exact hy,q.out.1⟩;generalize hM:Px.mts data (c+n) dict (c+i)=M at*;have o7:M.length≤32:=by
        rw[←hM];unfold Px.mts;split
        · exact Nat.zero_le _
        · rw[List.length_map]
          unfold Px.dists;rw[List.length_take];omega
      have f9:=Hd c7;have d7:=Hd a4;have d5:=Hd a0;clear hM c7 a4 a0;simp only[Int.natCast_add] at f8;go_wp2_with fail;obtain⟨W3,S⟩:∃W3,W3=(((((wr.setCell ⟨R+1,i*4,none⟩ (.int .i64 1)).setCell ⟨R+1,i*4+1,none⟩ (.int .u8 x.toNat)).setCell ⟨R+1,i*4+2,none⟩ (.int .i64 0)).setCell ⟨R+1,i*4+3,none⟩ (.int .i64 0)).setCell ⟨R,i,none⟩ (.int .i64 (9+(b1:Int)))):=⟨_,rfl⟩;rw[←S];have e7:Fr (fun k=>k=R∨k=R+1) wr W3:=by
        rw[S];exact((fr4q wr (R+1) (i*4) _ _ _ _).mono (fun _ _ h=>.inr h)).trans ((Fr.one _ R i _).mono (fun _ _ h=>.inl h))
      have c9:(⟨1,0,9+b1⟩:Px.Stp).sy data (c+i)=⟨1,x.toNat,0,0⟩:=by
        show(⟨1,(data.getD (c+i) 0).toNat,0,0⟩:Sy)=_;rw[List.getD_eq_getElem?_getD,HX.out];rfl
      have j4:QA W3 R (R+1) n i c data (⟨1,0,9+b1⟩::r):=by
        refine Q.out.qa.put (by omega) _ (fun cs f=> ?_) (fun ds hds=> ?_)
        · rw[S,set_in ((fr4q wr (R+1) (i*4) _ _ _ _).keep f (by omega)) i _]
          simp
        · rw[S,c9]
          exact(Fr.one _ R i _).keep (set4 hds _ _ _ _) (by omega)
      have c8:RP w W3 w.heap.size (some ⟨g,o,none⟩) s c n dict R (R+1) i data (⟨1,0,9+b1⟩::r):=⟨Q.out.fr.trans' e7 (fun k hk e=>by omega),e7.keep Q.out.pc (by omega),j4⟩;have d6:=Hd c8;clear S e7 c9 j4 c8 r0 r1 rf d0 d1 d2 d3 df c0 c1 c2 c3 q1;refine(f8.out W3 d6.out.fr).mono ?_;rintro e w4 ⟨h6,mv,rfl,e9⟩;obtain⟨pm,cm,rfl⟩:=e9.slice;have k8:=Hd (d6.out.keep h6);have i9:R+1<W3.heap.size:=by
        obtain⟨_,ds,hds,_⟩:=d6.out.qa;exact lt_of_block hds
      have k6:=Hd e9;have g5:=Hd (show Px.RefTo M (Px.behind r) 0 3 ⟨1,0,9+b1⟩ from by rw[←j9.out];exact Px.RefTo.start _ _);clear h6 e9;go_wp2_with fail;go_loopw [11] (fun s11 wk=>∃(k:Nat)(y:Px.Stp),s11=.int .i64 k∧k≤M.length∧y.c≤9+b1∧RP w wk w.heap.size (some ⟨g,o,none⟩) s c n dict R (R+1) i data (y::r)∧Mts W3 wk (.slice pm M.length cm) M∧Hid (Px.RefTo M (Px.behind r) k 3 y)) (fun s11 _=>M.length-(intOf s11).toNat);case atStart=>exact⟨0,_,rfl,Nat.zero_le _,Nat.le_refl _,k8.out,k6.out,g5⟩
      case round=>
        obtain⟨k,y,rfl,hk,N,b7,b6,g4⟩:=hrel;by_cases E:k<M.length
        · obtain⟨gm,rfl,m0,m1⟩:=mt_cell b6 E
          have h9:M[k]? =some M[k]:=List.getElem?_eq_getElem E;have i0:=f9.out M[k].1 M[k].2 (List.getElem_mem E);generalize M[k]=mm at*;obtain⟨L,d⟩:=mm;simp only at m0 m1 i0;have b2:=Hd h9;have d8:=Hd b7;have k5:=Hd b6;have j1:(k:Int)<(M.length:Int):=by omega
          have j2:(0:Int)≤(k:Int):=by omega
          clear h9 b7 b6;go_wp2_with fail;refine(bits_calls d _ i0.1.2.2.1 (by omega)).mono ?_;rintro e w5 ⟨rfl,rfl⟩;have o3:=bits_le d;have j0:∀m,Px.price m d=8+Px.long m+Px.bits d:=fun m=>rfl;generalize Px.bits d=bt at*;have k7:=Hd j0;clear j0 m0 m1;go_wp2_with fail;go_loopw [13] (fun s13 wx=>∃(m:Nat)(y:Px.Stp),s13=.int .i64 m∧3≤m∧m≤L+1∧y.c≤9+b1∧RP w wx w.heap.size (some ⟨g,o,none⟩) s c n dict R (R+1) i data (y::r)∧Mts W3 wx (.slice (some ⟨gm,0,none⟩) M.length cm) M∧Hid (Px.RefTo M (Px.behind r) k m y)) (fun s13 _=>L+1-(intOf s13).toNat);case atStart=>exact⟨3,y,rfl,Nat.le_refl _,by omega,N,d8.out,k5.out,g4⟩
          case round=>
            obtain⟨m,y,rfl,m3,o6,N,B,a1,e4⟩:=hrel;obtain⟨l2,e,m0,m1⟩:=mt_cell a1 E;simp only[Option.some.injEq,Addr.mk.injEq,and_true] at e;subst e;rw[(List.getElem?_eq_some_iff.1 b2.out).2] at m0 m1;simp only at m0 m1;have u:=Hd B;have I:=Hd a1;by_cases l9:m≤L
            · have t0:(m:Int)≤(L:Int):=by omega
              obtain⟨⟨cs,f,l4,F⟩,ds,hds,h5,J⟩:=B.qa;have f0:=F i (Nat.le_refl _) (by omega);have f1:=F (i+m) (by omega) (by omega);rw[Nat.sub_self,Px.behind_cons,if_pos rfl] at f0;rw[Px.behind_cons,if_neg (by omega),show i+m-i=m by omega] at f1;obtain⟨z,hz,e0,e1,e2,e3⟩:=J i (Nat.le_refl _) (by omega);rw[Nat.sub_self,List.getElem?_cons_zero] at hz;obtain rfl:y=z:=Option.some.inj hz;have r0:=cell_in (i:=i) f f0;have rm:=cell_in (i:=i+m) f f1;have rf:=fun j=>frozen_in f j;have d0:=cell_in (i:=i*4) hds e0;have d1:=cell_in (i:=i*4+1) hds e1;have d2:=cell_in (i:=i*4+2) hds e2;have d3:=cell_in (i:=i*4+3) hds e3;have df:=fun j=>frozen_in hds j;have o2:Px.behind r m≤9663676416:=Nat.le_trans (q.out.1.cost m) (by have:=q.out.2;omega);obtain⟨a8,a3⟩:=e4.out.take d7.out m3 b2.out l9;rw[k7.out] at a8 a3;have a6:=sy_len (data:=data) (p:=c+i) (z:=y) (e4.out.sizes.imp And.left id);have A:=Hd (fun O=>length_calls (y.sy data (c+i)) O);rw[a6] at A;have m2:=long_le m;have b3:=Hd (fun O=>long_calls m O);obtain⟨yc,a9⟩:∃yc,y.c=yc:=⟨_,rfl⟩;obtain⟨yn,d4⟩:∃yn,y.n=yn:=⟨_,rfl⟩;have g8:=Hd a9;rw[a9] at r0 a8 a3 N;rw[d4] at A a8 a3;generalize Px.behind r m=bm at*;generalize Px.long m=lg at*;generalize y.sy data (c+i)=ys at*;obtain⟨yk,yb,yl,yd⟩:=ys;simp only[Sy.cells] at d0 d1 d2 d3 A;have c4:=Hd (show 8+lg+bt+bm<yc∨8+lg+bt+bm=yc∧yn<m→Px.RefTo M (Px.behind r) k (m+1) ⟨m,d,8+lg+bt+bm⟩ from a8);have g1:=Hd a3;have HD:=Hd ((R0 wr).drewN);have k1:(i:Int)+(m:Int)<(n:Int)+1:=by omega
              have k2:(0:Int)≤(i:Int)+(m:Int):=by omega
              have k3:(i:Int)+(m:Int)<((n+1:Nat):Int):=by omega
              have b9:=Hd i9;have o5:=a1.new gm rfl;have n5:¬gm=R:=by omega
              have n6:¬R=gm:=by omega
              have n7:¬gm=R+1:=by omega
              have n8:¬R+1=gm:=by omega
              have n0:yc≤9663676425:=by omega
              clear B a1 f F hds J f0 f1 e0 e1 e2 e3 hz a8 a3 a6 a9 d4;by_cases G:8+lg+bt+bm<yc
              · have t1:(8:Int)+bt+lg+bm<yc:=by omega
                have t:=Hd (c4.out (.inl G));have U:8+lg+bt+bm≤9+b1:=by omega
                clear G;go_wp2_with fail;go_quiet (exact quiet_left (b3.out _));go_wp2_with fail;go_roundw
                · exact⟨m+1,_,by simp,by omega,by omega,U,(u.out.keep (HD.out _)).upd (by omega) (by omega) n3 n4 (by omega) (by congr 1;omega),I.out.step (((HD.out nq).mono (fun _ _ h=>h.elim)).trans (fr5q _ R i _ _ _ _ _)) (fun j hj e=>by have:=I.out.new j hj;have:=b9.out;omega),t⟩
                · simp[intOf];omega
              · have t1:¬(8:Int)+bt+lg+bm<yc:=by omega
                by_cases V:8+lg+bt+bm=yc
                · have t2:((8:Int)+bt+lg+bm==yc)=true:=by simp;omega
                  have o0:=Hd V;have U:8+lg+bt+bm≤9+b1:=by omega
                  by_cases b0:yn<m
                  · have t3:yn<m:=b0
                    have t:=Hd (c4.out (.inr ⟨V,b0⟩));clear G V b0;go_wp2_with fail;go_quiet (exact quiet_left (b3.out _));go_wp2_with fail;refine(A.out _).mono ?_;rintro e w7 ⟨rfl,X⟩;have Y:=(HD.out nq).trans X;have a5:=u.out.keep Y;obtain⟨⟨cs,f,m8,F⟩,ds,hds,m9,J⟩:=a5.qa;have a2:=I.out.keep Y;have g2:=Hd a5;have g0:=Hd a2;obtain⟨l2,e,m7,j6⟩:=mt_cell a2 E;simp only[Option.some.injEq,Addr.mk.injEq,and_true] at e;subst e;rw[(List.getElem?_eq_some_iff.1 b2.out).2] at j6;simp only at j6;clear r0 rm rf d0 d1 d2 d3 df m0 m1 m7;have r0:=cell_in (i:=i) f (Array.getElem?_eq_getElem (by omega));have rf:=fun j=>frozen_in f j;have d0:=cell_in (i:=i*4) hds (Array.getElem?_eq_getElem (by omega));have d1:=cell_in (i:=i*4+1) hds (Array.getElem?_eq_getElem (by omega));have d2:=cell_in (i:=i*4+2) hds (Array.getElem?_eq_getElem (by omega));have d3:=cell_in (i:=i*4+3) hds (Array.getElem?_eq_getElem (by omega));have df:=fun j=>frozen_in hds j;clear f F hds J a5 a2 X Y;go_wp2_with fail;go_roundw
                    · exact⟨m+1,_,by simp,by omega,by omega,U,g2.out.upd (by omega) (by omega) n3 n4 (by omega) (by congr 1;omega),g0.out.step (fr5q _ R i _ _ _ _ _) (fun j hj e=>by have:=I.out.new j hj;have:=b9.out;omega),t⟩
                    · simp[intOf];omega
                  · have t3:¬yn<m:=b0
                    have t:=Hd (g1.out (by omega));clear G V b0;go_wp2_with fail;go_quiet (exact quiet_left (b3.out _));go_wp2_with fail;refine(A.out _).mono ?_;rintro e w7 ⟨rfl,X⟩;have f7:=Hd ((HD.out nq).trans X);clear r0 rm rf d0 d1 d2 d3 df m0 m1 X;go_wp2_with fail;go_roundw
                    · exact⟨m+1,y,by simp,by omega,by omega,by rw[g8.out];exact N,u.out.keep f7.out,I.out.keep f7.out,t⟩
                    · simp[intOf];omega
                · have t2:((8:Int)+bt+lg+bm==yc)=false:=by simp;omega
                  have t:=Hd (g1.out (by omega));clear G V;go_wp2_with fail;go_quiet (exact quiet_left (b3.out _));go_wp2_with fail;go_roundw
                  · exact⟨m+1,y,by simp,by omega,by omega,by rw[g8.out];exact N,u.out.keep (HD.out _),I.out.keep (HD.out _),t⟩
                  · simp[intOf];omega
            · have t0:¬(m:Int)≤(L:Int):=by omega
              have l0:=Hd (e4.out.more b2.out (by omega));clear B a1;go_wp2_with fail;go_roundw
              · exact⟨k+1,y,by simp,by omega,N,u.out,I.out,l0⟩
              · simp[intOf];omega
        · have l8:k=M.length:=by omega
          subst l8;have hl:¬((M.length:Int)<(M.length:Int)):=by omega
          have d8:=Hd b7;have T:=g4.out.fin;have HB:=Hd (d5.out y T);clear b7 b6 T hk E;go_wp2_with fail;go_roundw
          · exact⟨i,y::r,by simp,by omega,d8.out,Hd ⟨HB.out,by rw[List.length_cons,q.out.2];omega⟩⟩
          · first|(simp[intOf];done)|(simp[intOf];omega)
end Rx
end Go.Proofs.YtffoddpjfgjelaaGreatDoor
