/- Part 7 of 54: lemmas of the last part, each under the conditions that it names. -/
import Derived.Deep.LoopGhost
import Derived.Test.YtffoddpjfgjelaaGreatDoorK06
set_option linter.unusedVariables false
set_option linter.unusedSimpArgs false
set_option maxRecDepth 1500
set_option maxHeartbeats 4000000
namespace Go.Proofs.YtffoddpjfgjelaaGreatDoor
open Go.RowKit
namespace Ck
open Mem Wire Win
def UG(prB Vb:Nat)(l:Lz.L)(ov:Value)(k:Nat):Prop:=k=prB∨k=Vb∨l.F k∨ov.ownBlock=some k
def UPost(w0 w:World)(dB prB fB Vb:Nat)(l:Lz.L)(ov:Value)(res:Option US)(e:Ending)(w':World):Prop:=
 Fr (UG prB Vb l ov) w w'∧match res with
  |none=>e=.returned (.int .i64 2)
  |some u2=>e=.returned (.int .i64 0)∧∃l2 ov2,UAt w0 w' dB prB fB Vb l2 ov2 u2∧(∀k,l2.F k→l.F k∨w.heap.size≤k)∧(∀k,ov2.ownBlock=some k→ov.ownBlock=some k∨w.heap.size≤k)
structure B(w0 w wk:World)(dB prB fB Vb z5:Nat)(l l2:Lz.L)(ov ov2:Value)(u2:US)(hc:Array Value):Prop where
 U:UAt w0 wk dB prB fB Vb l2 ov2 u2
 fr:Fr (UG prB Vb l ov) w wk
 nx:∀k,l2.F k→l.F k∨w.heap.size≤k
 on:∀k,ov2.ownBlock=some k→ov.ownBlock=some k∨w.heap.size≤k
 z:wk.heap[z5]? =some (.cells hc 47 (0,0))
theorem B.decd{w0 w n b:World}{q f r o v:Nat}{l j m:Lz.L}{u e:Value}{u2:US}{s:Array Value}{p:Lz.C}{g:Nat→List Nat}(h:B w0 w n q f r o v l j u e u2 s)(a:Fr j.F n b)(t:Lz.Nx n j m)(y:Lz.Dec b m p g false):B w0 w b q f r o v l m u e {u2 with c:=p,ps:=g} s:=by
 have C:=h.fr.size;refine⟨h.U.decd a t y,h.fr.trans' a (fun i A x=> ?_),fun k z=> ?_,h.on,a.keep h.z (dec_off h.U.dec h.z (by decide) (by decide))⟩
 ·rcases h.nx i x with d|d
  ·exact .inr (.inr (.inl d))
  ·omega
 ·rcases t.F k z with d|d
  ·exact h.nx k d
  ·exact .inr (by omega)
theorem B.did{w0 w n b:World}{o j p m y:Nat}{l r:Lz.L}{s d a:Value}{u2:US}{v:Array Value}{c:List UInt8}(h:B w0 w n o j p m y l r s d u2 v)(u:OutAt b m a)(t:Mine w0 b a c)(g:Fr (fun k=>k=m∨d.ownBlock=some k) n b)(q:∀k,a.ownBlock=some k→d.ownBlock=some k∨n.heap.size≤k):
 UPost w0 w o j p m l s (some {u2 with out:=c}) (.returned (.int .i64 0)) b:=by
 have A:=h.fr.size;refine⟨h.fr.trans' g (fun i z f=> ?_),rfl,r,a,h.U.did u t g q,h.nx,fun k x=> ?_⟩
 ·rcases f with f|f
  ·exact .inr (.inl f)
  ·rcases h.on i f with e|e
   ·exact .inr (.inr (.inr e))
   ·omega
 ·rcases q k x with e|e
  ·exact h.on k e
  ·exact .inr (by omega)
theorem UG_low{w0 w:World}{e a f c:Nat}{l:Lz.L}{d:Value}{u:US}(h:UAt w0 w e a f c l d u):∀k,UG a c l d k→w0.heap.size≤k:=by
 have:=h.lows;rintro k (rfl|rfl|b|b)
 ·omega
 ·omega
 ·exact h.low k b
 ·exact h.mine.new k b
set_option maxRecDepth 100000 in
theorem unpack1_k0(w0 w:World)(n d o m:Nat)(l:Lz.L)(t:Value)(u:US)(O:UAt w0 w n d o m l t u)(h:Head)(y:h.kind=0)(part:List UInt8)(pv:Value)(hr:Rd w pv part)(p:0<part.length→∀k,pv.ownBlock=some k→k<w0.heap.size)(Q:h.lc+h.lp≤4∧h.pb≤4)(hs:3≤h.kind→1≤h.size∧h.size≤2097152)
 (hp:part.length≤1099511627776)(hm:u.c.all.length+part.length+h.size≤1152921504606840000)(ho:u.out.length+part.length+h.size≤70368744177664):
 Calls Tryz.prog 93 #[.agg h.cells,pv,Lz.ptr n,Lz.ptr d,Lz.ptr o] w (UPost w0 w n d o m l t (u.step h part)):=by
 obtain⟨x,b⟩:∃x,x=u.step h part:=⟨_,rfl⟩;rw[←b];unfold US.step at b;obtain⟨kind,size,a,r,s,v⟩:=h;simp only at y Q hs hm ho b;subst y;simp only[Nat.reduceEqDiff,or_false,false_or,or_self,if_true,if_false,reduceIte] at b;have P:=(R0 w).alloc (.cells #[.int .i64 0,.int .i64 size,.int .i64 a,.int .i64 r,.int .i64 s,.int .i64 v] 47);have hz:=heap_alloc_new w (.cells #[.int .i64 0,.int .i64 size,.int .i64 a,.int .i64 r,.int .i64 s,.int .i64 v] 47);have c:=Hd (show B w0 w (w.alloc (.cells #[.int .i64 0,.int .i64 size,.int .i64 a,.int .i64 r,.int .i64 s,.int .i64 v] 47)) n d o m w.heap.size l l t t u #[.int .i64 0,.int .i64 size,.int .i64 a,.int .i64 r,.int .i64 s,.int .i64 v] from⟨O.keep P,P.mono (fun _ _ h=>h.elim),fun k h=>.inl h,fun k h=>.inl h,hz⟩);have A:=Hd (show∀f,Fr (UG d m l t) w f→Rd f pv part from fun f j=>rd_step1 hr j (fun M k y hg=>by have h1:=p M k y;have h2:=UG_low O k hg;omega));have J:=Hd (show∀(q:Lz.L)(f:World)(g:Value)(u2:US),UAt w0 f n d o m q g u2→0<part.length→∀k,pv.ownBlock=some k→¬q.F k from fun q f g u2 I M k y N=>by have h1:=p M k y;have h2:=I.low k N;omega);have a0:=Hd (show∀(q:Lz.L)(f:World)(g:Value)(u2:US),UAt w0 f n d o m q g u2→∀k,q.F k→6≤k from fun q f g u2 I k N=>Nat.le_trans I.five (I.low k N));have C:=Hd b;clear P hz O hr p b;show Calls Tryz.prog 93 #[.agg #[.int .i64 0,.int .i64 size,.int .i64 a,.int .i64 r,.int .i64 s,.int .i64 v],pv,Lz.ptr n,Lz.ptr d,Lz.ptr o] w (UPost w0 w n d o m l t x);go_enter Tryz.func93,Tryz.ntmps93;have K:=cell_in (i:=0) c.out.U.d rfl;obtain⟨R,S,T,U⟩:=cf3 c.out.U.pr rfl rfl rfl;have L:=cell_in (i:=0) c.out.U.f rfl;obtain⟨V,W,X,Y,Z,z5⟩:=cs6 c.out.z rfl rfl rfl rfl rfl rfl;go_wp2_with fail;generalize w.alloc (.cells #[.int .i64 0,.int .i64 size,.int .i64 a,.int .i64 r,.int .i64 s,.int .i64 v] 47)=f at*;generalize w.heap.size=zb at*;clear K R S T U L V W X Y Z z5;have H:=Hd (Lz.raw_calls c.out.U.dec pv part (A.out _ c.out.fr) (J.out _ _ _ _ c.out.U) (by first|omega|(simp only[US.clear,US.props,US.reset,Lz.C.fresh,Lz.C.on,List.length_nil];omega)));refine H.out.mono ?_;rintro e w1 ⟨rfl,j,l1,hn,hd⟩;have z:=Hd (c.out.decd j hn hd);clear j hn hd H c;have c:=z;clear z;obtain⟨f,rfl⟩:∃f,f=w1:=⟨_,rfl⟩;have K:=cell_in (i:=0) c.out.U.d rfl;obtain⟨R,S,T,U⟩:=cf3 c.out.U.pr rfl rfl rfl;have L:=cell_in (i:=0) c.out.U.f rfl;obtain⟨V,W,X,Y,Z,z5⟩:=cs6 c.out.z rfl rfl rfl rfl rfl rfl;go_wp2_with fail;clear K R S T U L V W X Y Z z5;have H:=Hd (decode1_calls m t pv (.slice none 0 0) ⟨0,size,a,r,s,v⟩ _ part w0 f c.out.U.out c.out.U.mine c.out.U.size (A.out _ c.out.fr) (by first|(simp only[];omega)|(simp only[US.clear,US.props,US.reset,Lz.C.fresh,Lz.C.on,List.length_nil];omega)));refine H.out.mono ?_;rintro e w9 ⟨rfl,a1,E,D,F,G⟩;have HP:=Hd (c.out.did E D F G);clear E D F G;go_wp2_with fail;go_ret;rw[C.out];exact HP.out
set_option maxRecDepth 100000 in
theorem unpack1_k1(w0 w:World)(n c o m:Nat)(l:Lz.L)(p:Value)(u:US)(hU:UAt w0 w n c o m l p u)(h:Head)(z:h.kind=1)(part:List UInt8)(pv:Value)(hr:Rd w pv part)(x:0<part.length→∀k,pv.ownBlock=some k→k<w0.heap.size)(a0:h.lc+h.lp≤4∧h.pb≤4)(hs:3≤h.kind→1≤h.size∧h.size≤2097152)
 (hp:part.length≤1099511627776)(hm:u.c.all.length+part.length+h.size≤1152921504606840000)(ho:u.out.length+part.length+h.size≤70368744177664):
 Calls Tryz.prog 93 #[.agg h.cells,pv,Lz.ptr n,Lz.ptr c,Lz.ptr o] w (UPost w0 w n c o m l p (u.step h part)):=by
 obtain⟨y,d⟩:∃y,y=u.step h part:=⟨_,rfl⟩;rw[←d];unfold US.step at d;obtain⟨kind,size,a,r,s,t⟩:=h;simp only at z a0 hs hm ho d;subst z;simp only[Nat.reduceEqDiff,or_false,false_or,or_self,if_true,if_false,reduceIte] at d;have hf:=(R0 w).alloc (.cells #[.int .i64 1,.int .i64 size,.int .i64 a,.int .i64 r,.int .i64 s,.int .i64 t] 47);have hz:=heap_alloc_new w (.cells #[.int .i64 1,.int .i64 size,.int .i64 a,.int .i64 r,.int .i64 s,.int .i64 t] 47);have b:=Hd (show B w0 w (w.alloc (.cells #[.int .i64 1,.int .i64 size,.int .i64 a,.int .i64 r,.int .i64 s,.int .i64 t] 47)) n c o m w.heap.size l l p p u #[.int .i64 1,.int .i64 size,.int .i64 a,.int .i64 r,.int .i64 s,.int .i64 t] from⟨hU.keep hf,hf.mono (fun _ _ h=>h.elim),fun k h=>.inl h,fun k h=>.inl h,hz⟩);have C:=Hd (show∀f,Fr (UG c m l p) w f→Rd f pv part from fun f g=>rd_step1 hr g (fun Y k z hg=>by have h1:=x Y k z;have h2:=UG_low hU k hg;omega));have X:=Hd (show∀(q:Lz.L)(f:World)(j:Value)(u2:US),UAt w0 f n c o m q j u2→0<part.length→∀k,pv.ownBlock=some k→¬q.F k from fun q f j u2 W Y k z Z=>by have h1:=x Y k z;have h2:=W.low k Z;omega);have a1:=Hd (show∀(q:Lz.L)(f:World)(j:Value)(u2:US),UAt w0 f n c o m q j u2→∀k,q.F k→6≤k from fun q f j u2 W k Z=>Nat.le_trans W.five (W.low k Z));have D:=Hd d;clear hf hz hU hr x d;show Calls Tryz.prog 93 #[.agg #[.int .i64 1,.int .i64 size,.int .i64 a,.int .i64 r,.int .i64 s,.int .i64 t],pv,Lz.ptr n,Lz.ptr c,Lz.ptr o] w (UPost w0 w n c o m l p y);go_enter Tryz.func93,Tryz.ntmps93;have E:=cell_in (i:=0) b.out.U.d rfl;obtain⟨M,N,O,P⟩:=cf3 b.out.U.pr rfl rfl rfl;have F:=cell_in (i:=0) b.out.U.f rfl;obtain⟨Q,R,S,T,U,V⟩:=cs6 b.out.z rfl rfl rfl rfl rfl rfl;go_wp2_with fail;generalize w.alloc (.cells #[.int .i64 1,.int .i64 size,.int .i64 a,.int .i64 r,.int .i64 s,.int .i64 t] 47)=f at*;generalize w.heap.size=zb at*;clear E M N O P F Q R S T U V;have v:=Hd (Lz.clear_calls b.out.U.dec);refine v.out.mono ?_;rintro e w1 ⟨rfl,g,l1,K,I⟩;replace b:=Hd (show B w0 w w1 n c o m zb l l1 p p (u.clear) #[.int .i64 1,.int .i64 size,.int .i64 a,.int .i64 r,.int .i64 s,.int .i64 t] from b.out.decd g K I);clear g K I v;obtain⟨f,rfl⟩:∃f,f=w1:=⟨_,rfl⟩;have E:=cell_in (i:=0) b.out.U.d rfl;obtain⟨M,N,O,P⟩:=cf3 b.out.U.pr rfl rfl rfl;have F:=cell_in (i:=0) b.out.U.f rfl;obtain⟨Q,R,S,T,U,V⟩:=cs6 b.out.z rfl rfl rfl rfl rfl rfl;go_wp2_with fail;clear E M N O P F Q R S T U V;have v:=Hd (Lz.raw_calls b.out.U.dec pv part (C.out _ b.out.fr) (X.out _ _ _ _ b.out.U) (by first|omega|(simp only[US.clear,US.props,US.reset,Lz.C.fresh,Lz.C.on,List.length_nil];omega)));refine v.out.mono ?_;rintro e w2 ⟨rfl,g,q,K,I⟩;have A:=Hd (b.out.decd g K I);clear g K I v b;have b:=A;clear A;obtain⟨f,rfl⟩:∃f,f=w2:=⟨_,rfl⟩;have E:=cell_in (i:=0) b.out.U.d rfl;obtain⟨M,N,O,P⟩:=cf3 b.out.U.pr rfl rfl rfl;have F:=cell_in (i:=0) b.out.U.f rfl;obtain⟨Q,R,S,T,U,V⟩:=cs6 b.out.z rfl rfl rfl rfl rfl rfl;go_wp2_with fail;clear E M N O P F Q R S T U V;have v:=Hd (decode1_calls m p pv (.slice none 0 0) ⟨1,size,a,r,s,t⟩ _ part w0 f b.out.U.out b.out.U.mine b.out.U.size (C.out _ b.out.fr) (by first|(simp only[];omega)|(simp only[US.clear,US.props,US.reset,Lz.C.fresh,Lz.C.on,List.length_nil];omega)));refine v.out.mono ?_;rintro e w9 ⟨rfl,a2,H,G,J,L⟩;have HP:=Hd (b.out.did H G J L);clear H G J L;go_wp2_with fail;go_ret;rw[D.out];exact HP.out
set_option maxRecDepth 100000 in
theorem unpack1_k2(w0 w:World)(n d o m:Nat)(l:Lz.L)(t:Value)(u:US)(O:UAt w0 w n d o m l t u)(h:Head)(y:h.kind=2)(part:List UInt8)(pv:Value)(hr:Rd w pv part)(p:0<part.length→∀k,pv.ownBlock=some k→k<w0.heap.size)(Q:h.lc+h.lp≤4∧h.pb≤4)(hs:3≤h.kind→1≤h.size∧h.size≤2097152)
 (hp:part.length≤1099511627776)(hm:u.c.all.length+part.length+h.size≤1152921504606840000)(ho:u.out.length+part.length+h.size≤70368744177664):
 Calls Tryz.prog 93 #[.agg h.cells,pv,Lz.ptr n,Lz.ptr d,Lz.ptr o] w (UPost w0 w n d o m l t (u.step h part)):=by
 obtain⟨x,b⟩:∃x,x=u.step h part:=⟨_,rfl⟩;rw[←b];unfold US.step at b;obtain⟨kind,size,a,r,s,v⟩:=h;simp only at y Q hs hm ho b;subst y;simp only[Nat.reduceEqDiff,or_false,false_or,or_self,if_true,if_false,reduceIte] at b;have P:=(R0 w).alloc (.cells #[.int .i64 2,.int .i64 size,.int .i64 a,.int .i64 r,.int .i64 s,.int .i64 v] 47);have hz:=heap_alloc_new w (.cells #[.int .i64 2,.int .i64 size,.int .i64 a,.int .i64 r,.int .i64 s,.int .i64 v] 47);have c:=Hd (show B w0 w (w.alloc (.cells #[.int .i64 2,.int .i64 size,.int .i64 a,.int .i64 r,.int .i64 s,.int .i64 v] 47)) n d o m w.heap.size l l t t u #[.int .i64 2,.int .i64 size,.int .i64 a,.int .i64 r,.int .i64 s,.int .i64 v] from⟨O.keep P,P.mono (fun _ _ h=>h.elim),fun k h=>.inl h,fun k h=>.inl h,hz⟩);have A:=Hd (show∀f,Fr (UG d m l t) w f→Rd f pv part from fun f j=>rd_step1 hr j (fun M k y hg=>by have h1:=p M k y;have h2:=UG_low O k hg;omega));have J:=Hd (show∀(q:Lz.L)(f:World)(g:Value)(u2:US),UAt w0 f n d o m q g u2→0<part.length→∀k,pv.ownBlock=some k→¬q.F k from fun q f g u2 I M k y N=>by have h1:=p M k y;have h2:=I.low k N;omega);have a0:=Hd (show∀(q:Lz.L)(f:World)(g:Value)(u2:US),UAt w0 f n d o m q g u2→∀k,q.F k→6≤k from fun q f g u2 I k N=>Nat.le_trans I.five (I.low k N));have C:=Hd b;clear P hz O hr p b;show Calls Tryz.prog 93 #[.agg #[.int .i64 2,.int .i64 size,.int .i64 a,.int .i64 r,.int .i64 s,.int .i64 v],pv,Lz.ptr n,Lz.ptr d,Lz.ptr o] w (UPost w0 w n d o m l t x);go_enter Tryz.func93,Tryz.ntmps93;have K:=cell_in (i:=0) c.out.U.d rfl;obtain⟨R,S,T,U⟩:=cf3 c.out.U.pr rfl rfl rfl;have L:=cell_in (i:=0) c.out.U.f rfl;obtain⟨V,W,X,Y,Z,z5⟩:=cs6 c.out.z rfl rfl rfl rfl rfl rfl;go_wp2_with fail;generalize w.alloc (.cells #[.int .i64 2,.int .i64 size,.int .i64 a,.int .i64 r,.int .i64 s,.int .i64 v] 47)=f at*;generalize w.heap.size=zb at*;clear K R S T U L V W X Y Z z5;have H:=Hd (Lz.raw_calls c.out.U.dec pv part (A.out _ c.out.fr) (J.out _ _ _ _ c.out.U) (by first|omega|(simp only[US.clear,US.props,US.reset,Lz.C.fresh,Lz.C.on,List.length_nil];omega)));refine H.out.mono ?_;rintro e w1 ⟨rfl,j,l1,hn,hd⟩;have z:=Hd (c.out.decd j hn hd);clear j hn hd H c;have c:=z;clear z;obtain⟨f,rfl⟩:∃f,f=w1:=⟨_,rfl⟩;have K:=cell_in (i:=0) c.out.U.d rfl;obtain⟨R,S,T,U⟩:=cf3 c.out.U.pr rfl rfl rfl;have L:=cell_in (i:=0) c.out.U.f rfl;obtain⟨V,W,X,Y,Z,z5⟩:=cs6 c.out.z rfl rfl rfl rfl rfl rfl;go_wp2_with fail;clear K R S T U L V W X Y Z z5;have H:=Hd (decode1_calls m t pv (.slice none 0 0) ⟨2,size,a,r,s,v⟩ _ part w0 f c.out.U.out c.out.U.mine c.out.U.size (A.out _ c.out.fr) (by first|(simp only[];omega)|(simp only[US.clear,US.props,US.reset,Lz.C.fresh,Lz.C.on,List.length_nil];omega)));refine H.out.mono ?_;rintro e w9 ⟨rfl,a1,E,D,F,G⟩;have HP:=Hd (c.out.did E D F G);clear E D F G;go_wp2_with fail;go_ret;rw[C.out];exact HP.out
end Ck
namespace Ck
open Mem Wire Win
def readP(b:List UInt8)(packed size:Int):Nat→Sr→US→Except (Nat×Nat) (Nat×US)
 |0,_,_=>.error (0,0)
 |f+1,s,u=>
   if s.now=3 then .ok (s.at',u)
   else match nextP b packed size s with
    |.error x=>.error x
    |.ok (h,part,fr,s2)=>match u.step h part with
      |none=>.error (fr,2)
      |some u2=>readP b packed size f s2 u2
theorem get_pos(xs:List UInt8)(h:(get xs).2.2=0):1≤(get xs).2.1:=by
 unfold get at*;simp only at*;by_cases b:xs.length=0
 ·rw[if_pos b] at h
  simp at h
 rw[if_neg b] at h ⊢;by_cases c:(xs.getD 0 0).toNat=0
 ·rw[if_pos c]
  exact Nat.le_refl 1
 rw[if_neg c] at h ⊢;by_cases d:(xs.getD 0 0).toNat≤2
 ·rw[if_pos d] at h ⊢
  by_cases a:xs.length<3
  ·rw[if_pos a] at h
   simp at h
  ·rw[if_neg a]
   simp only;omega
 rw[if_neg d] at h ⊢;by_cases a:(xs.getD 0 0).toNat<128
 ·rw[if_pos a] at h
  simp at h
 rw[if_neg a] at h ⊢;by_cases e:xs.length<5
 ·rw[if_pos e] at h
  simp at h
 rw[if_neg e] at h ⊢;by_cases f:((xs.getD 0 0).toNat-128)/32<2
 ·rw[if_pos f]
  simp only;omega
 rw[if_neg f] at h ⊢;by_cases g:xs.length<6
 ·rw[if_pos g] at h
  simp at h
 rw[if_neg g] at h ⊢;by_cases i:St.bytePropsOk (xs.getD 5 0).toNat=true
 ·rw[if_pos i]
  simp only;omega
 ·rw[if_neg i] at h
  simp at h
theorem get_sizes(xs:List UInt8)(h:(get xs).2.2=0):(3≤(get xs).1.kind→1≤(get xs).1.size)∧((get xs).1.kind<3→(get xs).1.size=(get xs).1.packed):=by
 unfold get at*;simp only at*;by_cases b:xs.length=0
 ·rw[if_pos b] at h
  simp at h
 rw[if_neg b] at h ⊢;by_cases c:(xs.getD 0 0).toNat=0
 ·rw[if_pos c]
  simp[Head.none]
 rw[if_neg c] at h ⊢;by_cases d:(xs.getD 0 0).toNat≤2
 ·rw[if_pos d] at h ⊢
  by_cases a:xs.length<3
  ·rw[if_pos a] at h
   simp at h
  ·rw[if_neg a]
   simp only;exact⟨fun _=>by omega,by simp⟩
 rw[if_neg d] at h ⊢;by_cases a:(xs.getD 0 0).toNat<128
 ·rw[if_pos a] at h
  simp at h
 rw[if_neg a] at h ⊢;by_cases e:xs.length<5
 ·rw[if_pos e] at h
  simp at h
 rw[if_neg e] at h ⊢;by_cases f:((xs.getD 0 0).toNat-128)/32<2
 ·rw[if_pos f]
  simp only;exact⟨fun _=>by omega,fun _=>by omega⟩
 rw[if_neg f] at h ⊢;by_cases g:xs.length<6
 ·rw[if_pos g] at h
  simp at h
 rw[if_neg g] at h ⊢;by_cases i:St.bytePropsOk (xs.getD 5 0).toNat=true
 ·rw[if_pos i]
  simp only;exact⟨fun _=>by omega,fun _=>by omega⟩
 ·rw[if_neg i] at h
  simp at h
structure NextOk(b:List UInt8)(s:Sr)(h:Head)(part:List UInt8)(fr:Nat)(s2:Sr):Prop where
 at2:s2.at'=fr+h.packed
 more:s.at'<fr
 le:s2.at'≤b.length
 plain:s2.plain=s.plain+h.size
 eq:part=(b.drop fr).take h.packed
 plen:part.length=h.packed
 kind:h.kind≤6
 size:h.size≤2097152
 packed:h.packed≤65536
 props:h.lc+h.lp≤4∧h.pb≤4
 one:3≤h.kind→1≤h.size
 now:s2.now<4
theorem nextP_ok{b:List UInt8}{packed size:Int}{s s2:Sr}{h:Head}{part:List UInt8}{fr:Nat}(p:s.now<4)(w:s.at'≤b.length)(e:nextP b packed size s=.ok (h,part,fr,s2)):NextOk b s h part fr s2:=by
 unfold nextP at e;split at e
 ·cases e
 ·split at e
  ·cases e
  ·rename_i hne
   split at e
   ·cases e
   ·rename_i k hk
    have d:=kindOf_lt (UInt8.toNat_lt _) hk;split at e
    ·cases e
    ·rename_i hmv
     split at e
     ·cases e
     ·split at e
      ·cases e
      ·rename_i hge
       split at e
       ·cases e
       ·split at e
        ·cases e
        ·rename_i hsh
         have a:(get ((b.drop s.at').take 6)).2.2=0:=by simpa using hge
         have c:=get_small ((b.drop s.at').take 6);have f:=get_le_len ((b.drop s.at').take 6) a;have j:=get_pos ((b.drop s.at').take 6) a;have i:=get_sizes ((b.drop s.at').take 6) a;rw[List.length_take,List.length_drop] at f;generalize get ((b.drop s.at').take 6)=g at*;obtain⟨⟨r,v,u,l,m,n⟩,t,q⟩:=g;simp only[Except.ok.injEq,Prod.mk.injEq] at e c f j i hsh;obtain⟨rfl,rfl,rfl,rfl⟩:=e;have o:=move_le ⟨s.now,p⟩ ⟨k,d⟩;simp only at o;refine⟨rfl,by omega,by simp only;omega,rfl,rfl,?_,c.2.2.1,c.1,c.2.1,c.2.2.2.2,i.1,by simp only;omega⟩;rw[List.length_take,List.length_drop];simp only;omega
theorem nextP_err{b:List UInt8}{packed size:Int}{s:Sr}{p er:Nat}(e:nextP b packed size s=.error (p,er)):er≠0:=by
 unfold nextP at e;split at e
 ·cases e;decide
 ·split at e
  ·cases e;decide
  ·split at e
   ·cases e;decide
   ·split at e
    ·cases e;decide
    ·split at e
     ·cases e;decide
     ·split at e
      ·rename_i h
       cases e
       exact h
      ·split at e
       ·cases e;decide
       ·split at e
        ·cases e;decide
        ·cases e
end Ck
namespace Ck
open Mem Wire Win
def ownedU(t:TypeId):Prop:=t=185∨t=24∨t=118∨Lz.owned t∨t=22∨t=5
instance (t:TypeId):Decidable (ownedU t):=by unfold ownedU;infer_instance
theorem UAt.other{S:Nat→Prop}{w0 w w':World}{i c m g:Nat}{l:Lz.L}{o:Value}{u:US}(h:UAt w0 w i c m g l o u)(a:Fr S w w')(b:∀k cs t fr,w.heap[k]? =some (.cells cs t fr)→ownedU t→¬S k)(p:∀k,S k→6≤k):UAt w0 w' i c m g l o u:=by
 refine⟨a.keep h.d (b _ _ _ _ h.d (by decide)),a.keep h.pr (b _ _ _ _ h.pr (by decide)),a.keep h.f (b _ _ _ _ h.f (by decide)),h.dec.keep a (fun k f=> ?_),a.keep h.out (b _ _ _ _ h.out (by decide)),h.mine.step a (fun k f=> ?_),h.tabs.step a p,h.low,h.five,h.lows,h.ofs,h.prok,Nat.le_trans h.size a.size⟩
 ·rcases f with rfl|rfl|rfl|q|⟨j,n,rfl|rfl⟩
  ·exact b _ _ _ _ h.dec.d (by decide)
  ·exact b _ _ _ _ h.dec.tab.box (by decide)
  ·exact b _ _ _ _ h.dec.win.box (by decide)
  ·obtain⟨d,e⟩:=Lz.own_block h.dec.win.own q
   exact b _ _ _ _ e (by decide)
  ·obtain⟨_,_,_,s,_⟩:=h.dec.tab.set j n
   exact b _ _ _ _ s (by decide)
  ·obtain⟨_,_,r,_⟩:=h.dec.tab.set j n
   exact b _ _ _ _ r (by decide)
 ·obtain⟨d,e⟩:=Lz.own_block h.mine.own f
  exact b _ _ _ _ e (by decide)
theorem ug_off{w0 w:World}{n b o d:Nat}{l:Lz.L}{i:Value}{u:US}(h:UAt w0 w n b o d l i u){k:Nat}{j:Array Value}{t:TypeId}{fr:Nat×Nat}(a:w.heap[k]? =some (.cells j t fr))(c:¬ownedU t):¬UG b d l i k:=by
 have p:¬Lz.owned t:=fun e=>c (.inr (.inr (.inr (.inl e))));have f:t≠5:=fun e=>c (.inr (.inr (.inr (.inr (.inr e)))));rintro(e|e|e|e)
 ·rw[e,h.pr] at a
  simp only[Option.some.injEq,Obj.cells.injEq] at a;exact c (.inr (.inl a.2.1.symm))
 ·have g:=h.out
  unfold OutAt at g;rw[e,g] at a;simp only[Option.some.injEq,Obj.cells.injEq] at a;exact c (.inr (.inr (.inr (.inr (.inl a.2.1.symm)))))
 ·exact dec_off h.dec a p f e
 ·obtain⟨m,q⟩:=Lz.own_block h.mine.own e
  rw[q] at a;simp only[Option.some.injEq,Obj.cells.injEq] at a;exact f a.2.1.symm
theorem readP_succ(b:List UInt8)(packed size:Int)(f:Nat)(s:Sr)(u:US):readP b packed size (f+1) s u=
 if s.now=3 then .ok (s.at',u)
 else match nextP b packed size s with
  |.error x=>.error x
  |.ok (h,part,fr,s2)=>match u.step h part with
    |none=>.error (fr,2)
    |some u2=>readP b packed size f s2 u2:=rfl
def ReadPost(w0 w:World)(dB prB fB Vb:Nat)(res:Except (Nat×Nat) (Nat×US))(e:Ending)(w':World):Prop:=
 Fr (fun k=>w0.heap.size≤k) w w'∧match res with
  |.error (p,er)=>er≠0∧e=.returned (.tuple #[.int .i64 p,.int .i64 er])
  |.ok (n,u2)=>e=.returned (.tuple #[.int .i64 n,.int .i64 0])∧∃l2 ov2,UAt w0 w' dB prB fB Vb l2 ov2 u2
structure RdL(b:List UInt8)(packed size:Int)(w0 w:World)(dB prB fB Vb Rb Ob:Nat)(bv:Value)(f0:Nat)(u0:US)(f:Nat)(wr:World)(s:Sr)(u:US)(l:Lz.L)(ov:Value):Prop where
 go:readP b packed size f0 ⟨0,0,0⟩ u0=readP b packed size f s u
 fuel:b.length-s.at'<f
 le:s.at'≤b.length
 now:s.now<4
 row:RowAt wr Rb bv s.at' s.plain packed size Ob
 ord:OrdAt wr Ob s.now
 U:UAt w0 wr dB prB fB Vb l ov u
 fr:Fr (fun k=>w0.heap.size≤k) w wr
 rd:Rd wr bv b
 mv:Moves wr
 bp:s.plain≤2097152*s.at'
 ba:u.c.all.length≤2097152*s.at'
 bo:u.out.length≤2097152*s.at'
end Ck
namespace Ck
open Mem Wire Win
def US.start(dict:Nat):US:=⟨⟨0,0,0,St.S.new,dict,[]⟩,Lz.fresh 0 0,(0,0,0),[]⟩
def unpackP(b:List UInt8)(dict packed size:Int):Except (Nat×Nat) (Nat×List UInt8):=
 if dict<1∨4294967295<dict∨packed< -1∨size< -1 then .error (0,7)
 else match readP b packed size (b.length+2) ⟨0,0,0⟩ (US.start dict.toNat) with
  |.error x=>.error x
  |.ok (n,u)=>.ok (n,u.out)
def UnpackPost(w0 w:World)(Vb:Nat)(res:Except (Nat×Nat) (Nat×List UInt8))(e:Ending)(w':World):Prop:=
 Fr (fun k=>w0.heap.size≤k) w w'∧match res with
  |.error (p,er)=>er≠0∧e=.returned (.tuple #[.int .i64 p,.int .i64 er])
  |.ok (n,out)=>e=.returned (.tuple #[.int .i64 n,.int .i64 0])∧∃ov,OutAt w' Vb ov∧Mine w0 w' ov out
set_option maxRecDepth 100000 in
def DecodePost(w:World)(res:Except (Nat×Nat) (Nat×List UInt8))(e:Ending)(w':World):Prop:=
 Fr (fun _=>False) w w'∧match res with
  |.error (p,er)=>er≠0∧e=.returned (.tuple #[.slice none 0 0,.int .i64 p,.int .i64 er])
  |.ok (n,out)=>∃v,e=.returned (.tuple #[v,.int .i64 n,.int .i64 0])∧Mine w w' v out
end Ck
namespace Ck
open Mem Wire Win
theorem unpack1_raw(w0 w:World)(d a e f:Nat)(l:Lz.L)(i:Value)(u:US)(j:UAt w0 w d a e f l i u)(h:Head)(r:h.kind≤2)(part:List UInt8)(pv:Value)(p:Rd w pv part)(c:0<part.length→∀k,pv.ownBlock=some k→k<w0.heap.size)(b:h.lc+h.lp≤4∧h.pb≤4)(q:3≤h.kind→1≤h.size∧h.size≤2097152)
 (o:part.length≤1099511627776)(m:u.c.all.length+part.length+h.size≤1152921504606840000)(n:u.out.length+part.length+h.size≤70368744177664):
 Calls Tryz.prog 93 #[.agg h.cells,pv,Lz.ptr d,Lz.ptr a,Lz.ptr e] w (UPost w0 w d a e f l i (u.step h part)):=by
 obtain g|g|g:h.kind=0∨h.kind=1∨h.kind=2:=by omega
 ·exact unpack1_k0 w0 w d a e f l i u j h g part pv p c b q o m n
 ·exact unpack1_k1 w0 w d a e f l i u j h g part pv p c b q o m n
 ·exact unpack1_k2 w0 w d a e f l i u j h g part pv p c b q o m n
theorem step_growR{w0 w:World}{c a d b:Nat}{l:Lz.L}{f:Value}{u u2:US}(g:UAt w0 w c a d b l f u){h:Head}{part:List UInt8}(i:h.kind≤2)(j:part.length≤65536)(e:u.step h part=some u2):
 u2.out.length≤u.out.length+2097152∧u2.c.all.length≤u.c.all.length+2097152:=by
 unfold US.step at e;split at e
 ·simp only[Option.some.injEq] at e
  subst e;simp only[US.raw,Lz.C.on,List.length_append];omega
 ·split at e
  ·simp only[Option.some.injEq] at e
   subst e;simp only[US.raw,US.clear,Lz.C.on,List.length_append,List.length_nil];omega
  ·omega
def RawRun(b:List UInt8)(packed size:Int):Nat→Sr→Prop
 |0,_=>True
 |f+1,s=>s.now=3∨(Raw b packed size s∧∀h part fr s2,nextP b packed size s=.ok (h,part,fr,s2)→h.kind≤2∧RawRun b packed size f s2)
def RdRelW(b:List UInt8)(packed size:Int)(w0 w:World)(dB prB fB Vb Rb Ob:Nat)(bv:Value)(f0:Nat)(u0:US)(f:Nat)(wr:World):Prop:=∃s u l ov,RdL b packed size w0 w dB prB fB Vb Rb Ob bv f0 u0 f wr s u l ov∧RawRun b packed size f s
set_option maxRecDepth 100000 in
theorem read_raw(b:List UInt8)(packed size:Int)(w0 w:World)(dB C fB Vb:Nat)(l:Lz.L)(ov bv:Value)(u:US)(hU:UAt w0 w dB C fB Vb l ov u)(hr:Rd w bv b)(b3:0<b.length→∀k,bv.ownBlock=some k→k<w0.heap.size)(hM:Moves w)(hb:b.length≤16777216)(d9:u.c.all.length=0)(e7:u.out.length=0)(b6:RawRun b packed size (b.length+2) ⟨0,0,0⟩):
 Calls Tryz.prog 52 #[bv,.int .i64 packed,.int .i64 size,.func (.func 93) #[] #[Lz.ptr dB,Lz.ptr C,Lz.ptr fB]] w (ReadPost w0 w dB C fB Vb (readP b packed size (b.length+2) ⟨0,0,0⟩ u)):=by
 obtain⟨P,O,rfl,Y,Z,a0⟩:=hr;have hr:Rd w (.slice P b.length O) b:=⟨P,O,rfl,Y,Z,a0⟩;clear Y Z a0;obtain⟨c0,K⟩:∃c0,c0=readP b packed size (b.length+2) ⟨0,0,0⟩ u:=⟨_,rfl⟩;rw[←K];have H:=Hd K;have HU:=Hd hU;have HR:=Hd hr;have a8:=Hd hM;have a5:=Hd b3;have a9:=Hd b6;have c9:=hU.size;have h5:=hU.five;clear K hU hr hM b3 b6;go_enter Tryz.func52,Tryz.ntmps52;go_wp2_with fail;refine(newOrder_calls _).mono ?_;rintro e w1 ⟨rfl,j,b0⟩;have B:=(R0 w1).alloc (.cells #[.slice P b.length O,.int .i64 0,.int .i64 0,.int .i64 packed,.int .i64 size,.pointer (some ⟨w.heap.size,0,none⟩)] 194);have b7:=heap_alloc_new w1 (.cells #[.slice P b.length O,.int .i64 0,.int .i64 0,.int .i64 packed,.int .i64 size,.pointer (some ⟨w.heap.size,0,none⟩)] 194);have e8:=j.size;have H0:=Hd (show RdRelW b packed size w0 w dB C fB Vb w1.heap.size w.heap.size (.slice P b.length O) (b.length+2) u (b.length+2) (w1.alloc (.cells #[.slice P b.length O,.int .i64 0,.int .i64 0,.int .i64 packed,.int .i64 size,.pointer (some ⟨w.heap.size,0,none⟩)] 194)) from
  ⟨⟨0,0,0⟩,u,l,ov,⟨rfl,by simp only;omega,Nat.zero_le _,by decide,b7,B.keep b0 (fun h=>h),(HU.out.keep j).keep B,(j.trans B).mono (fun _ _ h=>h.elim),HR.out.keep (j.trans B),a8.out.step (j.trans B) (fun _ h=>h.elim),by simp,by omega,by omega⟩,a9.out⟩)
 have d8:w0.heap.size≤w1.heap.size:=by omega
 have d7:w0.heap.size≤w.heap.size:=c9;clear j b0 B b7;go_wp2_with fail;generalize w1.heap.size=Rb at*;generalize w.heap.size=Ob at*;go_loopg [11] (b.length+2) (fun f _ wr=>RdRelW b packed size w0 w dB C fB Vb Rb Ob (.slice P b.length O) (b.length+2) u f wr);case atStart=>exact H0.out
 case round=>
  obtain⟨s,u1,l1,b9,D,b1⟩:=hrel;have G:=Hd D;have c5:wr.cell? ⟨Rb,5,none⟩=some (.pointer (some ⟨Ob,0,none⟩)):=cell_in D.row rfl;have c1:wr.cell? ⟨Rb,1,none⟩=some (.int .i64 s.at'):=cell_in D.row rfl;have b4:=D.le;have e3:=D.fuel;have a1:=D.now;have e2:=D.bp;have e0:=D.ba;have e1:=D.bo;obtain⟨f,rfl⟩:∃f,gk=f+1:=⟨gk-1,by omega⟩;have E:=Hd (ended_calls Ob s.now wr D.ord);have a7:=Hd (D.go.trans (readP_succ b packed size f s u1));have c6:=Hd (show s.now=3∨(Raw b packed size s∧∀h part fr s2,nextP b packed size s=.ok (h,part,fr,s2)→h.kind≤2∧RawRun b packed size f s2) from b1);clear b1;clear D;by_cases Q:s.now=3
  ·rw[decide_eq_true Q] at E
   have a:=Hd (a7.out.trans (if_pos Q));clear Q;go_wp2_with fail;refine E.out.mono ?_;rintro e M ⟨rfl,rfl⟩;go_wp2_with fail;go_ret2;rw[H.out,a.out];exact⟨G.out.fr,rfl,l1,b9,G.out.U⟩
  ·rw[decide_eq_false Q] at E
   have a:=Hd (a7.out.trans (if_neg Q));have W:=Hd (c6.out.resolve_left Q);clear Q;have o:=Hd (next_raw Rb Ob (.slice P b.length O) b packed size s wr G.out.row G.out.ord G.out.rd G.out.mv ⟨by omega,by omega⟩ a1 b4 (by omega) (by omega) W.out.1);unfold NextPost at o;have z:=fun p er=>nextP_err (b:=b) (packed:=packed) (size:=size) (s:=s) (p:=p) (er:=er);have I:=fun h part fr s2=>nextP_ok (b:=b) (packed:=packed) (size:=size) (s:=s) (s2:=s2) (h:=h) (part:=part) (fr:=fr) a1 b4;cases hnx:nextP b packed size s with
   |error x=>
     obtain⟨p,er⟩:=x;have S:=z p er hnx;rw[hnx] at o a;simp only at o;have e6:((er:Int) !=0)=true:=by simp[S]
     have d4:((er:Int)==0)=false:=by simp[S]
     have c2:=Hd S;clear z I hnx S;go_wp2_with fail;refine E.out.mono ?_;rintro e M ⟨rfl,rfl⟩;go_wp2_with fail;refine o.out.mono ?_;rintro e M ⟨m,rfl⟩;have HF:=Hd (G.out.fr.trans (m.mono (T:=fun k=>w0.heap.size≤k) (fun i _ hi=>by rcases hi with hi|hi<;>omega)));clear m;unfold Head.none Head.cells;go_wp2_with fail;go_ret2;rw[H.out,a.out];exact⟨HF.out.alloc _,c2.out,rfl⟩
   |ok x=>
     obtain⟨h,part,fr,s2⟩:=x;have b5:=I h part fr s2 hnx;have a3:=Hd (W.out.2 h part fr s2 hnx);rw[hnx] at o a;simp only at o a;have d:=Hd b5;clear z I hnx b5;go_wp2_with fail;refine E.out.mono ?_;rintro e M ⟨rfl,rfl⟩;go_wp2_with fail;refine o.out.mono ?_;rintro e M ⟨m,q,c,rfl,a2,c8,L,J⟩;have R:=G.out.U.other m (fun k cs t fr hk ht hS=>by
      rcases hS with hS|hS
      ·have X:=G.out.row
       unfold RowAt at X;rw[hS,X] at hk;simp only[Option.some.injEq,Obj.cells.injEq] at hk;exact absurd (hk.2.1 ▸ ht) (by decide)
      ·have X:=G.out.ord
       unfold OrdAt at X;rw[hS,X] at hk;simp only[Option.some.injEq,Obj.cells.injEq] at hk;exact absurd (hk.2.1 ▸ ht) (by decide)) (fun k hS=>by rcases hS with hS|hS<;>omega)
     have y:=(R0 M).alloc (.cells h.cells 47);have b8:=heap_alloc_new M (.cells h.cells 47);have a4:part.length≤65536:=by have X:=d.out.plen;have h2:=d.out.packed;omega
     have d1:=d.out.more;have d3:=d.out.le;have d2:=d.out.at2;have d5:=d.out.size;have r:=Hd (unpack1_raw w0 _ dB C fB Vb l1 b9 u1 (R.keep y) h a3.out.1 part (.slice q part.length c) (a2.keep y) (fun h0 k hk=>by
      have X:=c8 k hk;refine a5.out (by omega) k X) d.out.props (fun Q=>⟨d.out.one Q,d.out.size⟩) (by omega) (by omega) (by omega))
     have n:=Hd (fun u2 e=>step_growR R (u2:=u2) a3.out.1 a4 e);have a6:=Hd ((G.out.fr.trans (m.mono (T:=fun k=>w0.heap.size≤k) (fun i _ hi=>by rcases hi with hi|hi<;>omega))).trans (y.mono (fun _ _ h=>h.elim)));have V:=Hd (show RowAt (M.alloc (.cells h.cells 47)) Rb (.slice P b.length O) s2.at' s2.plain packed size Ob from y.keep L (fun h=>h));have U:=Hd (show OrdAt (M.alloc (.cells h.cells 47)) Ob s2.now from y.keep J (fun h=>h));have N:=Hd (R.keep y);have A:∀i v,h.cells[i]? =some v→(M.alloc (.cells h.cells 47)).cell? ⟨M.heap.size,i,none⟩=some v:=fun i v hv=>cell_in b8 hv;have x0:=A 0 (.int .i64 h.kind) rfl;have x1:=A 1 (.int .i64 h.size) rfl;have x2:=A 2 (.int .i64 h.packed) rfl;have x3:=A 3 (.int .i64 h.lc) rfl;have x4:=A 4 (.int .i64 h.lp) rfl;have x5:=A 5 (.int .i64 h.pb) rfl;have d6:=Hd a4;clear m a2 L J R y b8 A a4;unfold UPost at r;cases hst:u1.step h part with
     |none=>
       rw[hst] at r a;simp only at r a;clear hst n;unfold Head.cells at*;go_wp2_with fail;refine r.out.mono ?_;rintro e w4 ⟨g,rfl⟩;have F:=Hd (a6.out.trans (g.mono (fun i _ hi=>UG_low N.out i hi)));clear g;go_wp2_with fail;go_ret2;rw[H.out,a.out];exact⟨F.out,by decide,rfl⟩
     |some u2=>
       have e5:=n.out u2 hst;rw[hst] at r a;simp only at r a;clear hst n;unfold Head.cells at*;go_wp2_with fail;refine r.out.mono ?_;rintro e w4 ⟨g,rfl,l4,d0,b2,_,_⟩;have F:=Hd (a6.out.trans (g.mono (fun i _ hi=>UG_low N.out i hi)));have c4:=Hd (g.keep V.out (ug_off N.out V.out (by decide)));have c3:=Hd (g.keep U.out (ug_off N.out U.out (by decide)));have c7:=Hd b2;clear g b2 x0 x1 x2 x3 x4 x5;go_wp2_with fail;go_roundg f;case rel=>
        refine⟨s2,u2,l4,d0,⟨a.out,by omega,by omega,d.out.now,c4.out,c3.out,c7.out,F.out,rd_step1 HR.out F.out (fun h0 k hk e4=> ?_),a8.out.step F.out (fun k hk=>by omega),?_,by omega,by omega⟩,a3.out.2⟩
        ·have:=a5.out h0 k hk
         omega
        ·have:=d.out.plain
         omega
       case measure=>omega
set_option maxRecDepth 100000 in
theorem unpack_raw(b:List UInt8)(dict packed size:Int)(w0 w:World)(v:Nat)(Z:Value)(hO:OutAt w v (.slice none 0 0))(hV:w0.heap.size≤v)(h0:w0.heap.size≤w.heap.size)(hT:St.Tabs w)(a0:6≤w0.heap.size)(Q:Rd w Z b)(I:0<b.length→∀k,Z.ownBlock=some k→k<w0.heap.size)(hM:Moves w)(hb:b.length≤16777216)(a1:RawRun b packed size (b.length+2) ⟨0,0,0⟩):
 Calls Tryz.prog 50 #[Z,.int .i64 dict,.int .i64 packed,.int .i64 size,.func (.func 51) #[] #[Lz.ptr v]] w (UnpackPost w0 w v (unpackP b dict packed size)):=by
 have a5:∀(fn:Fn)(first cap:Array Value)(w:World),(Instr.makeFunc fn first cap).run Tryz.prog w=.ok (.func fn first cap) w:=fun _ _ _ _=>rfl;obtain⟨P,o⟩:∃P,P=unpackP b dict packed size:=⟨_,rfl⟩;rw[←o];unfold unpackP at o;obtain⟨Y,X,rfl,z,A,B⟩:=Q;have Q:Rd w (.slice Y b.length X) b:=⟨Y,X,rfl,z,A,B⟩;clear z A B;have L:=(R0 w).alloc (.cells #[.func (.func 51) #[] #[Lz.ptr v]] 118);have O:=heap_alloc_new w (.cells #[.func (.func 51) #[] #[Lz.ptr v]] 118);have C:=Hd L;have V:=Hd O;have HR:=Hd Q;have HO:=Hd hO;have HT:=Hd hT;have HM:=Hd hM;have j:=Hd o;have R:=Hd I;clear L O Q hO hT hM o I;by_cases J:dict<1∨4294967295<dict
 ·have U:=fun W=>Hd (Lz.dnew_out dict W J)
  have a:=Hd (j.out.trans (if_pos (by rcases J with h|h;exact .inl h;exact .inr (.inl h))));clear J;go_enter Tryz.func50,Tryz.ntmps50;go_wp2_with fail;refine(U _).out.mono ?_;rintro e s ⟨d,rfl⟩;have F:=Hd (C.out.trans d);clear d;go_wp2_with fail;go_ret2;rw[a.out];exact⟨(F.out.alloc _).mono (fun _ _ h=>h.elim),by decide,rfl⟩
 ·obtain⟨y,rfl⟩:∃y:Nat,dict=y:=⟨dict.toNat,by omega⟩
  have U:=fun W=>Hd (Lz.dnew_in y W (by omega) (by omega));go_enter Tryz.func50,Tryz.ntmps50;go_wp2_with fail;refine(U _).out.mono ?_;rintro e s ⟨d,l,rfl,m,g⟩;have q:=(R0 s).alloc (.cells #[Lz.ptr l.D] 185);have t:=heap_alloc_new s (.cells #[Lz.ptr l.D] 185);have a2:=C.out.size;have a3:=d.size;have F:=Hd ((C.out.trans d).trans q);by_cases M:packed< -1
  ·have a:=Hd (j.out.trans (if_pos (.inr (.inr (.inl M)))))
   clear d m g q t;go_wp2_with fail;go_ret2;rw[a.out];exact⟨F.out.mono (fun _ _ h=>h.elim),by decide,rfl⟩
  ·by_cases N:size< -1
   ·have a:=Hd (j.out.trans (if_pos (.inr (.inr (.inr N)))))
    clear d m g q t;go_wp2_with fail;go_ret2;rw[a.out];exact⟨F.out.mono (fun _ _ h=>h.elim),by decide,rfl⟩
   ·have a:=Hd (j.out.trans (if_neg (show¬((y:Int)<1∨4294967295<(y:Int)∨packed< -1∨size< -1) from fun h=>by
     rcases h with h|h|h|h
     ·exact J (.inl h)
     ·exact J (.inr h)
     ·exact M h
     ·exact N h)))
    rw[Int.toNat_natCast] at a;have r:=(R0 (s.alloc (.cells #[Lz.ptr l.D] 185))).alloc (.cells #[.int .i64 0,.int .i64 0,.int .i64 0] 24);have E:=heap_alloc_new (s.alloc (.cells #[Lz.ptr l.D] 185)) (.cells #[.int .i64 0,.int .i64 0,.int .i64 0] 24);simp only[World.size_alloc] at E a2 a3 g;have c:=(F.out).trans r;have hU:UAt w0 ((s.alloc (.cells #[Lz.ptr l.D] 185)).alloc (.cells #[.int .i64 0,.int .i64 0,.int .i64 0] 24)) s.heap.size (s.heap.size+1) w.heap.size v l (.slice none 0 0) (US.start y):=by
     refine⟨r.keep t (fun h=>h),E,r.keep (q.keep (d.keep V.out (fun h=>h)) (fun h=>h)) (fun h=>h),(m.keep0 q).keep0 r,c.keep HO.out (fun h=>h),Mine.nil _ _,HT.out.keep c,fun k hk=> ?_,a0,⟨by omega,by omega,h0,hV⟩,fun k hk=>by simp[Value.ownBlock] at hk,by simp[US.start],Nat.le_trans h0 c.size⟩;have:=g k hk;omega
    have i:=Hd (read_raw b packed size w0 _ s.heap.size (s.heap.size+1) w.heap.size v l (.slice none 0 0) (.slice Y b.length X) (US.start y) hU (HR.out.keep c) R.out (HM.out.step c (fun _ h=>h.elim)) hb rfl rfl a1);have u:=Hd c;clear d m g q t r E c hU;unfold ReadPost at i;cases hrp:readP b packed size (b.length+2) ⟨0,0,0⟩ (US.start y) with
    |error x=>
      obtain⟨p,er⟩:=x;rw[hrp] at i a;simp only at i a;clear hrp;go_wp2_with fail;refine i.out.mono ?_;rintro e w5 ⟨f,K,rfl⟩;have D:=Hd ((u.out.mono (T:=fun k=>w0.heap.size≤k) (fun _ _ h=>h.elim)).trans f);have S:=Hd K;clear f K;go_wp2_with fail;go_ret2;rw[a.out];exact⟨D.out,S.out,rfl⟩
    |ok x=>
      obtain⟨n,u2⟩:=x;rw[hrp] at i a;simp only at i a;clear hrp;go_wp2_with fail;refine i.out.mono ?_;rintro e w5 ⟨f,rfl,l2,a4,H⟩;have D:=Hd ((u.out.mono (T:=fun k=>w0.heap.size≤k) (fun _ _ h=>h.elim)).trans f);have G:=Hd H;clear f H;go_wp2_with fail;go_ret2;rw[a.out];exact⟨D.out,rfl,a4,G.out.out,G.out.mine⟩
set_option maxRecDepth 100000 in
theorem decode_raw(b:List UInt8)(dict packed size:Int)(w:World)(A:Value)(y:St.Tabs w)(q:Rd w A b)(o:Moves w)(E:b.length≤16777216)(z:RawRun b packed size (b.length+2) ⟨0,0,0⟩):
 Calls Tryz.prog 15 #[A,.int .i64 dict,.int .i64 packed,.int .i64 size] w (DecodePost w (unpackP b dict packed size)):=by
 have F:∀(fn:Fn)(first cap:Array Value)(w:World),(Instr.makeFunc fn first cap).run Tryz.prog w=.ok (.func fn first cap) w:=fun _ _ _ _=>rfl;obtain⟨v,u,rfl,f,g,j⟩:=q;have q:Rd w (.slice v b.length u) b:=⟨v,u,rfl,f,g,j⟩;clear f g j;have c:=(R0 w).alloc (.cells #[.slice none 0 0] 22);have r:=heap_alloc_new w (.cells #[.slice none 0 0] 22);have a:=Hd (unpack_raw b dict packed size w _ w.heap.size (.slice v b.length u) r (Nat.le_refl _) c.size (y.keep c) y.size (q.keep c) (fun h0 k hk=>rd_lt q h0 k hk) (o.step c (fun _ h=>h.elim)) E z);have m:=Hd c;clear c r y q o;unfold UnpackPost at a;unfold DecodePost;cases hup:unpackP b dict packed size with
 |error x=>
   obtain⟨p,D⟩:=x;rw[hup] at a;simp only at a;clear hup;go_enter Tryz.func15,Tryz.ntmps15;go_wp2_with fail;refine a.out.mono ?_;rintro e I ⟨d,l,rfl⟩;have t:=Hd (m.out.trans' d (fun i hi(h:w.heap.size≤i)=>by omega));have G:((D:Int) !=0)=true:=by simp[l]
   have s:=Hd l;clear d l;go_wp2_with fail;go_ret3;exact⟨t.out,s.out,rfl⟩
 |ok x=>
   obtain⟨n,H⟩:=x;rw[hup] at a;simp only at a;clear hup;go_enter Tryz.func15,Tryz.ntmps15;go_wp2_with fail;refine a.out.mono ?_;rintro e I ⟨d,rfl,K,B,o⟩;have t:=Hd (m.out.trans' d (fun i hi(h:w.heap.size≤i)=>by omega));have J:=cell_in (i:=0) B rfl;have C:=Hd o;clear d B o;go_wp2_with fail;go_ret3;exact⟨t.out,_,rfl,C.out⟩
end Ck
end Go.Proofs.YtffoddpjfgjelaaGreatDoor
