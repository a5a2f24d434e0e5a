/- Part 10 of 54: lemmas of the last part, each under the conditions that it names. -/
import Derived.Test.YtffoddpjfgjelaaGreatDoorK08
import Derived.Test.YtffoddpjfgjelaaGreatDoorK09
set_option linter.unusedVariables false
set_option linter.unusedSimpArgs false
set_option maxRecDepth 1500
namespace Go.Proofs.YtffoddpjfgjelaaGreatDoor
namespace Px
open St
def rn(D:List UInt8)(tp dict p d:Nat):Nat:=if 1≤d∧d≤p∧d≤dict then run D p d (min 273 (tp-p)) else 0
def repB(f:Nat→Nat)(s:S):Nat×Nat:=
 let one:=fun(b:Nat×Nat)(d i:Nat)=>if 2≤f d∧b.1<f d then(f d,i) else b
 one (one (one (one (0,0) s.r0 0) s.r1 1) s.r2 2) s.r3 3
def bestM(l:List (Nat×Nat)):Nat×Nat:=l.foldl (fun b m=>if b.1<m.1 then m else b) (0,0)
theorem bestM_snoc(l:List (Nat×Nat))(m:Nat×Nat):bestM (l++[m])=if(bestM l).1<m.1 then m else bestM l:=by
 unfold bestM;rw[List.foldl_append];rfl
def first(D:List UInt8)(tp dict p:Nat)(s:S):Sy:=
 if(repB (rn D tp dict p) s).1≠0∧(bestM (mts D tp dict p)).1≤(repB (rn D tp dict p) s).1+1 then⟨3,0,(repB (rn D tp dict p) s).1,(repB (rn D tp dict p) s).2⟩
 else if(bestM (mts D tp dict p)).1≠0 then⟨2,0,(bestM (mts D tp dict p)).1,(bestM (mts D tp dict p)).2⟩
 else if 0<rn D tp dict p s.r0 then⟨4,0,0,0⟩
 else⟨1,(D.getD p 0).toNat,0,0⟩
def Greedy(D:List UInt8)(tp dict:Nat):List Sy→Nat→S→Nat→S→Prop
 |[],p,s,q,t=>q=p∧t=s
 |y::l,p,s,q,t=>p<tp∧y=first D tp dict p s∧Greedy D tp dict l (p+max 1 y.len) (s.next y).2 q t
theorem Greedy.snoc{D:List UInt8}{tp dict:Nat}:∀{l:List Sy}{p q:Nat}{s t:S},Greedy D tp dict l p s q t→q<tp→Greedy D tp dict (l++[first D tp dict q t]) p s (q+max 1 (first D tp dict q t).len) (t.next (first D tp dict q t)).2
 |[],p,q,s,t,⟨h1,h2⟩,hq=>by subst h1 h2;exact⟨hq,rfl,rfl,rfl⟩
 |z::l,p,q,s,t,⟨h1,h2,h3⟩,hq=>⟨h1,h2,h3.snoc hq⟩
theorem Greedy.uniq{D:List UInt8}{tp dict:Nat}:∀{l m:List Sy}{p q a:Nat}{s t b:S},Greedy D tp dict l p s q t→Greedy D tp dict m p s a b→tp≤q→tp≤a→l=m∧t=b
 |[],[],p,q,a,s,t,b,⟨h1,h2⟩,⟨h3,h4⟩,_,_=>by subst h2 h4;exact⟨rfl,rfl⟩
 |[],z::m,p,q,a,s,t,b,⟨h1,h2⟩,⟨h3,_,_⟩,hq,_=>by omega
 |y::l,[],p,q,a,s,t,b,⟨h1,_,_⟩,⟨h3,_⟩,_,hq'=>by omega
 |y::l,z::m,p,q,a,s,t,b,⟨_,ey,h1⟩,⟨_,ez,h2⟩,hq,hq'=>by
   subst ey ez;obtain⟨c,d⟩:=Greedy.uniq h1 h2 hq hq';exact⟨by rw[c],d⟩
def behind(l:List Stp)(n:Nat):Nat:=((l[n-1]?).map (·.c)).getD 0
def Plan(D:List UInt8)(tp dict:Nat):List Stp→Prop
 |[]=>True
 |y::l=>IsBest (mts D tp dict (tp-(l.length+1))) (behind l) y∧Plan D tp dict l
theorem Plan.uniq{D:List UInt8}{tp dict:Nat}:∀{l m:List Stp},Plan D tp dict l→Plan D tp dict m→l.length=m.length→l=m
 |[],[],_,_,_=>rfl
 |[],z::m,_,_,h=>by simp at h
 |y::l,[],_,_,h=>by simp at h
 |y::l,z::m,⟨h1,h2⟩,⟨h3,h4⟩,h=>by
   have e:=Plan.uniq h2 h4 (by simpa using h);subst e;rw[h1.uniq h3]
def named(D:List UInt8)(tp dict p:Nat)(y:Stp)(s:S):Sy:=
 if y.n=1 then(if 0<rn D tp dict p s.r0 then⟨4,0,0,0⟩ else⟨1,(D.getD p 0).toNat,0,0⟩)
 else if s.r0=y.d then⟨3,0,y.n,0⟩ else if s.r1=y.d then⟨3,0,y.n,1⟩ else if s.r2=y.d then⟨3,0,y.n,2⟩ else if s.r3=y.d then⟨3,0,y.n,3⟩
 else⟨2,0,y.n,y.d⟩
def Cheap(D:List UInt8)(tp dict fm:Nat)(pl:List Stp):List Sy→Nat→S→Nat→S→Prop
 |[],p,s,q,t=>q=p∧t=s
 |y::l,p,s,q,t=>p<tp∧∃z,pl[p-fm]? =some z∧y=named D tp dict p z s∧Cheap D tp dict fm pl l (p+z.n) (s.next y).2 q t
theorem Cheap.snoc{D:List UInt8}{tp dict a:Nat}{b:List Stp}{z:Stp}:∀{l:List Sy}{p q:Nat}{s t:S},Cheap D tp dict a b l p s q t→q<tp→b[q-a]? =some z→Cheap D tp dict a b (l++[named D tp dict q z t]) p s (q+z.n) (t.next (named D tp dict q z t)).2
 |[],p,q,s,t,⟨h1,h2⟩,hq,hz=>by subst h1 h2;exact⟨hq,z,hz,rfl,rfl,rfl⟩
 |_::l,p,q,s,t,⟨h1,x,h2,h3,h4⟩,hq,hz=>⟨h1,x,h2,h3,h4.snoc hq hz⟩
theorem Cheap.uniq{D:List UInt8}{tp dict c:Nat}{d:List Stp}:∀{l m:List Sy}{p q a:Nat}{s t b:S},Cheap D tp dict c d l p s q t→Cheap D tp dict c d m p s a b→tp≤q→tp≤a→l=m∧t=b
 |[],[],p,q,a,s,t,b,⟨h1,h2⟩,⟨h3,h4⟩,_,_=>by subst h2 h4;exact⟨rfl,rfl⟩
 |[],z::m,p,q,a,s,t,b,⟨h1,h2⟩,⟨h3,_⟩,hq,_=>by omega
 |y::l,[],p,q,a,s,t,b,⟨h1,_⟩,⟨h3,_⟩,_,hq'=>by omega
 |y::l,z::m,p,q,a,s,t,b,⟨_,x,hx,ey,h1⟩,⟨_,x',hx',ez,h2⟩,hq,hq'=>by
   obtain rfl:x=x':=Option.some.inj (hx.symm.trans hx');subst ey ez;obtain⟨e,f⟩:=Cheap.uniq h1 h2 hq hq';exact⟨by rw[e],f⟩
end Px
namespace Px
def upS(s:List (Nat×Nat)×Nat)(x:Nat×Nat):List (Nat×Nat)×Nat:=if s.2<x.1 then(s.1++[x],x.1) else s
def up(l:List (Nat×Nat)):List (Nat×Nat)×Nat:=l.foldl upS ([],0)
theorem up_snoc(l:List (Nat×Nat))(x:Nat×Nat):up (l++[x])=if(up l).2<x.1 then((up l).1++[x],x.1) else up l:=by
 unfold up;rw[List.foldl_append];rfl
end Px
namespace Px
def Rises(l:List (Nat×Nat)):Prop:=l.Pairwise (fun a b=>a.2<b.2)
structure UpI(pre:List (Nat×Nat))(s:List (Nat×Nat)×Nat):Prop where
 sub:∀x ∈ s.1,x ∈ pre
 top:∀x ∈ pre,x.1≤s.2
 le:∀x ∈ s.1,x.1≤s.2
 ex:s.2=0∨∃x ∈ s.1,x.1=s.2
 cov:∀x ∈ pre,1≤x.1→∃y ∈ s.1,x.1≤y.1∧y.2≤x.2
 pw:s.1.Pairwise (fun a b=>a.1<b.1∧a.2<b.2)
theorem UpI.step{d:List (Nat×Nat)}{s:List (Nat×Nat)×Nat}{x:Nat×Nat}(h:UpI d s)(k:∀y ∈ d,y.2<x.2):UpI (d++[x]) (upS s x):=by
 unfold upS;by_cases f:s.2<x.1
 ·rw[if_pos f]
  refine⟨fun y c=> ?_,fun y c=> ?_,fun y c=> ?_,.inr ⟨x,by simp,rfl⟩,fun y c i=> ?_,?_⟩
  ·rcases List.mem_append.1 c with c|c
   ·exact List.mem_append.2 (.inl (h.sub y c))
   ·exact List.mem_append.2 (.inr c)
  ·rcases List.mem_append.1 c with c|c
   ·exact Nat.le_trans (h.top y c) (Nat.le_of_lt f)
   ·rw[List.mem_singleton.1 c]
    exact Nat.le_refl _
  ·rcases List.mem_append.1 c with c|c
   ·exact Nat.le_trans (h.le y c) (Nat.le_of_lt f)
   ·rw[List.mem_singleton.1 c]
    exact Nat.le_refl _
  ·rcases List.mem_append.1 c with c|c
   ·obtain⟨z,g,l,m⟩:=h.cov y c i
    exact⟨z,List.mem_append.2 (.inl g),l,m⟩
   ·rw[List.mem_singleton.1 c]
    exact⟨x,by simp,Nat.le_refl _,Nat.le_refl _⟩
  ·rw[List.pairwise_append]
   refine⟨h.pw,List.pairwise_singleton _ _,fun a j b n=> ?_⟩;rw[List.mem_singleton.1 n];exact⟨Nat.lt_of_le_of_lt (h.le a j) f,k a (h.sub a j)⟩
 ·rw[if_neg f]
  refine⟨fun y c=>List.mem_append.2 (.inl (h.sub y c)),fun y c=> ?_,h.le,h.ex,fun y c i=> ?_,h.pw⟩
  ·rcases List.mem_append.1 c with c|c
   ·exact h.top y c
   ·rw[List.mem_singleton.1 c]
    omega
  ·rcases List.mem_append.1 c with c|c
   ·exact h.cov y c i
   ·obtain rfl:=List.mem_singleton.1 c
    rcases h.ex with e|⟨z,g,e⟩
    ·omega
    ·exact⟨z,g,by omega,Nat.le_of_lt (k z (h.sub z g))⟩
theorem up_go:∀(l a:List (Nat×Nat))(s:List (Nat×Nat)×Nat),UpI a s→Rises (a++l)→UpI (a++l) (l.foldl upS s)
 |[],a,s,h,_=>by simpa using h
 |x::l,a,s,h,hr=>by
   have e:a++x::l=(a++[x])++l:=by simp
   rw[e] at hr ⊢;refine up_go l (a++[x]) (upS s x) (h.step fun y b=> ?_) hr;have:=(List.pairwise_append.1 (List.pairwise_append.1 hr).1).2.2;exact this y b x (List.mem_singleton.2 rfl)
theorem up_inv{l:List (Nat×Nat)}(a:Rises l):UpI l (up l):=
 up_go l [] ([],0) ⟨fun _ h=>absurd h (by simp),fun _ h=>absurd h (by simp),fun _ h=>absurd h (by simp),.inl rfl,fun _ h=>absurd h (by simp),List.Pairwise.nil⟩ a
theorem dists_rise(D:List UInt8)(dict p:Nat):(dists D dict p).Pairwise (·<·):=
 (List.Pairwise.filter _ List.pairwise_lt_range').sublist (List.take_sublist _ _)
theorem mts_rise(D:List UInt8)(tp dict p:Nat):Rises (mts D tp dict p):=by
 unfold mts Rises;split
 ·exact List.Pairwise.nil
 ·rw[List.pairwise_map]
  exact dists_rise D dict p
theorem first_at(m:Nat):∀l:List (Nat×Nat),(∃x ∈ l,m≤x.1)→∃i x,l[i]? =some x∧m≤x.1∧∀(j:Nat)(y:Nat×Nat),j<i→l[j]? =some y→y.1<m
 |[],⟨x,hx,_⟩=>absurd hx (by simp)
 |z::l,⟨x,hx,hm⟩=>by
   by_cases h:m≤z.1
   ·exact⟨0,z,rfl,h,fun j y c=>absurd c (Nat.not_lt_zero _)⟩
   ·have b:x ∈ l:=by
     rcases List.mem_cons.1 hx with e|e
     ·subst e
      exact absurd hm h
     ·exact e
    obtain⟨i,y,d,f,g⟩:=first_at m l ⟨x,b,hm⟩;refine⟨i+1,y,d,f,fun j w c a=> ?_⟩;rcases j with _|j
    ·simp only[List.getElem?_cons_zero,Option.some.injEq] at a
     subst a;omega
    ·exact g j w (by omega) a
structure BestTo(l:List (Nat×Nat))(b:Nat→Nat)(k n:Nat)(y:Stp):Prop where
 kn:∀(i:Nat)(x:Nat×Nat),l[i]? =some x→i<k→x.1<n
 cand:(y.n=1∧y.d=0∧y.c=9+b 1)∨(3≤y.n∧y.n<n∧(∃(i:Nat)(L:Nat),l[i]? =some (L,y.d)∧y.n≤L∧∀(j:Nat)(x:Nat×Nat),j<i→l[j]? =some x→x.1<y.n)∧y.c=price y.n y.d+b y.n)
 lit:y.c≤9+b 1
 least:∀(i L d m:Nat),l[i]? =some (L,d)→3≤m→m<n→m≤L→(∀(j:Nat)(x:Nat×Nat),j<i→l[j]? =some x→x.1<m)→y.c≤price m d+b m∧(y.c=price m d+b m→m≤y.n)
theorem BestTo.start(l:List (Nat×Nat))(b:Nat→Nat):BestTo l b 0 3 ⟨1,0,9+b 1⟩:=
 ⟨fun i x _ h=>absurd h (Nat.not_lt_zero _),.inl ⟨rfl,rfl,rfl⟩,Nat.le_refl _,fun i L d m _ a c=>by omega⟩
theorem BestTo.more{l:List (Nat×Nat)}{b:Nat→Nat}{k n:Nat}{y:Stp}{x:Nat×Nat}(h:BestTo l b k n y)(d:l[k]? =some x)(c:x.1<n):BestTo l b (k+1) n y:=
 ⟨fun i z a f=>by
  by_cases e:i=k
  ·subst e
   rw[d] at a;cases a
   exact c
  ·exact h.kn i z a (by omega),h.cand,h.lit,h.least⟩
theorem BestTo.take{l:List (Nat×Nat)}{b:Nat→Nat}{k n L d:Nat}{y:Stp}(h:BestTo l b k n y)(G:3≤n)(A:l[k]? =some (L,d))(H:n≤L):
 (price n d+b n≤y.c→BestTo l b k (n+1) ⟨n,d,price n d+b n⟩)∧(¬price n d+b n≤y.c→BestTo l b k (n+1) y):=by
 have u:∀(i g f m:Nat),l[i]? =some (g,f)→3≤m→m<n+1→m≤g→(∀(j:Nat)(x:Nat×Nat),j<i→l[j]? =some x→x.1<m)→(m<n∧y.c≤price m f+b m∧(y.c=price m f+b m→m≤y.n))∨(m=n∧f=d):=by
  intro i g f m a s v t p;by_cases e:m=n
  ·subst e
   refine .inr ⟨rfl,?_⟩;have q:¬i<k:=fun r=>by
    have:=h.kn i _ a r;simp only at this;omega
   have o:¬k<i:=fun r=>by
    have:=p k _ r A;simp only at this;omega
   obtain rfl:i=k:=by omega
   rw[A] at a;cases a
   rfl
  ·exact .inl ⟨by omega,h.least i g f m a s (by omega) t p⟩
 constructor
 ·intro w
  refine⟨fun i x a z=>Nat.lt_succ_of_lt (h.kn i x a z),.inr ⟨G,Nat.lt_succ_self n,⟨k,L,A,H,fun j x p B=>h.kn j x B p⟩,rfl⟩,Nat.le_trans w h.lit,fun i g f m a s v t p=> ?_⟩;rcases u i g f m a s v t p with⟨q,o,C⟩|⟨q,o⟩
  ·exact⟨Nat.le_trans w o,fun _=>Nat.le_of_lt q⟩
  ·subst q o
   exact⟨Nat.le_refl _,fun _=>Nat.le_refl _⟩
 ·intro w
  refine⟨fun i x a z=>Nat.lt_succ_of_lt (h.kn i x a z),?_,h.lit,fun i g f m a s v t p=> ?_⟩
  ·rcases h.cand with c|⟨D,I,E,F⟩
   ·exact .inl c
   ·exact .inr ⟨D,by omega,E,F⟩
  ·rcases u i g f m a s v t p with⟨q,o,C⟩|⟨q,o⟩
   ·exact⟨o,C⟩
   ·subst q o
    exact⟨by omega,fun e=>by omega⟩
theorem price_mono{n a b:Nat}(h:a≤b):price n a≤price n b:=by
 have:=bits_mono h;unfold price;omega
theorem pw_get{l:List (Nat×Nat)}(h:l.Pairwise (fun a b=>a.1<b.1∧a.2<b.2)){i j:Nat}{x y:Nat×Nat}(f:l[i]? =some x)(k:l[j]? =some y)(g:i≤j):x.2≤y.2:=by
 obtain⟨c,rfl⟩:=List.getElem?_eq_some_iff.1 f;obtain⟨d,rfl⟩:=List.getElem?_eq_some_iff.1 k;by_cases e:i=j
 ·subst e
  exact Nat.le_refl _
 ·exact Nat.le_of_lt (List.pairwise_iff_getElem.1 h i j c d (by omega)).2
theorem BestTo.fin{w l:List (Nat×Nat)}{b:Nat→Nat}{n:Nat}{y:Stp}(W:Rises w)(I:l=(up w).1)(h:BestTo l b l.length n y):IsBest w b y:=by
 have U:=up_inv W;have Q:∀x ∈ l,x ∈ w:=by rw[I];exact U.sub
 have K:∀x ∈ w,1≤x.1→∃y ∈ l,x.1≤y.1∧y.2≤x.2:=by rw[I];exact U.cov
 have M:l.Pairwise (fun a b=>a.1<b.1∧a.2<b.2):=by rw[I];exact U.pw
 have A:∀L d m,(L,d) ∈ w→3≤m→m≤L→∃(i s t:Nat),l[i]? =some (s,t)∧m≤s∧t≤d∧m<n∧∀(j:Nat)(x:Nat×Nat),j<i→l[j]? =some x→x.1<m:=by
  intro L d m r o g;obtain⟨⟨C,S⟩,B,G,H⟩:=K (L,d) r (by show 1≤L;omega);simp only at G H;obtain⟨i,⟨J,P⟩,k,u,v⟩:=first_at m l ⟨(C,S),B,by show m≤C;omega⟩;obtain⟨j,z⟩:=List.mem_iff_getElem?.1 B;have q:i≤j:=by
   by_cases e:j<i
   ·have:=v j _ e z
    simp only at this;omega
   ·omega
  have p:=pw_get M k z q;have f:=h.kn i _ k (List.getElem?_eq_some_iff.1 k).1;simp only at u p f;exact⟨i,J,P,k,u,by omega,by omega,v⟩
 refine⟨?_,h.lit,fun L d m r o g=> ?_,fun L d m r o g V=> ?_,fun L d r o g V=> ?_⟩
 ·rcases h.cand with c|⟨N,R,⟨i,L,D,O,_⟩,E⟩
  ·exact .inl c
  ·exact .inr ⟨N,⟨L,Q _ (List.mem_of_getElem? D),O⟩,E⟩
 ·obtain⟨i,s,t,k,u,v,p,f⟩:=A L d m r o g
  have:=(h.least i s t m k o p u f).1;have:=price_mono (n:=m) v;omega
 ·obtain⟨i,s,t,k,u,v,p,f⟩:=A L d m r o g
  obtain⟨T,F⟩:=h.least i s t m k o p u f;have:=price_mono (n:=m) v;exact F (by omega)
 ·rcases h.cand with⟨c,_⟩|⟨N,R,⟨i,C,D,O,E⟩,X⟩
  ·omega
  ·obtain⟨⟨J,P⟩,B,G,H⟩:=K (L,d) r (by show 1≤L;omega)
   simp only at G H;obtain⟨j,z⟩:=List.mem_iff_getElem?.1 B;have q:i≤j:=by
    by_cases e:j<i
    ·have:=E j _ e z
     simp only at this;omega
    ·omega
   have p:=pw_get M D z q;simp only at p;omega
def Stp.sy(D:List UInt8)(p:Nat)(y:Stp):St.Sy:=if y.n=1 then⟨1,(D.getD p 0).toNat,0,0⟩ else⟨2,0,y.n,y.d⟩
theorem behind_cons(y:Stp)(l:List Stp)(n:Nat):behind (y::l) (n+1)=if n=0 then y.c else behind l n:=by
 unfold behind;rcases n with _|n
 ·rfl
 ·rfl
theorem Plan.cost{D:List UInt8}{tp dict:Nat}:∀{l:List Stp},Plan D tp dict l→∀n,behind l n≤9*l.length
 |[],_,n=>by simp[behind]
 |y::l,⟨h1,h2⟩,n=>by
   have a:=Plan.cost h2;have b:=h1.lit;have c:=a 1;rw[List.length_cons];rcases n with _|n
   ·show((y::l)[0-1]?.map (·.c)).getD 0≤_
    show y.c≤_;omega
   ·rw[behind_cons]
    split
    ·omega
    ·have:=a n
     omega
end Px
namespace Px
open St
theorem run_le(D:List UInt8)(p d most:Nat):run D p d most≤most:=(run_is D p d most).le
theorem run_three{D:List UInt8}{p d most:Nat}(h:same3 D p d=true)(i:3≤most):3≤run D p d most:=by
 have g:=run_is D p d most;by_cases f:run D p d most<3
 ·exfalso
  have a:=g.ne (by omega);unfold same3 at h;simp only[Bool.and_eq_true,decide_eq_true_eq] at h;obtain⟨b,c,e⟩:=h;generalize run D p d most=n at*;obtain rfl|rfl|rfl:n=0∨n=1∨n=2:=by omega
  ·exact a b
  ·exact a c
  ·exact a e
 ·omega
theorem mts_mem{D:List UInt8}{tp dict p L d:Nat}(h:(L,d) ∈ mts D tp dict p):3≤L∧L≤273∧1≤d∧d≤p∧d≤dict:=by
 unfold mts at h;split at h
 ·simp at h
 ·rename_i hm
  obtain⟨b,f,a⟩:=List.mem_map.1 h;simp only[Prod.mk.injEq] at a;obtain⟨rfl,rfl⟩:=a;obtain⟨c,e⟩:=List.mem_filter.1 (List.mem_of_mem_take f);have g:=List.mem_range'_1.1 c;have:=run_three e (most:=min 273 (tp-p)) (by omega);have:=run_le D p b (min 273 (tp-p));omega
theorem bestM_go:∀(l:List (Nat×Nat))(b:Nat×Nat),l.foldl (fun b m=>if b.1<m.1 then m else b) b=b∨l.foldl (fun b m=>if b.1<m.1 then m else b) b ∈ l
 |[],b=>.inl rfl
 |x::l,b=>by
   rw[List.foldl_cons];rcases bestM_go l (if b.1<x.1 then x else b) with h|h
   ·rw[h]
    split
    ·exact .inr (List.mem_cons_self ..)
    ·exact .inl rfl
   ·exact .inr (List.mem_cons_of_mem _ h)
theorem bestM_mem(l:List (Nat×Nat))(h:(bestM l).1≠0):((bestM l).1,(bestM l).2) ∈ l:=by
 rcases bestM_go l (0,0) with e|e
 ·exact absurd (show(bestM l).1=0 by unfold bestM;rw[e]) h
 ·exact e
theorem rn_le(D:List UInt8)(tp dict p d:Nat):rn D tp dict p d≤273:=by
 unfold rn;split
 ·have:=run_le D p d (min 273 (tp-p))
  omega
 ·omega
theorem rn_dist{D:List UInt8}{tp dict p d:Nat}(h:rn D tp dict p d≠0):1≤d∧d≤p∧d≤dict:=by
 unfold rn at h;by_cases a:1≤d∧d≤p∧d≤dict
 ·exact a
 ·rw[if_neg a] at h
  exact absurd rfl h
theorem repB_spec(f:Nat→Nat)(s:S):(repB f s).1=0∨(2≤(repB f s).1∧(repB f s).2<4∧(repB f s).1=f (repAt s (repB f s).2)):=by
 have a:∀(b:Nat×Nat)(d i:Nat),i<4→repAt s i=d→(b.1=0∨(2≤b.1∧b.2<4∧b.1=f (repAt s b.2)))→
  ((if 2≤f d∧b.1<f d then(f d,i) else b).1=0∨(2≤(if 2≤f d∧b.1<f d then(f d,i) else b).1∧(if 2≤f d∧b.1<f d then(f d,i) else b).2<4∧(if 2≤f d∧b.1<f d then(f d,i) else b).1=f (repAt s (if 2≤f d∧b.1<f d then(f d,i) else b).2))):=by
  intro b d i g e c;split
  ·rename_i hc
   exact .inr ⟨hc.1,g,by show f d=f (repAt s i);rw[e]⟩
  ·exact c
 unfold repB;exact a _ _ 3 (by decide) rfl (a _ _ 2 (by decide) rfl (a _ _ 1 (by decide) rfl (a _ _ 0 (by decide) rfl (.inl rfl))))
theorem next_lit(s:S)(b:Nat):(s.next ⟨1,b,0,0⟩).1=0:=rfl
theorem next_short(s:S):(s.next ⟨4,0,0,0⟩).1=0:=rfl
theorem next_rep(s:S){n i:Nat}(a:2≤n)(b:n≤273):(s.next ⟨3,0,n,i⟩).1=0:=by
 unfold S.next;rw[if_neg (show¬(3:Nat)=1 by decide),if_neg (show¬(3:Nat)=4 by decide),if_neg (show¬(3:Nat)=2 by decide),if_pos (show isL n from⟨a,b⟩)]
theorem next_match(s:S){n d:Nat}(a:2≤n)(b:n≤273)(c:1≤d)(e:d≤4294967295):(s.next ⟨2,0,n,d⟩).1=0:=by
 unfold S.next;rw[if_neg (show¬(2:Nat)=1 by decide),if_neg (show¬(2:Nat)=4 by decide),if_pos rfl,if_pos (show isL n from⟨a,b⟩),if_pos (show isD d from⟨c,e⟩)]
theorem first_next(D:List UInt8)(tp dict p:Nat)(s:S)(d:dict≤4294967295):(s.next (first D tp dict p s)).1=0:=by
 unfold first;split
 ·rename_i hc
  rcases repB_spec (rn D tp dict p) s with h|⟨a,c,b⟩
  ·exact absurd h hc.1
  ·exact next_rep s a (b ▸ rn_le D tp dict p _)
 ·split
  ·rename_i hc
   have:=mts_mem (bestM_mem _ hc);exact next_match s (by omega) (by omega) (by omega) (by omega)
  ·split
   ·exact next_short s
   ·exact next_lit s _
theorem named_next{D:List UInt8}{tp dict p:Nat}{b:Nat→Nat}{z:Stp}(s:S)(c:IsBest (mts D tp dict p) b z)(f:dict≤4294967295):(s.next (named D tp dict p z s)).1=0:=by
 unfold named;split
 ·split
  ·exact next_short s
  ·exact next_lit s _
 ·rename_i h1
  rcases c.cand with⟨h,_⟩|⟨d,⟨L,a,e⟩,_⟩
  ·exact absurd h h1
  ·have:=mts_mem a
   repeat' split
   all_goals first|exact next_rep s (by omega) (by omega)|exact next_match s (by omega) (by omega) (by omega) (by omega)
theorem first_dist{D:List UInt8}{tp dict p:Nat}{s:S}(h:(first D tp dict p s).kind≠1):distOf s (first D tp dict p s)≤dict:=by
 revert h;unfold first;split
 ·rename_i hc
  intro _;rcases repB_spec (rn D tp dict p) s with h|⟨a,b,c⟩
  ·exact absurd h hc.1
  ·have:=rn_dist (show rn D tp dict p (repAt s (repB (rn D tp dict p) s).2)≠0 by omega)
   unfold distOf;rw[if_neg (show¬(3:Nat)=2 by decide),if_pos rfl];exact this.2.2
 ·split
  ·rename_i hc
   intro _;have:=mts_mem (bestM_mem _ hc);unfold distOf;rw[if_pos rfl];exact this.2.2.2.2
  ·split
   ·rename_i hc
    intro _;have:=rn_dist (show rn D tp dict p s.r0≠0 by omega);unfold distOf;rw[if_neg (by decide),if_neg (by decide)];exact this.2.2
   ·intro h
    exact absurd rfl h
theorem named_dist{D:List UInt8}{tp dict p e:Nat}{b:Nat→Nat}{z:Stp}{s:S}(d:IsBest (mts D tp dict e) b z)(h:(named D tp dict p z s).kind≠1):distOf s (named D tp dict p z s)≤dict:=by
 revert h;unfold named;split
 ·split
  ·rename_i hc
   intro _;have:=rn_dist (show rn D tp dict p s.r0≠0 by omega);unfold distOf;rw[if_neg (by decide),if_neg (by decide)];exact this.2.2
  ·intro h
   exact absurd rfl h
 ·rename_i h1
  rcases d.cand with⟨h,_⟩|⟨f,⟨L,a,g⟩,_⟩
  ·exact absurd h h1
  ·have c:=(mts_mem a).2.2.2.2
   repeat' split
   all_goals
    intro _;unfold distOf;first
     |(rw[if_pos rfl];exact c)
     | (rw [if_neg (show ¬ (3 : Nat) = 2 by decide),if_pos rfl]
        unfold repAt;simp only[Nat.succ_ne_zero,if_true,if_false,reduceIte,Nat.reduceEqDiff];omega)
theorem Plan.best{D:List UInt8}{tp dict:Nat}:∀{l:List Stp},Plan D tp dict l→∀{i:Nat}{z:Stp},l[i]? =some z→l.length≤tp→∃b,IsBest (mts D tp dict (tp-l.length+i)) b z
 |[],_,i,z,h,_=>by simp at h
 |y::l,⟨h1,h2⟩,i,z,h,hl=>by
   rw[List.length_cons] at hl ⊢;rcases i with _|i
   ·simp only[List.getElem?_cons_zero,Option.some.injEq] at h
    subst h;exact⟨_,h1⟩
   ·obtain⟨b,a⟩:=Plan.best h2 (i:=i) h (by omega)
    exact⟨b,by rw[show tp-(l.length+1)+(i+1)=tp-l.length+i by omega];exact a⟩
theorem Plan.pos{D:List UInt8}{tp dict:Nat}:∀{l:List Stp},Plan D tp dict l→∀{i:Nat}{z:Stp},l[i]? =some z→z.n=1∨3≤z.n
 |[],_,i,z,h=>by simp at h
 |y::l,⟨h1,h2⟩,i,z,h=>by
   rcases i with _|i
   ·simp only[List.getElem?_cons_zero,Option.some.injEq] at h
    subst h;rcases h1.cand with h|h
    ·exact .inl h.1
    ·exact .inr h.1
   ·exact Plan.pos h2 (i:=i) h
end Px
namespace Px
open St
theorem rn_fits(D:List UInt8)(tp dict p d:Nat)(a:p≤tp):p+rn D tp dict p d≤tp:=by
 unfold rn;split
 ·have:=run_le D p d (min 273 (tp-p))
  omega
 ·exact a
theorem mts_fits{D:List UInt8}{tp dict p L d:Nat}(e:p≤tp)(h:(L,d) ∈ mts D tp dict p):p+L≤tp:=by
 unfold mts at h;split at h
 ·simp at h
 ·obtain⟨b,c,a⟩:=List.mem_map.1 h
  simp only[Prod.mk.injEq] at a;obtain⟨rfl,rfl⟩:=a;have:=run_le D p b (min 273 (tp-p));omega
theorem first_fits{D:List UInt8}{tp dict p:Nat}{s:S}(b:p<tp):p+max 1 (first D tp dict p s).len≤tp∧(if(first D tp dict p s).kind=2∨(first D tp dict p s).kind=3 then(first D tp dict p s).len else 1)=max 1 (first D tp dict p s).len∧(first D tp dict p s).Ok:=by
 unfold first;split
 ·rename_i hc
  rcases repB_spec (rn D tp dict p) s with h|⟨e,f,c⟩
  ·exact absurd h hc.1
  ·have d:=rn_fits D tp dict p (repAt s (repB (rn D tp dict p) s).2) (by omega)
   rw[←c] at d;refine⟨?_,?_,⟨.inr (.inr (.inl rfl)),fun _=> ?_,by show 0<256;decide⟩⟩
   ·show p+max 1 (repB (rn D tp dict p) s).1≤tp
    omega
   ·show(if(3:Nat)=2∨(3:Nat)=3 then(repB (rn D tp dict p) s).1 else 1)=max 1 (repB (rn D tp dict p) s).1
    rw[if_pos (.inr rfl)];omega
   ·show(repB (rn D tp dict p) s).2≤3
    omega
 ·split
  ·rename_i hc
   have a:=bestM_mem _ hc;have g:=mts_mem a;have i:=mts_fits (by omega) a;refine⟨?_,?_,⟨.inr (.inl rfl),fun h=>absurd h (by show¬(2:Nat)=3;decide),by show 0<256;decide⟩⟩
   ·show p+max 1 (bestM (mts D tp dict p)).1≤tp
    omega
   ·show(if(2:Nat)=2∨(2:Nat)=3 then(bestM (mts D tp dict p)).1 else 1)=max 1 (bestM (mts D tp dict p)).1
    rw[if_pos (.inl rfl)];omega
  ·split
   ·exact⟨b,rfl,⟨.inr (.inr (.inr rfl)),fun h=>absurd h (by decide),by decide⟩⟩
   ·exact⟨b,rfl,⟨.inl rfl,fun h=>absurd h (by show¬(1:Nat)=3;decide),UInt8.toNat_lt _⟩⟩
end Px
end Go.Proofs.YtffoddpjfgjelaaGreatDoor
