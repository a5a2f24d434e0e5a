/- Part 14 of 54: lemmas of the last part, each under the conditions that it names. -/
import Derived.Test.YtffoddpjfgjelaaGreatDoorK13
set_option linter.unusedVariables false
set_option linter.unusedSimpArgs false
set_option maxRecDepth 1500
set_option maxHeartbeats 2000000
namespace Go.Proofs.YtffoddpjfgjelaaGreatDoor
open Go.RowKit
namespace Enc
open Mem Win Lz St
structure Got(w wr:World)(k:Nat)(c h:Nat→Nat)(ps:Nat→List Nat):Prop where
 fwd:∀j,j<k→c (rowK j)=h (rowK j)+1∧w.heap.size+2≤h (rowK j)∧h (rowK j)+1<wr.heap.size∧Prob.SetAt wr (h (rowK j)+1) (h (rowK j)) (ps (rowK j))
 inj:∀i j,i<k→j<k→h (rowK i)=h (rowK j)→i=j
theorem Got.step{w wr e:World}{k F:Nat}{c h:Nat→Nat}{ps:Nat→List Nat}(a:Got w wr k c h ps)(l:Fr (fun i=>i=F) wr e)(f:∀{b g:Nat}{p:List Nat},Prob.SetAt wr b g p→¬b=F∧¬g=F):Got w e k c h ps:=
 ⟨fun j d=>⟨(a.fwd j d).1,(a.fwd j d).2.1,Nat.lt_of_lt_of_le (a.fwd j d).2.2.1 l.size,(a.fwd j d).2.2.2.step l (f (a.fwd j d).2.2.2).1 (f (a.fwd j d).2.2.2).2⟩,a.inj⟩
theorem Got.keep{w wr b:World}{k:Nat}{c h:Nat→Nat}{ps:Nat→List Nat}(a:Got w wr k c h ps)(e:Fr (fun _=>False) wr b):Got w b k c h ps:=
 ⟨fun j d=>⟨(a.fwd j d).1,(a.fwd j d).2.1,Nat.lt_of_lt_of_le (a.fwd j d).2.2.1 e.size,(a.fwd j d).2.2.2.keep e⟩,a.inj⟩
theorem rowK_ne{j k:Nat}(h:j<k):rowK j≠rowK k:=fun e=>by have:=rowK_inj e;omega
theorem Got.snoc{w wr b:World}{k q:Nat}{c h:Nat→Nat}{ps:Nat→List Nat}(l:Got w wr k c h ps)(p:Fr (fun _=>False) wr b)(v:w.heap.size+2≤wr.heap.size)(t:wr.heap.size≤q)(o:q+1<b.heap.size)(s:Prob.SetAt b (q+1) q (ps (rowK k))):Got w b (k+1) (updN c (rowK k) (q+1)) (updN h (rowK k) q) ps:=by
 have e:∀(f:Nat→Nat)(x:Nat),updN f (rowK k) x (rowK k)=x:=fun f x=>by unfold updN;rw[if_pos rfl]
 have d:∀(f:Nat→Nat)(x j:Nat),j<k→updN f (rowK k) x (rowK j)=f (rowK j):=fun f x j n=>by unfold updN;rw[if_neg (rowK_ne n)]
 have r:=l.keep p;refine⟨fun j n=> ?_,fun i j u n g=> ?_⟩
 ·by_cases a:j=k
  ·subst a
   rw[e,e];exact⟨rfl,by omega,o,s⟩
  ·rw[d _ _ _ (by omega),d _ _ _ (by omega)]
   exact r.fwd j (by omega)
 ·by_cases m:i=k
  ·by_cases a:j=k
   ·omega
   ·rw[m,e,d _ _ _ (by omega)] at g
    have:=(l.fwd j (by omega)).2.2.1;omega
  ·by_cases a:j=k
   ·rw[a,e,d _ _ _ (by omega)] at g
    have:=(l.fwd i (by omega)).2.2.1;omega
   ·rw[d _ _ _ (by omega),d _ _ _ (by omega)] at g
    exact l.inj i j (by omega) (by omega) g
theorem tab_of{w wr wc wx:World}{F lc lp pb:Nat}{s:S}{c h:Nat→Nat}{ps:Nat→List Nat}{q0 q1 q2 q3 n o q r:Nat}(H1:Got w wr 10 c h ps)(X:Got w wc 10 c h ps)(a0:w.heap.size+2≤wr.heap.size)(o0:wr.heap.size≤q0)(o1:q0+1<q1)(o2:q1+1<q2)(o3:q2+1<q3)(o4:q3+1<n)(o5:n+1<o)(o6:o+1<q)(o7:q+1<r)(s7:Prob.SetAt wc (q0+1) q0 (ps 7))(s8:Prob.SetAt wc (q1+1) q1 (ps 8))(s9:Prob.SetAt wc (q2+1) q2 (ps 9))(Q:Prob.SetAt wc (q3+1) q3 (ps 10))(R:Prob.SetAt wc (n+1) n (ps 11))(T:Prob.SetAt wc (o+1) o (ps 12))(U:Prob.SetAt wc (q+1) q (ps 13))(V:Prob.SetAt wc (r+1) r (ps 14))
 (P:∀{b g:Nat}{p:List Nat},Prob.SetAt wc b g p→Prob.SetAt wx b g p)(M:wx.heap[F]? =some (.cells (((((((((tabV lc lp pb s c).setIfInBounds 15 (.pointer (some ⟨q0+1,0,none⟩))).setIfInBounds 16 (.pointer (some ⟨q1+1,0,none⟩))).setIfInBounds 17 (.pointer (some ⟨q2+1,0,none⟩))).setIfInBounds 18 (.pointer (some ⟨q3+1,0,none⟩))).setIfInBounds 19 (.pointer (some ⟨n+1,0,none⟩))).setIfInBounds 20 (.pointer (some ⟨o+1,0,none⟩))).setIfInBounds 21 (.pointer (some ⟨q+1,0,none⟩))).setIfInBounds 22 (.pointer (some ⟨r+1,0,none⟩))) 217 (0,0))):
 ∃e:Nat→Nat,Tab wx F (fun j=>e j+1) e lc lp pb s ps∧∀j,j<18→w.heap.size≤e j:=by
 have A:=H1.fwd;have d:=X.fwd;have O:=X.inj;obtain⟨e,N⟩:∃e:Nat→Nat,e=fun j=>if j<7 then h j else if j<15 then[q0,q1,q2,q3,n,o,q,r].getD (j-7) 0 else h j:=⟨_,rfl⟩;have D:∀j,j<7→rowK j=j:=fun j f=>if_pos f;have m:∀j,15≤j→j<18→rowK (j-8)=j:=fun j k H=>by
  unfold rowK;rw[if_neg (by omega)];omega
 have I:∀j,j<18→w.heap.size+2≤e j∧Prob.SetAt wc (e j+1) (e j) (ps j)∧(j<7∨15≤j→e j=h j∧h j+1<q0)∧(7≤j→j<15→q0≤e j):=by
  intro j f;rw[N];simp only;by_cases L:j<7
  ·have k:=d j (by omega)
   have H:=A j (by omega);rw[D j L] at k H;rw[if_pos L];exact⟨k.2.1,k.2.2.2,fun _=>⟨rfl,by omega⟩,fun h=>by omega⟩
  ·rw[if_neg L]
   by_cases v:j<15
   ·rw[if_pos v]
    obtain rfl|rfl|rfl|rfl|rfl|rfl|rfl|rfl:j=7∨j=8∨j=9∨j=10∨j=11∨j=12∨j=13∨j=14:=by omega
    ·exact⟨by show w.heap.size+2≤q0;omega,s7,fun h=>by omega,fun _ _=>by show q0≤q0;omega⟩
    ·exact⟨by show w.heap.size+2≤q1;omega,s8,fun h=>by omega,fun _ _=>by show q0≤q1;omega⟩
    ·exact⟨by show w.heap.size+2≤q2;omega,s9,fun h=>by omega,fun _ _=>by show q0≤q2;omega⟩
    ·exact⟨by show w.heap.size+2≤q3;omega,Q,fun h=>by omega,fun _ _=>by show q0≤q3;omega⟩
    ·exact⟨by show w.heap.size+2≤n;omega,R,fun h=>by omega,fun _ _=>by show q0≤n;omega⟩
    ·exact⟨by show w.heap.size+2≤o;omega,T,fun h=>by omega,fun _ _=>by show q0≤o;omega⟩
    ·exact⟨by show w.heap.size+2≤q;omega,U,fun h=>by omega,fun _ _=>by show q0≤q;omega⟩
    ·exact⟨by show w.heap.size+2≤r;omega,V,fun h=>by omega,fun _ _=>by show q0≤r;omega⟩
   ·rw[if_neg v]
    have k:=d (j-8) (by omega);have H:=A (j-8) (by omega);rw[m j (by omega) f] at k H;exact⟨k.2.1,k.2.2.2,fun _=>⟨rfl,by omega⟩,fun _ h=>by omega⟩
 have G:∀t,t<8→∀u,u<8→e (t+7)=e (u+7)→t=u:=by
  intro t ht u hu l;rw[N] at l;simp only at l;rw[if_neg (by omega),if_pos (by omega),if_neg (by omega),if_pos (by omega),Nat.add_sub_cancel,Nat.add_sub_cancel] at l;obtain rfl|rfl|rfl|rfl|rfl|rfl|rfl|rfl:t=0∨t=1∨t=2∨t=3∨t=4∨t=5∨t=6∨t=7:=by omega
  all_goals
   obtain rfl|rfl|rfl|rfl|rfl|rfl|rfl|rfl:u=0∨u=1∨u=2∨u=3∨u=4∨u=5∨u=6∨u=7:=by omega
   all_goals first
    |rfl
    |(simp only[List.getD_cons_zero,List.getD_cons_succ] at l;omega)
 have C:∀i j,i<18→j<18→e i=e j→i=j:=by
  intro i j Y f l;have vi:=I i Y;have W:=I j f;by_cases li:i<7∨15≤i
  ·have a:=vi.2.2.1 li
   by_cases J:j<7∨15≤j
   ·have K:=W.2.2.1 J
    have Z:∀x,x<18→x<7∨15≤x→∃y,y<10∧rowK y=x:=fun x hx E=>by
     rcases E with E|E
     ·exact⟨x,by omega,D x E⟩
     ·exact⟨x-8,by omega,m x E hx⟩
    obtain⟨y,hy,rfl⟩:=Z i Y li;obtain⟨z,hz,rfl⟩:=Z j f J;rw[a.1,K.1] at l;rw[O y z hy hz l]
   ·have K:=W.2.2.2 (by omega) (by omega)
    omega
  ·have a:=vi.2.2.2 (by omega) (by omega)
   by_cases J:j<7∨15≤j
   ·have K:=W.2.2.1 J
    omega
   ·have k:=G (i-7) (by omega) (j-7) (by omega) (by rw[show i-7+7=i by omega,show j-7+7=j by omega];exact l)
    omega
 have k0:c 0=h 0+1:=(d 0 (by decide)).1;have k1:c 1=h 1+1:=(d 1 (by decide)).1;have k2:c 2=h 2+1:=(d 2 (by decide)).1;have k3:c 3=h 3+1:=(d 3 (by decide)).1;have k4:c 4=h 4+1:=(d 4 (by decide)).1;have k5:c 5=h 5+1:=(d 5 (by decide)).1;have k6:c 6=h 6+1:=(d 6 (by decide)).1;have k7:c 15=h 15+1:=(d 7 (by decide)).1;have k8:c 16=h 16+1:=(d 8 (by decide)).1;have k9:c 17=h 17+1:=(d 9 (by decide)).1;have B:wx.heap[F]? =some (.cells (tabV lc lp pb s (fun j=>e j+1)) 217 (0,0)):=by
  rw[M,N];congr 1;simp[tabV,k0,k1,k2,k3,k4,k5,k6,k7,k8,k9,ptr]
 exact⟨e,⟨B,fun j f=>P (I j f).2.1,C⟩,fun j f=>by have:=(I j f).1;omega⟩
end Enc
end Go.Proofs.YtffoddpjfgjelaaGreatDoor
