/- Part 19 of 54: lemmas of the last part, each under the conditions that it names. -/
import Derived.Test.YtffoddpjfgjelaaGreatDoorK16
import Derived.Test.YtffoddpjfgjelaaGreatDoorK18
set_option linter.unusedVariables false
set_option linter.unusedSimpArgs false
set_option maxRecDepth 1500
namespace Go.Proofs.YtffoddpjfgjelaaGreatDoor
namespace Px
open St Pk
theorem rn_run{D:List UInt8}{tp dict p d:Nat}(h:rn D tp dict p d≠0):Run D p (rn D tp dict p d) d:=by
 obtain⟨b,c,e⟩:=rn_dist h;refine⟨b,c,fun j a=> ?_⟩;unfold rn at a;rw[if_pos ⟨b,c,e⟩] at a;exact(run_is D p d (min 273 (tp-p))).eq j a
theorem mts_run{D:List UInt8}{tp dict p L d:Nat}(h:(L,d) ∈ mts D tp dict p):Run D p L d:=by
 obtain⟨_,_,c,e,_⟩:=mts_mem h;refine⟨c,e,fun j f=> ?_⟩;unfold mts at h;split at h
 ·simp at h
 ·obtain⟨b,g,a⟩:=List.mem_map.1 h
  simp only[Prod.mk.injEq] at a;obtain⟨rfl,rfl⟩:=a;exact(run_is D p b (min 273 (tp-p))).eq j f
theorem lit_at{D:List UInt8}{p:Nat}(h:p<D.length):D[p]? =some (UInt8.ofNat (D.getD p 0).toNat):=by
 rw[List.getD_eq_getElem?_getD,List.getElem?_eq_getElem h];simp
theorem size_fits{y:Sy}{n:Nat}(c:y.Ok)(h:(if y.kind=2∨y.kind=3 then y.len else 1)=n)(s:S)(d:(s.next y).1=0):St.size y=n:=by
 obtain⟨e,f⟩:=size_of d c;have:=c.kind;by_cases a:y.kind=1
 ·rw[e a,←h,if_neg (by omega)]
 ·rw[f a,←h]
  unfold lenOfSy;by_cases b:y.kind=4
  ·rw[if_pos b,if_neg (by omega)]
  ·rw[if_neg b,if_pos (by omega)]
theorem first_right{D:List UInt8}{tp dict p:Nat}{s:S}(k:p<tp)(o:tp≤D.length)(i:dict≤4294967295):Right D tp p s (first D tp dict p s)∧St.size (first D tp dict p s)=max 1 (first D tp dict p s).len:=by
 obtain⟨e,f,b⟩:=first_fits (D:=D) (dict:=dict) (s:=s) k;have c:=first_next D tp dict p s i;have d:=size_fits b f s c;refine⟨⟨b,c,by rw[d];exact e,?_,?_⟩,d⟩
 ·unfold first
  repeat' split
  ·exact fun h=>absurd h (by show¬(3:Nat)=1;decide)
  ·exact fun h=>absurd h (by show¬(2:Nat)=1;decide)
  ·exact fun h=>absurd h (by show¬(4:Nat)=1;decide)
  ·exact fun _=>lit_at (by omega)
 ·unfold first
  split
  ·rename_i hc
   intro _;rcases repB_spec (rn D tp dict p) s with h|⟨l,m,g⟩
   ·exact absurd h hc.1
   ·have a:=rn_run (show rn D tp dict p (repAt s (repB (rn D tp dict p) s).2)≠0 by omega)
    rw[←g] at a;unfold distOf lenOfSy;rw[if_neg (show¬(3:Nat)=2 by decide),if_pos rfl,if_neg (show¬(3:Nat)=4 by decide)];exact a
  ·split
   ·rename_i hc
    intro _;unfold distOf lenOfSy;rw[if_pos rfl,if_neg (show¬(2:Nat)=4 by decide)];exact mts_run (bestM_mem _ hc)
   ·split
    ·rename_i hc
     intro _;have a:=rn_run (show rn D tp dict p s.r0≠0 by omega);unfold distOf lenOfSy;rw[if_neg (show¬(4:Nat)=2 by decide),if_neg (show¬(4:Nat)=3 by decide),if_pos rfl];exact⟨a.1,a.2.1,fun j n=>a.2.2 j (by omega)⟩
    ·exact fun h=>absurd rfl h
theorem named_right{D:List UInt8}{tp dict p:Nat}{b:Nat→Nat}{z:Stp}{s:S}(l:IsBest (mts D tp dict p) b z)(q:z.n=1∨3≤z.n)(t:p<tp)(u:tp≤D.length)(n:dict≤4294967295):Right D tp p s (named D tp dict p z s)∧St.size (named D tp dict p z s)=z.n:=by
 obtain⟨m,f⟩:=named_fits (D:=D) (tp:=tp) (dict:=dict) (p:=p) (s:=s) q;have g:=named_next s l n;have i:=size_fits f m s g;have e:=l.cand;refine⟨⟨f,g,?_,?_,?_⟩,i⟩
 ·rw[i]
  rcases e with⟨h,_⟩|⟨_,⟨L,c,a⟩,_⟩
  ·omega
  ·have:=mts_fits (by omega) c
   omega
 ·unfold named
  repeat' split
  all_goals first
   |exact fun _=>lit_at (by omega)
   |exact fun h=>absurd h (by show¬(4:Nat)=1;decide)
   |exact fun h=>absurd h (by show¬(3:Nat)=1;decide)
   |exact fun h=>absurd h (by show¬(2:Nat)=1;decide)
 ·unfold named
  split
  ·split
   ·rename_i e
    intro _;have a:=rn_run (show rn D tp dict p s.r0≠0 by omega);unfold distOf lenOfSy;rw[if_neg (show¬(4:Nat)=2 by decide),if_neg (show¬(4:Nat)=3 by decide),if_pos rfl];exact⟨a.1,a.2.1,fun j o=>a.2.2 j (by omega)⟩
   ·exact fun h=>absurd rfl h
  ·rename_i h1
   rcases e with⟨h,_⟩|⟨r,⟨L,c,a⟩,_⟩
   ·exact absurd h h1
   ·have d:=mts_run c
    have k:Run D p z.n z.d:=⟨d.1,d.2.1,fun j o=>d.2.2 j (by omega)⟩;repeat' split
    all_goals
     intro _;unfold distOf lenOfSy;first
      |(rw[if_pos rfl,if_neg (show¬(2:Nat)=4 by decide)];exact k)
      | (rw [if_neg (show ¬ (3 : Nat) = 2 by decide),if_pos rfl,if_neg (show ¬ (3 : Nat) = 4 by decide)]
         unfold repAt;simp only[Nat.succ_ne_zero,if_true,if_false,reduceIte,Nat.reduceEqDiff];rename_i he;first|(rw[he];exact k)|(simp_all))
theorem greedy_steps{D:List UInt8}{tp dict:Nat}(b:tp≤D.length)(a:dict≤4294967295):∀{l:List Sy}{p q:Nat}{s t:S},Greedy D tp dict l p s q t→Pk.Steps D tp l p s q t
 |[],_,_,_,_,h=>h
 |y::l,p,q,s,t,⟨h1,h2,h3⟩=>by
   subst h2;obtain⟨c,d⟩:=first_right (s:=s) h1 b a;refine⟨c,?_⟩;rw[d];exact greedy_steps b a h3
theorem cheap_steps{D:List UInt8}{tp dict c:Nat}{d:List Stp}(a:Plan D tp dict d)(g:d.length=tp-c)(j:c≤tp)(i:tp≤D.length)(f:dict≤4294967295):∀{l:List Sy}{p q:Nat}{s t:S},c≤p→Cheap D tp dict c d l p s q t→Pk.Steps D tp l p s q t
 |[],_,_,_,_,_,h=>h
 |y::l,p,q,s,t,hp,⟨h1,z,h2,h3,h4⟩=>by
   subst h3;obtain⟨b,e⟩:=a.best h2 (by omega);rw[g,show tp-(tp-c)+(p-c)=p by omega] at e;obtain⟨k,m⟩:=named_right (s:=s) e (a.pos h2) h1 i f;refine⟨k,?_⟩;rw[m];exact cheap_steps a g j i f (by omega) h4
end Px
namespace Pk
theorem By.steps{a dict tp b:Nat}{data:List UInt8}{s t:St.S}{l:List St.Sy}(i:b≤tp)(d:tp≤data.length)(c:dict≤4294967295)(h:By a dict data tp b s l t):Pk.Steps data tp l b s tp t:=by
 unfold By at h;split at h
 ·obtain⟨j,e,f,g⟩:=h
  exact Px.cheap_steps e f i d c (Nat.le_refl _) g
 ·exact Px.greedy_steps d c h
end Pk
end Go.Proofs.YtffoddpjfgjelaaGreatDoor
