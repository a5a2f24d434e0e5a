/- Part 18 of 55: lemmas of the last part, each under the conditions that it names. -/
import Derived.Test.YtlgccpjccopdmaaGreatDoorP15
set_option linter.unusedVariables false
set_option linter.unusedSimpArgs false
set_option maxRecDepth 1500
namespace Go.Proofs.YtlgccpjccopdmaaGreatDoor
open Go.RowKit
namespace En
open Mem Rc St Lz
inductive Op where
 |bit (j i b:Nat)
 |half (b:Nat)
structure Es where
 k:K
 ps:Nat→List Nat
def Es.op(e:Es):Op→Es
 |.bit j i b=>⟨e.k.bit ((e.ps j).getD i 0) b,upd e.ps j ((e.ps j).set i (Prob.nextN ((e.ps j).getD i 0) b))⟩
 |.half b=>⟨e.k.half b,e.ps⟩
def Es.run(e:Es):List Op→Es
 |[]=>e
 |o::l=>(e.op o).run l
theorem Es.run_append(e:Es)(l m:List Op):e.run (l++m)=(e.run l).run m:=by
 induction l generalizing e with
 |nil=>rfl
 |cons o l ih=>exact ih _
def Op.Ok(lc lp:Nat):Op→Prop
 |.bit j i b=>j<18∧i<Lz.rowLen lc lp j∧b≤1
 |.half b=>b≤1
def okQ(ps:List Nat):Prop:=∀p ∈ ps,31≤p∧p≤2017
theorem nextQ{p:Nat}(b:Nat)(h:31≤p∧p≤2017):31≤Prob.nextN p b∧Prob.nextN p b≤2017:=by
 unfold Prob.nextN
 split<;>omega
structure Es.Ok(lc lp:Nat)(e:Es):Prop where
 k:e.k.Ok
 q:∀j,j<18→okQ (e.ps j)
 len:∀j,j<18→(e.ps j).length=Lz.rowLen lc lp j
theorem Es.Ok.at{lc lp:Nat}{e:Es}(h:e.Ok lc lp){j i:Nat}(hj:j<18)(hi:i<Lz.rowLen lc lp j):(e.ps j)[i]? =some ((e.ps j).getD i 0)∧31≤(e.ps j).getD i 0∧(e.ps j).getD i 0≤2017:=by
 rw[←h.len j hj] at hi
 rw[List.getD_eq_getElem?_getD,List.getElem?_eq_getElem hi]
 exact⟨rfl,h.q j hj _ (List.getElem_mem hi)⟩
theorem Es.Ok.op{lc lp:Nat}{e:Es}(h:e.Ok lc lp){o:Op}(ho:o.Ok lc lp):(e.op o).Ok lc lp∧e.k.In (e.op o).k:=by
 cases o with
 |bit j i b=>
   obtain⟨hj,hi,hb⟩:=ho
   obtain⟨h1,h2,h3⟩:=h.at hj hi
   have hc:=cut_bd h.k.lo h2 h3
   refine⟨⟨K.bit_ok h.k b h2 h3,fun k hk=> ?_,fun k hk=> ?_⟩,(K.in_cut b (by omega)).trans (K.in_widen _)⟩
   ·simp only[Es.op,upd]
    split
    ·intro p hp
     rcases List.mem_or_eq_of_mem_set hp with hp|rfl
     ·exact h.q j hj p hp
     ·exact nextQ b ⟨h2,h3⟩
    ·exact h.q k hk
   ·simp only[Es.op,upd]
    split
    ·rename_i e
     rw[List.length_set,←e]
     subst e
     exact h.len k hk
    ·exact h.len k hk
 |half b=>exact⟨⟨K.half_ok h.k ho,h.q,h.len⟩,(K.in_half0 _ ho).trans (K.in_widen _)⟩
theorem Es.Ok.run{lc lp:Nat}{e:Es}(h:e.Ok lc lp){l:List Op}(hl:∀o ∈ l,o.Ok lc lp):(e.run l).Ok lc lp∧e.k.In (e.run l).k:=by
 induction l generalizing e with
 |nil=>exact⟨h,.refl _⟩
 |cons o l ih=>
   have h1:=h.op (hl o (by simp))
   have h2:=ih h1.1 (fun x hx=>hl x (by simp[hx]))
   exact⟨h2.1,h1.2.trans h2.2⟩
structure Syn(f:K)(lc lp:Nat)(e:Es)(y:Y):Prop where
 s:Sync f e.k y.d
 bad:y.bad=false
 ps:y.ps=e.ps
 ok:e.Ok lc lp
def Reads{α:Type}(lc lp:Nat)(l:List Op)(g:Y→α×Y)(v:α):Prop:=
 (∀o ∈ l,o.Ok lc lp)∧∀(f:K)(e:Es)(y:Y),0<f.r→Syn f lc lp e y→(e.run l).k.In f→(g y).1=v∧Syn f lc lp (e.run l) (g y).2
theorem Reads.nil{α:Type}{lc lp:Nat}(v:α):Reads lc lp [] (fun y=>(v,y)) v:=⟨fun _ h=>by simp at h,fun _ _ _ _ h _=>⟨rfl,h⟩⟩
theorem Reads.bind{α β:Type}{lc lp:Nat}{l m:List Op}{g:Y→α×Y}{v:α}{g2:α→Y→β×Y}{v2:β}(h:Reads lc lp l g v)(h2:Reads lc lp m (g2 v) v2):Reads lc lp (l++m) (fun y=>g2 (g y).1 (g y).2) v2:=by
 refine⟨fun o ho=> ?_,fun f e y hf hs hin=> ?_⟩
 ·rcases List.mem_append.1 ho with h3|h3
  ·exact h.1 o h3
  ·exact h2.1 o h3
 ·rw[Es.run_append] at hin ⊢
  have k1:=(hs.ok.run h.1)
  have k2:=(k1.1.run h2.1)
  obtain⟨r1,r2⟩:=h.2 f e y hf hs (k2.2.trans hin)
  have r3:=h2.2 f _ _ hf r2 hin
  simp only[r1]
  exact r3
theorem Reads.of{α:Type}{lc lp:Nat}{l:List Op}{g g2:Y→α×Y}{v v2:α}(h:Reads lc lp l g v)(hg:∀y,(g2 y)=g y)(hv:v=v2):Reads lc lp l g2 v2:=by
 have:g2=g:=funext hg
 rw[this,←hv]
 exact h
theorem Reads.map{α β:Type}{lc lp:Nat}{l:List Op}{g:Y→α×Y}{v:α}(F:α→β)(h:Reads lc lp l g v):Reads lc lp l (fun y=>(F (g y).1,(g y).2)) (F v):=
 ⟨h.1,fun f e y hf hs hin=>by
  obtain⟨r1,r2⟩:=h.2 f e y hf hs hin
  exact⟨by simp only;rw[r1],r2⟩⟩
theorem bit_reads{lc lp j i b:Nat}(hj:j<18)(hi:i<Lz.rowLen lc lp j)(hb:b≤1):Reads lc lp [.bit j i b] (fun y=>y.bit j i) b:=by
 refine⟨fun o ho=> ?_,fun f e y hf hs hin=> ?_⟩
 ·simp only[List.mem_singleton] at ho
  subst ho
  exact⟨hj,hi,hb⟩
 ·obtain⟨h1,h2,h3⟩:=hs.ok.at hj hi
  obtain⟨d,hd,hs2⟩:=hs.s.bit hb hs.ok.k.lo h2 h3 hin hf
  have e1:y.bit j i=y.put j (bitAt y.d (y.ps j) i):=by
   unfold Y.bit
   rw[if_neg (by rw[hs.bad];decide)]
  have e2:bitAt y.d (y.ps j) i=⟨b,0,d,(e.ps j).set i (Prob.nextN ((e.ps j).getD i 0) b)⟩:=by
   unfold bitAt
   rw[hs.ps,h1]
   simp only[hd]
  simp only[e1,e2]
  refine⟨rfl,hs2,rfl,?_,(hs.ok.op (o:=.bit j i b) ⟨hj,hi,hb⟩).1⟩
  simp only[Y.put,hs.ps]
  rfl
def treeOps(back:Bool)(j a n x:Nat):Nat→Nat→List Op
 |0,_=>[]
 |f+1,m=>.bit j (a+m) (x/2^Tr.ord back n (n-(f+1))%2)::treeOps back j a n x f (2*m+x/2^Tr.ord back n (n-(f+1))%2)
def later(back:Bool)(n f i:Nat):Bool:=if back then decide (n-f≤i∧i<n) else decide (i<f)
theorem tree_go{lc lp:Nat}(back:Bool){j a n x:Nat}(hj:j<18)(hx:x<2^n)(ha:a+2^n≤Lz.rowLen lc lp j):∀(q m:Nat),q≤n→m<2^(n-q+1)→
 (∀o ∈ treeOps back j a n x q m,o.Ok lc lp)∧∀(f:K)(e:Es)(d:D)(P:Nat→List Nat)(v:Nat),0<f.r→Syn f lc lp e ⟨d,false,P⟩→(e.run (treeOps back j a n x q m)).k.In f→
   (Tr.go back n a q m v d (P j)).err=0∧(∀i,(Tr.go back n a q m v d (P j)).v.testBit i=(v.testBit i||(x.testBit i&&later back n q i)))∧Syn f lc lp (e.run (treeOps back j a n x q m)) ⟨(Tr.go back n a q m v d (P j)).d,false,upd P j (Tr.go back n a q m v d (P j)).ps⟩
 |0,m,hq,hm=>by
   refine⟨fun o ho=>by simp[treeOps] at ho,fun f e d P v hf hs hin=>⟨rfl,fun i=> ?_,?_⟩⟩
   ·unfold Tr.go later
    cases back
    ·simp
    ·simp only[if_true]
     rw[show decide (n-0≤i∧i<n)=false from decide_eq_false (by omega)]
     simp
   ·have e:upd P j (Tr.go back n a 0 m v d (P j)).ps=P:=by
     funext k
     simp only[upd,Tr.go]
     split
     ·rename_i h;rw[h]
     ·rfl
    rw[e]
    exact hs
 |q+1,m,hq,hm=>by
   have hb:x/2^Tr.ord back n (n-(q+1))%2≤1:=by omega
   have ho:Tr.ord back n (n-(q+1))<n:=by unfold Tr.ord;split<;>omega
   have hpw:(2:Nat)^(n-(q+1)+1)≤2^n:=Nat.pow_le_pow_right (by omega) (by omega)
   have hi:a+m<Lz.rowLen lc lp j:=by omega
   have hm2:2*m+x/2^Tr.ord back n (n-(q+1))%2<2^(n-q+1):=by
    rw[show n-q+1=(n-(q+1)+1)+1 by omega,Nat.pow_succ]
    omega
   have ih:=tree_go (lc:=lc) (lp:=lp) back (a:=a) hj hx ha q _ (by omega) hm2
   have hB:=bit_reads (lc:=lc) (lp:=lp) hj hi hb
   refine⟨fun o ho=> ?_,fun f e d P v hf hs hin=> ?_⟩
   ·rw[treeOps,List.mem_cons] at ho
    rcases ho with rfl|ho
    ·exact⟨hj,hi,hb⟩
    ·exact ih.1 o ho
   ·have hbit:(x/2^Tr.ord back n (n-(q+1))%2)=(x>>>Tr.ord back n (n-(q+1)))%2:=by rw[Nat.shiftRight_eq_div_pow]
    rw[treeOps] at hin ⊢
    have hin2:=hin
    rw[Es.run] at hin2 ⊢
    have k1:=(hs.ok.op (o:=.bit j (a+m) (x/2^Tr.ord back n (n-(q+1))%2)) ⟨hj,hi,hb⟩)
    have k2:=k1.1.run ih.1
    obtain⟨r1,r2⟩:=hB.2 f e ⟨d,false,P⟩ hf hs (k2.2.trans hin2)
    have e1:(⟨d,false,P⟩:Y).bit j (a+m)=(⟨d,false,P⟩:Y).put j (bitAt d (P j) (a+m)):=rfl
    simp only[e1] at r1 r2
    have herr:(bitAt d (P j) (a+m)).err=0:=by
     have:=r2.bad
     simpa [Y.put] using this
    have hv:(bitAt d (P j) (a+m)).bit=x/2^Tr.ord back n (n-(q+1))%2:=by
     have:=r1
     simpa [Y.put,gotN,herr] using this
    have r2':Syn f lc lp (e.op (.bit j (a+m) (x/2^Tr.ord back n (n-(q+1))%2))) ⟨(bitAt d (P j) (a+m)).d,false,upd P j (bitAt d (P j) (a+m)).ps⟩:=by
     have:=r2
     simp only[Y.put,herr,ne_eq,not_true,decide_false] at this
     exact this
    rw[Tr.go,if_neg (by omega),hv]
    have r4:=ih.2 f _ _ (upd P j (bitAt d (P j) (a+m)).ps) (v|||(x/2^Tr.ord back n (n-(q+1))%2)<<<Tr.ord back n (n-(q+1))) hf r2' hin2
    rw[upd_same] at r4
    refine⟨r4.1,fun i=> ?_,?_⟩
    ·rw[r4.2.1 i,Nat.testBit_or,Nat.testBit_shiftLeft]
     have hx2:∀t,(x/2^t%2).testBit 0=x.testBit t:=fun t=>by
      rw[Nat.testBit_zero]
      unfold Nat.testBit
      rw[Nat.shiftRight_eq_div_pow,Nat.one_and_eq_mod_two,Nat.mod_mod_of_dvd _ (by exact Nat.dvd_refl 2)]
      rcases(show x/2^t%2=0∨x/2^t%2=1 by omega) with h|h<;>rw[h]<;>rfl
     by_cases hi:i=Tr.ord back n (n-(q+1))
     ·subst hi
      rw[Nat.sub_self,hx2]
      have hl:later back n (q+1) (Tr.ord back n (n-(q+1)))=true:=by
       unfold later Tr.ord
       cases back
       ·simp only[Bool.false_eq_true,if_false];exact decide_eq_true (by omega)
       ·simp only[if_true];exact decide_eq_true (by omega)
      rw[hl]
      cases v.testBit (Tr.ord back n (n-(q+1)))<;>cases x.testBit (Tr.ord back n (n-(q+1)))<;>simp
     ·have hl:later back n (q+1) i=later back n q i:=by
       unfold later Tr.ord at*
       cases back
       ·simp only[Bool.false_eq_true,if_false] at hi ⊢
        exact decide_eq_decide.2 (by omega)
       ·simp only[if_true] at hi ⊢
        exact decide_eq_decide.2 (by omega)
      rw[hl]
      have h0:(decide (Tr.ord back n (n-(q+1))≤i)&&(x/2^Tr.ord back n (n-(q+1))%2).testBit (i-Tr.ord back n (n-(q+1))))=false:=by
       by_cases hle:Tr.ord back n (n-(q+1))≤i
       ·have:(x/2^Tr.ord back n (n-(q+1))%2).testBit (i-Tr.ord back n (n-(q+1)))=false:=by
         refine Nat.testBit_lt_two_pow (Nat.lt_of_lt_of_le (show _<2^1 by omega) (Nat.pow_le_pow_right (by omega) (by omega)))
        rw[this]
        simp
       ·simp[hle]
      rw[h0]
      simp
    ·have hu:∀(L:List Nat),upd (upd P j (bitAt d (P j) (a+m)).ps) j L=upd P j L:=fun L=>by
      funext k
      simp only[upd]
      split<;>rfl
     rw[hu] at r4
     exact r4.2.2
theorem tree_reads{lc lp:Nat}(back:Bool){j a n x:Nat}(hj:j<18)(hx:x<2^n)(hn:n≤16)(ha:a+2^n≤Lz.rowLen lc lp j):Reads lc lp (treeOps back j a n x n 1) (fun y=>y.tree back j a n) x:=by
 have h:=tree_go (lc:=lc) (lp:=lp) back hj hx ha n 1 (Nat.le_refl _) (by rw[Nat.sub_self];decide)
 refine⟨h.1,fun f e y hf hs hin=> ?_⟩
 have hy:y=⟨y.d,false,y.ps⟩:=by cases y;have:=hs.bad;simp only at this;subst this;rfl
 have hs2:=hs
 rw[hy] at hs2
 obtain⟨r1,r2,r3⟩:=h.2 f e y.d y.ps 0 hf hs2 hin
 have hl:=hs.ok.len j hj
 rw[←hs.ps] at hl
 have e1:y.tree back j a n=y.put j ⟨x,0,(Tr.go back n a n 1 0 y.d (y.ps j)).d,(Tr.go back n a n 1 0 y.d (y.ps j)).ps⟩:=by
  unfold Y.tree
  rw[if_neg (by rw[hs.bad];decide)]
  unfold Tr.get
  rw[if_pos ⟨hn,by omega,by omega⟩,if_pos r1,r1]
  congr 2
  refine Nat.eq_of_testBit_eq fun i=> ?_
  rw[r2 i]
  unfold later
  by_cases hi:i<n
  ·cases back
   ·simp[hi]
   ·simp[hi]
  ·have:x.testBit i=false:=Nat.testBit_lt_two_pow (Nat.lt_of_lt_of_le hx (Nat.pow_le_pow_right (by omega) (by omega)))
   rw[this]
   simp
 simp only[e1]
 exact⟨rfl,r3⟩
def halves(x:Nat):Nat→List Op
 |0=>[]
 |n+1=>.half (x/2^n%2)::halves x n
theorem direct_go{lc lp x:Nat}:∀n,(∀o ∈ halves x n,o.Ok lc lp)∧∀(f:K)(e:Es)(d:D)(P:Nat→List Nat)(v:Nat),0<f.r→Syn f lc lp e ⟨d,false,P⟩→(e.run (halves x n)).k.In f→
 ∃d2,D.direct n v d=.ok (v*2^n+x%2^n,d2)∧Syn f lc lp (e.run (halves x n)) ⟨d2,false,P⟩
 |0=>⟨fun o ho=>by simp[halves] at ho,fun f e d P v hf hs hin=>⟨d,by simp[D.direct,Nat.mod_one],hs⟩⟩
 |n+1=>by
   have ih:=direct_go (lc:=lc) (lp:=lp) (x:=x) n
   have hb:x/2^n%2≤1:=by omega
   refine⟨fun o ho=> ?_,fun f e d P v hf hs hin=> ?_⟩
   ·rw[halves,List.mem_cons] at ho
    rcases ho with rfl|ho
    ·exact hb
    ·exact ih.1 o ho
   ·rw[halves,Es.run] at hin ⊢
    have k1:=hs.ok.op (o:=.half (x/2^n%2)) hb
    have k2:=k1.1.run ih.1
    obtain⟨h1,h2,d3,h3,h4⟩:=hs.s.half hb (k2.2.trans hin) hf
    have e1:(if d.rng/2≤d.now then 2*v+1 else 2*v)=2*v+x/2^n%2:=by
     have:decide (d.rng/2≤d.now)=decide (x/2^n%2=1):=h2
     by_cases hc:d.rng/2≤d.now
     ·rw[if_pos hc]
      rw[decide_eq_true hc] at this
      have:=of_decide_eq_true this.symm
      omega
     ·rw[if_neg hc]
      rw[decide_eq_false hc] at this
      have:=of_decide_eq_false this.symm
      omega
    obtain⟨d2,h5,h6⟩:=ih.2 f (e.op (.half (x/2^n%2))) d3 P (2*v+x/2^n%2) hf ⟨h4,rfl,hs.ps,k1.1⟩ hin
    refine⟨d2,?_,h6⟩
    rw[D.direct,if_neg h1]
    rw[h3]
    simp only
    rw[e1,h5,Nat.pow_succ]
    congr 2
    have hm:=Nat.mod_mul (x:=x) (a:=2^n) (b:=2)
    rw[hm,Nat.add_mul,Nat.mul_comm 2 v,Nat.mul_assoc,Nat.mul_comm (x/2^n%2),Nat.mul_comm 2 (2^n)]
    omega
theorem direct_reads{lc lp x n:Nat}(hx:x<2^n):Reads lc lp (halves x n) (fun y=>y.direct n) x:=by
 have h:=direct_go (lc:=lc) (lp:=lp) (x:=x) n
 refine⟨h.1,fun f e y hf hs hin=> ?_⟩
 have hy:y=⟨y.d,false,y.ps⟩:=by cases y;have:=hs.bad;simp only at this;subst this;rfl
 have hs2:=hs
 rw[hy] at hs2
 obtain⟨d2,h1,h2⟩:=h.2 f e y.d y.ps 0 hf hs2 hin
 rw[Nat.mod_eq_of_lt hx,Nat.zero_mul,Nat.zero_add] at h1
 have e1:y.direct n=(x,⟨d2,false,y.ps⟩):=by
  unfold Y.direct
  rw[if_neg (by rw[hs.bad];decide),h1]
 show(y.direct n).1=x∧Syn f lc lp _ (y.direct n).2
 rw[e1]
 exact⟨rfl,h2⟩
end En
namespace En
open Mem Rc St Lz
def matOps(u a b:Nat):Nat→Nat→Bool→List Op
 |0,_,_=>[]
 |k+1,m,same=>.bit 6 (a+m+if same then 256*(1+u/2^k%2) else 0) (b/2^k%2)::matOps u a b k (2*m+b/2^k%2) (same&&decide (b/2^k%2=u/2^k%2))
def litOps(c:C)(b:Nat):List Op:=if c.s.num<7 then treeOps false 6 c.context 8 b 8 1 else matOps (c.lastB c.s.r0) c.context b 8 1 true
def lenOps(c:C)(q n:Nat):List Op:=
 if n<10 then[.bit q 0 0]++treeOps false (q+1) (8*c.place) 3 (n-2) 3 1
 else if n<18 then[.bit q 0 1]++([.bit q 1 0]++treeOps false (q+2) (8*c.place) 3 (n-10) 3 1)
 else[.bit q 0 1]++([.bit q 1 1]++treeOps false (q+3) 0 8 (n-18) 8 1)
def restOps(slot r:Nat):List Op:=
 if(range slot).2=0 then[] else if slot<14 then treeOps true 16 (restAt slot) (range slot).2 r (range slot).2 1
 else halves (r/16) ((range slot).2-4)++treeOps true 17 0 4 (r%16) 4 1
def distOps(n slot d:Nat):List Op:=treeOps false 15 (slotAt n) 6 slot 6 1++restOps slot (d-(range slot).1)
def repOps(c:C)(i n:Nat):List Op:=
 [.bit 0 c.at 1]++([.bit 2 c.s.num 1]++(if i=0 then[.bit 3 c.s.num 0]++([.bit 1 c.at 1]++lenOps c 11 n)
  else if i=1 then[.bit 3 c.s.num 1]++([.bit 4 c.s.num 0]++lenOps c 11 n) else[.bit 3 c.s.num 1]++([.bit 4 c.s.num 1]++([.bit 5 c.s.num (i-2)]++lenOps c 11 n))))
def slotOf(d:Nat):Nat:=if d≤4 then d-1 else 2*Nat.log2 (d-1)+(d-1)/2^(Nat.log2 (d-1)-1)%2
def symOps(c:C)(y:Sy):List Op:=
 if y.kind=1 then[.bit 0 c.at 0]++litOps c y.byte
 else if y.kind=2 then[.bit 0 c.at 1]++([.bit 2 c.s.num 0]++(lenOps c 7 y.len++distOps y.len (slotOf y.dist) y.dist))
 else if y.kind=3 then repOps c y.dist y.len
 else[.bit 0 c.at 1]++([.bit 2 c.s.num 1]++([.bit 3 c.s.num 0]++[.bit 1 c.at 0]))
def norm(y:Sy):Sy:=if y.kind=1 then⟨1,y.byte,0,0⟩ else if y.kind=2 then⟨2,0,y.len,y.dist⟩ else if y.kind=3 then⟨3,0,y.len,y.dist⟩ else⟨4,0,0,0⟩
theorem place_lt(c:C)(h:c.Ok):c.place<16:=by
 unfold C.place
 have h1:c.all.length%2^c.pb<2^c.pb:=Nat.mod_lt _ (Nat.two_pow_pos _)
 have h2:2^c.pb≤2^4:=Nat.pow_le_pow_right (by omega) h.pb
 omega
theorem at_lt(c:C)(h:c.Ok):c.at<192:=by
 have h1:=place_lt c h
 have h2:=h.s.num
 unfold C.at
 omega
theorem last_lt(c:C)(d:Nat):c.lastB d<256:=by
 unfold C.lastB Win.last
 split
 ·exact UInt8.toNat_lt _
 ·simp
theorem context_le(c:C):c.context+768≤768*2^(c.lc+c.lp)∨8<c.lc:=by
 by_cases h8:8<c.lc
 ·exact .inr h8
 refine .inl ?_
 unfold C.context
 have h1:c.all.length%2^c.lp<2^c.lp:=Nat.mod_lt _ (Nat.two_pow_pos _)
 have h3:c.lastB 1/2^(8-c.lc)<2^c.lc:=by
  rw[Nat.div_lt_iff_lt_mul (Nat.two_pow_pos _),←Nat.pow_add,show c.lc+(8-c.lc)=8 by omega]
  exact last_lt c 1
 have h4:c.all.length%2^c.lp*2^c.lc+2^c.lc≤2^(c.lc+c.lp):=by
  rw[Nat.pow_add,Nat.mul_comm (2^c.lc)]
  have:(c.all.length%2^c.lp+1)*2^c.lc≤2^c.lp*2^c.lc:=Nat.mul_le_mul_right _ h1
  rw[Nat.add_mul,Nat.one_mul] at this
  exact this
 omega
theorem mat_reads{lc lp:Nat}(u a b:Nat)(ha:a+768≤768*2^(lc+lp)):∀(k n m:Nat)(same:Bool),n+k=8→2^n≤m→m<2^(n+1)→Reads lc lp (matOps u a b k m same) (litGo u a k m same) (m*2^k+b%2^k)
 |0,n,m,same,hn,h1,h2=>by
   have:=Reads.nil (lc:=lc) (lp:=lp) m
   exact this.of (fun _=>rfl) (by simp[Nat.mod_one])
 |k+1,n,m,same,hn,h1,h2=>by
   have hb:b/2^k%2≤1:=by omega
   have hm:m<256:=Nat.lt_of_lt_of_le h2 (Nat.pow_le_pow_right (n:=2) (by omega) (show n+1≤8 by omega))
   have hi:(a+m+if same then 256*(1+u/2^k%2) else 0)<Lz.rowLen lc lp 6:=by
    have e:Lz.rowLen lc lp 6=768*2^(lc+lp):=rfl
    rw[e]
    split<;>omega
   rw[Nat.pow_succ] at h2
   have ih:=mat_reads (lc:=lc) (lp:=lp) u a b ha k (n+1) (2*m+b/2^k%2) (same&&decide (b/2^k%2=u/2^k%2)) (by omega) (by rw[Nat.pow_succ];omega) (by rw[Nat.pow_succ,Nat.pow_succ];omega)
   have h0:=bit_reads (lc:=lc) (lp:=lp) (j:=6) (by omega) hi hb
   refine(h0.bind (g2:=fun v y=>litGo u a k (2*m+v) (same&&decide (v=u/2^k%2)) y) ih).of (fun _=>rfl) ?_
   have hq:=Nat.mod_mul (x:=b) (a:=2^k) (b:=2)
   rw[Nat.pow_succ,hq,Nat.add_mul,Nat.mul_comm 2 m,Nat.mul_assoc,Nat.mul_comm (b/2^k%2),Nat.mul_comm 2 (2^k)]
   omega
theorem lit_reads(c:C)(hc:c.Ok){b:Nat}(hb:b<256):Reads c.lc c.lp (litOps c b) (fun y=>y.literal c) b:=by
 have hx:c.context+768≤768*2^(c.lc+c.lp):=(context_le c).resolve_right (by have:=hc.l;omega)
 unfold litOps
 by_cases h:c.s.num<7
 ·rw[if_pos h]
  refine(tree_reads (lc:=c.lc) (lp:=c.lp) false (j:=6) (a:=c.context) (n:=8) (x:=b) (by omega) hb (by omega) (by show c.context+2^8≤768*2^(c.lc+c.lp);omega)).of (fun y=> ?_) rfl
  unfold Y.literal
  rw[if_pos h]
 ·rw[if_neg h]
  have:=(mat_reads (lc:=c.lc) (lp:=c.lp) (c.lastB c.s.r0) c.context b hx 8 0 1 true rfl (by omega) (by omega)).map (fun v=>v-256)
  refine this.of (fun y=> ?_) (by omega)
  unfold Y.literal
  rw[if_neg h]
theorem len_reads(c:C)(hc:c.Ok){q n:Nat}(hq:q=7∨q=11)(h1:2≤n)(h2:n≤273):Reads c.lc c.lp (lenOps c q n) (fun y=>y.length c q) n:=by
 have hp:=place_lt c hc
 have B:=fun(i b:Nat)(hi:i<2)(hb:b≤1)=>bit_reads (lc:=c.lc) (lp:=c.lp) (j:=q) (i:=i) (b:=b) (by omega) (by rcases hq with rfl|rfl<;>exact hi) hb
 have T:=fun(d a m x:Nat)(hx:x<2^m)(hm:m≤16)(ha:a+2^m≤Lz.rowLen c.lc c.lp (q+d))(hd:d≤3)=>tree_reads (lc:=c.lc) (lp:=c.lp) false (j:=q+d) (a:=a) (n:=m) (x:=x) (by omega) hx hm ha
 unfold lenOps
 by_cases k1:n<10
 ·rw[if_pos k1]
  have:=(B 0 0 (by omega) (by omega)).bind (g2:=fun v y=>if v=0 then((fun v=>2+v) (y.tree false (q+1) (8*c.place) 3).1,(y.tree false (q+1) (8*c.place) 3).2) else
   if(y.bit q 1).1=0 then(10+((y.bit q 1).2.tree false (q+2) (8*c.place) 3).1,((y.bit q 1).2.tree false (q+2) (8*c.place) 3).2) else(18+((y.bit q 1).2.tree false (q+3) 0 8).1,((y.bit q 1).2.tree false (q+3) 0 8).2)) (v2:=2+(n-2))
   (((T 1 (8*c.place) 3 (n-2) (by omega) (by omega) (by rcases hq with rfl|rfl<;>show _≤128<;>omega) (by omega)).map (fun v=>2+v)).of (fun _=>by rw[if_pos rfl]) rfl)
  exact this.of (fun _=>rfl) (by omega)
 rw[if_neg k1]
 by_cases k2:n<18
 ·rw[if_pos k2]
  have:=(B 0 1 (by omega) (by omega)).bind (g2:=fun v y=>if v=0 then(2+(y.tree false (q+1) (8*c.place) 3).1,(y.tree false (q+1) (8*c.place) 3).2) else
   if(y.bit q 1).1=0 then(10+((y.bit q 1).2.tree false (q+2) (8*c.place) 3).1,((y.bit q 1).2.tree false (q+2) (8*c.place) 3).2) else(18+((y.bit q 1).2.tree false (q+3) 0 8).1,((y.bit q 1).2.tree false (q+3) 0 8).2)) (v2:=10+(n-10))
   (((B 1 0 (by omega) (by omega)).bind (g2:=fun v y=>if v=0 then(10+(y.tree false (q+2) (8*c.place) 3).1,(y.tree false (q+2) (8*c.place) 3).2) else(18+(y.tree false (q+3) 0 8).1,(y.tree false (q+3) 0 8).2)) (v2:=10+(n-10))
     (((T 2 (8*c.place) 3 (n-10) (by omega) (by omega) (by rcases hq with rfl|rfl<;>show _≤128<;>omega) (by omega)).map (fun v=>10+v)).of (fun _=>by rw[if_pos rfl]) rfl)).of (fun _=>by rw[if_neg (by decide)]) rfl)
  exact this.of (fun _=>rfl) (by omega)
 ·rw[if_neg k2]
  have:=(B 0 1 (by omega) (by omega)).bind (g2:=fun v y=>if v=0 then(2+(y.tree false (q+1) (8*c.place) 3).1,(y.tree false (q+1) (8*c.place) 3).2) else
   if(y.bit q 1).1=0 then(10+((y.bit q 1).2.tree false (q+2) (8*c.place) 3).1,((y.bit q 1).2.tree false (q+2) (8*c.place) 3).2) else(18+((y.bit q 1).2.tree false (q+3) 0 8).1,((y.bit q 1).2.tree false (q+3) 0 8).2)) (v2:=18+(n-18))
   (((B 1 1 (by omega) (by omega)).bind (g2:=fun v y=>if v=0 then(10+(y.tree false (q+2) (8*c.place) 3).1,(y.tree false (q+2) (8*c.place) 3).2) else(18+(y.tree false (q+3) 0 8).1,(y.tree false (q+3) 0 8).2)) (v2:=18+(n-18))
     (((T 3 0 8 (n-18) (by omega) (by omega) (by rcases hq with rfl|rfl<;>show _≤256<;>omega) (by omega)).map (fun v=>18+v)).of (fun _=>by rw[if_neg (by decide)]) rfl)).of (fun _=>by rw[if_neg (by decide)]) rfl)
  exact this.of (fun _=>rfl) (by omega)
theorem restAt_le:∀s:Fin 14,4≤s.val→restAt s.val+2^(range s.val).2≤128:=by decide+kernel
theorem rest_reads{lc lp slot d:Nat}(hs:slot<64)(h1:(range slot).1≤d)(h2:d<(range slot).1+2^(range slot).2):Reads lc lp (restOps slot (d-(range slot).1)) (fun y=>y.rest slot) d:=by
 have hr:=range_le ⟨slot,hs⟩
 simp only at hr
 obtain⟨r1,r2,r3,r4,r5⟩:=hr
 unfold restOps
 by_cases k0:(range slot).2=0
 ·rw[if_pos k0]
  rw[k0] at h2
  refine(Reads.nil (lc:=lc) (lp:=lp) d).of (fun y=> ?_) rfl
  unfold Y.rest
  rw[if_pos k0]
  simp only[Prod.mk.injEq,and_true]
  omega
 rw[if_neg k0]
 by_cases k1:slot<14
 ·rw[if_pos k1]
  have h4:4≤slot:=by
   unfold range at k0
   split at k0
   ·exact absurd rfl k0
   ·omega
  have:=(tree_reads (lc:=lc) (lp:=lp) true (j:=16) (a:=restAt slot) (n:=(range slot).2) (x:=d-(range slot).1) (by omega) (by omega) (by omega) (restAt_le ⟨slot,k1⟩ h4)).map (fun v=>(range slot).1+v)
  refine this.of (fun y=> ?_) (by omega)
  unfold Y.rest
  rw[if_neg k0,if_pos k1]
 ·rw[if_neg k1]
  have e:2^(range slot).2=2^((range slot).2-4)*16:=by
   rw[show(16:Nat)=2^4 by rfl,←Nat.pow_add]
   congr 1
   have:=r4 (by omega)
   omega
  have A:=direct_reads (lc:=lc) (lp:=lp) (x:=(d-(range slot).1)/16) (n:=(range slot).2-4) (by omega)
  have B:=tree_reads (lc:=lc) (lp:=lp) true (j:=17) (a:=0) (n:=4) (x:=(d-(range slot).1)%16) (by omega) (by omega) (by omega) (show 0+2^4≤16 by decide)
  have:=A.bind (g2:=fun v y=>((range slot).1+v*16+(y.tree true 17 0 4).1,(y.tree true 17 0 4).2)) (B.map (fun x=>(range slot).1+(d-(range slot).1)/16*16+x))
  refine this.of (fun y=> ?_) (by omega)
  unfold Y.rest
  rw[if_neg k0,if_neg k1]
theorem dist_reads{lc lp n slot d:Nat}(hn:2≤n)(hs:slot<64)(h1:(range slot).1≤d)(h2:d<(range slot).1+2^(range slot).2):Reads lc lp (distOps n slot d) (fun y=>y.dist n) d:=by
 have A:=tree_reads (lc:=lc) (lp:=lp) false (j:=15) (a:=slotAt n) (n:=6) (x:=slot) (by omega) hs (by omega) (by show slotAt n+2^6≤256;unfold slotAt;omega)
 exact(A.bind (g2:=fun v y=>y.rest v) (rest_reads hs h1 h2)).of (fun _=>rfl) rfl
theorem slotOf_in{d:Nat}(h1:1≤d)(h2:d≤4294967295):slotOf d<64∧(range (slotOf d)).1≤d∧d<(range (slotOf d)).1+2^(range (slotOf d)).2:=by
 unfold slotOf
 by_cases h4:d≤4
 ·rw[if_pos h4]
  unfold range
  rw[if_pos (by omega)]
  simp only
  omega
 rw[if_neg h4]
 have hx:d-1≠0:=by omega
 have k1:=(Nat.le_log2 hx (k:=2)).2 (by omega)
 have k2:=(Nat.log2_lt hx (k:=32)).2 (by omega)
 have k3:=Nat.log2_self_le hx
 have k4:=Nat.lt_log2_self (n:=d-1)
 generalize Nat.log2 (d-1)=k at*
 obtain⟨j,rfl⟩:∃j,k=j+1:=⟨k-1,by omega⟩
 have hp:=Nat.two_pow_pos j
 have e1:2^(j+1)=2^j*2:=Nat.pow_succ ..
 have e2:2^(j+1+1)=2^j*2*2:=by rw[Nat.pow_succ,Nat.pow_succ]
 rw[e1] at k3
 rw[e2] at k4
 have hq1:2≤(d-1)/2^j:=(Nat.le_div_iff_mul_le hp).2 (by omega)
 have hq2:(d-1)/2^j<4:=(Nat.div_lt_iff_lt_mul hp).2 (by omega)
 have hdm:=Nat.div_add_mod (d-1) (2^j)
 have hml:=Nat.mod_lt (d-1) hp
 simp only[Nat.add_sub_cancel]
 unfold range
 rw[if_neg (by omega)]
 have e3:(2*(j+1)+(d-1)/2^j%2)/2-1=j:=by omega
 have e4:2+(2*(j+1)+(d-1)/2^j%2)%2=(d-1)/2^j:=by omega
 simp only[e3,e4]
 rw[Nat.mul_comm] at hdm
 exact⟨by omega,by omega,by omega⟩
structure May(c:C)(y:Sy):Prop where
 kind:y.kind=1∨y.kind=2∨y.kind=3∨y.kind=4
 byte:y.byte<256
 len:y.kind=2∨y.kind=3→isL y.len
 dist:y.kind=2→isD y.dist
 rep:y.kind=3→y.dist≤3
theorem sym_reads(c:C)(hc:c.Ok){y:Sy}(h:May c y):Reads c.lc c.lp (symOps c y) (fun x=>x.symbol c) (norm y):=by
 have hat:=at_lt c hc
 have hnum:=hc.s.num
 have B:=fun(j i b:Nat)(hj:j=0∧i=c.at∨j=1∧i=c.at∨(2≤j∧j≤5)∧i=c.s.num)(hb:b≤1)=>bit_reads (lc:=c.lc) (lp:=c.lp) (j:=j) (i:=i) (b:=b) (by omega) (by
  unfold Lz.rowLen
  rcases hj with⟨rfl,rfl⟩|⟨rfl,rfl⟩|⟨h1,rfl⟩
  ·exact hat
  ·exact hat
  ·rw[if_neg (by omega),if_pos (by omega)]
   omega) hb
 have b01:=B 0 c.at 1 (by omega) (by omega)
 unfold symOps norm
 by_cases k1:y.kind=1
 ·rw[if_pos k1,if_pos k1]
  exact((B 0 c.at 0 (by omega) (by omega)).bind (g2:=fun v x=>if v=0 then x.lit c else x.symbol1 c) (((lit_reads c hc h.byte).map (fun b=>(⟨1,b,0,0⟩:Sy))).of (fun _=>rfl) rfl)).of (fun _=>rfl) rfl
 rw[if_neg k1,if_neg k1]
 by_cases k2:y.kind=2
 ·rw[if_pos k2,if_pos k2]
  have hl:=h.len (.inl k2)
  have hd:=h.dist k2
  obtain⟨s1,s2,s3⟩:=slotOf_in hd.1 hd.2
  have hL:=len_reads c hc (.inl rfl:7=7∨7=11) hl.1 hl.2
  have hD:=dist_reads (lc:=c.lc) (lp:=c.lp) hl.1 s1 s2 s3
  exact(b01.bind (g2:=fun v x=>if v=0 then x.lit c else x.symbol1 c) (((B 2 c.s.num 0 (by omega) (by omega)).bind (g2:=fun v x=>if v=0 then x.match c else x.symbol2 c)
   ((hL.bind (g2:=fun n x=>((⟨2,0,n,(x.dist n).1⟩:Sy),(x.dist n).2)) (hD.map (fun d=>(⟨2,0,y.len,d⟩:Sy)))).of (fun _=>rfl) rfl)).of (fun _=>rfl) rfl)).of (fun _=>rfl) rfl
 rw[if_neg k2,if_neg k2]
 have b21:=B 2 c.s.num 1 (by omega) (by omega)
 have b30:=B 3 c.s.num 0 (by omega) (by omega)
 by_cases k3:y.kind=3
 ·rw[if_pos k3,if_pos k3]
  have hl:=h.len (.inr k3)
  have hr:=h.rep k3
  have hL:=len_reads c hc (.inr rfl:11=7∨11=11) hl.1 hl.2
  have R:=fun i:Nat=>(hL.map (fun n=>(⟨3,0,n,i⟩:Sy)))
  unfold repOps
  refine(b01.bind (g2:=fun v x=>if v=0 then x.lit c else x.symbol1 c) ((b21.bind (g2:=fun v x=>if v=0 then x.match c else x.symbol2 c) (v2:=⟨3,0,y.len,y.dist⟩) ?_).of (fun _=>rfl) rfl)).of (fun _=>rfl) rfl
  by_cases d0:y.dist=0
  ·rw[if_pos d0,d0]
   exact(b30.bind (g2:=fun v x=>if v=0 then x.short c else x.older c) (((B 1 c.at 1 (by omega) (by omega)).bind (g2:=fun v x=>if v=0 then(⟨4,0,0,0⟩,x) else x.repeat c 0) ((R 0).of (fun _=>rfl) rfl)).of (fun _=>rfl) rfl)).of (fun _=>rfl) rfl
  rw[if_neg d0]
  have b31:=B 3 c.s.num 1 (by omega) (by omega)
  by_cases d1:y.dist=1
  ·rw[if_pos d1,d1]
   exact(b31.bind (g2:=fun v x=>if v=0 then x.short c else x.older c) (((B 4 c.s.num 0 (by omega) (by omega)).bind (g2:=fun v x=>if v=1 then(x.bit 5 c.s.num).2.repeat c (2+(x.bit 5 c.s.num).1) else x.repeat c 1) ((R 1).of (fun _=>rfl) rfl)).of (fun _=>rfl) rfl)).of (fun _=>rfl) rfl
  rw[if_neg d1]
  exact(b31.bind (g2:=fun v x=>if v=0 then x.short c else x.older c) (((B 4 c.s.num 1 (by omega) (by omega)).bind (g2:=fun v x=>if v=1 then(x.bit 5 c.s.num).2.repeat c (2+(x.bit 5 c.s.num).1) else x.repeat c 1)
   (((B 5 c.s.num (y.dist-2) (by omega) (by omega)).bind (g2:=fun v x=>x.repeat c (2+v)) ((R (2+(y.dist-2))).of (fun _=>rfl) rfl)).of (fun _=>rfl) rfl)).of (fun _=>rfl) rfl)).of (fun _=>rfl) (by congr 1;omega)
 rw[if_neg k3,if_neg k3]
 exact(b01.bind (g2:=fun v x=>if v=0 then x.lit c else x.symbol1 c) ((b21.bind (g2:=fun v x=>if v=0 then x.match c else x.symbol2 c) ((b30.bind (g2:=fun v x=>if v=0 then x.short c else x.older c) (v2:=(⟨4,0,0,0⟩:Sy))
  (((B 1 c.at 0 (by omega) (by omega)).bind (g2:=fun v x=>if v=0 then((⟨4,0,0,0⟩:Sy),x) else x.repeat c 0) (l:=[.bit 1 c.at 0]) (m:=[]) (Reads.nil _)).of (fun _=>rfl) rfl)).of (fun _=>rfl) rfl)).of (fun _=>rfl) rfl)).of (fun _=>rfl) rfl
end En
end Go.Proofs.YtlgccpjccopdmaaGreatDoor
