/- Part 50 of 53: lemmas of the last part, each under the conditions that it names. -/
import Derived.Test.YtilegoadokmcdaaGreatDoorP33
import Derived.Test.YtilegoadokmcdaaGreatDoorP36
import Derived.Test.YtilegoadokmcdaaGreatDoorP49
set_option linter.unusedVariables false
set_option linter.unusedSimpArgs false
set_option maxRecDepth 1500
namespace Go.Proofs.YtilegoadokmcdaaGreatDoor
open Go.RowKit
namespace Ap
open Mem Win Ck Ga Wire Lz St
theorem blk_ne{w:World}{i j:Nat}{a b:Array Value}{s t:TypeId}{f g:Nat×Nat}(h1:w.heap[i]? =some (.cells a s f))(h2:w.heap[j]? =some (.cells b t g))(ht:s≠t):i≠j:=by
 rintro rfl
 rw[h1] at h2
 simp only[Option.some.injEq,Obj.cells.injEq] at h2
 exact ht h2.2.1
structure Mk(T:TypeId)(z:Nat)(mark:Value)(w0 w:World)(v:Value)(n:Nat)(P:Nat→Prop):Prop where
 ex:∃xs,Own T z w0 w v n xs∧∀i,i<n→P i→xs[i*z]? =some mark
section
variable {T:TypeId}{z n:Nat}{mark:Value}{w0 w w':World}{v:Value}{P Q:Nat→Prop}
theorem Mk.of{xs:List Value}(h:Own T z w0 w v n xs):Mk T z mark w0 w v n (fun _=>False):=⟨xs,h,fun _ _ h=>h.elim⟩
theorem Mk.step{S:Nat→Prop}(h:Mk T z mark w0 w v n P)(hf:Fr S w w')(hS:∀k,v.ownBlock=some k→¬S k):Mk T z mark w0 w' v n P:=by
 obtain⟨xs,h1,h2⟩:=h.ex
 exact⟨xs,h1.step hf hS,h2⟩
theorem Mk.keep(h:Mk T z mark w0 w v n P)(hf:Fr (fun _=>False) w w'):Mk T z mark w0 w' v n P:=h.step hf (fun _ _ h=>h)
theorem Mk.mono(h:Mk T z mark w0 w v n P)(hQ:∀i,i<n→Q i→P i):Mk T z mark w0 w v n Q:=by
 obtain⟨xs,h1,h2⟩:=h.ex
 exact⟨xs,h1,fun i hi hq=>h2 i hi (hQ i hi hq)⟩
theorem Mk.slice(h:Mk T z mark w0 w v n P):∃p cap,v=.slice p n cap:=by
 obtain⟨xs,h1,h2⟩:=h.ex
 exact h1.slice
theorem Mk.lt(h:Mk T z mark w0 w v n P):∀k,v.ownBlock=some k→k<w.heap.size:=by
 obtain⟨xs,h1,h2⟩:=h.ex
 exact h1.lt
theorem Mk.new(h:Mk T z mark w0 w v n P):∀k,v.ownBlock=some k→w0.heap.size≤k:=by
 obtain⟨xs,h1,h2⟩:=h.ex
 exact h1.new
theorem Mk.block(h:Mk T z mark w0 w v n P){k:Nat}(hk:v.ownBlock=some k):∃cur,w.heap[k]? =some (.cells cur T (0,0)):=by
 obtain⟨xs,h1,h2⟩:=h.ex
 exact h1.block hk
theorem Mk.off{i:Nat}{cs:Array Value}{t:TypeId}{fr:Nat×Nat}(h:Mk T z mark w0 w v n P)(hi:w.heap[i]? =some (.cells cs t fr))(ht:t≠T):v.ownBlock≠some i:=by
 obtain⟨xs,h1,h2⟩:=h.ex
 exact h1.off hi ht
theorem Mk.read{p:Option Addr}{cap i:Nat}(h:Mk T z mark w0 w (.slice p n cap) n P)(hi:i<n)(hP:P i):∃g,p=some ⟨g,0,none⟩∧w.cell? ⟨g,i*z,none⟩=some mark:=by
 obtain⟨xs,h1,h2⟩:=h.ex
 exact h1.cell (h2 i hi hP)
theorem Mk.at{p:Option Addr}{cap i:Nat}(h:Mk T z mark w0 w (.slice p n cap) n P)(hi:i<n)(hz:0<z):∃g cur,p=some ⟨g,0,none⟩∧w.heap[g]? =some (.cells cur T (0,0))∧n*z≤cur.size:=by
 obtain⟨xs,h1,h2⟩:=h.ex
 obtain⟨h3,h4⟩:=h1.own
 rcases h4 with⟨hn,h0⟩|⟨g,cap',cur,hgv,_,hg,hle,hm,hcs,ht⟩
 ·omega
 ·simp only[Value.slice.injEq] at hgv
  refine⟨g,cur,hgv.1,hg,?_⟩
  rw[hcs]
  exact Nat.mul_le_mul_right _ hle
theorem set_marks{xs:List Value}{j k:Nat}{u:Value}(h:∀i,i<n→P i→xs[i*z]? =some mark)(hj:∀i,i<n→P i→i*z≠j):∀i,i<n→P i→(xs.set j u)[i*z]? =some mark:=by
 intro i hi hp
 rw[List.getElem?_set_ne (fun e=>hj i hi hp e.symm)]
 exact h i hi hp
theorem Mk.cell{g cap j:Nat}(h:Mk T z mark w0 w (.slice (some ⟨g,0,none⟩) n cap) n P)(hn:0<n)(u:Value)(hj:∀i,i<n→P i→i*z≠j):Mk T z mark w0 (w.setCell ⟨g,j,none⟩ u) (.slice (some ⟨g,0,none⟩) n cap) n P:=by
 obtain⟨xs,h1,h2⟩:=h.ex
 exact⟨xs.set j u,h1.set hn u,set_marks (k:=0) h2 hj⟩
theorem Mk.put{g cap k:Nat}(h:Mk T z mark w0 w (.slice (some ⟨g,0,none⟩) n cap) n P)(hk:k<n)(hz:0<z):Mk T z mark w0 (w.setCell ⟨g,k*z,none⟩ mark) (.slice (some ⟨g,0,none⟩) n cap) n (fun i=>P i∨i=k):=by
 obtain⟨xs,h1,h2⟩:=h.ex
 refine⟨xs.set (k*z) mark,h1.set (by omega) mark,fun i hi hp=> ?_⟩
 by_cases hik:i=k
 ·subst hik
  rw[List.getElem?_set_self]
  rw[h1.own.1]
  exact Nat.mul_lt_mul_of_lt_of_le hi (Nat.le_refl _) hz
 ·rw[List.getElem?_set_ne (fun e=>hik (Nat.eq_of_mul_eq_mul_right hz e.symm))]
  exact h2 i hi (hp.resolve_right hik)
end
structure RowsK(w0 w:World)(v:Value)(vs:List Value)(ns:List Nat)(P:Nat→Nat→Prop):Prop where
 own:Own 53 1 w0 w v ns.length vs
 len:vs.length=ns.length
 each:∀(i:Nat)(x:Value)(n:Nat),vs[i]? =some x→ns[i]? =some n→Mk 68 4 (.int .i64 (60+(i:Int))) w0 w x n (P i)
 apart:∀(i j:Nat)(x y:Value)(k:Nat),i≠j→vs[i]? =some x→vs[j]? =some y→x.ownBlock=some k→y.ownBlock≠some k
theorem RowsK.of{w0 w:World}{v:Value}{rs:List (List Sy)}(h:RowsY w0 w v rs):∃vs,RowsK w0 w v vs (rs.map List.length) (fun _ _=>False):=by
 obtain⟨vs,h1,h2,h3,h4⟩:=h.ex
 refine⟨vs,by rw[List.length_map];exact h1,by rw[List.length_map];exact h2,fun i x n hx hn=> ?_,fun i j x y k hij hx hy hk hk'=> ?_⟩
 ·rw[List.getElem?_map] at hn
  cases hr:rs[i]? with
  |none=>rw[hr] at hn;cases hn
  |some l=>
    rw[hr] at hn
    simp only[Option.map_some,Option.some.injEq] at hn
    subst hn
    exact Mk.of (Own.of_syms (h3 i x l hx hr))
 ·rcases Nat.lt_or_gt_of_ne hij with h|h
  ·exact h4 i j x y k h hx hy hk hk'
  ·exact h4 j i y x k h hy hx hk' hk
theorem RowsK.step{S:Nat→Prop}{w0 w w':World}{v:Value}{vs:List Value}{ns:List Nat}{P:Nat→Nat→Prop}(h:RowsK w0 w v vs ns P)(hf:Fr S w w')(hS:∀k cs t fr,w.heap[k]? =some (.cells cs t fr)→(t=53∧v.ownBlock=some k∨t=68)→¬S k):RowsK w0 w' v vs ns P:=by
 refine⟨h.own.step hf (fun k hk=> ?_),h.len,fun i x n hx hn=>(h.each i x n hx hn).step hf (fun k hk=> ?_),h.apart⟩
 ·obtain⟨cur,hc⟩:=h.own.block hk
  exact hS k _ _ _ hc (.inl ⟨rfl,hk⟩)
 ·obtain⟨cur,hc⟩:=(h.each i x n hx hn).block hk
  exact hS k _ _ _ hc (.inr rfl)
theorem RowsK.keep{w0 w w':World}{v:Value}{vs:List Value}{ns:List Nat}{P:Nat→Nat→Prop}(h:RowsK w0 w v vs ns P)(hf:Fr (fun _=>False) w w'):RowsK w0 w' v vs ns P:=h.step hf (fun _ _ _ _ _ _ h=>h)
theorem RowsK.mono{w0 w:World}{v:Value}{vs:List Value}{ns:List Nat}{P Q:Nat→Nat→Prop}(h:RowsK w0 w v vs ns P)(hQ:∀i n j,ns[i]? =some n→j<n→Q i j→P i j):RowsK w0 w v vs ns Q:=
 ⟨h.own,h.len,fun i x n hx hn=>(h.each i x n hx hn).mono (fun j hj hq=>hQ i n j hn hj hq),h.apart⟩
theorem RowsK.get{w0 w:World}{v:Value}{vs:List Value}{ns:List Nat}{P:Nat→Nat→Prop}(h:RowsK w0 w v vs ns P){i:Nat}(hi:i<ns.length):∃x n,vs[i]? =some x∧ns[i]? =some n:=
 ⟨vs[i]'(by rw[h.len];exact hi),ns[i],List.getElem?_eq_getElem _,List.getElem?_eq_getElem _⟩
theorem RowsK.put{w0 w w':World}{v x:Value}{vs:List Value}{ns:List Nat}{P:Nat→Nat→Prop}{I n:Nat}{Q:Nat→Prop}(h:RowsK w0 w v vs ns P)(hx:vs[I]? =some x)(hn:ns[I]? =some n)(hf:Fr (fun k=>x.ownBlock=some k) w w')(hm:Mk 68 4 (.int .i64 (60+(I:Int))) w0 w' x n Q):
 RowsK w0 w' v vs ns (fun i j=>if i=I then Q j else P i j):=by
 refine⟨h.own.step hf (fun k hk e=> ?_),h.len,fun i y m hy hm'=> ?_,h.apart⟩
 ·obtain⟨cur,hc⟩:=(h.each I x n hx hn).block e
  exact h.own.off hc (by decide) hk
 ·by_cases hi:i=I
  ·subst hi
   rw[hx] at hy
   rw[hn] at hm'
   simp only[Option.some.injEq] at hy hm'
   subst hy hm'
   simp only[if_true]
   exact hm
  ·simp only[if_neg hi]
   exact(h.each i y m hy hm').step hf (fun k hk e=>h.apart I i x y k (Ne.symm hi) hx hy e hk)
structure A(w wr:World)(dv cv sv:Value)(nd nc:Nat)(vs:List Value)(ns:List Nat)(Pd Pc:Nat→Prop)(Ps:Nat→Nat→Prop)(zb:Nat)(bx:Array Value):Prop where
 fr:Fr (fun _=>False) w wr
 box:wr.heap[zb]? =some (.cells bx 24 (0,0))
 d:Mk 5 1 (.int .u8 1) w wr dv nd Pd
 c:Mk 52 6 (.int .i64 50) w wr cv nc Pc
 s:RowsK w wr sv vs ns Ps
section
variable {w wr w':World}{dv cv sv:Value}{nd nc:Nat}{vs:List Value}{ns:List Nat}{Pd Pc:Nat→Prop}{Ps:Nat→Nat→Prop}{zb:Nat}{bx:Array Value}
theorem A.keep(h:A w wr dv cv sv nd nc vs ns Pd Pc Ps zb bx)(hf:Fr (fun _=>False) wr w'):A w w' dv cv sv nd nc vs ns Pd Pc Ps zb bx:=⟨h.fr.trans hf,hf.keep h.box (fun h=>h),h.d.keep hf,h.c.keep hf,h.s.keep hf⟩
theorem A.onD{Q:Nat→Prop}(h:A w wr dv cv sv nd nc vs ns Pd Pc Ps zb bx)(hf:Fr (fun k=>dv.ownBlock=some k) wr w')(hd:Mk 5 1 (.int .u8 1) w w' dv nd Q):A w w' dv cv sv nd nc vs ns Q Pc Ps zb bx:=by
 refine⟨h.fr.trans' hf (fun k hk e=>by have:=h.d.new k e;omega),hf.keep h.box (h.d.off h.box (by decide)),hd,h.c.step hf (fun k hk e=> ?_),h.s.step hf (fun k cs t fr hk ht e=> ?_)⟩
 ·obtain⟨cur,hc⟩:=h.d.block e
  exact h.c.off hc (by decide) hk
 ·exact h.d.off hk (by rcases ht with⟨rfl,_⟩|rfl<;>decide) e
theorem A.onC{Q:Nat→Prop}(h:A w wr dv cv sv nd nc vs ns Pd Pc Ps zb bx)(hf:Fr (fun k=>cv.ownBlock=some k) wr w')(hc:Mk 52 6 (.int .i64 50) w w' cv nc Q):A w w' dv cv sv nd nc vs ns Pd Q Ps zb bx:=by
 refine⟨h.fr.trans' hf (fun k hk e=>by have:=h.c.new k e;omega),hf.keep h.box (h.c.off h.box (by decide)),h.d.step hf (fun k hk e=> ?_),hc,h.s.step hf (fun k cs t fr hk ht e=> ?_)⟩
 ·obtain⟨cur,hcu⟩:=h.c.block e
  exact h.d.off hcu (by decide) hk
 ·exact h.c.off hk (by rcases ht with⟨rfl,_⟩|rfl<;>decide) e
theorem A.onS{x:Value}{I n:Nat}{Q:Nat→Prop}(h:A w wr dv cv sv nd nc vs ns Pd Pc Ps zb bx)(hx:vs[I]? =some x)(hn:ns[I]? =some n)(hf:Fr (fun k=>x.ownBlock=some k) wr w')(hm:Mk 68 4 (.int .i64 (60+(I:Int))) w w' x n Q):A w w' dv cv sv nd nc vs ns Pd Pc (fun i j=>if i=I then Q j else Ps i j) zb bx:=by
 have hM:=h.s.each I x n hx hn
 refine⟨h.fr.trans' hf (fun k hk e=>by have:=hM.new k e;omega),hf.keep h.box (hM.off h.box (by decide)),h.d.step hf (fun k hk e=> ?_),h.c.step hf (fun k hk e=> ?_),h.s.put hx hn hf hm⟩
 ·obtain⟨cur,hcu⟩:=hM.block e
  exact h.d.off hcu (by decide) hk
 ·obtain⟨cur,hcu⟩:=hM.block e
  exact h.c.off hcu (by decide) hk
end
end Ap
namespace Ap
open Mem Win Ck Ga Wire Lz St
structure More(w wb wr:World)(vs:List Value)(ns:List Nat)(mv:Value)(I:Nat)(ms:List Value):Prop where
 own:Own 53 1 wb wr mv I ms
 len:ms.length=I
 each:∀(i:Nat)(y:Value)(n:Nat),ms[i]? =some y→ns[i]? =some n→Mk 68 4 (.int .i64 (60+(i:Int))) w wr y (n+1) (fun j=>j<n)
 sep:∀(i j:Nat)(y x:Value)(k:Nat),ms[i]? =some y→vs[j]? =some x→i≠j→y.ownBlock=some k→x.ownBlock≠some k
theorem More.nil(w wb wr:World)(vs:List Value)(ns:List Nat):More w wb wr vs ns (.slice none 0 0) 0 []:=⟨Own.nil _ _ _ _,rfl,fun i y n h=>by simp at h,fun i j y x k h=>by simp at h⟩
section
variable {w wb wr w':World}{dv cv sv mv:Value}{nd nc I:Nat}{vs ms:List Value}{ns:List Nat}{Pd Pc:Nat→Prop}{Ps:Nat→Nat→Prop}{zb:Nat}{bx:Array Value}
theorem More.step{S:Nat→Prop}(h:More w wb wr vs ns mv I ms)(hn:I≤ns.length)(hf:Fr S wr w')(hm:∀k,mv.ownBlock=some k→¬S k)(hy:∀(i:Nat)(y:Value)(k:Nat),ms[i]? =some y→y.ownBlock=some k→¬S k):More w wb w' vs ns mv I ms:=
 ⟨h.own.step hf hm,h.len,fun i y n h1 h2=>(h.each i y n h1 h2).step hf (fun k hk=>hy i y k h1 hk),h.sep⟩
theorem More.keep(h:More w wb wr vs ns mv I ms)(hn:I≤ns.length)(hf:Fr (fun _=>False) wr w'):More w wb w' vs ns mv I ms:=h.step hn hf (fun _ _ h=>h) (fun _ _ _ _ _ h=>h)
theorem More.blk(h:More w wb wr vs ns mv I ms)(hn:I≤ns.length){i k:Nat}{y:Value}(hi:ms[i]? =some y)(hk:y.ownBlock=some k):∃cur,wr.heap[k]? =some (.cells cur 68 (0,0)):=by
 have hl:=(List.getElem?_eq_some_iff.1 hi).1
 rw[h.len] at hl
 exact(h.each i y _ hi (List.getElem?_eq_getElem (Nat.lt_of_lt_of_le hl hn))).block hk
theorem More.app1{x:Value}(h:More w wb wr vs ns mv I ms)(hn:I<ns.length)(hx:vs[I]? =some x)(hX:∀k,x.ownBlock=some k→∃cur,wr.heap[k]? =some (.cells cur 68 (0,0)))(hf:Fr (fun k=>x.ownBlock=some k) wr w'):More w wb w' vs ns mv I ms:=by
 refine h.step (by omega) hf (fun k hk e=> ?_) (fun i y k hi hk e=> ?_)
 ·obtain⟨cur,hc⟩:=hX k e
  exact h.own.off hc (by decide) hk
 ·have hl:=(List.getElem?_eq_some_iff.1 hi).1
  rw[h.len] at hl
  exact h.sep i I y x k hi hx (by omega) hk e
theorem More.app2{x y mv2:Value}{n:Nat}(h:More w wb wr vs ns mv I ms)(hn:I<ns.length)(hnn:ns[I]? =some n)(hx:vs[I]? =some x)(hO:Own 53 1 wb w' mv2 (I+1) (ms++[y]))(hf:Fr (fun k=>mv.ownBlock=some k) wr w')(hy:Mk 68 4 (.int .i64 (60+(I:Int))) w wr y (n+1) (fun j=>j<n))
 (hs:∀(j:Nat)(z:Value)(k:Nat),vs[j]? =some z→I≠j→y.ownBlock=some k→z.ownBlock≠some k):More w wb w' vs ns mv2 (I+1) (ms++[y]):=by
 have hoff:∀{u:Value}{m:Nat}{mark:Value}{P:Nat→Prop},Mk 68 4 mark w wr u m P→∀k,u.ownBlock=some k→¬mv.ownBlock=some k:=by
  intro u m mark P hu k hk e
  obtain⟨cur,hc⟩:=hu.block hk
  exact h.own.off hc (by decide) e
 have hat:∀{i:Nat}{u:Value},(ms++[y])[i]? =some u→i<I∧ms[i]? =some u∨i=I∧u=y:=by
  intro i u hu
  by_cases hi:i<ms.length
  ·rw[List.getElem?_append_left hi] at hu
   exact .inl ⟨h.len ▸ hi,hu⟩
  ·have hl:=(List.getElem?_eq_some_iff.1 hu).1
   rw[List.length_append,List.length_singleton] at hl
   have he:i=ms.length:=by omega
   subst he
   rw[List.getElem?_append_right (Nat.le_refl _),Nat.sub_self] at hu
   simp only[List.getElem?_cons_zero,Option.some.injEq] at hu
   exact .inr ⟨h.len,hu.symm⟩
 refine⟨hO,by rw[List.length_append,List.length_singleton,h.len],fun i u m hu hm=> ?_,fun i j u z k hu hz hij hk=> ?_⟩
 ·rcases hat hu with⟨hi,hu⟩|⟨rfl,rfl⟩
  ·exact(h.each i u m hu hm).step hf (hoff (h.each i u m hu hm))
  ·rw[hnn] at hm
   simp only[Option.some.injEq] at hm
   subst hm
   exact hy.step hf (hoff hy)
 ·rcases hat hu with⟨hi,hu⟩|⟨rfl,rfl⟩
  ·exact h.sep i j u z k hu hz hij hk
  ·exact hs j z k hz hij hk
theorem A.onM(h:A w wr dv cv sv nd nc vs ns Pd Pc Ps zb bx)(hO:Own 53 1 wb wr mv I ms)(hbs:∀k,sv.ownBlock=some k→k<wb.heap.size)(hwb:w.heap.size≤wb.heap.size)(hf:Fr (fun k=>mv.ownBlock=some k) wr w'):A w w' dv cv sv nd nc vs ns Pd Pc Ps zb bx:=by
 refine⟨h.fr.trans' hf (fun k hk e=>by have:=hO.new k e;omega),hf.keep h.box (hO.off h.box (by decide)),h.d.step hf (fun k hk e=> ?_),h.c.step hf (fun k hk e=> ?_),h.s.step hf (fun k cs t fr hk ht e=> ?_)⟩
 ·obtain⟨cur,hc⟩:=h.d.block hk
  exact hO.off hc (by decide) e
 ·obtain⟨cur,hc⟩:=h.c.block hk
  exact hO.off hc (by decide) e
 ·rcases ht with⟨rfl,h2⟩|rfl
  ·have h3:=hbs k h2
   have h4:=hO.new k e
   omega
  ·exact hO.off hk (by decide) e
end
theorem Mk.longer{T:TypeId}{z n m:Nat}{mark:Value}{w0 w:World}{v:Value}{xs ys:List Value}(h:Own T z w0 w v m (xs++ys))(hl:xs.length=n*z)(hz:0<z)(hm:∀i,i<n→xs[i*z]? =some mark):Mk T z mark w0 w v m (fun j=>j<n):=
 ⟨_,h,fun i _ hi=>by
  rw[List.getElem?_append_left (by rw[hl];exact Nat.mul_lt_mul_of_lt_of_le hi (Nat.le_refl _) hz)]
  exact hm i hi⟩
end Ap
end Go.Proofs.YtilegoadokmcdaaGreatDoor
