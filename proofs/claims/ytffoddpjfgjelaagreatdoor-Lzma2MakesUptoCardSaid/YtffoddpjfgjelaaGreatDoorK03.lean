/- Part 3 of 54: lemmas of the last part, each under the conditions that it names. -/
import Derived.Test.YtffoddpjfgjelaaGreatDoorRows
import Derived.WalkKit
import Derived.WalkSpells
import Derived.Lib.Hide
import Derived.WalkLawsBesides
import Derived.Deep.RegionWith
import Derived.Deep.RegionHeld3
import Derived.Deep.DeepCutAuto
import Derived.Deep.CutBlock
import Derived.Recover
import Derived.Orders
import Derived.Test.YtffoddpjfgjelaaGreatDoorK02
set_option linter.unusedVariables false
set_option linter.unusedSimpArgs false
set_option maxRecDepth 1500
set_option maxHeartbeats 8000000
namespace Go.Proofs.YtffoddpjfgjelaaGreatDoor
open Go.RowKit
namespace Prob
theorem bnd_in(r p:Int)(d:0≤r)(e:r≤4294967295):r/2048*taken p%4294967296=bnd r p:=by
 have a:=taken_lo p;have b:=taken_hi p;unfold bnd;have c:0≤r/2048*taken p:=Int.mul_nonneg (by omega) a;have f:r/2048*taken p≤2097151*2047:=Int.mul_le_mul (by omega) b a (by omega);exact Int.emod_eq_of_lt c (by omega)
theorem ret_int{k:IntKind}{a b:Int}(h:a=b):Ending.returned (.int k a)=.returned (.int k b):=by rw[h]
theorem taken_calls(p:Int)(w:World):
 Calls Tryz.prog 308 #[.int .i64 p] w fun e a=>e=.returned (.int .i64 (taken p))∧w=a:=by
 go_enter Tryz.func308,Tryz.ntmps308;go_wp2;all_goals go_ret
 all_goals refine⟨ret_int ?_,rfl⟩
 all_goals(unfold taken;repeat' split)
 all_goals omega
theorem next_calls(p b:Int)(w:World):
 Calls Tryz.prog 307 #[.int .i64 p,.int .i64 b] w fun e a=>e=.returned (.int .i64 (next p b))∧w=a:=by
 have c:=taken_lo p;have d:=taken_hi p;go_enter Tryz.func307,Tryz.ntmps307;go_wp2_with ((with_reducible refine(taken_calls _ _).mono ?_);rintro e a ⟨rfl,rfl⟩);all_goals go_ret
 all_goals refine⟨ret_int ?_,rfl⟩
 all_goals simp only[beq_iff_eq,beq_eq_false_iff_ne] at*
 all_goals(unfold next;first|rw[if_pos (by assumption)]|rw[if_neg (by assumption)])
theorem boundR_calls(r p:Int)(w:World)(b:0≤r)(c:r≤4294967295):
 Calls Tryz.prog 293 #[.int .u32 r,.int .i64 p] w fun e a=>e=.returned (.int .u32 (bnd r p))∧w=a:=by
 have d:=taken_lo p;have f:=taken_hi p;go_enter Tryz.func293,Tryz.ntmps293;go_wp2_with ((with_reducible refine(taken_calls _ _).mono ?_);rintro e a ⟨rfl,rfl⟩);all_goals go_ret
 all_goals refine⟨ret_int ?_,rfl⟩
 all_goals exact bnd_in r p b c
end Prob
namespace Prob
open Mem
theorem rep_at(a:Array Value)(k:Nat)(h:k<a.size)(v:Value):((List.replicate k v).toArray++a.extract k a.size)[k]? =a[k]? :=by
 rw[Array.getElem?_append];simp[Array.getElem?_extract];omega
theorem rep_set(a:Array Value)(k:Nat)(h:k<a.size)(v:Value):
 ((List.replicate k v).toArray++a.extract k a.size).setIfInBounds k v=(List.replicate (k+1) v).toArray++a.extract (k+1) a.size:=by
 apply Array.ext_getElem?;intro i;rw[Array.getElem?_setIfInBounds,Array.getElem?_append,Array.getElem?_append];by_cases b:k=i
 ·subst b;simp[h];omega
 ·rw[if_neg b]
  by_cases c:i<k
  ·simp[c,show i<k+1 by omega]
  ·simp[show¬i<k by omega,show¬i<k+1 by omega,Array.getElem?_extract]
   rw[show k+1+(i-(k+1))=k+(i-k) by omega];by_cases d:i<a.size
   ·rw[if_pos (by omega),if_pos (by omega)]
   ·rw[if_neg (by omega),if_neg (by omega)]
theorem len_calls(b g n a:Nat)(w:World)(d:w.cell? ⟨b,0,none⟩=some (.slice (some ⟨g,0,none⟩) n a)):
 Calls Tryz.prog 319 #[.pointer (some ⟨b,0,none⟩)] w fun e c=>e=.returned (.int .i64 n)∧w=c:=by
 go_enter Tryz.func319,Tryz.ntmps319;go_wp2;go_ret;exact⟨rfl,rfl⟩
theorem has_calls(b:Nat)(p:Option Addr)(n a:Nat)(i:Int)(w:World)(h:w.cell? ⟨b,0,none⟩=some (.slice p n a)):
 Calls Tryz.prog 306 #[.pointer (some ⟨b,0,none⟩),.int .i64 i] w fun e c=>e=.returned (.int .i64 (if 0≤i∧i<n then 0 else 7))∧w=c:=by
 by_cases d:i<0
 ·go_enter Tryz.func306,Tryz.ntmps306
  go_wp2;go_ret;exact⟨rfl,rfl⟩
 ·have f:0≤i:=by omega
  have j:decide (i<0)=false:=by simp;omega
  by_cases g:(n:Int)≤i;all_goals
   go_enter Tryz.func306,Tryz.ntmps306;go_wp2;go_ret;exact⟨rfl,rfl⟩
theorem turn_in(b g n f i:Nat)(h:Array Value)(p a:Int)(w:World)(j:w.heap[b]? =some (.cells #[.slice (some ⟨g,0,none⟩) n f] 360 (0,0)))
 (d:w.heap[g]? =some (.cells h 3 (0,0)))(x:i<n)(s:n≤maxLen)(m:h[i]? =some (.int .i64 p))(q:b≠g):
 Calls Tryz.prog 291 #[.pointer (some ⟨b,0,none⟩),.int .i64 i,.int .i64 a] w fun e c=>e=.returned (.int .i64 0)∧
  Fr (fun k=>k=g) w c∧c.heap[g]? =some (.cells (h.setIfInBounds i (.int .i64 (next p a))) 3 (0,0))∧c.heap.size=w.heap.size:=by
 have l:=cell_in (i:=0) j rfl;have r:=cell_in d m;have v:=frozen_in d i;have t:=Hd j;have o:=Hd d;have u:=Hd m;clear j d m;unfold maxLen at s;go_enter Tryz.func291,Tryz.ntmps291;go_wp2_with ((with_reducible refine(has_calls _ _ _ _ _ _ l).mono ?_);rintro e c ⟨rfl,rfl⟩);go_region_with ((with_reducible refine(next_calls _ _ _).mono ?_);rintro e c ⟨rfl,rfl⟩);all_goals go_wp2
 all_goals go_ret
 all_goals exact⟨rfl,(Fr.one _ _ _ _).drew,set_in o.out _ _,by simp⟩
theorem reset_calls(b g n l:Nat)(a:Array Value)(w:World)(m:w.heap[b]? =some (.cells #[.slice (some ⟨g,0,none⟩) n l] 360 (0,0)))
 (r:w.heap[g]? =some (.cells a 3 (0,0)))(A:n≤maxLen)(B:n≤a.size)(o:b≠g):
 Calls Tryz.prog 233 #[.pointer (some ⟨b,0,none⟩)] w fun e p=>e=.returned (.tuple #[])∧
  Fr (fun k=>k=g) w p∧p.heap[g]? =some (.cells ((List.replicate n (.int .i64 1024)).toArray++a.extract n a.size) 3 (0,0))∧p.heap.size=w.heap.size:=by
 have x:=cell_in (i:=0) m rfl;have t:=Hd m;have u:=Hd r;clear m r;unfold maxLen at A;go_enter Tryz.func233,Tryz.ntmps233;go_wp2;go_loopw [8](fun i wr=>∃k:Nat,k≤n∧i=.int .i64 k∧Fr (fun k=>k=g) w wr∧wr.heap.size=w.heap.size∧
  wr.heap[g]? =some (.cells ((List.replicate k (.int .i64 1024)).toArray++a.extract k a.size) 3 (0,0))) (fun i _=>n-(intOf i).toNat)
 case atStart=>exact⟨0,by omega,rfl,Fr.refl _ _,rfl,by rw[u.out];simp⟩
 case round=>
  obtain⟨k,C,rfl,d,j,f⟩:=hrel;have q:=cell_in (i:=0) (d.keep t.out o) rfl;have y:=frozen_in f k;have c:=Hd f;clear f;by_cases z:k<n
  ·have h:wr.cell? ⟨g,k,none⟩=a[k]? :=by
    rw[cell_of_row _ _ _ _ _ _ c.out];exact rep_at a k (by omega) _
   obtain⟨v,s⟩:∃v,a[k]? =some v:=⟨a[k]'(by omega),by simp⟩;rw[s] at h;clear s;go_wp2;go_roundw;case rel=>exact⟨k+1,by omega,by go_num,d.trans (Fr.one _ _ _ _),by simpa using j,by rw[set_in c.out,rep_set a k (by omega)]⟩
   case measure=>simp[intOf];omega
  ·obtain rfl:k=n:=by omega
   go_wp2;go_end0;exact⟨rfl,d,c.out,j⟩
theorem at_in(b g n a i:Nat)(p:Int)(w:World)(d:w.cell? ⟨b,0,none⟩=some (.slice (some ⟨g,0,none⟩) n a))
 (h:w.cell? ⟨g,i,none⟩=some (.int .i64 p))(j:i<n)(f:n≤maxLen):
 Calls Tryz.prog 288 #[.pointer (some ⟨b,0,none⟩),.int .i64 i] w fun e c=>e=.returned (.tuple #[.int .i64 p,.int .i64 0])∧w=c:=by
 unfold maxLen at f;go_enter Tryz.func288,Tryz.ntmps288;go_wp2_with ((with_reducible refine(has_calls _ _ _ _ _ _ d).mono ?_);rintro e c ⟨rfl,rfl⟩);go_ret2;exact⟨rfl,rfl⟩
end Prob
namespace Prob
open Mem
theorem infoInt:(Tryz.prog.info? 3).map (fun i=>(i.zero,i.size,i.bytes))=some (some (.int .i64 0),1,8):=by kernel_rfl
theorem make_ints(n:Nat)(h:n≤35184372088832)(W:World):
 (Instr.makeSlice 94 (.int .i64 n) (.int .i64 n)).run Tryz.prog W=.ok (.slice (some ⟨W.heap.size,0,none⟩) n n) (W.alloc (.cells (Array.replicate n (.int .i64 0)) 3)):=by
 obtain⟨i,b,d,c,a⟩:=info_parts infoInt;have:=run_make (P:=Tryz.prog) W 94 3 i (.int .i64 0) Tryz.underlying94 b d .i64 .i64 n n (by omega) (by omega) (by rw[a];omega) (by omega);rw[this,c,Int.toNat_natCast,Nat.mul_one];have e:madeCells (Value.int .i64 0).cells n=Array.replicate n (Value.int .i64 0):=by
  apply Array.ext
  ·simp[madeCells]
  ·intro k f g
   simp[madeCells,Value.cells,Nat.mod_one]
 rw[e]
theorem new_in(n:Nat)(w:World)(p:n≤1048576):
 Calls Tryz.prog 174 #[.int .i64 n] w fun e d=>e=.returned (.tuple #[.pointer (some ⟨w.heap.size+1,0,none⟩),.int .i64 0])∧
  Fr (fun _=>False) w d∧d.heap[w.heap.size+1]? =some (.cells #[.slice (some ⟨w.heap.size,0,none⟩) n n] 360 (0,0))∧
  d.heap[w.heap.size]? =some (.cells (List.replicate n (.int .i64 1024)).toArray 3 (0,0))∧d.heap.size=w.heap.size+2:=by
 go_enter Tryz.func174,Tryz.ntmps174;have m:=make_ints n (by omega);go_wp2_with fail;refine(reset_calls (w.heap.size+1) w.heap.size n n (Array.replicate n (.int .i64 0)) _ (heap_alloc2_new w _ _) (heap_alloc2_old w _ _) (by simp only[maxLen];omega) (by simp) (by omega)).mono ?_;rintro e o ⟨rfl,a,g,b⟩;have c:Fr (fun _=>False) w o:=(((R0 w).alloc _).alloc _).trans' a (fun i hi(h:i=_)=>by omega);have f:=a.keep (heap_alloc2_new w _ _) (by simp);simp only[World.size_alloc] at b;have k:=Hd g;have j:=Hd f;have l:=Hd b;clear g f a b;go_wp2;go_ret2;exact⟨rfl,c,j.out,by rw[k.out];simp,l.out⟩
end Prob
namespace Prob
open Mem
def nextN(p bit:Nat):Nat:=if bit=0 then p+(2048-p)/32 else p-p/32
theorem next_nat (p a:Nat) (b:p≤2047):next (p:Int) (a:Int)=(nextN p a:Int):=by
 unfold next nextN;rw[taken_id _ (by omega) (by omega)];by_cases h:a=0
 ·rw[if_pos (by omega),if_pos h];omega
 ·rw[if_neg (by omega),if_neg h];omega
theorem nextN_le(p a:Nat)(b:p≤2047):nextN p a≤2047:=by unfold nextN;split<;>omega
def SetAt(w:World)(b g:Nat)(ps:List Nat):Prop:=
 ∃cap cs,w.heap[b]? =some (.cells #[.slice (some ⟨g,0,none⟩) ps.length cap] 360 (0,0))∧w.heap[g]? =some (.cells cs 3 (0,0))∧ps.length≤cap∧cap≤maxLen∧
  (∀(i:Nat)(p:Nat),ps[i]? =some p→cs[i]? =some (.int .i64 p)∧p≤2047)∧(∀(j:Nat)(x:Value),cs[j]? =some x→∃n:Int,x=.int .i64 n)
theorem SetAt.apart{w:World}{b g:Nat}{ps:List Nat}(h:SetAt w b g ps):b≠g:=by
 obtain⟨c,e,d,a,_⟩:=h;rintro rfl;rw[d] at a;simp at a
theorem SetAt.lt{w:World}{b g:Nat}{ps:List Nat}(h:SetAt w b g ps):b<w.heap.size∧g<w.heap.size:=by
 obtain⟨a,e,c,d,_⟩:=h;exact⟨lt_of_block c,lt_of_block d⟩
theorem SetAt.step{S:Nat→Prop}{w w':World}{b g:Nat}{ps:List Nat}(h:SetAt w b g ps)(a:Fr S w w')(j:¬S b)(k:¬S g):SetAt w' b g ps:=by
 obtain⟨c,d,e,f,i⟩:=h;exact⟨c,d,a.keep e j,a.keep f k,i⟩
theorem SetAt.keep{w w':World}{b g:Nat}{ps:List Nat}(h:SetAt w b g ps)(a:Fr (fun _=>False) w w'):SetAt w' b g ps:=h.step a (fun h=>h) (fun h=>h)
theorem at_set(b g i p:Nat)(ps:List Nat)(w:World)(h:SetAt w b g ps)(c:ps[i]? =some p):
 Calls Tryz.prog 288 #[.pointer (some ⟨b,0,none⟩),.int .i64 i] w fun e l=>e=.returned (.tuple #[.int .i64 p,.int .i64 0])∧w=l:=by
 obtain⟨a,m,d,f,n,o,j,q⟩:=h;have k:=(List.getElem?_eq_some_iff.1 c).1;exact at_in b g ps.length a i p w (cell_in d rfl) (cell_in f (j i p c).1) k (by omega)
theorem turn_set(b g i p a:Nat)(ps:List Nat)(w:World)(h:SetAt w b g ps)(u:ps[i]? =some p):
 Calls Tryz.prog 291 #[.pointer (some ⟨b,0,none⟩),.int .i64 i,.int .i64 a] w fun e r=>e=.returned (.int .i64 0)∧Fr (fun k=>k=g) w r∧SetAt r b g (ps.set i (nextN p a)):=by
 have l:=h.apart;obtain⟨f,v,s,y,z,A,t,B⟩:=h;have E:=(List.getElem?_eq_some_iff.1 u).1;have o:=t i p u;refine(turn_in b g ps.length f i v p a w s y E (by omega) o.1 l).mono ?_;rintro e r ⟨rfl,m,D,_⟩;refine⟨rfl,m,f,_,by rw[List.length_set];exact m.keep s l,D,by rw[List.length_set];exact z,A,fun j q c=> ?_,fun j x d=> ?_⟩
 ·have C:=(Array.getElem?_eq_some_iff.1 o.1).1
  rw[List.getElem?_set] at c;rw[Array.getElem?_setIfInBounds];by_cases n:i=j
  ·rw[if_pos n] at c ⊢
   rw[if_pos (by omega)] at c;rw[if_pos (by omega)];obtain rfl:=Option.some.inj c;exact⟨by rw[next_nat p a o.2],nextN_le p a o.2⟩
  ·rw[if_neg n] at c ⊢
   exact t j q c
 ·rw[Array.getElem?_setIfInBounds] at d
  split at d
  ·split at d
   ·exact⟨_,(Option.some.inj d).symm⟩
   ·cases d
  ·exact B j x d
end Prob
namespace Lz
open Mem St
abbrev ptr(n:Nat):Value:=.pointer (some ⟨n,0,none⟩)
structure Row1(w w':World)(x:Nat×Nat×Nat):Prop where
 fr:Fr (fun _=>False) w w'
 set:Prob.SetAt w' x.1 x.2.1 (List.replicate x.2.2 1024)
 lo:w.heap.size≤x.1∧w.heap.size≤x.2.1
structure Rows(w0 w:World)(l:List (Nat×Nat×Nat)):Prop where
 fr:Fr (fun _=>False) w0 w
 set:∀x ∈ l,Prob.SetAt w x.1 x.2.1 (List.replicate x.2.2 1024)
 lo:∀x ∈ l,w0.heap.size≤x.1∧w0.heap.size≤x.2.1
 pair:l.Pairwise (fun x y=>x.2.1<y.2.1)
theorem Rows.start(w:World):Rows w w []:=⟨Fr.refl _ _,by simp,by simp,by simp⟩
theorem Rows.keep{w0 w w':World}{l:List (Nat×Nat×Nat)}(h:Rows w0 w l)(a:Fr (fun _=>False) w w'):Rows w0 w' l:=
 ⟨h.fr.trans a,fun x b=>(h.set x b).keep a,h.lo,h.pair⟩
theorem Rows.snoc{w0 w w':World}{l:List (Nat×Nat×Nat)}(h:Rows w0 w l){x:Nat×Nat×Nat}(b:Row1 w w' x):Rows w0 w' (l++[x]):=by
 refine⟨h.fr.trans b.fr,fun y a=> ?_,fun y a=> ?_,?_⟩
 ·rcases List.mem_append.1 a with a|a
  ·exact(h.set y a).keep b.fr
  ·rw[List.mem_singleton.1 a]
   exact b.set
 ·rcases List.mem_append.1 a with a|a
  ·exact h.lo y a
  ·rw[List.mem_singleton.1 a]
   have:=h.fr.size;have:=b.lo;omega
 ·rw[List.pairwise_append]
  refine⟨h.pair,by simp,fun y a z c=> ?_⟩;rw[List.mem_singleton.1 c];have d:=(h.set y a).lt.2;have e:=b.lo.2;omega
theorem Rows.join{w0 w w':World}{l m:List (Nat×Nat×Nat)}(h:Rows w0 w l)(k:Rows w w' m):Rows w0 w' (l++m):=by
 refine⟨h.fr.trans k.fr,fun y a=> ?_,fun y a=> ?_,?_⟩
 ·rcases List.mem_append.1 a with a|a
  ·exact(h.set y a).keep k.fr
  ·exact k.set y a
 ·rcases List.mem_append.1 a with a|a
  ·exact h.lo y a
  ·have:=h.fr.size
   have:=k.lo y a;omega
 ·rw[List.pairwise_append]
  refine⟨h.pair,k.pair,fun y a z b=> ?_⟩;have c:=(h.set y a).lt.2;have d:=(k.lo z b).2;omega
theorem Rows.fin{w0 W w w':World}{l:List (Nat×Nat×Nat)}(h:Rows W w l)(c:Fr (fun _=>False) w0 W)(a:Fr (fun k=>w0.heap.size≤k∧k<W.heap.size) w w'):Rows w0 w' l:=by
 have e:=c.size;refine⟨(c.trans h.fr).trans' a (fun i d h=>by omega),fun x b=>(h.set x b).step a ?_ ?_,fun x b=> ?_,h.pair⟩
 ·have:=(h.lo x b).1
  omega
 ·have:=(h.lo x b).2
  omega
 ·have:=h.lo x b
  omega
theorem row_calls(n:Nat)(w:World)(s:n≤1048576):
 Calls Tryz.prog 112 #[.int .i64 n] w fun e u=>∃b g,e=.returned (ptr b)∧Row1 w u (b,g,n):=by
 have q:=Hd (Prob.new_in n w s);go_enter Tryz.func112,Tryz.ntmps112;go_wp2_with fail;refine q.out.mono ?_;rintro e y ⟨rfl,a,h,k,f⟩;have m:=Hd a;have l:=Hd h;have o:=Hd k;clear a h k f;go_wp2_with fail;go_ret;refine⟨_,w.heap.size,rfl,m.out,⟨n,_,?_,o.out,by simp,by simp only[maxLen];omega,?_,?_⟩,by simp⟩
 ·rw[List.length_replicate]
  exact l.out
 ·intro i p d
  have c:=(List.getElem?_eq_some_iff.1 d).1;simp only[List.length_replicate] at c;rw[List.getElem?_replicate,if_pos c] at d;obtain rfl:=Option.some.inj d;simp[c]
 ·intro j x t
  obtain⟨v,r⟩:=Array.getElem?_eq_some_iff.1 t;exact⟨1024,by rw[←r];simp⟩
theorem lengths_calls(w:World):
 Calls Tryz.prog 113 #[] w fun e D=>∃a n b o c p d q,e=.returned (.agg #[ptr a,ptr b,ptr c,ptr d])∧Rows w D [(a,n,2),(b,o,128),(c,p,128),(d,q,256)]:=by
 have f:=(R0 w).alloc (.cells #[.pointer none,.pointer none,.pointer none,.pointer none] 214);have x:=heap_alloc_new w (.cells #[.pointer none,.pointer none,.pointer none,.pointer none] 214);have j:=Hd f;have C:=Hd x;clear f x;go_enter Tryz.func113,Tryz.ntmps113;go_wp2_with fail;refine(row_calls 2 _ (by omega)).mono ?_;rintro e I ⟨a,n,rfl,r⟩;have y:=Hd ((Rows.start _).snoc r);have g:=r.fr.keep C.out (fun h=>h);have k:=Hd g;clear r g;go_wp2_with fail;refine(row_calls 128 _ (by omega)).mono ?_;rintro e J ⟨b,o,rfl,s⟩;have z:=Hd (y.out.snoc s);have l:=Hd (s.fr.keep k.out (fun h=>h));clear s;go_wp2_with fail;refine(row_calls 128 _ (by omega)).mono ?_;rintro e K ⟨c,p,rfl,t⟩;have A:=Hd (z.out.snoc t);have m:=Hd (t.fr.keep l.out (fun h=>h));clear t;go_wp2_with fail;refine(row_calls 256 _ (by omega)).mono ?_;rintro e L ⟨d,q,rfl,u⟩;have B:=Hd (A.out.snoc u);have i:=u.fr.keep m.out (fun h=>h);obtain⟨E,F,G,H,M⟩:=cf4 i rfl rfl rfl rfl;clear u i;go_wp2_with fail;refine bodyPost_ret (v:=.agg #[ptr a,ptr b,ptr c,ptr d]) (by simp[results,Tryz.results113,go_sem,E,F,G,H]) rfl ?_;refine⟨a,n,b,o,c,p,d,q,rfl,B.out.fin j.out ?_⟩;repeat refine Fr.setCell ?_ (.inl (by simp)) _
 exact Fr.refl _ _
def tabV(lc lp pb:Nat)(s:S)(b:Nat→Nat):Array Value:=
 #[.int .i64 lc,.int .i64 lp,.int .i64 pb,.int .i64 s.num,.int .i64 s.r0,.int .i64 s.r1,.int .i64 s.r2,.int .i64 s.r3,
  ptr (b 0),ptr (b 1),ptr (b 2),ptr (b 3),ptr (b 4),ptr (b 5),ptr (b 6),ptr (b 7),ptr (b 8),ptr (b 9),ptr (b 10),ptr (b 11),ptr (b 12),ptr (b 13),ptr (b 14),ptr (b 15),ptr (b 16),ptr (b 17)]
structure Tab(w:World)(T:Nat)(b g:Nat→Nat)(lc lp pb:Nat)(s:S)(ps:Nat→List Nat):Prop where
 box:w.heap[T]? =some (.cells (tabV lc lp pb s b) 217 (0,0))
 set:∀j,j<18→Prob.SetAt w (b j) (g j) (ps j)
 inj:∀i j,i<18→j<18→g i=g j→i=j
def fresh(lc lp:Nat):Nat→List Nat:=fun j=>List.replicate (rowLen lc lp j) 1024
theorem pairwise_at{α:Type}{R:α→α→Prop}{l:List α}(h:l.Pairwise R){i j:Nat}{x y:α}(d:l[i]? =some x)(e:l[j]? =some y)(a:i<j):R x y:=by
 obtain⟨b,rfl⟩:=List.getElem?_eq_some_iff.1 d;obtain⟨c,rfl⟩:=List.getElem?_eq_some_iff.1 e;exact List.pairwise_iff_getElem.1 h i j b c a
theorem rows_tab{w0 w:World}{l:List (Nat×Nat×Nat)}{T lc lp pb:Nat}{s:S}(h:Rows w0 w l)(n:l.map (fun x=>x.2.2)=(List.range 18).map (rowLen lc lp))
 (q:w.heap[T]? =some (.cells (tabV lc lp pb s (fun j=>(l.getD j (0,0,0)).1)) 217 (0,0))):
 Tab w T (fun j=>(l.getD j (0,0,0)).1) (fun j=>(l.getD j (0,0,0)).2.1) lc lp pb s (fresh lc lp)∧∀j,j<18→w0.heap.size≤(l.getD j (0,0,0)).1∧w0.heap.size≤(l.getD j (0,0,0)).2.1:=by
 have o:l.length=18:=by
  have:=congrArg List.length n;simpa using this
 have f:∀j,j<18→∃x,l[j]? =some x∧l.getD j (0,0,0)=x∧x ∈ l∧x.2.2=rowLen lc lp j:=by
  intro j a;refine⟨l[j]'(by omega),by simp,by simp[List.getD_eq_getElem?_getD,List.getElem?_eq_getElem (show j<l.length by omega)],List.getElem_mem _,?_⟩;have:=congrArg (fun m=>m[j]?) n;simp only[List.getElem?_map,List.getElem?_range,a,List.getElem?_eq_getElem (show j<l.length by omega)] at this;simpa using this
 refine⟨⟨q,fun j a=> ?_,fun i j r a k=> ?_⟩,fun j a=> ?_⟩
 ·obtain⟨x,d,c,e,g⟩:=f j a
  simp only[c,fresh,←g];exact h.set x e
 ·obtain⟨x,d,c,e,g⟩:=f i r
  obtain⟨y,p,t,u,v⟩:=f j a;simp only[c,t] at k;rcases Nat.lt_trichotomy i j with b|rfl|b
  ·have:=pairwise_at h.pair d p b
   omega
  ·rfl
  ·have:=pairwise_at h.pair p d b
   omega
 ·obtain⟨x,d,c,e,g⟩:=f j a
  rw[c];exact h.lo x e
theorem row_k(n:Nat)(k:Int)(a:k=n)(w:World)(c:n≤1048576):
 Calls Tryz.prog 112 #[.int .i64 k] w fun e d=>∃b g,e=.returned (ptr b)∧Row1 w d (b,g,n):=by
 subst a;exact row_calls n w c
theorem new_st(w:World):Calls Tryz.prog 34 #[] w fun e a=>e=.returned (.agg #[.int .i64 0,.int .i64 1,.int .i64 1,.int .i64 1,.int .i64 1])∧Fr (fun _=>False) w a:=new_calls w
def NewPost(lc lp pb:Nat)(w:World)(e:Ending)(w':World):Prop:=
 ∃T b g,e=.returned (ptr T)∧Fr (fun _=>False) w w'∧Tab w' T b g lc lp pb S.new (fresh lc lp)∧w.heap.size≤T∧∀j,j<18→w.heap.size≤b j∧w.heap.size≤g j
set_option maxRecDepth 100000 in
theorem tables_calls(lc lp pb:Nat)(w:World)(J:lc+lp≤4):
 Calls Tryz.prog 65 #[.agg #[.int .i64 lc,.int .i64 lp,.int .i64 pb]] w (NewPost lc lp pb w):=by
 have r:=(R0 w).alloc (.cells #[.int .i64 lc,.int .i64 lp,.int .i64 pb] 24);have t:=heap_alloc_new w (.cells #[.int .i64 lc,.int .i64 lp,.int .i64 pb] 24);have P:IntKind.i64.wrap ((lc:Int)+lp)=((lc+lp:Nat):Int):=by rw[IntWalk.i64_in _ (by omega)];omega
 have k:=Hd r;go_enter Tryz.func65,Tryz.ntmps65;go_wp2_with fail;generalize u:w.alloc (.cells #[.int .i64 lc,.int .i64 lp,.int .i64 pb] 24)=W at*;have K:=Hd (t);have c:=Hd (Rows.start W.drew);have l:=Hd (show∀w':World,Fr (fun _=>False) W w'→w'.cell? ⟨w.heap.size,0,none⟩=some (.int .i64 lc)∧w'.cell? ⟨w.heap.size,1,none⟩=some (.int .i64 lp)∧w'.cell? ⟨w.heap.size,2,none⟩=some (.int .i64 pb) from fun w' h=>
  ⟨cell_in (i:=0) (h.keep t (fun h=>h)) rfl,cell_in (i:=1) (h.keep t (fun h=>h)) rfl,cell_in (i:=2) (h.keep t (fun h=>h)) rfl⟩)
 have a:=Hd (l.out W.drew (Fr.refl _ _).drew);obtain⟨y,z,A⟩:=a.out;clear t r u;have D:Hid (768*2^(lc+lp)≤1048576∧IntKind.i64.wrap (768*2^((lc:Int)+lp).toNat:Int)=((768*2^(lc+lp):Nat):Int)):=by
  have X:2^(lc+lp)≤16:=Nat.pow_le_pow_right (n:=2) (by omega) J;have F:((lc:Int)+lp).toNat=lc+lp:=by omega
  have G:(768*2^(lc+lp):Int)=((768*2^(lc+lp):Nat):Int):=by simp
  rw[F,G];exact Hd ⟨by omega,IntWalk.i64_in _ (by omega)⟩
 have p:=fun W=>Hd (row_k 192 192 rfl W (by omega));have v:=fun W=>Hd (row_k 12 12 rfl W (by omega));have q:=fun W=>Hd (row_k 256 256 rfl W (by omega));have m:=fun W=>Hd (row_k 128 128 rfl W (by omega));have x:=fun W=>Hd (row_k 16 16 rfl W (by omega));have E:=fun W=>Hd (row_k (768*2^(lc+lp)) _ D.out.2 W D.out.1);go_region_held3 (fun w'=>w'.cell? ⟨w.heap.size,0,none⟩=some (.int .i64 lc)∧w'.cell? ⟨w.heap.size,1,none⟩=some (.int .i64 lp)∧w'.cell? ⟨w.heap.size,2,none⟩=some (.int .i64 pb)) (first|with_reducible exact a.out|exact l.out _ (((Fr.refl _ W).drew.trans c.out.fr).alloc _)) ((first
  | (go_at_call 34
     refine(new_st _).mono ?_;rintro e wc ⟨rfl,d⟩;have c:=Hd (c.out.keep d);have a:=Hd (l.out _ ((Fr.refl _ W).drew.trans c.out.fr));obtain⟨y,z,A⟩:=a.out;clear d)
  | (go_at_call 112
     first
      |(with_reducible refine(p _).out.mono ?_)
      |(with_reducible refine(v _).out.mono ?_)
      |(with_reducible refine(q _).out.mono ?_)
      |(with_reducible refine(m _).out.mono ?_)
      |(with_reducible refine(x _).out.mono ?_)
      |(with_reducible refine(E _).out.mono ?_)
     rintro e wc ⟨b,g,rfl,f⟩;have c:=Hd (c.out.snoc f);have a:=Hd (l.out _ ((Fr.refl _ W).drew.trans c.out.fr));obtain⟨y,z,A⟩:=a.out;clear f)
  | (go_at_call 113
     refine(lengths_calls _).mono ?_;rintro e wc ⟨L,Q,M,R,N,U,O,V,rfl,f⟩;have c:=Hd (c.out.join f);have a:=Hd (l.out _ ((Fr.refl _ W).drew.trans c.out.fr));obtain⟨y,z,A⟩:=a.out;clear f)))
 have u:=k.out.size;go_wp2_with fail;go_ret;obtain⟨f,H⟩:=rows_tab (T:=wc.heap.size) (lc:=lc) (lp:=lp) (pb:=pb) (s:=S.new) (c.out.keep ((R0 wc).alloc _)) (by rfl) (heap_alloc_new wc _);have C:=fun o=>k.out.trans (((R0 W).drew.trans c.out.fr).alloc o);have Y:=((R0 W).drew.trans c.out.fr).size;refine⟨wc.heap.size,_,_,rfl,C _,f,by omega,fun j I=> ?_⟩;have B:=H j I;simp only[World.size_drew] at B;exact⟨Nat.le_trans u B.1,Nat.le_trans u B.2⟩
end Lz
namespace St
open Mem
theorem step_copy_rep{b:Array Oper}{o:Oper}{a:Act}{w:World}{K:Act→World→Prop}{Q:Exit→Act→World→Prop}{E:Prop}(c:o.guard=none)(d s:Operand)
 (i:o.op=.call {callee:=.builtin .copy,args:=#[d,s],argTypes:=#[94,94]})(g k:Nat)(cs:List Value)(cur:Array Value)(T:TypeId)
 (hd:a.eval d=.slice (some ⟨g,2,none⟩) 3 3)(hs:a.eval s=.slice (some ⟨g,1,none⟩) k 4)(hg:w.heap[g]? =some (.cells cur T (0,0)))(hn:cs.length=k)(hk:k≤3)
 (hsrc:∀j v,cs[j]? =some v→w.cell? ⟨g,1+j,none⟩=some v)(h1:∀v ∈ cs,v.oneCell'=true)(hfit:2+k≤cur.size)
 (h:∀w',w'.heap[g]? =some (.cells (cur.toList.take 2++cs++cur.toList.drop (2+cs.length)).toArray T (0,0))→Fr (fun j=>j=g) w w'→K (a.put o.dst (.int .i64 (k:Int))) w'):
 if Region.wanted o (yielded b a.tmps)=true then Oper.wp Tryz.prog o a w K Q else E:=by
 have m:Region.wanted o (yielded b a.tmps)=true:=by simp[Region.wanted,c]
 rw[if_pos m];have l:=run_copy_row (P:=Tryz.prog) w 94 94 o.type 3 g 2 3 3 ⟨g,1,none⟩ k 4 cur T cs Tryz.underlying94 (by kernel_rfl) hg (by rw[hn];exact(Nat.min_eq_left hk).symm) (fun j v hj=>by rw[add_mid];exact hsrc j v hj) (by omega) h1;unfold Oper.wp;simp[execOp,i,resolve,invoke,builtin,hd,hs,l,Result.andThen,hn];have f:=h _ (setRow_heap w g _ _ T _ hg) ⟨rfl,rfl,rfl,by simp[World.setRow],fun j hj e=>setRow_other w g j _ e⟩;simp only[List.append_assoc,hn] at f;exact f
theorem rep_src{w:World}{h k:Nat}{q c d r2 e:Nat}{T:TypeId}{fr:Nat×Nat}(b:w.heap[h]? =some (.cells #[.int .i64 q,.int .i64 c,.int .i64 d,.int .i64 r2,.int .i64 e] T fr)):∀(j:Nat)(v:Value),(([.int .i64 c,.int .i64 d,.int .i64 r2]:List Value).take k)[j]? =some v→w.cell? ⟨h,1+j,none⟩=some v:=by
 intro j v a;rw[List.getElem?_take] at a;split at a
 ·match j,a with
  |0,a=>exact cell_in b (by simpa using a)
  |1,a=>exact cell_in b (by simpa using a)
  |2,a=>exact cell_in b (by simpa using a)
  |j+3,a=>simp at a
 ·cases a
theorem step_rep{c:Array Oper}{o:Oper}{a:Act}{w:World}{K:Act→World→Prop}{X:Exit→Act→World→Prop}{E:Prop}(k:Nat)(e:k≤3)(b:o.guard=none)(d s:Operand)
 (f:o.op=.call {callee:=.builtin .copy,args:=#[d,s],argTypes:=#[94,94]}){g q r0 r1 r2 r3:Nat}(hg:w.heap[g]? =some (.cells #[.int .i64 q,.int .i64 r0,.int .i64 r1,.int .i64 r2,.int .i64 r3] 84 (0,0)))
 (hd:a.eval d=.slice (some ⟨g,2,none⟩) 3 3)(hs:a.eval s=.slice (some ⟨g,1,none⟩) k 4)
 (h:∀w',w'.heap[g]? =some (.cells ((#[.int .i64 q,.int .i64 r0,.int .i64 r1,.int .i64 r2,.int .i64 r3]:Array Value).toList.take 2++([.int .i64 r0,.int .i64 r1,.int .i64 r2]:List Value).take k++(#[.int .i64 q,.int .i64 r0,.int .i64 r1,.int .i64 r2,.int .i64 r3]:Array Value).toList.drop (2+(([.int .i64 r0,.int .i64 r1,.int .i64 r2]:List Value).take k).length)).toArray 84 (0,0))→Fr (fun j=>j=g) w w'→K (a.put o.dst (.int .i64 (k:Int))) w'):
 if Region.wanted o (yielded c a.tmps)=true then Oper.wp Tryz.prog o a w K X else E:=
 step_copy_rep b d s f g k _ _ _ hd hs hg (by simp;omega) e (rep_src hg) (fun v hv=>by have:=List.mem_of_mem_take hv;simp at this;rcases this with rfl|rfl|rfl<;>rfl) (by simp;omega) h
set_option maxRecDepth 100000 in
theorem rep_slices(h:Nat):(∀W,(Instr.sliceAt 82 (.pointer (some ⟨h,1,none⟩)) (some (.int .i64 1)) none none).run Tryz.prog W=.ok (.slice (some ⟨h,2,none⟩) 3 3) W)∧(∀W,(Instr.sliceAt 82 (.pointer (some ⟨h,1,none⟩)) none (some (.int .i64 0)) none).run Tryz.prog W=.ok (.slice (some ⟨h,1,none⟩) 0 4) W)∧(∀W,(Instr.sliceAt 82 (.pointer (some ⟨h,1,none⟩)) none (some (.int .i64 1)) none).run Tryz.prog W=.ok (.slice (some ⟨h,1,none⟩) 1 4) W)∧
 (∀W,(Instr.sliceAt 82 (.pointer (some ⟨h,1,none⟩)) none (some (.int .i64 2)) none).run Tryz.prog W=.ok (.slice (some ⟨h,1,none⟩) 2 4) W)∧∀W,(Instr.sliceAt 82 (.pointer (some ⟨h,1,none⟩)) none (some (.int .i64 3)) none).run Tryz.prog W=.ok (.slice (some ⟨h,1,none⟩) 3 4) W:=
 ⟨fun _=>by kernel_rfl,fun _=>by kernel_rfl,fun _=>by kernel_rfl,fun _=>by kernel_rfl,fun _=>by kernel_rfl⟩
abbrev q5(m a b c d:Int):Array Value:=#[.int .i64 m,.int .i64 a,.int .i64 b,.int .i64 c,.int .i64 d]
set_option maxRecDepth 100000 in
theorem next_core(n m o r2 p:Nat)(hs:(⟨n,m,o,r2,p⟩:S).Ok)(K y:Int)(l q:Nat)(D:Int)(w:World)(hT:Tabs w)(V:Array Value)(E:Int)
    (P:K=1∧litL.getD n 0=q∧V=q5 q m o r2 p∧E=0∨K=4∧shortL.getD n 0=q∧V=q5 q m o r2 p∧E=0∨
      (∃d:Nat,D=d∧K=2∧decide (2≤l∧l≤273)=true∧decide (1≤d∧d≤4294967295)=true∧matchL.getD n 0=q∧V=q5 q d m o r2∧E=0)∨
      (∃d:Nat,D=d∧K=2∧decide (2≤l∧l≤273)=true∧decide (1≤d∧d≤4294967295)=false∧V=q5 0 0 0 0 0∧E=7)∨
      (K=2∨K=3)∧decide (2≤l∧l≤273)=false∧V=q5 0 0 0 0 0∧E=7∨
      K=3∧decide (2≤l∧l≤273)=true∧repL.getD n 0=q∧E=0∧(D=0∧V=q5 q m o r2 p∨D=1∧V=q5 q o m r2 p∨D=2∧V=q5 q r2 m o p∨D=3∧V=q5 q p m o r2)):
    Calls Tryz.prog 126 #[.agg #[.int .i64 n,.int .i64 m,.int .i64 o,.int .i64 r2,.int .i64 p],.agg #[.int .i64 K,.int .u8 y,.int .i64 l,.int .i64 D]] w fun e w'=>e=.returned (.tuple #[.agg V,.int .i64 E])∧Fr (fun _=>False) w w':=by
  have HR:=fun W=>Hd (show Calls Tryz.prog 185 #[.agg #[.int .i64 n,.int .i64 m,.int .i64 o,.int .i64 r2,.int .i64 p]] W _ from right_calls ⟨n,m,o,r2,p⟩ hs W);have Q:=hs.num;simp only at Q;clear hs;obtain⟨O,j,f,a⟩:=box3 w #[.int .i64 n,.int .i64 m,.int .i64 o,.int .i64 r2,.int .i64 p] #[.int .i64 K,.int .u8 y,.int .i64 l,.int .i64 D];have z:=Hd j;have A:=Hd f;have B:=Hd a;have C:=Hd O;have HT:=Hd hT;have F:=Hd P;clear O hT j f a P;go_enter Tryz.func126,Tryz.ntmps126;go_wp2_with fail;refine(HR _).out.mono ?_;rintro e R ⟨rfl,g⟩;have j:=g.keep z.out (fun h=>h);have f:=g.keep A.out (fun h=>h);have a:=g.keep B.out (fun h=>h);have Y:=Hd (C.out.trans g);have x:=Hd (HT.out.keep (C.out.trans g));obtain⟨s0,s1,s2,s3,s4,sf⟩:=cf5 j rfl rfl rfl rfl rfl;have y0:=cell_in (i:=0) f rfl;have y2:=cell_in (i:=2) f rfl;have y3:=cell_in (i:=3) f rfl;obtain⟨z0,z1,z2,z3,z4,zf⟩:=cf5 a rfl rfl rfl rfl rfl;have a2:=lt_of_block a;have a1:=HT.out.size;clear z A B;have z:=Hd j;have A:=Hd f;have B:=Hd a;clear g j f a HR C;generalize Z:w.heap.size=b0 at*;have HH:=Hd Z;clear Z;obtain⟨rfl,t,b,c⟩|⟨rfl,t,b,c⟩|⟨d,rfl,rfl,s,H,t,b,c⟩|⟨d,rfl,rfl,s,H,b,c⟩|⟨P,s,b,c⟩|⟨rfl,s,t,c,H⟩:=F.out;focus
    have I:=tab_at x.out.lit (n:=n) Q;rw[t] at I;have b:=Hd b;have c:=Hd c;clear t F;go_wp2_with fail
  rotate_left;focus
    have I:=tab_at x.out.short (n:=n) Q;rw[t] at I;have b:=Hd b;have c:=Hd c;clear t F;go_wp2_with fail
  rotate_left;focus
    have I:=tab_at x.out.mat (n:=n) Q;rw[t] at I;have b:=Hd b;have c:=Hd c;have G:=Hd s;have X:=Hd H;clear t F s H;go_wp2_with fail;refine(len_calls l _).mono ?_;rw[G.out];rintro e J ⟨rfl,rfl⟩;go_wp2_with fail;refine(dist_calls d _).mono ?_;rw[X.out];rintro e J ⟨rfl,rfl⟩;go_wp2_with fail
  rotate_left;focus
    have b:=Hd b;have c:=Hd c;have G:=Hd s;have X:=Hd H;clear F s H;go_wp2_with fail;refine(len_calls l _).mono ?_;rw[G.out];rintro e J ⟨rfl,rfl⟩;go_wp2_with fail;refine(dist_calls d _).mono ?_;rw[X.out];rintro e J ⟨rfl,rfl⟩;go_wp2_with fail
  rotate_left;focus
    have b:=Hd b;have c:=Hd c;have G:=Hd s;clear F s;rcases P with rfl|rfl;all_goals
      go_wp2_with fail;refine(len_calls l _).mono ?_;rw[G.out];rintro e J ⟨rfl,rfl⟩;go_wp2_with fail
  rotate_left;rotate_left;focus
    have I:=tab_at x.out.rep (n:=n) Q;rw[t] at I;have c:=Hd c;have G:=Hd s;clear t F s;obtain⟨rfl,b⟩|⟨rfl,b⟩|⟨rfl,b⟩|⟨rfl,b⟩:=H;all_goals
      have b:=Hd b;go_wp2_with fail;refine(len_calls l _).mono ?_;rw[G.out];rintro e J ⟨rfl,rfl⟩;go_wp2_with fail;have M:(R.setCell ⟨b0,0,none⟩ (.int .i64 q)).drew.heap[b0]? =some (.cells #[.int .i64 q,.int .i64 m,.int .i64 o,.int .i64 r2,.int .i64 p] 84 (0,0)):=set_in z.out 0 _;have N:(R.setCell ⟨b0,0,none⟩ (.int .i64 q)).drew.heap[b0+1+1]? =_:=set_out B.out (by omega) _;have u:=Hd M;have U:=Hd N;have a0:=cell_in (i:=3) (show(R.setCell ⟨b0,0,none⟩ (.int .i64 q)).drew.heap[b0+1]? =_ from set_out A.out (by omega) _) rfl;clear M N;obtain⟨l1,l2,l3,l4,l5⟩:=rep_slices b0
      go_region_law ((first
                      |(refine step_rep 0 (by decide) rfl _ _ rfl u.out ?_ ?_ ?_;(focus simp[Act.eval,Act.put];done);(focus simp[Act.eval,Act.put];done))
                      |(refine step_rep 1 (by decide) rfl _ _ rfl u.out ?_ ?_ ?_;(focus simp[Act.eval,Act.put];done);(focus simp[Act.eval,Act.put];done))
                      |(refine step_rep 2 (by decide) rfl _ _ rfl u.out ?_ ?_ ?_;(focus simp[Act.eval,Act.put];done);(focus simp[Act.eval,Act.put];done))
                      |(refine step_rep 3 (by decide) rfl _ _ rfl u.out ?_ ?_ ?_;(focus simp[Act.eval,Act.put];done);(focus simp[Act.eval,Act.put];done)))
                     intro J a r;try simp only[List.length_cons,List.length_nil,List.take,List.drop,List.append,List.cons_append,List.nil_append] at a
                     have hz:=r.keep U.out (fun(e:_=_)=>by omega);obtain⟨s0,s1,s2,s3,s4,sf⟩:=cf5 a rfl rfl rfl rfl rfl;obtain⟨z0,z1,z2,z3,z4,zf⟩:=cf5 hz rfl rfl rfl rfl rfl;have L:=Hd r;clear a hz r)
      go_wp2_with fail
  all_goals
    refine bodyPost_ret (v:=.tuple #[.agg V,.int .i64 E]) (by rw[b.out,c.out];simp[results,Tryz.results126,go_sem,z0,z1,z2,z3,z4]) rfl ?_;have Z:=HH.out;refine⟨rfl,Y.out.trans' (S:=fun _=>False) (T:=fun k=>b0≤k) ?_ (fun i hi P=>by omega)⟩;repeat refine Fr.setCell ?_ (.inl (by simp;try omega)) _
    first
      |exact Fr.refl _ _
      |exact((Fr.one R b0 0 (.int .i64 q)).drew.trans L.out).mono (fun k _(h:k=b0)=>by omega)
theorem next_lit(s:S)(b:s.Ok)(y:Int)(l d:Nat)(w:World)(a:Tabs w):
 Calls Tryz.prog 126 #[.agg s.cells,.agg #[.int .i64 1,.int .u8 y,.int .i64 l,.int .i64 d]] w fun e c=>e=.returned (.tuple #[.agg s.lit.cells,.int .i64 0])∧Fr (fun _=>False) w c:=
 next_core s.num s.r0 s.r1 s.r2 s.r3 b 1 y l _ d w a _ 0 (.inl ⟨rfl,rfl,rfl,rfl⟩)
end St
namespace St
open Mem
structure Sy where
 kind:Nat
 byte:Nat
 len:Nat
 dist:Nat
def Sy.cells(y:Sy):Array Value:=#[.int .i64 y.kind,.int .u8 y.byte,.int .i64 y.len,.int .i64 y.dist]
structure Sy.Ok(y:Sy):Prop where
 kind:y.kind=1∨y.kind=2∨y.kind=3∨y.kind=4
 dist:y.kind=3→y.dist≤3
 byte:y.byte<256
abbrev isL(n:Nat):Prop:=2≤n∧n≤273
def S.zero:S:=⟨0,0,0,0,0⟩
def S.next(s:S)(y:Sy):Nat×S:=
 if y.kind=1 then(0,s.lit) else if y.kind=4 then(0,s.short) else if y.kind=2 then(if isL y.len then(if isD y.dist then(0,s.mat y.dist) else(7,.zero)) else(7,.zero))
 else if isL y.len then(0,s.rep y.dist) else(7,.zero)
theorem S.next_ok{s:S}(b:s.Ok){y:Sy}(a:(s.next y).1=0):(s.next y).2.Ok:=by
 unfold S.next at*;split
 ·exact b.lit
 ·rename_i h1
  rw[if_neg h1] at a;split
  ·exact b.short
  ·rename_i h2
   rw[if_neg h2] at a;split
   ·rename_i h3
    rw[if_pos h3] at a;split
    ·rename_i h4
     rw[if_pos h4] at a;split
     ·rename_i h5
      exact b.mat h5
     ·rename_i h5
      rw[if_neg h5] at a;simp at a
    ·rename_i h4
     rw[if_neg h4] at a;simp at a
   ·rename_i h3
    rw[if_neg h3] at a;split
    ·exact b.rep
    ·rename_i h4
     rw[if_neg h4] at a;simp at a
theorem S.next_err(s:S)(y:Sy):(s.next y).1=0∨(s.next y).1=7:=by
 unfold S.next;repeat' split
 all_goals first|exact .inl rfl|exact .inr rfl
theorem next_calls(s:S)(g:s.Ok)(y:Sy)(q:y.Ok)(w:World)(f:Tabs w):
 Calls Tryz.prog 126 #[.agg s.cells,.agg y.cells] w fun e r=>e=.returned (.tuple #[.agg (s.next y).2.cells,.int .i64 (s.next y).1])∧Fr (fun _=>False) w r:=by
 obtain⟨kind,a,b,dist⟩:=y;obtain⟨m,l,o⟩:=q;simp only at m l o;obtain⟨n,h,i,j,k⟩:=s;simp only[Sy.cells,S.next];rcases m with rfl|rfl|rfl|rfl
 ·exact next_core n h i j k g 1 a b _ dist w f _ 0 (.inl ⟨rfl,rfl,rfl,rfl⟩)
 ·rw[if_neg (by decide),if_neg (by decide),if_pos rfl]
  by_cases c:isL b
  ·rw[if_pos c]
   by_cases d:isD dist
   ·rw[if_pos d]
    exact next_core n h i j k g 2 a b _ dist w f _ 0 (.inr (.inr (.inl ⟨dist,rfl,rfl,decide_eq_true c,decide_eq_true d,rfl,rfl,rfl⟩)))
   ·rw[if_neg d]
    exact next_core n h i j k g 2 a b 0 dist w f _ 7 (.inr (.inr (.inr (.inl ⟨dist,rfl,rfl,decide_eq_true c,decide_eq_false d,rfl,rfl⟩))))
  ·rw[if_neg c]
   exact next_core n h i j k g 2 a b 0 dist w f _ 7 (.inr (.inr (.inr (.inr (.inl ⟨.inl rfl,decide_eq_false c,rfl,rfl⟩)))))
 ·rw[if_neg (by decide),if_neg (by decide),if_neg (by decide)]
  by_cases c:isL b
  ·rw[if_pos c]
   have p:=l rfl;refine next_core n h i j k g 3 a b _ dist w f _ 0 (.inr (.inr (.inr (.inr (.inr ⟨rfl,decide_eq_true c,rfl,rfl,?_⟩)))));obtain rfl|rfl|rfl|rfl:dist=0∨dist=1∨dist=2∨dist=3:=by omega
   ·exact .inl ⟨rfl,rfl⟩
   ·exact .inr (.inl ⟨rfl,rfl⟩)
   ·exact .inr (.inr (.inl ⟨rfl,rfl⟩))
   ·exact .inr (.inr (.inr ⟨rfl,rfl⟩))
  ·rw[if_neg c]
   exact next_core n h i j k g 3 a b 0 dist w f _ 7 (.inr (.inr (.inr (.inr (.inl ⟨.inr rfl,decide_eq_false c,rfl,rfl⟩)))))
 ·rw[if_neg (by decide),if_pos rfl]
  exact next_core n h i j k g 4 a b _ dist w f _ 0 (.inr (.inl ⟨rfl,rfl,rfl,rfl⟩))
theorem new_at(w0 w:World)(h:Fr (fun _=>False) w0 w):Calls Tryz.prog 34 #[] w fun e a=>e=.returned (.agg S.new.cells)∧Fr (fun _=>False) w a:=new_calls w
def size(y:Sy):Nat:=if(S.new.next y).1=0 then(if y.kind=2∨y.kind=3 then y.len else 1) else 0
end St
namespace St
open Mem Win
def distOf(s:S)(y:Sy):Nat:=if y.kind=2 then y.dist else if y.kind=3 then repAt s y.dist else s.r0
def lenOfSy(y:Sy):Nat:=if y.kind=4 then 1 else y.len
def apply(size:Nat)(all:List UInt8)(s:S)(y:Sy):Nat×List UInt8×S:=
 if(s.next y).1=0 then
  if y.kind=1 then(0,[UInt8.ofNat y.byte],(s.next y).2)
  else if 1≤distOf s y∧distOf s y≤min size all.length then(0,copied all (distOf s y) (lenOfSy y),(s.next y).2)
  else(7,[],.zero)
 else((s.next y).1,[],.zero)
structure Done(w:World)(B size:Nat)(rv:Value)(all bytes:List UInt8)(v:Value)(w':World):Prop where
 fr:Fr (fun k=>k=B∨rv.ownBlock=some k) w w'
 mine:Mine w w' v bytes
 win:∃rv' ring' t',Win.At w' B rv' size (all++bytes) ring' t'∧(∀k,rv'.ownBlock=some k→rv.ownBlock=some k∨w.heap.size≤k)∧(∀k,v.ownBlock=some k→rv'.ownBlock≠some k)
theorem Done.fin{w d wx p:World}{B size g:Nat}{rv v:Value}{all bytes:List UInt8}(n:Fr (fun _=>False) w d)(h:Done d B size rv all bytes v wx)(a:Fr (fun k=>k=g) wx p)(t:w.heap.size≤g)(u:g<d.heap.size)(y:B<w.heap.size)(j:∀k,rv.ownBlock=some k→k<w.heap.size):Done w B size rv all bytes v p:=by
 obtain⟨q,f,l,c,x,r,m,s⟩:=h;have o:=n.size;refine⟨((n.mono (fun _ _ h=>h.elim)).trans q).trans' a (fun i hi(e:i=g)=>by omega),⟨(f.step a (fun k b(e:k=g)=>by have:=f.new k b;omega)).own,fun k b=>Nat.le_trans o (f.new k b)⟩,l,c,x,r.keep a (fun(e:B=g)=>by omega) (fun k b(e:k=g)=> ?_),fun k b=>(m k b).imp id (Nat.le_trans o),s⟩;rcases m k b with h|h
 ·have:=j k h
  omega
 ·omega
theorem next_len(s:S)(y:Sy)(a:(s.next y).1=0)(b:y.kind=2∨y.kind=3):y.len≤273:=by
 by_cases c:isL y.len
 ·exact c.2
 ·exfalso
  unfold S.next at a;rcases b with b|b
  ·rw[if_neg (by omega),if_neg (by omega),if_pos b,if_neg c] at a
   simp at a
  ·rw[if_neg (by omega),if_neg (by omega),if_neg (by omega),if_neg c] at a
   simp at a
theorem copy_all(B size t d n:Nat)(rv:Value)(all ring:List UInt8)(w:World)(h:Win.At w B rv size all ring t)(s:n≤273)(b:all.length≤1152921504606846000):
 Calls Tryz.prog 197 #[.pointer (some ⟨B,0,none⟩),.int .i64 d,.int .i64 n] w fun e j=>∃(f:Nat)(bytes:List UInt8)(v:Value),e=.returned (.tuple #[v,.int .i64 (f:Int)])∧
  ((1≤d∧d≤min size all.length)∧f=0∧bytes=copied all d n∨¬(1≤d∧d≤min size all.length)∧f=7∧bytes=[])∧Done w B size rv all bytes v j:=by
 have r:=h.of.len;by_cases a:1≤d∧d≤ring.length
 ·refine(copy_in B size t d n rv all ring w h a s b).mono ?_
  rintro e j ⟨v,rfl,i,c,u,l,m,p,o,q⟩;exact⟨0,_,v,rfl,.inl ⟨⟨a.1,by omega⟩,rfl,rfl⟩,m,o,i,c,u,by rw[←grown_eq];exact l,p,q⟩
 ·refine(copy_out B size t d n rv all ring w h (.inl a)).mono ?_
  rintro e j ⟨rfl,rfl⟩;exact⟨7,[],_,rfl,.inr ⟨by rw[←r];exact a,rfl,rfl⟩,Fr.refl _ _,Mine.nil _ _,rv,ring,t,by rw[List.append_nil];exact h,fun k g=>.inl g,fun k g=>by simp[Value.ownBlock] at g⟩
set_option maxRecDepth 100000 in
theorem apply_calls(B size t:Nat)(rv:Value)(all ring:List UInt8)(s:S)(hs:s.Ok)(y:Sy)(hy:y.Ok)(w:World)(hT:Tabs w)(h:Win.At w B rv size all ring t)(p:all.length≤1152921504606846000):
 Calls Tryz.prog 133 #[.pointer (some ⟨B,0,none⟩),.agg s.cells,.agg y.cells] w fun e w'=>∃v,e=.returned (.tuple #[v,.agg (apply size all s y).2.2.cells,.int .i64 (apply size all s y).1])∧Done w B size rv all (apply size all s y).2.1 v w':=by
 have P:=S.next_err s y;have K:=next_len s y;have HN:=fun W(h:Tabs W)=>Hd (next_calls s hs y hy W h);generalize a:apply size all s y=ap;unfold apply at a;obtain⟨kind,O,j,dist⟩:=y;obtain⟨n,U,r1,r2,r3⟩:=s;have hk:=hy.kind;have G:=hy.byte;have b7:=hy.dist;simp only at hk a G b7;clear hy;obtain⟨c,rfl⟩:∃c:UInt8,O=c.toNat:=⟨UInt8.ofNat O,by simp;omega⟩;clear G;unfold Sy.cells at*;simp only[S.cells] at HN ⊢;generalize S.next ⟨n,U,r1,r2,r3⟩ ⟨kind,c.toNat,j,dist⟩=r at*;obtain⟨er,rn,ra,rb,rc,rd⟩:=r;simp only at P a HN K;have N:=Hd K;clear K;have D:=Hd a;have HW:=Hd h;have HT:=Hd hT;have hB:B<w.heap.size:=lt_of_block h.box;have T:∀k,rv.ownBlock=some k→k<w.heap.size:=fun k hk=>(World.ownsRow.lt h.own k hk).2;have m:=Hd T;clear a h hT T;have b9:Fr (fun _=>False) w (((w.alloc (.cells #[.int .i64 n,.int .i64 U,.int .i64 r1,.int .i64 r2,.int .i64 r3] 84)).alloc (.cells #[.int .i64 kind,.int .u8 c.toNat,.int .i64 j,.int .i64 dist] 110)).alloc (.cells #[.int .i64 0,.int .i64 0,.int .i64 0,.int .i64 0,.int .i64 0] 84)):=(((Fr.refl _ w).alloc _).alloc _).alloc _;have A:=(((R0 (w.alloc (.cells #[.int .i64 n,.int .i64 U,.int .i64 r1,.int .i64 r2,.int .i64 r3] 84))).alloc (.cells #[.int .i64 kind,.int .u8 c.toNat,.int .i64 j,.int .i64 dist] 110)).alloc (.cells #[.int .i64 0,.int .i64 0,.int .i64 0,.int .i64 0,.int .i64 0] 84)).keep (heap_alloc_new w (.cells #[.int .i64 n,.int .i64 U,.int .i64 r1,.int .i64 r2,.int .i64 r3] 84)) (fun h=>h);have q:=((R0 ((w.alloc (.cells #[.int .i64 n,.int .i64 U,.int .i64 r1,.int .i64 r2,.int .i64 r3] 84)).alloc (.cells #[.int .i64 kind,.int .u8 c.toNat,.int .i64 j,.int .i64 dist] 110))).alloc (.cells #[.int .i64 0,.int .i64 0,.int .i64 0,.int .i64 0,.int .i64 0] 84)).keep (heap_alloc_new (w.alloc (.cells #[.int .i64 n,.int .i64 U,.int .i64 r1,.int .i64 r2,.int .i64 r3] 84)) (.cells #[.int .i64 kind,.int .u8 c.toNat,.int .i64 j,.int .i64 dist] 110)) (fun h=>h);have d:=heap_alloc_new ((w.alloc (.cells #[.int .i64 n,.int .i64 U,.int .i64 r1,.int .i64 r2,.int .i64 r3] 84)).alloc (.cells #[.int .i64 kind,.int .u8 c.toNat,.int .i64 j,.int .i64 dist] 110)) (.cells #[.int .i64 0,.int .i64 0,.int .i64 0,.int .i64 0,.int .i64 0] 84);simp only[World.size_alloc] at q d;have a0:=Hd A;have a1:=Hd q;have x:=Hd d;have Y:=Hd b9;clear b9 A q d;go_enter Tryz.func133,Tryz.ntmps133;go_wp2_with fail;refine(HN _ (HT.out.keep Y.out)).out.mono ?_;rintro e w1 ⟨rfl,o⟩;have c0:=Y.out.trans o;have H:=(R0 w1).alloc (.cells #[.int .i64 rn,.int .i64 ra,.int .i64 rb,.int .i64 rc,.int .i64 rd] 84);have A:=H.keep (o.keep a0.out (fun h=>h)) (fun h=>h);have q:=H.keep (o.keep a1.out (fun h=>h)) (fun h=>h);have d:=H.keep (o.keep x.out (fun h=>h)) (fun h=>h);have C:=heap_alloc_new w1 (.cells #[.int .i64 rn,.int .i64 ra,.int .i64 rb,.int .i64 rc,.int .i64 rd] 84);have Z:=Hd (c0.trans H);have d1:=lt_of_block (o.keep x.out (fun h=>h));have b4:Win.At (w1.alloc (.cells #[.int .i64 rn,.int .i64 ra,.int .i64 rb,.int .i64 rc,.int .i64 rd] 84)) B rv size all ring t:=HW.out.keep Z.out (fun h=>h) (fun _ _ h=>h);have F:=Hd b4;have c1:=o.size;simp only[World.size_alloc] at c1;clear a0 a1 x Y o c0 H b4 HN HT HW;go_upto_if 19 with fail;generalize M:w.heap.size=b0 at*;generalize d0:w1.heap.size=b3 at*;generalize w1.alloc (.cells #[.int .i64 rn,.int .i64 ra,.int .i64 rb,.int .i64 rc,.int .i64 rd] 84)=W2 at*;have a6:=Hd M;have a0:=Hd A;have a1:=Hd q;have x:=Hd d;have a2:=Hd C;obtain⟨s0,s1,s2,s3,s4⟩:=cs5 A rfl rfl rfl rfl rfl;obtain⟨y0,y1,y2,y3⟩:=cs4 q rfl rfl rfl rfl;clear M d0 A q d C;have c8:=Hd (show∀wx,Fr (fun k=>b0≤k) W2 wx→Done w B size rv all [] (.slice none 0 0) wx from fun wx l=>by
  have M:=a6.out;refine⟨(Z.out.trans' l (fun i hi h=>by omega)).mono (fun _ _ h=>h.elim),Mine.nil _ _,rv,ring,t,?_,fun k hk=>.inl hk,fun k hk=>by simp[Value.ownBlock] at hk⟩;rw[List.append_nil];exact F.out.keep l (by omega) (fun k hk=>by have:=m.out k hk;omega))
 rcases P with rfl|rfl
 ·go_upto_block 0 with fail
  go_cut [10,11] (fun s10 s11 wx=>∃(e2:Nat)(bytes:List UInt8),s10=.int .i64 (e2:Int)∧((e2=0∧ap=(0,bytes,⟨rn,ra,rb,rc,rd⟩))∨(e2=7∧bytes=[]∧ap=(7,[],.zero)))∧Done W2 B size rv all bytes s11 wx);case first=>
   have d4:=lt_of_block a2.out;rcases hk with rfl|rfl|rfl|rfl
   ·have d7:=alloc_keep y1 (.cells #[.int .u8 (c.toNat:Int)] 5)
    have b5:=(R0 W2).alloc (.cells #[.int .u8 (c.toNat:Int)] 5);have b6:=b5.alloc (.cells #[.int .u8 (c.toNat:Int)] 5);have Q:=rd_one (W2.alloc (.cells #[.int .u8 (c.toNat:Int)] 5)) (W2.heap.size+1) (by simp) c _ rfl;have R:Mine W2 (W2.alloc (.cells #[.int .u8 (c.toNat:Int)] 5)) (.slice (some ⟨W2.heap.size,0,none⟩) 1 1) [c]:=⟨⟨rfl,.inr ⟨W2.heap.size,1,_,rfl,Nat.zero_le _,heap_alloc_new W2 _,by simp,by simp[maxLen],by simp,by simp[bvs,bv]⟩⟩,fun k hk=>by simp only[Value.ownBlock,Option.some.injEq] at hk;omega⟩;have a9:=Hd (R.keep ((R0 _).alloc (.cells #[.int .u8 (c.toNat:Int)] 5)));have a5:=Hd b6;have a8:=Hd Q;clear b5 b6 Q R;go_wp2_with fail;refine(put_calls B size t rv (.slice (some ⟨W2.heap.size+1,0,none⟩) 1 1) all ring [c] _ (F.out.keep a5.out (fun h=>h) (fun _ _ h=>h)) a8.out (fun _ k hk he=> ?_) (by simp only[List.length_singleton];omega)).mono ?_
    ·simp only[Value.ownBlock,Option.some.injEq] at hk
     have:=m.out k he;omega
    rintro e w5 ⟨rfl,d2,a3,t3,I,b1,b2⟩;have c5:=Hd (a9.out.step I (fun k hk h=>by
     simp only[Value.ownBlock,Option.some.injEq] at hk;rcases h with h|h
     ·omega
     ·have:=m.out k h
      omega))
    have c2:=Hd b1;have a7:=Hd b2;have c3:=Hd I;clear b1 b2 I;go_wp2_with fail;go_meet;have a:=D.out;rw[if_pos trivial,if_pos trivial] at a;refine⟨0,[c],rfl,.inl ⟨rfl,by rw[←a];simp⟩,(a5.out.mono (fun _ _ h=>h.elim)).trans c3.out,c5.out,d2,a3,t3,c2.out,fun k hk=> ?_,fun k hk he=> ?_⟩
    ·rcases a7.out k hk with h|h
     ·exact .inl h
     ·simp at h
      exact .inr (by omega)
    ·simp only[Value.ownBlock,Option.some.injEq] at hk
     rcases a7.out k he with h|h
     ·have:=m.out k h
      omega
     ·simp at h
      omega
   ·have J:j≤273:=N.out rfl (.inl rfl)
    go_wp2_with fail;refine(copy_all B size t dist j rv all ring _ F.out (by first|exact J|decide) p).mono ?_;rintro e w5 ⟨e2,bytes,v,rfl,g,b⟩;have E:=Hd g;have f:=Hd b;clear g b;go_wp2_with fail;go_meet;have a:=D.out;rw[if_pos trivial,if_neg (by decide)] at a;simp only[distOf,lenOfSy,if_true,if_false] at a;rcases E.out with⟨z,rfl,rfl⟩|⟨z,rfl,rfl⟩
    ·rw[if_pos (by simpa using z)] at a
     exact⟨0,_,rfl,.inl ⟨rfl,by rw[←a];simp⟩,f.out⟩
    ·rw[if_neg (by simpa using z)] at a
     exact⟨7,[],rfl,.inr ⟨rfl,rfl,a.symm⟩,f.out⟩
   ·have J:j≤273:=N.out rfl (.inr rfl)
    have d6:=b7 rfl;have c6:=Hd (F.out.keep (R0 W2).drew (fun h=>h) (fun _ _ h=>h));have c4:=Hd (R0 W2).drew;obtain rfl|rfl|rfl|rfl:dist=0∨dist=1∨dist=2∨dist=3:=by omega
    all_goals
     go_wp2_with fail;go_region_with ((refine(copy_all B size t _ j rv all ring _ c6.out J p).mono ?_);rintro e w5 ⟨e2,bytes,v,rfl,g,b⟩;have E:=Hd g;have f:=Hd b;clear g b);all_goals
      go_wp2_with fail;go_meet;have a:=D.out;rw[if_pos trivial,if_neg (by decide)] at a;simp only[distOf,lenOfSy,repAt,if_true,if_false] at a;have b8:Done W2 B size rv all bytes v w5:=⟨(c4.out.mono (fun _ _ h=>h.elim)).trans f.out.fr,⟨f.out.mine.own,fun k hk=>by have:=f.out.mine.new k hk;simpa using this⟩,by
       obtain⟨a4,u,t',g1,g2,g3⟩:=f.out.win;exact⟨a4,u,t',g1,fun k hk=>by have:=g2 k hk;simpa using this,g3⟩⟩
      rcases E.out with⟨z,rfl,rfl⟩|⟨z,rfl,rfl⟩
      ·rw[if_pos (by simpa using z)] at a
       exact⟨0,_,rfl,.inl ⟨rfl,by rw[←a];simp⟩,b8⟩
      ·rw[if_neg (by simpa using z)] at a
       exact⟨7,[],rfl,.inr ⟨rfl,rfl,a.symm⟩,b8⟩
   ·have J:1≤273:=by decide
    go_wp2_with fail;refine(copy_all B size t U 1 rv all ring _ F.out (by first|exact J|decide) p).mono ?_;rintro e w5 ⟨e2,bytes,v,rfl,g,b⟩;have E:=Hd g;have f:=Hd b;clear g b;go_wp2_with fail;go_meet;have a:=D.out;rw[if_pos trivial,if_neg (by decide)] at a;simp only[distOf,lenOfSy,if_true,if_false] at a;rcases E.out with⟨z,rfl,rfl⟩|⟨z,rfl,rfl⟩
    ·rw[if_pos (by simpa using z)] at a
     exact⟨0,_,rfl,.inl ⟨rfl,by rw[←a];simp⟩,f.out⟩
    ·rw[if_neg (by simpa using z)] at a
     exact⟨7,[],rfl,.inr ⟨rfl,rfl,a.symm⟩,f.out⟩
  case rest=>
  obtain⟨e2,bytes,rfl,g,b⟩:=hcut;have d:=b.fr.keep x.out (fun h=>by
   rcases h with h|h
   ·omega
   ·have:=m.out _ h
    omega)
  have C:=b.fr.keep a2.out (fun h=>by
   rcases h with h|h
   ·omega
   ·have:=m.out _ h
    omega)
  have X:=Hd b;have d5:=Hd d;have c7:=Hd C;obtain⟨z0,z1,z2,z3,z4,zf⟩:=cf5 d rfl rfl rfl rfl rfl;have V:=Hd (show∀L,Fr (fun k=>k=b0+1+1) wc L→Done w B size rv all bytes u11 L from fun L l=>by
   have M:=a6.out;exact X.out.fin Z.out l (by omega) (Nat.lt_trans d1 (lt_of_block a2.out)) (by omega) (fun k hk=>by have:=m.out k hk;omega))
  rcases g with⟨rfl,a⟩|⟨rfl,rfl,a⟩
  ·subst a
   clear d C b s0 s1 s2 s3 s4 y0 y1 y2 y3;obtain⟨q0,q1,q2,q3,q4⟩:=cs5 c7.out rfl rfl rfl rfl rfl;go_wp2_with fail;go_region;all_goals go_wp2_with fail
   all_goals
    refine bodyPost_ret (v:=.tuple #[u11,.agg #[.int .i64 rn,.int .i64 ra,.int .i64 rb,.int .i64 rc,.int .i64 rd],.int .i64 0]) (by simp[results,Tryz.results133,go_sem,z0,z1,z2,z3,z4]) rfl ?_;refine⟨_,rfl,V.out _ ?_⟩;try refine Fr.drew ?_
    repeat refine Fr.setCell ?_ (.inl (by simp)) _
    first|exact Fr.refl _ _|exact(Fr.refl _ _).drew
  ·subst a
   clear d C b s0 s1 s2 s3 s4 y0 y1 y2 y3;go_wp2_with fail;refine bodyPost_ret (v:=.tuple #[.slice none 0 0,.agg #[.int .i64 0,.int .i64 0,.int .i64 0,.int .i64 0,.int .i64 0],.int .i64 7]) (by simp[results,Tryz.results133,go_sem,z0,z1,z2,z3,z4]) rfl ?_;have d3:=fun L(l:Fr (fun k=>k=b0+1+1) wc L)=>V.out L l;have c9:=Hd (show∀L,Fr (fun k=>k=b0+1+1) wc L→Done w B size rv all [] (.slice none 0 0) L from fun L l=>by
    obtain⟨z,h2,a4,u,t',h3,h4,h5⟩:=V.out L l;exact⟨z,Mine.nil _ _,a4,u,t',h3,h4,fun k hk=>by simp[Value.ownBlock] at hk⟩)
   refine⟨_,rfl,c9.out _ ?_⟩;repeat refine Fr.setCell ?_ (.inl (by simp)) _
   exact Fr.refl _ _
 ·obtain⟨z0,z1,z2,z3,z4,zf⟩:=cf5 x.out rfl rfl rfl rfl rfl
  go_wp2_with fail;refine bodyPost_ret (v:=.tuple #[.slice none 0 0,.agg #[.int .i64 0,.int .i64 0,.int .i64 0,.int .i64 0,.int .i64 0],.int .i64 7]) (by simp[results,Tryz.results133,go_sem,z0,z1,z2,z3,z4]) rfl ?_;have a:=D.out;rw[if_neg (by decide)] at a;subst a;refine⟨_,rfl,c8.out _ ?_⟩;repeat refine Fr.setCell ?_ (.inl (by simp;try omega)) _
  exact Fr.refl _ _
end St
namespace Mem
end Mem
end Go.Proofs.YtffoddpjfgjelaaGreatDoor
