/- Part 1 of 54: lemmas of the last part, each under the conditions that it names. -/
import Derived.WalkKit
import Derived.ProofKit
import Derived.Deep.Draws
import Derived.Lib.Hide
import Derived.Deep.AppendSrc
import Derived.Laws.Bits64b
import Derived.Test.YtffoddpjfgjelaaGreatDoorRows
import Derived.WalkLawsBesides
import Derived.Laws.CopyOwn
set_option linter.unusedVariables false
set_option linter.unusedSimpArgs false
set_option maxRecDepth 1500
set_option maxHeartbeats 1000000
namespace Go.Proofs.YtffoddpjfgjelaaGreatDoor
open Go.RowKit
namespace Mem
theorem ret_int{k:IntKind}{a b:Int}(h:a=b):Ending.returned (.int k a)=.returned (.int k b):=by rw[h]
theorem ret_bool{a b:Bool}(h:a=b):Ending.returned (.bool a)=.returned (.bool b):=by rw[h]
structure Fr(S:Nat→Prop)(w w':World):Prop where
 os:w'.os=w.os
 tape:w'.tape=w.tape
 output:w'.output=w.output
 size:w.heap.size≤w'.heap.size
 block:∀k,k<w.heap.size→¬S k→w'.heap[k]? =w.heap[k]?
theorem Fr.refl(S:Nat→Prop)(w:World):Fr S w w:=⟨rfl,rfl,rfl,Nat.le_refl _,fun _ _ _=>rfl⟩
theorem Fr.trans{S:Nat→Prop}{a b c:World}(h:Fr S a b)(k:Fr S b c):Fr S a c:=
 ⟨k.os.trans h.os,k.tape.trans h.tape,k.output.trans h.output,Nat.le_trans h.size k.size,fun i d e=>(k.block i (Nat.lt_of_lt_of_le d h.size) e).trans (h.block i d e)⟩
theorem Fr.trans'{S T:Nat→Prop}{a b c:World}(h:Fr S a b)(k:Fr T b c)(f:∀i,i<a.heap.size→T i→S i):Fr S a c:=
 ⟨k.os.trans h.os,k.tape.trans h.tape,k.output.trans h.output,Nat.le_trans h.size k.size,fun i d e=>(k.block i (Nat.lt_of_lt_of_le d h.size) (fun ht=>e (f i d ht))).trans (h.block i d e)⟩
theorem Fr.mono{S T:Nat→Prop}{a b:World}(h:Fr S a b)(d:∀i,i<a.heap.size→S i→T i):Fr T a b:=
 ⟨h.os,h.tape,h.output,h.size,fun i c e=>h.block i c (fun f=>e (d i c f))⟩
theorem Fr.alloc{S:Nat→Prop}{a w:World}(h:Fr S a w)(o:Obj):Fr S a (w.alloc o):=
 ⟨h.os,h.tape,h.output,Nat.le_trans h.size (by simp),fun i b c=>(Below.heap_alloc w o i (Nat.lt_of_lt_of_le b h.size)).trans (h.block i b c)⟩
theorem Fr.drew{S:Nat→Prop}{a w:World}(h:Fr S a w):Fr S a w.drew:=⟨h.os,h.tape,h.output,h.size,h.block⟩
theorem Fr.drewN{S:Nat→Prop}{a w:World}(h:Fr S a w)(n:Nat):Fr S a (w.drewN n):=⟨h.os,h.tape,h.output,h.size,h.block⟩
theorem Fr.setCell{S:Nat→Prop}{a w:World}(h:Fr S a w){p:Addr}(b:S p.block∨a.heap.size≤p.block)(u:Value):Fr S a (w.setCell p u):=
 ⟨h.os,h.tape,h.output,by simpa [World.setCell] using h.size,fun i d c=>(Below.heap_setCell w p u i (by
  rintro rfl;rcases b with b|b
  ·exact c b
  ·omega)).trans (h.block i d c)⟩
theorem Fr.grown{S:Nat→Prop}{a w w':World}{c:Option Nat}(h:Fr S a w)(b:w.grownBy w' c)(j:∀k,c=some k→S k∨a.heap.size≤k):Fr S a w':=
 ⟨b.os.trans h.os,b.tape.trans h.tape,b.output.trans h.output,Nat.le_trans h.size b.size,fun i d f=>(b.block i (Nat.lt_of_lt_of_le d h.size) (fun e=>by
  rcases j i e.symm with g|g
  ·exact f g
  ·omega)).trans (h.block i d f)⟩
theorem Fr.below{S:Nat→Prop}{w w':World}(h:Fr S w w')(b:∀k,k<w.heap.size→¬S k):Below w.heap.size w w':=
 ⟨h.os,h.tape,h.output,h.size,fun k a=>h.block k a (b k a)⟩
theorem Fr.of_below{w w':World}(h:Below w.heap.size w w')(S:Nat→Prop):Fr S w w':=
 ⟨h.os,h.tape,h.output,h.size,fun k a _=>h.block k a⟩
theorem Fr.keep{S:Nat→Prop}{w w':World}(h:Fr S w w'){k:Nat}{o:Obj}(a:w.heap[k]? =some o)(b:¬S k):w'.heap[k]? =some o:=
 (h.block k (lt_of_block a) b).trans a
theorem Fr.one(w:World)(g i:Nat)(v:Value):Fr (fun k=>k=g) w (w.setCell ⟨g,i,none⟩ v):=Fr.setCell (S:=fun k=>k=g) (p:=⟨g,i,none⟩) (Fr.refl _ _) (.inl rfl) v
theorem Hd{p:Prop}(h:p):RowKit.Hid p:=h
theorem cell_in{w:World}{g i:Nat}{a:Array Value}{t:TypeId}{fr:Nat×Nat}{v:Value}(b:w.heap[g]? =some (.cells a t fr))(c:a[i]? =some v):w.cell? ⟨g,i,none⟩=some v:=by
 rw[cell_of_row w g i a t fr b];exact c
theorem frozen_in{w:World}{g:Nat}{a:Array Value}{t:TypeId}(b:w.heap[g]? =some (.cells a t (0,0)))(i:Nat):w.frozen? ⟨g,i,none⟩=false:=frozen_of_row w g i a t b
theorem cs2{w:World}{g:Nat}{a:Array Value}{t:TypeId}{fr:Nat×Nat}{c v1:Value}(b:w.heap[g]? =some (.cells a t fr))(d:a[0]? =some c)(e:a[1]? =some v1):w.cell? ⟨g,0,none⟩=some c∧w.cell? ⟨g,1,none⟩=some v1:=⟨cell_in b d,cell_in b e⟩
theorem cf2{w:World}{g:Nat}{a:Array Value}{t:TypeId}{c v1:Value}(b:w.heap[g]? =some (.cells a t (0,0)))(d:a[0]? =some c)(e:a[1]? =some v1):w.cell? ⟨g,0,none⟩=some c∧w.cell? ⟨g,1,none⟩=some v1∧∀i:Nat,w.frozen? ⟨g,i,none⟩=false:=⟨cell_in b d,cell_in b e,fun i=>frozen_in b i⟩
theorem cs3{w:World}{g:Nat}{a:Array Value}{t:TypeId}{fr:Nat×Nat}{c v1 v2:Value}(b:w.heap[g]? =some (.cells a t fr))(d:a[0]? =some c)(e:a[1]? =some v1)(f:a[2]? =some v2):w.cell? ⟨g,0,none⟩=some c∧w.cell? ⟨g,1,none⟩=some v1∧w.cell? ⟨g,2,none⟩=some v2:=⟨cell_in b d,cell_in b e,cell_in b f⟩
theorem cf3{w:World}{g:Nat}{a:Array Value}{t:TypeId}{c v1 v2:Value}(b:w.heap[g]? =some (.cells a t (0,0)))(d:a[0]? =some c)(e:a[1]? =some v1)(f:a[2]? =some v2):w.cell? ⟨g,0,none⟩=some c∧w.cell? ⟨g,1,none⟩=some v1∧w.cell? ⟨g,2,none⟩=some v2∧∀i:Nat,w.frozen? ⟨g,i,none⟩=false:=⟨cell_in b d,cell_in b e,cell_in b f,fun i=>frozen_in b i⟩
theorem cs4{w:World}{g:Nat}{a:Array Value}{t:TypeId}{fr:Nat×Nat}{c v1 v2 d:Value}(b:w.heap[g]? =some (.cells a t fr))(e:a[0]? =some c)(f:a[1]? =some v1)(h:a[2]? =some v2)(i:a[3]? =some d):w.cell? ⟨g,0,none⟩=some c∧w.cell? ⟨g,1,none⟩=some v1∧w.cell? ⟨g,2,none⟩=some v2∧w.cell? ⟨g,3,none⟩=some d:=⟨cell_in b e,cell_in b f,cell_in b h,cell_in b i⟩
theorem cf4{w:World}{g:Nat}{a:Array Value}{t:TypeId}{c v1 v2 d:Value}(b:w.heap[g]? =some (.cells a t (0,0)))(e:a[0]? =some c)(f:a[1]? =some v1)(h:a[2]? =some v2)(j:a[3]? =some d):w.cell? ⟨g,0,none⟩=some c∧w.cell? ⟨g,1,none⟩=some v1∧w.cell? ⟨g,2,none⟩=some v2∧w.cell? ⟨g,3,none⟩=some d∧∀i:Nat,w.frozen? ⟨g,i,none⟩=false:=⟨cell_in b e,cell_in b f,cell_in b h,cell_in b j,fun i=>frozen_in b i⟩
theorem cs5{w:World}{g:Nat}{a:Array Value}{t:TypeId}{fr:Nat×Nat}{c v1 v2 d e:Value}(b:w.heap[g]? =some (.cells a t fr))(f:a[0]? =some c)(h:a[1]? =some v1)(i:a[2]? =some v2)(j:a[3]? =some d)(k:a[4]? =some e):w.cell? ⟨g,0,none⟩=some c∧w.cell? ⟨g,1,none⟩=some v1∧w.cell? ⟨g,2,none⟩=some v2∧w.cell? ⟨g,3,none⟩=some d∧w.cell? ⟨g,4,none⟩=some e:=⟨cell_in b f,cell_in b h,cell_in b i,cell_in b j,cell_in b k⟩
theorem cf5{w:World}{g:Nat}{a:Array Value}{t:TypeId}{c v1 v2 d e:Value}(b:w.heap[g]? =some (.cells a t (0,0)))(f:a[0]? =some c)(h:a[1]? =some v1)(j:a[2]? =some v2)(k:a[3]? =some d)(l:a[4]? =some e):w.cell? ⟨g,0,none⟩=some c∧w.cell? ⟨g,1,none⟩=some v1∧w.cell? ⟨g,2,none⟩=some v2∧w.cell? ⟨g,3,none⟩=some d∧w.cell? ⟨g,4,none⟩=some e∧∀i:Nat,w.frozen? ⟨g,i,none⟩=false:=⟨cell_in b f,cell_in b h,cell_in b j,cell_in b k,cell_in b l,fun i=>frozen_in b i⟩
theorem cs6{w:World}{g:Nat}{a:Array Value}{t:TypeId}{fr:Nat×Nat}{c v1 v2 d e f:Value}(b:w.heap[g]? =some (.cells a t fr))(h:a[0]? =some c)(i:a[1]? =some v1)(j:a[2]? =some v2)(k:a[3]? =some d)(l:a[4]? =some e)(m:a[5]? =some f):w.cell? ⟨g,0,none⟩=some c∧w.cell? ⟨g,1,none⟩=some v1∧w.cell? ⟨g,2,none⟩=some v2∧w.cell? ⟨g,3,none⟩=some d∧w.cell? ⟨g,4,none⟩=some e∧w.cell? ⟨g,5,none⟩=some f:=⟨cell_in b h,cell_in b i,cell_in b j,cell_in b k,cell_in b l,cell_in b m⟩
theorem cf6{w:World}{g:Nat}{a:Array Value}{t:TypeId}{c v1 v2 d e f:Value}(b:w.heap[g]? =some (.cells a t (0,0)))(h:a[0]? =some c)(j:a[1]? =some v1)(k:a[2]? =some v2)(l:a[3]? =some d)(m:a[4]? =some e)(n:a[5]? =some f):w.cell? ⟨g,0,none⟩=some c∧w.cell? ⟨g,1,none⟩=some v1∧w.cell? ⟨g,2,none⟩=some v2∧w.cell? ⟨g,3,none⟩=some d∧w.cell? ⟨g,4,none⟩=some e∧w.cell? ⟨g,5,none⟩=some f∧∀i:Nat,w.frozen? ⟨g,i,none⟩=false:=⟨cell_in b h,cell_in b j,cell_in b k,cell_in b l,cell_in b m,cell_in b n,fun i=>frozen_in b i⟩
theorem R0(w:World):Fr (fun _=>False) w w:=Fr.refl _ w
theorem set_in{w:World}{g:Nat}{a:Array Value}{t:TypeId}(b:w.heap[g]? =some (.cells a t (0,0)))(i:Nat)(v:Value):
 (w.setCell ⟨g,i,none⟩ v).heap[g]? =some (.cells (a.setIfInBounds i v) t (0,0)):=heap_setCell_same w g i a t v b
theorem set_out{w:World}{g k i:Nat}{o:Obj}(b:w.heap[k]? =some o)(a:k≠g)(v:Value):
 (w.setCell ⟨g,i,none⟩ v).heap[k]? =some o:=(heap_setCell_other w _ k v a).trans b
theorem alloc_keep{w:World}{a:Addr}{v:Value}(h:w.cell? a=some v)(o:Obj):(w.alloc o).cell? a=some v:=by
 rw[World.cell?_alloc_lt w o a (block_lt_of_cell h)];exact h
theorem quiet_left{P:Program}{f:FuncId}{args:Array Value}{w:World}{n:Nat}{v:Value}
 (h:Calls P f args (w.drewN n) fun e b=>e=.returned v∧w.drewN n=b):Calls P f args (w.drewN n) fun e a=>e=.returned v∧∃m,a=w.drewN m:=
 h.mono fun _ _ ⟨he,hm⟩=>⟨he,n,hm.symm⟩
theorem add_mid(b o j:Nat):(⟨b,o,none⟩:Addr).add j=⟨b,o+j,none⟩:=by unfold Addr.add;split<;>simp_all
theorem spot_none{w:World}{a:Addr}{v:Value}(h:w.cell? a=some v):a=⟨a.block,a.off,none⟩:=by
 unfold World.cell? at h;split at h
 ·cases hs:a.spot with
  |none=>cases a;simp_all
  |some x=>simp[hs] at h
 ·simp at h
theorem add_zero'(a:Addr):a.add 0=a:=by simp[Addr.add]
theorem row_plain{w:World}{a:Addr}{n:Nat}{V:Nat→Value}(h:∀i,i<n→w.cell? (a.add i)=some (V i))(b:0<n):a=⟨a.block,a.off,none⟩:=by
 have:=h 0 b;rw[add_zero'] at this;exact spot_none this
end Mem
namespace Mem
def splice:Array Value→Nat→List Value→Array Value
 |cur,_,[]=>cur
 |cur,o,v::vs=>splice (cur.setIfInBounds o v) (o+1) vs
theorem splice_size:∀(b:List Value)(a:Array Value)(o:Nat),(splice a o b).size=a.size
 |[],_,_=>rfl
 |v::b,a,o=>by rw[splice,splice_size b];simp
theorem splice_take:∀(b:List Value)(a:Array Value)(o:Nat),o+b.length≤a.size→(splice a o b).toList.take (o+b.length)=a.toList.take o++b
 |[],a,o,_=>by simp[splice]
 |v::b,a,o,h=>by
   have c:o+1+b.length≤(a.setIfInBounds o v).size:=by simp at h ⊢;omega
   have:=splice_take b (a.setIfInBounds o v) (o+1) c;rw[splice,show o+(v::b).length=o+1+b.length by simp;omega,this];have e:(a.setIfInBounds o v).toList.take (o+1)=a.toList.take o++[v]:=by
    simp at h;rw[Array.toList_setIfInBounds,List.take_add_one,List.take_set_of_le (by omega),List.getElem?_set_self (by simp;omega)];rfl
   rw[e];simp
theorem setCells_heap(g:Nat)(t:TypeId):∀(b:List Value)(o:Nat)(w:World)(a:Array Value),w.heap[g]? =some (.cells a t (0,0))→
 (w.setCells g o b).heap[g]? =some (.cells (splice a o b) t (0,0))
 |[],_,_,_,h=>h
 |v::b,o,w,a,h=>setCells_heap g t b (o+1) _ _ (set_in h o v)
theorem setCells_fr(g:Nat):∀(a:List Value)(o:Nat)(w:World),Fr (fun k=>g=k) w (w.setCells g o a)
 |[],_,w=>Fr.refl _ w
 |v::a,o,w=>(Fr.setCell (S:=fun k=>g=k) (p:=⟨g,o,none⟩) (Fr.refl _ w) (.inl rfl) v).trans (setCells_fr g a (o+1) _)
section
variable {P:Program}(w:World)
theorem run_append_any(t H L e:TypeId)(i:TypeInfo)(z:Value)(size bytes:Nat)(K:P.underlying t=some (.slice e))(I:P.info? e=some i)(T:i.zero=some z)
 (A:i.size=size)(M:i.bytes=bytes)(Q:z.cells.size=size)(Y:0<size)
 (v:Value)(n:Nat)(xs:List Value)(b:w.ownsRow 0 e size v n xs)(x:Value)(m:Nat)(a:List Value)(p:Src P size H x m a w)
 (C:n+m≤maxLen)(l:(n+m)*bytes≤140737488355328):
 ∃v' w',(Builtin.append_ #[t,H] L #[v,x]).run P w=.ok v' w'∧w'.ownsRow 0 e size v' (n+m) (xs++a)∧Fr (fun k=>v.ownBlock=some k) w w'∧
  (∀k,v'.ownBlock=some k→v.ownBlock=some k∨w.heap.size≤k)∧(v'=.slice none 0 0↔v=.slice none 0 0∧m=0):=by
 subst A;subst M
 have J:n+m≤9223372036854775807:=by simp only[maxLen] at C;omega
 have o:(xs++a).length=(n+m)*i.size:=by rw[List.length_append,b.1,p.newsLen,Nat.add_mul]
 have grown:∀(f:Nat),f<n+m→
  (w.drew.alloc (.cells ((xs++a).toArray++Builtin.zeroCells z.cells (grownCap w (n+m) f e-(n+m))) e)).ownsRow 0 e i.size
    (.slice (some ⟨w.heap.size,0,none⟩) (n+m) (grownCap w (n+m) f e)) (n+m) (xs++a):=by
  intro f ho;have O:=grownCap_ge w (n+m) f e;have r:grownCap w (n+m) f e≤maxLen:=grownCap_le_maxLen w (n+m) f e C;refine⟨o,.inr ⟨w.heap.size,_,_,rfl,Nat.zero_le _,heap_alloc_new w.drew _,O,r,?_,?_⟩⟩
  ·simp only[Array.size_append,List.size_toArray,size_zeroCells,Q,o,←Nat.add_mul]
   congr 1;omega
  ·simp only[Array.toList_append]
   rw[←o];exact List.take_left
 rcases b.2 with⟨rfl,rfl⟩|⟨g,c,q,rfl,U,N,X,r,D,B⟩
 ·have Z:xs=[]:=List.eq_nil_of_length_eq_zero (by simpa using b.1)
  subst Z;by_cases S:m=0
  ·subst S
   have W:a=[]:=List.eq_nil_of_length_eq_zero (by simpa using p.newsLen);subst W;refine⟨.slice none 0 0,w,?_,World.ownsRow_nil w 0 e i.size,Fr.refl _ _,by simp[Value.ownBlock],by simp⟩;have V:=p.cells;rcases p.kind with⟨e',R⟩|R<;>simp[Builtin.append_,run_underlying K,run_underlying R,sizeOf,typeInfo,I,p.len,V]
  ·have y:=run_append_grow_src (P:=P) w t H L e i z K I T none 0 0 [] (run_firstCells_none w.drew i.size 0 0 0) x m a p (by omega) (by omega) (growslice_fits (by omega) (by simpa using l))
   have F:=grown 0 (by omega);simp only[Nat.zero_add,List.nil_append] at F y ⊢;exact⟨_,_,y,F,(Fr.refl _ _).drew.alloc _,by simp[Value.ownBlock],by simp[S]⟩
 ·by_cases d:n+m≤c
  ·have E:n*i.size+a.length≤q.size:=by rw[p.newsLen,D,←Nat.add_mul];exact Nat.mul_le_mul_right _ d
   have y:=run_append_room_src (P:=P) w t H L e i K I g 0 n c x m a p d (fun j hj=>by rw[cell_of_row w g _ q e _ N];simp;omega) (fun j hj=>frozen_in N _);rw[Nat.zero_add] at y;refine⟨_,_,y,⟨o,.inr ⟨g,c,_,rfl,Nat.zero_le _,setCells_heap g e a _ w q N,d,r,by rw[splice_size];exact D,?_⟩⟩,(setCells_fr g a _ w).mono (fun k _ h=>by rw[Value.ownBlock];exact congrArg some h),by simp[Value.ownBlock],by simp⟩;rw[show(n+m)*i.size=n*i.size+a.length by rw[p.newsLen,Nat.add_mul],splice_take a q _ E,B]
  ·have s:∀j u,xs[j]? =some u→w.cell? ((⟨g,0,none⟩:Addr).add j)=some u:=b.cells (g:=g) rfl
   have G:(Builtin.firstCells i.size n (.slice (some ⟨g,0,none⟩) n c)).run P w.drew=.ok xs.toArray w.drew:=run_firstCells_some (P:=P) w.drew i.size n ⟨g,0,none⟩ n c xs b.1 (by simpa using s);have y:=run_append_grow_src (P:=P) w t H L e i z K I T (some ⟨g,0,none⟩) n c xs G x m a p (by omega) (by omega) (growslice_fits (by omega) l);exact⟨_,_,y,grown c (by omega),(Fr.refl _ _).drew.alloc _,by simp[Value.ownBlock],by simp⟩
theorem own_slice{w:World}{b:Nat}{e:TypeId}{size:Nat}{v:Value}{n:Nat}{xs:List Value}(c:w.ownsRow b e size v n xs):∃p a,v=.slice p n a:=by
 rcases c.2 with⟨rfl,rfl⟩|⟨g,a,d,rfl,_⟩
 ·exact⟨none,0,rfl⟩
 ·exact⟨_,a,rfl⟩
theorem src_own{t e:TypeId}{size:Nat}(d:P.underlying t=some (.slice e)){v:Value}{n:Nat}{xs:List Value}(a:w.ownsRow 0 e size v n xs)(h:∀u ∈ xs,u.oneCell'=true):Src P size t v n xs w:=by
 rcases a.2 with⟨rfl,rfl⟩|⟨g,b,f,rfl,i,o,l,j,k,c⟩
 ·have m:xs=[]:=List.eq_nil_of_length_eq_zero (by simpa using a.1)
  subst m;exact Src.ofNil w d 0
 ·exact Src.ofSlice w d _ n b xs a.1 (a.cells (g:=g) rfl) h
theorem wp_append_any{o:Oper}{a:Act}{K:Act→World→Prop}{Q:Exit→Act→World→Prop}(s y:Operand)(t d:TypeId)
 (p:o.op=.call {callee:=.builtin .append,args:=#[s,y],argTypes:=#[t,d]})
 (e:TypeId)(i:TypeInfo)(z:Value)(size bytes:Nat)(ht:P.underlying t=some (.slice e))(hi:P.info? e=some i)(hz:i.zero=some z)
 (hsize:i.size=size)(hby:i.bytes=bytes)(hzs:z.cells.size=size)(hsz:0<size)
 (v:Value)(n:Nat)(xs:List Value)(hv:a.eval s=v)(hown:w.ownsRow 0 e size v n xs)
 (x:Value)(m:Nat)(news:List Value)(hx:a.eval y=x)(hs:Src P size d x m news w)
 (h63:n+m≤maxLen)(hbytes:(n+m)*bytes≤140737488355328)
 (h:∀b c,c.ownsRow 0 e size b (n+m) (xs++news)→Fr (fun k=>v.ownBlock=some k) w c→(∀k,b.ownBlock=some k→v.ownBlock=some k∨w.heap.size≤k)→(b=.slice none 0 0↔v=.slice none 0 0∧m=0)→K (a.put o.dst b) c):o.wp P a w K Q:=by
 obtain⟨b,c,q,f,g,j,l⟩:=run_append_any (P:=P) w t d o.type e i z size bytes ht hi hz hsize hby hzs hsz v n xs hown x m news hs h63 hbytes;unfold Oper.wp execOp;simp only[p,resolve,invoke,builtin,Sem.run_bind,Sem.run_pure,Result.andThen_ok,List.map_toArray,List.map_cons,List.map_nil,hv,hx,q];exact h b c f g j l
theorem wpList_append_any{c:Array Oper}{rest:List Oper}{o:Oper}{a:Act}{Q:Exit→Act→World→Prop}(f:o.guard=none)(s y:Operand)(t g:TypeId)
 (u:o.op=.call {callee:=.builtin .append,args:=#[s,y],argTypes:=#[t,g]})
 (e:TypeId)(i:TypeInfo)(z:Value)(size bytes:Nat)(ht:P.underlying t=some (.slice e))(hi:P.info? e=some i)(hz:i.zero=some z)
 (hsize:i.size=size)(hby:i.bytes=bytes)(hzs:z.cells.size=size)(hsz:0<size)
 (v:Value)(n:Nat)(xs:List Value)(hv:a.eval s=v)(hown:w.ownsRow 0 e size v n xs)
 (x:Value)(m:Nat)(news:List Value)(hx:a.eval y=x)(hs:Src P size g x m news w)
 (h63:n+m≤maxLen)(hbytes:(n+m)*bytes≤140737488355328)
 (h:∀b d,d.ownsRow 0 e size b (n+m) (xs++news)→Fr (fun k=>v.ownBlock=some k) w d→(∀k,b.ownBlock=some k→v.ownBlock=some k∨w.heap.size≤k)→(b=.slice none 0 0↔v=.slice none 0 0∧m=0)→wpList P c Q rest (a.put o.dst b) d):wpList P c Q (o::rest) a w:=
 wpList_plain f fun _ r=>wp_append_any w s y t g u e i z size bytes ht hi hz hsize hby hzs hsz v n xs hv hown x m news hx hs h63 hbytes (fun b d j l p q=>r _ _ (h b d j l p q))
theorem step_append_any{b:Array Oper}{o:Oper}{a:Act}{K:Act→World→Prop}{Q:Exit→Act→World→Prop}{E:Prop}(c:o.guard=none)(s y:Operand)(t d:TypeId)
 (f:o.op=.call {callee:=.builtin .append,args:=#[s,y],argTypes:=#[t,d]})
 (e:TypeId)(i:TypeInfo)(z:Value)(size bytes:Nat)(ht:P.underlying t=some (.slice e))(hi:P.info? e=some i)(hz:i.zero=some z)
 (hsize:i.size=size)(hby:i.bytes=bytes)(hzs:z.cells.size=size)(hsz:0<size)
 (v:Value)(n:Nat)(xs:List Value)(hv:a.eval s=v)(hown:w.ownsRow 0 e size v n xs)
 (x:Value)(m:Nat)(news:List Value)(hx:a.eval y=x)(hs:Src P size d x m news w)
 (h63:n+m≤maxLen)(hbytes:(n+m)*bytes≤140737488355328)
 (h:∀v' w',w'.ownsRow 0 e size v' (n+m) (xs++news)→Fr (fun k=>v.ownBlock=some k) w w'→(∀k,v'.ownBlock=some k→v.ownBlock=some k∨w.heap.size≤k)→(v'=.slice none 0 0↔v=.slice none 0 0∧m=0)→K (a.put o.dst v') w'):
 if Region.wanted o (yielded b a.tmps)=true then Oper.wp P o a w K Q else E:=by
 have g:Region.wanted o (yielded b a.tmps)=true:=by simp[Region.wanted,c]
 rw[if_pos g];exact wp_append_any w s y t d f e i z size bytes ht hi hz hsize hby hzs hsz v n xs hv hown x m news hx hs h63 hbytes h
end
end Mem
namespace Mem
def bv(x:UInt8):Value:=.int .u8 (x.toNat:Int)
def bvs(xs:List UInt8):List Value:=xs.map bv
theorem bvs_length(xs:List UInt8):(bvs xs).length=xs.length:=by simp[bvs]
theorem bvs_at{xs:List UInt8}{i:Nat}{x:UInt8}(h:xs[i]? =some x):(bvs xs)[i]? =some (bv x):=by simp[bvs,h]
theorem bvs_append(xs a:List UInt8):bvs (xs++a)=bvs xs++bvs a:=by simp[bvs]
theorem one_bvs(xs:List UInt8):∀u ∈ bvs xs,u.oneCell'=true:=by
 intro u a;obtain⟨x,_,rfl⟩:=List.mem_map.1 a;rfl
def Rd(w:World)(v:Value)(xs:List UInt8):Prop:=
 ∃p cap,v=.slice p xs.length cap∧xs.length≤cap∧cap≤maxLen∧(0<xs.length→∃b o,p=some ⟨b,o,none⟩∧∀(i:Nat)(x:UInt8),xs[i]? =some x→w.cell? ⟨b,o+i,none⟩=some (bv x))
theorem Rd.step{S:Nat→Prop}{w w':World}{v:Value}{xs:List UInt8}(h:Rd w v xs)(c:Fr S w w')(j:∀k,v.ownBlock=some k→¬S k):Rd w' v xs:=by
 obtain⟨p,a,rfl,e,f,g⟩:=h;refine⟨p,a,rfl,e,f,fun d=> ?_⟩;obtain⟨b,o,rfl,l⟩:=g d;refine⟨b,o,rfl,fun i x m=> ?_⟩;have:=l i x m;rw[World.cell?_of_block (w:=w) (c.block b (block_lt_of_cell this) (j b rfl))];exact this
theorem Rd.keep{w w':World}{v:Value}{xs:List UInt8}(h:Rd w v xs)(a:Fr (fun _=>False) w w'):Rd w' v xs:=h.step a (fun _ _ f=>f)
theorem Rd.of_own{w:World}{T:TypeId}{v:Value}{n:Nat}{xs:List UInt8}(h:w.ownsRow 0 T 1 v n (bvs xs)):Rd w v xs:=by
 have m:n=xs.length:=by have:=h.1;rw[bvs_length] at this;omega
 subst m;rcases h.2 with⟨rfl,d⟩|⟨g,b,f,rfl,_,k,c,l,j,e⟩
 ·exact⟨none,0,by rw[d],by omega,by simp[maxLen],by omega⟩
 ·refine⟨_,b,rfl,c,l,fun d=>⟨g,0,rfl,fun i x o=> ?_⟩⟩
  rw[Nat.zero_add];refine cell_in k ?_;rw[Nat.mul_one] at e;have a:=bvs_at o;rw[←e,List.getElem?_take] at a;split at a
  ·simpa using a
  ·cases a
theorem Rd.nil(w:World):Rd w (.slice none 0 0) []:=⟨none,0,rfl,by simp,by simp[maxLen],by simp⟩
theorem own_step{S:Nat→Prop}{w w':World}{T:TypeId}{v:Value}{n:Nat}{xs:List Value}(h:w.ownsRow 0 T 1 v n xs)(e:Fr S w w')(j:∀k,v.ownBlock=some k→¬S k):w'.ownsRow 0 T 1 v n xs:=by
 obtain⟨f,d⟩:=h;refine⟨f,?_⟩;rcases d with d|⟨g,b,c,rfl,i,l,a⟩
 ·exact .inl d
 ·exact .inr ⟨g,b,c,rfl,i,e.keep l (j g rfl),a⟩
theorem own_row{w:World}{T:TypeId}{g n:Nat}{xs:List Value}(b:w.heap[g]? =some (.cells xs.toArray T (0,0)))(a:xs.length=n)(c:n≤maxLen):w.ownsRow 0 T 1 (.slice (some ⟨g,0,none⟩) n n) n xs:=
 ⟨by omega,.inr ⟨g,n,xs.toArray,rfl,Nat.zero_le _,b,Nat.le_refl _,c,by simp[a],by simp[←a]⟩⟩
end Mem
end Go.Proofs.YtffoddpjfgjelaaGreatDoor
namespace Go.Proofs.YtffoddpjfgjelaaGreatDoor
namespace Win
def Full(size:Nat)(all ring:List UInt8)(t:Nat):Prop:=
 ring.length=size∧1≤t∧t≤size∧size≤all.length∧∀dist,1≤dist→dist≤size→ring[if dist≤t then t-dist else t+size-dist]? =all[all.length-dist]?
structure RingOf(size:Nat)(all ring:List UInt8)(t:Nat):Prop where
 small:all.length<size→ring=all∧t=all.length
 full:size≤all.length→Full size all ring t
theorem RingOf.len{size t:Nat}{all ring:List UInt8}(h:RingOf size all ring t):ring.length=min size all.length:=by
 by_cases a:all.length<size
 ·rw[(h.small a).1];omega
 ·have:=(h.full (by omega)).1;omega
theorem RingOf.t_le{size t:Nat}{all ring:List UInt8}(h:RingOf size all ring t):t≤ring.length:=by
 by_cases a:all.length<size
 ·rw[(h.small a).1,(h.small a).2];exact Nat.le_refl _
 ·have:=h.full (by omega)
  rw[this.1];exact this.2.2.1
theorem RingOf.empty(size:Nat)(h:0<size):RingOf size [] [] 0:=⟨fun _=>⟨rfl,rfl⟩,fun a=>by simp at a;omega⟩
theorem RingOf.back{size t dist:Nat}{all ring:List UInt8}(h:RingOf size all ring t)(b:1≤dist)(a:dist≤ring.length):ring[if dist≤t then t-dist else t+ring.length-dist]? =all[all.length-dist]? :=by
 by_cases e:all.length<size
 ·obtain⟨rfl,rfl⟩:=h.small e
  rw[if_pos a]
 ·obtain⟨d,_,_,_,c⟩:=h.full (by omega)
  rw[d] at a ⊢;exact c dist b a
theorem full_of_eq{size:Nat}{all:List UInt8}(h:all.length=size)(a:0<size):Full size all all size:=
 ⟨h,a,Nat.le_refl _,by omega,fun dist c b=>by rw[if_pos b,h]⟩
theorem RingOf.grow{size t:Nat}{all ring b:List UInt8}(h:RingOf size all ring t)(a:0<size)(f:0<b.length)(g:ring.length+b.length≤size):RingOf size (all++b) (ring++b) (ring.length+b.length):=by
 have d:all.length<size:=by
  have:=h.len;omega
 obtain⟨rfl,rfl⟩:=h.small d;refine⟨fun _=>⟨rfl,by simp⟩,fun c=> ?_⟩;rw[List.length_append] at c;have e:(ring++b).length=size:=by rw[List.length_append];omega
 rw[show ring.length+b.length=size by omega];exact full_of_eq e a
theorem Full.write{size t u:Nat}{all ring b:List UInt8}(h:Full size all ring t)(g:u=if t=size then 0 else t)(x:0<b.length)(n:u+b.length≤size):
 Full size (all++b) (ring.take u++b++ring.drop (u+b.length)) (u+b.length):=by
 obtain⟨r,s,v,w,m⟩:=h;have o:u≤ring.length:=by omega
 have f:(ring.take u++b++ring.drop (u+b.length)).length=size:=by simp only[List.length_append,List.length_take,List.length_drop];omega
 refine⟨f,by omega,n,by rw[List.length_append];omega,fun dist p q=> ?_⟩;rw[List.length_append];have a:(ring.take u).length=u:=by rw[List.length_take];omega
 by_cases y:dist≤b.length
 ·rw[if_pos (by omega),List.append_assoc,List.getElem?_append_right (by rw[a];omega),a,List.getElem?_append_left (by omega),List.getElem?_append_right (by omega)]
  congr 1;omega
 ·have i:=m (dist-b.length) (by omega) (by omega)
  have l:(all++b)[all.length+b.length-dist]? =all[all.length-(dist-b.length)]? :=by
   rw[List.getElem?_append_left (by omega)];congr 1;omega
  rw[l,←i];have c:∀j,(j<u∨u+b.length≤j)→(ring.take u++b++ring.drop (u+b.length))[j]? =ring[j]? :=by
   intro j d;rcases d with d|d
   ·rw[List.append_assoc,List.getElem?_append_left (by rw[a];exact d),List.getElem?_take,if_pos d]
   ·rw[List.getElem?_append_right (by rw[List.length_append,a];exact d),List.length_append,a,List.getElem?_drop]
    congr 1;omega
  by_cases k:t=size
  ·rw[if_pos k] at g
   subst g;rw[if_neg (by omega),c _ (.inr (by omega)),if_pos (by omega)];congr 1;omega
  ·rw[if_neg k] at g
   subst g;by_cases e:dist-b.length≤u
   ·rw[if_pos (by omega),c _ (.inl (by omega)),if_pos e]
    congr 1;omega
   ·rw[if_neg (by omega),c _ (.inr (by omega)),if_neg e]
    congr 1;omega
theorem RingOf.cut{size t:Nat}{x y b ring:List UInt8}(h:RingOf size (x++b) ring t)(k:b.length=size)(i:0<size):RingOf size (y++b) ring t:=by
 refine⟨fun a=>by rw[List.length_append] at a;omega,fun _=> ?_⟩;obtain⟨a,e,f,j,g⟩:=h.full (by rw[List.length_append];omega);refine⟨a,e,f,by rw[List.length_append];omega,fun dist c d=> ?_⟩;rw[g dist c d,List.getElem?_append_right (by rw[List.length_append];omega),List.getElem?_append_right (by rw[List.length_append];omega)];congr 1;simp only[List.length_append];omega
theorem Full.ring{size t:Nat}{all ring:List UInt8}(h:Full size all ring t):RingOf size all ring t:=⟨fun a=>by have:=h.2.2.2.1;omega,fun _=>h⟩
end Win
end Go.Proofs.YtffoddpjfgjelaaGreatDoor
namespace Go.Proofs.YtffoddpjfgjelaaGreatDoor
open Go.RowKit
namespace Mem
theorem infoU8:(Tryz.prog.info? 5).map (fun i=>(i.zero,i.size,i.bytes))=some (some (.int .u8 0),1,1):=by kernel_rfl
structure Acc(w0 w:World)(v:Value)(xs:List UInt8):Prop where
 fr:Fr (fun _=>False) w0 w
 own:w.ownsRow 0 5 1 v xs.length (bvs xs)
 new:∀k,v.ownBlock=some k→w0.heap.size≤k
theorem Acc.slice{w0 w:World}{v:Value}{xs:List UInt8}(h:Acc w0 w v xs):∃p a,v=.slice p xs.length a:=by
 rcases h.own.2 with⟨rfl,c⟩|⟨g,a,b,rfl,_⟩
 ·exact⟨none,0,by rw[c]⟩
 ·exact⟨_,a,rfl⟩
def dropP(p:Option Addr)(cap a:Nat):Option Addr:=if cap=a then p else p.map (·.add a)
set_option maxRecDepth 100000 in
theorem slice_l(p:Option Addr)(n b a:Nat)(e:a≤n)(W:World):
 (Instr.slice 22 (.slice p n b) (some (.int .i64 (a:Int))) none none).run Tryz.prog W=.ok (.slice (dropP p b a) (n-a) (b-a)) W:=by
 obtain⟨i,c,g,d,f⟩:=info_parts infoU8;rw[run_slice_l (P:=Tryz.prog) W 22 p n b Tryz.underlying22 .i64 a (by omega) (by omega)];simp[sizeOf,typeInfo,c,d,Result.andThen,sliced,dropP,show Tryz.prog.elem 22=5 by kernel_rfl]
set_option maxRecDepth 100000 in
theorem slice_lh(p:Option Addr)(n c a b:Nat)(f:a≤b)(g:b≤c)(W:World):
 (Instr.slice 22 (.slice p n c) (some (.int .i64 (a:Int))) (some (.int .i64 (b:Int))) none).run Tryz.prog W=.ok (.slice (dropP p c a) (b-a) (c-a)) W:=by
 obtain⟨i,d,h,e,_⟩:=info_parts infoU8;rw[run_slice_lh (P:=Tryz.prog) W 22 p n c Tryz.underlying22 .i64 .i64 a b (by omega) (by omega) (by omega)];simp[sizeOf,typeInfo,d,e,Result.andThen,sliced,dropP,show Tryz.prog.elem 22=5 by kernel_rfl]
theorem slice_lhI(p:Option Addr)(n c a b:Nat)(l h:Int)(g:l=a)(f:h=b)(d:a≤b)(e:b≤c)(W:World):
 (Instr.slice 22 (.slice p n c) (some (.int .i64 l)) (some (.int .i64 h)) none).run Tryz.prog W=.ok (.slice (dropP p c a) (b-a) (c-a)) W:=by
 subst g f;exact slice_lh p n c a b d e W
theorem slice_lI(p:Option Addr)(n b a:Nat)(l:Int)(d:l=a)(c:a≤n)(W:World):
 (Instr.slice 22 (.slice p n b) (some (.int .i64 l)) none none).run Tryz.prog W=.ok (.slice (dropP p b a) (n-a) (b-a)) W:=by
 subst d;exact slice_l p n b a c W
theorem rd_drop{w:World}{p:Option Addr}{n d a:Nat}{xs:List UInt8}(h:Rd w (.slice p n d) xs)(r:a≤xs.length):
 Rd w (.slice (dropP p d a) (n-a) (d-a)) (xs.drop a):=by
 obtain⟨q,c,e,l,m,j⟩:=h;simp only[Value.slice.injEq] at e;obtain⟨rfl,rfl,rfl⟩:=e;refine⟨_,_,by rw[List.length_drop],by rw[List.length_drop];omega,by omega,fun g=> ?_⟩;rw[List.length_drop] at g;obtain⟨b,o,rfl,k⟩:=j (by omega);unfold dropP;rw[if_neg (by omega)];refine⟨b,o+a,by simp[add_mid],fun i x f=> ?_⟩;rw[List.getElem?_drop] at f;rw[Nat.add_assoc];exact k _ x f
theorem rd_take{w:World}{p:Option Addr}{n a m:Nat}{xs:List UInt8}(h:Rd w (.slice p n a) xs)(l:m≤xs.length):Rd w (.slice p m a) (xs.take m):=by
 obtain⟨q,c,e,r,g,j⟩:=h;simp only[Value.slice.injEq] at e;obtain⟨rfl,rfl,rfl⟩:=e;refine⟨_,_,by rw[List.length_take,Nat.min_eq_left l],by rw[List.length_take];omega,g,fun f=> ?_⟩;rw[List.length_take] at f;obtain⟨b,o,rfl,k⟩:=j (by omega);refine⟨b,o,rfl,fun i x d=> ?_⟩;rw[List.getElem?_take] at d;split at d
 ·exact k _ x d
 ·cases d
theorem rd_mid{w:World}{p:Option Addr}{n c a b:Nat}{xs:List UInt8}(h:Rd w (.slice p n c) xs)(e:a≤b)(f:b≤xs.length):
 Rd w (.slice (dropP p c a) (b-a) (c-a)) ((xs.drop a).take (b-a)):=by
 have d:=rd_drop h (show a≤xs.length by omega);exact rd_take d (by rw[List.length_drop];omega)
theorem src_rd{P:Program}{t e:TypeId}(i:P.underlying t=some (.slice e)){w:World}{x:Value}{c:List UInt8}(h:Rd w x c):Src P 1 t x c.length (bvs c) w:=by
 obtain⟨p,d,rfl,n,q,g⟩:=h;cases p with
 |none=>
   by_cases k:0<c.length
   ·obtain⟨b,o,h,_⟩:=g k
    cases h
   ·have:c=[]:=List.eq_nil_of_length_eq_zero (by omega)
    subst this;exact Src.ofNil w i d
 |some a=>
   refine Src.ofSlice w i a c.length d (bvs c) (by rw[bvs_length,Nat.mul_one]) (fun j u hj=> ?_) (one_bvs c);have f:j<c.length:=by
    have:=(List.getElem?_eq_some_iff.1 hj).1;rwa [bvs_length] at this
   obtain⟨b,o,m,l⟩:=g (by omega);cases m
   have:=l j c[j] (List.getElem?_eq_getElem f);rw[add_mid,this];rw[bvs,List.getElem?_map,List.getElem?_eq_getElem f] at hj;exact hj
theorem rd_one(w:World)(B:Nat)(b:B=w.heap.size)(c:UInt8)(x:Int)(d:x=(c.toNat:Int)):Rd (w.alloc (.cells #[.int .u8 x] 5)) (.slice (some ⟨B,0,none⟩) 1 1) [c]:=by
 subst b d;refine⟨_,1,rfl,by simp,by simp[maxLen],fun _=>⟨_,0,rfl,fun i y a=> ?_⟩⟩;match i,a with
 |0,a=>simp at a;subst a;simp[bv]
 |i+1,a=>simp at a
section
variable {P:Program}{w0 w:World}{v x:Value}{xs ys:List UInt8}
theorem append_post(a:Acc w0 w v xs){c:Value}{w':World}(e:w'.ownsRow 0 5 1 c (xs.length+ys.length) (bvs xs++bvs ys))(f:Fr (fun k=>v.ownBlock=some k) w w')
 (d:∀k,c.ownBlock=some k→v.ownBlock=some k∨w.heap.size≤k):∃p b,c=.slice p (xs++ys).length b∧Acc w0 w' c (xs++ys):=by
 have m:w'.ownsRow 0 5 1 c (xs++ys).length (bvs (xs++ys)):=by rw[bvs_append,List.length_append];exact e
 have j:Acc w0 w' c (xs++ys):=⟨a.fr.trans' f (fun i n g=>absurd (a.new i g) (by omega)),m,fun k g=>by
  rcases d k g with h|h
  ·exact a.new k h
  ·exact Nat.le_trans a.fr.size h⟩
 obtain⟨p,b,l⟩:=j.slice;exact⟨p,b,l,j⟩
end
end Mem
namespace Win
open Mem
structure At(w:World)(B:Nat)(rv:Value)(size:Nat)(all ring:List UInt8)(t:Nat):Prop where
 box:w.heap[B]? =some (.cells #[.int .i64 size,rv,.int .i64 t,.int .i64 all.length] 210 (0,0))
 own:w.ownsRow 0 5 1 rv ring.length (bvs ring)
 of:RingOf size all ring t
 pos:0<size
 top:size≤4294967295
 much:all.length≤1152921504606846976
 apart:∀k,rv.ownBlock=some k→k≠B
theorem At.keep{S:Nat→Prop}{w w':World}{B size t:Nat}{rv:Value}{all ring:List UInt8}(h:At w B rv size all ring t)(a:Fr S w w')(b:¬S B)(c:∀k,rv.ownBlock=some k→¬S k):At w' B rv size all ring t:=
 ⟨a.keep h.box b,own_step h.own a c,h.of,h.pos,h.top,h.much,h.apart⟩
theorem At.slice{w:World}{B size t:Nat}{rv:Value}{all ring:List UInt8}(h:At w B rv size all ring t):∃p cap,rv=.slice p ring.length cap:=own_slice h.own
theorem At.rd{w:World}{B size t:Nat}{rv:Value}{all ring:List UInt8}(h:At w B rv size all ring t):Rd w rv ring:=Rd.of_own h.own
theorem new_in(n:Nat)(w:World)(a:0<n)(c:n≤4294967295):
 Calls Tryz.prog 64 #[.int .i64 n] w fun e b=>e=.returned (.tuple #[.pointer (some ⟨w.heap.size,0,none⟩),.int .i64 0])∧Fr (fun _=>False) w b∧At b w.heap.size (.slice none 0 0) n [] [] 0:=by
 have f:decide ((n:Int)<1)=false:=by simp;omega
 have g:decide ((n:Int)>4294967295)=false:=by simp;omega
 have h:decide ((4294967295:Int)<n)=false:=by simp;omega
 go_enter Tryz.func64,Tryz.ntmps64;go_wp2_with fail;go_ret2;exact⟨rfl,(Fr.refl _ _).alloc _,heap_alloc_new w _,World.ownsRow_nil _ _ _ _,RingOf.empty n a,a,c,by simp,fun k d=>by simp[Value.ownBlock] at d⟩
theorem new_out(n:Int)(w:World)(h:n<1∨4294967295<n):
 Calls Tryz.prog 64 #[.int .i64 n] w fun e b=>e=.returned (.tuple #[.pointer none,.int .i64 7])∧w=b:=by
 by_cases c:n<1
 ·have a:decide (n<1)=true:=by simp;omega
  go_enter Tryz.func64,Tryz.ntmps64;go_wp2_with fail;go_ret2;exact⟨rfl,rfl⟩
 ·have a:decide (n<1)=false:=by simp;omega
  have d:decide (n>4294967295)=true:=by simp;omega
  have f:decide ((4294967295:Int)<n)=true:=by simp;omega
  go_enter Tryz.func64,Tryz.ntmps64;go_wp2_with fail;go_ret2;exact⟨rfl,rfl⟩
theorem pos_calls(B size t:Nat)(rv:Value)(all ring:List UInt8)(w:World)(h:At w B rv size all ring t):
 Calls Tryz.prog 193 #[.pointer (some ⟨B,0,none⟩)] w fun e a=>e=.returned (.int .i64 all.length)∧w=a:=by
 have b:=cell_in (i:=3) h.box rfl;generalize all.length=n at*;go_enter Tryz.func193,Tryz.ntmps193;go_wp2_with fail;go_ret;exact⟨rfl,rfl⟩
theorem in_calls(B size t d:Nat)(rv:Value)(all ring:List UInt8)(w:World)(h:At w B rv size all ring t):
 Calls Tryz.prog 238 #[.pointer (some ⟨B,0,none⟩),.int .i64 d] w fun e m=>e=.returned (.bool (decide (1≤d∧d≤ring.length)))∧w=m:=by
 obtain⟨p,g,rfl⟩:=h.slice;have o:=cell_in (i:=1) h.box rfl;generalize f:decide (1≤d∧d≤ring.length)=q;have a:=Hd f;clear f h;generalize ring.length=n at*;by_cases b:1≤d
 ·have j:decide ((d:Int)≥1)=true:=by simp;omega
  have k:decide ((1:Int)≤d)=true:=by simp;omega
  by_cases c:d≤n
  ·have l:decide ((d:Int)≤n)=true:=by simp;omega
   go_enter Tryz.func238,Tryz.ntmps238;go_wp2_with fail;go_ret;exact⟨by rw[←a.out];simp[b,c],rfl⟩
  ·have l:decide ((d:Int)≤n)=false:=by simp;omega
   go_enter Tryz.func238,Tryz.ntmps238;go_wp2_with fail;go_ret;exact⟨by rw[←a.out];simp[c],rfl⟩
 ·have j:decide ((d:Int)≥1)=false:=by simp;omega
  have k:decide ((1:Int)≤d)=false:=by simp;omega
  go_enter Tryz.func238,Tryz.ntmps238;go_wp2_with fail;go_ret;exact⟨by rw[←a.out];simp[b],rfl⟩
theorem byte_at{w:World}{p:Option Addr}{n a i:Nat}{xs:List UInt8}{x:UInt8}(h:Rd w (.slice p n a) xs)(e:xs[i]? =some x):∃b o,p=some ⟨b,o,none⟩∧w.cell? ⟨b,o+i,none⟩=some (.int .u8 (x.toNat:Int)):=by
 obtain⟨q,c,d,k,l,f⟩:=h;simp only[Value.slice.injEq] at d;obtain⟨rfl,_,rfl⟩:=d;obtain⟨b,o,j,g⟩:=f (by have:=(List.getElem?_eq_some_iff.1 e).1;omega);exact⟨b,o,j,g i x e⟩
theorem back_calls(B size t d:Nat)(rv:Value)(all ring:List UInt8)(c:UInt8)(w:World)(h:At w B rv size all ring t)(x:1≤d)(z:d≤ring.length)(m:all[all.length-d]? =some c):
 Calls Tryz.prog 239 #[.pointer (some ⟨B,0,none⟩),.int .i64 d] w fun e D=>e=.returned (.int .u8 c.toNat)∧w=D:=by
 have f:=h.of.back x z;rw[m] at f;have A:=h.of.t_le;have u:ring.length≤4294967295:=by have:=h.of.len;have:=h.top;omega
 have F:=cell_in (i:=2) h.box rfl;obtain⟨p,v,rfl⟩:=h.slice;have E:=cell_in (i:=1) h.box rfl;have g:=Hd h.rd;clear h m;by_cases q:d≤t
 ·rw[if_pos q] at f
  obtain⟨b,o,rfl,a⟩:=byte_at g.out f;have C:decide ((t:Int)-d<0)=false:=by simp;omega
  have r:((t-d:Nat):Int)=(t:Int)-d:=by omega
  generalize s:t-d=j at*;have l:j<ring.length:=(List.getElem?_eq_some_iff.1 f).1;clear f;generalize ring.length=n at*;generalize c.toNat=y at*;go_enter Tryz.func239,Tryz.ntmps239;go_wp2_with fail;go_ret;exact⟨rfl,rfl⟩
 ·rw[if_neg q] at f
  obtain⟨b,o,rfl,a⟩:=byte_at g.out f;have C:decide ((t:Int)-d<0)=true:=by simp;omega
  have r:((t+ring.length-d:Nat):Int)=(t:Int)-d+ring.length:=by omega
  generalize s:t+ring.length-d=j at*;have l:j<ring.length:=(List.getElem?_eq_some_iff.1 f).1;clear f;generalize ring.length=n at*;have k:((t:Int)-d+n).toNat=j:=by omega
  rw[←k] at a;have G:(0:Int)≤(t:Int)-d+n:=by omega
  have H:(t:Int)-d+n<n:=by omega
  clear r k s l;generalize c.toNat=y at*;go_enter Tryz.func239,Tryz.ntmps239;go_wp2_with fail;go_ret;exact⟨rfl,rfl⟩
def last(size:Nat)(all:List UInt8)(d:Nat):Nat×Nat:=if 1≤d∧d≤min size all.length then((all.getD (all.length-d) 0).toNat,0) else(0,7)
theorem last_calls(B size t d:Nat)(rv:Value)(all ring:List UInt8)(w:World)(h:At w B rv size all ring t):
 Calls Tryz.prog 191 #[.pointer (some ⟨B,0,none⟩),.int .i64 d] w fun e i=>e=.returned (.tuple #[.int .u8 (last size all d).1,.int .i64 (last size all d).2])∧w=i:=by
 have j:=Hd h;have b:=h.of.len;by_cases a:1≤d∧d≤ring.length
 ·have g:last size all d=((all.getD (all.length-d) 0).toNat,0):=by unfold last;rw[if_pos (by omega)]
  have l:all[all.length-d]? =some (all.getD (all.length-d) 0):=by rw[List.getD_eq_getElem?_getD,List.getElem?_eq_getElem (by omega)];rfl
  rw[g];have m:=Hd l;have f:decide (1≤d∧d≤ring.length)=true:=decide_eq_true a;have k:=Hd f;clear g l f h b;generalize all.getD (all.length-d) 0=c at*;go_enter Tryz.func191,Tryz.ntmps191;go_wp2_with fail;refine(in_calls B size t d rv all ring _ j.out).mono ?_;rintro e i ⟨rfl,rfl⟩;rw[k.out];go_wp2_with fail;refine(back_calls B size t d rv all ring c _ j.out a.1 a.2 m.out).mono ?_;rintro e i ⟨rfl,rfl⟩;go_wp2_with fail;go_ret2;exact⟨rfl,rfl⟩
 ·have g:last size all d=(0,7):=by unfold last;rw[if_neg (by omega)]
  rw[g];have f:decide (1≤d∧d≤ring.length)=false:=decide_eq_false a;have k:=Hd f;clear g f h b a;go_enter Tryz.func191,Tryz.ntmps191;go_wp2_with fail;refine(in_calls B size t d rv all ring _ j.out).mono ?_;rintro e i ⟨rfl,rfl⟩;rw[k.out];go_wp2_with fail;go_ret2;exact⟨rfl,rfl⟩
set_option maxRecDepth 100000 in
theorem clear_calls(B size t:Nat)(rv:Value)(all ring:List UInt8)(w:World)(h:At w B rv size all ring t):
 Calls Tryz.prog 158 #[.pointer (some ⟨B,0,none⟩)] w fun e j=>e=.returned (.tuple #[])∧Fr (fun k=>k=B) w j∧At j B (.slice none 0 0) size [] [] 0:=by
 have f:=Hd h;obtain⟨x,y,z,A⟩:=cs4 h.box rfl rfl rfl rfl;have C:=frozen_in h.box 0;have b:=set_in h.box 0 (.int .i64 size);have c:=set_in b 1 (.slice none 0 0);have d:=set_in c 2 (.int .i64 0);have g:=set_in d 3 (.int .i64 0);have o:=cell_in (v:=rv) b (i:=1) rfl;have r:=frozen_in b 1;have p:=cell_in (v:=.int .i64 t) c (i:=2) rfl;have s:=frozen_in c 2;have q:=cell_in (v:=.int .i64 all.length) d (i:=3) rfl;have u:=frozen_in d 3;have m:=Hd g;have a:=(((Fr.one w B 0 (.int .i64 size)).trans (Fr.one _ B 1 (.slice none 0 0))).trans (Fr.one _ B 2 (.int .i64 0))).trans (Fr.one _ B 3 (.int .i64 0));have l:=Hd a;clear h b c d g a;go_enter Tryz.func158,Tryz.ntmps158;go_wp2_with fail;go_end0;exact⟨rfl,l.out,m.out,World.ownsRow_nil _ _ _ _,RingOf.empty size f.out.pos,f.out.pos,f.out.top,by simp,fun k n=>by simp[Value.ownBlock] at n⟩
end Win
namespace Mem
theorem run_copy_any{P:Program}(w:World)(F Q R h:TypeId)(hu:P.underlying F=some (.slice h))(hs:(P.info? h).map (·.size)=some 1)
 (E:Option Addr)(f r u:Nat)(ring:List UInt8)(T:TypeId)(s:w.ownsRow 0 T 1 (.slice E f r) f (bvs ring))(a0:u<f)
 (p:Option Addr)(n y:Nat)(b:List UInt8)(X:Rd w (.slice p n y) b)(V:0<n)(m:Nat)(hm:m=min n (f-u)):
 ∃w',(Builtin.copy_ #[F,Q] R #[.slice (dropP E r u) (f-u) (r-u),.slice p n y]).run P w=.ok (goInt m) w'∧
  w'.ownsRow 0 T 1 (.slice E f r) f (bvs (ring.take u++b.take m++ring.drop (u+m)))∧Fr (fun k=>(Value.slice E f r).ownBlock=some k) w w':=by
 have D:=s.1;rw[bvs_length,Nat.mul_one] at D;obtain⟨q,c,K,h1,h2,W⟩:=X;simp only[Value.slice.injEq] at K;obtain⟨rfl,rfl,rfl⟩:=K;obtain⟨S,o,rfl,Y⟩:=W V;rcases s.2 with⟨hn,h9⟩|⟨g,J,d,O,_,L,H,G,B,N⟩
 ·omega
 ·simp only[Value.slice.injEq] at O
  obtain⟨rfl,_,rfl⟩:=O;rw[Nat.mul_one] at B N;have hd:dropP (some ⟨g,0,none⟩) r u=some ⟨g,u,none⟩:=by
   unfold dropP;rw[if_neg (by omega)];simp[add_mid]
  have a:(bvs (b.take m)).length=m:=by rw[bvs_length,List.length_take];omega
  rw[hd];have M:=run_copy_row (P:=P) w F Q R h g u (f-u) (r-u) ⟨S,o,none⟩ b.length y d T (bvs (b.take m)) hu hs L (by rw[a,hm])
   (fun j v C=>by
     rw[bvs,List.getElem?_map] at C;cases hx:(b.take m)[j]? with
     |none=>rw[hx] at C;cases C
     |some x=>
       rw[hx] at C;rw[List.getElem?_take] at hx;split at hx
       ·rw[add_mid,Y j x hx];exact C
       ·cases hx)
   (by rw[a];omega) (one_bvs _)
  rw[a] at M;have hh:=setRow_heap w g d (d.toList.take u++bvs (b.take m)++d.toList.drop (u+m)).toArray T _ L;refine⟨_,M,⟨by rw[bvs_length];simp only[List.length_append,List.length_take,List.length_drop];omega,.inr ⟨g,r,_,rfl,Nat.zero_le _,hh,H,G,?_,?_⟩⟩,⟨rfl,rfl,rfl,by simp[World.setRow],fun k hk I=>setRow_other w g k _ (fun e=>I (by rw[e];rfl))⟩⟩
  ·simp only[List.size_toArray,List.length_append,List.length_take,List.length_drop,Array.length_toList,a]
   omega
  ·have e:ring.length=f:=D
   rw[Nat.mul_one];have l:∀i,i<f→d.toList[i]? =(bvs ring)[i]? :=fun i z=>by rw[←N,List.getElem?_take,if_pos z]
   apply List.ext_getElem?;intro i;rw[List.getElem?_take];have Z:d.toList.length=r:=by simp[B]
   by_cases z:i<f
   ·rw[if_pos z]
    have U:(bvs (ring.take u++b.take m++ring.drop (u+m)))[i]? =if i<u then(bvs ring)[i]? else if i<u+m then(bvs (b.take m))[i-u]? else(bvs ring)[i]? :=by
     simp only[bvs,List.getElem?_map];by_cases t:i<u
     ·rw[if_pos t,List.append_assoc,List.getElem?_append_left (by rw[List.length_take];omega),List.getElem?_take,if_pos t]
     ·rw[if_neg t]
      by_cases A:i<u+m
      ·rw[if_pos A,List.append_assoc,List.getElem?_append_right (by rw[List.length_take];omega),List.getElem?_append_left (by simp only[List.length_take];omega)]
       congr 2;rw[List.length_take];omega
      ·rw[if_neg A,List.getElem?_append_right (by simp only[List.length_append,List.length_take];omega),List.getElem?_drop]
       congr 2;simp only[List.length_append,List.length_take];omega
    rw[U];by_cases t:i<u
    ·rw[if_pos t,List.append_assoc,List.getElem?_append_left (by rw[List.length_take];omega),List.getElem?_take,if_pos t,l i z]
    ·rw[if_neg t]
     by_cases A:i<u+m
     ·rw[if_pos A,List.append_assoc,List.getElem?_append_right (by rw[List.length_take];omega),List.getElem?_append_left (by rw[List.length_take,a];omega)]
      congr 1;rw[List.length_take];omega
     ·rw[if_neg A,List.getElem?_append_right (by rw[List.length_append,List.length_take,a];omega),List.getElem?_drop,←l i z]
      congr 1;rw[List.length_append,List.length_take,a];omega
   ·rw[if_neg z]
    symm;rw[List.getElem?_eq_none_iff,bvs_length];simp only[List.length_append,List.length_take,List.length_drop];omega
theorem step_copy_any{P:Program}{e:Array Oper}{o:Oper}{a:Act}{w:World}{K:Act→World→Prop}{Q:Exit→Act→World→Prop}{E:Prop}(i:o.guard=none)(d s:Operand)(g j c:TypeId)
 (r:o.op=.call {callee:=.builtin .copy,args:=#[d,s],argTypes:=#[g,j]})(hu:P.underlying g=some (.slice c))(hs:(P.info? c).map (·.size)=some 1)
 (rp:Option Addr)(rl rc u:Nat)(ring:List UInt8)(T:TypeId)(hd:a.eval d=.slice (dropP rp rc u) (rl-u) (rc-u))(hown:w.ownsRow 0 T 1 (.slice rp rl rc) rl (bvs ring))(hu1:u<rl)
 (p:Option Addr)(n cap:Nat)(b:List UInt8)(hv:a.eval s=.slice p n cap)(hb:Rd w (.slice p n cap) b)(h0:0<n)(m:Nat)(hm:m=min n (rl-u))
 (h:∀f,f.ownsRow 0 T 1 (.slice rp rl rc) rl (bvs (ring.take u++b.take m++ring.drop (u+m)))→Fr (fun k=>(Value.slice rp rl rc).ownBlock=some k) w f→K (a.put o.dst (.int .i64 (m:Int))) f):
 if Region.wanted o (yielded e a.tmps)=true then Oper.wp P o a w K Q else E:=by
 have v:Region.wanted o (yielded e a.tmps)=true:=by simp[Region.wanted,i]
 rw[if_pos v];obtain⟨f,t,l,q⟩:=run_copy_any (P:=P) w g j o.type c hu hs rp rl rc u ring T hown hu1 p n cap b hb h0 m hm;unfold Oper.wp;simp[execOp,r,resolve,invoke,builtin,hd,hv,t,Result.andThen];exact h f l q
end Mem
end Go.Proofs.YtffoddpjfgjelaaGreatDoor
