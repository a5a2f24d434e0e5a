/- Part 1 of 48: lemmas of the last part, each under the conditions that it names. -/
import Derived.WalkKit
import Derived.ProofKit
import Derived.Deep.Draws
import Derived.Lib.Hide
import Derived.Deep.AppendSrc
import Derived.Laws.Bits64b
set_option linter.unusedVariables false
set_option linter.unusedSimpArgs false
set_option maxRecDepth 1500
namespace Go.Proofs.YtffoddpjfgjelaaGreatDoor
open Go.RowKit
namespace Mem
theorem ret_int{k:IntKind}{a b:Int}(h:a=b):Ending.returned (.int k a)=.returned (.int k b):=by rw[h]
theorem ret_bool{a b:Bool}(h:a=b):Ending.returned (.bool a)=.returned (.bool b):=by rw[h]
structure Fr(S:Nat→Prop)(w w':World):Prop where
 os:w'.os=w.os
 tape:w'.tape=w.tape
 output:w'.output=w.output
 size:w.heap.size≤w'.heap.size
 block:∀k,k<w.heap.size→¬S k→w'.heap[k]? =w.heap[k]?
theorem Fr.refl(S:Nat→Prop)(w:World):Fr S w w:=⟨rfl,rfl,rfl,Nat.le_refl _,fun _ _ _=>rfl⟩
theorem Fr.trans{S:Nat→Prop}{a b c:World}(h:Fr S a b)(k:Fr S b c):Fr S a c:=
 ⟨k.os.trans h.os,k.tape.trans h.tape,k.output.trans h.output,Nat.le_trans h.size k.size,fun i hi hn=>(k.block i (Nat.lt_of_lt_of_le hi h.size) hn).trans (h.block i hi hn)⟩
theorem Fr.trans'{S T:Nat→Prop}{a b c:World}(h:Fr S a b)(k:Fr T b c)(hT:∀i,i<a.heap.size→T i→S i):Fr S a c:=
 ⟨k.os.trans h.os,k.tape.trans h.tape,k.output.trans h.output,Nat.le_trans h.size k.size,fun i hi hn=>(k.block i (Nat.lt_of_lt_of_le hi h.size) (fun ht=>hn (hT i hi ht))).trans (h.block i hi hn)⟩
theorem Fr.mono{S T:Nat→Prop}{a b:World}(h:Fr S a b)(hT:∀i,i<a.heap.size→S i→T i):Fr T a b:=
 ⟨h.os,h.tape,h.output,h.size,fun i hi hn=>h.block i hi (fun hs=>hn (hT i hi hs))⟩
theorem Fr.alloc{S:Nat→Prop}{a w:World}(h:Fr S a w)(o:Obj):Fr S a (w.alloc o):=
 ⟨h.os,h.tape,h.output,Nat.le_trans h.size (by simp),fun i hi hn=>(Below.heap_alloc w o i (Nat.lt_of_lt_of_le hi h.size)).trans (h.block i hi hn)⟩
theorem Fr.drew{S:Nat→Prop}{a w:World}(h:Fr S a w):Fr S a w.drew:=⟨h.os,h.tape,h.output,h.size,h.block⟩
theorem Fr.drewN{S:Nat→Prop}{a w:World}(h:Fr S a w)(n:Nat):Fr S a (w.drewN n):=⟨h.os,h.tape,h.output,h.size,h.block⟩
theorem Fr.setCell{S:Nat→Prop}{a w:World}(h:Fr S a w){p:Addr}(hp:S p.block∨a.heap.size≤p.block)(u:Value):Fr S a (w.setCell p u):=
 ⟨h.os,h.tape,h.output,by simpa [World.setCell] using h.size,fun i hi hn=>(Below.heap_setCell w p u i (by
  rintro rfl
  rcases hp with hp|hp
  ·exact hn hp
  ·omega)).trans (h.block i hi hn)⟩
theorem Fr.grown{S:Nat→Prop}{a w w':World}{row:Option Nat}(h:Fr S a w)(hg:w.grownBy w' row)(hr:∀k,row=some k→S k∨a.heap.size≤k):Fr S a w':=
 ⟨hg.os.trans h.os,hg.tape.trans h.tape,hg.output.trans h.output,Nat.le_trans h.size hg.size,fun i hi hn=>(hg.block i (Nat.lt_of_lt_of_le hi h.size) (fun e=>by
  rcases hr i e.symm with hs|hs
  ·exact hn hs
  ·omega)).trans (h.block i hi hn)⟩
theorem Fr.below{S:Nat→Prop}{w w':World}(h:Fr S w w')(hS:∀k,k<w.heap.size→¬S k):Below w.heap.size w w':=
 ⟨h.os,h.tape,h.output,h.size,fun k hk=>h.block k hk (hS k hk)⟩
theorem Fr.of_below{w w':World}(h:Below w.heap.size w w')(S:Nat→Prop):Fr S w w':=
 ⟨h.os,h.tape,h.output,h.size,fun k hk _=>h.block k hk⟩
theorem Fr.keep{S:Nat→Prop}{w w':World}(h:Fr S w w'){k:Nat}{o:Obj}(ho:w.heap[k]? =some o)(hn:¬S k):w'.heap[k]? =some o:=
 (h.block k (lt_of_block ho) hn).trans ho
theorem Fr.one(w:World)(g i:Nat)(v:Value):Fr (fun k=>k=g) w (w.setCell ⟨g,i,none⟩ v):=Fr.setCell (S:=fun k=>k=g) (p:=⟨g,i,none⟩) (Fr.refl _ _) (.inl rfl) v
theorem Hd{p:Prop}(h:p):RowKit.Hid p:=h
theorem cell_in{w:World}{g i:Nat}{cs:Array Value}{t:TypeId}{fr:Nat×Nat}{v:Value}(hg:w.heap[g]? =some (.cells cs t fr))(hv:cs[i]? =some v):w.cell? ⟨g,i,none⟩=some v:=by
 rw[cell_of_row w g i cs t fr hg];exact hv
theorem frozen_in{w:World}{g:Nat}{cs:Array Value}{t:TypeId}(hg:w.heap[g]? =some (.cells cs t (0,0)))(i:Nat):w.frozen? ⟨g,i,none⟩=false:=frozen_of_row w g i cs t hg
theorem cs2{w:World}{g:Nat}{cs:Array Value}{t:TypeId}{fr:Nat×Nat}{v0 v1:Value}(hg:w.heap[g]? =some (.cells cs t fr))(h0:cs[0]? =some v0)(h1:cs[1]? =some v1):w.cell? ⟨g,0,none⟩=some v0∧w.cell? ⟨g,1,none⟩=some v1:=⟨cell_in hg h0,cell_in hg h1⟩
theorem cf2{w:World}{g:Nat}{cs:Array Value}{t:TypeId}{v0 v1:Value}(hg:w.heap[g]? =some (.cells cs t (0,0)))(h0:cs[0]? =some v0)(h1:cs[1]? =some v1):w.cell? ⟨g,0,none⟩=some v0∧w.cell? ⟨g,1,none⟩=some v1∧∀i:Nat,w.frozen? ⟨g,i,none⟩=false:=⟨cell_in hg h0,cell_in hg h1,fun i=>frozen_in hg i⟩
theorem cs3{w:World}{g:Nat}{cs:Array Value}{t:TypeId}{fr:Nat×Nat}{v0 v1 v2:Value}(hg:w.heap[g]? =some (.cells cs t fr))(h0:cs[0]? =some v0)(h1:cs[1]? =some v1)(h2:cs[2]? =some v2):w.cell? ⟨g,0,none⟩=some v0∧w.cell? ⟨g,1,none⟩=some v1∧w.cell? ⟨g,2,none⟩=some v2:=⟨cell_in hg h0,cell_in hg h1,cell_in hg h2⟩
theorem cf3{w:World}{g:Nat}{cs:Array Value}{t:TypeId}{v0 v1 v2:Value}(hg:w.heap[g]? =some (.cells cs t (0,0)))(h0:cs[0]? =some v0)(h1:cs[1]? =some v1)(h2:cs[2]? =some v2):w.cell? ⟨g,0,none⟩=some v0∧w.cell? ⟨g,1,none⟩=some v1∧w.cell? ⟨g,2,none⟩=some v2∧∀i:Nat,w.frozen? ⟨g,i,none⟩=false:=⟨cell_in hg h0,cell_in hg h1,cell_in hg h2,fun i=>frozen_in hg i⟩
theorem cs4{w:World}{g:Nat}{cs:Array Value}{t:TypeId}{fr:Nat×Nat}{v0 v1 v2 v3:Value}(hg:w.heap[g]? =some (.cells cs t fr))(h0:cs[0]? =some v0)(h1:cs[1]? =some v1)(h2:cs[2]? =some v2)(h3:cs[3]? =some v3):w.cell? ⟨g,0,none⟩=some v0∧w.cell? ⟨g,1,none⟩=some v1∧w.cell? ⟨g,2,none⟩=some v2∧w.cell? ⟨g,3,none⟩=some v3:=⟨cell_in hg h0,cell_in hg h1,cell_in hg h2,cell_in hg h3⟩
theorem cf4{w:World}{g:Nat}{cs:Array Value}{t:TypeId}{v0 v1 v2 v3:Value}(hg:w.heap[g]? =some (.cells cs t (0,0)))(h0:cs[0]? =some v0)(h1:cs[1]? =some v1)(h2:cs[2]? =some v2)(h3:cs[3]? =some v3):w.cell? ⟨g,0,none⟩=some v0∧w.cell? ⟨g,1,none⟩=some v1∧w.cell? ⟨g,2,none⟩=some v2∧w.cell? ⟨g,3,none⟩=some v3∧∀i:Nat,w.frozen? ⟨g,i,none⟩=false:=⟨cell_in hg h0,cell_in hg h1,cell_in hg h2,cell_in hg h3,fun i=>frozen_in hg i⟩
theorem cs5{w:World}{g:Nat}{cs:Array Value}{t:TypeId}{fr:Nat×Nat}{v0 v1 v2 v3 v4:Value}(hg:w.heap[g]? =some (.cells cs t fr))(h0:cs[0]? =some v0)(h1:cs[1]? =some v1)(h2:cs[2]? =some v2)(h3:cs[3]? =some v3)(h4:cs[4]? =some v4):w.cell? ⟨g,0,none⟩=some v0∧w.cell? ⟨g,1,none⟩=some v1∧w.cell? ⟨g,2,none⟩=some v2∧w.cell? ⟨g,3,none⟩=some v3∧w.cell? ⟨g,4,none⟩=some v4:=⟨cell_in hg h0,cell_in hg h1,cell_in hg h2,cell_in hg h3,cell_in hg h4⟩
theorem cf5{w:World}{g:Nat}{cs:Array Value}{t:TypeId}{v0 v1 v2 v3 v4:Value}(hg:w.heap[g]? =some (.cells cs t (0,0)))(h0:cs[0]? =some v0)(h1:cs[1]? =some v1)(h2:cs[2]? =some v2)(h3:cs[3]? =some v3)(h4:cs[4]? =some v4):w.cell? ⟨g,0,none⟩=some v0∧w.cell? ⟨g,1,none⟩=some v1∧w.cell? ⟨g,2,none⟩=some v2∧w.cell? ⟨g,3,none⟩=some v3∧w.cell? ⟨g,4,none⟩=some v4∧∀i:Nat,w.frozen? ⟨g,i,none⟩=false:=⟨cell_in hg h0,cell_in hg h1,cell_in hg h2,cell_in hg h3,cell_in hg h4,fun i=>frozen_in hg i⟩
theorem cs6{w:World}{g:Nat}{cs:Array Value}{t:TypeId}{fr:Nat×Nat}{v0 v1 v2 v3 v4 v5:Value}(hg:w.heap[g]? =some (.cells cs t fr))(h0:cs[0]? =some v0)(h1:cs[1]? =some v1)(h2:cs[2]? =some v2)(h3:cs[3]? =some v3)(h4:cs[4]? =some v4)(h5:cs[5]? =some v5):w.cell? ⟨g,0,none⟩=some v0∧w.cell? ⟨g,1,none⟩=some v1∧w.cell? ⟨g,2,none⟩=some v2∧w.cell? ⟨g,3,none⟩=some v3∧w.cell? ⟨g,4,none⟩=some v4∧w.cell? ⟨g,5,none⟩=some v5:=⟨cell_in hg h0,cell_in hg h1,cell_in hg h2,cell_in hg h3,cell_in hg h4,cell_in hg h5⟩
theorem cf6{w:World}{g:Nat}{cs:Array Value}{t:TypeId}{v0 v1 v2 v3 v4 v5:Value}(hg:w.heap[g]? =some (.cells cs t (0,0)))(h0:cs[0]? =some v0)(h1:cs[1]? =some v1)(h2:cs[2]? =some v2)(h3:cs[3]? =some v3)(h4:cs[4]? =some v4)(h5:cs[5]? =some v5):w.cell? ⟨g,0,none⟩=some v0∧w.cell? ⟨g,1,none⟩=some v1∧w.cell? ⟨g,2,none⟩=some v2∧w.cell? ⟨g,3,none⟩=some v3∧w.cell? ⟨g,4,none⟩=some v4∧w.cell? ⟨g,5,none⟩=some v5∧∀i:Nat,w.frozen? ⟨g,i,none⟩=false:=⟨cell_in hg h0,cell_in hg h1,cell_in hg h2,cell_in hg h3,cell_in hg h4,cell_in hg h5,fun i=>frozen_in hg i⟩
theorem R0(w:World):Fr (fun _=>False) w w:=Fr.refl _ w
theorem set_in{w:World}{g:Nat}{cs:Array Value}{t:TypeId}(hg:w.heap[g]? =some (.cells cs t (0,0)))(i:Nat)(v:Value):
 (w.setCell ⟨g,i,none⟩ v).heap[g]? =some (.cells (cs.setIfInBounds i v) t (0,0)):=heap_setCell_same w g i cs t v hg
theorem set_out{w:World}{g k i:Nat}{o:Obj}(hk:w.heap[k]? =some o)(hne:k≠g)(v:Value):
 (w.setCell ⟨g,i,none⟩ v).heap[k]? =some o:=(heap_setCell_other w _ k v hne).trans hk
theorem alloc_keep{w:World}{a:Addr}{v:Value}(h:w.cell? a=some v)(o:Obj):(w.alloc o).cell? a=some v:=by
 rw[World.cell?_alloc_lt w o a (block_lt_of_cell h)];exact h
theorem quiet_left{P:Program}{f:FuncId}{args:Array Value}{w:World}{n:Nat}{v:Value}
 (h:Calls P f args (w.drewN n) fun e w'=>e=.returned v∧w.drewN n=w'):Calls P f args (w.drewN n) fun e w''=>e=.returned v∧∃m,w''=w.drewN m:=
 h.mono fun _ _ ⟨he,hm⟩=>⟨he,n,hm.symm⟩
theorem add_mid(b o j:Nat):(⟨b,o,none⟩:Addr).add j=⟨b,o+j,none⟩:=by unfold Addr.add;split<;>simp_all
theorem spot_none{w:World}{a:Addr}{v:Value}(h:w.cell? a=some v):a=⟨a.block,a.off,none⟩:=by
 unfold World.cell? at h
 split at h
 ·cases hs:a.spot with
  |none=>cases a;simp_all
  |some x=>simp[hs] at h
 ·simp at h
theorem add_zero'(a:Addr):a.add 0=a:=by simp[Addr.add]
theorem row_plain{w:World}{a:Addr}{n:Nat}{V:Nat→Value}(h:∀i,i<n→w.cell? (a.add i)=some (V i))(hn:0<n):a=⟨a.block,a.off,none⟩:=by
 have:=h 0 hn
 rw[add_zero'] at this
 exact spot_none this
end Mem
namespace Mem
def splice:Array Value→Nat→List Value→Array Value
 |cur,_,[]=>cur
 |cur,o,v::vs=>splice (cur.setIfInBounds o v) (o+1) vs
theorem splice_size:∀(vs:List Value)(cur:Array Value)(o:Nat),(splice cur o vs).size=cur.size
 |[],_,_=>rfl
 |v::vs,cur,o=>by rw[splice,splice_size vs];simp
theorem splice_take:∀(vs:List Value)(cur:Array Value)(o:Nat),o+vs.length≤cur.size→(splice cur o vs).toList.take (o+vs.length)=cur.toList.take o++vs
 |[],cur,o,_=>by simp[splice]
 |v::vs,cur,o,h=>by
   have h':o+1+vs.length≤(cur.setIfInBounds o v).size:=by simp at h ⊢;omega
   have:=splice_take vs (cur.setIfInBounds o v) (o+1) h'
   rw[splice,show o+(v::vs).length=o+1+vs.length by simp;omega,this]
   have e:(cur.setIfInBounds o v).toList.take (o+1)=cur.toList.take o++[v]:=by
    simp at h
    rw[Array.toList_setIfInBounds,List.take_add_one,List.take_set_of_le (by omega),List.getElem?_set_self (by simp;omega)]
    rfl
   rw[e];simp
theorem setCells_heap(g:Nat)(t:TypeId):∀(vs:List Value)(o:Nat)(w:World)(cur:Array Value),w.heap[g]? =some (.cells cur t (0,0))→
 (w.setCells g o vs).heap[g]? =some (.cells (splice cur o vs) t (0,0))
 |[],_,_,_,h=>h
 |v::vs,o,w,cur,h=>setCells_heap g t vs (o+1) _ _ (set_in h o v)
theorem setCells_fr(g:Nat):∀(vs:List Value)(o:Nat)(w:World),Fr (fun k=>g=k) w (w.setCells g o vs)
 |[],_,w=>Fr.refl _ w
 |v::vs,o,w=>(Fr.setCell (S:=fun k=>g=k) (p:=⟨g,o,none⟩) (Fr.refl _ w) (.inl rfl) v).trans (setCells_fr g vs (o+1) _)
section
variable {P:Program}(w:World)
theorem run_append_any(t tx ty e:TypeId)(i:TypeInfo)(z:Value)(size bytes:Nat)(ht:P.underlying t=some (.slice e))(hi:P.info? e=some i)(hz:i.zero=some z)
 (hsize:i.size=size)(hby:i.bytes=bytes)(hzs:z.cells.size=size)(hsz:0<size)
 (v:Value)(n:Nat)(xs:List Value)(hown:w.ownsRow 0 e size v n xs)(x:Value)(m:Nat)(news:List Value)(hs:Src P size tx x m news w)
 (h63:n+m≤maxLen)(hbytes:(n+m)*bytes≤140737488355328):
 ∃v' w',(Builtin.append_ #[t,tx] ty #[v,x]).run P w=.ok v' w'∧w'.ownsRow 0 e size v' (n+m) (xs++news)∧Fr (fun k=>v.ownBlock=some k) w w'∧
  (∀k,v'.ownBlock=some k→v.ownBlock=some k∨w.heap.size≤k)∧(v'=.slice none 0 0↔v=.slice none 0 0∧m=0):=by
 subst hsize
 subst hby
 have hsmall:n+m≤9223372036854775807:=by simp only[maxLen] at h63;omega
 have hlen:(xs++news).length=(n+m)*i.size:=by rw[List.length_append,hown.1,hs.newsLen,Nat.add_mul]
 have grown:∀(old:Nat),old<n+m→
  (w.drew.alloc (.cells ((xs++news).toArray++Builtin.zeroCells z.cells (grownCap w (n+m) old e-(n+m))) e)).ownsRow 0 e i.size
    (.slice (some ⟨w.heap.size,0,none⟩) (n+m) (grownCap w (n+m) old e)) (n+m) (xs++news):=by
  intro old ho
  have hge:=grownCap_ge w (n+m) old e
  have hcm:grownCap w (n+m) old e≤maxLen:=grownCap_le_maxLen w (n+m) old e h63
  refine⟨hlen,.inr ⟨w.heap.size,_,_,rfl,Nat.zero_le _,heap_alloc_new w.drew _,hge,hcm,?_,?_⟩⟩
  ·simp only[Array.size_append,List.size_toArray,size_zeroCells,hzs,hlen,←Nat.add_mul]
   congr 1
   omega
  ·simp only[Array.toList_append]
   rw[←hlen]
   exact List.take_left
 rcases hown.2 with⟨rfl,rfl⟩|⟨g,cap,cur,rfl,hbg,hg,hnc,hcm,hcs,htake⟩
 ·have hx:xs=[]:=List.eq_nil_of_length_eq_zero (by simpa using hown.1)
  subst hx
  by_cases hm:m=0
  ·subst hm
   have hn:news=[]:=List.eq_nil_of_length_eq_zero (by simpa using hs.newsLen)
   subst hn
   refine⟨.slice none 0 0,w,?_,World.ownsRow_nil w 0 e i.size,Fr.refl _ _,by simp[Value.ownBlock],by simp⟩
   have hc:=hs.cells
   rcases hs.kind with⟨e',hk⟩|hk<;>simp[Builtin.append_,run_underlying ht,run_underlying hk,sizeOf,typeInfo,hi,hs.len,hc]
  ·have hr:=run_append_grow_src (P:=P) w t tx ty e i z ht hi hz none 0 0 [] (run_firstCells_none w.drew i.size 0 0 0) x m news hs (by omega) (by omega) (growslice_fits (by omega) (by simpa using hbytes))
   have hgr:=grown 0 (by omega)
   simp only[Nat.zero_add,List.nil_append] at hgr hr ⊢
   exact⟨_,_,hr,hgr,(Fr.refl _ _).drew.alloc _,by simp[Value.ownBlock],by simp[hm]⟩
 ·by_cases hroom:n+m≤cap
  ·have hfit:n*i.size+news.length≤cur.size:=by rw[hs.newsLen,hcs,←Nat.add_mul];exact Nat.mul_le_mul_right _ hroom
   have hr:=run_append_room_src (P:=P) w t tx ty e i ht hi g 0 n cap x m news hs hroom (fun j hj=>by rw[cell_of_row w g _ cur e _ hg];simp;omega) (fun j hj=>frozen_in hg _)
   rw[Nat.zero_add] at hr
   refine⟨_,_,hr,⟨hlen,.inr ⟨g,cap,_,rfl,Nat.zero_le _,setCells_heap g e news _ w cur hg,hroom,hcm,by rw[splice_size];exact hcs,?_⟩⟩,(setCells_fr g news _ w).mono (fun k _ h=>by rw[Value.ownBlock];exact congrArg some h),by simp[Value.ownBlock],by simp⟩
   rw[show(n+m)*i.size=n*i.size+news.length by rw[hs.newsLen,Nat.add_mul],splice_take news cur _ hfit,htake]
  ·have holds:∀j u,xs[j]? =some u→w.cell? ((⟨g,0,none⟩:Addr).add j)=some u:=hown.cells (g:=g) rfl
   have hold:(Builtin.firstCells i.size n (.slice (some ⟨g,0,none⟩) n cap)).run P w.drew=.ok xs.toArray w.drew:=run_firstCells_some (P:=P) w.drew i.size n ⟨g,0,none⟩ n cap xs hown.1 (by simpa using holds)
   have hr:=run_append_grow_src (P:=P) w t tx ty e i z ht hi hz (some ⟨g,0,none⟩) n cap xs hold x m news hs (by omega) (by omega) (growslice_fits (by omega) hbytes)
   exact⟨_,_,hr,grown cap (by omega),(Fr.refl _ _).drew.alloc _,by simp[Value.ownBlock],by simp⟩
theorem own_slice{w:World}{b:Nat}{e:TypeId}{size:Nat}{v:Value}{n:Nat}{xs:List Value}(hown:w.ownsRow b e size v n xs):∃p cap,v=.slice p n cap:=by
 rcases hown.2 with⟨rfl,rfl⟩|⟨g,cap,cur,rfl,_⟩
 ·exact⟨none,0,rfl⟩
 ·exact⟨_,cap,rfl⟩
theorem src_own{t e:TypeId}{size:Nat}(hk:P.underlying t=some (.slice e)){v:Value}{n:Nat}{xs:List Value}(hown:w.ownsRow 0 e size v n xs)(h1:∀u ∈ xs,u.oneCell'=true):Src P size t v n xs w:=by
 rcases hown.2 with⟨rfl,rfl⟩|⟨g,cap,cur,rfl,hbg,hg,hnc,hcm,hcs,htake⟩
 ·have hx:xs=[]:=List.eq_nil_of_length_eq_zero (by simpa using hown.1)
  subst hx
  exact Src.ofNil w hk 0
 ·exact Src.ofSlice w hk _ n cap xs hown.1 (hown.cells (g:=g) rfl) h1
theorem wp_append_any{o:Oper}{a:Act}{K:Act→World→Prop}{Q:Exit→Act→World→Prop}(s y:Operand)(t tx:TypeId)
 (ho:o.op=.call {callee:=.builtin .append,args:=#[s,y],argTypes:=#[t,tx]})
 (e:TypeId)(i:TypeInfo)(z:Value)(size bytes:Nat)(ht:P.underlying t=some (.slice e))(hi:P.info? e=some i)(hz:i.zero=some z)
 (hsize:i.size=size)(hby:i.bytes=bytes)(hzs:z.cells.size=size)(hsz:0<size)
 (v:Value)(n:Nat)(xs:List Value)(hv:a.eval s=v)(hown:w.ownsRow 0 e size v n xs)
 (x:Value)(m:Nat)(news:List Value)(hx:a.eval y=x)(hs:Src P size tx x m news w)
 (h63:n+m≤maxLen)(hbytes:(n+m)*bytes≤140737488355328)
 (h:∀v' w',w'.ownsRow 0 e size v' (n+m) (xs++news)→Fr (fun k=>v.ownBlock=some k) w w'→(∀k,v'.ownBlock=some k→v.ownBlock=some k∨w.heap.size≤k)→(v'=.slice none 0 0↔v=.slice none 0 0∧m=0)→K (a.put o.dst v') w'):o.wp P a w K Q:=by
 obtain⟨v',w',hr,h2,h3,h4,h5⟩:=run_append_any (P:=P) w t tx o.type e i z size bytes ht hi hz hsize hby hzs hsz v n xs hown x m news hs h63 hbytes
 unfold Oper.wp execOp
 simp only[ho,resolve,invoke,builtin,Sem.run_bind,Sem.run_pure,Result.andThen_ok,List.map_toArray,List.map_cons,List.map_nil,hv,hx,hr]
 exact h v' w' h2 h3 h4 h5
theorem wpList_append_any{ops:Array Oper}{rest:List Oper}{o:Oper}{a:Act}{Q:Exit→Act→World→Prop}(hgd:o.guard=none)(s y:Operand)(t tx:TypeId)
 (ho:o.op=.call {callee:=.builtin .append,args:=#[s,y],argTypes:=#[t,tx]})
 (e:TypeId)(i:TypeInfo)(z:Value)(size bytes:Nat)(ht:P.underlying t=some (.slice e))(hi:P.info? e=some i)(hz:i.zero=some z)
 (hsize:i.size=size)(hby:i.bytes=bytes)(hzs:z.cells.size=size)(hsz:0<size)
 (v:Value)(n:Nat)(xs:List Value)(hv:a.eval s=v)(hown:w.ownsRow 0 e size v n xs)
 (x:Value)(m:Nat)(news:List Value)(hx:a.eval y=x)(hs:Src P size tx x m news w)
 (h63:n+m≤maxLen)(hbytes:(n+m)*bytes≤140737488355328)
 (h:∀v' w',w'.ownsRow 0 e size v' (n+m) (xs++news)→Fr (fun k=>v.ownBlock=some k) w w'→(∀k,v'.ownBlock=some k→v.ownBlock=some k∨w.heap.size≤k)→(v'=.slice none 0 0↔v=.slice none 0 0∧m=0)→wpList P ops Q rest (a.put o.dst v') w'):wpList P ops Q (o::rest) a w:=
 wpList_plain hgd fun _ hK=>wp_append_any w s y t tx ho e i z size bytes ht hi hz hsize hby hzs hsz v n xs hv hown x m news hx hs h63 hbytes (fun v' w' h1 h2 h3 h4=>hK _ _ (h v' w' h1 h2 h3 h4))
theorem step_append_any{ops:Array Oper}{o:Oper}{a:Act}{K:Act→World→Prop}{Q:Exit→Act→World→Prop}{E:Prop}(hgd:o.guard=none)(s y:Operand)(t tx:TypeId)
 (ho:o.op=.call {callee:=.builtin .append,args:=#[s,y],argTypes:=#[t,tx]})
 (e:TypeId)(i:TypeInfo)(z:Value)(size bytes:Nat)(ht:P.underlying t=some (.slice e))(hi:P.info? e=some i)(hz:i.zero=some z)
 (hsize:i.size=size)(hby:i.bytes=bytes)(hzs:z.cells.size=size)(hsz:0<size)
 (v:Value)(n:Nat)(xs:List Value)(hv:a.eval s=v)(hown:w.ownsRow 0 e size v n xs)
 (x:Value)(m:Nat)(news:List Value)(hx:a.eval y=x)(hs:Src P size tx x m news w)
 (h63:n+m≤maxLen)(hbytes:(n+m)*bytes≤140737488355328)
 (h:∀v' w',w'.ownsRow 0 e size v' (n+m) (xs++news)→Fr (fun k=>v.ownBlock=some k) w w'→(∀k,v'.ownBlock=some k→v.ownBlock=some k∨w.heap.size≤k)→(v'=.slice none 0 0↔v=.slice none 0 0∧m=0)→K (a.put o.dst v') w'):
 if Region.wanted o (yielded ops a.tmps)=true then Oper.wp P o a w K Q else E:=by
 have hw:Region.wanted o (yielded ops a.tmps)=true:=by simp[Region.wanted,hgd]
 rw[if_pos hw]
 exact wp_append_any w s y t tx ho e i z size bytes ht hi hz hsize hby hzs hsz v n xs hv hown x m news hx hs h63 hbytes h
end
end Mem
namespace Mem
def bv(x:UInt8):Value:=.int .u8 (x.toNat:Int)
def bvs(xs:List UInt8):List Value:=xs.map bv
theorem bvs_length(xs:List UInt8):(bvs xs).length=xs.length:=by simp[bvs]
theorem bvs_at{xs:List UInt8}{i:Nat}{x:UInt8}(h:xs[i]? =some x):(bvs xs)[i]? =some (bv x):=by simp[bvs,h]
theorem bvs_append(xs ys:List UInt8):bvs (xs++ys)=bvs xs++bvs ys:=by simp[bvs]
theorem one_bvs(xs:List UInt8):∀u ∈ bvs xs,u.oneCell'=true:=by
 intro u hu
 obtain⟨x,_,rfl⟩:=List.mem_map.1 hu
 rfl
def Rd(w:World)(v:Value)(xs:List UInt8):Prop:=
 ∃p cap,v=.slice p xs.length cap∧xs.length≤cap∧cap≤maxLen∧(0<xs.length→∃b o,p=some ⟨b,o,none⟩∧∀(i:Nat)(x:UInt8),xs[i]? =some x→w.cell? ⟨b,o+i,none⟩=some (bv x))
theorem Rd.step{S:Nat→Prop}{w w':World}{v:Value}{xs:List UInt8}(h:Rd w v xs)(hfr:Fr S w w')(hS:∀k,v.ownBlock=some k→¬S k):Rd w' v xs:=by
 obtain⟨p,cap,rfl,h1,h2,h3⟩:=h
 refine⟨p,cap,rfl,h1,h2,fun h0=> ?_⟩
 obtain⟨b,o,rfl,hc⟩:=h3 h0
 refine⟨b,o,rfl,fun i x hx=> ?_⟩
 have:=hc i x hx
 rw[World.cell?_of_block (w:=w) (hfr.block b (block_lt_of_cell this) (hS b rfl))]
 exact this
theorem Rd.keep{w w':World}{v:Value}{xs:List UInt8}(h:Rd w v xs)(hfr:Fr (fun _=>False) w w'):Rd w' v xs:=h.step hfr (fun _ _ f=>f)
theorem Rd.of_own{w:World}{T:TypeId}{v:Value}{n:Nat}{xs:List UInt8}(h:w.ownsRow 0 T 1 v n (bvs xs)):Rd w v xs:=by
 have hn:n=xs.length:=by have:=h.1;rw[bvs_length] at this;omega
 subst hn
 rcases h.2 with⟨rfl,h0⟩|⟨g,cap,cur,rfl,_,hg,hle,hm,hcs,ht⟩
 ·exact⟨none,0,by rw[h0],by omega,by simp[maxLen],by omega⟩
 ·refine⟨_,cap,rfl,hle,hm,fun h0=>⟨g,0,rfl,fun i x hx=> ?_⟩⟩
  rw[Nat.zero_add]
  refine cell_in hg ?_
  rw[Nat.mul_one] at ht
  have h1:=bvs_at hx
  rw[←ht,List.getElem?_take] at h1
  split at h1
  ·simpa using h1
  ·cases h1
theorem Rd.nil(w:World):Rd w (.slice none 0 0) []:=⟨none,0,rfl,by simp,by simp[maxLen],by simp⟩
theorem or_128(x:Nat)(h:x<256):bits BinOp.or IntKind.u8 (x:Int) 128=((x%128+128:Nat):Int):=by
 have h1:∀n:Fin 256,bits BinOp.or IntKind.u8 (n.val:Int) 128=((n.val%128+128:Nat):Int):=by decide+kernel
 exact h1 ⟨x,h⟩
theorem andNot_128(x:Nat)(h:x<256):bits BinOp.andNot IntKind.u8 (x:Int) 128=((x%128:Nat):Int):=by
 have h1:∀n:Fin 256,bits BinOp.andNot IntKind.u8 (n.val:Int) 128=((n.val%128:Nat):Int):=by decide+kernel
 exact h1 ⟨x,h⟩
theorem set_range(n k:Nat)(f:Nat→Value)(x:Value):((List.range n).map f).toArray.setIfInBounds k x=((List.range n).map (fun j=>if j=k then x else f j)).toArray:=by
 apply Array.ext_getElem?
 intro i
 rw[Array.getElem?_setIfInBounds]
 by_cases h:k=i
 ·subst h
  by_cases h2:k<n<;>simp[h2]
 ·rw[if_neg h]
  by_cases h2:i<n
  ·simp[h2,Ne.symm h]
  ·simp[h2]
theorem range_at(n k:Nat)(f:Nat→Value)(h:k<n):((List.range n).map f).toArray[k]? =some (f k):=by simp[h]
theorem range_zero(n:Nat)(z:Value):(Array.replicate n z)=((List.range n).map (fun _=>z)).toArray:=by
 apply Array.ext
 ·simp
 ·intro i h1 h2;simp
def NewB(T:TypeId)(w w':World)(v:Value)(xs:List UInt8):Prop:=w'.ownsRow 0 T 1 v xs.length (bvs xs)∧∀k,v.ownBlock=some k→w.heap.size≤k
theorem NewB.rd{T:TypeId}{w w':World}{v:Value}{xs:List UInt8}(h:NewB T w w' v xs):Rd w' v xs:=Rd.of_own h.1
theorem own_step{S:Nat→Prop}{w w':World}{T:TypeId}{v:Value}{n:Nat}{xs:List Value}(h:w.ownsRow 0 T 1 v n xs)(hfr:Fr S w w')(hS:∀k,v.ownBlock=some k→¬S k):w'.ownsRow 0 T 1 v n xs:=by
 obtain⟨h1,h2⟩:=h
 refine⟨h1,?_⟩
 rcases h2 with h2|⟨g,cap,cur,rfl,h4,hg,hrest⟩
 ·exact .inl h2
 ·exact .inr ⟨g,cap,cur,rfl,h4,hfr.keep hg (hS g rfl),hrest⟩
theorem own_row{w:World}{T:TypeId}{g n:Nat}{xs:List Value}(hg:w.heap[g]? =some (.cells xs.toArray T (0,0)))(hn:xs.length=n)(hm:n≤maxLen):w.ownsRow 0 T 1 (.slice (some ⟨g,0,none⟩) n n) n xs:=
 ⟨by omega,.inr ⟨g,n,xs.toArray,rfl,Nat.zero_le _,hg,Nat.le_refl _,hm,by simp[hn],by simp[←hn]⟩⟩
end Mem
end Go.Proofs.YtffoddpjfgjelaaGreatDoor
namespace Go.Proofs.YtffoddpjfgjelaaGreatDoor
namespace Win
def Full(size:Nat)(all ring:List UInt8)(t:Nat):Prop:=
 ring.length=size∧1≤t∧t≤size∧size≤all.length∧∀dist,1≤dist→dist≤size→ring[if dist≤t then t-dist else t+size-dist]? =all[all.length-dist]?
structure RingOf(size:Nat)(all ring:List UInt8)(t:Nat):Prop where
 small:all.length<size→ring=all∧t=all.length
 full:size≤all.length→Full size all ring t
theorem RingOf.len{size t:Nat}{all ring:List UInt8}(h:RingOf size all ring t):ring.length=min size all.length:=by
 by_cases hs:all.length<size
 ·rw[(h.small hs).1];omega
 ·have:=(h.full (by omega)).1;omega
theorem RingOf.t_le{size t:Nat}{all ring:List UInt8}(h:RingOf size all ring t):t≤ring.length:=by
 by_cases hs:all.length<size
 ·rw[(h.small hs).1,(h.small hs).2];exact Nat.le_refl _
 ·have:=h.full (by omega)
  rw[this.1];exact this.2.2.1
theorem RingOf.empty(size:Nat)(h:0<size):RingOf size [] [] 0:=⟨fun _=>⟨rfl,rfl⟩,fun h1=>by simp at h1;omega⟩
theorem RingOf.back{size t dist:Nat}{all ring:List UInt8}(h:RingOf size all ring t)(h1:1≤dist)(h2:dist≤ring.length):ring[if dist≤t then t-dist else t+ring.length-dist]? =all[all.length-dist]? :=by
 by_cases hs:all.length<size
 ·obtain⟨rfl,rfl⟩:=h.small hs
  rw[if_pos h2]
 ·obtain⟨hl,_,_,_,hb⟩:=h.full (by omega)
  rw[hl] at h2 ⊢
  exact hb dist h1 h2
theorem full_of_eq{size:Nat}{all:List UInt8}(h:all.length=size)(h0:0<size):Full size all all size:=
 ⟨h,h0,Nat.le_refl _,by omega,fun dist h1 h2=>by rw[if_pos h2,h]⟩
theorem RingOf.grow{size t:Nat}{all ring b:List UInt8}(h:RingOf size all ring t)(h0:0<size)(hb:0<b.length)(hg:ring.length+b.length≤size):RingOf size (all++b) (ring++b) (ring.length+b.length):=by
 have hs:all.length<size:=by
  have:=h.len
  omega
 obtain⟨rfl,rfl⟩:=h.small hs
 refine⟨fun _=>⟨rfl,by simp⟩,fun h1=> ?_⟩
 rw[List.length_append] at h1
 have e:(ring++b).length=size:=by rw[List.length_append];omega
 rw[show ring.length+b.length=size by omega]
 exact full_of_eq e h0
theorem Full.write{size t u:Nat}{all ring b:List UInt8}(h:Full size all ring t)(hu:u=if t=size then 0 else t)(hb:0<b.length)(hm:u+b.length≤size):
 Full size (all++b) (ring.take u++b++ring.drop (u+b.length)) (u+b.length):=by
 obtain⟨h1,h2,h3,h4,h5⟩:=h
 have hul:u≤ring.length:=by omega
 have hlen:(ring.take u++b++ring.drop (u+b.length)).length=size:=by simp only[List.length_append,List.length_take,List.length_drop];omega
 refine⟨hlen,by omega,hm,by rw[List.length_append];omega,fun dist d1 d2=> ?_⟩
 rw[List.length_append]
 have htk:(ring.take u).length=u:=by rw[List.length_take];omega
 by_cases hd:dist≤b.length
 ·rw[if_pos (by omega),List.append_assoc,List.getElem?_append_right (by rw[htk];omega),htk,List.getElem?_append_left (by omega),List.getElem?_append_right (by omega)]
  congr 1
  omega
 ·have key:=h5 (dist-b.length) (by omega) (by omega)
  have e1:(all++b)[all.length+b.length-dist]? =all[all.length-(dist-b.length)]? :=by
   rw[List.getElem?_append_left (by omega)]
   congr 1
   omega
  rw[e1,←key]
  have put:∀j,(j<u∨u+b.length≤j)→(ring.take u++b++ring.drop (u+b.length))[j]? =ring[j]? :=by
   intro j hj
   rcases hj with hj|hj
   ·rw[List.append_assoc,List.getElem?_append_left (by rw[htk];exact hj),List.getElem?_take,if_pos hj]
   ·rw[List.getElem?_append_right (by rw[List.length_append,htk];exact hj),List.length_append,htk,List.getElem?_drop]
    congr 1
    omega
  by_cases ht:t=size
  ·rw[if_pos ht] at hu
   subst hu
   rw[if_neg (by omega),put _ (.inr (by omega)),if_pos (by omega)]
   congr 1
   omega
  ·rw[if_neg ht] at hu
   subst hu
   by_cases hdt:dist-b.length≤u
   ·rw[if_pos (by omega),put _ (.inl (by omega)),if_pos hdt]
    congr 1
    omega
   ·rw[if_neg (by omega),put _ (.inr (by omega)),if_neg hdt]
    congr 1
    omega
theorem RingOf.cut{size t:Nat}{x y b ring:List UInt8}(h:RingOf size (x++b) ring t)(hb:b.length=size)(h0:0<size):RingOf size (y++b) ring t:=by
 refine⟨fun h1=>by rw[List.length_append] at h1;omega,fun _=> ?_⟩
 obtain⟨h1,h2,h3,h4,h5⟩:=h.full (by rw[List.length_append];omega)
 refine⟨h1,h2,h3,by rw[List.length_append];omega,fun dist d1 d2=> ?_⟩
 rw[h5 dist d1 d2,List.getElem?_append_right (by rw[List.length_append];omega),List.getElem?_append_right (by rw[List.length_append];omega)]
 congr 1
 simp only[List.length_append]
 omega
theorem Full.ring{size t:Nat}{all ring:List UInt8}(h:Full size all ring t):RingOf size all ring t:=⟨fun h1=>by have:=h.2.2.2.1;omega,fun _=>h⟩
end Win
end Go.Proofs.YtffoddpjfgjelaaGreatDoor
