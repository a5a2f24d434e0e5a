/- Part 8 of 54: lemmas of the last part, each under the conditions that it names. -/
import Derived.Test.YtffoddpjfgjelaaGreatDoorRows
import Derived.Maps.Own
import Derived.WideKeyEntry
import Derived.DeepKeys4
import Derived.WalkKit
import Derived.WalkSpells
import Derived.Deep.QuietTactic
import Derived.Deep.LoopGhost
import Derived.BigQuiet
import Derived.Laws.Rows
import Derived.Deep.RegionLaw
import Derived.Test.YtffoddpjfgjelaaGreatDoorK02
set_option linter.unusedVariables false
set_option linter.unusedSimpArgs false
set_option maxRecDepth 1500
set_option maxHeartbeats 4000000
namespace Go.Proofs.YtffoddpjfgjelaaGreatDoor
open Go.RowKit
namespace Fi
open Mem
open Go.Maps (Keyed)
open Go.WideElems (Fit rd)
open Go.ChangeMaps (setBlock heap_setBlock_same heap_setBlock_other)
theorem laidOutT:laidOutB Tryz.prog=true:=by kernel_rfl
theorem wordLaw:WideMaps.KeyLaw Tryz.prog 363:=
 deep_law_laid laidOutT (m:=2) (by omega) (of_decide_eq_true (by kernel_rfl)) (by kernel_rfl) (by kernel_rfl)
theorem wordKeyed:Keyed Tryz.prog 363:=Keyed.of_law wordLaw
abbrev wordV(a b c:UInt8):Value:=.agg #[bv a,bv b,bv c]
theorem u8_wf(a:UInt8):(Lit.int .u8 (a.toNat:Int)).wf=true:=by
 have b:∀n:Fin 256,(Lit.int .u8 (n.val:Int)).wf=true:=by decide+kernel
 exact b ⟨a.toNat,a.toNat_lt⟩
theorem word_key(a b c:UInt8):∃kl,keyOf Tryz.prog 363 (wordV a b c)=some kl:=by
 obtain⟨m,h⟩:∃m,Tryz.prog.types.size=m+1:=⟨Tryz.prog.types.size-1,by kernel_rfl⟩;have e:Tryz.prog.cellsOf 363=3:=by kernel_rfl
 have d:Tryz.prog.cellsOf 5=1:=by kernel_rfl
 have f:∀x:UInt8,Tryz.prog.keyLits (m+1) 5 [bv x]=some [.int .u8 (x.toNat:Int)]:=by
  intro x;unfold Program.keyLits;rw[Tryz.underlying5];simp only[bv];rw[if_pos ⟨trivial,u8_wf x⟩]
 have g:Tryz.prog.keyLits (m+1+1) 363 [bv a,bv b,bv c]=some [.int .u8 (a.toNat:Int),.int .u8 (b.toNat:Int),.int .u8 (c.toNat:Int)]:=by
  unfold Program.keyLits;rw[Tryz.underlying363];simp only[e,d];rw[if_pos (by rfl)];rw[show List.range 3=[0,1,2] from rfl];simp[f]
 refine⟨.string (keyBytes [.int .u8 (a.toNat:Int),.int .u8 (b.toNat:Int),.int .u8 (c.toNat:Int)]),?_⟩;unfold keyOf;rw[Tryz.underlying363];simp only;rw[show(Tryz.prog.keyType 363&&(wordV a b c).formed Tryz.prog 363)=true by kernel_rfl,if_pos rfl,h,show(wordV a b c).cells.toList=[bv a,bv b,bv c] from rfl,g];rfl
def Up(n:Nat)(zs:List Nat):Prop:=zs.Pairwise (·<·)∧∀z ∈ zs,z<n
def ints(zs:List Nat):List Value:=zs.map fun(z:Nat)=>Value.int .i64 (z:Int)
def VRow(w:World)(v:Value)(zs:List Nat):Prop:=w.ownsRow 0 3 1 v zs.length (ints zs)
theorem VRow.nil(w:World):VRow w (.slice none 0 0) []:=World.ownsRow_nil _ _ _ _
theorem VRow.block{w:World}{v:Value}{zs:List Nat}(h:VRow w v zs){k:Nat}(b:v.ownBlock=some k):∃cs,w.heap[k]? =some (.cells cs 3 (0,0)):=by
 rcases h.2 with⟨rfl,_⟩|⟨g,c,a,rfl,_,d,_⟩
 ·simp[Value.ownBlock] at b
 ·simp only[Value.ownBlock,Option.some.injEq] at b
  subst b;exact⟨a,d⟩
theorem VRow.step{S:Nat→Prop}{w w':World}{v:Value}{zs:List Nat}(h:VRow w v zs)(b:Fr S w w')(a:∀k,v.ownBlock=some k→¬S k):VRow w' v zs:=own_step h b a
def Off(w:World)(S:Nat→Prop):Prop:=∀k,S k→k<w.heap.size→∃cs t fr,w.heap[k]? =some (.cells cs t fr)∧t≠3
abbrev noR:Value→Option (DataW Unit×List MemPlace):=fun _=>some (.nil,[])
structure MapIs(wl:Nat→Value→List Nat)(w:World)(M n B:Nat)(es:Array MapEntry)(clock:Nat):Prop where
 box:w.heap[M]? =some (.map es clock)
 fit:Fit Tryz.prog 363 noR es clock
 few:es.size≤n
 rows:∀x ∈ es.toList,VRow w x.val (wl n x.key)
 miss:∀key:Value,(∀x ∈ es.toList,x.key≠key)→wl n key=[]
 apart:∀x ∈ es.toList,∀y ∈ es.toList,x.key≠y.key→x.val.ownBlock=none∨x.val.ownBlock≠y.val.ownBlock
 low:∀x ∈ es.toList,∀k,x.val.ownBlock=some k→B≤k
def MapAt(wl:Nat→Value→List Nat)(w:World)(M n B:Nat):Prop:=∃es clock,MapIs wl w M n B es clock
theorem MapAt.keep{g:Nat→Value→List Nat}{S:Nat→Prop}{w w':World}{M n B:Nat}(h:MapAt g w M n B)(f:Fr S w w')(c:Off w S):MapAt g w' M n B:=by
 obtain⟨l,a,h⟩:=h;refine⟨l,a,f.keep h.box (fun o=> ?_),h.fit,h.few,fun x s=> ?_,h.miss,h.apart,h.low⟩
 ·obtain⟨i,t,m,e,_⟩:=c M o (lt_of_block h.box)
  rw[h.box] at e;cases e
 ·have b:=h.rows x s
  refine b.step f (fun k p q=> ?_);obtain⟨i,d⟩:=b.block p;obtain⟨j,t,m,e,r⟩:=c k q (lt_of_block d);rw[d] at e;simp only[Option.some.injEq,Obj.cells.injEq] at e;exact r e.2.1.symm
theorem off_none(w:World):Off w (fun _=>False):=fun _ h=>h.elim
theorem map_made{b:Nat→Value→List Nat}{w:World}{M:Nat}(B:Nat)(h:w.heap[M]? =some (.map #[] 0))(c:∀a,b 0 a=[]):MapAt b w M 0 B:=
 ⟨#[],0,h,⟨by simp,MapKept.stamped_empty 0,by simp⟩,Nat.le_refl _,by simp,fun a _=>c a,by simp,by simp⟩
theorem zeroInts(w:World):(zeroValue 94).run Tryz.prog w=.ok (.slice none 0 0) w:=by kernel_rfl
theorem nodup_eq{l:List MapEntry}(h:(l.map (·.key)).Nodup){a b:MapEntry}(f:a ∈ l)(g:b ∈ l)(e:a.key=b.key):a=b:=by
 induction l with
 |nil=>cases f
 |cons x l ih=>
   rw[List.map_cons,List.nodup_cons] at h;rcases List.mem_cons.1 f with rfl|c<;>rcases List.mem_cons.1 g with rfl|d
   ·rfl
   ·exact absurd (show a.key ∈ l.map (·.key) from List.mem_map.2 ⟨b,d,e.symm⟩) h.1
   ·exact absurd (show b.key ∈ l.map (·.key) from List.mem_map.2 ⟨a,c,e⟩) h.1
   ·exact ih h.2 c d
theorem MapAt.look{m:Nat→Value→List Nat}{w:World}{M n B:Nat}(h:MapAt m w M n B){key:Value}{r:Lit}(q:keyOf Tryz.prog 363 key=some r):
 ∃v,(∀b:World,b.heap[M]? =w.heap[M]? →(Instr.lookup 313 (.map (some M)) key false).run Tryz.prog b=.ok v b)∧VRow w v (m n key):=by
 obtain⟨s,g,h⟩:=h;have look:=fun(b:World)(f:b.heap[M]? =w.heap[M]?)=>Maps.fit_look (w:=b) false wordKeyed Tryz.underlying313 (zeroInts b) (f.trans h.box) h.fit q;rcases look w rfl with⟨_,c,_⟩|⟨i,y,d,j,_⟩
 ·refine⟨.slice none 0 0,fun b f=> ?_,?_⟩
  ·rcases look b f with⟨a,_⟩|⟨k,_,e,o,_⟩
   ·exact a
   ·exact absurd o (c k e)
  ·rw[h.miss key c]
   exact VRow.nil w
 ·have l:=h.rows i d
  rw[j] at l;refine⟨i.val,fun b f=> ?_,l⟩;rcases look b f with⟨_,c,_⟩|⟨k,_,e,p,a,_⟩
  ·exact absurd j (c i d)
  ·rw[nodup_eq h.fit.stamped.2.2 d e (j.trans p.symm)]
   exact a
theorem setBlock_fr(w:World)(M:Nat){c:Array MapEntry}{a:Nat}(d:w.heap[M]? =some (.map c a))(o:Obj):Fr (fun k=>k=M) w (setBlock w M o)∧(setBlock w M o).heap.size=w.heap.size:=
 ⟨⟨rfl,rfl,rfl,by simp[setBlock],fun k _ b=>heap_setBlock_other d o b⟩,by simp[setBlock]⟩
theorem MapAt.entry{O:Nat→Value→List Nat}{w:World}{M n B:Nat}(h:MapAt O w M n B)(hB:B≤w.heap.size)(hn:n<maxLen){key:Value}{kl:Lit}(Q:keyOf Tryz.prog 363 key=some kl)(q:∀k',k'≠key→O (n+1) k'=O n k'):
 ∃I st w1,(Instr.mapEntry 313 (.map (some M)) key).run Tryz.prog w=.ok (.tuple #[I,goInt st]) w1∧Fr (fun k=>k=M) w w1∧w1.heap.size=w.heap.size∧VRow w1 I (O n key)∧(∀k,I.ownBlock=some k→B≤k)∧
  ∀(S:Nat→Prop)(D:World)(N:Value),Fr S w1 D→(∀k,S k→k<w1.heap.size→I.ownBlock=some k)→VRow D N (O (n+1) key)→(∀k,N.ownBlock=some k→I.ownBlock=some k∨w1.heap.size≤k)→
   ∃w3,(Instr.entryStore 313 (.map (some M)) (goInt st) N).run Tryz.prog D=.ok () w3∧Fr (fun k=>k=M) D w3∧w3.heap.size=D.heap.size∧MapAt O w3 M (n+1) B:=by
 obtain⟨es,b4,h⟩:=h;obtain⟨I,st,V,j,a8,b1,c1⟩:=WideElems.entry_then_store wordLaw Tryz.underlying313 zeroInts h.box h.fit Q;obtain⟨f1,s1⟩:=setBlock_fr w M h.box (.map V j);have a7:VRow w I (O n key)∧(∀k,I.ownBlock=some k→B≤k):=by
  rcases b1 with⟨e0,hm,he,rfl⟩|⟨c0,rfl⟩
  ·have a:=h.rows e0 hm
   rw[he] at a;exact⟨a,h.low e0 hm⟩
  ·rw[h.miss key c0]
   exact⟨VRow.nil w,by simp[Value.ownBlock]⟩
 obtain⟨r1,r4⟩:=a7;have s:∀{v:Value}{ys:List Nat},VRow w v ys→∀k,v.ownBlock=some k→k≠M:=by
  intro v ys hv k Y e;obtain⟨cs,X⟩:=hv.block Y;rw[e,h.box] at X;cases X
 have W:=heap_setBlock_same h.box (.map V j);refine⟨I,st,_,a8,f1,s1,r1.step f1 (s r1),r4,?_⟩;intro S D N hf hS b0 F;have b6:¬S M:=fun hs=>by
  have t:=hS M hs (by rw[s1];exact lt_of_block h.box);exact s r1 M t rfl
 have o:D.heap[M]? =some (.map V j):=hf.keep W b6;obtain⟨m,d,a9,c2⟩:=c1 D N o;obtain⟨b5,J,G,E,U,_,_,r⟩:=Maps.fit_store (R':=noR) wordKeyed Tryz.underlying313 h.box h.fit (Nat.lt_of_le_of_lt h.few hn) (key:=key) (val:=N) (yv:=(.nil,[])) (fun x _ _ z hz=>hz) Q rfl;have b7:m=b5∧d=J:=by
  rw[c2] at G;simp only[Result.ok.injEq,true_and] at G;have e1:=heap_setBlock_same h.box (.map m d);rw[G,heap_setBlock_same h.box] at e1;simp only[Option.some.injEq,Obj.map.injEq] at e1;exact⟨e1.1.symm,e1.2.symm⟩
 obtain⟨rfl,rfl⟩:=b7;obtain⟨f3,s3⟩:=setBlock_fr D M o (.map m d);have T:∀{v:Value}{ys:List Nat},VRow w v ys→∀k,v.ownBlock=some k→k<w.heap.size:=fun{v ys} hv k Y=>by
  obtain⟨cs,X⟩:=hv.block Y;exact lt_of_block X
 -- an a2 entry at another key, in D
 have a2:∀x ∈ es.toList,x.key≠key→(x.val.ownBlock=none∨x.val.ownBlock≠I.ownBlock):=by
  intro x p i;rcases b1 with⟨e0,hm,he,rfl⟩|⟨_,rfl⟩
  ·exact h.apart x p e0 hm (by rw[he];exact i)
  ·cases hb:x.val.ownBlock with
   |none=>exact .inl rfl
   |some b=>exact .inr (by simp[Value.ownBlock])
 have L:∀x ∈ es.toList,x.key≠key→VRow (setBlock D M (.map m d)) x.val (O (n+1) x.key):=by
  intro x p i;have y1:=h.rows x p;have z1:=y1.step f1 (s y1);have z2:=z1.step hf (fun k f hs=>by
   have t:=hS k hs (by rw[s1];exact T y1 k f);rcases a2 x p i with C|C
   ·rw[C] at f
    cases f
   ·exact C (f.trans t.symm))
  rw[q _ i];exact z2.step f3 (fun k f e=>s y1 k f e)
 have K:VRow (setBlock D M (.map m d)) N (O (n+1) key):=b0.step f3 (fun k f e=>by
  obtain⟨cs,X⟩:=b0.block f;rw[e,o] at X;cases X)
 have apart:∀x ∈ es.toList,x.key≠key→(x.val.ownBlock=none∨x.val.ownBlock≠N.ownBlock):=by
  intro x p i;cases hb:x.val.ownBlock with
  |none=>exact .inl rfl
  |some b=>
    refine .inr (fun e=> ?_);have y1:=h.rows x p;have b9:=T y1 b hb;rcases F b e.symm with t|t
    ·rcases a2 x p i with C|C
     ·rw[hb] at C
      cases C
     ·exact C (hb.trans t.symm)
    ·rw[s1] at t
     exact absurd t (Nat.not_le.2 b9)
 refine⟨_,a9,f3,s3,m,d,heap_setBlock_same o _,E,?_,?_,?_,?_,?_⟩
 ·have e1:m.size=((m.toList.map (WideElems.rg Tryz.prog 363 noR)).foldr DataW.insert []).length:=by rw[Go.length_sorted];simp
  rw[e1,U];unfold ChangeMaps.putKey;rw[Go.length_insert];have e2:=List.length_filter_le (ChangeMaps.notKey kl) ((es.toList.map (WideElems.rg Tryz.prog 363 noR)).foldr DataW.insert []);rw[Go.length_sorted] at e2;simp at e2;have:=h.few;omega
 ·intro x p
  rcases r x p with⟨A,i⟩|⟨a5,H⟩
  ·exact L x A i
  ·rw[H,a5]
   exact K
 ·intro k' a4
  have b3:∀(x:MapEntry)(l:Lit),keyOf Tryz.prog 363 x.key=some l→WideElems.rg Tryz.prog 363 noR x=(l,.nil):=fun x l hl=>by
   obtain⟨a,b,c⟩:=x;have b8:keyOf Tryz.prog 363 a=some l:=hl;exact WideElems.rg_of (WideElems.rd_mk (R:=noR) (yv:=(.nil,[])) b8 rfl)
  have a3:∀l:Lit,(l,(DataW.nil:DataW Unit)) ∈ ChangeMaps.putKey kl .nil ((es.toList.map (WideElems.rg Tryz.prog 363 noR)).foldr DataW.insert [])→∃P ∈ m.toList,keyOf Tryz.prog 363 P.key=some l:=by
   intro l hl;rw[←U] at hl;obtain⟨P,u,e⟩:=List.mem_map.1 ((WideShapes.sorted_perm _).mem_iff.1 hl);obtain⟨l',a6⟩:=E.keys P u;rw[b3 P l' a6] at e;simp only[Prod.mk.injEq,and_true] at e;exact⟨P,u,by rw[a6,e]⟩
  by_cases f:k'=key
  ·subst f
   obtain⟨P,u,e⟩:=a3 kl (ChangeMaps.mem_insert_iff.2 (.inl rfl));exact absurd (wordKeyed.inj e Q) (a4 P u)
  ·rw[q k' f]
   refine h.miss k' (fun x p e=> ?_);obtain⟨lx,Z⟩:=h.fit.keys x p;obtain⟨P,u,e'⟩:=a3 lx (ChangeMaps.mem_insert_iff.2 (.inr (List.mem_filter.2 ⟨(WideShapes.sorted_perm _).mem_iff.2 (List.mem_map.2 ⟨x,p,b3 x lx Z⟩),by
    unfold ChangeMaps.notKey;cases hsk:lx.sameKey kl with
    |false=>rfl
    |true=>
      have:=WideAt.sameKey_eq hsk;subst this;exact absurd (e.symm.trans (wordKeyed.inj Z Q)) f⟩)))
   exact a4 P u ((wordKeyed.inj e' Z).trans e)
 ·intro x p y hy i
  rcases r x p with⟨A,a0⟩|⟨a0,c3⟩<;>rcases r y hy with⟨b2,a1⟩|⟨a1,c4⟩
  ·exact h.apart x A y b2 i
  ·rw[c4]
   exact apart x A a0
  ·rw[c3]
   cases hv:N.ownBlock with
   |none=>exact .inl rfl
   |some g=>
     refine .inr (fun e=> ?_);rcases apart y b2 a1 with C|C
     ·rw[C] at e
      cases e
     ·exact C (by rw[hv,e])
  ·exact absurd (a0.trans a1.symm) i
 ·intro x p k Q
  rcases r x p with⟨A,_⟩|⟨_,H⟩
  ·exact h.low x A k Q
  ·rw[H] at Q
   rcases F k Q with t|t
   ·exact r4 k t
   ·rw[s1] at t
    exact Nat.le_trans hB t
end Fi
namespace Fi
open Mem
abbrev ptr(B:Nat):Value:=.pointer (some ⟨B,0,none⟩)
theorem VRow.slice{w:World}{v:Value}{zs:List Nat}(h:VRow w v zs):∃a b,v=.slice a zs.length b∧zs.length≤b∧b≤maxLen∧(0<zs.length→∃g,a=some ⟨g,0,none⟩∧∀(i z:Nat),zs[i]? =some z→w.cell? ⟨g,i,none⟩=some (.int .i64 z)):=by
 rcases h.2 with⟨rfl,j⟩|⟨g,b,f,rfl,_,l,d,m,k,e⟩
 ·exact⟨none,0,by rw[j],by omega,by simp[maxLen],by omega⟩
 ·refine⟨_,b,rfl,d,m,fun _=>⟨g,rfl,fun i z n=> ?_⟩⟩
  refine cell_in l ?_;rw[Nat.mul_one] at e;have c:(ints zs)[i]? =some (.int .i64 z):=by simp[ints,n]
  rw[←e,List.getElem?_take] at c;split at c
  ·simpa using c
  ·cases c
theorem ge_calls(b c g n a p z i:Nat)(W:World)(f:W.cell? ⟨b,0,none⟩=some (.slice (some ⟨g,0,none⟩) n a))(k:W.cell? ⟨c,0,none⟩=some (.int .i64 p))(j:i<n)(h:W.cell? ⟨g,i,none⟩=some (.int .i64 z)):
 Calls Tryz.prog 281 #[.int .i64 i,ptr b,ptr c] W fun e d=>e=.returned (.bool (decide (p≤z)))∧Fr (fun _=>False) W d:=by
 have l:(0:Int)≤(i:Int):=by omega
 have m:(i:Int)<(n:Int):=by omega
 go_enter Tryz.func281,Tryz.ntmps281;go_wp2_with fail;go_quiet (fail);go_wp2_with fail;go_ret;exact⟨by simp,(Fr.refl _ _).drewN _⟩
theorem up_lt{n:Nat}{zs:List Nat}(h:Up n zs){t u y z:Nat}(i:t≤u)(c:zs[t]? =some y)(a:zs[u]? =some z):y≤z:=by
 rcases Nat.lt_or_ge t u with b|b
 ·obtain⟨d,f⟩:=List.getElem?_eq_some_iff.1 c
  obtain⟨e,g⟩:=List.getElem?_eq_some_iff.1 a;have:=List.pairwise_iff_getElem.1 h.1 t u d e b;omega
 ·obtain rfl:t=u:=by omega
  rw[c] at a;cases a
  exact Nat.le_refl _
set_option maxRecDepth 100000 in
theorem search_calls(w x p:Nat)(v:Value)(zs:List Nat)(n:Nat)(W:World)(J:W.cell? ⟨w,0,none⟩=some v)(Q:W.cell? ⟨x,0,none⟩=some (.int .i64 p))(P:VRow W v zs)(O:Up n zs)(hb:zs.length≤1152921504606846976):
 Calls Tryz.prog 280 #[.int .i64 zs.length,.func (.func 281) #[] #[ptr w,ptr x]] W fun e E=>Fr (fun _=>False) W E∧∃k:Nat,e=.returned (.int .i64 k)∧k≤zs.length∧(∀t z,t<k→zs[t]? =some z→z<p)∧∀t z,k≤t→zs[t]? =some z→p≤z:=by
 obtain⟨a,A,rfl,_,_,q⟩:=P.slice;have T:=Hd Q;have R:=Hd J;have S:=Hd q;have G:=Hd O;generalize L:zs.length=N at*;have F:=Hd L;clear Q J q O P L;go_enter Tryz.func280,Tryz.ntmps280;go_wp2_with fail;go_loopg [5,6] N (fun Y Z s6 wr=>∃(d c:Nat),Z=.int .i64 d∧s6=.int .i64 c∧d≤c∧c≤N∧c-d≤Y∧Fr (fun _=>False) W wr∧Hid ((∀t z,t<d→zs[t]? =some z→z<p)∧∀t z,c≤t→zs[t]? =some z→p≤z));case atStart=>exact⟨0,N,rfl,rfl,Nat.zero_le _,Nat.le_refl _,by omega,Fr.refl _ _,Hd ⟨fun t z h=>absurd h (Nat.not_lt_zero _),fun t z h s=>absurd (List.getElem?_eq_some_iff.1 s).1 (by rw[F.out];omega)⟩⟩
 case round=>
  obtain⟨d,c,rfl,rfl,U,r,hg,l,I⟩:=hrel;by_cases V:d<c
  ·obtain⟨g,rfl,K⟩:=S.out (by omega)
   have X:(d+c)/2<zs.length:=by rw[F.out];omega
   obtain⟨z,s⟩:∃z,zs[(d+c)/2]? =some z:=⟨zs[(d+c)/2],by simp[X]⟩;have j:=fun{b i:Nat}{u:Value}(h:W.cell? ⟨b,i,none⟩=some u)=>(show wr.cell? ⟨b,i,none⟩=some u from by
    have B:wr.heap[b]? =W.heap[b]? :=l.block b (block_lt_of_cell h) (fun h=>h);rw[World.cell?_of_block B];exact h)
   have o:=Hd (ge_calls w x g N A p z ((d+c)/2) wr (j R.out) (j T.out) (by omega) (j (K _ _ s)));have m:=Hd l;have H:=Hd s;clear j s l K;rw[show(((d+c)/2:Nat):Int)=((d:Int)+(c:Int))/2 by omega] at o;by_cases C:p≤z
   ·rw[show decide (p≤z)=true by simp[C]] at o
    go_wp2_with fail;refine o.out.mono ?_;rintro e E ⟨rfl,f⟩;go_wp2_with fail;go_roundg ((d+c)/2-d);case measure=>omega
    case rel=>exact⟨d,(d+c)/2,rfl,by rw[show((d:Int)+(c:Int))/2=(((d+c)/2:Nat):Int) by omega],by omega,by omega,Nat.le_refl _,m.out.trans f,Hd ⟨I.out.1,fun t y M D=>Nat.le_trans C (up_lt G.out M H.out D)⟩⟩
   ·rw[show decide (p≤z)=false by simp[C]] at o
    go_wp2_with fail;refine o.out.mono ?_;rintro e E ⟨rfl,f⟩;go_wp2_with fail;go_roundg (c-((d+c)/2+1));case measure=>omega
    case rel=>
     refine⟨(d+c)/2+1,c,by rw[show((d:Int)+(c:Int))/2+1=(((d+c)/2+1:Nat):Int) by omega],rfl,by omega,r,Nat.le_refl _,m.out.trans f,Hd ⟨fun t y M D=> ?_,I.out.2⟩⟩;have:=up_lt G.out (show t≤(d+c)/2 by omega) D H.out;omega
  ·obtain rfl:c=d:=by omega
   go_wp2_with fail;go_ret;exact⟨l,c,rfl,r,I.out.1,I.out.2⟩
set_option maxRecDepth 100000 in
theorem searchInts_calls(v:Value)(zs:List Nat)(n p:Nat)(w:World)(l:VRow w v zs)(m:Up n zs)(u:zs.length≤1152921504606846976):
 Calls Tryz.prog 264 #[v,.int .i64 p] w fun e o=>Fr (fun _=>False) w o∧∃k:Nat,e=.returned (.int .i64 k)∧k≤zs.length∧(∀t z,t<k→zs[t]? =some z→z<p)∧∀t z,k≤t→zs[t]? =some z→p≤z:=by
 have d:=((R0 w).alloc (.cells #[v] 94)).alloc (.cells #[.int .i64 p] 3);have b:=((R0 (w.alloc (.cells #[v] 94))).alloc (.cells #[.int .i64 p] 3)).keep (heap_alloc_new w (.cells #[v] 94)) (fun h=>h);have c:=heap_alloc_new (w.alloc (.cells #[v] 94)) (.cells #[.int .i64 p] 3);rw[World.size_alloc] at c;have r:=Hd (search_calls w.heap.size (w.heap.size+1) p v zs n _ (cell_in (i:=0) b rfl) (cell_in (i:=0) c rfl) (l.step d (fun _ _ h=>h)) m u);have q:=Hd d;have x:=cell_in (i:=0) b rfl;obtain⟨a,s,rfl,_,_,_⟩:=l.slice;clear l m b c d;go_enter Tryz.func264,Tryz.ntmps264;go_wp2_with fail;refine r.out.mono ?_;rintro e o ⟨f,k,rfl,g,j⟩;go_wp2_with fail;go_ret;exact⟨q.out.trans f,k,rfl,g,j⟩
end Fi
namespace Fi
open Mem Win
set_option maxRecDepth 100000 in
theorem clone_calls(v:Value)(xs:List UInt8)(w:World)(h:Rd w v xs)(u:xs.length≤70368744177664):
    Calls Tryz.prog 234 #[v] w fun e C=>Fr (fun _=>False) w C∧∃v',e=.returned v'∧Mine w C v' xs:=by
  obtain⟨p,f,rfl,j,n,q⟩:=h;have d:=Lib.run_eql_slice_nil (P:=Tryz.prog) w 22 5 p xs.length f 0 0 Tryz.underlying22;cases p with
  |none=>
    have F:xs=[]:=by
      cases xs with
      |nil=>rfl
      |cons x xs=>
        obtain⟨b,o,e,_⟩:=q (by simp);cases e
    subst F;simp only[Option.isNone_none,List.length_nil] at d;clear j q u;go_enter Tryz.func234,Tryz.ntmps234;go_wp2_with fail;go_ret;exact⟨Fr.refl _ _,_,rfl,Mine.nil _ _⟩
  |some a=>
    simp only[Option.isNone_some] at d;have g:=(R0 w).alloc (.cells #[] 5);have m:Mine w (w.alloc (.cells #[] 5)) (.slice (some ⟨w.heap.size,0,none⟩) 0 0) []:=by
      have j:=World.ownsRow_made (base:=0) (e:=5) (size:=1) w #[] 0 (Nat.zero_le _) (by decide) rfl;refine⟨j,fun k G=> ?_⟩;simp only[Value.ownBlock,Option.some.injEq] at G;omega
    have z:=Hd g;have s:=Hd m;have E:=Hd (Rd.keep ⟨some a,f,rfl,j,n,q⟩ g);have D:=Hd u;clear g m j n q u;go_enter Tryz.func234,Tryz.ntmps234
    go_wp2_with (at_builtin;(refine append_mine rfl _ _ rfl (w0:=w) (.slice (some ⟨w.heap.size,0,none⟩) 0 0) (.slice (some a) xs.length f) [] xs rfl rfl s.out z.out.size E.out (by have:=D.out;simp only[List.length_nil];omega) ?_);intro I A H J y l c i;have t:=Hd l;have r:=Hd (z.out.trans' c (fun k j n=>by
         simp only[Value.ownBlock,Option.some.injEq] at n;omega));clear y l c i)
    go_ret;have B:=t.out;rw[List.nil_append] at B;exact⟨r.out,_,rfl,B⟩
def wkey(data:List UInt8)(i:Nat):Value:=wordV (data.getD i 0) (data.getD (i+1) 0) (data.getD (i+2) 0)
open Classical in
noncomputable def wl (data:List UInt8)(n:Nat)(key:Value):List Nat:=(List.range n).filter fun i=>decide (i+3≤data.length∧wkey data i=key)
theorem wkey_eq{data:List UInt8}{i:Nat}{a b c:UInt8}(d:data[i]? =some a)(e:data[i+1]? =some b)(f:data[i+2]? =some c):wkey data i=wordV a b c:=by
 unfold wkey;rw[List.getD_eq_getElem?_getD,List.getD_eq_getElem?_getD,List.getD_eq_getElem?_getD,d,e,f];rfl
theorem wl_zero(data:List UInt8)(key:Value):wl data 0 key=[]:=rfl
theorem wl_same{data:List UInt8}{i:Nat}(h:i+3≤data.length):wl data (i+1) (wkey data i)=wl data i (wkey data i)++[i]:=by
 unfold wl;rw[List.range_succ,List.filter_append,List.filter_cons_of_pos (by simpa using h)];rfl
theorem wl_other{data:List UInt8}{i:Nat}{key:Value}(h:¬(i+3≤data.length∧wkey data i=key)):wl data (i+1) key=wl data i key:=by
 unfold wl;rw[List.range_succ,List.filter_append,List.filter_cons_of_neg (by simpa using h)];simp
theorem wl_top{data:List UInt8}{n:Nat}(key:Value)(h:data.length<n+3):∀k,wl data (n+k) key=wl data n key
 |0=>rfl
 |k+1=>by rw[←Nat.add_assoc,wl_other (by omega),wl_top key h k]
theorem wl_up(data:List UInt8)(n:Nat)(key:Value):Up n (wl data n key):=
 ⟨List.Pairwise.filter _ List.pairwise_lt_range,fun z a=>List.mem_range.1 (List.mem_filter.1 a).1⟩
theorem wl_len(data:List UInt8)(n:Nat)(key:Value):(wl data n key).length≤n:=by
 unfold wl;exact Nat.le_trans (List.length_filter_le _ _) (by rw[List.length_range];exact Nat.le_refl _)
structure FiAt(w:World)(F:Nat)(data:List UInt8)(dict pos:Nat)(dv:Value)(M B:Nat):Prop where
 box:w.heap[F]? =some (.cells #[dv,.int .i64 dict,.int .i64 pos,.map (some M)] 315 (0,0))
 own:w.ownsRow 0 5 1 dv data.length (bvs data)
 map:MapAt (wl data) w M data.length B
structure NL(w:World)(F M:Nat)(data:List UInt8)(dict:Nat)(dv:Value)(i:Nat)(wr:World):Prop where
 fr:Fr (fun _=>False) w wr
 box:wr.heap[F]? =some (.cells #[dv,.int .i64 dict,.int .i64 0,.map (some M)] 315 (0,0))
 own:Mine w wr dv data
 map:MapAt (wl data) wr M i w.heap.size
theorem NL.next{w wr o:World}{M:Nat}{data:List UInt8}{dict i:Nat}{p:Value}(h:NL w (M+1) M data dict p i wr){S:Nat→Prop}(l:Fr S wr o)(B:w.heap.size≤M)(b:∀k,S k→w.heap.size≤k)(v:∀k,S k→k<wr.heap.size→k=M∨∃f j,wr.heap[k]? =some (.cells f 3 j))
 (y:MapAt (wl data) o M (i+1) w.heap.size):NL w (M+1) M data dict p (i+1) o:=by
 have d:∀{k:Nat}{f:Array Value}{t:TypeId}{j:Nat×Nat},wr.heap[k]? =some (.cells f t j)→t≠3→¬S k:=by
  intro k f t j a z n;rcases v k n (lt_of_block a) with rfl|⟨r,u,e⟩
  ·obtain⟨A,c,m⟩:=h.map
   rw[m.box] at a;cases a
  ·rw[a] at e
   simp only[Option.some.injEq,Obj.cells.injEq] at e;exact z e.2.1
 refine⟨h.fr.trans' l (fun k a n=>by have:=b k n;omega),l.keep h.box (d h.box (by decide)),⟨own_step h.own.own l (fun k a=> ?_),h.own.new⟩,y⟩;rcases h.own.own.2 with⟨rfl,_⟩|⟨g,q,s,rfl,_,x,_⟩
 ·simp[Value.ownBlock] at a
 ·simp only[Value.ownBlock,Option.some.injEq] at a
  subst a;exact d x (by decide)
theorem row_off{a d:World}{M k:Nat}{v:Value}{zs:List Nat}(f:Fr (fun k=>k=M) a d)(i:VRow d v zs)(g:v.ownBlock=some k)(c:k<a.heap.size):k=M∨∃b fr,a.heap[k]? =some (.cells b 3 fr):=by
 by_cases h:k=M
 ·exact .inl h
 ·obtain⟨b,e⟩:=i.block g
  exact .inr ⟨b,_,(f.block k c h).symm.trans e⟩
theorem ints_snoc(zs:List Nat)(i:Nat):ints (zs++[i])=ints zs++[.int .i64 (i:Int)]:=by simp[ints]
theorem one_int{w:World}{g:Nat}(i:Nat)(h:w.heap[g]? =some (.cells #[.int .i64 (i:Int)] 3 (0,0))):Src Tryz.prog 1 94 (.slice (some ⟨g,0,none⟩) 1 1) 1 [.int .i64 (i:Int)] w:=
 src_own w Tryz.underlying94 (own_row (xs:=[.int .i64 (i:Int)]) h rfl (by simp[maxLen])) (by simp[Value.oneCell'])
theorem MapAt.top{b:Nat→Value→List Nat}{w:World}{M n m B:Nat}(h:MapAt b w M n B)(g:n≤m)(d:∀a,b m a=b n a):MapAt b w M m B:=by
 obtain⟨e,c,h⟩:=h;refine⟨e,c,h.box,h.fit,Nat.le_trans h.few g,fun x i=> ?_,fun a f=> ?_,h.apart,h.low⟩
 ·rw[d]
  exact h.rows x i
 ·rw[d]
  exact h.miss a f
theorem infoInt:(Tryz.prog.info? 3).map (fun i=>(i.zero,i.size,i.bytes))=some (some (.int .i64 0),1,8):=by kernel_rfl
theorem array_at(a:Option Addr)(n b:Nat)(h:3≤n)(W:World):(Instr.arrayAt 363 (.slice a n b)).run Tryz.prog W=.ok (.pointer a) W:=by
 have c:¬n<3:=by omega
 simp[Instr.arrayAt,run_underlying Tryz.underlying363,Result.andThen,c]
set_option maxRecDepth 100000 in
theorem new_calls(v:Value)(data:List UInt8)(dict:Nat)(w:World)(h:Rd w v data)(hb:data.length≤1099511627776)(e3:1≤dict)(e4:dict≤4294967295):
 Calls Tryz.prog 180 #[v,.int .i64 dict] w fun e w'=>Fr (fun _=>False) w w'∧∃F dv M,e=.returned (.tuple #[ptr F,.int .i64 0])∧FiAt w' F data dict 0 dv M w.heap.size∧w.heap.size≤F:=by
 obtain⟨p,d,rfl,f,h2,h3⟩:=h;have hr:Rd w (.slice p data.length d) data:=⟨p,d,rfl,f,h2,h3⟩;have HC:=Hd (clone_calls _ data w hr (by omega));have HR:=Hd hr;have HB:=Hd hb;have e5:=@run_makeMap Tryz.prog;clear hr hb f h2 h3;go_enter Tryz.func180,Tryz.ntmps180;go_wp2_with fail;refine HC.out.mono ?_;rintro e c ⟨Q,dv,rfl,N⟩;obtain⟨C,B,rfl⟩:=N.slice;have R:=((R0 c).alloc (.map #[] 0)).alloc (.cells #[.slice C data.length B,.int .i64 dict,.int .i64 0,.map (some c.heap.size)] 315);have P:=heap_alloc_new (c.alloc (.map #[] 0)) (.cells #[.slice C data.length B,.int .i64 dict,.int .i64 0,.map (some c.heap.size)] 315);have a8:=((R0 (c.alloc (.map #[] 0))).alloc (.cells #[.slice C data.length B,.int .i64 dict,.int .i64 0,.map (some c.heap.size)] 315)).keep (heap_alloc_new c (.map #[] 0)) (fun h=>h);rw[World.size_alloc] at P;have H0:=Hd (show NL w (c.heap.size+1) c.heap.size data dict (.slice C data.length B) 0 ((c.alloc (.map #[] 0)).alloc (.cells #[.slice C data.length B,.int .i64 dict,.int .i64 0,.map (some c.heap.size)] 315)) from
  ⟨Q.trans R,P,N.keep R,map_made _ a8 (wl_zero data)⟩)
 have b0:=Q.size;clear R P a8 Q N;go_wp2_with fail;generalize b6:(c.alloc (.map #[] 0)).alloc (.cells #[.slice C data.length B,.int .i64 dict,.int .i64 0,.map (some c.heap.size)] 315)=W2 at*;generalize c.heap.size=M at*;clear b6;have K:=Hd b0;clear b0;go_loopw [7](fun s7 wr=>∃i:Nat,s7=.int .i64 i∧i≤data.length∧NL w (M+1) M data dict (.slice C data.length B) i wr) (fun s7 _=>data.length-(intOf s7).toNat);case atStart=>exact⟨0,rfl,Nat.zero_le _,H0.out⟩
 case round=>
  obtain⟨i,rfl,hi,r⟩:=hrel;have d9:=HB.out;by_cases hlt:i+3≤data.length
  ·obtain⟨b,o,rfl,a4⟩:∃b o,p=some ⟨b,o,none⟩∧∀(j:Nat)(x:UInt8),data[j]? =some x→w.cell? ⟨b,o+j,none⟩=some (bv x):=by
    obtain⟨p',c',e,_,_,h3⟩:=HR.out;simp only[Value.slice.injEq] at e;obtain⟨rfl,_,rfl⟩:=e;exact h3 (by omega)
   have d0:data.length≤d:=by
    obtain⟨p',c',e,f,_,_⟩:=HR.out;simp only[Value.slice.injEq] at e;omega
   have t:∀(j:Nat)(x:UInt8),data[j]? =some x→wr.cell? ⟨b,o+j,none⟩=some (bv x):=fun j x hx=>by
    have f:=a4 j x hx;rw[World.cell?_of_block (r.fr.block b (block_lt_of_cell f) (fun h=>h))];exact f
   obtain⟨D,U⟩:∃x,data[i]? =some x:=⟨data[i],by simp⟩;obtain⟨E,V⟩:∃x,data[i+1]? =some x:=⟨data[i+1],by simp⟩;obtain⟨G,W⟩:∃x,data[i+2]? =some x:=⟨data[i+2],by simp⟩;have c0:wr.cell? ⟨b,o+i,none⟩=some (.int .u8 D.toNat):=t _ _ U;have c1:wr.cell? ⟨b,o+i+1,none⟩=some (.int .u8 E.toNat):=t _ _ V;have c2:wr.cell? ⟨b,o+i+2,none⟩=some (.int .u8 G.toNat):=t _ _ W;have b2:=slice_l (some ⟨b,o,none⟩) data.length d i (by omega);rw[show dropP (some ⟨b,o,none⟩) d i=some ⟨b,o+i,none⟩ by unfold dropP;rw[if_neg (by omega)];simp[add_mid]] at b2;have a2:=array_at (some ⟨b,o+i,none⟩) (data.length-i) (d-i) (by omega);have J:=Hd r;have y:=Hd (wkey_eq U V W);clear a4 t U V W r;go_wp2_with fail;have u:=(R0 wr).alloc (.cells #[.int .u8 D.toNat,.int .u8 E.toNat,.int .u8 G.toNat] 363);have q:=heap_alloc_new wr (.cells #[.int .u8 D.toNat,.int .u8 E.toNat,.int .u8 G.toNat] 363);have a7:=J.out.map.keep u (off_none _);have O:=u.keep J.out.box (fun h=>h);have c4:(wr.alloc (.cells #[.int .u8 D.toNat,.int .u8 E.toNat,.int .u8 G.toNat] 363)).heap.size=wr.heap.size+1:=World.size_alloc _ _;clear c0 c1 c2 b2 a2;generalize wr.alloc (.cells #[.int .u8 D.toNat,.int .u8 E.toNat,.int .u8 G.toNat] 363)=wA at*;generalize c6:wr.heap.size=z at*;have a:=((R0 wA).alloc (.cells #[.int .i64 i] 3)).drew;have a3:(wA.alloc (.cells #[.int .i64 i] 3)).drew.heap[z+1]? =some (.cells #[.int .i64 i] 3 (0,0)):=by
    rw[←c4];exact heap_alloc_new wA (.cells #[.int .i64 i] 3)
   have b1:(wA.alloc (.cells #[.int .i64 i] 3)).drew.heap.size=wA.heap.size+1:=World.size_alloc _ _;obtain⟨kl,b9⟩:=word_key D E G;have s:=J.out;have d1:=s.fr.size;obtain⟨v1,st,w3,a9,f3,s3,r3,b3,back⟩:=(a7.keep a (off_none _)).entry (by rw[b1];omega) (by simp only[maxLen];omega) b9 (fun k' b8=>wl_other (fun h=>b8 (h.2.symm.trans y.out)));have S:=wl_same (data:=data) (i:=i) hlt;rw[y.out] at S;rw[S] at back;obtain⟨zs,b4⟩:∃zs,wl data i (wordV D E G)=zs:=⟨_,rfl⟩;have l3:=wl_len data i (wordV D E G);rw[b4] at r3 back l3;have Y:=Hd back;have H:=Hd f3;have L:=Hd r3;have X:=Hd b3;have I:=Hd (u.trans a);have d3:=cell_in (i:=3) O rfl;obtain⟨e0,e1,e2⟩:=cs3 q rfl rfl rfl;have d2:=cell_in (i:=3) (a.keep O (fun h=>h)) rfl;have d4:=cell_in (i:=0) (a.keep q (fun h=>h)) rfl;have d5:=cell_in (i:=1) (a.keep q (fun h=>h)) rfl;have d6:=cell_in (i:=2) (a.keep q (fun h=>h)) rfl;have A:=Hd (one_int i (f3.keep a3 (fun e=>by
    have f:=lt_of_block s.box;omega)))
   have d8:=lt_of_block s.box;clear back f3 r3 S b4 b3 O q a7 u a a3;simp only[wordV,bv] at a9;obtain⟨i0,b7,c7,c8,c9⟩:=info_parts infoInt;go_region_law (first
    | (refine step_append_any w3 rfl _ _ 94 94 rfl 3 i0 (.int .i64 0) 1 8 Tryz.underlying94 b7 c7 c8 c9 rfl (by decide) v1 zs.length (ints zs) rfl L.out _ 1 [.int .i64 i] rfl A.out (by simp only [maxLen]; omega) (by omega) ?_
       intro v4 w4 m g l _;have a0:=Hd g;obtain⟨w5,c5,a5,c3,a6⟩:=Y.out (fun k=>v1.ownBlock=some k) w4 v4 g (fun k h _=>h) (by unfold VRow;rw[List.length_append,ints_snoc];exact m) l;simp only[goInt] at c5;have Z:=Hd a5;have a1:=Hd a6;clear m g l a5 a6 c3))
   all_goals
    have e6:wr.heap.size=z:=c6;have b5:=Hd (show NL w (M+1) M data dict (.slice C data.length B) (i+1) w5 from by
     have hF:=(((I.out.mono (T:=fun k=>k=M∨v1.ownBlock=some k) (fun _ _ h=>h.elim)).trans (H.out.mono (fun _ _ h=>.inl h))).trans (a0.out.mono (fun _ _ h=>.inr h))).trans (Z.out.mono (fun _ _ h=>.inl h));refine J.out.next hF K.out (fun k hk=> ?_) (fun k hk hlt=> ?_) a1.out
     ·rcases hk with rfl|hk
      ·exact K.out
      ·exact X.out k hk
     ·rcases hk with rfl|hk
      ·exact .inl rfl
      ·rcases row_off H.out L.out hk (by rw[b1];omega) with f|⟨cs,fr,f⟩
       ·exact .inl f
       ·exact .inr ⟨cs,fr,(I.out.block k hlt (fun h=>h)).symm.trans f⟩)
    clear Y A a0 Z a1 L X H I J s;go_wp2_with fail;go_roundw
    ·exact⟨i+1,by go_num,by omega,b5.out⟩
    ·simp[intOf];omega
  ·have J:=Hd r
   clear r;go_wp2_with fail;go_ret2;have r:=J.out;have d7:=K.out;exact⟨r.fr,M+1,_,M,rfl,⟨r.box,r.own.own,r.map.top (by omega) (fun key=>by
    have e:=wl_top (data:=data) (n:=i) key (by omega) (data.length-i);rw[show i+(data.length-i)=data.length by omega] at e;exact e)⟩,by omega⟩
end Fi
namespace Fi
open Mem Win
theorem FiAt.off{w:World}{F dict pos M B:Nat}{data:List UInt8}{a:Value}(h:FiAt w F data dict pos a M B):Off w (fun k=>k=F):=fun k b _=>by
 subst b;exact⟨_,_,_,h.box,by decide⟩
theorem FiAt.keep{S:Nat→Prop}{w w':World}{F dict pos M B:Nat}{data:List UInt8}{j:Value}(h:FiAt w F data dict pos j M B)(f:Fr S w w')
 (m:∀k,S k→k<w.heap.size→∃b t c,w.heap[k]? =some (.cells b t c)∧t≠3∧t≠5∧t≠315):FiAt w' F data dict pos j M B:=by
 have d:∀{k:Nat}{b:Array Value}{t:TypeId}{c:Nat×Nat},w.heap[k]? =some (.cells b t c)→t=5∨t=315→¬S k:=by
  intro k b t c a n x;obtain⟨p,y,u,e,l,r,s⟩:=m k x (lt_of_block a);rw[a] at e;simp only[Option.some.injEq,Obj.cells.injEq] at e;rw[e.2.1] at n;exact n.elim r s
 refine⟨f.keep h.box (d h.box (.inr rfl)),own_step h.own f (fun k a=> ?_),h.map.keep f (fun k a i=> ?_)⟩
 ·rcases h.own.2 with⟨rfl,_⟩|⟨g,o,q,rfl,_,v,_⟩
  ·simp[Value.ownBlock] at a
  ·simp only[Value.ownBlock,Option.some.injEq] at a
   subst a;exact d v (.inl rfl)
 ·obtain⟨b,t,c,e,l,_⟩:=m k a i
  exact⟨b,t,c,e,l⟩
theorem FiAt.still{w w':World}{F dict pos M B:Nat}{data:List UInt8}{a:Value}(h:FiAt w F data dict pos a M B)(b:Fr (fun _=>False) w w'):FiAt w' F data dict pos a M B:=h.keep b (fun _ h=>h.elim)
theorem FiAt.bytes{w:World}{F dict pos M B:Nat}{data:List UInt8}{d:Value}(h:FiAt w F data dict pos d M B)(l:0<data.length):∃g a,d=.slice (some ⟨g,0,none⟩) data.length a∧∀(i:Nat)(x:UInt8),data[i]? =some x→w.cell? ⟨g,i,none⟩=some (bv x):=by
 rcases h.own.2 with⟨rfl,r⟩|⟨g,a,j,rfl,_,s,_⟩
 ·omega
 ·refine⟨g,a,rfl,fun i x q=> ?_⟩
  obtain⟨p,c,e,_,_,m⟩:=Rd.of_own h.own;obtain⟨b,o,k,n⟩:=m l;simp only[Value.slice.injEq] at e;rw[k] at e;simp only[Option.some.injEq,Addr.mk.injEq,and_true] at e;have f:=n i x q;rw[←e.1.1,←e.1.2,Nat.zero_add] at f;exact f
theorem FiAt.dslice{w:World}{F dict pos M B:Nat}{data:List UInt8}{b:Value}(h:FiAt w F data dict pos b M B):∃a cap,b=.slice a data.length cap∧data.length≤cap:=by
 obtain⟨p,c,e,d,_⟩:=Rd.of_own h.own;exact⟨p,c,e,d⟩
set_option maxRecDepth 100000 in
theorem skip_calls(F dict pos n M B:Nat)(data:List UInt8)(p:Value)(w:World)(h:FiAt w F data dict pos p M B)(A:pos+n≤data.length)(z:data.length≤1099511627776):
 Calls Tryz.prog 127 #[ptr F,.int .i64 n] w fun e r=>e=.returned (.int .i64 0)∧Fr (fun k=>k=F) w r∧FiAt r F data dict (pos+n) p M B:=by
 obtain⟨a,j,rfl,_⟩:=h.dslice;have b:=h.box;have t:=cell_in (i:=0) b rfl;have u:=cell_in (i:=2) b rfl;have v:=fun i=>frozen_in b i;have x:decide ((n:Int)<0)=false:=by simp
 have y:decide (((data.length:Int)-(pos:Int))<(n:Int))=false:=by simp;omega
 have f:=Hd (show∀m,FiAt ((w.drewN m).setCell ⟨F,2,none⟩ (.int .i64 (pos+n))) F data dict (pos+n) (.slice a data.length j) M B from fun m=>by
  have c:=h.still ((R0 w).drewN m);have q:=Fr.one (w.drewN m) F 2 (.int .i64 ((pos:Int)+(n:Int)));refine⟨?_,own_step c.own q (fun k d=> ?_),c.map.keep q c.off⟩
  ·have:=set_in c.box 2 (.int .i64 ((pos:Int)+(n:Int)))
   exact this
  ·rcases c.own.2 with⟨e,_⟩|⟨g,o,s,e,_,l,_⟩
   ·rw[e] at d
    simp[Value.ownBlock] at d
   ·rw[e] at d
    simp only[Value.ownBlock,Option.some.injEq] at d;subst d;rintro rfl;rw[c.box] at l;simp only[Option.some.injEq,Obj.cells.injEq] at l;exact absurd l.2.1 (by decide))
 clear h b;go_enter Tryz.func127,Tryz.ntmps127;go_wp2_with fail;go_quiet (fail);go_wp2_with fail;go_ret;exact⟨rfl,((Fr.refl (fun k=>k=F) w).drewN _).trans (Fr.one _ F 2 _),f.out _⟩
set_option maxRecDepth 100000 in
theorem long_calls(F dict pos q p most M B:Nat)(data:List UInt8)(E:Value)(w:World)(h:FiAt w F data dict pos E M B)(Q:q≤p)(P:p+most≤data.length)(O:data.length≤1099511627776):
 Calls Tryz.prog 265 #[ptr F,.int .i64 q,.int .i64 p,.int .i64 most] w fun e I=>Fr (fun _=>False) w I∧∃n:Nat,e=.returned (.int .i64 n)∧n≤most∧(∀j,j<n→data[p+j]? =data[q+j]?)∧(n<most→data[p+n]? ≠data[q+n]?):=by
 have C:=Hd h;obtain⟨a,D,rfl,_⟩:=h.dslice;clear h;go_enter Tryz.func265,Tryz.ntmps265;go_wp2_with fail;go_loopw [9](fun s9 wr=>∃n:Nat,s9=.int .i64 n∧n≤most∧(∀j,j<n→data[p+j]? =data[q+j]?)∧Fr (fun _=>False) w wr) (fun s9 _=>most-(intOf s9).toNat);case atStart=>exact⟨0,rfl,Nat.zero_le _,fun j z=>absurd z (Nat.not_lt_zero _),Fr.refl _ _⟩
 case round=>
  obtain⟨n,rfl,A,d,b⟩:=hrel;by_cases o:n<most
  ·have G:decide ((n:Int)<(most:Int))=true:=by simp;omega
   have r:=C.out.still b;obtain⟨g,K,e,l⟩:=r.bytes (by omega);simp only[Value.slice.injEq,true_and] at e;obtain⟨rfl,rfl⟩:=e;obtain⟨x,s⟩:∃x,data[q+n]? =some x:=⟨data[q+n],by simp⟩;obtain⟨y,t⟩:∃y,data[p+n]? =some y:=⟨data[p+n],by simp⟩;have J:=cell_in (i:=0) r.box rfl;have L:wr.cell? ⟨g,q+n,none⟩=some (.int .u8 x.toNat):=l _ _ s;have N:wr.cell? ⟨g,p+n,none⟩=some (.int .u8 y.toNat):=l _ _ t;have R:(0:Int)≤(q:Int)+(n:Int):=by omega
   have S:(q:Int)+(n:Int)<(data.length:Int):=by omega
   have T:(0:Int)≤(p:Int)+(n:Int):=by omega
   have U:(p:Int)+(n:Int)<(data.length:Int):=by omega
   have k:=Hd b;have f:=Hd d;have u:=Hd s;have v:=Hd t;clear r l b d s t;by_cases c:x=y
   ·have H:((x.toNat:Int)==(y.toNat:Int))=true:=by subst c;simp
    go_wp2_with fail;go_quiet (fail);go_wp2_with fail;go_roundw;case rel=>
     refine⟨n+1,by go_num,by omega,fun j z=> ?_,k.out.drewN _⟩;by_cases m:j<n
     ·exact f.out j m
     ·obtain rfl:j=n:=by omega
      rw[u.out,v.out,c]
    case measure=>simp[intOf];omega
   ·have H:((x.toNat:Int)==(y.toNat:Int))=false:=by
     simp only[beq_eq_false_iff_ne,ne_eq,Int.natCast_inj];exact fun e=>c (UInt8.toNat_inj.1 e)
    go_wp2_with fail;go_quiet (fail);go_wp2_with fail;go_ret;exact⟨k.out.drewN _,n,rfl,A,f.out,fun _ e=>by
     rw[u.out,v.out] at e;exact c (Option.some.inj e).symm⟩
  ·have G:decide ((n:Int)<(most:Int))=false:=by simp;omega
   go_wp2_with fail;go_quiet (fail);go_wp2_with fail;go_ret;exact⟨b.drewN _,n,rfl,A,d,fun h=>absurd h o⟩
end Fi
end Go.Proofs.YtffoddpjfgjelaaGreatDoor
namespace Go.Proofs.YtffoddpjfgjelaaGreatDoor
namespace Px
structure IsRun(D:List UInt8)(p d most n:Nat):Prop where
 le:n≤most
 eq:∀j,j<n→D[p+j]? =D[p+j-d]?
 ne:n<most→D[p+n]? ≠D[p+n-d]?
theorem IsRun.uniq{D:List UInt8}{p d most m n:Nat}(c:IsRun D p d most m)(e:IsRun D p d most n):m=n:=by
 have a:¬m<n:=fun h=>c.ne (by have:=e.le;omega) (e.eq m h);have b:¬n<m:=fun h=>e.ne (by have:=c.le;omega) (c.eq n h);omega
def runGo(D:List UInt8)(p d:Nat):Nat→Nat→Nat
 |0,n=>n
 |k+1,n=>if D[p+n]? =D[p+n-d]? then runGo D p d k (n+1) else n
theorem runGo_is(D:List UInt8)(p d:Nat):∀(k n most:Nat),n+k=most→(∀j,j<n→D[p+j]? =D[p+j-d]?)→IsRun D p d most (runGo D p d k n)
 |0,n,most,h,he=>⟨by show n≤most;omega,he,fun c=>absurd c (by show¬n<most;omega)⟩
 |k+1,n,most,h,he=>by
   unfold runGo;by_cases a:D[p+n]? =D[p+n-d]?
   ·rw[if_pos a]
    refine runGo_is D p d k (n+1) most (by omega) (fun j hj=> ?_);by_cases b:j<n
    ·exact he j b
    ·obtain rfl:j=n:=by omega
     exact a
   ·rw[if_neg a]
    exact⟨by omega,he,fun _=>a⟩
def run(D:List UInt8)(p d most:Nat):Nat:=runGo D p d most 0
theorem run_is(D:List UInt8)(p d most:Nat):IsRun D p d most (run D p d most):=runGo_is D p d most 0 most (Nat.zero_add _) (fun j hj=>absurd hj (Nat.not_lt_zero _))
def same3(D:List UInt8)(p d:Nat):Bool:=decide (D[p]? =D[p-d]?)&&(decide (D[p+1]? =D[p+1-d]?)&&decide (D[p+2]? =D[p+2-d]?))
def dists(D:List UInt8)(dict p:Nat):List Nat:=((List.range' 1 (min p dict)).filter (same3 D p)).take 32
def mts(D:List UInt8)(tp dict p:Nat):List (Nat×Nat):=if min 273 (tp-p)<3 then[] else(dists D dict p).map fun d=>(run D p d (min 273 (tp-p)),d)
theorem takeWhile_le(k:Nat):∀l:List Nat,l.Pairwise (·<·)→l.takeWhile (fun d=>decide (d≤k))=l.filter (fun d=>decide (d≤k))
 |[],_=>rfl
 |a::l,h=>by
   obtain⟨e,f⟩:=List.pairwise_cons.1 h;by_cases c:a≤k
   ·rw[List.takeWhile_cons_of_pos (by simpa using c),List.filter_cons_of_pos (by simpa using c),takeWhile_le k l f]
   ·rw[List.takeWhile_cons_of_neg (by simpa using c),List.filter_cons_of_neg (by simpa using c)]
    symm;rw[List.filter_eq_nil_iff];intro b g;have:=e b g;simp only[decide_eq_true_eq];omega
theorem tw_take(q:Nat→Bool):∀(n:Nat)(l:List Nat),(l.take n).takeWhile q=(l.takeWhile q).take n
 |0,l=>by simp
 |n+1,[]=>by simp
 |n+1,a::l=>by
   rw[List.take_succ_cons];by_cases h:q a=true
   ·rw[List.takeWhile_cons_of_pos h,List.takeWhile_cons_of_pos h,List.take_succ_cons,tw_take q n l]
   ·rw[List.takeWhile_cons_of_neg h,List.takeWhile_cons_of_neg h,List.take_nil]
theorem take_while_comm(k n:Nat)(l:List Nat)(h:l.Pairwise (·<·)):(l.take n).takeWhile (fun d=>decide (d≤k))=(l.filter (fun d=>decide (d≤k))).take n:=by
 rw[←takeWhile_le k l h,tw_take]
theorem range_le(k:Nat):∀p:Nat,(List.range' 1 p).filter (fun d=>decide (d≤k))=List.range' 1 (min p k)
 |0=>by simp
 |p+1=>by
   rw[List.range'_concat,List.filter_append,range_le k p];by_cases h:p+1≤k
   ·rw[show min (p+1) k=p+1 by omega,show min p k=p by omega,List.range'_concat]
    congr 1;rw[List.filter_cons_of_pos (by simp;omega)];rfl
   ·rw[show min (p+1) k=min p k by omega,List.filter_cons_of_neg (by simp;omega)]
    simp
theorem dists_prog(D:List UInt8)(dict p:Nat):(((List.range' 1 p).filter (same3 D p)).take 32).takeWhile (fun d=>decide (d≤dict))=dists D dict p:=by
 rw[take_while_comm dict 32 _ (List.Pairwise.filter _ List.pairwise_lt_range')];unfold dists;congr 1;rw[←range_le dict p,List.filter_filter,List.filter_filter];congr 1;funext d;exact Bool.and_comm _ _
def bitsGo:Nat→Nat→Nat
 |0,_=>0
 |k+1,x=>if 4≤x then bitsGo k (x/2)+1 else 0
def bits(d:Nat):Nat:=bitsGo 64 (d-1)
theorem bitsGo_mono:∀(k x y:Nat),x≤y→bitsGo k x≤bitsGo k y
 |0,_,_,_=>Nat.le_refl _
 |k+1,x,y,h=>by
   unfold bitsGo;by_cases a:4≤x
   ·rw[if_pos a,if_pos (by omega)]
    exact Nat.succ_le_succ (bitsGo_mono k _ _ (Nat.div_le_div_right h))
   ·rw[if_neg a]
    exact Nat.zero_le _
theorem bits_mono{a b:Nat}(h:a≤b):bits a≤bits b:=bitsGo_mono 64 _ _ (by omega)
def long(n:Nat):Nat:=if n≤9 then 4 else if n≤17 then 5 else 10
def price(n d:Nat):Nat:=8+long n+bits d
structure Stp where
 n:Nat
 d:Nat
 c:Nat
structure IsBest(ms:List (Nat×Nat))(behind:Nat→Nat)(y:Stp):Prop where
 cand:(y.n=1∧y.d=0∧y.c=9+behind 1)∨(3≤y.n∧(∃L,(L,y.d) ∈ ms∧y.n≤L)∧y.c=price y.n y.d+behind y.n)
 lit:y.c≤9+behind 1
 least:∀L d n,(L,d) ∈ ms→3≤n→n≤L→y.c≤price n d+behind n
 longest:∀L d n,(L,d) ∈ ms→3≤n→n≤L→y.c=price n d+behind n→n≤y.n
 near:∀L d,(L,d) ∈ ms→3≤y.n→y.n≤L→y.c=price y.n d+behind y.n→y.d≤d
theorem IsBest.uniq{g:List (Nat×Nat)}{behind:Nat→Nat}{y z:Stp}(d:IsBest g behind y)(e:IsBest g behind z):y=z:=by
 have p:∀{y z:Stp},IsBest g behind y→IsBest g behind z→y.c≤z.c:=by
  intro y z d e;rcases e.cand with⟨_,_,h⟩|⟨i,⟨L,k,m⟩,l⟩
  ·rw[h];exact d.lit
  ·rw[l];exact d.least L z.d z.n k i m
 have f:y.c=z.c:=Nat.le_antisymm (p d e) (p e d);have q:∀{y z:Stp},IsBest g behind y→IsBest g behind z→y.c=z.c→z.n≤y.n:=by
  intro y z d e f;rcases e.cand with⟨h,_,_⟩|⟨i,⟨L,k,m⟩,l⟩
  ·rcases d.cand with⟨r,_,_⟩|⟨i,_,_⟩<;>omega
  ·exact d.longest L z.d z.n k i m (by rw[f,l])
 have j:y.n=z.n:=Nat.le_antisymm (q e d f.symm) (q d e f);have o:∀{y z:Stp},IsBest g behind y→IsBest g behind z→y.c=z.c→y.n=z.n→y.d≤z.d:=by
  intro y z d e f j;rcases e.cand with⟨h,v,_⟩|⟨i,⟨L,k,m⟩,l⟩
  ·rcases d.cand with⟨_,r,_⟩|⟨i,_,_⟩<;>omega
  ·exact d.near L z.d k (by omega) (by omega) (by rw[f,l,j])
 have n:y.d=z.d:=Nat.le_antisymm (o d e f j) (o e d f.symm j.symm);obtain⟨a,b,c⟩:=y;obtain⟨s,t,u⟩:=z;simp only at f j n;subst f j n;rfl
end Px
namespace Px
theorem take_filter(p:Nat):∀(zs:List Nat)(k:Nat),(∀t z,t<k→zs[t]? =some z→z<p)→(∀t z,k≤t→zs[t]? =some z→p≤z)→zs.take k=zs.filter (fun z=>decide (z<p))
 |[],k,_,_=>by simp
 |z::zs,0,_,h2=>by
   symm;rw[List.take_zero,List.filter_eq_nil_iff];intro y hy;obtain⟨t,ht⟩:=List.mem_iff_getElem?.1 hy;have:=h2 t y (Nat.zero_le _) ht;simp only[decide_eq_true_eq];omega
 |z::zs,k+1,h1,h2=>by
   have a:z<p:=h1 0 z (Nat.zero_lt_succ _) rfl;rw[List.take_succ_cons,List.filter_cons_of_pos (by simpa using a),take_filter p zs k (fun t y ht hy=>h1 (t+1) y (by omega) hy) (fun t y ht hy=>h2 (t+1) y (by omega) hy)]
theorem range_lt(p:Nat):∀n:Nat,(List.range n).filter (fun z=>decide (z<p))=List.range (min n p)
 |0=>by simp
 |n+1=>by
   rw[List.range_succ,List.filter_append,range_lt p n];by_cases h:n<p
   ·rw[List.filter_cons_of_pos (by simpa using h),show min (n+1) p=n+1 by omega,show min n p=n by omega,List.range_succ]
    rfl
   ·rw[List.filter_cons_of_neg (by simpa using h),show min (n+1) p=min n p by omega]
    simp
theorem range_turn(p:Nat):(List.range p).reverse.map (fun z=>p-z)=List.range' 1 p:=by
 apply List.ext_getElem
 ·simp
 ·intro i a b
  simp only[List.length_map,List.length_reverse,List.length_range] at a;simp only[List.getElem_map,List.getElem_reverse,List.getElem_range,List.getElem_range',List.length_range];omega
theorem filter_turn(p:Nat)(q r:Nat→Bool)(h:∀z,z<p→q z=r (p-z)):((List.range p).filter q).reverse.map (fun z=>p-z)=(List.range' 1 p).filter r:=by
 rw[←range_turn,List.filter_map,←List.filter_reverse];congr 1;apply List.filter_congr;intro z a;simp only[List.mem_reverse,List.mem_range] at a;exact h z a
theorem word_inj{a b c d e f:UInt8}(h:Fi.wordV a b c=Fi.wordV d e f):a=d∧b=e∧c=f:=by
 simp only[Fi.wordV,Mem.bv,Value.agg.injEq,Array.mk.injEq,List.cons.injEq,Value.int.injEq,true_and,and_true] at h;obtain⟨g,i,j⟩:=h;exact⟨UInt8.toNat_inj.1 (by omega),UInt8.toNat_inj.1 (by omega),UInt8.toNat_inj.1 (by omega)⟩
open Classical in
theorem same3_word{D:List UInt8}{p z:Nat}(l:z<p)(k:p+3≤D.length):decide (z+3≤D.length∧Fi.wkey D z=Fi.wkey D p)=same3 D p (p-z):=by
 have e:∀i,i+1≤3→D[p+i]? =some (D.getD (p+i) 0)∧D[p+i-(p-z)]? =some (D.getD (z+i) 0):=by
  intro i j;rw[show p+i-(p-z)=z+i by omega,List.getD_eq_getElem?_getD,List.getD_eq_getElem?_getD,List.getElem?_eq_getElem (by omega),List.getElem?_eq_getElem (by omega)];exact⟨rfl,rfl⟩
 have a:=e 0 (by omega);have f:=e 1 (by omega);have g:=e 2 (by omega);rw[Nat.add_zero,Nat.add_zero] at a;unfold same3;rw[a.1,a.2,f.1,f.2,g.1,g.2,←Bool.decide_and,←Bool.decide_and];apply decide_eq_decide.2;simp only[Option.some.injEq];constructor
 ·rintro⟨_,h⟩
  obtain⟨b,c,d⟩:=word_inj h;exact⟨b.symm,c.symm,d.symm⟩
 ·rintro⟨b,c,d⟩
  refine⟨by omega,?_⟩;unfold Fi.wkey;rw[b,c,d]
def alls(D:List UInt8)(p:Nat):List Nat:=(List.range' 1 p).filter (same3 D p)
open Classical in
theorem alls_map{D:List UInt8}{p k:Nat}(d:p+3≤D.length)(b:∀t z,t<k→(Fi.wl D D.length (Fi.wkey D p))[t]? =some z→z<p)(c:∀t z,k≤t→(Fi.wl D D.length (Fi.wkey D p))[t]? =some z→p≤z):
 ((Fi.wl D D.length (Fi.wkey D p)).take k).reverse.map (fun z=>p-z)=alls D p:=by
 rw[take_filter p _ k b c];unfold Fi.wl;rw[List.filter_filter];rw[show(fun a=>decide (a<p)&&decide (a+3≤D.length∧Fi.wkey D a=Fi.wkey D p))=fun a=>(decide (a+3≤D.length∧Fi.wkey D a=Fi.wkey D p)&&decide (a<p)) from funext fun a=>Bool.and_comm _ _,←List.filter_filter,range_lt p,show min D.length p=p by omega];exact filter_turn p _ _ (fun z e=>same3_word e d)
def mtsM(D:List UInt8)(dict p most:Nat):List (Nat×Nat):=if most<3 then[] else(dists D dict p).map fun d=>(run D p d most,d)
theorem mts_eq(D:List UInt8)(tp dict p:Nat):mts D tp dict p=mtsM D dict p (min 273 (tp-p)):=rfl
theorem tw_all(q:Nat→Bool):∀l:List Nat,(∀x,x ∈ l→q x=true)→l.takeWhile q=l
 |[],_=>rfl
 |a::l,h=>by rw[List.takeWhile_cons_of_pos (h a (List.mem_cons_self ..)),tw_all q l (fun x b=>h x (List.mem_cons_of_mem _ b))]
structure Got(D:List UInt8)(dict p most:Nat)(pre:List (Nat×Nat)):Prop where
 eq:pre=((alls D p).take pre.length).map fun d=>(run D p d most,d)
 le:∀d,d ∈ (alls D p).take pre.length→d≤dict
theorem Got.nil{D:List UInt8}{dict p most:Nat}:Got D dict p most []:=⟨by simp,by simp⟩
theorem Got.step{D:List UInt8}{dict p most d:Nat}{a:List (Nat×Nat)}(h:Got D dict p most a)(f:(alls D p)[a.length]? =some d)(c:d≤dict):Got D dict p most (a++[(run D p d most,d)]):=by
 have e:(alls D p).take (a.length+1)=(alls D p).take a.length++[d]:=by rw[List.take_add_one,f];rfl
 refine⟨?_,?_⟩
 ·rw[List.length_append,List.length_singleton,e,List.map_append,←h.eq]
  rfl
 ·rw[List.length_append,List.length_singleton,e]
  intro x b;rcases List.mem_append.1 b with b|b
  ·exact h.le x b
  ·rw[List.mem_singleton.1 b];exact c
theorem Got.full{D:List UInt8}{dict p most:Nat}{a:List (Nat×Nat)}(h:Got D dict p most a)(i:¬most<3)(c:a.length≤32)(g:a.length=32∨(alls D p).length≤a.length):a=mtsM D dict p most:=by
 have e:(alls D p).take a.length=(alls D p).take 32:=by
  rcases g with b|b
  ·rw[b]
  ·rw[List.take_of_length_le b,List.take_of_length_le (by omega)]
 unfold mtsM;rw[if_neg i,←dists_prog];show a=List.map _ (((alls D p).take 32).takeWhile _);rw[←e,tw_all _ _ (fun d f=>by simpa using h.le d f)];exact h.eq
theorem Got.far{D:List UInt8}{dict p most d:Nat}{a:List (Nat×Nat)}(h:Got D dict p most a)(j:¬most<3)(g:a.length<32)(i:(alls D p)[a.length]? =some d)(c:dict<d):a=mtsM D dict p most:=by
 obtain⟨f,b⟩:=List.getElem?_eq_some_iff.1 i;have e:(alls D p).take 32=(alls D p).take a.length++d::((alls D p).drop (a.length+1)).take (31-a.length):=by
  conv=>lhs;rw[←List.take_append_drop a.length (alls D p),List.drop_eq_getElem_cons f,b]
  rw[List.take_append,List.length_take,Nat.min_eq_left (by omega),List.take_of_length_le (by simp;omega),show 32-a.length=(31-a.length)+1 by omega,List.take_succ_cons]
 unfold mtsM;rw[if_neg j,←dists_prog];show a=List.map _ (((alls D p).take 32).takeWhile _);rw[e,List.takeWhile_append_of_pos (fun x k=>by simpa using h.le x k),List.takeWhile_cons_of_neg (by simpa using c),List.append_nil];exact h.eq
end Px
end Go.Proofs.YtffoddpjfgjelaaGreatDoor
