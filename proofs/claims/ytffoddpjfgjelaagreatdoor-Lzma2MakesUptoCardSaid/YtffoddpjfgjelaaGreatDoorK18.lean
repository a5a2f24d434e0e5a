/- Part 18 of 54: lemmas of the last part, each under the conditions that it names. -/
import Derived.Deep.QuietTactic
import Derived.BigQuiet
import Derived.Test.YtffoddpjfgjelaaGreatDoorK10
set_option linter.unusedVariables false
set_option linter.unusedSimpArgs false
set_option maxRecDepth 1500
set_option maxHeartbeats 2000000
namespace Go.Proofs.YtffoddpjfgjelaaGreatDoor
open Go.RowKit
namespace Rx
open Mem Win St
abbrev pcV(a:Option Addr)(n cap fm tp dict:Nat):Value:=.agg #[.slice a n cap,.int .i64 fm,.int .i64 tp,.int .i64 dict]
theorem usable_calls(a:Option Addr)(n b f tp dict p d:Nat)(w:World):
 Calls Tryz.prog 201 #[pcV a n b f tp dict,.int .i64 p,.int .i64 d] w fun e h=>e=.returned (.bool (decide (1≤d∧d≤p∧d≤dict)))∧Fr (fun _=>False) w h:=by
 have g:=heap_alloc_new w (.cells #[.slice a n b,.int .i64 f,.int .i64 tp,.int .i64 dict] 101);have c:=Hd ((R0 w).alloc (.cells #[.slice a n b,.int .i64 f,.int .i64 tp,.int .i64 dict] 101));have j:=cell_in (i:=3) g rfl;by_cases k:(0:Int)<d
 ·by_cases l:(d:Int)≤p
  ·by_cases m:(d:Int)≤dict
   ·rw[decide_eq_true (show 1≤d∧d≤p∧d≤dict by omega)]
    go_enter Tryz.func201,Tryz.ntmps201;go_wp2_with fail;go_ret;exact⟨rfl,c.out⟩
   ·rw[decide_eq_false (show¬(1≤d∧d≤p∧d≤dict) by omega)]
    go_enter Tryz.func201,Tryz.ntmps201;go_wp2_with fail;go_ret;exact⟨rfl,c.out⟩
  ·rw[decide_eq_false (show¬(1≤d∧d≤p∧d≤dict) by omega)]
   go_enter Tryz.func201,Tryz.ntmps201;go_wp2_with fail;go_ret;exact⟨rfl,c.out⟩
 ·rw[decide_eq_false (show¬(1≤d∧d≤p∧d≤dict) by omega)]
  go_enter Tryz.func201,Tryz.ntmps201;go_wp2_with fail;go_ret;exact⟨rfl,c.out⟩
theorem long_calls(n:Nat)(w:World):Calls Tryz.prog 206 #[.int .i64 n] w fun e f=>e=.returned (.int .i64 (Px.long n:Nat))∧w=f:=by
 unfold Px.long;by_cases a:n≤9
 ·have c:decide ((n:Int)≤9)=true:=decide_eq_true (by omega)
  rw[if_pos a];clear a;go_enter Tryz.func206,Tryz.ntmps206;go_wp2_with fail;go_ret;exact⟨rfl,rfl⟩
 ·have c:decide ((n:Int)≤9)=false:=decide_eq_false (by omega)
  rw[if_neg a];clear a;by_cases b:n≤17
  ·have d:decide ((n:Int)≤17)=true:=decide_eq_true (by omega)
   rw[if_pos b];clear b;go_enter Tryz.func206,Tryz.ntmps206;go_wp2_with fail;go_ret;exact⟨rfl,rfl⟩
  ·have d:decide ((n:Int)≤17)=false:=decide_eq_false (by omega)
   rw[if_neg b];clear b;go_enter Tryz.func206,Tryz.ntmps206;go_wp2_with fail;go_ret;exact⟨rfl,rfl⟩
theorem bits_calls(d:Nat)(w:World)(u:1≤d)(v:d≤4294967295):Calls Tryz.prog 205 #[.int .i64 d] w fun e q=>e=.returned (.int .i64 (Px.bits d:Nat))∧w=q:=by
 have A:IntKind.i64.wrap ((d:Int)-1)=((d-1:Nat):Int):=by rw[IntWalk.i64_in _ (by omega)];omega
 have r:(d:Int)-1=((d-1:Nat):Int):=by omega
 go_enter Tryz.func205,Tryz.ntmps205;go_wp2_with fail;go_loopw [3,4] (fun s3 s4 wr=>∃(k n x:Nat),s3=.int .i64 n∧s4=.int .i64 x∧n+k=64∧x≤4294967295∧x<2^k∧Px.bits d=n+Px.bitsGo k x∧wr=w) (fun s3 _ _=>64-(intOf s3).toNat);case atStart=>exact⟨64,0,d-1,rfl,rfl,rfl,by omega,by omega,(Nat.zero_add _).symm,rfl⟩
 case round=>
  obtain⟨k,n,x,rfl,rfl,z,o,m,l,rfl⟩:=hrel;have g:=Hd l;have i:=Hd m;clear l m;by_cases j:4≤x
  ·have t:(4:Int)≤x:=by omega
   have y:IntKind.i64.wrap ((x:Int)/2)=((x/2:Nat):Int):=by rw[IntWalk.i64_in _ (by omega)];omega
   rcases k with _|k
   ·have:=i.out
    simp at this;omega
   have b:x/2<2^k:=by have:=i.out;rw[Nat.pow_succ] at this;omega
   have a:Px.bits d=(n+1)+Px.bitsGo k (x/2):=by
    have h:=g.out;rw[Px.bitsGo,if_pos j] at h;omega
   have f:=Hd b;have c:=Hd a;clear b a;go_wp2_with fail;go_roundw
   ·exact⟨k,n+1,x/2,by simp,by simp,by omega,by omega,f.out,c.out,trivial⟩
   ·simp[intOf];omega
  ·have t:¬(4:Int)≤x:=by omega
   have e:Px.bits d=n:=by
    have h:=g.out;have s:Px.bitsGo k x=0:=by
     rcases k with _|k
     ·rfl
     ·rw[Px.bitsGo,if_neg j]
    omega
   have p:=Hd e;clear e;go_wp2_with fail;go_ret;exact⟨by rw[p.out];rfl,rfl⟩
end Rx
namespace Rx
open Mem Win St
set_option maxRecDepth 100000 in
theorem run_calls(a:Option Addr)(b C tp dict p d:Nat)(data:List UInt8)(w:World)(h:Rd w (.slice a data.length b) data)(R:1≤d)(S:d≤p)(hp:p≤tp)(ht:tp≤data.length)(hb:data.length≤1099511627776):
 Calls Tryz.prog 202 #[pcV a data.length b C tp dict,.int .i64 p,.int .i64 d] w fun e Y=>e=.returned (.int .i64 (Px.run data p d (min 273 (tp-p)):Nat))∧Fr (fun _=>False) w Y:=by
 have u:=heap_alloc_new w (.cells #[.slice a data.length b,.int .i64 C,.int .i64 tp,.int .i64 dict] 101);have L:=(R0 w).alloc (.cells #[.slice a data.length b,.int .i64 C,.int .i64 tp,.int .i64 dict] 101);have s:Hid (∀n,Px.IsRun data p d (min 273 (tp-p)) n→n=Px.run data p d (min 273 (tp-p))):=Hd (fun n D=>D.uniq (Px.run_is _ _ _ _));generalize Px.run data p d (min 273 (tp-p))=r at*;obtain⟨m,U⟩:∃m,min 273 (tp-p)=m:=⟨_,rfl⟩;rw[U] at s;have Q:=Hd u;have B:=Hd L;have P:=Hd h;clear u L h;go_enter Tryz.func202,Tryz.ntmps202;go_wp2_with fail;generalize w.alloc (.cells #[.slice a data.length b,.int .i64 C,.int .i64 tp,.int .i64 dict] 101)=W at*;go_loopw [7](fun s7 wr=>∃n:Nat,s7=.int .i64 n∧n≤m∧(∀j,j<n→data[p+j]? =data[p+j-d]?)∧Fr (fun _=>False) W wr) (fun s7 _=>m-(intOf s7).toNat);case atStart=>exact⟨0,rfl,Nat.zero_le _,fun j M=>absurd M (Nat.not_lt_zero _),Fr.refl _ _⟩
 case round=>
  obtain⟨n,rfl,D,t,c⟩:=hrel;have k:=c.keep Q.out (fun h=>h);have c0:=cell_in (i:=0) k rfl;have c2:=cell_in (i:=2) k rfl;have f:=Hd c;have q:=Hd t;by_cases G:n<m
  ·have O:decide ((n:Int)<273)=true:=decide_eq_true (by omega)
   have X:decide ((p:Int)+(n:Int)<(tp:Int))=true:=decide_eq_true (by omega);have V:=(P.out.keep B.out).keep c;obtain⟨Z,cp,e,_,_,z⟩:=V;obtain⟨g,o,rfl,E⟩:=z (by omega);simp only[Value.slice.injEq,true_and] at e;obtain⟨rfl,rfl⟩:=e;obtain⟨x,u⟩:∃x,data[p+n]? =some x:=⟨data[p+n],by simp⟩;obtain⟨y,H⟩:∃y,data[p+n-d]? =some y:=⟨data[p+n-d]'(by omega),List.getElem?_eq_getElem _⟩;have N:(p:Int)+(n:Int)-(d:Int)=((p+n-d:Nat):Int):=by omega
   have cx:wr.cell? ⟨g,o+(p+n),none⟩=some (.int .u8 x.toNat):=E _ _ u;have cy:wr.cell? ⟨g,o+(p+n-d),none⟩=some (.int .u8 y.toNat):=E _ _ H;have i1:(0:Int)≤(p:Int)+(n:Int):=by omega
   have i2:(p:Int)+(n:Int)<(data.length:Int):=by omega
   have i3:(0:Int)≤((p+n-d:Nat):Int):=by omega
   have i4:((p+n-d:Nat):Int)<(data.length:Int):=by omega
   have i6:IntKind.i64.wrap ((p:Int)+(n:Int)-(d:Int))=((p+n-d:Nat):Int):=by rw[IntWalk.i64_in _ (by omega)];exact N
   have v:=Hd u;have J:=Hd H;clear E z c t u H N k;by_cases l:x=y
   ·have T:((x.toNat:Int)==(y.toNat:Int))=true:=by subst l;simp
    go_wp2_with fail;go_quiet (fail);go_wp2_with fail;go_roundw;case rel=>
     refine⟨n+1,by go_num,by omega,fun j M=> ?_,f.out.drewN _⟩;by_cases F:j<n
     ·exact q.out j F
     ·obtain rfl:j=n:=by omega
      rw[v.out,J.out,l]
    case measure=>simp[intOf];omega
   ·have T:((x.toNat:Int)==(y.toNat:Int))=false:=by
     simp only[beq_eq_false_iff_ne,ne_eq,Int.natCast_inj];exact fun e=>l (UInt8.toNat_inj.1 e)
    go_wp2_with fail;go_quiet (fail);go_wp2_with fail;go_ret
    exact⟨by rw[←s.out n ⟨D,q.out,fun _ e=>by
     rw[v.out,J.out] at e;exact l (Option.some.inj e)⟩];rfl,B.out.trans (f.out.drewN _)⟩
  ·have A:n=m:=by omega
   have I:=Hd (s.out n ⟨D,q.out,fun h=>absurd h G⟩);clear c t k;by_cases K:n<273
   ·have O:decide ((n:Int)<273)=true:=decide_eq_true (by omega)
    have X:decide ((p:Int)+(n:Int)<(tp:Int))=false:=decide_eq_false (by omega);clear A;go_wp2_with fail;go_quiet (fail);go_wp2_with fail;go_ret;exact⟨by rw[←I.out];rfl,B.out.trans (f.out.drewN _)⟩
   ·have O:decide ((n:Int)<273)=false:=decide_eq_false (by omega)
    clear A;go_wp2_with fail;go_quiet (fail);go_wp2_with fail;go_ret;exact⟨by rw[←I.out];rfl,B.out.trans (f.out.drewN _)⟩
end Rx
end Go.Proofs.YtffoddpjfgjelaaGreatDoor
namespace Go.Proofs.YtffoddpjfgjelaaGreatDoor
namespace Px
def Seen(ms:List (Nat×Nat))(k m L d n:Nat):Prop:=∃j,ms[j]? =some (L,d)∧3≤n∧n≤L∧(j<k∨j=k∧n<m)
structure RefTo(ms:List (Nat×Nat))(b:Nat→Nat)(k m:Nat)(y:Stp):Prop where
 cand:(y.n=1∧y.d=0∧y.c=9+b 1)∨(3≤y.n∧(∃L,Seen ms k m L y.d y.n)∧y.c=price y.n y.d+b y.n)
 lit:y.c≤9+b 1
 least:∀L d n,Seen ms k m L d n→y.c≤price n d+b n
 longest:∀L d n,Seen ms k m L d n→y.c=price n d+b n→n≤y.n
 near:∀L d,Seen ms k m L d y.n→y.c=price y.n d+b y.n→y.d≤d
theorem seen_none{a:List (Nat×Nat)}{L d n:Nat}(h:Seen a 0 3 L d n):False:=by
 obtain⟨j,_,b,_,h|⟨_,h⟩⟩:=h<;>omega
theorem RefTo.start(a:List (Nat×Nat))(b:Nat→Nat):RefTo a b 0 3 ⟨1,0,9+b 1⟩:=
 ⟨.inl ⟨rfl,rfl,rfl⟩,Nat.le_refl _,fun _ _ _ h=>(seen_none h).elim,fun _ _ _ h=>(seen_none h).elim,fun _ _ h=>(seen_none h).elim⟩
theorem RefTo.iff{f:List (Nat×Nat)}{b:Nat→Nat}{k m g i:Nat}{y:Stp}(h:RefTo f b k m y)(e:∀L d n,Seen f g i L d n↔Seen f k m L d n):RefTo f b g i y:=
 ⟨by
  rcases h.cand with c|⟨j,⟨L,l⟩,o⟩
  ·exact .inl c
  ·exact .inr ⟨j,⟨L,(e _ _ _).2 l⟩,o⟩,h.lit,fun L d n a=>h.least L d n ((e _ _ _).1 a),fun L d n a=>h.longest L d n ((e _ _ _).1 a),fun L d a=>h.near L d ((e _ _ _).1 a)⟩
theorem RefTo.more{i:List (Nat×Nat)}{b:Nat→Nat}{k m L d:Nat}{y:Stp}(h:RefTo i b k m y)(l:i[k]? =some (L,d))(r:L<m):RefTo i b (k+1) 3 y:=
 h.iff fun p q n=>by
  constructor
  ·rintro⟨j,a,c,f,g|⟨g,o⟩⟩
   ·by_cases e:j=k
    ·subst e
     rw[l] at a;cases a
     exact⟨j,l,c,f,.inr ⟨rfl,by omega⟩⟩
    ·exact⟨j,a,c,f,.inl (by omega)⟩
   ·omega
  ·rintro⟨j,a,c,f,g|⟨g,o⟩⟩
   ·exact⟨j,a,c,f,.inl (by omega)⟩
   ·exact⟨j,a,c,f,.inl (by omega)⟩
theorem seen_step{c:List (Nat×Nat)}{k m L d f a n:Nat}(l:c[k]? =some (L,d))(h:Seen c k (m+1) f a n):Seen c k m f a n∨(n=m∧a=d):=by
 obtain⟨j,b,g,i,o⟩:=h;by_cases e:j=k∧n=m
 ·obtain⟨rfl,rfl⟩:=e
  rw[l] at b;cases b
  exact .inr ⟨rfl,rfl⟩
 ·exact .inl ⟨j,b,g,i,by omega⟩
theorem seen_mono{a:List (Nat×Nat)}{k m L d n:Nat}(h:Seen a k m L d n):Seen a k (m+1) L d n:=by
 obtain⟨j,b,c,e,f⟩:=h;exact⟨j,b,c,e,by omega⟩
theorem seen_near{b:List (Nat×Nat)}(q:Rises b){k m L d g c n:Nat}(f:b[k]? =some (L,d))(h:Seen b k m g c n):c≤d:=by
 obtain⟨j,a,r,s,t⟩:=h;by_cases e:j=k
 ·subst e
  rw[f] at a;cases a
  exact Nat.le_refl _
 ·obtain⟨i,l⟩:=List.getElem?_eq_some_iff.1 a
  obtain⟨o,p⟩:=List.getElem?_eq_some_iff.1 f;have:=List.pairwise_iff_getElem.1 q j k i o (by omega);rw[l,p] at this;exact Nat.le_of_lt this
theorem RefTo.take{o:List (Nat×Nat)}(x:Rises o){b:Nat→Nat}{k m L d:Nat}{y:Stp}(h:RefTo o b k m y)(s:3≤m)(i:o[k]? =some (L,d))(w:m≤L):
 (price m d+b m<y.c∨price m d+b m=y.c∧y.n<m→RefTo o b k (m+1) ⟨m,d,price m d+b m⟩)∧(¬(price m d+b m<y.c∨price m d+b m=y.c∧y.n<m)→RefTo o b k (m+1) y):=by
 constructor
 ·intro j
  have l:price m d+b m≤y.c:=by omega
  refine⟨.inr ⟨s,⟨L,k,i,s,w,.inr ⟨rfl,Nat.lt_succ_self m⟩⟩,rfl⟩,Nat.le_trans l h.lit,fun e f n a=> ?_,fun e f n a g=> ?_,fun e f a g=> ?_⟩
  ·rcases seen_step i a with a|⟨rfl,rfl⟩
   ·exact Nat.le_trans l (h.least e f n a)
   ·exact Nat.le_refl _
  ·rcases seen_step i a with a|⟨rfl,rfl⟩
   ·have u:=h.least e f n a
    rcases j with j|⟨j,t⟩
    ·simp only at g
     omega
    ·have v:=h.longest e f n a (by simp only at g;omega)
     show n≤m;omega
   ·exact Nat.le_refl _
  ·simp only at a g ⊢
   rcases seen_step i a with a|⟨_,rfl⟩
   ·have u:=h.least e f m a
    rcases j with j|⟨j,t⟩
    ·omega
    ·have v:=h.longest e f m a (by omega)
     omega
   ·exact Nat.le_refl _
 ·intro j
  refine⟨?_,h.lit,fun e f n a=> ?_,fun e f n a g=> ?_,fun e f a g=> ?_⟩
  ·rcases h.cand with c|⟨q,⟨e,p⟩,r⟩
   ·exact .inl c
   ·exact .inr ⟨q,⟨e,seen_mono p⟩,r⟩
  ·rcases seen_step i a with a|⟨rfl,rfl⟩
   ·exact h.least e f n a
   ·omega
  ·rcases seen_step i a with a|⟨rfl,rfl⟩
   ·exact h.longest e f n a g
   ·omega
  ·rcases seen_step i a with a|⟨t,rfl⟩
   ·exact h.near e f a g
   ·rcases h.cand with⟨c,_⟩|⟨q,⟨z,p⟩,r⟩
    ·omega
    ·exact seen_near x i p
theorem RefTo.fin{g:List (Nat×Nat)}{b:Nat→Nat}{y:Stp}(h:RefTo g b g.length 3 y):IsBest g b y:=by
 have k:∀{L d n:Nat},(L,d) ∈ g→3≤n→n≤L→Seen g g.length 3 L d n:=by
  intro L d n e a f;obtain⟨j,l⟩:=List.mem_iff_getElem?.1 e;exact⟨j,l,a,f,.inl (List.getElem?_eq_some_iff.1 l).1⟩
 refine⟨?_,h.lit,fun L d n e a f=>h.least L d n (k e a f),fun L d n e a f i=>h.longest L d n (k e a f) i,fun L d e a f i=>h.near L d (k e a f) i⟩;rcases h.cand with c|⟨m,⟨L,j,o,r,p,_⟩,q⟩
 ·exact .inl c
 ·exact .inr ⟨m,⟨L,List.mem_of_getElem? o,p⟩,q⟩
theorem RefTo.sizes{a:List (Nat×Nat)}{b:Nat→Nat}{k m:Nat}{y:Stp}(h:RefTo a b k m y):y.n=1∧y.d=0∨3≤y.n:=by
 rcases h.cand with c|c
 ·exact .inl ⟨c.1,c.2.1⟩
 ·exact .inr c.1
end Px
namespace Px
open St
theorem named_fits{D:List UInt8}{tp dict p:Nat}{z:Stp}{s:S}(k:z.n=1∨3≤z.n):(if(named D tp dict p z s).kind=2∨(named D tp dict p z s).kind=3 then(named D tp dict p z s).len else 1)=z.n∧(named D tp dict p z s).Ok:=by
 have a:∀i,i<4→(if(⟨3,0,z.n,i⟩:Sy).kind=2∨(⟨3,0,z.n,i⟩:Sy).kind=3 then(⟨3,0,z.n,i⟩:Sy).len else 1)=z.n∧(⟨3,0,z.n,i⟩:Sy).Ok:=fun i j=>
  ⟨rfl,.inr (.inr (.inl rfl)),fun _=>(by show i≤3;omega),by show 0<256;decide⟩
 unfold named;by_cases b:z.n=1
 ·rw[if_pos b,b]
  by_cases g:0<rn D tp dict p s.r0
  ·rw[if_pos g]
   exact⟨rfl,.inr (.inr (.inr rfl)),fun h=>absurd h (by decide),by decide⟩
  ·rw[if_neg g]
   exact⟨rfl,.inl rfl,fun h=>absurd h (by show¬(1:Nat)=3;decide),UInt8.toNat_lt _⟩
 ·rw[if_neg b]
  by_cases c:s.r0=z.d
  ·rw[if_pos c]
   exact a 0 (by decide)
  rw[if_neg c];by_cases d:s.r1=z.d
  ·rw[if_pos d]
   exact a 1 (by decide)
  rw[if_neg d];by_cases e:s.r2=z.d
  ·rw[if_pos e]
   exact a 2 (by decide)
  rw[if_neg e];by_cases f:s.r3=z.d
  ·rw[if_pos f]
   exact a 3 (by decide)
  rw[if_neg f];exact⟨rfl,.inr (.inl rfl),fun h=>absurd h (by show¬(2:Nat)=3;decide),by show 0<256;decide⟩
end Px
end Go.Proofs.YtffoddpjfgjelaaGreatDoor
