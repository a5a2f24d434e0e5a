/- Part 38 of 54: lemmas of the last part, each under the conditions that it names. -/
import Derived.Shelf.Strconv.Itoa1
import Derived.Maps.Own
import Derived.Maps.Views
import Derived.StringKeys
import Derived.Laws.Concat
import Derived.Test.YtffoddpjfgjelaaGreatDoorK22
set_option linter.unusedVariables false
set_option linter.unusedSimpArgs false
set_option maxRecDepth 1500
set_option maxHeartbeats 2000000
namespace Go.Proofs.YtffoddpjfgjelaaGreatDoor
open Go.RowKit
namespace Rf
open Mem
theorem small_ba(b:ByteArray)(l:List UInt8)(h:b.data.toList=l):b=⟨l.toArray⟩:=by
 subst h;cases b
 simp
set_option maxRecDepth 100000 in
theorem small_calls(i:Nat)(h:i<100)(w:World):Calls Tryz.prog 284 #[.int .i64 i] w fun e f=>e=.returned (.string ⟨(dig i).toArray⟩)∧f=w:=by
 rw[←dig_eq i h];go_enter Tryz.func284,Tryz.ntmps284;go_name_bytes_deep 45 SM hSM;have c:SM=Lib.smalls:=by rw[←hSM];decide+kernel
 subst c;clear hSM;go_name_bytes_deep 30 DG hDG;have b:DG=Lib.digits36:=by rw[←hDG];decide+kernel
 subst b;clear hDG;by_cases a:i<10
 ·have d:∀w,(Instr.slice 9 (.string Lib.digits36) (some (.int .i64 (i:Int))) (some (.int .i64 ((i:Int)+1))) none).run Tryz.prog w=.ok (.string (Lib.digits36.extract i (i+1))) w:=fun w=>by
   rw[run_slice_string w 9 Lib.digits36 .i64 .i64 _ _ Tryz.underlying9 (by omega) (by omega) (by rw[Lib.digits36_size];omega),show((i:Int)).toNat=i by omega,show((i:Int)+1).toNat=i+1 by omega]
  go_wp2;go_ret;refine⟨?_,rfl⟩;show Ending.returned (Value.string (Lib.digits36.extract i (i+1)))=_;rw[small_ba (Lib.digits36.extract i (i+1)) (Lib.decDigits i) (by rw[Lib.extract_data];exact Lib.digits36_piece a)]
 ·have d:∀w,(Instr.slice 9 (.string Lib.smalls) (some (.int .i64 ((i:Int)*2))) (some (.int .i64 ((i:Int)*2+2))) none).run Tryz.prog w=.ok (.string (Lib.smalls.extract (i*2) (i*2+2))) w:=fun w=>by
   rw[run_slice_string w 9 Lib.smalls .i64 .i64 _ _ Tryz.underlying9 (by omega) (by omega) (by rw[Lib.smalls_size];omega),show((i:Int)*2).toNat=i*2 by omega,show((i:Int)*2+2).toNat=i*2+2 by omega]
  go_wp2;go_ret;refine⟨?_,rfl⟩;show Ending.returned (Value.string (Lib.smalls.extract (i*2) (i*2+2)))=_;rw[small_ba (Lib.smalls.extract (i*2) (i*2+2)) (Lib.decDigits i) (by rw[Lib.extract_data];exact Lib.smalls_piece a h)]
theorem format_calls(i:Nat)(h:i<100)(w:World):Calls Tryz.prog 268 #[.int .i64 i,.int .i64 10] w fun e a=>e=.returned (.string ⟨(dig i).toArray⟩)∧a=w:=by
 have b:=Hd (small_calls i h);have c:decide ((0:Int)≤(i:Int))=true:=by simp
 have d:decide ((i:Int)<100)=true:=by simp;omega
 clear h;go_enter Tryz.func268,Tryz.ntmps268;go_wp2_with fail;refine(b.out _).mono ?_;rintro e a ⟨rfl,rfl⟩;go_wp2_with fail;go_ret;exact⟨rfl,rfl⟩
theorem iitoa_calls(i:Nat)(h:i<100)(w:World):Calls Tryz.prog 247 #[.int .i64 i] w fun e a=>e=.returned (.string ⟨(dig i).toArray⟩)∧a=w:=by
 go_enter Tryz.func247,Tryz.ntmps247;go_wp2_with fail;refine(format_calls i h _).mono ?_;rintro e a ⟨rfl,rfl⟩;go_wp2_with fail;go_ret;exact⟨rfl,rfl⟩
theorem itoa_calls(i:Nat)(h:i<100)(w:World):Calls Tryz.prog 208 #[.int .i64 i] w fun e a=>e=.returned (.string ⟨(dig i).toArray⟩)∧a=w:=by
 go_enter Tryz.func208,Tryz.ntmps208;go_wp2_with fail;refine(iitoa_calls i h _).mono ?_;rintro e a ⟨rfl,rfl⟩;go_wp2_with fail;go_ret;exact⟨rfl,rfl⟩
end Rf
namespace Rf
open Mem Rc Prob Lz
def RV(v:Value):Option (DataW Unit×List MemPlace):=match v with
 |.pointer (some ⟨q,0,none⟩)=>some (.lit (.int .i64 q),[])
 |_=>none
theorem RV_ptr(q:Nat):RV (ptr q)=some (.lit (.int .i64 q),[]):=rfl
theorem RV_inv{v:Value}{y:DataW Unit×List MemPlace}(h:RV v=some y):∃q:Nat,v=ptr q∧y=(.lit (.int .i64 q),[]):=by
 unfold RV at h;split at h
 ·rename_i q
  exact⟨q,rfl,(Option.some.inj h).symm⟩
 ·cases h
def datum(o:Option Ent)(zd:DataW Unit):DataW Unit:=match o with
 |none=>zd
 |some e=>.lit (.int .i64 e.b)
def KM(w:World)(M:Nat)(st:List Ent):Prop:=
 ∃D:DataW Unit,w.ownsMap Tryz.prog 9 RV M st.length D∧Maps.IsMap D∧∀s zd,D.atKey (.string s) zd=datum (look st s) zd
theorem KM.lt{w:World}{M:Nat}{st:List Ent}(h:KM w M st):M<w.heap.size:=by
 obtain⟨D,a,_⟩:=h;exact a.lt
theorem KM.step{S:Nat→Prop}{w w':World}{M:Nat}{st:List Ent}(h:KM w M st)(b:Fr S w w')(g:¬S M):KM w' M st:=by
 obtain⟨D,⟨c,a,i,F,j,f⟩,d,e⟩:=h;exact⟨D,⟨c,a,b.keep i g,F,j,f⟩,d,e⟩
theorem KM.made(w:World):KM (w.alloc (.map #[] 0)) w.heap.size []:=
 ⟨.map [],World.ownsMap_made w _ _ _,⟨[],rfl⟩,fun s a=>rfl⟩
theorem KM.put{w:World}{M:Nat}{st:List Ent}(h:KM w M st)(s:List UInt8)(L:List Nat):KM w M (putL st s L):=by
 obtain⟨D,a,b,c⟩:=h;refine⟨D,by unfold putL;rw[List.length_map];exact a,b,fun d f=> ?_⟩;rw[c,look_put];cases look st d with
 |none=>rfl
 |some e=>simp[datum,Ent.to_b]
abbrev bstr(s:List UInt8):Value:=.string ⟨s.toArray⟩
theorem key_of(s:List UInt8)(a:s.length≤maxLen):keyOf Tryz.prog 9 (bstr s)=some (.string s):=by
 have h:=WideMaps.keyOf_string_mk (P:=Tryz.prog) (s:=⟨s.toArray⟩) Tryz.underlying9 (show s.toArray.size≤maxLen by simpa using a);simpa using h
set_option maxRecDepth 100000 in
theorem KM.seek{w:World}{M:Nat}{st:List Ent}(h:KM w M st)(s:List UInt8)(m:s.length≤maxLen):(Instr.lookup 104 (.map (some M)) (bstr s) true).run Tryz.prog w=.ok (match look st s with
 |none=>.tuple #[.pointer none,.bool false]
 |some e=>.tuple #[ptr e.b,.bool true]) w:=by
 obtain⟨D,⟨r,f,k,F,n,rfl⟩,t,i⟩:=h;have o:(zeroValue 170).run Tryz.prog w=.ok (.pointer none) w:=by kernel_rfl
 have d:=i s;rcases Maps.fit_look true (Maps.string_keyed Tryz.underlying9) Tryz.underlying104 o k F (key_of s m) with⟨a,_,b⟩|⟨p,y,_,_,a,g,b,_⟩
 ·rw[a]
  cases hl:Rf.look st s with
  |none=>rfl
  |some e=>
    rw[hl] at d;have c:=d .nil;rw[b .nil] at c;cases c
 ·rw[a]
  obtain⟨q,l,rfl⟩:=RV_inv g;cases hl:Rf.look st s with
  |none=>
    rw[hl] at d;have c:=d .nil;rw[b .nil] at c;cases c
  |some e=>
    rw[hl] at d;have c:=d .nil;rw[b .nil] at c;simp only[datum,DataW.lit.injEq,Lit.int.injEq,true_and] at c;have j:q=e.b:=by omega
    simp only[if_true,l,j]
theorem KM.add{w w':World}{M:Nat}{st:List Ent}(e:Ent)(f:look st e.s=none){D:DataW Unit}(c:Maps.IsMap D)(d:∀s b,D.atKey (.string s) b=datum (look st s) b)(h:w'.ownsMap Tryz.prog 9 RV M (st.length+1) (D.put (.string e.s) (.lit (.int .i64 e.b)))):KM w' M (st++[e]):=by
 refine⟨_,by rw[List.length_append];exact h,c.put _ _,fun s b=> ?_⟩;rw[look_add _ _ _ f];by_cases a:e.s=s
 ·rw[if_pos a]
  subst a;exact Maps.atKey_put_same c (by trivial) _ _
 ·rw[if_neg a,Maps.atKey_put_other (by simpa using fun h=>a h.symm),d]
structure SetsAt(w:World)(M:Nat)(st:List Ent):Prop where
 km:KM w M st
 at':∀e ∈ st,RSet w e.b e.g e.L
 inj:∀e ∈ st,∀f ∈ st,e.g=f.g→e.s=f.s
def SF(M:Nat)(st:List Ent)(k:Nat):Prop:=k=M∨∃e ∈ st,k=e.b∨k=e.g
theorem SetsAt.old{w:World}{M:Nat}{st:List Ent}(h:SetsAt w M st):∀k,SF M st k→k<w.heap.size:=by
 rintro k (rfl|⟨e,a,rfl|rfl⟩)
 ·exact h.km.lt
 ·exact(h.at' e a).lt.1
 ·exact(h.at' e a).lt.2
theorem SetsAt.step{S:Nat→Prop}{w w':World}{M:Nat}{st:List Ent}(h:SetsAt w M st)(a:Fr S w w')(b:∀k,SF M st k→¬S k):SetsAt w' M st:=
 ⟨h.km.step a (b _ (.inl rfl)),fun e c=>(h.at' e c).step a (b _ (.inr ⟨e,c,.inl rfl⟩)) (b _ (.inr ⟨e,c,.inr rfl⟩)),h.inj⟩
theorem SF_put(M:Nat)(st:List Ent)(s:List UInt8)(L:List Nat)(k:Nat):SF M (putL st s L) k↔SF M st k:=by
 unfold SF putL;constructor
 ·rintro(h|⟨e,a,h⟩)
  ·exact .inl h
  ·obtain⟨f,b,rfl⟩:=List.mem_map.1 a
   rw[Ent.to_b,Ent.to_g] at h;exact .inr ⟨f,b,h⟩
 ·rintro(h|⟨e,a,h⟩)
  ·exact .inl h
  ·refine .inr ⟨e.to s L,List.mem_map.2 ⟨e,a,rfl⟩,?_⟩
   rw[Ent.to_b,Ent.to_g];exact h
theorem SetsAt.off{w:World}{M:Nat}{st:List Ent}(h:SetsAt w M st){k:Nat}{g:Array Value}{t:TypeId}{fr:Nat×Nat}(b:w.heap[k]? =some (.cells g t fr))(i:t≠250)(j:t≠3):¬SF M st k:=by
 rintro(rfl|⟨e,f,rfl|rfl⟩)
 ·obtain⟨D,⟨l,c,d,_⟩,_⟩:=h.km
  rw[b] at d;cases d
 ·obtain⟨_,a⟩:=(h.at' e f).box
  rw[a] at b;simp only[Option.some.injEq,Obj.cells.injEq] at b;exact i b.2.1.symm
 ·obtain⟨_,a⟩:=(h.at' e f).row
  rw[a] at b;simp only[Option.some.injEq,Obj.cells.injEq] at b;exact j b.2.1.symm
theorem SetsAt.add{w w':World}{M:Nat}{st:List Ent}(h:SetsAt w M st){e:Ent}(j:Fr (fun k=>k=M) w w')(p:KM w' M (st++[e]))(q:RSet w' e.b e.g e.L)(d:w.heap.size≤e.b∧w.heap.size≤e.g∨(∀f ∈ st,f.g≠e.g)):SetsAt w' M (st++[e]):=by
 have o:∀f ∈ st,f.g≠e.g:=by
  rcases d with d|d
  ·intro f a s
   have:=(h.at' f a).lt;omega
  ·exact d
 refine⟨p,fun f a=> ?_,fun f a m i l=> ?_⟩
 ·rcases List.mem_append.1 a with a|a
  ·obtain⟨D,⟨r,g,n,_⟩,_⟩:=h.km
   refine(h.at' f a).step j (fun(h1:f.b=M)=> ?_) (fun(h1:f.g=M)=> ?_)
   ·obtain⟨_,this⟩:=(h.at' f a).box
    rw[h1,n] at this;cases this
   ·obtain⟨_,this⟩:=(h.at' f a).row
    rw[h1,n] at this;cases this
  ·obtain rfl:=List.mem_singleton.1 a
   exact q
 ·rcases List.mem_append.1 a with b|b<;>rcases List.mem_append.1 i with c|c
  ·exact h.inj f b m c l
  ·obtain rfl:=List.mem_singleton.1 c
   exact absurd l (o f b)
  ·obtain rfl:=List.mem_singleton.1 b
   exact absurd l.symm (o m c)
  ·obtain rfl:=List.mem_singleton.1 b
   obtain rfl:=List.mem_singleton.1 c;rfl
end Rf
namespace Rf
open Mem Rc Prob St Lz Win
structure RL where
 X:Nat
 K:Nat
 Q:Nat
 V:Nat
 M:Nat
 ev:Value
 bv:Value
 av:Value
 st:List Ent
def kV(l:RL)(c:C):Array Value:=#[.int .i64 c.lc,.int .i64 c.lp,.int .i64 c.pb,ptr l.V,.int .i64 c.s.num,.int .i64 c.s.r0,.int .i64 c.s.r1,.int .i64 c.s.r2,.int .i64 c.s.r3,.map (some l.M),l.ev]
structure Cod(w:World)(l:RL)(c:C)(ps:Nat→List Nat):Prop where
 k:w.heap[l.K]? =some (.cells (kV l c) 107 (0,0))
 v:w.heap[l.V]? =some (.cells #[.int .i64 c.size,l.av] 246 (0,0))
 all:w.ownsRow 0 5 1 l.av c.all.length (bvs c.all)
 sets:SetsAt w l.M l.st
 has:Has l.st ps
 okc:c.Ok
 len:∀j,j<18→(ps j).length=Lz.rowLen c.lc c.lp j
 okp:∀j,j<18→okP (ps j)
 size:1≤c.size
 much:c.all.length≤70368744177664
def RL.CF(l:RL)(k:Nat):Prop:=k=l.K∨k=l.V∨l.av.ownBlock=some k∨SF l.M l.st k
theorem Cod.step{S:Nat→Prop}{w w':World}{l:RL}{c:C}{ps:Nat→List Nat}(h:Cod w l c ps)(a:Fr S w w')(b:∀k,l.CF k→¬S k):Cod w' l c ps:=
 ⟨a.keep h.k (b _ (.inl rfl)),a.keep h.v (b _ (.inr (.inl rfl))),own_step h.all a (fun k d=>b k (.inr (.inr (.inl d)))),h.sets.step a (fun k d=>b k (.inr (.inr (.inr d)))),h.has,h.okc,h.len,h.okp,h.size,h.much⟩
theorem Cod.old{w:World}{l:RL}{c:C}{ps:Nat→List Nat}(h:Cod w l c ps):∀k,l.CF k→k<w.heap.size:=by
 rintro k (rfl|rfl|a|a)
 ·exact lt_of_block h.k
 ·exact lt_of_block h.v
 ·exact(World.ownsRow.lt h.all k a).2
 ·exact h.sets.old k a
theorem Cod.sfK{w:World}{l:RL}{c:C}{ps:Nat→List Nat}(h:Cod w l c ps):¬SF l.M l.st l.K:=h.sets.off h.k (by decide) (by decide)
theorem Cod.sfV{w:World}{l:RL}{c:C}{ps:Nat→List Nat}(h:Cod w l c ps):¬SF l.M l.st l.V:=h.sets.off h.v (by decide) (by decide)
theorem Cod.sfA{w:World}{l:RL}{c:C}{ps:Nat→List Nat}(h:Cod w l c ps):∀k,l.av.ownBlock=some k→¬SF l.M l.st k:=by
 intro k d;obtain⟨a,b⟩:=own_block h.all d;exact h.sets.off b (by decide) (by decide)
theorem Cod.sets'{w w':World}{l:RL}{c:C}{ps a:Nat→List Nat}{d:List Ent}(h:Cod w l c ps)(b:Fr (SF l.M l.st) w w')(i:SetsAt w' l.M d)(e:Has d a)(f:∀j,j<18→(a j).length=Lz.rowLen c.lc c.lp j)(g:∀j,j<18→okP (a j)):Cod w' {l with st:=d} c a:=
 ⟨b.keep h.k h.sfK,b.keep h.v h.sfV,own_step h.all b h.sfA,i,e,h.okc,f,g,h.size,h.much⟩
theorem blk_ne{w:World}{i j:Nat}{a b:Array Value}{s t:TypeId}{f g:Nat×Nat}(d:w.heap[i]? =some (.cells a s f))(c:w.heap[j]? =some (.cells b t g))(e:s≠t):i≠j:=by
 rintro rfl;rw[d] at c;simp only[Option.some.injEq,Obj.cells.injEq] at c;exact e c.2.1
end Rf
namespace Rf
open Mem Rc Prob St Lz Win
theorem two_calls(n:Nat)(f:n≤62)(w:World):Calls Tryz.prog 207 #[.int .i64 n] w fun e c=>e=.returned (.int .i64 ((2^n:Nat):Int))∧w=c:=by
 go_enter Tryz.func207,Tryz.ntmps207;go_wp2_with fail;go_loopw [3,4](fun v i wr=>∃k:Nat,k≤n∧i=.int .i64 k∧v=.int .i64 ((2^k:Nat):Int)∧wr=w) (fun _ i _=>n-(intOf i).toNat);case atStart=>exact⟨0,by omega,rfl,rfl,rfl⟩
 case round=>
  obtain⟨k,d,rfl,rfl,rfl⟩:=hrel;by_cases b:k<n
  ·have g:2^k≤2305843009213693952:=Nat.le_trans (Nat.pow_le_pow_right (by omega) (show k≤61 by omega)) (by decide)
   have a:((2^(k+1):Nat):Int)=2*((2^k:Nat):Int):=by rw[Nat.pow_succ];omega
   generalize h:2^k=q at*;go_wp2_with fail;go_roundw;case rel=>exact⟨k+1,by omega,by go_num,by rw[a],by first|rfl|trivial⟩
   case measure=>simp[intOf];omega
  ·obtain rfl:k=n:=by omega
   go_wp2_with fail;go_ret;exact⟨rfl,rfl⟩
theorem num_len(s:List UInt8)(n:Nat):(num s n).length≤s.length+3:=by
 unfold num dig;split<;>simp
theorem name_calls(s:List UInt8)(n B:Nat)(k:s.length≤1000)(d:n<100)(w:World)(a:w.heap[B]? =some (.cells #[.int .i64 n] 3 (0,0))):Calls Tryz.prog 143 #[bstr s,.slice (some ⟨B,0,none⟩) 1 1] w fun e b=>e=.returned (bstr (num s n))∧w=b:=by
 have c:=Hd (itoa_calls n d w);have h:(s++[32]).length≤1001:=by simp;omega
 have j:(dig n).length≤2:=by unfold dig;split<;>simp
 have l:=run_string_add_lists (P:=Tryz.prog) w s [32] (by omega) (by simp);have f:=run_string_add_lists (P:=Tryz.prog) w (s++[32]) (dig n) (by omega) (by omega);have e:s++[32]++dig n=num s n:=by simp[num]
 have g:w.cell? ⟨B,0,none⟩=some (.int .i64 n):=cell_in a rfl;rw[e] at f;clear a;go_enter Tryz.func143,Tryz.ntmps143;go_wp2_with fail;go_loopw [0,5] (fun v i wr=>(i=.int .i64 0∧v=bstr s∨i=.int .i64 1∧v=bstr (num s n))∧wr=w) (fun _ i _=>1-(intOf i).toNat);case atStart=>exact⟨.inl ⟨rfl,rfl⟩,rfl⟩
 case round=>
  obtain⟨⟨rfl,rfl⟩|⟨rfl,rfl⟩,rfl⟩:=hrel
  ·go_wp2_with fail
   refine c.out.mono ?_;rintro e b ⟨rfl,rfl⟩;go_wp2_with fail;go_roundw;case rel=>exact⟨.inr ⟨rfl,rfl⟩,by first|rfl|trivial⟩
   case measure=>simp[intOf]
  ·go_wp2_with fail
   go_ret;exact⟨rfl,rfl⟩
structure CodC(w:World)(l:RL)(c:C):Prop where
 p0:w.cell? ⟨l.K,0,none⟩=some (.int .i64 c.lc)
 p1:w.cell? ⟨l.K,1,none⟩=some (.int .i64 c.lp)
 p2:w.cell? ⟨l.K,2,none⟩=some (.int .i64 c.pb)
 p3:w.cell? ⟨l.K,3,none⟩=some (ptr l.V)
 p4:w.cell? ⟨l.K,4,none⟩=some (.int .i64 c.s.num)
 p5:w.cell? ⟨l.K,5,none⟩=some (.int .i64 c.s.r0)
 p6:w.cell? ⟨l.K,6,none⟩=some (.int .i64 c.s.r1)
 p7:w.cell? ⟨l.K,7,none⟩=some (.int .i64 c.s.r2)
 p8:w.cell? ⟨l.K,8,none⟩=some (.int .i64 c.s.r3)
 p9:w.cell? ⟨l.K,9,none⟩=some (.map (some l.M))
 v0:w.cell? ⟨l.V,0,none⟩=some (.int .i64 c.size)
 v1:w.cell? ⟨l.V,1,none⟩=some l.av
theorem Cod.cells{w:World}{l:RL}{c:C}{ps:Nat→List Nat}(h:Cod w l c ps):CodC w l c:=
 ⟨cell_in h.k rfl,cell_in h.k rfl,cell_in h.k rfl,cell_in h.k rfl,cell_in h.k rfl,cell_in h.k rfl,cell_in h.k rfl,cell_in h.k rfl,cell_in h.k rfl,cell_in h.k rfl,cell_in h.v rfl,cell_in h.v rfl⟩
theorem Cod.keep{w w':World}{l:RL}{c:C}{ps:Nat→List Nat}(h:Cod w l c ps)(a:Fr (fun _=>False) w w'):Cod w' l c ps:=h.step a (fun _ _ h=>h)
theorem Cod.slice{w:World}{l:RL}{c:C}{ps:Nat→List Nat}(h:Cod w l c ps):∃p cap,l.av=.slice p c.all.length cap:=own_slice h.all
theorem Cod.rd{w:World}{l:RL}{c:C}{ps:Nat→List Nat}(h:Cod w l c ps):Rd w l.av c.all:=Rd.of_own h.all
theorem place_calls{l:RL}{c:C}{ps:Nat→List Nat}{w:World}(h:Cod w l c ps):Calls Tryz.prog 142 #[ptr l.K] w fun e k=>e=.returned (.int .i64 c.place)∧∃m,k=w.drewN m:=by
 obtain⟨p,d,a⟩:=h.slice;obtain⟨r,s,t,u,v,x,y,z,A,B,D,j⟩:=h.cells;rw[a] at j;have b:=h.okc.pb;have g:=fun W=>Hd (two_calls c.pb (by omega) W);have o:2^c.pb≤16:=Nat.pow_le_pow_right (n:=2) (by omega) b;have i:=Nat.two_pow_pos c.pb;have f:(c.place:Int)=(c.all.length:Int)%((2^c.pb:Nat):Int):=by unfold C.place;omega
 have H:=Hd h;clear h;generalize 2^c.pb=q at*;go_enter Tryz.func142,Tryz.ntmps142;go_wp2_with fail;go_quiet (exact quiet_left (g _).out);go_wp2_with fail;go_ret;exact⟨by rw[f];rfl,_,rfl⟩
theorem lastB_one{c:C}(d:1≤c.size){n:Nat}(b:c.all.length=n+1){x:UInt8}(a:c.all[n]? =some x):c.lastB 1=x.toNat:=by
 unfold C.lastB Win.last;rw[if_pos ⟨by omega,by omega⟩];simp only;rw[show c.all.length-1=n by omega,List.getD_eq_getElem?_getD,a];rfl
set_option maxRecDepth 100000 in
theorem literal_name{l:RL}{c:C}{ps:Nat→List Nat}{w:World}(h:Cod w l c ps):Calls Tryz.prog 209 #[ptr l.K] w fun e w'=>e=.returned (bstr (num sLiteral (C.lit c)))∧Fr (fun _=>False) w w':=by
 obtain⟨p,S,r⟩:=h.slice;have v:=h.rd;obtain⟨F,G,I,J,K,L,M,N,O,P,Q,g⟩:=h.cells;rw[r] at g v;have hl:=h.okc.l;have D:=lit_16 h.okc;have b:=h.much;have j:=fun W=>Hd (two_calls c.lp (by omega) W);have o:=fun W=>Hd (two_calls c.lc (by omega) W);have q:=fun W=>Hd (two_calls (8-c.lc) (by omega) W);have e8:(8:Int)-(c.lc:Int)=((8-c.lc:Nat):Int):=by omega
 have a:C.lit c=c.all.length%2^c.lp*2^c.lc+c.lastB 1/2^(8-c.lc):=rfl;have a2:=Nat.two_pow_pos c.lp;have a3:=Nat.two_pow_pos (8-c.lc);have B:=h.size;have H:=Hd h;have z:=lastB_lt c 1;clear h;generalize hk:C.lit c=k at*;cases hn:c.all.length with
 |zero=>
   have s:c.lastB 1=0:=by
    unfold C.lastB Win.last;rw[if_neg (by omega)]
   rw[hn] at a g b;rw[s] at a;rw[Nat.zero_mod,Nat.zero_mul,Nat.zero_div] at a;have u:decide (((0:Nat):Int)>0)=false:=by decide
   have f:decide ((0:Int)<((0:Nat):Int))=false:=by decide
   generalize 2^c.lp=q1 at*;generalize 2^c.lc=q2 at*;generalize 2^(8-c.lc)=q3 at*;go_enter Tryz.func209,Tryz.ntmps209;go_wp2_with fail;go_quiet (first|(with_reducible exact quiet_left (j _).out)|(with_reducible exact quiet_left (o _).out)|(with_reducible exact quiet_left (q _).out));go_wp2_with fail;have i:=fun(W:World)(hB:W.heap[w.heap.size]? =some (.cells #[.int .i64 0] 3 (0,0)))=>Hd (name_calls sLiteral k w.heap.size (by decide) (by omega) W (by rw[hB,a];rfl));refine(i _ (heap_alloc_new (w.drewN nq) _)).out.mono ?_;rintro e w3 ⟨rfl,rfl⟩;have d:=Hd (((R0 w).drewN nq).alloc (.cells #[.int .i64 0] 3));clear i;go_wp2_with fail;go_ret;exact⟨by rw[a];rfl,d.out⟩
 |succ n=>
   obtain⟨x,E⟩:∃x,c.all[n]? =some x:=⟨c.all[n]'(by omega),by simp⟩;have t:=lastB_one B hn E;obtain⟨b',o',A,V⟩:=Win.byte_at v E;rw[hn] at a g b;rw[t] at a z;generalize x.toNat=xv at*;have en:((n+1:Nat):Int)-1=(n:Int):=by omega
   have u:decide (((n+1:Nat):Int)>0)=true:=by rw[decide_eq_true_eq];omega
   have f:decide ((0:Int)<((n+1:Nat):Int))=true:=by rw[decide_eq_true_eq];omega
   have Z:(0:Int)≤(n:Int):=by omega
   have a0:(n:Int)<((n+1:Nat):Int):=by omega
   subst A;generalize hm:n+1=m at*;have em:(m:Int)-1=(n:Int):=by omega
   generalize 2^c.lp=q1 at*;generalize 2^c.lc=q2 at*;generalize 2^(8-c.lc)=q3 at*;have U:((m%q1*q2:Nat):Int)=(m:Int)%(q1:Int)*(q2:Int):=by rw[Int.natCast_mul];rfl
   have f2:((xv/q3:Nat):Int)=(xv:Int)/(q3:Int):=rfl;have a1:m%q1*q2<16:=by
    have:=Nat.zero_le (xv/q3);omega
   have a4:xv/q3<16:=by omega
   have w1:IntKind.i64.wrap ((m:Int)%(q1:Int)*(q2:Int))=((m%q1*q2:Nat):Int):=by rw[←U];exact IntWalk.i64_in _ (by omega)
   generalize X:m%q1*q2=g1 at*;generalize Y:xv/q3=g2 at*;go_enter Tryz.func209,Tryz.ntmps209;go_wp2_with fail;go_quiet (fail);go_wp2_with fail;have R:=Hd (H.out.keep ((Fr.refl _ w).drewN nq));have y:=Hd ((R0 w).drewN nq);generalize w.drewN nq=w2 at*;clear F G I J K L M N O P Q g V;obtain⟨F,G,I,J,K,L,M,N,O,P,Q,g⟩:=R.out.cells;rw[r,hn] at g;go_quiet (first|(with_reducible exact quiet_left (j _).out)|(with_reducible exact quiet_left (o _).out)|(with_reducible exact quiet_left (q _).out));go_wp2_with fail;have T:(m:Int)%(q1:Int)*(q2:Int)+(xv:Int)/(q3:Int)=(k:Int):=by rw[a];omega
   have i:=fun(W:World)(hB:W.heap[w2.heap.size]? =some (.cells #[.int .i64 ((m:Int)%(q1:Int)*(q2:Int)+(xv:Int)/(q3:Int))] 3 (0,0)))=>Hd (name_calls sLiteral k w2.heap.size (by decide) (by omega) W (by rw[hB,T]));refine(i _ (heap_alloc_new (w2.drewN nq) _)).out.mono ?_;rintro e w3 ⟨rfl,rfl⟩;have d:=Hd (y.out.trans (((R0 w2).drewN nq).alloc (.cells #[.int .i64 ((m:Int)%(q1:Int)*(q2:Int)+(xv:Int)/(q3:Int))] 3)));clear i;go_wp2_with fail;rename_i vv heq;obtain rfl:=Ending.returned.inj heq;go_ret;exact⟨rfl,d.out⟩
end Rf
namespace Rf
open Mem Rc St Lz En Ga
def Nb.cells:Nb→List Value
 |.bit a i b=>[bstr a.str,.int .i64 i,.int .i64 b]
 |.half b=>[bstr [],.int .i64 0,.int .i64 b]
def nbs(l:List Nb):List Value:=l.flatMap Nb.cells
theorem nbs_append(l m:List Nb):nbs (l++m)=nbs l++nbs m:=by simp[nbs]
theorem nbs_len:∀l:List Nb,(nbs l).length=l.length*3
 |[]=>rfl
 |x::l=>by
   have a:=nbs_len l;unfold nbs at*;rw[List.flatMap_cons,List.length_append,a,List.length_cons];cases x<;>simp[Nb.cells]<;>omega
theorem nbs_one(l:List Nb):∀u ∈ nbs l,u.oneCell'=true:=by
 intro u d;obtain⟨x,_,c⟩:=List.mem_flatMap.1 d;cases x with
 |bit a i b=>
   simp only[Nb.cells,List.mem_cons,List.not_mem_nil,or_false] at c;rcases c with rfl|rfl|rfl<;>rfl
 |half b=>
   simp only[Nb.cells,List.mem_cons,List.not_mem_nil,or_false] at c;rcases c with rfl|rfl|rfl<;>rfl
def BL(w0 w:World)(v:Value)(l:List Nb):Prop:=Own 178 3 w0 w v l.length (nbs l)
theorem BL.nil(w0 w:World):BL w0 w (.slice none 0 0) []:=Own.nil _ _ _ _
theorem BL.keep{w0 w w':World}{v:Value}{l:List Nb}(h:BL w0 w v l)(a:Fr (fun _=>False) w w'):BL w0 w' v l:=Own.keep h a
theorem BL.older{a w0 w:World}{v:Value}{l:List Nb}(h:BL w0 w v l)(c:a.heap.size≤w0.heap.size):BL a w v l:=⟨h.own,fun k b=>Nat.le_trans c (h.new k b)⟩
theorem BL.slice{w0 w:World}{v:Value}{l:List Nb}(h:BL w0 w v l):∃p cap,v=.slice p l.length cap:=Own.slice h
theorem BL.made{w0 w:World}{B n:Nat}{l:List Nb}(b:w.heap[B]? =some (.cells (nbs l).toArray 178 (0,0)))(d:n=l.length)(a:w0.heap.size≤B)(e:l.length≤1000):BL w0 w (.slice (some ⟨B,0,none⟩) n n) l:=by
 subst d;refine⟨⟨nbs_len l,.inr ⟨B,l.length,(nbs l).toArray,rfl,?_,b,Nat.le_refl _,?_,?_,?_⟩⟩,fun k c=> ?_⟩
 ·omega
 ·simp only[maxLen]
  omega
 ·rw[List.size_toArray,nbs_len]
 ·rw[List.take_of_length_le (by rw[nbs_len];exact Nat.le_refl _)]
 ·rw[←Option.some.inj c]
  exact a
theorem infoBit:(Tryz.prog.info? 178).map (fun i=>(i.zero,i.size,i.bytes))=some (some (.agg #[.string ⟨#[]⟩,.int .i64 0,.int .i64 0]),3,32):=by kernel_rfl
theorem append_bits{g:Array Oper}{rest:List Oper}{o:Oper}{a:Act}{Q:Exit→Act→World→Prop}(j:o.guard=none)(s y:Operand)
 (A:o.op=.call {callee:=.builtin .append,args:=#[s,y],argTypes:=#[174,174]}){w0 w:World}(v x:Value)(l m:List Nb)(hv:a.eval s=v)(hx:a.eval y=x)(hm:BL w0 w v l)(hm2:BL w0 w x m)(hle:w0.heap.size≤w.heap.size)
 (hb:l.length+m.length≤100000)
 (h:∀p c n d,n=(l++m).length→BL w0 d (.slice p n c) (l++m)→Fr (fun k=>v.ownBlock=some k) w d→wpList Tryz.prog g Q rest (a.put o.dst (.slice p n c)) d):
 wpList Tryz.prog g Q (o::rest) a w:=by
 obtain⟨B,u,q,r,t⟩:=info_parts infoBit;refine wpList_append_any w j s y 174 174 A 178 B _ 3 32 Tryz.underlying174 u q r t rfl (by decide) v l.length (nbs l) hv hm.own x m.length (nbs m) hx (src_own w Tryz.underlying174 hm2.own (nbs_one m)) (by simp only[maxLen];omega) (by omega) ?_;intro C d f i e _;have b:BL w0 d C (l++m):=⟨by rw[List.length_append,nbs_append];exact f,fun k z=>by
  rcases e k z with h|h
  ·exact hm.new k h
  ·omega⟩
 obtain⟨p,c,rfl⟩:=b.slice;exact h p c _ d rfl b i
end Rf
end Go.Proofs.YtffoddpjfgjelaaGreatDoor
