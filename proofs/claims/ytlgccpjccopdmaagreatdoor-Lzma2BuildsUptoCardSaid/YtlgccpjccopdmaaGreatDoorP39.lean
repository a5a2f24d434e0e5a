/- Part 39 of 54: lemmas of the last part, each under the conditions that it names. -/
import Derived.Shelf.Strconv.Itoa1
import Derived.Maps.Own
import Derived.Maps.Views
import Derived.StringKeys
import Derived.Laws.Concat
import Derived.Test.YtlgccpjccopdmaaGreatDoorP08
import Derived.Test.YtlgccpjccopdmaaGreatDoorP16
import Derived.Test.YtlgccpjccopdmaaGreatDoorP18
import Derived.Test.YtlgccpjccopdmaaGreatDoorP22
import Derived.Test.YtlgccpjccopdmaaGreatDoorP26
import Derived.Test.YtlgccpjccopdmaaGreatDoorP31
import Derived.Test.YtlgccpjccopdmaaGreatDoorP38
set_option linter.unusedVariables false
set_option linter.unusedSimpArgs false
set_option maxRecDepth 1500
set_option maxHeartbeats 16000000
namespace Go.Proofs.YtlgccpjccopdmaaGreatDoor
open Go.RowKit
namespace Pa
open Mem Win Ga Lz St En
theorem cost_le:∀(l:List Pz)(q:Pz),q ∈ l→q.cost≤costs l
 |[],q,h=>by simp at h
 |p::l,q,h=>by
   rw[costs]
   rcases List.mem_cons.1 h with rfl|h
   ·omega
   ·have:=cost_le l q h
    omega
theorem costs_len:∀l:List Pz,11*l.length≤costs l
 |[]=>Nat.zero_le _
 |p::l=>by
   have:=costs_len l
   rw[costs,List.length_cons]
   unfold Pz.cost
   omega
theorem build_out(dict:Int)(l:List Pz)(lv:Value)(w:World)(h:dict<1∨4294967295<dict):Calls Tryz.prog 17 #[.int .i64 dict,lv] w (BuildPost w (.error 7)):=by
 have HNW:=Hd (enew_out dict w h)
 clear h
 go_enter Tryz.func17,Tryz.ntmps17
 go_wp2_with fail
 refine HNW.out.mono ?_
 rintro e w1 ⟨hf1,rfl⟩
 have HP:=Hd (show BuildPost w (.error 7) (.returned (.tuple #[.slice none 0 0,.int .i64 7])) w1 from⟨hf1,by decide,rfl⟩)
 clear hf1
 go_wp2_with fail
 go_ret2
 exact HP.out
theorem build_calls(dict:Int)(l:List Pz)(lv:Value)(w:World)(hT:Tabs w)(hM:Ck.Moves w)(hr:RdP w lv l)(hwf:∀p ∈ l,p.Wf)(hc:costs l≤11534336):
 Calls Tryz.prog 17 #[.int .i64 dict,lv] w (BuildPost w (buildP dict l)):=by
 by_cases h:dict<1∨4294967295<dict
 ·have e:buildP dict l=.error 7:=by unfold buildP;rw[if_pos h]
  rw[e]
  exact build_out dict l lv w h
 ·obtain⟨n,rfl⟩:=Int.eq_ofNat_of_zero_le (show 0≤dict by omega)
  exact build_in n l lv w (by omega) (by omega) hT hM hr hwf (by have:=costs_len l;omega) (by omega)
end Pa
namespace Rf
open Mem
theorem small_ba(b:ByteArray)(l:List UInt8)(h:b.data.toList=l):b=⟨l.toArray⟩:=by
 subst h
 cases b
 simp
set_option maxRecDepth 100000 in
theorem small_calls(i:Nat)(h:i<100)(w:World):Calls Tryz.prog 238 #[.int .i64 i] w fun e w'=>e=.returned (.string ⟨(dig i).toArray⟩)∧w'=w:=by
 rw[←dig_eq i h]
 go_enter Tryz.func238,Tryz.ntmps238
 go_name_bytes_deep 45 SM hSM
 have eSM:SM=Lib.smalls:=by rw[←hSM];decide+kernel
 subst eSM
 clear hSM
 go_name_bytes_deep 30 DG hDG
 have eDG:DG=Lib.digits36:=by rw[←hDG];decide+kernel
 subst eDG
 clear hDG
 by_cases h10:i<10
 ·have hsl:∀w,(Instr.slice 9 (.string Lib.digits36) (some (.int .i64 (i:Int))) (some (.int .i64 ((i:Int)+1))) none).run Tryz.prog w=.ok (.string (Lib.digits36.extract i (i+1))) w:=fun w=>by
   rw[run_slice_string w 9 Lib.digits36 .i64 .i64 _ _ Tryz.underlying9 (by omega) (by omega) (by rw[Lib.digits36_size];omega),show((i:Int)).toNat=i by omega,show((i:Int)+1).toNat=i+1 by omega]
  go_wp2
  go_ret
  refine⟨?_,rfl⟩
  show Ending.returned (Value.string (Lib.digits36.extract i (i+1)))=_
  rw[small_ba (Lib.digits36.extract i (i+1)) (Lib.decDigits i) (by rw[Lib.extract_data];exact Lib.digits36_piece h10)]
 ·have hsl:∀w,(Instr.slice 9 (.string Lib.smalls) (some (.int .i64 ((i:Int)*2))) (some (.int .i64 ((i:Int)*2+2))) none).run Tryz.prog w=.ok (.string (Lib.smalls.extract (i*2) (i*2+2))) w:=fun w=>by
   rw[run_slice_string w 9 Lib.smalls .i64 .i64 _ _ Tryz.underlying9 (by omega) (by omega) (by rw[Lib.smalls_size];omega),show((i:Int)*2).toNat=i*2 by omega,show((i:Int)*2+2).toNat=i*2+2 by omega]
  go_wp2
  go_ret
  refine⟨?_,rfl⟩
  show Ending.returned (Value.string (Lib.smalls.extract (i*2) (i*2+2)))=_
  rw[small_ba (Lib.smalls.extract (i*2) (i*2+2)) (Lib.decDigits i) (by rw[Lib.extract_data];exact Lib.smalls_piece h10 h)]
theorem format_calls(i:Nat)(h:i<100)(w:World):Calls Tryz.prog 228 #[.int .i64 i,.int .i64 10] w fun e w'=>e=.returned (.string ⟨(dig i).toArray⟩)∧w'=w:=by
 have HS:=Hd (small_calls i h)
 have t1:decide ((0:Int)≤(i:Int))=true:=by simp
 have t2:decide ((i:Int)<100)=true:=by simp;omega
 clear h
 go_enter Tryz.func228,Tryz.ntmps228
 go_wp2_with fail
 refine(HS.out _).mono ?_
 rintro e w' ⟨rfl,rfl⟩
 go_wp2_with fail
 go_ret
 exact⟨rfl,rfl⟩
theorem iitoa_calls(i:Nat)(h:i<100)(w:World):Calls Tryz.prog 212 #[.int .i64 i] w fun e w'=>e=.returned (.string ⟨(dig i).toArray⟩)∧w'=w:=by
 go_enter Tryz.func212,Tryz.ntmps212
 go_wp2_with fail
 refine(format_calls i h _).mono ?_
 rintro e w' ⟨rfl,rfl⟩
 go_wp2_with fail
 go_ret
 exact⟨rfl,rfl⟩
theorem itoa_calls(i:Nat)(h:i<100)(w:World):Calls Tryz.prog 181 #[.int .i64 i] w fun e w'=>e=.returned (.string ⟨(dig i).toArray⟩)∧w'=w:=by
 go_enter Tryz.func181,Tryz.ntmps181
 go_wp2_with fail
 refine(iitoa_calls i h _).mono ?_
 rintro e w' ⟨rfl,rfl⟩
 go_wp2_with fail
 go_ret
 exact⟨rfl,rfl⟩
end Rf
namespace Rf
open Mem Rc Prob Lz
def RV(v:Value):Option (DataW Unit×List MemPlace):=match v with
 |.pointer (some ⟨q,0,none⟩)=>some (.lit (.int .i64 q),[])
 |_=>none
theorem RV_ptr(q:Nat):RV (ptr q)=some (.lit (.int .i64 q),[]):=rfl
theorem RV_inv{v:Value}{y:DataW Unit×List MemPlace}(h:RV v=some y):∃q:Nat,v=ptr q∧y=(.lit (.int .i64 q),[]):=by
 unfold RV at h
 split at h
 ·rename_i q
  exact⟨q,rfl,(Option.some.inj h).symm⟩
 ·cases h
def datum(o:Option Ent)(zd:DataW Unit):DataW Unit:=match o with
 |none=>zd
 |some e=>.lit (.int .i64 e.b)
def KM(w:World)(M:Nat)(st:List Ent):Prop:=
 ∃D:DataW Unit,w.ownsMap Tryz.prog 9 RV M st.length D∧Maps.IsMap D∧∀s zd,D.atKey (.string s) zd=datum (look st s) zd
theorem KM.lt{w:World}{M:Nat}{st:List Ent}(h:KM w M st):M<w.heap.size:=by
 obtain⟨D,h1,_⟩:=h
 exact h1.lt
theorem KM.step{S:Nat→Prop}{w w':World}{M:Nat}{st:List Ent}(h:KM w M st)(hfr:Fr S w w')(hM:¬S M):KM w' M st:=by
 obtain⟨D,⟨es,clock,hb,F,hs,hD⟩,h2,h3⟩:=h
 exact⟨D,⟨es,clock,hfr.keep hb hM,F,hs,hD⟩,h2,h3⟩
theorem KM.made(w:World):KM (w.alloc (.map #[] 0)) w.heap.size []:=
 ⟨.map [],World.ownsMap_made w _ _ _,⟨[],rfl⟩,fun s zd=>rfl⟩
theorem KM.put{w:World}{M:Nat}{st:List Ent}(h:KM w M st)(s:List UInt8)(L:List Nat):KM w M (putL st s L):=by
 obtain⟨D,h1,h2,h3⟩:=h
 refine⟨D,by unfold putL;rw[List.length_map];exact h1,h2,fun s' zd=> ?_⟩
 rw[h3,look_put]
 cases look st s' with
 |none=>rfl
 |some e=>simp[datum,Ent.to_b]
abbrev bstr(s:List UInt8):Value:=.string ⟨s.toArray⟩
theorem key_of(s:List UInt8)(hs:s.length≤maxLen):keyOf Tryz.prog 9 (bstr s)=some (.string s):=by
 have h:=WideMaps.keyOf_string_mk (P:=Tryz.prog) (s:=⟨s.toArray⟩) Tryz.underlying9 (show s.toArray.size≤maxLen by simpa using hs)
 simpa using h
set_option maxRecDepth 100000 in
theorem KM.seek{w:World}{M:Nat}{st:List Ent}(h:KM w M st)(s:List UInt8)(hs:s.length≤maxLen):(Instr.lookup 90 (.map (some M)) (bstr s) true).run Tryz.prog w=.ok (match look st s with
 |none=>.tuple #[.pointer none,.bool false]
 |some e=>.tuple #[ptr e.b,.bool true]) w:=by
 obtain⟨D,⟨es,clock,hb,F,hsz,rfl⟩,h2,h3⟩:=h
 have hz:(zeroValue 148).run Tryz.prog w=.ok (.pointer none) w:=by kernel_rfl
 have h4:=h3 s
 rcases Maps.fit_look true (Maps.string_keyed Tryz.underlying9) Tryz.underlying90 hz hb F (key_of s hs) with⟨hrun,_,hat⟩|⟨e0,y,_,_,hrun,hRv,hat,_⟩
 ·rw[hrun]
  cases hl:Rf.look st s with
  |none=>rfl
  |some e=>
    rw[hl] at h4
    have h5:=h4 .nil
    rw[hat .nil] at h5
    cases h5
 ·rw[hrun]
  obtain⟨q,hq,rfl⟩:=RV_inv hRv
  cases hl:Rf.look st s with
  |none=>
    rw[hl] at h4
    have h5:=h4 .nil
    rw[hat .nil] at h5
    cases h5
  |some e=>
    rw[hl] at h4
    have h5:=h4 .nil
    rw[hat .nil] at h5
    simp only[datum,DataW.lit.injEq,Lit.int.injEq,true_and] at h5
    have h6:q=e.b:=by omega
    simp only[if_true,hq,h6]
theorem KM.add{w w':World}{M:Nat}{st:List Ent}(e:Ent)(hl:look st e.s=none){D:DataW Unit}(hD:Maps.IsMap D)(h3:∀s zd,D.atKey (.string s) zd=datum (look st s) zd)(h:w'.ownsMap Tryz.prog 9 RV M (st.length+1) (D.put (.string e.s) (.lit (.int .i64 e.b)))):KM w' M (st++[e]):=by
 refine⟨_,by rw[List.length_append];exact h,hD.put _ _,fun s zd=> ?_⟩
 rw[look_add _ _ _ hl]
 by_cases hs:e.s=s
 ·rw[if_pos hs]
  subst hs
  exact Maps.atKey_put_same hD (by trivial) _ _
 ·rw[if_neg hs,Maps.atKey_put_other (by simpa using fun h=>hs h.symm),h3]
structure SetsAt(w:World)(M:Nat)(st:List Ent):Prop where
 km:KM w M st
 at':∀e ∈ st,RSet w e.b e.g e.L
 inj:∀e ∈ st,∀f ∈ st,e.g=f.g→e.s=f.s
def SF(M:Nat)(st:List Ent)(k:Nat):Prop:=k=M∨∃e ∈ st,k=e.b∨k=e.g
theorem SetsAt.old{w:World}{M:Nat}{st:List Ent}(h:SetsAt w M st):∀k,SF M st k→k<w.heap.size:=by
 rintro k (rfl|⟨e,he,rfl|rfl⟩)
 ·exact h.km.lt
 ·exact(h.at' e he).lt.1
 ·exact(h.at' e he).lt.2
theorem SetsAt.step{S:Nat→Prop}{w w':World}{M:Nat}{st:List Ent}(h:SetsAt w M st)(hfr:Fr S w w')(hS:∀k,SF M st k→¬S k):SetsAt w' M st:=
 ⟨h.km.step hfr (hS _ (.inl rfl)),fun e he=>(h.at' e he).step hfr (hS _ (.inr ⟨e,he,.inl rfl⟩)) (hS _ (.inr ⟨e,he,.inr rfl⟩)),h.inj⟩
theorem SF_put(M:Nat)(st:List Ent)(s:List UInt8)(L:List Nat)(k:Nat):SF M (putL st s L) k↔SF M st k:=by
 unfold SF putL
 constructor
 ·rintro(h|⟨e,he,h⟩)
  ·exact .inl h
  ·obtain⟨f,hf,rfl⟩:=List.mem_map.1 he
   rw[Ent.to_b,Ent.to_g] at h
   exact .inr ⟨f,hf,h⟩
 ·rintro(h|⟨e,he,h⟩)
  ·exact .inl h
  ·refine .inr ⟨e.to s L,List.mem_map.2 ⟨e,he,rfl⟩,?_⟩
   rw[Ent.to_b,Ent.to_g]
   exact h
theorem SetsAt.off{w:World}{M:Nat}{st:List Ent}(h:SetsAt w M st){k:Nat}{cs:Array Value}{t:TypeId}{fr:Nat×Nat}(hk:w.heap[k]? =some (.cells cs t fr))(h1:t≠217)(h2:t≠3):¬SF M st k:=by
 rintro(rfl|⟨e,he,rfl|rfl⟩)
 ·obtain⟨D,⟨es,clock,hb,_⟩,_⟩:=h.km
  rw[hk] at hb
  cases hb
 ·rw[(h.at' e he).box] at hk
  simp only[Option.some.injEq,Obj.cells.injEq] at hk
  exact h1 hk.2.1.symm
 ·rw[(h.at' e he).row] at hk
  simp only[Option.some.injEq,Obj.cells.injEq] at hk
  exact h2 hk.2.1.symm
theorem SetsAt.add{w w':World}{M:Nat}{st:List Ent}(h:SetsAt w M st){e:Ent}(hfr:Fr (fun k=>k=M) w w')(hk:KM w' M (st++[e]))(hs:RSet w' e.b e.g e.L)(hn:w.heap.size≤e.b∧w.heap.size≤e.g∨(∀f ∈ st,f.g≠e.g)):SetsAt w' M (st++[e]):=by
 have hd:∀f ∈ st,f.g≠e.g:=by
  rcases hn with hn|hn
  ·intro f hf he
   have:=(h.at' f hf).lt
   omega
  ·exact hn
 refine⟨hk,fun f hf=> ?_,fun f hf f2 hf2 hg=> ?_⟩
 ·rcases List.mem_append.1 hf with hf|hf
  ·obtain⟨D,⟨es,clock,hb,_⟩,_⟩:=h.km
   refine(h.at' f hf).step hfr (fun(h1:f.b=M)=> ?_) (fun(h1:f.g=M)=> ?_)
   ·have:=(h.at' f hf).box
    rw[h1,hb] at this
    cases this
   ·have:=(h.at' f hf).row
    rw[h1,hb] at this
    cases this
  ·obtain rfl:=List.mem_singleton.1 hf
   exact hs
 ·rcases List.mem_append.1 hf with hf1|hf1<;>rcases List.mem_append.1 hf2 with hf3|hf3
  ·exact h.inj f hf1 f2 hf3 hg
  ·obtain rfl:=List.mem_singleton.1 hf3
   exact absurd hg (hd f hf1)
  ·obtain rfl:=List.mem_singleton.1 hf1
   exact absurd hg.symm (hd f2 hf3)
  ·obtain rfl:=List.mem_singleton.1 hf1
   obtain rfl:=List.mem_singleton.1 hf3
   rfl
end Rf
namespace Rf
open Mem Rc Prob St Lz Win
structure RL where
 X:Nat
 K:Nat
 Q:Nat
 V:Nat
 M:Nat
 ev:Value
 bv:Value
 av:Value
 st:List Ent
def kV(l:RL)(c:C):Array Value:=#[.int .i64 c.lc,.int .i64 c.lp,.int .i64 c.pb,ptr l.V,.int .i64 c.s.num,.int .i64 c.s.r0,.int .i64 c.s.r1,.int .i64 c.s.r2,.int .i64 c.s.r3,.map (some l.M),l.ev]
structure Cod(w:World)(l:RL)(c:C)(ps:Nat→List Nat):Prop where
 k:w.heap[l.K]? =some (.cells (kV l c) 93 (0,0))
 v:w.heap[l.V]? =some (.cells #[.int .i64 c.size,l.av] 213 (0,0))
 all:w.ownsRow 0 5 1 l.av c.all.length (bvs c.all)
 sets:SetsAt w l.M l.st
 has:Has l.st ps
 okc:c.Ok
 len:∀j,j<18→(ps j).length=Lz.rowLen c.lc c.lp j
 okp:∀j,j<18→okP (ps j)
 size:1≤c.size
 much:c.all.length≤70368744177664
def RL.CF(l:RL)(k:Nat):Prop:=k=l.K∨k=l.V∨l.av.ownBlock=some k∨SF l.M l.st k
theorem Cod.step{S:Nat→Prop}{w w':World}{l:RL}{c:C}{ps:Nat→List Nat}(h:Cod w l c ps)(hfr:Fr S w w')(hS:∀k,l.CF k→¬S k):Cod w' l c ps:=
 ⟨hfr.keep h.k (hS _ (.inl rfl)),hfr.keep h.v (hS _ (.inr (.inl rfl))),own_step h.all hfr (fun k hk=>hS k (.inr (.inr (.inl hk)))),h.sets.step hfr (fun k hk=>hS k (.inr (.inr (.inr hk)))),h.has,h.okc,h.len,h.okp,h.size,h.much⟩
theorem Cod.old{w:World}{l:RL}{c:C}{ps:Nat→List Nat}(h:Cod w l c ps):∀k,l.CF k→k<w.heap.size:=by
 rintro k (rfl|rfl|hk|hk)
 ·exact lt_of_block h.k
 ·exact lt_of_block h.v
 ·exact(World.ownsRow.lt h.all k hk).2
 ·exact h.sets.old k hk
theorem Cod.sfK{w:World}{l:RL}{c:C}{ps:Nat→List Nat}(h:Cod w l c ps):¬SF l.M l.st l.K:=h.sets.off h.k (by decide) (by decide)
theorem Cod.sfV{w:World}{l:RL}{c:C}{ps:Nat→List Nat}(h:Cod w l c ps):¬SF l.M l.st l.V:=h.sets.off h.v (by decide) (by decide)
theorem Cod.sfA{w:World}{l:RL}{c:C}{ps:Nat→List Nat}(h:Cod w l c ps):∀k,l.av.ownBlock=some k→¬SF l.M l.st k:=by
 intro k hk
 obtain⟨cur,hc⟩:=own_block h.all hk
 exact h.sets.off hc (by decide) (by decide)
theorem Cod.sets'{w w':World}{l:RL}{c:C}{ps ps':Nat→List Nat}{st':List Ent}(h:Cod w l c ps)(hfr:Fr (SF l.M l.st) w w')(hs:SetsAt w' l.M st')(hh:Has st' ps')(hl:∀j,j<18→(ps' j).length=Lz.rowLen c.lc c.lp j)(hp:∀j,j<18→okP (ps' j)):Cod w' {l with st:=st'} c ps':=
 ⟨hfr.keep h.k h.sfK,hfr.keep h.v h.sfV,own_step h.all hfr h.sfA,hs,hh,h.okc,hl,hp,h.size,h.much⟩
theorem blk_ne{w:World}{i j:Nat}{a b:Array Value}{s t:TypeId}{f g:Nat×Nat}(h1:w.heap[i]? =some (.cells a s f))(h2:w.heap[j]? =some (.cells b t g))(ht:s≠t):i≠j:=by
 rintro rfl
 rw[h1] at h2
 simp only[Option.some.injEq,Obj.cells.injEq] at h2
 exact ht h2.2.1
end Rf
namespace Rf
open Mem Rc Prob St Lz Win
theorem two_calls(n:Nat)(hn:n≤62)(w:World):Calls Tryz.prog 180 #[.int .i64 n] w fun e w'=>e=.returned (.int .i64 ((2^n:Nat):Int))∧w=w':=by
 go_enter Tryz.func180,Tryz.ntmps180
 go_wp2_with fail
 go_loopw [3,4](fun v i wr=>∃k:Nat,k≤n∧i=.int .i64 k∧v=.int .i64 ((2^k:Nat):Int)∧wr=w) (fun _ i _=>n-(intOf i).toNat)
 case atStart=>exact⟨0,by omega,rfl,rfl,rfl⟩
 case round=>
  obtain⟨k,hk,rfl,rfl,rfl⟩:=hrel
  by_cases hlt:k<n
  ·have hp:2^k≤2305843009213693952:=Nat.le_trans (Nat.pow_le_pow_right (by omega) (show k≤61 by omega)) (by decide)
   have e1:((2^(k+1):Nat):Int)=2*((2^k:Nat):Int):=by rw[Nat.pow_succ];omega
   generalize hq:2^k=q at*
   go_wp2_with fail
   go_roundw
   case rel=>exact⟨k+1,by omega,by go_num,by rw[e1],by first|rfl|trivial⟩
   case measure=>simp[intOf];omega
  ·obtain rfl:k=n:=by omega
   go_wp2_with fail
   go_ret
   exact⟨rfl,rfl⟩
theorem num_len(s:List UInt8)(n:Nat):(num s n).length≤s.length+3:=by
 unfold num dig
 split<;>simp
theorem name_calls(s:List UInt8)(n B:Nat)(hs:s.length≤1000)(hn:n<100)(w:World)(hB:w.heap[B]? =some (.cells #[.int .i64 n] 3 (0,0))):Calls Tryz.prog 127 #[bstr s,.slice (some ⟨B,0,none⟩) 1 1] w fun e w'=>e=.returned (bstr (num s n))∧w=w':=by
 have HI:=Hd (itoa_calls n hn w)
 have h1:(s++[32]).length≤1001:=by simp;omega
 have h2:(dig n).length≤2:=by unfold dig;split<;>simp
 have r1:=run_string_add_lists (P:=Tryz.prog) w s [32] (by omega) (by simp)
 have r2:=run_string_add_lists (P:=Tryz.prog) w (s++[32]) (dig n) (by omega) (by omega)
 have e:s++[32]++dig n=num s n:=by simp[num]
 have c0:w.cell? ⟨B,0,none⟩=some (.int .i64 n):=cell_in hB rfl
 rw[e] at r2
 clear hB
 go_enter Tryz.func127,Tryz.ntmps127
 go_wp2_with fail
 go_loopw [0,5] (fun v i wr=>(i=.int .i64 0∧v=bstr s∨i=.int .i64 1∧v=bstr (num s n))∧wr=w) (fun _ i _=>1-(intOf i).toNat)
 case atStart=>exact⟨.inl ⟨rfl,rfl⟩,rfl⟩
 case round=>
  obtain⟨⟨rfl,rfl⟩|⟨rfl,rfl⟩,rfl⟩:=hrel
  ·go_wp2_with fail
   refine HI.out.mono ?_
   rintro e w' ⟨rfl,rfl⟩
   go_wp2_with fail
   go_roundw
   case rel=>exact⟨.inr ⟨rfl,rfl⟩,by first|rfl|trivial⟩
   case measure=>simp[intOf]
  ·go_wp2_with fail
   go_ret
   exact⟨rfl,rfl⟩
structure CodC(w:World)(l:RL)(c:C):Prop where
 p0:w.cell? ⟨l.K,0,none⟩=some (.int .i64 c.lc)
 p1:w.cell? ⟨l.K,1,none⟩=some (.int .i64 c.lp)
 p2:w.cell? ⟨l.K,2,none⟩=some (.int .i64 c.pb)
 p3:w.cell? ⟨l.K,3,none⟩=some (ptr l.V)
 p4:w.cell? ⟨l.K,4,none⟩=some (.int .i64 c.s.num)
 p5:w.cell? ⟨l.K,5,none⟩=some (.int .i64 c.s.r0)
 p6:w.cell? ⟨l.K,6,none⟩=some (.int .i64 c.s.r1)
 p7:w.cell? ⟨l.K,7,none⟩=some (.int .i64 c.s.r2)
 p8:w.cell? ⟨l.K,8,none⟩=some (.int .i64 c.s.r3)
 p9:w.cell? ⟨l.K,9,none⟩=some (.map (some l.M))
 v0:w.cell? ⟨l.V,0,none⟩=some (.int .i64 c.size)
 v1:w.cell? ⟨l.V,1,none⟩=some l.av
theorem Cod.cells{w:World}{l:RL}{c:C}{ps:Nat→List Nat}(h:Cod w l c ps):CodC w l c:=
 ⟨cell_in h.k rfl,cell_in h.k rfl,cell_in h.k rfl,cell_in h.k rfl,cell_in h.k rfl,cell_in h.k rfl,cell_in h.k rfl,cell_in h.k rfl,cell_in h.k rfl,cell_in h.k rfl,cell_in h.v rfl,cell_in h.v rfl⟩
theorem Cod.keep{w w':World}{l:RL}{c:C}{ps:Nat→List Nat}(h:Cod w l c ps)(hfr:Fr (fun _=>False) w w'):Cod w' l c ps:=h.step hfr (fun _ _ h=>h)
theorem Cod.slice{w:World}{l:RL}{c:C}{ps:Nat→List Nat}(h:Cod w l c ps):∃p cap,l.av=.slice p c.all.length cap:=own_slice h.all
theorem Cod.rd{w:World}{l:RL}{c:C}{ps:Nat→List Nat}(h:Cod w l c ps):Rd w l.av c.all:=Rd.of_own h.all
theorem place_calls{l:RL}{c:C}{ps:Nat→List Nat}{w:World}(h:Cod w l c ps):Calls Tryz.prog 126 #[ptr l.K] w fun e w'=>e=.returned (.int .i64 c.place)∧∃m,w'=w.drewN m:=by
 obtain⟨p,cap,hav⟩:=h.slice
 obtain⟨p0,p1,p2,p3,p4,p5,p6,p7,p8,p9,v0,v1⟩:=h.cells
 rw[hav] at v1
 have hpb:=h.okc.pb
 have hT:=fun W=>Hd (two_calls c.pb (by omega) W)
 have hp:2^c.pb≤16:=Nat.pow_le_pow_right (n:=2) (by omega) hpb
 have hp0:=Nat.two_pow_pos c.pb
 have e1:(c.place:Int)=(c.all.length:Int)%((2^c.pb:Nat):Int):=by unfold C.place;omega
 have H:=Hd h
 clear h
 generalize 2^c.pb=q at*
 go_enter Tryz.func126,Tryz.ntmps126
 go_wp2_with fail
 go_quiet (exact quiet_left (hT _).out)
 go_wp2_with fail
 go_ret
 exact⟨by rw[e1];rfl,_,rfl⟩
theorem lastB_one{c:C}(hs:1≤c.size){n:Nat}(hn:c.all.length=n+1){x:UInt8}(hx:c.all[n]? =some x):c.lastB 1=x.toNat:=by
 unfold C.lastB Win.last
 rw[if_pos ⟨by omega,by omega⟩]
 simp only
 rw[show c.all.length-1=n by omega,List.getD_eq_getElem?_getD,hx]
 rfl
set_option maxRecDepth 100000 in
theorem literal_name{l:RL}{c:C}{ps:Nat→List Nat}{w:World}(h:Cod w l c ps):Calls Tryz.prog 182 #[ptr l.K] w fun e w'=>e=.returned (bstr (num sLiteral (C.lit c)))∧Fr (fun _=>False) w w':=by
 obtain⟨p,cap,hav⟩:=h.slice
 have hrd:=h.rd
 obtain⟨p0,p1,p2,p3,p4,p5,p6,p7,p8,p9,v0,v1⟩:=h.cells
 rw[hav] at v1 hrd
 have hl:=h.okc.l
 have hk16:=lit_16 h.okc
 have hmuch:=h.much
 have hT1:=fun W=>Hd (two_calls c.lp (by omega) W)
 have hT2:=fun W=>Hd (two_calls c.lc (by omega) W)
 have hT3:=fun W=>Hd (two_calls (8-c.lc) (by omega) W)
 have e8:(8:Int)-(c.lc:Int)=((8-c.lc:Nat):Int):=by omega
 have hlit:C.lit c=c.all.length%2^c.lp*2^c.lc+c.lastB 1/2^(8-c.lc):=rfl
 have hq1:=Nat.two_pow_pos c.lp
 have hq3:=Nat.two_pow_pos (8-c.lc)
 have hsz:=h.size
 have H:=Hd h
 have hlb:=lastB_lt c 1
 clear h
 generalize hk:C.lit c=k at*
 cases hn:c.all.length with
 |zero=>
   have hlb0:c.lastB 1=0:=by
    unfold C.lastB Win.last
    rw[if_neg (by omega)]
   rw[hn] at hlit v1 hmuch
   rw[hlb0] at hlit
   rw[Nat.zero_mod,Nat.zero_mul,Nat.zero_div] at hlit
   have hpos:decide (((0:Nat):Int)>0)=false:=by decide
   have hpos2:decide ((0:Int)<((0:Nat):Int))=false:=by decide
   generalize 2^c.lp=q1 at*
   generalize 2^c.lc=q2 at*
   generalize 2^(8-c.lc)=q3 at*
   go_enter Tryz.func182,Tryz.ntmps182
   go_wp2_with fail
   go_quiet (first|(with_reducible exact quiet_left (hT1 _).out)|(with_reducible exact quiet_left (hT2 _).out)|(with_reducible exact quiet_left (hT3 _).out))
   go_wp2_with fail
   have HN:=fun(W:World)(hB:W.heap[w.heap.size]? =some (.cells #[.int .i64 0] 3 (0,0)))=>Hd (name_calls sLiteral k w.heap.size (by decide) (by omega) W (by rw[hB,hlit];rfl))
   refine(HN _ (heap_alloc_new (w.drewN nq) _)).out.mono ?_
   rintro e w3 ⟨rfl,rfl⟩
   have HF3:=Hd (((Fr.refl (fun _=>False) w).drewN nq).alloc (.cells #[.int .i64 0] 3))
   clear HN
   go_wp2_with fail
   go_ret
   exact⟨by rw[hlit];rfl,HF3.out⟩
 |succ n=>
   obtain⟨x,hx⟩:∃x,c.all[n]? =some x:=⟨c.all[n]'(by omega),by simp⟩
   have hlb1:=lastB_one hsz hn hx
   obtain⟨b',o',hpb,hc⟩:=Win.byte_at hrd hx
   rw[hn] at hlit v1 hmuch
   rw[hlb1] at hlit hlb
   generalize x.toNat=xv at*
   have en:((n+1:Nat):Int)-1=(n:Int):=by omega
   have hpos:decide (((n+1:Nat):Int)>0)=true:=by rw[decide_eq_true_eq];omega
   have hpos2:decide ((0:Int)<((n+1:Nat):Int))=true:=by rw[decide_eq_true_eq];omega
   have hi0:(0:Int)≤(n:Int):=by omega
   have hi1:(n:Int)<((n+1:Nat):Int):=by omega
   subst hpb
   generalize hm:n+1=m at*
   have em:(m:Int)-1=(n:Int):=by omega
   generalize 2^c.lp=q1 at*
   generalize 2^c.lc=q2 at*
   generalize 2^(8-c.lc)=q3 at*
   have f1:((m%q1*q2:Nat):Int)=(m:Int)%(q1:Int)*(q2:Int):=by rw[Int.natCast_mul];rfl
   have f2:((xv/q3:Nat):Int)=(xv:Int)/(q3:Int):=rfl
   have hmq:m%q1*q2<16:=by
    have:=Nat.zero_le (xv/q3)
    omega
   have hxq:xv/q3<16:=by omega
   have w1:IntKind.i64.wrap ((m:Int)%(q1:Int)*(q2:Int))=((m%q1*q2:Nat):Int):=by rw[←f1];exact IntWalk.i64_in _ (by omega)
   generalize hg1:m%q1*q2=g1 at*
   generalize hg2:xv/q3=g2 at*
   go_enter Tryz.func182,Tryz.ntmps182
   go_wp2_with fail
   go_quiet (fail)
   go_wp2_with fail
   have H2:=Hd (H.out.keep ((Fr.refl _ w).drewN nq))
   have HF2:=Hd ((Fr.refl (fun _=>False) w).drewN nq)
   generalize w.drewN nq=w2 at*
   clear p0 p1 p2 p3 p4 p5 p6 p7 p8 p9 v0 v1 hc
   obtain⟨p0,p1,p2,p3,p4,p5,p6,p7,p8,p9,v0,v1⟩:=H2.out.cells
   rw[hav,hn] at v1
   go_quiet (first|(with_reducible exact quiet_left (hT1 _).out)|(with_reducible exact quiet_left (hT2 _).out)|(with_reducible exact quiet_left (hT3 _).out))
   go_wp2_with fail
   have ek:(m:Int)%(q1:Int)*(q2:Int)+(xv:Int)/(q3:Int)=(k:Int):=by rw[hlit];omega
   have HN:=fun(W:World)(hB:W.heap[w2.heap.size]? =some (.cells #[.int .i64 ((m:Int)%(q1:Int)*(q2:Int)+(xv:Int)/(q3:Int))] 3 (0,0)))=>Hd (name_calls sLiteral k w2.heap.size (by decide) (by omega) W (by rw[hB,ek]))
   refine(HN _ (heap_alloc_new (w2.drewN nq) _)).out.mono ?_
   rintro e w3 ⟨rfl,rfl⟩
   have HF3:=Hd (HF2.out.trans (((Fr.refl (fun _=>False) w2).drewN nq).alloc (.cells #[.int .i64 ((m:Int)%(q1:Int)*(q2:Int)+(xv:Int)/(q3:Int))] 3)))
   clear HN
   go_wp2_with fail
   rename_i vv heq
   obtain rfl:=Ending.returned.inj heq
   go_ret
   exact⟨rfl,HF3.out⟩
end Rf
namespace Rf
open Mem Rc St Lz En Ga
def Nb.cells:Nb→List Value
 |.bit a i b=>[bstr a.str,.int .i64 i,.int .i64 b]
 |.half b=>[bstr [],.int .i64 0,.int .i64 b]
def nbs(l:List Nb):List Value:=l.flatMap Nb.cells
theorem nbs_append(l m:List Nb):nbs (l++m)=nbs l++nbs m:=by simp[nbs]
theorem nbs_len:∀l:List Nb,(nbs l).length=l.length*3
 |[]=>rfl
 |x::l=>by
   have ih:=nbs_len l
   unfold nbs at*
   rw[List.flatMap_cons,List.length_append,ih,List.length_cons]
   cases x<;>simp[Nb.cells]<;>omega
theorem nbs_one(l:List Nb):∀u ∈ nbs l,u.oneCell'=true:=by
 intro u hu
 obtain⟨x,_,hx⟩:=List.mem_flatMap.1 hu
 cases x with
 |bit a i b=>
   simp only[Nb.cells,List.mem_cons,List.not_mem_nil,or_false] at hx
   rcases hx with rfl|rfl|rfl<;>rfl
 |half b=>
   simp only[Nb.cells,List.mem_cons,List.not_mem_nil,or_false] at hx
   rcases hx with rfl|rfl|rfl<;>rfl
def BL(w0 w:World)(v:Value)(l:List Nb):Prop:=Own 156 3 w0 w v l.length (nbs l)
theorem BL.nil(w0 w:World):BL w0 w (.slice none 0 0) []:=Own.nil _ _ _ _
theorem BL.keep{w0 w w':World}{v:Value}{l:List Nb}(h:BL w0 w v l)(hfr:Fr (fun _=>False) w w'):BL w0 w' v l:=Own.keep h hfr
theorem BL.older{w00 w0 w:World}{v:Value}{l:List Nb}(h:BL w0 w v l)(hs:w00.heap.size≤w0.heap.size):BL w00 w v l:=⟨h.own,fun k hk=>Nat.le_trans hs (h.new k hk)⟩
theorem BL.slice{w0 w:World}{v:Value}{l:List Nb}(h:BL w0 w v l):∃p cap,v=.slice p l.length cap:=Own.slice h
theorem BL.made{w0 w:World}{B n:Nat}{l:List Nb}(hB:w.heap[B]? =some (.cells (nbs l).toArray 156 (0,0)))(hn:n=l.length)(hle:w0.heap.size≤B)(hl:l.length≤1000):BL w0 w (.slice (some ⟨B,0,none⟩) n n) l:=by
 subst hn
 refine⟨⟨nbs_len l,.inr ⟨B,l.length,(nbs l).toArray,rfl,?_,hB,Nat.le_refl _,?_,?_,?_⟩⟩,fun k hk=> ?_⟩
 ·omega
 ·simp only[maxLen]
  omega
 ·rw[List.size_toArray,nbs_len]
 ·rw[List.take_of_length_le (by rw[nbs_len];exact Nat.le_refl _)]
 ·rw[←Option.some.inj hk]
  exact hle
theorem infoBit:(Tryz.prog.info? 156).map (fun i=>(i.zero,i.size,i.bytes))=some (some (.agg #[.string ⟨#[]⟩,.int .i64 0,.int .i64 0]),3,32):=by kernel_rfl
theorem append_bits{ops:Array Oper}{rest:List Oper}{o:Oper}{a:Act}{Q:Exit→Act→World→Prop}(hgd:o.guard=none)(s y:Operand)
 (ho:o.op=.call {callee:=.builtin .append,args:=#[s,y],argTypes:=#[152,152]}){w0 w:World}(v x:Value)(l m:List Nb)(hv:a.eval s=v)(hx:a.eval y=x)(hm:BL w0 w v l)(hm2:BL w0 w x m)(hle:w0.heap.size≤w.heap.size)
 (hb:l.length+m.length≤100000)
 (h:∀p cap n w',n=(l++m).length→BL w0 w' (.slice p n cap) (l++m)→Fr (fun k=>v.ownBlock=some k) w w'→wpList Tryz.prog ops Q rest (a.put o.dst (.slice p n cap)) w'):
 wpList Tryz.prog ops Q (o::rest) a w:=by
 obtain⟨i0,hi,hz0,hz1,hz2⟩:=info_parts infoBit
 refine wpList_append_any w hgd s y 152 152 ho 156 i0 _ 3 32 Tryz.underlying152 hi hz0 hz1 hz2 rfl (by decide) v l.length (nbs l) hv hm.own x m.length (nbs m) hx (src_own w Tryz.underlying152 hm2.own (nbs_one m)) (by simp only[maxLen];omega) (by omega) ?_
 intro v' w' hown hfr hnew _
 have hown':BL w0 w' v' (l++m):=⟨by rw[List.length_append,nbs_append];exact hown,fun k hk=>by
  rcases hnew k hk with h|h
  ·exact hm.new k h
  ·omega⟩
 obtain⟨p,cap,rfl⟩:=hown'.slice
 exact h p cap _ w' rfl hown' hfr
end Rf
end Go.Proofs.YtlgccpjccopdmaaGreatDoor
