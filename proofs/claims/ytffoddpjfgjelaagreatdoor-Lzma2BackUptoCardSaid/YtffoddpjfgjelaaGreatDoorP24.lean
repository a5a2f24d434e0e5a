/- Part 24 of 52: lemmas of the last part, each under the conditions that it names. -/
import Derived.Test.YtffoddpjfgjelaaGreatDoorRows
import Derived.Maps.Own
import Derived.WideKeyEntry
import Derived.DeepKeys4
import Derived.WalkKit
import Derived.WalkSpells
import Derived.Deep.QuietTactic
import Derived.Deep.LoopGhost
import Derived.BigQuiet
import Derived.Laws.Rows
import Derived.Deep.RegionLaw
import Derived.Test.YtffoddpjfgjelaaGreatDoorP01
import Derived.Test.YtffoddpjfgjelaaGreatDoorP03
set_option linter.unusedVariables false
set_option linter.unusedSimpArgs false
set_option maxRecDepth 1500
set_option maxHeartbeats 4000000
namespace Go.Proofs.YtffoddpjfgjelaaGreatDoor
open Go.RowKit
namespace Fi
open Mem
open Go.Maps (Keyed)
open Go.WideElems (Fit rd)
open Go.ChangeMaps (setBlock heap_setBlock_same heap_setBlock_other)
theorem laidOutT:laidOutB Tryz.prog=true:=by kernel_rfl
theorem wordLaw:WideMaps.KeyLaw Tryz.prog 363:=
 deep_law_laid laidOutT (m:=2) (by omega) (of_decide_eq_true (by kernel_rfl)) (by kernel_rfl) (by kernel_rfl)
theorem wordKeyed:Keyed Tryz.prog 363:=Keyed.of_law wordLaw
abbrev wordV(a b c:UInt8):Value:=.agg #[bv a,bv b,bv c]
theorem u8_wf(a:UInt8):(Lit.int .u8 (a.toNat:Int)).wf=true:=by
 have key:∀n:Fin 256,(Lit.int .u8 (n.val:Int)).wf=true:=by decide+kernel
 exact key ⟨a.toNat,a.toNat_lt⟩
theorem word_key(a b c:UInt8):∃kl,keyOf Tryz.prog 363 (wordV a b c)=some kl:=by
 obtain⟨m,hm⟩:∃m,Tryz.prog.types.size=m+1:=⟨Tryz.prog.types.size-1,by kernel_rfl⟩
 have c3:Tryz.prog.cellsOf 363=3:=by kernel_rfl
 have c1:Tryz.prog.cellsOf 5=1:=by kernel_rfl
 have h1:∀x:UInt8,Tryz.prog.keyLits (m+1) 5 [bv x]=some [.int .u8 (x.toNat:Int)]:=by
  intro x
  unfold Program.keyLits
  rw[Tryz.underlying5]
  simp only[bv]
  rw[if_pos ⟨trivial,u8_wf x⟩]
 have h2:Tryz.prog.keyLits (m+1+1) 363 [bv a,bv b,bv c]=some [.int .u8 (a.toNat:Int),.int .u8 (b.toNat:Int),.int .u8 (c.toNat:Int)]:=by
  unfold Program.keyLits
  rw[Tryz.underlying363]
  simp only[c3,c1]
  rw[if_pos (by rfl)]
  rw[show List.range 3=[0,1,2] from rfl]
  simp[h1]
 refine⟨.string (keyBytes [.int .u8 (a.toNat:Int),.int .u8 (b.toNat:Int),.int .u8 (c.toNat:Int)]),?_⟩
 unfold keyOf
 rw[Tryz.underlying363]
 simp only
 rw[show(Tryz.prog.keyType 363&&(wordV a b c).formed Tryz.prog 363)=true by kernel_rfl,if_pos rfl,hm,show(wordV a b c).cells.toList=[bv a,bv b,bv c] from rfl,h2]
 rfl
def Up(n:Nat)(zs:List Nat):Prop:=zs.Pairwise (·<·)∧∀z ∈ zs,z<n
theorem Up.snoc{n:Nat}{zs:List Nat}(h:Up n zs):Up (n+1) (zs++[n]):=by
 refine⟨List.pairwise_append.2 ⟨h.1,List.pairwise_singleton _ _,fun a ha b hb=> ?_⟩,fun z hz=> ?_⟩
 ·rw[List.mem_singleton.1 hb]
  exact h.2 a ha
 ·rcases List.mem_append.1 hz with hz|hz
  ·have:=h.2 z hz
   omega
  ·rw[List.mem_singleton.1 hz]
   omega
theorem Up.mono{n m:Nat}{zs:List Nat}(h:Up n zs)(hm:n≤m):Up m zs:=⟨h.1,fun z hz=>Nat.lt_of_lt_of_le (h.2 z hz) hm⟩
def ints(zs:List Nat):List Value:=zs.map fun(z:Nat)=>Value.int .i64 (z:Int)
def VRow(w:World)(v:Value)(zs:List Nat):Prop:=w.ownsRow 0 3 1 v zs.length (ints zs)
theorem VRow.nil(w:World):VRow w (.slice none 0 0) []:=World.ownsRow_nil _ _ _ _
theorem VRow.block{w:World}{v:Value}{zs:List Nat}(h:VRow w v zs){k:Nat}(hk:v.ownBlock=some k):∃cs,w.heap[k]? =some (.cells cs 3 (0,0)):=by
 rcases h.2 with⟨rfl,_⟩|⟨g,cap,cur,rfl,_,hg,_⟩
 ·simp[Value.ownBlock] at hk
 ·simp only[Value.ownBlock,Option.some.injEq] at hk
  subst hk
  exact⟨cur,hg⟩
theorem VRow.step{S:Nat→Prop}{w w':World}{v:Value}{zs:List Nat}(h:VRow w v zs)(hf:Fr S w w')(hS:∀k,v.ownBlock=some k→¬S k):VRow w' v zs:=own_step h hf hS
def Off(w:World)(S:Nat→Prop):Prop:=∀k,S k→k<w.heap.size→∃cs t fr,w.heap[k]? =some (.cells cs t fr)∧t≠3
abbrev noR:Value→Option (DataW Unit×List MemPlace):=fun _=>some (.nil,[])
structure MapIs(w:World)(M n B:Nat)(es:Array MapEntry)(clock:Nat):Prop where
 box:w.heap[M]? =some (.map es clock)
 fit:Fit Tryz.prog 363 noR es clock
 few:es.size≤n
 rows:∀x ∈ es.toList,∃zs,VRow w x.val zs∧Up n zs∧zs.length≤n
 apart:∀x ∈ es.toList,∀y ∈ es.toList,x.key≠y.key→x.val.ownBlock=none∨x.val.ownBlock≠y.val.ownBlock
 low:∀x ∈ es.toList,∀k,x.val.ownBlock=some k→B≤k
def MapAt(w:World)(M n B:Nat):Prop:=∃es clock,MapIs w M n B es clock
theorem MapAt.keep{S:Nat→Prop}{w w':World}{M n B:Nat}(h:MapAt w M n B)(hf:Fr S w w')(hS:Off w S):MapAt w' M n B:=by
 obtain⟨es,clock,h⟩:=h
 refine⟨es,clock,hf.keep h.box (fun hM=> ?_),h.fit,h.few,fun x hx=> ?_,h.apart,h.low⟩
 ·obtain⟨cs,t,fr,e,_⟩:=hS M hM (lt_of_block h.box)
  rw[h.box] at e
  cases e
 ·obtain⟨zs,h1,h2⟩:=h.rows x hx
  refine⟨zs,h1.step hf (fun k hk hs=> ?_),h2⟩
  obtain⟨cs,hc⟩:=h1.block hk
  obtain⟨cs',t,fr,e,ht⟩:=hS k hs (lt_of_block hc)
  rw[hc] at e
  simp only[Option.some.injEq,Obj.cells.injEq] at e
  exact ht e.2.1.symm
theorem off_none(w:World):Off w (fun _=>False):=fun _ h=>h.elim
theorem map_made{w:World}{M:Nat}(B:Nat)(h:w.heap[M]? =some (.map #[] 0)):MapAt w M 0 B:=
 ⟨#[],0,h,⟨by simp,MapKept.stamped_empty 0,by simp⟩,Nat.le_refl _,by simp,by simp,by simp⟩
theorem zeroInts(w:World):(zeroValue 94).run Tryz.prog w=.ok (.slice none 0 0) w:=by kernel_rfl
theorem nodup_eq{l:List MapEntry}(h:(l.map (·.key)).Nodup){a b:MapEntry}(ha:a ∈ l)(hb:b ∈ l)(e:a.key=b.key):a=b:=by
 induction l with
 |nil=>cases ha
 |cons x l ih=>
   rw[List.map_cons,List.nodup_cons] at h
   rcases List.mem_cons.1 ha with rfl|ha1<;>rcases List.mem_cons.1 hb with rfl|hb1
   ·rfl
   ·exact absurd (show a.key ∈ l.map (·.key) from List.mem_map.2 ⟨b,hb1,e.symm⟩) h.1
   ·exact absurd (show b.key ∈ l.map (·.key) from List.mem_map.2 ⟨a,ha1,e⟩) h.1
   ·exact ih h.2 ha1 hb1
theorem MapAt.look{w:World}{M n B:Nat}(h:MapAt w M n B){key:Value}{kl:Lit}(hk:keyOf Tryz.prog 363 key=some kl):
 ∃v zs,(∀w':World,w'.heap[M]? =w.heap[M]? →(Instr.lookup 313 (.map (some M)) key false).run Tryz.prog w'=.ok v w')∧VRow w v zs∧Up n zs∧zs.length≤n:=by
 obtain⟨es,clock,h⟩:=h
 have look:=fun(w':World)(hw:w'.heap[M]? =w.heap[M]?)=>Maps.fit_look (w:=w') false wordKeyed Tryz.underlying313 (zeroInts w') (hw.trans h.box) h.fit hk
 rcases look w rfl with⟨_,hno,_⟩|⟨e0,y,hm0,h3,_⟩
 ·refine⟨.slice none 0 0,[],fun w' hw=> ?_,VRow.nil w,⟨List.Pairwise.nil,by simp⟩,Nat.zero_le _⟩
  rcases look w' hw with⟨hrun,_⟩|⟨e1,_,hm1,h4,_⟩
  ·exact hrun
  ·exact absurd h4 (hno e1 hm1)
 ·obtain⟨zs,h1,h2,h4⟩:=h.rows e0 hm0
  refine⟨e0.val,zs,fun w' hw=> ?_,h1,h2,h4⟩
  rcases look w' hw with⟨_,hno,_⟩|⟨e1,_,hm1,h5,hrun,_⟩
  ·exact absurd h3 (hno e0 hm0)
  ·rw[nodup_eq h.fit.stamped.2.2 hm0 hm1 (h3.trans h5.symm)]
   exact hrun
theorem setBlock_fr(w:World)(M:Nat){es:Array MapEntry}{clock:Nat}(hb:w.heap[M]? =some (.map es clock))(o:Obj):Fr (fun k=>k=M) w (setBlock w M o)∧(setBlock w M o).heap.size=w.heap.size:=
 ⟨⟨rfl,rfl,rfl,by simp[setBlock],fun k _ hne=>heap_setBlock_other hb o hne⟩,by simp[setBlock]⟩
theorem MapAt.entry{w:World}{M n B:Nat}(h:MapAt w M n B)(hB:B≤w.heap.size)(hn:n<maxLen){key:Value}{kl:Lit}(hk:keyOf Tryz.prog 363 key=some kl):
 ∃v0 zs st w1,(Instr.mapEntry 313 (.map (some M)) key).run Tryz.prog w=.ok (.tuple #[v0,goInt st]) w1∧Fr (fun k=>k=M) w w1∧w1.heap.size=w.heap.size∧VRow w1 v0 zs∧Up n zs∧zs.length≤n∧(∀k,v0.ownBlock=some k→B≤k)∧
  ∀(S:Nat→Prop)(w2:World)(v':Value)(zs':List Nat),Fr S w1 w2→(∀k,S k→k<w1.heap.size→v0.ownBlock=some k)→VRow w2 v' zs'→Up (n+1) zs'→zs'.length≤n+1→(∀k,v'.ownBlock=some k→v0.ownBlock=some k∨w1.heap.size≤k)→
   ∃w3,(Instr.entryStore 313 (.map (some M)) (goInt st) v').run Tryz.prog w2=.ok () w3∧Fr (fun k=>k=M) w2 w3∧w3.heap.size=w2.heap.size∧MapAt w3 M (n+1) B:=by
 obtain⟨es,clock,h⟩:=h
 obtain⟨v0,st,es1,clock1,hrun,hv0,hst⟩:=WideElems.entry_then_store wordLaw Tryz.underlying313 zeroInts h.box h.fit hk
 obtain⟨f1,s1⟩:=setBlock_fr w M h.box (.map es1 clock1)
 have hrow:∃zs,VRow w v0 zs∧Up n zs∧zs.length≤n∧(∀k,v0.ownBlock=some k→B≤k):=by
  rcases hv0 with⟨e0,hm,_,rfl⟩|⟨_,rfl⟩
  ·obtain⟨zs,a,b,c⟩:=h.rows e0 hm
   exact⟨zs,a,b,c,h.low e0 hm⟩
  ·exact⟨[],VRow.nil w,⟨List.Pairwise.nil,by simp⟩,Nat.zero_le _,by simp[Value.ownBlock]⟩
 obtain⟨zs,r1,r2,r3,r4⟩:=hrow
 have offM:∀{v:Value}{ys:List Nat},VRow w v ys→∀k,v.ownBlock=some k→k≠M:=by
  intro v ys hv k hkv e
  obtain⟨cs,hc⟩:=hv.block hkv
  rw[e,h.box] at hc
  cases hc
 have hbox1:=heap_setBlock_same h.box (.map es1 clock1)
 refine⟨v0,zs,st,_,hrun,f1,s1,r1.step f1 (offM r1),r2,r3,r4,?_⟩
 intro S w2 v' zs' hf hS hv' hup' hlen' hnew'
 have hMS:¬S M:=fun hs=>by
  have h1:=hS M hs (by rw[s1];exact lt_of_block h.box)
  exact offM r1 M h1 rfl
 have hbox2:w2.heap[M]? =some (.map es1 clock1):=hf.keep hbox1 hMS
 obtain⟨es',clock',hst1,hup⟩:=hst w2 v' hbox2
 obtain⟨es2,clock2,hup2,hfit2,hput,_,_,hwho⟩:=Maps.fit_store (R':=noR) wordKeyed Tryz.underlying313 h.box h.fit (Nat.lt_of_le_of_lt h.few hn) (key:=key) (val:=v') (yv:=(.nil,[])) (fun x _ _ z hz=>hz) hk rfl
 have hee:es'=es2∧clock'=clock2:=by
  rw[hup] at hup2
  simp only[Result.ok.injEq,true_and] at hup2
  have e1:=heap_setBlock_same h.box (.map es' clock')
  rw[hup2,heap_setBlock_same h.box] at e1
  simp only[Option.some.injEq,Obj.map.injEq] at e1
  exact⟨e1.1.symm,e1.2.symm⟩
 obtain⟨rfl,rfl⟩:=hee
 obtain⟨f3,s3⟩:=setBlock_fr w2 M hbox2 (.map es' clock')
 have hlt1:∀{v:Value}{ys:List Nat},VRow w v ys→∀k,v.ownBlock=some k→k<w.heap.size:=fun{v ys} hv k hkv=>by
  obtain⟨cs,hc⟩:=hv.block hkv
  exact lt_of_block hc
 -- an old entry at another key, in w2
 have old:∀x ∈ es.toList,x.key≠key→(x.val.ownBlock=none∨x.val.ownBlock≠v0.ownBlock):=by
  intro x hx hne
  rcases hv0 with⟨e0,hm,he,rfl⟩|⟨_,rfl⟩
  ·exact h.apart x hx e0 hm (by rw[he];exact hne)
  ·cases hb:x.val.ownBlock with
   |none=>exact .inl rfl
   |some b=>exact .inr (by simp[Value.ownBlock])
 have oldrow:∀x ∈ es.toList,x.key≠key→∃ys,VRow (setBlock w2 M (.map es' clock')) x.val ys∧Up (n+1) ys∧ys.length≤n+1:=by
  intro x hx hne
  obtain⟨ys,y1,y2,y3⟩:=h.rows x hx
  have z1:=y1.step f1 (offM y1)
  have z2:=z1.step hf (fun k hkk hs=>by
   have h1:=hS k hs (by rw[s1];exact hlt1 y1 k hkk)
   rcases old x hx hne with h2|h2
   ·rw[h2] at hkk
    cases hkk
   ·exact h2 (hkk.trans h1.symm))
  exact⟨ys,z2.step f3 (fun k hkk e=>offM y1 k hkk e),y2.mono (Nat.le_succ _),Nat.le_succ_of_le y3⟩
 have newrow:VRow (setBlock w2 M (.map es' clock')) v' zs':=hv'.step f3 (fun k hkk e=>by
  obtain⟨cs,hc⟩:=hv'.block hkk
  rw[e,hbox2] at hc
  cases hc)
 have apart:∀x ∈ es.toList,x.key≠key→(x.val.ownBlock=none∨x.val.ownBlock≠v'.ownBlock):=by
  intro x hx hne
  cases hb:x.val.ownBlock with
  |none=>exact .inl rfl
  |some b=>
    refine .inr (fun e=> ?_)
    obtain⟨ys,y1,_⟩:=h.rows x hx
    have hlt:=hlt1 y1 b hb
    rcases hnew' b e.symm with h1|h1
    ·rcases old x hx hne with h2|h2
     ·rw[hb] at h2
      cases h2
     ·exact h2 (hb.trans h1.symm)
    ·rw[s1] at h1
     exact absurd h1 (Nat.not_le.2 hlt)
 refine⟨_,hst1,f3,s3,es',clock',heap_setBlock_same hbox2 _,hfit2,?_,?_,?_,?_⟩
 ·have e1:es'.size=((es'.toList.map (WideElems.rg Tryz.prog 363 noR)).foldr DataW.insert []).length:=by rw[Go.length_sorted];simp
  rw[e1,hput]
  unfold ChangeMaps.putKey
  rw[Go.length_insert]
  have e2:=List.length_filter_le (ChangeMaps.notKey kl) ((es.toList.map (WideElems.rg Tryz.prog 363 noR)).foldr DataW.insert [])
  rw[Go.length_sorted] at e2
  simp at e2
  have:=h.few
  omega
 ·intro x hx
  rcases hwho x hx with⟨hx0,hne⟩|⟨_,hval⟩
  ·exact oldrow x hx0 hne
  ·rw[hval]
   exact⟨zs',newrow,hup',hlen'⟩
 ·intro x hx y hy hne
  rcases hwho x hx with⟨hx0,hxk⟩|⟨hxk,hxv⟩<;>rcases hwho y hy with⟨hy0,hyk⟩|⟨hyk,hyv⟩
  ·exact h.apart x hx0 y hy0 hne
  ·rw[hyv]
   exact apart x hx0 hxk
  ·rw[hxv]
   cases hv:v'.ownBlock with
   |none=>exact .inl rfl
   |some g=>
     refine .inr (fun e=> ?_)
     rcases apart y hy0 hyk with h2|h2
     ·rw[h2] at e
      cases e
     ·exact h2 (by rw[hv,e])
  ·exact absurd (hxk.trans hyk.symm) hne
 ·intro x hx k hk
  rcases hwho x hx with⟨hx0,_⟩|⟨_,hval⟩
  ·exact h.low x hx0 k hk
  ·rw[hval] at hk
   rcases hnew' k hk with h1|h1
   ·exact r4 k h1
   ·rw[s1] at h1
    exact Nat.le_trans hB h1
end Fi
namespace Fi
open Mem
abbrev ptr(B:Nat):Value:=.pointer (some ⟨B,0,none⟩)
theorem VRow.slice{w:World}{v:Value}{zs:List Nat}(h:VRow w v zs):∃a cap,v=.slice a zs.length cap∧zs.length≤cap∧cap≤maxLen∧(0<zs.length→∃g,a=some ⟨g,0,none⟩∧∀(i z:Nat),zs[i]? =some z→w.cell? ⟨g,i,none⟩=some (.int .i64 z)):=by
 rcases h.2 with⟨rfl,h0⟩|⟨g,cap,cur,rfl,_,hg,hle,hm,hcs,ht⟩
 ·exact⟨none,0,by rw[h0],by omega,by simp[maxLen],by omega⟩
 ·refine⟨_,cap,rfl,hle,hm,fun _=>⟨g,rfl,fun i z hz=> ?_⟩⟩
  refine cell_in hg ?_
  rw[Nat.mul_one] at ht
  have h1:(ints zs)[i]? =some (.int .i64 z):=by simp[ints,hz]
  rw[←ht,List.getElem?_take] at h1
  split at h1
  ·simpa using h1
  ·cases h1
theorem ge_calls(Ba Bx g n cap p z i:Nat)(W:World)(ha:W.cell? ⟨Ba,0,none⟩=some (.slice (some ⟨g,0,none⟩) n cap))(hx:W.cell? ⟨Bx,0,none⟩=some (.int .i64 p))(hi:i<n)(hc:W.cell? ⟨g,i,none⟩=some (.int .i64 z)):
 Calls Tryz.prog 281 #[.int .i64 i,ptr Ba,ptr Bx] W fun e w'=>e=.returned (.bool (decide (p≤z)))∧Fr (fun _=>False) W w':=by
 have i1:(0:Int)≤(i:Int):=by omega
 have i2:(i:Int)<(n:Int):=by omega
 go_enter Tryz.func281,Tryz.ntmps281
 go_wp2_with fail
 go_quiet (fail)
 go_wp2_with fail
 go_ret
 exact⟨by simp,(Fr.refl _ _).drewN _⟩
theorem up_lt{n:Nat}{zs:List Nat}(h:Up n zs){t u y z:Nat}(ht:t≤u)(hy:zs[t]? =some y)(hz:zs[u]? =some z):y≤z:=by
 rcases Nat.lt_or_ge t u with h1|h1
 ·obtain⟨a1,a2⟩:=List.getElem?_eq_some_iff.1 hy
  obtain⟨b1,b2⟩:=List.getElem?_eq_some_iff.1 hz
  have:=List.pairwise_iff_getElem.1 h.1 t u a1 b1 h1
  omega
 ·obtain rfl:t=u:=by omega
  rw[hy] at hz
  cases hz
  exact Nat.le_refl _
set_option maxRecDepth 100000 in
theorem search_calls(Ba Bx p:Nat)(v:Value)(zs:List Nat)(n:Nat)(W:World)(ha:W.cell? ⟨Ba,0,none⟩=some v)(hx:W.cell? ⟨Bx,0,none⟩=some (.int .i64 p))(hv:VRow W v zs)(hu:Up n zs)(hb:zs.length≤1152921504606846976):
 Calls Tryz.prog 280 #[.int .i64 zs.length,.func (.func 281) #[] #[ptr Ba,ptr Bx]] W fun e w'=>Fr (fun _=>False) W w'∧∃k:Nat,e=.returned (.int .i64 k)∧k≤zs.length∧∀t z,t<k→zs[t]? =some z→z<p:=by
 obtain⟨a,cap,rfl,_,_,hcs⟩:=hv.slice
 have HX:=Hd hx
 have HA:=Hd ha
 have HC:=Hd hcs
 have HU:=Hd hu
 generalize hn:zs.length=N at*
 have HN:=Hd hn
 clear hx ha hcs hu hv hn
 go_enter Tryz.func280,Tryz.ntmps280
 go_wp2_with fail
 go_loopg [5,6] N (fun kx s5 s6 wr=>∃(lo hi:Nat),s5=.int .i64 lo∧s6=.int .i64 hi∧lo≤hi∧hi≤N∧hi-lo≤kx∧Fr (fun _=>False) W wr∧Hid (∀t z,t<lo→zs[t]? =some z→z<p))
 case atStart=>exact⟨0,N,rfl,rfl,Nat.zero_le _,Nat.le_refl _,by omega,Fr.refl _ _,Hd (fun t z h=>absurd h (Nat.not_lt_zero _))⟩
 case round=>
  obtain⟨lo,hi,rfl,rfl,hlh,hin,hg,hfr,I⟩:=hrel
  by_cases hlt:lo<hi
  ·obtain⟨g,rfl,hc⟩:=HC.out (by omega)
   have hm:(lo+hi)/2<zs.length:=by rw[HN.out];omega
   obtain⟨z,hz⟩:∃z,zs[(lo+hi)/2]? =some z:=⟨zs[(lo+hi)/2],by simp[hm]⟩
   have hfa:=fun{b i:Nat}{u:Value}(h:W.cell? ⟨b,i,none⟩=some u)=>(show wr.cell? ⟨b,i,none⟩=some u from by
    have hbk:wr.heap[b]? =W.heap[b]? :=hfr.block b (block_lt_of_cell h) (fun h=>h)
    rw[World.cell?_of_block hbk]
    exact h)
   have HG:=Hd (ge_calls Ba Bx g N cap p z ((lo+hi)/2) wr (hfa HA.out) (hfa HX.out) (by omega) (hfa (hc _ _ hz)))
   have HFR:=Hd hfr
   have HZ:=Hd hz
   clear hfa hz hfr hc
   rw[show(((lo+hi)/2:Nat):Int)=((lo:Int)+(hi:Int))/2 by omega] at HG
   by_cases hp:p≤z
   ·rw[show decide (p≤z)=true by simp[hp]] at HG
    go_wp2_with fail
    refine HG.out.mono ?_
    rintro e w' ⟨rfl,hfr2⟩
    go_wp2_with fail
    go_roundg ((lo+hi)/2-lo)
    case measure=>omega
    case rel=>exact⟨lo,(lo+hi)/2,rfl,by rw[show((lo:Int)+(hi:Int))/2=(((lo+hi)/2:Nat):Int) by omega],by omega,by omega,Nat.le_refl _,HFR.out.trans hfr2,I⟩
   ·rw[show decide (p≤z)=false by simp[hp]] at HG
    go_wp2_with fail
    refine HG.out.mono ?_
    rintro e w' ⟨rfl,hfr2⟩
    go_wp2_with fail
    go_roundg (hi-((lo+hi)/2+1))
    case measure=>omega
    case rel=>
     refine⟨(lo+hi)/2+1,hi,by rw[show((lo:Int)+(hi:Int))/2+1=(((lo+hi)/2+1:Nat):Int) by omega],rfl,by omega,hin,Nat.le_refl _,HFR.out.trans hfr2,Hd (fun t y ht hy=> ?_)⟩
     have:=up_lt HU.out (show t≤(lo+hi)/2 by omega) hy HZ.out
     omega
  ·obtain rfl:hi=lo:=by omega
   go_wp2_with fail
   go_ret
   exact⟨hfr,hi,rfl,hin,I.out⟩
set_option maxRecDepth 100000 in
theorem searchInts_calls(v:Value)(zs:List Nat)(n p:Nat)(w:World)(hv:VRow w v zs)(hu:Up n zs)(hb:zs.length≤1152921504606846976):
 Calls Tryz.prog 264 #[v,.int .i64 p] w fun e w'=>Fr (fun _=>False) w w'∧∃k:Nat,e=.returned (.int .i64 k)∧k≤zs.length∧∀t z,t<k→zs[t]? =some z→z<p:=by
 have hf:=((Fr.refl (fun _=>False) w).alloc (.cells #[v] 94)).alloc (.cells #[.int .i64 p] 3)
 have h1:=((Fr.refl (fun _=>False) (w.alloc (.cells #[v] 94))).alloc (.cells #[.int .i64 p] 3)).keep (heap_alloc_new w (.cells #[v] 94)) (fun h=>h)
 have h2:=heap_alloc_new (w.alloc (.cells #[v] 94)) (.cells #[.int .i64 p] 3)
 rw[World.size_alloc] at h2
 have HS:=Hd (search_calls w.heap.size (w.heap.size+1) p v zs n _ (cell_in (i:=0) h1 rfl) (cell_in (i:=0) h2 rfl) (hv.step hf (fun _ _ h=>h)) hu hb)
 have HF:=Hd hf
 have c1:=cell_in (i:=0) h1 rfl
 obtain⟨a,cap,rfl,_,_,_⟩:=hv.slice
 clear hv hu h1 h2 hf
 go_enter Tryz.func264,Tryz.ntmps264
 go_wp2_with fail
 refine HS.out.mono ?_
 rintro e w' ⟨hfr,k,rfl,hk1,hk2⟩
 go_wp2_with fail
 go_ret
 exact⟨HF.out.trans hfr,k,rfl,hk1,hk2⟩
end Fi
namespace Fi
open Mem Win
set_option maxRecDepth 100000 in
theorem clone_calls(v:Value)(xs:List UInt8)(w:World)(h:Rd w v xs)(hb:xs.length≤70368744177664):
    Calls Tryz.prog 234 #[v] w fun e w'=>Fr (fun _=>False) w w'∧∃v',e=.returned v'∧Mine w w' v' xs:=by
  obtain⟨p,cap,rfl,h1,h2,h3⟩:=h
  have hnil:=Lib.run_eql_slice_nil (P:=Tryz.prog) w 22 5 p xs.length cap 0 0 Tryz.underlying22
  cases p with
  |none=>
    have h0:xs=[]:=by
      cases xs with
      |nil=>rfl
      |cons x xs=>
        obtain⟨b,o,e,_⟩:=h3 (by simp)
        cases e
    subst h0
    simp only[Option.isNone_none,List.length_nil] at hnil
    clear h1 h3 hb
    go_enter Tryz.func234,Tryz.ntmps234
    go_wp2_with fail
    go_ret
    exact⟨Fr.refl _ _,_,rfl,Mine.nil _ _⟩
  |some a=>
    simp only[Option.isNone_some] at hnil
    have hfa:=(Fr.refl (fun _=>False) w).alloc (.cells #[] 5)
    have hm0:Mine w (w.alloc (.cells #[] 5)) (.slice (some ⟨w.heap.size,0,none⟩) 0 0) []:=by
      have h1:=World.ownsRow_made (base:=0) (e:=5) (size:=1) w #[] 0 (Nat.zero_le _) (by decide) rfl
      refine⟨h1,fun k hk=> ?_⟩
      simp only[Value.ownBlock,Option.some.injEq] at hk
      omega
    have HA:=Hd hfa
    have HM0:=Hd hm0
    have HR:=Hd (Rd.keep ⟨some a,cap,rfl,h1,h2,h3⟩ hfa)
    have HB:=Hd hb
    clear hfa hm0 h1 h2 h3 hb
    go_enter Tryz.func234,Tryz.ntmps234
    go_wp2_with (at_builtin;(refine append_mine rfl _ _ rfl (w0:=w) (.slice (some ⟨w.heap.size,0,none⟩) 0 0) (.slice (some a) xs.length cap) [] xs rfl rfl HM0.out HA.out.size HR.out (by have:=HB.out;simp only[List.length_nil];omega) ?_);intro p2 cap2 n2 w2 hn2 hM2 hfr2 hnew2;have HM2:=Hd hM2;have HF2:=Hd (HA.out.trans' hfr2 (fun k h1 h2=>by
         simp only[Value.ownBlock,Option.some.injEq] at h2
         omega));clear hn2 hM2 hfr2 hnew2)
    go_ret
    have hM:=HM2.out
    rw[List.nil_append] at hM
    exact⟨HF2.out,_,rfl,hM⟩
structure FiAt(w:World)(F:Nat)(data:List UInt8)(dict pos:Nat)(dv:Value)(M B:Nat):Prop where
 box:w.heap[F]? =some (.cells #[dv,.int .i64 dict,.int .i64 pos,.map (some M)] 315 (0,0))
 own:w.ownsRow 0 5 1 dv data.length (bvs data)
 map:MapAt w M data.length B
structure NL(w:World)(F M:Nat)(data:List UInt8)(dict:Nat)(dv:Value)(i:Nat)(wr:World):Prop where
 fr:Fr (fun _=>False) w wr
 box:wr.heap[F]? =some (.cells #[dv,.int .i64 dict,.int .i64 0,.map (some M)] 315 (0,0))
 own:Mine w wr dv data
 map:MapAt wr M i w.heap.size
theorem NL.next{w wr w3:World}{M:Nat}{data:List UInt8}{dict i:Nat}{dv:Value}(h:NL w (M+1) M data dict dv i wr){S:Nat→Prop}(hf:Fr S wr w3)(hM:w.heap.size≤M)(hlow:∀k,S k→w.heap.size≤k)(hS:∀k,S k→k<wr.heap.size→k=M∨∃cs fr,wr.heap[k]? =some (.cells cs 3 fr))
 (hm:MapAt w3 M (i+1) w.heap.size):NL w (M+1) M data dict dv (i+1) w3:=by
 have off:∀{k:Nat}{cs:Array Value}{t:TypeId}{fr:Nat×Nat},wr.heap[k]? =some (.cells cs t fr)→t≠3→¬S k:=by
  intro k cs t fr hk ht hs
  rcases hS k hs (lt_of_block hk) with rfl|⟨cs',fr',e⟩
  ·obtain⟨es,c,hmi⟩:=h.map
   rw[hmi.box] at hk
   cases hk
  ·rw[hk] at e
   simp only[Option.some.injEq,Obj.cells.injEq] at e
   exact ht e.2.1
 refine⟨h.fr.trans' hf (fun k hk hs=>by have:=hlow k hs;omega),hf.keep h.box (off h.box (by decide)),⟨own_step h.own.own hf (fun k hk=> ?_),h.own.new⟩,hm⟩
 rcases h.own.own.2 with⟨rfl,_⟩|⟨g,cap,cur,rfl,_,hg,_⟩
 ·simp[Value.ownBlock] at hk
 ·simp only[Value.ownBlock,Option.some.injEq] at hk
  subst hk
  exact off hg (by decide)
theorem row_off{W0 w1:World}{M k:Nat}{v:Value}{zs:List Nat}(hf:Fr (fun k=>k=M) W0 w1)(hr:VRow w1 v zs)(hk:v.ownBlock=some k)(hlt:k<W0.heap.size):k=M∨∃cs fr,W0.heap[k]? =some (.cells cs 3 fr):=by
 by_cases h:k=M
 ·exact .inl h
 ·obtain⟨cs,hc⟩:=hr.block hk
  exact .inr ⟨cs,_,(hf.block k hlt h).symm.trans hc⟩
theorem ints_snoc(zs:List Nat)(i:Nat):ints (zs++[i])=ints zs++[.int .i64 (i:Int)]:=by simp[ints]
theorem one_int{w:World}{g:Nat}(i:Nat)(h:w.heap[g]? =some (.cells #[.int .i64 (i:Int)] 3 (0,0))):Src Tryz.prog 1 94 (.slice (some ⟨g,0,none⟩) 1 1) 1 [.int .i64 (i:Int)] w:=
 src_own w Tryz.underlying94 (own_row (xs:=[.int .i64 (i:Int)]) h rfl (by simp[maxLen])) (by simp[Value.oneCell'])
theorem MapAt.top{w:World}{M n m B:Nat}(h:MapAt w M n B)(hm:n≤m):MapAt w M m B:=by
 obtain⟨es,c,h⟩:=h
 refine⟨es,c,h.box,h.fit,Nat.le_trans h.few hm,fun x hx=> ?_,h.apart,h.low⟩
 obtain⟨zs,a,b,c⟩:=h.rows x hx
 exact⟨zs,a,b.mono hm,Nat.le_trans c hm⟩
theorem infoInt:(Tryz.prog.info? 3).map (fun i=>(i.zero,i.size,i.bytes))=some (some (.int .i64 0),1,8):=by kernel_rfl
theorem array_at(a:Option Addr)(n cap:Nat)(h:3≤n)(W:World):(Instr.arrayAt 363 (.slice a n cap)).run Tryz.prog W=.ok (.pointer a) W:=by
 have hn:¬n<3:=by omega
 simp[Instr.arrayAt,run_underlying Tryz.underlying363,Result.andThen,hn]
set_option maxRecDepth 100000 in
theorem new_calls(v:Value)(data:List UInt8)(dict:Nat)(w:World)(h:Rd w v data)(hb:data.length≤1099511627776)(hd1:1≤dict)(hd2:dict≤4294967295):
 Calls Tryz.prog 180 #[v,.int .i64 dict] w fun e w'=>Fr (fun _=>False) w w'∧∃F dv M,e=.returned (.tuple #[ptr F,.int .i64 0])∧FiAt w' F data dict 0 dv M w.heap.size∧w.heap.size≤F:=by
 obtain⟨p,cap,rfl,h1,h2,h3⟩:=h
 have hr:Rd w (.slice p data.length cap) data:=⟨p,cap,rfl,h1,h2,h3⟩
 have HC:=Hd (clone_calls _ data w hr (by omega))
 have HR:=Hd hr
 have HB:=Hd hb
 have hmm:=@run_makeMap Tryz.prog
 clear hr hb h1 h2 h3
 go_enter Tryz.func180,Tryz.ntmps180
 go_wp2_with fail
 refine HC.out.mono ?_
 rintro e w1 ⟨hf1,dv,rfl,hM1⟩
 obtain⟨dp,dc,rfl⟩:=hM1.slice
 have hf3:=((Fr.refl (fun _=>False) w1).alloc (.map #[] 0)).alloc (.cells #[.slice dp data.length dc,.int .i64 dict,.int .i64 0,.map (some w1.heap.size)] 315)
 have hbx:=heap_alloc_new (w1.alloc (.map #[] 0)) (.cells #[.slice dp data.length dc,.int .i64 dict,.int .i64 0,.map (some w1.heap.size)] 315)
 have hmp:=((Fr.refl (fun _=>False) (w1.alloc (.map #[] 0))).alloc (.cells #[.slice dp data.length dc,.int .i64 dict,.int .i64 0,.map (some w1.heap.size)] 315)).keep (heap_alloc_new w1 (.map #[] 0)) (fun h=>h)
 rw[World.size_alloc] at hbx
 have H0:=Hd (show NL w (w1.heap.size+1) w1.heap.size data dict (.slice dp data.length dc) 0 ((w1.alloc (.map #[] 0)).alloc (.cells #[.slice dp data.length dc,.int .i64 dict,.int .i64 0,.map (some w1.heap.size)] 315)) from
  ⟨hf1.trans hf3,hbx,hM1.keep hf3,map_made _ hmp⟩)
 have hs1:=hf1.size
 clear hf3 hbx hmp hf1 hM1
 go_wp2_with fail
 generalize hW2:(w1.alloc (.map #[] 0)).alloc (.cells #[.slice dp data.length dc,.int .i64 dict,.int .i64 0,.map (some w1.heap.size)] 315)=W2 at*
 generalize w1.heap.size=M at*
 clear hW2
 have HMW:=Hd hs1
 clear hs1
 go_loopw [7](fun s7 wr=>∃i:Nat,s7=.int .i64 i∧i≤data.length∧NL w (M+1) M data dict (.slice dp data.length dc) i wr) (fun s7 _=>data.length-(intOf s7).toNat)
 case atStart=>exact⟨0,rfl,Nat.zero_le _,H0.out⟩
 case round=>
  obtain⟨i,rfl,hi,hL⟩:=hrel
  have hbd:=HB.out
  by_cases hlt:i+3≤data.length
  ·obtain⟨b,o,rfl,hcs⟩:∃b o,p=some ⟨b,o,none⟩∧∀(j:Nat)(x:UInt8),data[j]? =some x→w.cell? ⟨b,o+j,none⟩=some (bv x):=by
    obtain⟨p',c',e,_,_,h3⟩:=HR.out
    simp only[Value.slice.injEq] at e
    obtain⟨rfl,_,rfl⟩:=e
    exact h3 (by omega)
   have hcap:data.length≤cap:=by
    obtain⟨p',c',e,h1,_,_⟩:=HR.out
    simp only[Value.slice.injEq] at e
    omega
   have hcw:∀(j:Nat)(x:UInt8),data[j]? =some x→wr.cell? ⟨b,o+j,none⟩=some (bv x):=fun j x hx=>by
    have h1:=hcs j x hx
    rw[World.cell?_of_block (hL.fr.block b (block_lt_of_cell h1) (fun h=>h))]
    exact h1
   obtain⟨x0,hx0⟩:∃x,data[i]? =some x:=⟨data[i],by simp⟩
   obtain⟨x1,hx1⟩:∃x,data[i+1]? =some x:=⟨data[i+1],by simp⟩
   obtain⟨x2,hx2⟩:∃x,data[i+2]? =some x:=⟨data[i+2],by simp⟩
   have c0:wr.cell? ⟨b,o+i,none⟩=some (.int .u8 x0.toNat):=hcw _ _ hx0
   have c1:wr.cell? ⟨b,o+i+1,none⟩=some (.int .u8 x1.toNat):=hcw _ _ hx1
   have c2:wr.cell? ⟨b,o+i+2,none⟩=some (.int .u8 x2.toNat):=hcw _ _ hx2
   have hsl:=slice_l (some ⟨b,o,none⟩) data.length cap i (by omega)
   rw[show dropP (some ⟨b,o,none⟩) cap i=some ⟨b,o+i,none⟩ by unfold dropP;rw[if_neg (by omega)];simp[add_mid]] at hsl
   have harr:=array_at (some ⟨b,o+i,none⟩) (data.length-i) (cap-i) (by omega)
   have HL:=Hd hL
   clear hcs hcw hx0 hx1 hx2 hL
   go_wp2_with fail
   have hfA:=(Fr.refl (fun _=>False) wr).alloc (.cells #[.int .u8 x0.toNat,.int .u8 x1.toNat,.int .u8 x2.toNat] 363)
   have hxA:=heap_alloc_new wr (.cells #[.int .u8 x0.toNat,.int .u8 x1.toNat,.int .u8 x2.toNat] 363)
   have hmA:=HL.out.map.keep hfA (off_none _)
   have hbA:=hfA.keep HL.out.box (fun h=>h)
   have hsA:(wr.alloc (.cells #[.int .u8 x0.toNat,.int .u8 x1.toNat,.int .u8 x2.toNat] 363)).heap.size=wr.heap.size+1:=World.size_alloc _ _
   clear c0 c1 c2 hsl harr
   generalize wr.alloc (.cells #[.int .u8 x0.toNat,.int .u8 x1.toNat,.int .u8 x2.toNat] 363)=wA at*
   generalize hwz:wr.heap.size=z at*
   have hfB:=((Fr.refl (fun _=>False) wA).alloc (.cells #[.int .i64 i] 3)).drew
   have hbB:(wA.alloc (.cells #[.int .i64 i] 3)).drew.heap[z+1]? =some (.cells #[.int .i64 i] 3 (0,0)):=by
    rw[←hsA]
    exact heap_alloc_new wA (.cells #[.int .i64 i] 3)
   have hsB:(wA.alloc (.cells #[.int .i64 i] 3)).drew.heap.size=wA.heap.size+1:=World.size_alloc _ _
   obtain⟨kl,hkl⟩:=word_key x0 x1 x2
   have hHL:=HL.out
   have hszr:=hHL.fr.size
   obtain⟨v1,zs,st,w3,hrun,f3,s3,r3,u3,l3,b3,back⟩:=(hmA.keep hfB (off_none _)).entry (by rw[hsB];omega) (by simp only[maxLen];omega) hkl
   have HBK:=Hd back
   have HF3:=Hd f3
   have HR3:=Hd r3
   have HU3:=Hd u3
   have HB3:=Hd b3
   have HFB:=Hd (hfA.trans hfB)
   have d3:=cell_in (i:=3) hbA rfl
   obtain⟨e0,e1,e2⟩:=cs3 hxA rfl rfl rfl
   have d3':=cell_in (i:=3) (hfB.keep hbA (fun h=>h)) rfl
   have e0':=cell_in (i:=0) (hfB.keep hxA (fun h=>h)) rfl
   have e1':=cell_in (i:=1) (hfB.keep hxA (fun h=>h)) rfl
   have e2':=cell_in (i:=2) (hfB.keep hxA (fun h=>h)) rfl
   have HSRC:=Hd (one_int i (f3.keep hbB (fun e=>by
    have h1:=lt_of_block hHL.box
    omega)))
   have hMz:=lt_of_block hHL.box
   clear back f3 r3 u3 b3 hbA hxA hmA hfA hfB hbB
   simp only[wordV,bv] at hrun
   obtain⟨i0,hi0,hz0,hz1,hz2⟩:=info_parts infoInt
   go_region_law (first
    | (refine step_append_any w3 rfl _ _ 94 94 rfl 3 i0 (.int .i64 0) 1 8 Tryz.underlying94 hi0 hz0 hz1 hz2 rfl (by decide) v1 zs.length (ints zs) rfl HR3.out _ 1 [.int .i64 i] rfl HSRC.out (by simp only [maxLen]; omega) (by omega) ?_
       intro v4 w4 hown4 hfr4 hnew4 _
       have HG4:=Hd hfr4
       obtain⟨w5,hst,hf5,hs5,hm5⟩:=HBK.out (fun k=>v1.ownBlock=some k) w4 v4 (zs++[i]) hfr4 (fun k h _=>h) (by unfold VRow;rw[List.length_append,ints_snoc];exact hown4) HU3.out.snoc (by simp;omega) hnew4
       simp only[goInt] at hst
       have HF5:=Hd hf5
       have HM5:=Hd hm5
       clear hown4 hfr4 hnew4 hf5 hm5 hs5))
   all_goals
    have hwB:wr.heap.size=z:=hwz
    have FIN:=Hd (show NL w (M+1) M data dict (.slice dp data.length dc) (i+1) w5 from by
     have hF:=(((HFB.out.mono (T:=fun k=>k=M∨v1.ownBlock=some k) (fun _ _ h=>h.elim)).trans (HF3.out.mono (fun _ _ h=>.inl h))).trans (HG4.out.mono (fun _ _ h=>.inr h))).trans (HF5.out.mono (fun _ _ h=>.inl h))
     refine HL.out.next hF HMW.out (fun k hk=> ?_) (fun k hk hlt=> ?_) HM5.out
     ·rcases hk with rfl|hk
      ·exact HMW.out
      ·exact HB3.out k hk
     ·rcases hk with rfl|hk
      ·exact .inl rfl
      ·rcases row_off HF3.out HR3.out hk (by rw[hsB];omega) with h1|⟨cs,fr,h1⟩
       ·exact .inl h1
       ·exact .inr ⟨cs,fr,(HFB.out.block k hlt (fun h=>h)).symm.trans h1⟩)
    clear HBK HSRC HG4 HF5 HM5 HR3 HU3 HB3 HF3 HFB HL hHL
    go_wp2_with fail
    go_roundw
    ·exact⟨i+1,by go_num,by omega,FIN.out⟩
    ·simp[intOf];omega
  ·have HL:=Hd hL
   clear hL
   go_wp2_with fail
   go_ret2
   have hL:=HL.out
   have hHM:=HMW.out
   exact⟨hL.fr,M+1,_,M,rfl,⟨hL.box,hL.own.own,hL.map.top (by omega)⟩,by omega⟩
end Fi
end Go.Proofs.YtffoddpjfgjelaaGreatDoor
