/- Part 30 of 48: lemmas of the last part, each under the conditions that it names. -/
import Derived.WalkKit
import Derived.WalkSpells
import Derived.Deep.QuietTactic
import Derived.Deep.LoopGhost
import Derived.BigQuiet
import Derived.Laws.Rows
import Derived.Deep.RegionLaw
import Derived.Test.YtffoddpjfgjelaaGreatDoorQ03
import Derived.Test.YtffoddpjfgjelaaGreatDoorQ16
import Derived.Test.YtffoddpjfgjelaaGreatDoorQ26
import Derived.Test.YtffoddpjfgjelaaGreatDoorQ29
set_option linter.unusedVariables false
set_option linter.unusedSimpArgs false
set_option maxRecDepth 1500
set_option maxHeartbeats 4000000
namespace Go.Proofs.YtffoddpjfgjelaaGreatDoor
open Go.RowKit
namespace Fi
open Mem
abbrev ptr(B:Nat):Value:=.pointer (some ⟨B,0,none⟩)
theorem VRow.slice{w:World}{v:Value}{zs:List Nat}(h:VRow w v zs):∃a cap,v=.slice a zs.length cap∧zs.length≤cap∧cap≤maxLen∧(0<zs.length→∃g,a=some ⟨g,0,none⟩∧∀(i z:Nat),zs[i]? =some z→w.cell? ⟨g,i,none⟩=some (.int .i64 z)):=by
 rcases h.2 with⟨rfl,h0⟩|⟨g,cap,cur,rfl,_,hg,hle,hm,hcs,ht⟩
 ·exact⟨none,0,by rw[h0],by omega,by simp[maxLen],by omega⟩
 ·refine⟨_,cap,rfl,hle,hm,fun _=>⟨g,rfl,fun i z hz=> ?_⟩⟩
  refine cell_in hg ?_
  rw[Nat.mul_one] at ht
  have h1:(ints zs)[i]? =some (.int .i64 z):=by simp[ints,hz]
  rw[←ht,List.getElem?_take] at h1
  split at h1
  ·simpa using h1
  ·cases h1
theorem ge_calls(Ba Bx g n cap p z i:Nat)(W:World)(ha:W.cell? ⟨Ba,0,none⟩=some (.slice (some ⟨g,0,none⟩) n cap))(hx:W.cell? ⟨Bx,0,none⟩=some (.int .i64 p))(hi:i<n)(hc:W.cell? ⟨g,i,none⟩=some (.int .i64 z)):
 Calls Tryz.prog 281 #[.int .i64 i,ptr Ba,ptr Bx] W fun e w'=>e=.returned (.bool (decide (p≤z)))∧Fr (fun _=>False) W w':=by
 have i1:(0:Int)≤(i:Int):=by omega
 have i2:(i:Int)<(n:Int):=by omega
 go_enter Tryz.func281,Tryz.ntmps281
 go_wp2_with fail
 go_quiet (fail)
 go_wp2_with fail
 go_ret
 exact⟨by simp,(Fr.refl _ _).drewN _⟩
theorem up_lt{n:Nat}{zs:List Nat}(h:Up n zs){t u y z:Nat}(ht:t≤u)(hy:zs[t]? =some y)(hz:zs[u]? =some z):y≤z:=by
 rcases Nat.lt_or_ge t u with h1|h1
 ·obtain⟨a1,a2⟩:=List.getElem?_eq_some_iff.1 hy
  obtain⟨b1,b2⟩:=List.getElem?_eq_some_iff.1 hz
  have:=List.pairwise_iff_getElem.1 h.1 t u a1 b1 h1
  omega
 ·obtain rfl:t=u:=by omega
  rw[hy] at hz
  cases hz
  exact Nat.le_refl _
set_option maxRecDepth 100000 in
theorem search_calls(Ba Bx p:Nat)(v:Value)(zs:List Nat)(n:Nat)(W:World)(ha:W.cell? ⟨Ba,0,none⟩=some v)(hx:W.cell? ⟨Bx,0,none⟩=some (.int .i64 p))(hv:VRow W v zs)(hu:Up n zs)(hb:zs.length≤1152921504606846976):
 Calls Tryz.prog 280 #[.int .i64 zs.length,.func (.func 281) #[] #[ptr Ba,ptr Bx]] W fun e w'=>Fr (fun _=>False) W w'∧∃k:Nat,e=.returned (.int .i64 k)∧k≤zs.length∧∀t z,t<k→zs[t]? =some z→z<p:=by
 obtain⟨a,cap,rfl,_,_,hcs⟩:=hv.slice
 have HX:=Hd hx
 have HA:=Hd ha
 have HC:=Hd hcs
 have HU:=Hd hu
 generalize hn:zs.length=N at*
 have HN:=Hd hn
 clear hx ha hcs hu hv hn
 go_enter Tryz.func280,Tryz.ntmps280
 go_wp2_with fail
 go_loopg [5,6] N (fun kx s5 s6 wr=>∃(lo hi:Nat),s5=.int .i64 lo∧s6=.int .i64 hi∧lo≤hi∧hi≤N∧hi-lo≤kx∧Fr (fun _=>False) W wr∧Hid (∀t z,t<lo→zs[t]? =some z→z<p))
 case atStart=>exact⟨0,N,rfl,rfl,Nat.zero_le _,Nat.le_refl _,by omega,Fr.refl _ _,Hd (fun t z h=>absurd h (Nat.not_lt_zero _))⟩
 case round=>
  obtain⟨lo,hi,rfl,rfl,hlh,hin,hg,hfr,I⟩:=hrel
  by_cases hlt:lo<hi
  ·obtain⟨g,rfl,hc⟩:=HC.out (by omega)
   have hm:(lo+hi)/2<zs.length:=by rw[HN.out];omega
   obtain⟨z,hz⟩:∃z,zs[(lo+hi)/2]? =some z:=⟨zs[(lo+hi)/2],by simp[hm]⟩
   have hfa:=fun{b i:Nat}{u:Value}(h:W.cell? ⟨b,i,none⟩=some u)=>(show wr.cell? ⟨b,i,none⟩=some u from by
    have hbk:wr.heap[b]? =W.heap[b]? :=hfr.block b (block_lt_of_cell h) (fun h=>h)
    rw[World.cell?_of_block hbk]
    exact h)
   have HG:=Hd (ge_calls Ba Bx g N cap p z ((lo+hi)/2) wr (hfa HA.out) (hfa HX.out) (by omega) (hfa (hc _ _ hz)))
   have HFR:=Hd hfr
   have HZ:=Hd hz
   clear hfa hz hfr hc
   rw[show(((lo+hi)/2:Nat):Int)=((lo:Int)+(hi:Int))/2 by omega] at HG
   by_cases hp:p≤z
   ·rw[show decide (p≤z)=true by simp[hp]] at HG
    go_wp2_with fail
    refine HG.out.mono ?_
    rintro e w' ⟨rfl,hfr2⟩
    go_wp2_with fail
    go_roundg ((lo+hi)/2-lo)
    case measure=>omega
    case rel=>exact⟨lo,(lo+hi)/2,rfl,by rw[show((lo:Int)+(hi:Int))/2=(((lo+hi)/2:Nat):Int) by omega],by omega,by omega,Nat.le_refl _,HFR.out.trans hfr2,I⟩
   ·rw[show decide (p≤z)=false by simp[hp]] at HG
    go_wp2_with fail
    refine HG.out.mono ?_
    rintro e w' ⟨rfl,hfr2⟩
    go_wp2_with fail
    go_roundg (hi-((lo+hi)/2+1))
    case measure=>omega
    case rel=>
     refine⟨(lo+hi)/2+1,hi,by rw[show((lo:Int)+(hi:Int))/2+1=(((lo+hi)/2+1:Nat):Int) by omega],rfl,by omega,hin,Nat.le_refl _,HFR.out.trans hfr2,Hd (fun t y ht hy=> ?_)⟩
     have:=up_lt HU.out (show t≤(lo+hi)/2 by omega) hy HZ.out
     omega
  ·obtain rfl:hi=lo:=by omega
   go_wp2_with fail
   go_ret
   exact⟨hfr,hi,rfl,hin,I.out⟩
set_option maxRecDepth 100000 in
theorem searchInts_calls(v:Value)(zs:List Nat)(n p:Nat)(w:World)(hv:VRow w v zs)(hu:Up n zs)(hb:zs.length≤1152921504606846976):
 Calls Tryz.prog 264 #[v,.int .i64 p] w fun e w'=>Fr (fun _=>False) w w'∧∃k:Nat,e=.returned (.int .i64 k)∧k≤zs.length∧∀t z,t<k→zs[t]? =some z→z<p:=by
 have hf:=((R0 w).alloc (.cells #[v] 94)).alloc (.cells #[.int .i64 p] 3)
 have h1:=((R0 (w.alloc (.cells #[v] 94))).alloc (.cells #[.int .i64 p] 3)).keep (heap_alloc_new w (.cells #[v] 94)) (fun h=>h)
 have h2:=heap_alloc_new (w.alloc (.cells #[v] 94)) (.cells #[.int .i64 p] 3)
 rw[World.size_alloc] at h2
 have HS:=Hd (search_calls w.heap.size (w.heap.size+1) p v zs n _ (cell_in (i:=0) h1 rfl) (cell_in (i:=0) h2 rfl) (hv.step hf (fun _ _ h=>h)) hu hb)
 have HF:=Hd hf
 have c1:=cell_in (i:=0) h1 rfl
 obtain⟨a,cap,rfl,_,_,_⟩:=hv.slice
 clear hv hu h1 h2 hf
 go_enter Tryz.func264,Tryz.ntmps264
 go_wp2_with fail
 refine HS.out.mono ?_
 rintro e w' ⟨hfr,k,rfl,hk1,hk2⟩
 go_wp2_with fail
 go_ret
 exact⟨HF.out.trans hfr,k,rfl,hk1,hk2⟩
end Fi
namespace Fi
open Mem Win
set_option maxRecDepth 100000 in
theorem clone_calls(v:Value)(xs:List UInt8)(w:World)(h:Rd w v xs)(hb:xs.length≤70368744177664):
    Calls Tryz.prog 234 #[v] w fun e w'=>Fr (fun _=>False) w w'∧∃v',e=.returned v'∧Mine w w' v' xs:=by
  obtain⟨p,cap,rfl,h1,h2,h3⟩:=h
  have hnil:=Lib.run_eql_slice_nil (P:=Tryz.prog) w 22 5 p xs.length cap 0 0 Tryz.underlying22
  cases p with
  |none=>
    have h0:xs=[]:=by
      cases xs with
      |nil=>rfl
      |cons x xs=>
        obtain⟨b,o,e,_⟩:=h3 (by simp)
        cases e
    subst h0
    simp only[Option.isNone_none,List.length_nil] at hnil
    clear h1 h3 hb
    go_enter Tryz.func234,Tryz.ntmps234
    go_wp2_with fail
    go_ret
    exact⟨Fr.refl _ _,_,rfl,Mine.nil _ _⟩
  |some a=>
    simp only[Option.isNone_some] at hnil
    have hfa:=(R0 w).alloc (.cells #[] 5)
    have hm0:Mine w (w.alloc (.cells #[] 5)) (.slice (some ⟨w.heap.size,0,none⟩) 0 0) []:=by
      have h1:=World.ownsRow_made (base:=0) (e:=5) (size:=1) w #[] 0 (Nat.zero_le _) (by decide) rfl
      refine⟨h1,fun k hk=> ?_⟩
      simp only[Value.ownBlock,Option.some.injEq] at hk
      omega
    have HA:=Hd hfa
    have HM0:=Hd hm0
    have HR:=Hd (Rd.keep ⟨some a,cap,rfl,h1,h2,h3⟩ hfa)
    have HB:=Hd hb
    clear hfa hm0 h1 h2 h3 hb
    go_enter Tryz.func234,Tryz.ntmps234
    go_wp2_with (at_builtin;(refine append_mine rfl _ _ rfl (w0:=w) (.slice (some ⟨w.heap.size,0,none⟩) 0 0) (.slice (some a) xs.length cap) [] xs rfl rfl HM0.out HA.out.size HR.out (by have:=HB.out;simp only[List.length_nil];omega) ?_);intro p2 cap2 n2 w2 hn2 hM2 hfr2 hnew2;have HM2:=Hd hM2;have HF2:=Hd (HA.out.trans' hfr2 (fun k h1 h2=>by
         simp only[Value.ownBlock,Option.some.injEq] at h2
         omega));clear hn2 hM2 hfr2 hnew2)
    go_ret
    have hM:=HM2.out
    rw[List.nil_append] at hM
    exact⟨HF2.out,_,rfl,hM⟩
structure FiAt(w:World)(F:Nat)(data:List UInt8)(dict pos:Nat)(dv:Value)(M B:Nat):Prop where
 box:w.heap[F]? =some (.cells #[dv,.int .i64 dict,.int .i64 pos,.map (some M)] 315 (0,0))
 own:w.ownsRow 0 5 1 dv data.length (bvs data)
 map:MapAt w M data.length B
structure NL(w:World)(F M:Nat)(data:List UInt8)(dict:Nat)(dv:Value)(i:Nat)(wr:World):Prop where
 fr:Fr (fun _=>False) w wr
 box:wr.heap[F]? =some (.cells #[dv,.int .i64 dict,.int .i64 0,.map (some M)] 315 (0,0))
 own:Mine w wr dv data
 map:MapAt wr M i w.heap.size
theorem NL.next{w wr w3:World}{M:Nat}{data:List UInt8}{dict i:Nat}{dv:Value}(h:NL w (M+1) M data dict dv i wr){S:Nat→Prop}(hf:Fr S wr w3)(hM:w.heap.size≤M)(hlow:∀k,S k→w.heap.size≤k)(hS:∀k,S k→k<wr.heap.size→k=M∨∃cs fr,wr.heap[k]? =some (.cells cs 3 fr))
 (hm:MapAt w3 M (i+1) w.heap.size):NL w (M+1) M data dict dv (i+1) w3:=by
 have off:∀{k:Nat}{cs:Array Value}{t:TypeId}{fr:Nat×Nat},wr.heap[k]? =some (.cells cs t fr)→t≠3→¬S k:=by
  intro k cs t fr hk ht hs
  rcases hS k hs (lt_of_block hk) with rfl|⟨cs',fr',e⟩
  ·obtain⟨es,c,hmi⟩:=h.map
   rw[hmi.box] at hk
   cases hk
  ·rw[hk] at e
   simp only[Option.some.injEq,Obj.cells.injEq] at e
   exact ht e.2.1
 refine⟨h.fr.trans' hf (fun k hk hs=>by have:=hlow k hs;omega),hf.keep h.box (off h.box (by decide)),⟨own_step h.own.own hf (fun k hk=> ?_),h.own.new⟩,hm⟩
 rcases h.own.own.2 with⟨rfl,_⟩|⟨g,cap,cur,rfl,_,hg,_⟩
 ·simp[Value.ownBlock] at hk
 ·simp only[Value.ownBlock,Option.some.injEq] at hk
  subst hk
  exact off hg (by decide)
theorem row_off{W0 w1:World}{M k:Nat}{v:Value}{zs:List Nat}(hf:Fr (fun k=>k=M) W0 w1)(hr:VRow w1 v zs)(hk:v.ownBlock=some k)(hlt:k<W0.heap.size):k=M∨∃cs fr,W0.heap[k]? =some (.cells cs 3 fr):=by
 by_cases h:k=M
 ·exact .inl h
 ·obtain⟨cs,hc⟩:=hr.block hk
  exact .inr ⟨cs,_,(hf.block k hlt h).symm.trans hc⟩
theorem ints_snoc(zs:List Nat)(i:Nat):ints (zs++[i])=ints zs++[.int .i64 (i:Int)]:=by simp[ints]
theorem one_int{w:World}{g:Nat}(i:Nat)(h:w.heap[g]? =some (.cells #[.int .i64 (i:Int)] 3 (0,0))):Src Tryz.prog 1 94 (.slice (some ⟨g,0,none⟩) 1 1) 1 [.int .i64 (i:Int)] w:=
 src_own w Tryz.underlying94 (own_row (xs:=[.int .i64 (i:Int)]) h rfl (by simp[maxLen])) (by simp[Value.oneCell'])
theorem MapAt.top{w:World}{M n m B:Nat}(h:MapAt w M n B)(hm:n≤m):MapAt w M m B:=by
 obtain⟨es,c,h⟩:=h
 refine⟨es,c,h.box,h.fit,Nat.le_trans h.few hm,fun x hx=> ?_,h.apart,h.low⟩
 obtain⟨zs,a,b,c⟩:=h.rows x hx
 exact⟨zs,a,b.mono hm,Nat.le_trans c hm⟩
theorem infoInt:(Tryz.prog.info? 3).map (fun i=>(i.zero,i.size,i.bytes))=some (some (.int .i64 0),1,8):=by kernel_rfl
theorem array_at(a:Option Addr)(n cap:Nat)(h:3≤n)(W:World):(Instr.arrayAt 363 (.slice a n cap)).run Tryz.prog W=.ok (.pointer a) W:=by
 have hn:¬n<3:=by omega
 simp[Instr.arrayAt,run_underlying Tryz.underlying363,Result.andThen,hn]
set_option maxRecDepth 100000 in
theorem new_calls(v:Value)(data:List UInt8)(dict:Nat)(w:World)(h:Rd w v data)(hb:data.length≤1099511627776)(hd1:1≤dict)(hd2:dict≤4294967295):
 Calls Tryz.prog 180 #[v,.int .i64 dict] w fun e w'=>Fr (fun _=>False) w w'∧∃F dv M,e=.returned (.tuple #[ptr F,.int .i64 0])∧FiAt w' F data dict 0 dv M w.heap.size∧w.heap.size≤F:=by
 obtain⟨p,cap,rfl,h1,h2,h3⟩:=h
 have hr:Rd w (.slice p data.length cap) data:=⟨p,cap,rfl,h1,h2,h3⟩
 have HC:=Hd (clone_calls _ data w hr (by omega))
 have HR:=Hd hr
 have HB:=Hd hb
 have hmm:=@run_makeMap Tryz.prog
 clear hr hb h1 h2 h3
 go_enter Tryz.func180,Tryz.ntmps180
 go_wp2_with fail
 refine HC.out.mono ?_
 rintro e w1 ⟨hf1,dv,rfl,hM1⟩
 obtain⟨dp,dc,rfl⟩:=hM1.slice
 have hf3:=((R0 w1).alloc (.map #[] 0)).alloc (.cells #[.slice dp data.length dc,.int .i64 dict,.int .i64 0,.map (some w1.heap.size)] 315)
 have hbx:=heap_alloc_new (w1.alloc (.map #[] 0)) (.cells #[.slice dp data.length dc,.int .i64 dict,.int .i64 0,.map (some w1.heap.size)] 315)
 have hmp:=((R0 (w1.alloc (.map #[] 0))).alloc (.cells #[.slice dp data.length dc,.int .i64 dict,.int .i64 0,.map (some w1.heap.size)] 315)).keep (heap_alloc_new w1 (.map #[] 0)) (fun h=>h)
 rw[World.size_alloc] at hbx
 have H0:=Hd (show NL w (w1.heap.size+1) w1.heap.size data dict (.slice dp data.length dc) 0 ((w1.alloc (.map #[] 0)).alloc (.cells #[.slice dp data.length dc,.int .i64 dict,.int .i64 0,.map (some w1.heap.size)] 315)) from
  ⟨hf1.trans hf3,hbx,hM1.keep hf3,map_made _ hmp⟩)
 have hs1:=hf1.size
 clear hf3 hbx hmp hf1 hM1
 go_wp2_with fail
 generalize hW2:(w1.alloc (.map #[] 0)).alloc (.cells #[.slice dp data.length dc,.int .i64 dict,.int .i64 0,.map (some w1.heap.size)] 315)=W2 at*
 generalize w1.heap.size=M at*
 clear hW2
 have HMW:=Hd hs1
 clear hs1
 go_loopw [7](fun s7 wr=>∃i:Nat,s7=.int .i64 i∧i≤data.length∧NL w (M+1) M data dict (.slice dp data.length dc) i wr) (fun s7 _=>data.length-(intOf s7).toNat)
 case atStart=>exact⟨0,rfl,Nat.zero_le _,H0.out⟩
 case round=>
  obtain⟨i,rfl,hi,hL⟩:=hrel
  have hbd:=HB.out
  by_cases hlt:i+3≤data.length
  ·obtain⟨b,o,rfl,hcs⟩:∃b o,p=some ⟨b,o,none⟩∧∀(j:Nat)(x:UInt8),data[j]? =some x→w.cell? ⟨b,o+j,none⟩=some (bv x):=by
    obtain⟨p',c',e,_,_,h3⟩:=HR.out
    simp only[Value.slice.injEq] at e
    obtain⟨rfl,_,rfl⟩:=e
    exact h3 (by omega)
   have hcap:data.length≤cap:=by
    obtain⟨p',c',e,h1,_,_⟩:=HR.out
    simp only[Value.slice.injEq] at e
    omega
   have hcw:∀(j:Nat)(x:UInt8),data[j]? =some x→wr.cell? ⟨b,o+j,none⟩=some (bv x):=fun j x hx=>by
    have h1:=hcs j x hx
    rw[World.cell?_of_block (hL.fr.block b (block_lt_of_cell h1) (fun h=>h))]
    exact h1
   obtain⟨x0,hx0⟩:∃x,data[i]? =some x:=⟨data[i],by simp⟩
   obtain⟨x1,hx1⟩:∃x,data[i+1]? =some x:=⟨data[i+1],by simp⟩
   obtain⟨x2,hx2⟩:∃x,data[i+2]? =some x:=⟨data[i+2],by simp⟩
   have c0:wr.cell? ⟨b,o+i,none⟩=some (.int .u8 x0.toNat):=hcw _ _ hx0
   have c1:wr.cell? ⟨b,o+i+1,none⟩=some (.int .u8 x1.toNat):=hcw _ _ hx1
   have c2:wr.cell? ⟨b,o+i+2,none⟩=some (.int .u8 x2.toNat):=hcw _ _ hx2
   have hsl:=slice_l (some ⟨b,o,none⟩) data.length cap i (by omega)
   rw[show dropP (some ⟨b,o,none⟩) cap i=some ⟨b,o+i,none⟩ by unfold dropP;rw[if_neg (by omega)];simp[add_mid]] at hsl
   have harr:=array_at (some ⟨b,o+i,none⟩) (data.length-i) (cap-i) (by omega)
   have HL:=Hd hL
   clear hcs hcw hx0 hx1 hx2 hL
   go_wp2_with fail
   have hfA:=(R0 wr).alloc (.cells #[.int .u8 x0.toNat,.int .u8 x1.toNat,.int .u8 x2.toNat] 363)
   have hxA:=heap_alloc_new wr (.cells #[.int .u8 x0.toNat,.int .u8 x1.toNat,.int .u8 x2.toNat] 363)
   have hmA:=HL.out.map.keep hfA (off_none _)
   have hbA:=hfA.keep HL.out.box (fun h=>h)
   have hsA:(wr.alloc (.cells #[.int .u8 x0.toNat,.int .u8 x1.toNat,.int .u8 x2.toNat] 363)).heap.size=wr.heap.size+1:=World.size_alloc _ _
   clear c0 c1 c2 hsl harr
   generalize wr.alloc (.cells #[.int .u8 x0.toNat,.int .u8 x1.toNat,.int .u8 x2.toNat] 363)=wA at*
   generalize hwz:wr.heap.size=z at*
   have hfB:=((R0 wA).alloc (.cells #[.int .i64 i] 3)).drew
   have hbB:(wA.alloc (.cells #[.int .i64 i] 3)).drew.heap[z+1]? =some (.cells #[.int .i64 i] 3 (0,0)):=by
    rw[←hsA]
    exact heap_alloc_new wA (.cells #[.int .i64 i] 3)
   have hsB:(wA.alloc (.cells #[.int .i64 i] 3)).drew.heap.size=wA.heap.size+1:=World.size_alloc _ _
   obtain⟨kl,hkl⟩:=word_key x0 x1 x2
   have hHL:=HL.out
   have hszr:=hHL.fr.size
   obtain⟨v1,zs,st,w3,hrun,f3,s3,r3,u3,l3,b3,back⟩:=(hmA.keep hfB (off_none _)).entry (by rw[hsB];omega) (by simp only[maxLen];omega) hkl
   have HBK:=Hd back
   have HF3:=Hd f3
   have HR3:=Hd r3
   have HU3:=Hd u3
   have HB3:=Hd b3
   have HFB:=Hd (hfA.trans hfB)
   have d3:=cell_in (i:=3) hbA rfl
   obtain⟨e0,e1,e2⟩:=cs3 hxA rfl rfl rfl
   have d3':=cell_in (i:=3) (hfB.keep hbA (fun h=>h)) rfl
   have e0':=cell_in (i:=0) (hfB.keep hxA (fun h=>h)) rfl
   have e1':=cell_in (i:=1) (hfB.keep hxA (fun h=>h)) rfl
   have e2':=cell_in (i:=2) (hfB.keep hxA (fun h=>h)) rfl
   have HSRC:=Hd (one_int i (f3.keep hbB (fun e=>by
    have h1:=lt_of_block hHL.box
    omega)))
   have hMz:=lt_of_block hHL.box
   clear back f3 r3 u3 b3 hbA hxA hmA hfA hfB hbB
   simp only[wordV,bv] at hrun
   obtain⟨i0,hi0,hz0,hz1,hz2⟩:=info_parts infoInt
   go_region_law (first
    | (refine step_append_any w3 rfl _ _ 94 94 rfl 3 i0 (.int .i64 0) 1 8 Tryz.underlying94 hi0 hz0 hz1 hz2 rfl (by decide) v1 zs.length (ints zs) rfl HR3.out _ 1 [.int .i64 i] rfl HSRC.out (by simp only [maxLen]; omega) (by omega) ?_
       intro v4 w4 hown4 hfr4 hnew4 _
       have HG4:=Hd hfr4
       obtain⟨w5,hst,hf5,hs5,hm5⟩:=HBK.out (fun k=>v1.ownBlock=some k) w4 v4 (zs++[i]) hfr4 (fun k h _=>h) (by unfold VRow;rw[List.length_append,ints_snoc];exact hown4) HU3.out.snoc (by simp;omega) hnew4
       simp only[goInt] at hst
       have HF5:=Hd hf5
       have HM5:=Hd hm5
       clear hown4 hfr4 hnew4 hf5 hm5 hs5))
   all_goals
    have hwB:wr.heap.size=z:=hwz
    have FIN:=Hd (show NL w (M+1) M data dict (.slice dp data.length dc) (i+1) w5 from by
     have hF:=(((HFB.out.mono (T:=fun k=>k=M∨v1.ownBlock=some k) (fun _ _ h=>h.elim)).trans (HF3.out.mono (fun _ _ h=>.inl h))).trans (HG4.out.mono (fun _ _ h=>.inr h))).trans (HF5.out.mono (fun _ _ h=>.inl h))
     refine HL.out.next hF HMW.out (fun k hk=> ?_) (fun k hk hlt=> ?_) HM5.out
     ·rcases hk with rfl|hk
      ·exact HMW.out
      ·exact HB3.out k hk
     ·rcases hk with rfl|hk
      ·exact .inl rfl
      ·rcases row_off HF3.out HR3.out hk (by rw[hsB];omega) with h1|⟨cs,fr,h1⟩
       ·exact .inl h1
       ·exact .inr ⟨cs,fr,(HFB.out.block k hlt (fun h=>h)).symm.trans h1⟩)
    clear HBK HSRC HG4 HF5 HM5 HR3 HU3 HB3 HF3 HFB HL hHL
    go_wp2_with fail
    go_roundw
    ·exact⟨i+1,by go_num,by omega,FIN.out⟩
    ·simp[intOf];omega
  ·have HL:=Hd hL
   clear hL
   go_wp2_with fail
   go_ret2
   have hL:=HL.out
   have hHM:=HMW.out
   exact⟨hL.fr,M+1,_,M,rfl,⟨hL.box,hL.own.own,hL.map.top (by omega)⟩,by omega⟩
end Fi
namespace Fi
open Mem Win
theorem FiAt.off{w:World}{F dict pos M B:Nat}{data:List UInt8}{dv:Value}(h:FiAt w F data dict pos dv M B):Off w (fun k=>k=F):=fun k hk _=>by
 subst hk
 exact⟨_,_,_,h.box,by decide⟩
theorem FiAt.keep{S:Nat→Prop}{w w':World}{F dict pos M B:Nat}{data:List UInt8}{dv:Value}(h:FiAt w F data dict pos dv M B)(hf:Fr S w w')
 (hS:∀k,S k→k<w.heap.size→∃cs t fr,w.heap[k]? =some (.cells cs t fr)∧t≠3∧t≠5∧t≠315):FiAt w' F data dict pos dv M B:=by
 have off:∀{k:Nat}{cs:Array Value}{t:TypeId}{fr:Nat×Nat},w.heap[k]? =some (.cells cs t fr)→t=5∨t=315→¬S k:=by
  intro k cs t fr hk ht hs
  obtain⟨cs',t',fr',e,e1,e2,e3⟩:=hS k hs (lt_of_block hk)
  rw[hk] at e
  simp only[Option.some.injEq,Obj.cells.injEq] at e
  rw[e.2.1] at ht
  exact ht.elim e2 e3
 refine⟨hf.keep h.box (off h.box (.inr rfl)),own_step h.own hf (fun k hk=> ?_),h.map.keep hf (fun k hk hlt=> ?_)⟩
 ·rcases h.own.2 with⟨rfl,_⟩|⟨g,cap,cur,rfl,_,hg,_⟩
  ·simp[Value.ownBlock] at hk
  ·simp only[Value.ownBlock,Option.some.injEq] at hk
   subst hk
   exact off hg (.inl rfl)
 ·obtain⟨cs,t,fr,e,e1,_⟩:=hS k hk hlt
  exact⟨cs,t,fr,e,e1⟩
theorem FiAt.still{w w':World}{F dict pos M B:Nat}{data:List UInt8}{dv:Value}(h:FiAt w F data dict pos dv M B)(hf:Fr (fun _=>False) w w'):FiAt w' F data dict pos dv M B:=h.keep hf (fun _ h=>h.elim)
theorem FiAt.bytes{w:World}{F dict pos M B:Nat}{data:List UInt8}{dv:Value}(h:FiAt w F data dict pos dv M B)(h0:0<data.length):∃g cap,dv=.slice (some ⟨g,0,none⟩) data.length cap∧∀(i:Nat)(x:UInt8),data[i]? =some x→w.cell? ⟨g,i,none⟩=some (bv x):=by
 rcases h.own.2 with⟨rfl,h1⟩|⟨g,cap,cur,rfl,_,hg,_⟩
 ·omega
 ·refine⟨g,cap,rfl,fun i x hx=> ?_⟩
  obtain⟨p,c,e,_,_,h3⟩:=Rd.of_own h.own
  obtain⟨b,o,e2,hc⟩:=h3 h0
  simp only[Value.slice.injEq] at e
  rw[e2] at e
  simp only[Option.some.injEq,Addr.mk.injEq,and_true] at e
  have h4:=hc i x hx
  rw[←e.1.1,←e.1.2,Nat.zero_add] at h4
  exact h4
theorem FiAt.dslice{w:World}{F dict pos M B:Nat}{data:List UInt8}{dv:Value}(h:FiAt w F data dict pos dv M B):∃a cap,dv=.slice a data.length cap∧data.length≤cap:=by
 obtain⟨p,c,e,h1,_⟩:=Rd.of_own h.own
 exact⟨p,c,e,h1⟩
set_option maxRecDepth 100000 in
theorem skip_calls(F dict pos n M B:Nat)(data:List UInt8)(dv:Value)(w:World)(h:FiAt w F data dict pos dv M B)(hn:pos+n≤data.length)(hb:data.length≤1099511627776):
 Calls Tryz.prog 127 #[ptr F,.int .i64 n] w fun e w'=>e=.returned (.int .i64 0)∧Fr (fun k=>k=F) w w'∧FiAt w' F data dict (pos+n) dv M B:=by
 obtain⟨a,cap,rfl,_⟩:=h.dslice
 have hbx:=h.box
 have c0:=cell_in (i:=0) hbx rfl
 have c2:=cell_in (i:=2) hbx rfl
 have cf:=fun i=>frozen_in hbx i
 have e1:decide ((n:Int)<0)=false:=by simp
 have e2:decide (((data.length:Int)-(pos:Int))<(n:Int))=false:=by simp;omega
 have FIN:=Hd (show∀m,FiAt ((w.drewN m).setCell ⟨F,2,none⟩ (.int .i64 (pos+n))) F data dict (pos+n) (.slice a data.length cap) M B from fun m=>by
  have h1:=h.still ((R0 w).drewN m)
  have hf:=Fr.one (w.drewN m) F 2 (.int .i64 ((pos:Int)+(n:Int)))
  refine⟨?_,own_step h1.own hf (fun k hk=> ?_),h1.map.keep hf h1.off⟩
  ·have:=set_in h1.box 2 (.int .i64 ((pos:Int)+(n:Int)))
   exact this
  ·rcases h1.own.2 with⟨e,_⟩|⟨g,cap',cur,e,_,hg,_⟩
   ·rw[e] at hk
    simp[Value.ownBlock] at hk
   ·rw[e] at hk
    simp only[Value.ownBlock,Option.some.injEq] at hk
    subst hk
    rintro rfl
    rw[h1.box] at hg
    simp only[Option.some.injEq,Obj.cells.injEq] at hg
    exact absurd hg.2.1 (by decide))
 clear h hbx
 go_enter Tryz.func127,Tryz.ntmps127
 go_wp2_with fail
 go_quiet (fail)
 go_wp2_with fail
 go_ret
 exact⟨rfl,((Fr.refl (fun k=>k=F) w).drewN _).trans (Fr.one _ F 2 _),FIN.out _⟩
set_option maxRecDepth 100000 in
theorem long_calls(F dict pos q p most M B:Nat)(data:List UInt8)(dv:Value)(w:World)(h:FiAt w F data dict pos dv M B)(hq:q≤p)(hp:p+most≤data.length)(hb:data.length≤1099511627776):
 Calls Tryz.prog 265 #[ptr F,.int .i64 q,.int .i64 p,.int .i64 most] w fun e w'=>Fr (fun _=>False) w w'∧∃n:Nat,e=.returned (.int .i64 n)∧n≤most∧∀j,j<n→data[p+j]? =data[q+j]? :=by
 have HH:=Hd h
 obtain⟨a,cap,rfl,_⟩:=h.dslice
 clear h
 go_enter Tryz.func265,Tryz.ntmps265
 go_wp2_with fail
 go_loopw [9](fun s9 wr=>∃n:Nat,s9=.int .i64 n∧n≤most∧(∀j,j<n→data[p+j]? =data[q+j]?)∧Fr (fun _=>False) w wr) (fun s9 _=>most-(intOf s9).toNat)
 case atStart=>exact⟨0,rfl,Nat.zero_le _,fun j hj=>absurd hj (Nat.not_lt_zero _),Fr.refl _ _⟩
 case round=>
  obtain⟨n,rfl,hn,hal,hfr⟩:=hrel
  by_cases hlt:n<most
  ·have hd:decide ((n:Int)<(most:Int))=true:=by simp;omega
   have hr:=HH.out.still hfr
   obtain⟨g,cp,e,hc⟩:=hr.bytes (by omega)
   simp only[Value.slice.injEq,true_and] at e
   obtain⟨rfl,rfl⟩:=e
   obtain⟨x,hx⟩:∃x,data[q+n]? =some x:=⟨data[q+n],by simp⟩
   obtain⟨y,hy⟩:∃y,data[p+n]? =some y:=⟨data[p+n],by simp⟩
   have c0:=cell_in (i:=0) hr.box rfl
   have cx:wr.cell? ⟨g,q+n,none⟩=some (.int .u8 x.toNat):=hc _ _ hx
   have cy:wr.cell? ⟨g,p+n,none⟩=some (.int .u8 y.toNat):=hc _ _ hy
   have i1:(0:Int)≤(q:Int)+(n:Int):=by omega
   have i2:(q:Int)+(n:Int)<(data.length:Int):=by omega
   have i3:(0:Int)≤(p:Int)+(n:Int):=by omega
   have i4:(p:Int)+(n:Int)<(data.length:Int):=by omega
   have HFR:=Hd hfr
   have HAL:=Hd hal
   have HX:=Hd hx
   have HY:=Hd hy
   clear hr hc hfr hal hx hy
   by_cases hxy:x=y
   ·have he:((x.toNat:Int)==(y.toNat:Int))=true:=by subst hxy;simp
    go_wp2_with fail
    go_quiet (fail)
    go_wp2_with fail
    go_roundw
    case rel=>
     refine⟨n+1,by go_num,by omega,fun j hj=> ?_,HFR.out.drewN _⟩
     by_cases hjn:j<n
     ·exact HAL.out j hjn
     ·obtain rfl:j=n:=by omega
      rw[HX.out,HY.out,hxy]
    case measure=>simp[intOf];omega
   ·have he:((x.toNat:Int)==(y.toNat:Int))=false:=by
     simp only[beq_eq_false_iff_ne,ne_eq,Int.natCast_inj]
     exact fun e=>hxy (UInt8.toNat_inj.1 e)
    go_wp2_with fail
    go_quiet (fail)
    go_wp2_with fail
    go_ret
    exact⟨HFR.out.drewN _,n,rfl,hn,HAL.out⟩
  ·have hd:decide ((n:Int)<(most:Int))=false:=by simp;omega
   go_wp2_with fail
   go_quiet (fail)
   go_wp2_with fail
   go_ret
   exact⟨hfr.drewN _,n,rfl,hn,hal⟩
end Fi
namespace Ga
open Mem Win
structure Own(T:TypeId)(z:Nat)(w0 w:World)(v:Value)(n:Nat)(xs:List Value):Prop where
 own:w.ownsRow 0 T z v n xs
 new:∀k,v.ownBlock=some k→w0.heap.size≤k
theorem Own.nil(T:TypeId)(z:Nat)(w0 w:World):Own T z w0 w (.slice none 0 0) 0 []:=⟨World.ownsRow_nil _ _ _ _,fun k hk=>by simp[Value.ownBlock] at hk⟩
theorem Own.step{S:Nat→Prop}{T:TypeId}{z n:Nat}{w0 w w':World}{v:Value}{xs:List Value}(h:Own T z w0 w v n xs)(hfr:Fr S w w')(hS:∀k,v.ownBlock=some k→¬S k):Own T z w0 w' v n xs:=⟨Lz.own_stepN h.own hfr hS,h.new⟩
theorem Own.keep{T:TypeId}{z n:Nat}{w0 w w':World}{v:Value}{xs:List Value}(h:Own T z w0 w v n xs)(hfr:Fr (fun _=>False) w w'):Own T z w0 w' v n xs:=h.step hfr (fun _ _ h=>h)
theorem Own.lt{T:TypeId}{z n:Nat}{w0 w:World}{v:Value}{xs:List Value}(h:Own T z w0 w v n xs):∀k,v.ownBlock=some k→k<w.heap.size:=fun k hk=>(World.ownsRow.lt h.own k hk).2
theorem Own.block{T:TypeId}{z n:Nat}{w0 w:World}{v:Value}{xs:List Value}(h:Own T z w0 w v n xs){k:Nat}(hk:v.ownBlock=some k):∃cur,w.heap[k]? =some (.cells cur T (0,0)):=Lz.own_block h.own hk
theorem Own.off{T t:TypeId}{z n i:Nat}{w0 w:World}{v:Value}{xs:List Value}{cs:Array Value}{fr:Nat×Nat}(h:Own T z w0 w v n xs)(hi:w.heap[i]? =some (.cells cs t fr))(ht:t≠T):v.ownBlock≠some i:=by
 intro hk
 obtain⟨cur,hc⟩:=h.block hk
 rw[hi] at hc
 simp only[Option.some.injEq,Obj.cells.injEq] at hc
 exact ht hc.2.1
theorem Own.slice{T:TypeId}{z n:Nat}{w0 w:World}{v:Value}{xs:List Value}(h:Own T z w0 w v n xs):∃p cap,v=.slice p n cap:=by
 rcases h.own.2 with⟨hn,h0⟩|⟨g,cap,cur,hgv,_⟩
 ·exact⟨none,0,by rw[hn,h0]⟩
 ·exact⟨_,cap,hgv⟩
theorem Own.cell{T:TypeId}{z n cap i:Nat}{w0 w:World}{p:Option Addr}{xs:List Value}{u:Value}(h:Own T z w0 w (.slice p n cap) n xs)(hi:xs[i]? =some u):∃g,p=some ⟨g,0,none⟩∧w.cell? ⟨g,i,none⟩=some u:=by
 obtain⟨h1,h2⟩:=h.own
 rcases h2 with⟨hn,h0⟩|⟨g,cap',cur,hgv,_,hg,hle,hm,hcs,ht⟩
 ·subst h0
  rw[Nat.zero_mul] at h1
  rw[List.eq_nil_of_length_eq_zero h1] at hi
  simp at hi
 ·simp only[Value.slice.injEq] at hgv
  refine⟨g,hgv.1,cell_in hg ?_⟩
  have hlt:i<n*z:=by
   rw[←h1]
   exact(List.getElem?_eq_some_iff.1 hi).1
  rw[←ht,List.getElem?_take,if_pos hlt,Array.getElem?_toList] at hi
  exact hi
end Ga
set_option maxRecDepth 100000
namespace En
open Mem Rc
structure G where
 low:Nat
 rng:Nat
 held:Nat
 wait:Nat
 out:List UInt8
def G.new:G:=⟨0,4294967295,0,0,[]⟩
def carry(g:G):Nat:=g.low/4294967296
def G.fixed(g:G):List UInt8:=g.out++UInt8.ofNat (g.held+carry g)::List.replicate g.wait (UInt8.ofNat (255+carry g))
def G.shift(g:G):G:=
 if g.low<4278190080∨4294967295<g.low then⟨g.low%16777216*256,g.rng,g.low/16777216%256,0,g.fixed⟩
 else⟨g.low%16777216*256,g.rng,g.held,g.wait+1,g.out⟩
def G.widen(g:G):G:=if 16777216≤g.rng then g else G.shift ⟨g.low,g.rng*256,g.held,g.wait,g.out⟩
def G.bit(g:G)(p b:Nat):G:=(if b=0 then⟨g.low,cutAt g.rng p,g.held,g.wait,g.out⟩ else⟨g.low+cutAt g.rng p,g.rng-cutAt g.rng p,g.held,g.wait,g.out⟩:G).widen
def G.half(g:G)(b:Nat):G:=(⟨g.low+b*(g.rng/2),g.rng/2,g.held,g.wait,g.out⟩:G).widen
def G.shifts:Nat→G→G
 |0,g=>g
 |n+1,g=>G.shifts n g.shift
def G.bytes(g:G):List UInt8:=(g.shifts 5).out
def val(l:List UInt8):Nat:=l.foldl (fun v c=>v*256+c.toNat) 0
theorem val_snoc(l:List UInt8)(c:UInt8):val (l++[c])=val l*256+c.toNat:=by simp[val]
theorem val_rep(l:List UInt8)(c:UInt8):∀n,(val (l++List.replicate n c)+(if c=255 then 1 else 0))=(if c=255 then(val l+1)*256^n else if c=0 then val l*256^n else val (l++List.replicate n c))
 |0=>by
   by_cases h:c=255
   ·rw[if_pos h,if_pos h];simp
   ·rw[if_neg h,if_neg h]
    by_cases h0:c=0
    ·rw[if_pos h0];simp
    ·rw[if_neg h0];rfl
 |n+1=>by
   have ih:=val_rep l c n
   rw[List.replicate_succ',←List.append_assoc,val_snoc]
   by_cases h:c=255
   ·rw[if_pos h,if_pos h] at*
    subst h
    rw[Nat.pow_succ,←Nat.mul_assoc,←ih]
    simp only[show(255:UInt8).toNat=255 from rfl]
    omega
   ·rw[if_neg h,if_neg h] at*
    by_cases h0:c=0
    ·rw[if_pos h0] at ih ⊢
     subst h0
     rw[Nat.pow_succ,←Nat.mul_assoc,←ih]
     simp
    ·rw[if_neg h0];rfl
theorem digs_val:∀(n:Nat)(l:List UInt8),l.length=n→digs n (val l)=l
 |0,l,h=>by rw[List.length_eq_zero_iff.1 h];rfl
 |n+1,l,h=>by
   obtain rfl|⟨m,c,rfl⟩:=List.eq_nil_or_concat l
   ·simp at h
   rw[List.concat_eq_append] at*
   have hc:=UInt8.toNat_lt c
   rw[List.length_append,List.length_singleton] at h
   rw[val_snoc,digs,show(val m*256+c.toNat)/256=val m by omega,digs_val n m (by omega),show(val m*256+c.toNat)%256=c.toNat by omega]
   simp
structure Ab(g:G)(a s r:Nat):Prop where
 val:(val g.out*256+g.held+1)*256^g.wait*4294967296+g.low=a+4294967296
 s:g.out.length+g.wait=s
 held:g.held≤255
 low:g.low+r≤8589934592
 top:g.held=255→g.low+r≤4294967296
 pos:1≤r
theorem Ab.mono{g:G}{a s r q:Nat}(h:Ab g a s r)(hq:q≤r)(h1:1≤q):Ab g a s q:=
 ⟨h.val,h.s,h.held,by have:=h.low;omega,fun e=>by have:=h.top e;omega,h1⟩
theorem Ab.fixed{g:G}{a s r:Nat}(h:Ab g a s r)(hl:g.low<4278190080∨4294967295<g.low):(En.val g.fixed+(1-carry g))=(En.val g.out*256+g.held+1)*256^g.wait∧g.fixed.length=s+1∧carry g≤1:=by
 have h1:=h.low
 have h2:=h.top
 have h3:=h.held
 have h4:=h.pos
 have hc:carry g≤1:=by unfold carry;omega
 refine⟨?_,by unfold G.fixed;simp;have:=h.s;omega,hc⟩
 unfold G.fixed
 rw[show g.out++UInt8.ofNat (g.held+carry g)::List.replicate g.wait (UInt8.ofNat (255+carry g))=(g.out++[UInt8.ofNat (g.held+carry g)])++List.replicate g.wait (UInt8.ofNat (255+carry g)) by simp]
 have hv:=val_rep (g.out++[UInt8.ofNat (g.held+carry g)]) (UInt8.ofNat (255+carry g)) g.wait
 rw[val_snoc] at hv
 rcases(show carry g=0∨carry g=1 by omega) with hc0|hc0
 ·rw[hc0] at hv ⊢
  rw[if_pos (by decide),if_pos (by decide),UInt8.toNat_ofNat',show(g.held+0)%2^8=g.held by omega] at hv
  exact hv
 ·have hh:g.held≤254:=by
   by_cases e:g.held=255
   ·have:=h2 e
    unfold carry at hc0
    omega
   ·omega
  rw[hc0] at hv ⊢
  rw[if_neg (by decide),if_neg (by decide),if_pos (by decide),UInt8.toNat_ofNat',show(g.held+1)%2^8=g.held+1 by omega] at hv
  exact hv
theorem emit_val'(T P F q m low a c:Nat)(hP:P=256*T)(hlow:low=c*P+q*T+m)(hc:c≤1)(h5:(F+(1-c))*P+low=a+P):(F*256+q+1)*P+m*256=a*256+P:=by
 have e1:q*P=256*(q*T):=by rw[hP];exact Nat.mul_left_comm ..
 have e2:F*256*P=256*(F*P):=by rw[Nat.mul_comm F,Nat.mul_assoc]
 simp only[Nat.add_mul,Nat.one_mul] at h5 ⊢
 rcases(show c=0∨c=1 by omega) with rfl|rfl
 ·simp only[Nat.zero_mul,Nat.sub_zero,Nat.one_mul] at*
  omega
 ·simp only[Nat.sub_self,Nat.zero_mul,Nat.one_mul] at*
  omega
theorem wait_val'(T P F m low a:Nat)(hP:P=256*T)(hlow:low=255*T+m)(h5:F*P+low=a+P):F*256*P+m*256=a*256+P:=by
 have e2:F*256*P=256*(F*P):=by rw[Nat.mul_comm F,Nat.mul_assoc]
 omega
theorem emit_val(F low a c:Nat){r:Nat}(hc:c=low/4294967296)(h1:low+r≤8589934592)(h4:1≤r)(hl:low<4278190080∨4294967295<low)(h5:(F+(1-c))*4294967296+low=a+4294967296):
 (F*256+low/16777216%256+1)*4294967296+low%16777216*256=a*256+4294967296:=
 emit_val' 16777216 4294967296 F (low/16777216%256) (low%16777216) low a c rfl (by clear h5;omega) (by clear h5;omega) h5
theorem wait_val(F low a:Nat)(hl:4278190080≤low∧low≤4294967295)(h5:F*4294967296+low=a+4294967296):F*256*4294967296+low%16777216*256=a*256+4294967296:=
 wait_val' 16777216 4294967296 F (low%16777216) low a rfl (by clear h5;omega) h5
theorem Ab.shift{g:G}{a s r:Nat}(h:Ab g a s r)(hr:r≤16777216):Ab g.shift (a*256) (s+1) (r*256):=by
 have h1:=h.low
 have h2:=h.top
 have h3:=h.held
 have h4:=h.pos
 have h5:=h.val
 have h6:=h.s
 have hm:g.low%16777216<16777216:=Nat.mod_lt _ (by decide)
 unfold G.shift
 by_cases hl:g.low<4278190080∨4294967295<g.low
 ·rw[if_pos hl]
  obtain⟨f1,f2,f3⟩:=h.fixed hl
  refine⟨?_,by simp only;omega,by simp only;omega,by simp only;omega,?_,by omega⟩
  ·simp only[Nat.pow_zero,Nat.mul_one]
   rw[←f1] at h5
   exact emit_val (En.val g.fixed) g.low a (carry g) rfl h1 h4 hl h5
  ·simp only
   intro e
   rcases hl with hl|hl
   ·omega
   ·omega
 ·rw[if_neg hl]
  have hl2:4278190080≤g.low∧g.low≤4294967295:=by omega
  refine⟨?_,by simp only;omega,h3,by simp only;omega,fun e=>by simp only at e ⊢;have:=h2 e;omega,by omega⟩
  simp only[Nat.pow_succ]
  rw[←Nat.mul_assoc]
  exact wait_val _ _ _ hl2 h5
structure Is(g:G)(k:K):Prop where
 ab:Ab g k.a k.s k.r
 rng:g.rng=k.r
 ok:k.Ok
theorem is_new:Is G.new K.new:=⟨⟨by decide,rfl,by decide,by decide,by decide,by decide⟩,rfl,⟨by decide,by decide,by decide⟩⟩
theorem G.widen_is{g:G}{k:K}(h:Ab g k.a k.s k.r)(hr:g.rng=k.r)(hk:k.widen.Ok):Is g.widen k.widen:=by
 refine⟨?_,?_,hk⟩
 ·unfold G.widen K.widen
  rw[hr]
  split
  ·exact h
  ·have h1:Ab ⟨g.low,k.r*256,g.held,g.wait,g.out⟩ k.a k.s k.r:=⟨h.val,h.s,h.held,h.low,h.top,h.pos⟩
   exact h1.shift (by omega)
 ·unfold G.widen K.widen
  rw[hr]
  split
  ·exact hr
  ·unfold G.shift
   split<;>rfl
theorem Is.bit{g:G}{k:K}(h:Is g k){p:Nat}(b:Nat)(hp:31≤p)(hp2:p≤2017):Is (g.bit p b) (k.bit p b):=by
 have hc:=cut_bd h.ok.lo hp hp2
 have hok:=K.bit_ok h.ok b hp hp2
 have hr:=h.rng
 obtain⟨a1,a2,a3,a4,a5,a6⟩:=h.ab
 unfold G.bit K.bit K.cut at*
 rw[hr]
 by_cases hb:b=0
 ·rw[if_pos hb] at hok ⊢
  rw[if_pos hb]
  exact G.widen_is ⟨a1,a2,a3,by simp only;omega,fun e=>by have:=a5 e;simp only;omega,by simp only;omega⟩ rfl hok
 ·rw[if_neg hb] at hok ⊢
  rw[if_neg hb]
  exact G.widen_is ⟨by simp only;omega,a2,a3,by simp only;omega,fun e=>by have:=a5 e;simp only;omega,by simp only;omega⟩ rfl hok
theorem Is.half{g:G}{k:K}(h:Is g k){b:Nat}(hb:b≤1):Is (g.half b) (k.half b):=by
 have hok:=K.half_ok h.ok hb
 have hlo:=h.ok.lo
 have hr:=h.rng
 obtain⟨a1,a2,a3,a4,a5,a6⟩:=h.ab
 unfold G.half K.half K.half0 at*
 rw[hr]
 rcases(show b=0∨b=1 by omega) with rfl|rfl
 ·exact G.widen_is ⟨by simp only;omega,a2,a3,by simp only;omega,fun e=>by have:=a5 e;simp only;omega,by simp only;omega⟩ rfl hok
 ·exact G.widen_is ⟨by simp only;omega,a2,a3,by simp only;omega,fun e=>by have:=a5 e;simp only;omega,by simp only;omega⟩ rfl hok
theorem Is.bytes{g:G}{k:K}(h:Is g k):g.bytes=k.bytes:=by
 have a0:=h.ab.mono (q:=1) (by have:=h.ok.lo;omega) (Nat.le_refl _)
 have a1:=a0.shift (by decide)
 have a2:=a1.shift (by decide)
 have a3:=a2.shift (by decide)
 have a4:=a3.shift (by decide)
 have l1:∀g:G,g.shift.low=g.low%16777216*256:=fun g=>by unfold G.shift;split<;>rfl
 have l4:g.shift.shift.shift.shift.low=0:=by
  rw[l1,l1,l1,l1]
  omega
 have a5:=a4.mono (q:=1) (by decide) (Nat.le_refl _)
 have a6:=a5.shift (by decide)
 unfold G.bytes K.bytes
 show g.shift.shift.shift.shift.shift.out=_
 have e5:g.shift.shift.shift.shift.shift=⟨0,g.shift.shift.shift.shift.rng,0,0,g.shift.shift.shift.shift.fixed⟩:=by
  rw[G.shift,if_pos (by omega),l4]
 rw[e5] at a6 ⊢
 have v:=a6.val
 have s:=a6.s
 simp only[Nat.pow_zero,Nat.mul_one,Nat.add_zero] at v s
 simp only
 have hv:=digs_val _ _ s
 rw[show En.val g.shift.shift.shift.shift.fixed=k.a by omega] at hv
 exact hv.symm
end En
end Go.Proofs.YtffoddpjfgjelaaGreatDoor
