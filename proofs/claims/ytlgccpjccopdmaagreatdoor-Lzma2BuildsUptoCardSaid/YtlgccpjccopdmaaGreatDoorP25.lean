/- Part 25 of 54: lemmas of the last part, each under the conditions that it names. -/
import Derived.Deep.WholeRow
import Derived.Deep.RegionLaw
import Derived.Test.YtlgccpjccopdmaaGreatDoorP19
import Derived.Test.YtlgccpjccopdmaaGreatDoorP24
set_option linter.unusedVariables false
set_option linter.unusedSimpArgs false
set_option maxRecDepth 1500
set_option maxHeartbeats 4000000
namespace Go.Proofs.YtlgccpjccopdmaaGreatDoor
open Go.RowKit
namespace Enc
open Mem Win Lz St
def rowK(k:Nat):Nat:=if k<7 then k else k+8
def offK(k:Nat):Nat:=if k<7 then 8+k else 16+k
def updN(c:Nat→Nat)(j q:Nat):Nat→Nat:=fun i=>if i=j then q else c i
theorem tab_off(lc lp pb:Nat)(s:S)(c:Nat→Nat):∀k,k<10→(tabV lc lp pb s c)[offK k]? =some (.pointer (some ⟨c (rowK k),0,none⟩))
 |0,_=>rfl
 |1,_=>rfl
 |2,_=>rfl
 |3,_=>rfl
 |4,_=>rfl
 |5,_=>rfl
 |6,_=>rfl
 |7,_=>rfl
 |8,_=>rfl
 |9,_=>rfl
theorem tab_set(lc lp pb:Nat)(s:S)(c:Nat→Nat)(q:Nat):∀k,k<10→(tabV lc lp pb s c).setIfInBounds (offK k) (.pointer (some ⟨q,0,none⟩))=tabV lc lp pb s (updN c (rowK k) q)
 |0,_=>rfl
 |1,_=>rfl
 |2,_=>rfl
 |3,_=>rfl
 |4,_=>rfl
 |5,_=>rfl
 |6,_=>rfl
 |7,_=>rfl
 |8,_=>rfl
 |9,_=>rfl
def ptrsF(F:Nat):Array Value:=#[.pointer (some ⟨F,8,none⟩),.pointer (some ⟨F,9,none⟩),.pointer (some ⟨F,10,none⟩),.pointer (some ⟨F,11,none⟩),.pointer (some ⟨F,12,none⟩),.pointer (some ⟨F,13,none⟩),.pointer (some ⟨F,14,none⟩),.pointer (some ⟨F,23,none⟩),.pointer (some ⟨F,24,none⟩),.pointer (some ⟨F,25,none⟩)]
theorem ptrs_at(F:Nat):∀k,k<10→(ptrsF F)[k]? =some (.pointer (some ⟨F,offK k,none⟩))
 |0,_=>rfl
 |1,_=>rfl
 |2,_=>rfl
 |3,_=>rfl
 |4,_=>rfl
 |5,_=>rfl
 |6,_=>rfl
 |7,_=>rfl
 |8,_=>rfl
 |9,_=>rfl
theorem rowK_inj{k j:Nat}(h:rowK k=rowK j):k=j:=by
 unfold rowK at h
 split at h<;>split at h<;>omega
theorem fr4{F:Nat}{w0 wc:World}(h:Fr (fun i=>i=F) w0 wc)(i j k l:Nat)(a b c d:Value):Fr (fun i=>i=F) w0 ((((wc.setCell ⟨F,i,none⟩ a).setCell ⟨F,j,none⟩ b).setCell ⟨F,k,none⟩ c).setCell ⟨F,l,none⟩ d):=(((h.setCell (.inl rfl) _).setCell (.inl rfl) _).setCell (.inl rfl) _).setCell (.inl rfl) _
theorem rowK_lt{k:Nat}(h:k<10):rowK k<18:=by
 unfold rowK
 split<;>omega
set_option maxRecDepth 100000 in
theorem tabFork_calls(T lc lp pb:Nat)(b g:Nat→Nat)(s:S)(ps:Nat→List Nat)(w:World)(hT:Tab w T b g lc lp pb s ps)(hl:∀j,j<18→(ps j).length≤1048576):
 Calls Tryz.prog 106 #[ptr T] w (NewP w):=by
 have HTB:=Hd hT
 have HL:=Hd hl
 have hlT:=lt_of_block hT.box
 have HBX:=Hd hT.box
 clear hT hl
 have hsz:(tabV lc lp pb s b).size=26:=rfl
 have hst:(storeCells ⟨w.heap.size,0,none⟩ (tabV lc lp pb s b).toList).run Tryz.prog (w.alloc (.cells #[.int .i64 0,.int .i64 0,.int .i64 0,.int .i64 0,.int .i64 0,.int .i64 0,.int .i64 0,.int .i64 0,.pointer none,.pointer none,.pointer none,.pointer none,.pointer none,.pointer none,.pointer none,.pointer none,.pointer none,.pointer none,.pointer none,.pointer none,.pointer none,.pointer none,.pointer none,.pointer none,.pointer none,.pointer none] 188))=.ok () (w.alloc (.cells (tabV lc lp pb s b) 188)):=run_storeCells_new w _ #[.int .i64 0,.int .i64 0,.int .i64 0,.int .i64 0,.int .i64 0,.int .i64 0,.int .i64 0,.int .i64 0,.pointer none,.pointer none,.pointer none,.pointer none,.pointer none,.pointer none,.pointer none,.pointer none,.pointer none,.pointer none,.pointer none,.pointer none,.pointer none,.pointer none,.pointer none,.pointer none,.pointer none,.pointer none] (tabV lc lp pb s b) (by kernel_rfl) rfl (by simp[tabV,Value.oneCell'])
 go_enter Tryz.func106,Tryz.ntmps106
 go_wp2_with (first
  |(with_reducible refine wpList_load_row rfl 188 _ rfl T rfl 188 (tabV lc lp pb s b) (0,0) _ HBX.out Tryz.underlying188 rfl ?_ ?_;kernel_rfl))
 have hF0:=((Fr.refl (fun _=>False) w).alloc (.cells (tabV lc lp pb s b) 188)).alloc (.cells (ptrsF w.heap.size) 258)
 have hx0:=((Fr.refl (fun _=>False) (w.alloc (.cells (tabV lc lp pb s b) 188))).alloc (.cells (ptrsF w.heap.size) 258)).keep (heap_alloc_new w (.cells (tabV lc lp pb s b) 188)) (fun h=>h)
 have hy0:=heap_alloc_new (w.alloc (.cells (tabV lc lp pb s b) 188)) (.cells (ptrsF w.heap.size) 258)
 rw[World.size_alloc] at hy0
 go_loopw [5,21] (fun _ i wr=>∃(k:Nat)(c:Nat→Nat),k≤10∧i=.int .i64 k∧Fr (fun _=>False) w wr∧wr.heap[w.heap.size]? =some (.cells (tabV lc lp pb s c) 188 (0,0))∧wr.heap[w.heap.size+1]? =some (.cells (ptrsF w.heap.size) 258 (0,0))∧∀j,k≤j→c (rowK j)=b (rowK j)) (fun _ i _=>10-(intOf i).toNat)
 case atStart=>exact⟨0,b,by omega,rfl,hF0,hx0,hy0,fun _ _=>rfl⟩
 case round=>
  obtain⟨k,c,hk,rfl,hfr,hF,hG,hcb⟩:=hrel
  by_cases hlt:k<10
  ·have g0:=cell_in hG (ptrs_at w.heap.size k hlt)
   have f0:=cell_in hF (tab_off lc lp pb s c k hlt)
   rw[hcb k (Nat.le_refl _)] at f0
   have HK:=Hd (setFork_calls _ _ _ wr ((HTB.out.set (rowK k) (rowK_lt hlt)).keep hfr) (HL.out _ (rowK_lt hlt)))
   have HFR:=Hd hfr
   have HF:=Hd hF
   have HG:=Hd hG
   clear hfr hF hG hst hF0 hx0 hy0
   go_wp2_with fail
   refine HK.out.mono ?_
   rintro e w2 ⟨q,rfl,hfr2,hq⟩
   have hF2:=hfr2.keep HF.out (fun h=>h)
   have z0:=cell_in hF2 (tab_off lc lp pb s c k hlt)
   have zf:=frozen_in hF2 (offK k)
   have HF2:=Hd hF2
   have HFR2:=Hd hfr2
   clear hF2 hfr2
   go_wp2_with fail
   go_roundw
   case rel=>
    refine⟨k+1,updN c (rowK k) q,by omega,by go_num,(HFR.out.trans HFR2.out).setCell (.inr (Nat.le_refl _)) _,?_,?_,fun j hj=> ?_⟩
    ·rw[set_in HF2.out,tab_set lc lp pb s c q k hlt]
    ·exact((Fr.refl (fun i=>i=w.heap.size) w2).setCell (.inl rfl) _).keep (HFR2.out.keep HG.out (fun h=>h)) (by omega)
    ·unfold updN
     rw[if_neg (fun e=>by have:=rowK_inj e;omega)]
     exact hcb j (by omega)
   case measure=>simp[intOf];omega
  ·obtain rfl:k=10:=by omega
   have hT1:=hfr.keep HBX.out (fun h=>h)
   have HS:=Hd (show∀w':World,Fr (fun i=>i=w.heap.size) wr w'→w'.cell? ⟨T,15,none⟩=some (.pointer (some ⟨b 7,0,none⟩))∧w'.cell? ⟨T,16,none⟩=some (.pointer (some ⟨b 8,0,none⟩))∧w'.cell? ⟨T,17,none⟩=some (.pointer (some ⟨b 9,0,none⟩))∧w'.cell? ⟨T,18,none⟩=some (.pointer (some ⟨b 10,0,none⟩))∧w'.cell? ⟨T,19,none⟩=some (.pointer (some ⟨b 11,0,none⟩))∧w'.cell? ⟨T,20,none⟩=some (.pointer (some ⟨b 12,0,none⟩))∧w'.cell? ⟨T,21,none⟩=some (.pointer (some ⟨b 13,0,none⟩))∧w'.cell? ⟨T,22,none⟩=some (.pointer (some ⟨b 14,0,none⟩)) from fun w' h=>⟨cell_in (i:=15) (h.keep hT1 (by omega)) rfl,cell_in (i:=16) (h.keep hT1 (by omega)) rfl,cell_in (i:=17) (h.keep hT1 (by omega)) rfl,cell_in (i:=18) (h.keep hT1 (by omega)) rfl,cell_in (i:=19) (h.keep hT1 (by omega)) rfl,cell_in (i:=20) (h.keep hT1 (by omega)) rfl,cell_in (i:=21) (h.keep hT1 (by omega)) rfl,cell_in (i:=22) (h.keep hT1 (by omega)) rfl⟩)
   have HLF:=Hd (show∀(w':World)(m:Nat),(m=7∨m=11)→Fr (fun i=>i=w.heap.size) wr w'→∀x,x=b m∨x=b (m+1)∨x=b (m+2)∨x=b (m+3)→∃g ps,Prob.SetAt w' x g ps∧ps.length≤1048576 from fun w' m hm h x hx=>by
    have hfw:=hfr.trans' h (fun i hi(e:i=w.heap.size)=>by omega)
    rcases hx with rfl|rfl|rfl|rfl
    ·exact⟨_,_,(HTB.out.set m (by omega)).keep hfw,HL.out _ (by omega)⟩
    ·exact⟨_,_,(HTB.out.set (m+1) (by omega)).keep hfw,HL.out _ (by omega)⟩
    ·exact⟨_,_,(HTB.out.set (m+2) (by omega)).keep hfw,HL.out _ (by omega)⟩
    ·exact⟨_,_,(HTB.out.set (m+3) (by omega)).keep hfw,HL.out _ (by omega)⟩)
   have HFR:=Hd hfr
   have HF:=Hd hF
   have HR:=Hd (Fr.refl (fun i=>i=w.heap.size) wr)
   obtain⟨c0,c1,c2,c3,c4,c5,c6,c7⟩:=HS.out wr HR.out
   clear hfr hF hG hst hF0 hx0 hy0 hT1
   go_wp2_with fail
   have HSC:=Hd (HS.out _ (HR.out.drew))
   obtain⟨c0,c1,c2,c3,c4,c5,c6,c7⟩:=HSC.out
   have HR:=Hd HR.out.drew
   have HF:=Hd ((Fr.refl (fun _=>False) wr).drew.keep HF.out (fun h=>h))
   go_region_held3 (fun w'=>w'.cell? ⟨T,15,none⟩=some (.pointer (some ⟨b 7,0,none⟩))∧w'.cell? ⟨T,16,none⟩=some (.pointer (some ⟨b 8,0,none⟩))∧w'.cell? ⟨T,17,none⟩=some (.pointer (some ⟨b 9,0,none⟩))∧w'.cell? ⟨T,18,none⟩=some (.pointer (some ⟨b 10,0,none⟩))∧w'.cell? ⟨T,19,none⟩=some (.pointer (some ⟨b 11,0,none⟩))∧w'.cell? ⟨T,20,none⟩=some (.pointer (some ⟨b 12,0,none⟩))∧w'.cell? ⟨T,21,none⟩=some (.pointer (some ⟨b 13,0,none⟩))∧w'.cell? ⟨T,22,none⟩=some (.pointer (some ⟨b 14,0,none⟩))) (first|with_reducible exact HSC.out|with_reducible exact HS.out _ HR.out|with_reducible exact HS.out _ (fr4 HR.out _ _ _ _ _ _ _ _)|with_reducible exact HS.out _ (fr4 (fr4 HR.out _ _ _ _ _ _ _ _) _ _ _ _ _ _ _ _)) ((first
    | (go_at_call 157
       first
        |(with_reducible refine(lenFork_calls (b 7) (b 8) (b 9) (b 10) _ (HLF.out _ 7 (.inl rfl) HR.out)).mono ?_)
        |(with_reducible refine(lenFork_calls (b 11) (b 12) (b 13) (b 14) _ (HLF.out _ 11 (.inr rfl) HR.out)).mono ?_)
       rintro e wc ⟨q0,q1,q2,q3,rfl,hfrc⟩
       have HR:=Hd (HR.out.trans (hfrc.mono (fun _ _ h=>h.elim)))
       have HSC:=Hd (HS.out _ HR.out)
       obtain⟨c0,c1,c2,c3,c4,c5,c6,c7⟩:=HSC.out
       have HF:=Hd (hfrc.keep HF.out (fun h=>h))
       have y0:wc.cell? ⟨w.heap.size,15,none⟩=some (.pointer (some ⟨c 7,0,none⟩)):=cell_in (i:=15) HF.out rfl
       have y1:wc.cell? ⟨w.heap.size,16,none⟩=some (.pointer (some ⟨c 8,0,none⟩)):=cell_in (i:=16) HF.out rfl
       have y2:wc.cell? ⟨w.heap.size,17,none⟩=some (.pointer (some ⟨c 9,0,none⟩)):=cell_in (i:=17) HF.out rfl
       have y3:wc.cell? ⟨w.heap.size,18,none⟩=some (.pointer (some ⟨c 10,0,none⟩)):=cell_in (i:=18) HF.out rfl
       have y4:wc.cell? ⟨w.heap.size,19,none⟩=some (.pointer (some ⟨c 11,0,none⟩)):=cell_in (i:=19) HF.out rfl
       have y5:wc.cell? ⟨w.heap.size,20,none⟩=some (.pointer (some ⟨c 12,0,none⟩)):=cell_in (i:=20) HF.out rfl
       have y6:wc.cell? ⟨w.heap.size,21,none⟩=some (.pointer (some ⟨c 13,0,none⟩)):=cell_in (i:=21) HF.out rfl
       have y7:wc.cell? ⟨w.heap.size,22,none⟩=some (.pointer (some ⟨c 14,0,none⟩)):=cell_in (i:=22) HF.out rfl
       have yf:=fun i=>frozen_in HF.out i
       clear hfrc)))
   go_wp2_with fail
   go_ret
   exact⟨w.heap.size,rfl,HFR.out.trans' (fr4 (fr4 HR.out _ _ _ _ _ _ _ _) _ _ _ _ _ _ _ _) (fun i hi e=>by omega),Nat.le_refl _⟩
end Enc
namespace Enc
open Mem Win Lz St
theorem tabForks:TabForks:=fun T lc lp pb b g s ps w h hl=>tabFork_calls T lc lp pb b g s ps w h hl
abbrev abc:List UInt8:=[97,98,99]
abbrev packV(g D:Nat)(out:Value)(x y z:Bool):Array Value:=#[.int .i64 0,.int .i64 0,.int .i64 3,.int .i64 0,.int .i64 2,.int .i64 4096,.int .i64 0,.int .i64 0,.slice (some ⟨g,0,none⟩) 3 3,ptr D,.int .i64 0,.int .i64 1,.int .i64 1,.int .i64 1,.int .i64 1,out,.bool x,.bool y,.bool z]
abbrev resV(g D:Nat):Array Value:=#[.int .i64 1,.int .i64 3,.int .i64 3,.int .i64 0,.int .i64 0,.int .i64 0,.slice (some ⟨g,0,none⟩) 3 3,ptr D,.int .i64 0,.int .i64 1,.int .i64 1,.int .i64 1,.int .i64 1]
structure Pk(w:World)(P g D T W E:Nat)(b r:Nat→Nat):Prop where
 box:w.heap[P]? =some (.cells (packV g D (.slice none 0 0) false false false) 74 (0,0))
 enc:EncAt w D T W E b r
 rd:Rd w (.slice (some ⟨g,0,none⟩) 3 3) abc
theorem Pk.keep{w w':World}{P g D T W E:Nat}{b r:Nat→Nat}(h:Pk w P g D T W E b r)(hf:Fr (fun _=>False) w w'):Pk w' P g D T W E b r:=
 ⟨hf.keep h.box (fun h=>h),⟨hf.keep h.enc.d (fun h=>h),⟨hf.keep h.enc.tab.box (fun h=>h),fun j hj=>(h.enc.tab.set j hj).keep hf,h.enc.tab.inj⟩,h.enc.win.keep hf (fun h=>h) (fun _ _ h=>h),hf.keep h.enc.rc (fun h=>h)⟩,h.rd.keep hf⟩
theorem Pk.lt{w:World}{P g D T W E:Nat}{b r:Nat→Nat}(h:Pk w P g D T W E b r):g<w.heap.size:=by
 obtain⟨p,cap,e,_,_,h3⟩:=h.rd
 obtain⟨b,o,rfl,hc⟩:=h3 (by decide)
 have h1:=hc 0 97 rfl
 simp only[Value.slice.injEq,Option.some.injEq,Addr.mk.injEq] at e
 obtain⟨⟨rfl,rfl,_⟩,_⟩:=e
 exact block_lt_of_cell h1
theorem praw_calls{w:World}{P g D T W E:Nat}{b r:Nat→Nat}(h:Pk w P g D T W E b r):Calls Tryz.prog 27 #[ptr P,.int .i64 0,.int .i64 3] w fun e w'=>Fr (fun _=>False) w w'∧∃R D',e=.returned (ptr R)∧w.heap.size≤R∧w'.heap[R]? =some (.cells (resV g D') 134 (0,0)):=by
 have c8:w.cell? ⟨P,8,none⟩=some (.slice (some ⟨g,0,none⟩) 3 3):=cell_in h.box rfl
 have c9:w.cell? ⟨P,9,none⟩=some (ptr D):=cell_in h.box rfl
 have c16:w.cell? ⟨P,16,none⟩=some (.bool false):=cell_in h.box rfl
 have hsl:∀W:World,(Instr.slice 22 (.slice (some ⟨g,0,none⟩) 3 3) (some (.int .i64 0)) (some (.int .i64 3)) none).run Tryz.prog W=.ok (.slice (some ⟨g,0,none⟩) 3 3) W:=by
  intro W
  have:=slice_lhI (some ⟨g,0,none⟩) 3 3 0 3 0 3 rfl rfl (by omega) (by omega) W
  rw[Wire.dropP_zero] at this
  exact this
 have HFK:=Hd (efork_calls tabForks h.enc)
 have HH:=Hd h
 have HLT:=Hd h.lt
 clear h
 go_enter Tryz.func27,Tryz.ntmps27
 go_wp2_with fail
 refine HFK.out.mono ?_
 rintro e w2 ⟨D',T',W',E',rv,rfl,hfr2,hD,hd,hw,hW0,hrv0⟩
 have HR:=Hd (eraw_calls D' T' W' E' rv (.slice (some ⟨g,0,none⟩) 3 3) abc w2 hd hw (HH.out.rd.keep hfr2) (fun _ k hk hk2=>by
  have h1:=hrv0 k hk2
  have h2:=HLT.out
  simp only[Value.ownBlock,Option.some.injEq] at hk
  omega) (by decide))
 have HF2:=Hd hfr2
 have HN:=Hd hW0
 have HN2:=Hd hrv0
 clear hfr2 hd hw hW0 hrv0
 go_wp2_with fail
 refine HR.out.mono ?_
 rintro e w3 ⟨rfl,hfr3⟩
 have hf3:=HF2.out.trans' hfr3 (fun k h1 h2=>by
  rcases h2 with h2|h2
  ·have:=HN.out
   omega
  ·have:=HN2.out k h2
   omega)
 have hbx:=hf3.keep HH.out.box (fun h=>h)
 have d10:=cell_in (i:=10) hbx rfl
 have d11:=cell_in (i:=11) hbx rfl
 have d12:=cell_in (i:=12) hbx rfl
 have d13:=cell_in (i:=13) hbx rfl
 have d14:=cell_in (i:=14) hbx rfl
 have HF3:=Hd hf3
 clear hfr3 hf3 hbx
 go_wp2_with fail
 go_ret
 exact⟨HF3.out.alloc _,w3.heap.size,D',rfl,HF3.out.size,heap_alloc_new _ _⟩
theorem ptried_calls{w:World}{P g D T W E:Nat}{b r:Nat→Nat}(h:Pk w P g D T W E b r):Calls Tryz.prog 28 #[ptr P,.int .i64 0,.int .i64 3] w fun e w'=>e=.returned (.pointer none)∧w=w':=by
 have c7:w.cell? ⟨P,7,none⟩=some (.int .i64 0):=cell_in h.box rfl
 clear h
 go_enter Tryz.func28,Tryz.ntmps28
 go_wp2_with fail
 go_ret
 exact⟨rfl,rfl⟩
end Enc
namespace Enc
open Mem Win Lz St
abbrev waysV(P:Nat):Array Value:=#[.func (.func 27) #[ptr P] #[],.func (.func 28) #[ptr P] #[]]
theorem own_off{w:World}{T T':TypeId}{v:Value}{n:Nat}{xs:List Value}(h:w.ownsRow 0 T 1 v n xs){R:Nat}{cs:Array Value}{fr:Nat×Nat}(hR:w.heap[R]? =some (.cells cs T' fr))(hT:T'≠T):∀k,v.ownBlock=some k→k≠R:=by
 intro k hk
 rcases h.2 with⟨rfl,_⟩|⟨g2,cap,cur,rfl,_,hg2,_⟩
 ·simp[Value.ownBlock] at hk
 ·simp only[Value.ownBlock,Option.some.injEq] at hk
  subst hk
  rintro rfl
  rw[hR] at hg2
  simp only[Option.some.injEq,Obj.cells.injEq] at hg2
  exact hT hg2.2.1
def eight(W7:World)(P D':Nat):World:=((((((W7.setCell ⟨P,9,none⟩ (ptr D')).setCell ⟨P,10,none⟩ (.int .i64 0)).setCell ⟨P,11,none⟩ (.int .i64 1)).setCell ⟨P,12,none⟩ (.int .i64 1)).setCell ⟨P,13,none⟩ (.int .i64 1)).setCell ⟨P,14,none⟩ (.int .i64 1)).drew
theorem eight_eq(W7:World)(P D':Nat):eight W7 P D'=((((((W7.setCell ⟨P,9,none⟩ (ptr D')).setCell ⟨P,10,none⟩ (.int .i64 0)).setCell ⟨P,11,none⟩ (.int .i64 1)).setCell ⟨P,12,none⟩ (.int .i64 1)).setCell ⟨P,13,none⟩ (.int .i64 1)).setCell ⟨P,14,none⟩ (.int .i64 1)).drew:=rfl
theorem eight_fr(W7:World)(P D':Nat):Fr (fun k=>k=P) W7 (eight W7 P D'):=((((((Fr.one W7 P 9 _).trans (Fr.one _ P 10 _)).trans (Fr.one _ P 11 _)).trans (Fr.one _ P 12 _)).trans (Fr.one _ P 13 _)).trans (Fr.one _ P 14 _)).drew
theorem eight_in{W7:World}{P g D:Nat}{out:Value}(D':Nat)(h:W7.heap[P]? =some (.cells (packV g D out false false false) 74 (0,0))):(eight W7 P D').heap[P]? =some (.cells (packV g D' out false false false) 74 (0,0)):=by
 have q0:(W7.setCell ⟨P,9,none⟩ (ptr D')).heap[P]? =some (.cells (packV g D' out false false false) 74 (0,0)):=(set_in h 9 (ptr D')).trans rfl
 have q1:((W7.setCell ⟨P,9,none⟩ (ptr D')).setCell ⟨P,10,none⟩ (.int .i64 0)).heap[P]? =some (.cells (packV g D' out false false false) 74 (0,0)):=(set_in q0 10 (.int .i64 0)).trans rfl
 have q2:(((W7.setCell ⟨P,9,none⟩ (ptr D')).setCell ⟨P,10,none⟩ (.int .i64 0)).setCell ⟨P,11,none⟩ (.int .i64 1)).heap[P]? =some (.cells (packV g D' out false false false) 74 (0,0)):=(set_in q1 11 (.int .i64 1)).trans rfl
 have q3:((((W7.setCell ⟨P,9,none⟩ (ptr D')).setCell ⟨P,10,none⟩ (.int .i64 0)).setCell ⟨P,11,none⟩ (.int .i64 1)).setCell ⟨P,12,none⟩ (.int .i64 1)).heap[P]? =some (.cells (packV g D' out false false false) 74 (0,0)):=(set_in q2 12 (.int .i64 1)).trans rfl
 have q4:(((((W7.setCell ⟨P,9,none⟩ (ptr D')).setCell ⟨P,10,none⟩ (.int .i64 0)).setCell ⟨P,11,none⟩ (.int .i64 1)).setCell ⟨P,12,none⟩ (.int .i64 1)).setCell ⟨P,13,none⟩ (.int .i64 1)).heap[P]? =some (.cells (packV g D' out false false false) 74 (0,0)):=(set_in q3 13 (.int .i64 1)).trans rfl
 have q5:((((((W7.setCell ⟨P,9,none⟩ (ptr D')).setCell ⟨P,10,none⟩ (.int .i64 0)).setCell ⟨P,11,none⟩ (.int .i64 1)).setCell ⟨P,12,none⟩ (.int .i64 1)).setCell ⟨P,13,none⟩ (.int .i64 1)).setCell ⟨P,14,none⟩ (.int .i64 1)).heap[P]? =some (.cells (packV g D' out false false false) 74 (0,0)):=(set_in q4 14 (.int .i64 1)).trans rfl
 unfold eight
 exact(Fr.refl (fun _=>False) _).drew.keep q5 (fun h=>h)
def WRel(w:World)(P g:Nat)(best size i:Value)(wr:World):Prop:=
 (i=.int .i64 0∧best=.pointer none∧size=.int .i64 0∧wr=w)∨∃k R D',(k=1∨k=2)∧i=.int .i64 ((k:Nat):Int)∧best=ptr R∧size=.int .i64 6∧Fr (fun _=>False) w wr∧w.heap.size≤R∧wr.heap[R]? =some (.cells (resV g D') 134 (0,0))
set_option maxRecDepth 100000 in
theorem write_calls{w:World}{P g D T W E F:Nat}{b r:Nat→Nat}(h:Pk w P g D T W E b r)(hF:w.heap[F]? =some (.cells (waysV P) 131 (0,0))):
 Calls Tryz.prog 26 #[ptr P,.int .i64 0,.int .i64 3,.slice (some ⟨F,0,none⟩) 2 2] w fun e w'=>e=.returned (.tuple #[])∧Fr (fun k=>k=P) w w'∧∃p cap,w'.cell? ⟨P,15,none⟩=some (.slice p 6 cap)∧Mine w w' (.slice p 6 cap) ([1,0,2]++abc):=by
 have HH:=Hd h
 have HWY:=Hd hF
 have hPl:=lt_of_block h.box
 clear h hF
 go_enter Tryz.func26,Tryz.ntmps26
 go_wp2_with fail
 go_loopw [8,9,20] (fun best size i wr=>WRel w P g best size i wr) (fun _ _ i _=>2-(intOf i).toNat)
 case atStart=>exact .inl ⟨rfl,rfl,rfl,rfl⟩
 case round=>
  rcases hrel with⟨rfl,rfl,rfl,rfl⟩|⟨k,R,D',hk,rfl,rfl,rfl,hfr,hR0,hR⟩
  ·have f0:=cell_in (i:=0) HWY.out rfl
   have HRW:=Hd (praw_calls HH.out)
   go_wp2_with fail
   refine HRW.out.mono ?_
   rintro e w2 ⟨hfr2,R,D',rfl,hR0,hR⟩
   have HR2:=Hd hR
   have HF2:=Hd hfr2
   obtain⟨d0,d1,d2,d3,d4,d5⟩:=cs6 hR rfl rfl rfl rfl rfl rfl
   clear hfr2 hR
   go_wp2_with fail
   refine(hput_calls _).mono ?_
   rintro e w3 ⟨hfr3,ph,ch,rfl,hM3⟩
   have hR3:=hfr3.keep HR2.out (fun h=>h)
   have d6:=cell_in (i:=6) hR3 rfl
   have HR3:=Hd hR3
   have HF3:=Hd (HF2.out.trans hfr3)
   clear hfr3 hM3 hR3
   go_wp2_with fail
   go_roundw
   case rel=>exact .inr ⟨1,R,D',.inl rfl,rfl,rfl,by go_num,HF3.out,hR0,HR3.out⟩
   case measure=>simp[intOf]
  ·rcases hk with rfl|rfl
   ·have f1:=cell_in (i:=1) (hfr.keep HWY.out (fun h=>h)) rfl
    have HRW:=Hd (ptried_calls (HH.out.keep hfr))
    have HR2:=Hd hR
    have HF2:=Hd hfr
    clear hfr hR
    go_wp2_with fail
    refine HRW.out.mono ?_
    rintro e w2 ⟨rfl,rfl⟩
    go_wp2_with fail
    go_roundw
    case rel=>exact .inr ⟨2,R,D',.inr rfl,by go_num,rfl,rfl,HF2.out,hR0,HR2.out⟩
    case measure=>simp[intOf]
   ·obtain⟨d0,d1,d2,d3,d4,d5⟩:=cs6 hR rfl rfl rfl rfl rfl rfl
    have HR2:=Hd hR
    have HF2:=Hd hfr
    clear hfr hR
    go_wp2_with fail
    refine(hput_calls _).mono ?_
    rintro e w3 ⟨hfr3,ph,ch,rfl,hM3⟩
    have hR3:=hfr3.keep HR2.out (fun h=>h)
    have hP3:=(HF2.out.trans hfr3).keep HH.out.box (fun h=>h)
    have d6:=cell_in (i:=6) hR3 rfl
    have p15:=cell_in (i:=15) hP3 rfl
    have HR3:=Hd hR3
    have HP3:=Hd hP3
    have HF3:=Hd (HF2.out.trans hfr3)
    have HM3:=Hd hM3
    have HG3:=Hd (HH.out.rd.keep (HF2.out.trans hfr3))
    have HA0:=Hd (Acc.of_new (w0:=w) (w:=w3) (v:=.slice none 0 0) (xs:=[]) ⟨World.ownsRow_nil _ _ _ _,fun k hk=>by simp[Value.ownBlock] at hk⟩ (HF2.out.trans hfr3)).drew
    clear hfr3 hM3 hR3 hP3
    go_wp2_with fail
    have HR4:=Hd ((Fr.refl (fun _=>False) w3).drew.keep HR3.out (fun h=>h))
    have HP4:=Hd ((Fr.refl (fun _=>False) w3).drew.keep HP3.out (fun h=>h))
    have HRD1:=Hd (HM3.out.rd.keep (Fr.refl (fun _=>False) w3).drew)
    have HG4:=Hd (HG3.out.keep (Fr.refl (fun _=>False) w3).drew)
    go_region_law (first
     | (refine step_bytes rfl _ _ rfl (w0:=w) (.slice none 0 0) (.slice ph 3 ch) [] [1,0,2] (by simp [Act.eval,Act.put]) (by simp [Act.eval,Act.put]) HA0.out HRD1.out (by decide) ?_
        intro p2 cap2 n2 w2 hn2 hA2 hfr2
        obtain rfl:n2=3:=hn2
        have hf2:=hfr2.mono (T:=fun _=>False) (fun i _ h=>by simp[Value.ownBlock] at h)
        have HA2:=Hd hA2
        have hR5:=hf2.keep HR4.out (fun h=>h)
        have hP5:=hf2.keep HP4.out (fun h=>h)
        have d6:=cell_in (i:=6) hR5 rfl
        have HR5:=Hd hR5
        have HP5:=Hd hP5
        have HG5:=Hd (HG4.out.keep hf2)
        clear hA2 hfr2 hf2 hR5 hP5)
     | (refine step_bytes rfl _ _ rfl (w0:=w) (.slice p2 3 cap2) (.slice (some ⟨g,0,none⟩) 3 3) [1,0,2] abc (by simp [Act.eval,Act.put]) (by simp [Act.eval,Act.put]) HA2.out HG5.out (by decide) ?_
        intro p6 cap6 n6 w6 hn6 hA6 hfr6
        obtain rfl:n6=6:=hn6
        have hnw:=HA2.out.new
        have HA6:=Hd hA6
        have hR6:=hfr6.keep HR5.out (fun h=>own_off HA2.out.own HR5.out (by decide) R h rfl)
        have hP6:=hfr6.keep HP5.out (fun h=>by have:=hnw P h;omega)
        have q15:=cell_in (i:=15) hP6 rfl
        have qf:=frozen_in hP6 15
        have HR6:=Hd hR6
        have HP6:=Hd hP6
        clear hA6 hfr6 hR6 hP6 hnw))
    all_goals
     have hne:R≠P:=by omega
     have hP7:(w6.setCell ⟨P,15,none⟩ (.slice p6 6 cap6)).heap[P]? =some (.cells (packV g D (.slice p6 6 cap6) false false false) 74 (0,0)):=by
      rw[set_in HP6.out]
      rfl
     have hR7:=set_out (g:=P) (i:=15) HR6.out hne (.slice p6 6 cap6)
     have hF7:Fr (fun k=>k=P) w (w6.setCell ⟨P,15,none⟩ (.slice p6 6 cap6)):=(HA6.out.fr.mono (T:=fun k=>k=P) (fun _ _ h=>h.elim)).trans (Fr.one _ _ _ _)
     have hM7:Mine w (w6.setCell ⟨P,15,none⟩ (.slice p6 6 cap6)) (.slice p6 6 cap6) ([1,0,2]++abc):=
      ⟨own_step (S:=fun k=>k=P) HA6.out.own (Fr.one _ _ _ _) (fun k hk=>own_off HA6.out.own HP6.out (by decide) k hk),HA6.out.new⟩
     have HP7:=Hd hP7
     have HR7:=Hd hR7
     have HF7:=Hd hF7
     have HM7:=Hd hM7
     clear hP7 hR7 hF7 hM7 HP6 HR6 HA6 HP5 HR5 HG5 HA2 HR4 HP4 HRD1 HG4 HA0 HG3 HM3 HF3 HP3 HR3 HF2 HR2 q15 qf d6 p15 d0 d1 d2 d3 d4 d5
     generalize w6.setCell ⟨P,15,none⟩ (.slice p6 6 cap6)=W7 at*
     have HS:=Hd (show∀w':World,Fr (fun k=>k=P) W7 w'→w'.heap[R]? =some (.cells (resV g D') 134 (0,0)) from fun w' hf=>hf.keep HR7.out hne)
     have HPS:=Hd (show W7.drew.heap[P]? =some (.cells (packV g D (.slice p6 6 cap6) false false false) 74 (0,0)) from(Fr.refl (fun _=>False) W7).drew.keep HP7.out (fun h=>h))
     have HSC:=Hd (show∀w':World,Fr (fun k=>k=P) W7 w'→w'.cell? ⟨R,7,none⟩=some (ptr D')∧w'.cell? ⟨R,8,none⟩=some (.int .i64 0)∧w'.cell? ⟨R,9,none⟩=some (.int .i64 1)∧w'.cell? ⟨R,10,none⟩=some (.int .i64 1)∧w'.cell? ⟨R,11,none⟩=some (.int .i64 1)∧w'.cell? ⟨R,12,none⟩=some (.int .i64 1) from fun w' hf=>
      have h:=HS.out w' hf
      ⟨cell_in (i:=7) h rfl,cell_in (i:=8) h rfl,cell_in (i:=9) h rfl,cell_in (i:=10) h rfl,cell_in (i:=11) h rfl,cell_in (i:=12) h rfl⟩)
     have HR:=Hd ((Fr.refl (fun k=>k=P) W7).drew)
     obtain⟨e7,e8,e9,e10,e11,e12⟩:=HSC.out W7 (Fr.refl _ _)
     obtain⟨s7,s8,s9,s10,s11,s12⟩:=HSC.out W7.drew HR.out
     have y9:=cell_in (i:=9) HP7.out rfl
     have y10:=cell_in (i:=10) HP7.out rfl
     have y11:=cell_in (i:=11) HP7.out rfl
     have y12:=cell_in (i:=12) HP7.out rfl
     have y13:=cell_in (i:=13) HP7.out rfl
     have y14:=cell_in (i:=14) HP7.out rfl
     have yf:=fun i=>frozen_in HP7.out i
     go_wp2_with fail
     clear HSC
     go_region
     have hF8:Fr (fun k=>k=P) W7 (eight W7 P D'):=eight_fr W7 P D'
     have hP8:=eight_in D' HP7.out
     have hR8:=HS.out _ hF8
     have HP8:=Hd hP8
     have HR8:=Hd hR8
     have HF8:=Hd hF8
     clear hF8 hP8 hR8 e7 e8 e9 e10 e11 e12 s7 s8 s9 s10 s11 s12 y9 y10 y11 y12 y13 y14 yf HPS HR
     rw[←eight_eq]
     generalize eight W7 P D'=W8 at*
     have t0:=cell_in (i:=0) HR8.out rfl
     have t16:=cell_in (i:=16) HP8.out rfl
     have t17:=cell_in (i:=17) HP8.out rfl
     have t18:=cell_in (i:=18) HP8.out rfl
     have tf:=fun i=>frozen_in HP8.out i
     have hne2:P≠R:=fun h=>hne h.symm
     go_wp2_with fail
     go_end0
     have hlast:Fr (fun k=>k=P) W8 (((W8.setCell ⟨P,16,none⟩ (.bool true)).setCell ⟨P,17,none⟩ (.bool false)).setCell ⟨P,18,none⟩ (.bool false)):=((Fr.one W8 P 16 _).trans (Fr.one _ P 17 _)).trans (Fr.one _ P 18 _)
     have hrest:=HF8.out.trans hlast
     exact⟨rfl,HF7.out.trans hrest,p6,cap6,cell_in (set_in (set_in (set_in HP8.out 16 _) 17 _) 18 _) rfl,HM7.out.step hrest (fun k hk=>own_off HM7.out.own HP7.out (by decide) k hk)⟩
end Enc
namespace Enc
open Mem Win Lz St
theorem snew_calls(w:World):Calls Tryz.prog 25 #[] w fun e w'=>e=.returned (.agg #[.int .i64 0,.int .i64 1,.int .i64 1,.int .i64 1,.int .i64 1])∧Fr (fun _=>False) w w':=St.new_calls w
def ERel(w:World)(P:Nat)(i:Value)(wr:World):Prop:=
 (i=.int .i64 0∧wr=w)∨(i=.int .i64 65536∧Fr (fun k=>k=P) w wr∧∃p cap,wr.cell? ⟨P,15,none⟩=some (.slice p 6 cap)∧Mine w wr (.slice p 6 cap) ([1,0,2]++abc))
set_option maxRecDepth 100000 in
theorem encode_calls{w:World}{g:Nat}(h:Rd w (.slice (some ⟨g,0,none⟩) 3 3) abc):
 Calls Tryz.prog 8 #[.slice (some ⟨g,0,none⟩) 3 3,.agg conf3] w fun e w'=>Fr (fun _=>False) w w'∧∃p cap,e=.returned (.tuple #[.slice p 7 cap,.int .i64 0])∧Mine w w' (.slice p 7 cap) ([1,0,2]++abc++[0]):=by
 have HX:=Hd (heap_alloc_new w (.cells conf3 26))
 have HF:=Hd ((Fr.refl (fun _=>False) w).alloc (.cells conf3 26))
 have HRD:=Hd h
 have hmf:∀(fn:Fn)(first cap:Array Value)(w:World),(Instr.makeFunc fn first cap).run Tryz.prog w=.ok (.func fn first cap) w:=fun _ _ _ _=>rfl
 clear h
 go_enter Tryz.func8,Tryz.ntmps8
 go_wp2_with fail
 refine(good_calls _).mono ?_
 rintro e w1 ⟨rfl,hfr⟩
 have hx1:=hfr.keep HX.out (fun h=>h)
 have c2:=cell_in (i:=2) hx1 rfl
 have c3:=cell_in (i:=3) hx1 rfl
 have c4:=cell_in (i:=4) hx1 rfl
 have c5:=cell_in (i:=5) hx1 rfl
 have HX1:=Hd hx1
 have HF1:=Hd (HF.out.trans hfr)
 clear hfr hx1
 go_wp2_with fail
 refine(enew_calls _).mono ?_
 rintro e w2 ⟨hfr,D,T,W,E,b,r,rfl,hD,hE⟩
 have hx2:=hfr.keep HX1.out (fun h=>h)
 have HX2:=Hd hx2
 have HF2:=Hd (HF1.out.trans hfr)
 have HE:=Hd hE
 have HS:=Hd (show∀w':World,Fr (fun _=>False) w2 w'→w'.cell? ⟨w.heap.size,0,none⟩=some (.int .i64 0)∧w'.cell? ⟨w.heap.size,1,none⟩=some (.int .i64 0)∧w'.cell? ⟨w.heap.size,2,none⟩=some (.int .i64 3)∧w'.cell? ⟨w.heap.size,3,none⟩=some (.int .i64 0)∧w'.cell? ⟨w.heap.size,4,none⟩=some (.int .i64 2)∧w'.cell? ⟨w.heap.size,5,none⟩=some (.int .i64 4096)∧w'.cell? ⟨w.heap.size,6,none⟩=some (.int .i64 0)∧w'.cell? ⟨w.heap.size,7,none⟩=some (.int .i64 0) from fun w' hf=>
  have h:=hf.keep hx2 (fun h=>h)
  ⟨cell_in (i:=0) h rfl,cell_in (i:=1) h rfl,cell_in (i:=2) h rfl,cell_in (i:=3) h rfl,cell_in (i:=4) h rfl,cell_in (i:=5) h rfl,cell_in (i:=6) h rfl,cell_in (i:=7) h rfl⟩)
 have HR:=Hd ((Fr.refl (fun _=>False) w2).drew)
 have HSC:=Hd (HS.out w2.drew HR.out)
 obtain⟨s0,s1,s2,s3,s4,s5,s6,s7⟩:=HS.out w2 (Fr.refl _ _)
 clear hfr hE hx2 c2 c3 c4 c5
 go_wp2_with fail
 go_region_held3 (fun w'=>w'.cell? ⟨w.heap.size,0,none⟩=some (.int .i64 0)∧w'.cell? ⟨w.heap.size,1,none⟩=some (.int .i64 0)∧w'.cell? ⟨w.heap.size,2,none⟩=some (.int .i64 3)∧w'.cell? ⟨w.heap.size,3,none⟩=some (.int .i64 0)∧w'.cell? ⟨w.heap.size,4,none⟩=some (.int .i64 2)∧w'.cell? ⟨w.heap.size,5,none⟩=some (.int .i64 4096)∧w'.cell? ⟨w.heap.size,6,none⟩=some (.int .i64 0)∧w'.cell? ⟨w.heap.size,7,none⟩=some (.int .i64 0)) (first|with_reducible exact HSC.out|with_reducible exact HS.out _ HR.out|with_reducible exact HS.out _ (HR.out.alloc _)) ((first
  | (go_at_call 25
     with_reducible refine(snew_calls _).mono ?_
     rintro e wc ⟨rfl,hfrc⟩
     have HR:=Hd (HR.out.trans hfrc)
     have HSC:=Hd (HS.out _ HR.out)
     obtain⟨s0,s1,s2,s3,s4,s5,s6,s7⟩:=HSC.out
     clear hfrc)))
 have hfa:=HR.out.alloc (.cells (packV g D (.slice none 0 0) false false false) 74)
 have hPk:Pk (wc.alloc (.cells (packV g D (.slice none 0 0) false false false) 74)) wc.heap.size g D T W E b r:=
  ⟨heap_alloc_new _ _,⟨hfa.keep HE.out.d (fun h=>h),⟨hfa.keep HE.out.tab.box (fun h=>h),fun j hj=>(HE.out.tab.set j hj).keep hfa,HE.out.tab.inj⟩,HE.out.win.keep hfa (fun h=>h) (fun _ _ h=>h),hfa.keep HE.out.rc (fun h=>h)⟩,HRD.out.keep (HF2.out.trans hfa)⟩
 have HPK:=Hd hPk
 have HFA:=Hd (HF2.out.trans hfa)
 have hPn:w.heap.size≤wc.heap.size:=(HF2.out.trans HR.out).size
 clear hfa hPk HSC HS s0 s1 s2 s3 s4 s5 s6 s7 HR HE HX2 HF2 HX1 HF1
 generalize wc.alloc (.cells (packV g D (.slice none 0 0) false false false) 74)=W1 at*
 generalize wc.heap.size=P at*
 go_wp2_with fail
 go_loopw [9] (fun i wr=>ERel W1 P i wr) (fun i _=>65536-(intOf i).toNat)
 case atStart=>exact .inl ⟨rfl,rfl⟩
 case round=>
  rcases hrel with⟨rfl,rfl⟩|⟨rfl,hfr,p,cap,hc,hM⟩
  ·have hfa:=(Fr.refl (fun _=>False) wr).alloc (.cells (waysV P) 131)
   have HW:=Hd (write_calls (HPK.out.keep hfa) (heap_alloc_new wr (.cells (waysV P) 131)))
   have HA:=Hd hfa
   clear hfa
   go_wp2_with fail
   refine HW.out.mono ?_
   rintro e w3 ⟨rfl,hfr3,p,cap,hc3,hM3⟩
   have HF3:=Hd hfr3
   have HM3:=Hd hM3
   have HC3:=Hd hc3
   clear hfr3 hM3 hc3
   go_wp2_with fail
   go_roundw
   case rel=>exact .inr ⟨by go_num,(HA.out.mono (T:=fun k=>k=P) (fun _ _ h=>h.elim)).trans HF3.out,p,cap,HC3.out,HM3.out.own,fun k hk=>Nat.le_trans HA.out.size (HM3.out.new k hk)⟩
   case measure=>simp[intOf]
  ·have hfa:=(Fr.refl (fun _=>False) wr).alloc (.cells #[.int .u8 0] 5)
   have hrd:=rd_one wr wr.heap.size rfl 0 0 rfl
   have HM:=Hd (hM.keep hfa)
   have HA:=Hd hfa
   have HRD0:=Hd hrd
   have HFR:=Hd hfr
   clear hM hfa hrd hfr
   go_wp2_with (at_builtin;refine append_mine rfl _ _ rfl (w0:=W1) (.slice p 6 cap) (.slice (some ⟨wr.heap.size,0,none⟩) 1 1) ([1,0,2]++abc) [0] rfl rfl HM.out (Nat.le_trans HFR.out.size HA.out.size) HRD0.out (by decide) ?_;intro p2 cap2 n2 w2 hn2 hM2 hfr2 hnew2;obtain rfl:n2=7:=hn2;have HM2:=Hd hM2;have HF2:=Hd hfr2;clear hM2 hfr2 hnew2)
   go_ret2
   refine⟨?_,p2,cap2,rfl,HM2.out.own,fun k hk=>Nat.le_trans HFA.out.size (HM2.out.new k hk)⟩
   exact(HFA.out.trans' HFR.out (fun k h1 h2=>by omega)).trans' ((HA.out.mono (T:=fun k=>W1.heap.size≤k) (fun _ _ h=>h.elim)).trans' HF2.out (fun k _ hk=>HM.out.new k hk)) (fun k h1 h2=>by have:=HFA.out.size;omega)
end Enc
end Go.Proofs.YtlgccpjccopdmaaGreatDoor
