/- Part 34 of 53: lemmas of the last part, each under the conditions that it names. -/
import Derived.Deep.WholeRow
import Derived.Test.YtilegoadokmcdaaGreatDoorP12
import Derived.Test.YtilegoadokmcdaaGreatDoorP33
set_option linter.unusedVariables false
set_option linter.unusedSimpArgs false
set_option maxRecDepth 1500
set_option maxHeartbeats 4000000
namespace Go.Proofs.YtilegoadokmcdaaGreatDoor
open Go.RowKit
namespace Enc
open Mem Win Lz St
def rowK(k:Nat):Nat:=if k<7 then k else k+8
def offK(k:Nat):Nat:=if k<7 then 8+k else 16+k
def updN(c:Nat→Nat)(j q:Nat):Nat→Nat:=fun i=>if i=j then q else c i
theorem tab_off(lc lp pb:Nat)(s:S)(c:Nat→Nat):∀k,k<10→(tabV lc lp pb s c)[offK k]? =some (.pointer (some ⟨c (rowK k),0,none⟩))
 |0,_=>rfl
 |1,_=>rfl
 |2,_=>rfl
 |3,_=>rfl
 |4,_=>rfl
 |5,_=>rfl
 |6,_=>rfl
 |7,_=>rfl
 |8,_=>rfl
 |9,_=>rfl
theorem tab_set(lc lp pb:Nat)(s:S)(c:Nat→Nat)(q:Nat):∀k,k<10→(tabV lc lp pb s c).setIfInBounds (offK k) (.pointer (some ⟨q,0,none⟩))=tabV lc lp pb s (updN c (rowK k) q)
 |0,_=>rfl
 |1,_=>rfl
 |2,_=>rfl
 |3,_=>rfl
 |4,_=>rfl
 |5,_=>rfl
 |6,_=>rfl
 |7,_=>rfl
 |8,_=>rfl
 |9,_=>rfl
def ptrsF(F:Nat):Array Value:=#[.pointer (some ⟨F,8,none⟩),.pointer (some ⟨F,9,none⟩),.pointer (some ⟨F,10,none⟩),.pointer (some ⟨F,11,none⟩),.pointer (some ⟨F,12,none⟩),.pointer (some ⟨F,13,none⟩),.pointer (some ⟨F,14,none⟩),.pointer (some ⟨F,23,none⟩),.pointer (some ⟨F,24,none⟩),.pointer (some ⟨F,25,none⟩)]
theorem ptrs_at(F:Nat):∀k,k<10→(ptrsF F)[k]? =some (.pointer (some ⟨F,offK k,none⟩))
 |0,_=>rfl
 |1,_=>rfl
 |2,_=>rfl
 |3,_=>rfl
 |4,_=>rfl
 |5,_=>rfl
 |6,_=>rfl
 |7,_=>rfl
 |8,_=>rfl
 |9,_=>rfl
theorem rowK_inj{k j:Nat}(h:rowK k=rowK j):k=j:=by
 unfold rowK at h
 split at h<;>split at h<;>omega
theorem fr4{F:Nat}{w0 wc:World}(h:Fr (fun i=>i=F) w0 wc)(i j k l:Nat)(a b c d:Value):Fr (fun i=>i=F) w0 ((((wc.setCell ⟨F,i,none⟩ a).setCell ⟨F,j,none⟩ b).setCell ⟨F,k,none⟩ c).setCell ⟨F,l,none⟩ d):=(((h.setCell (.inl rfl) _).setCell (.inl rfl) _).setCell (.inl rfl) _).setCell (.inl rfl) _
theorem rowK_lt{k:Nat}(h:k<10):rowK k<18:=by
 unfold rowK
 split<;>omega
set_option maxRecDepth 100000 in
theorem tabFork_calls(T lc lp pb:Nat)(b g:Nat→Nat)(s:S)(ps:Nat→List Nat)(w:World)(hT:Tab w T b g lc lp pb s ps)(hl:∀j,j<18→(ps j).length≤1048576):
 Calls Tryz.prog 97 #[ptr T] w (NewP w):=by
 have HTB:=Hd hT
 have HL:=Hd hl
 have hlT:=lt_of_block hT.box
 have HBX:=Hd hT.box
 clear hT hl
 have hsz:(tabV lc lp pb s b).size=26:=rfl
 have hst:(storeCells ⟨w.heap.size,0,none⟩ (tabV lc lp pb s b).toList).run Tryz.prog (w.alloc (.cells #[.int .i64 0,.int .i64 0,.int .i64 0,.int .i64 0,.int .i64 0,.int .i64 0,.int .i64 0,.int .i64 0,.pointer none,.pointer none,.pointer none,.pointer none,.pointer none,.pointer none,.pointer none,.pointer none,.pointer none,.pointer none,.pointer none,.pointer none,.pointer none,.pointer none,.pointer none,.pointer none,.pointer none,.pointer none] 119))=.ok () (w.alloc (.cells (tabV lc lp pb s b) 119)):=run_storeCells_new w _ #[.int .i64 0,.int .i64 0,.int .i64 0,.int .i64 0,.int .i64 0,.int .i64 0,.int .i64 0,.int .i64 0,.pointer none,.pointer none,.pointer none,.pointer none,.pointer none,.pointer none,.pointer none,.pointer none,.pointer none,.pointer none,.pointer none,.pointer none,.pointer none,.pointer none,.pointer none,.pointer none,.pointer none,.pointer none] (tabV lc lp pb s b) (by kernel_rfl) rfl (by simp[tabV,Value.oneCell'])
 go_enter Tryz.func97,Tryz.ntmps97
 go_wp2_with (first
  |(with_reducible refine wpList_load_row rfl 119 _ rfl T rfl 119 (tabV lc lp pb s b) (0,0) _ HBX.out Tryz.underlying119 rfl ?_ ?_;kernel_rfl))
 have hF0:=((Fr.refl (fun _=>False) w).alloc (.cells (tabV lc lp pb s b) 119)).alloc (.cells (ptrsF w.heap.size) 256)
 have hx0:=((Fr.refl (fun _=>False) (w.alloc (.cells (tabV lc lp pb s b) 119))).alloc (.cells (ptrsF w.heap.size) 256)).keep (heap_alloc_new w (.cells (tabV lc lp pb s b) 119)) (fun h=>h)
 have hy0:=heap_alloc_new (w.alloc (.cells (tabV lc lp pb s b) 119)) (.cells (ptrsF w.heap.size) 256)
 rw[World.size_alloc] at hy0
 go_loopw [5,21] (fun _ i wr=>∃(k:Nat)(c:Nat→Nat),k≤10∧i=.int .i64 k∧Fr (fun _=>False) w wr∧wr.heap[w.heap.size]? =some (.cells (tabV lc lp pb s c) 119 (0,0))∧wr.heap[w.heap.size+1]? =some (.cells (ptrsF w.heap.size) 256 (0,0))∧∀j,k≤j→c (rowK j)=b (rowK j)) (fun _ i _=>10-(intOf i).toNat)
 case atStart=>exact⟨0,b,by omega,rfl,hF0,hx0,hy0,fun _ _=>rfl⟩
 case round=>
  obtain⟨k,c,hk,rfl,hfr,hF,hG,hcb⟩:=hrel
  by_cases hlt:k<10
  ·have g0:=cell_in hG (ptrs_at w.heap.size k hlt)
   have f0:=cell_in hF (tab_off lc lp pb s c k hlt)
   rw[hcb k (Nat.le_refl _)] at f0
   have HK:=Hd (setFork_calls _ _ _ wr ((HTB.out.set (rowK k) (rowK_lt hlt)).keep hfr) (HL.out _ (rowK_lt hlt)))
   have HFR:=Hd hfr
   have HF:=Hd hF
   have HG:=Hd hG
   clear hfr hF hG hst hF0 hx0 hy0
   go_wp2_with fail
   refine HK.out.mono ?_
   rintro e w2 ⟨q,rfl,hfr2,hq⟩
   have hF2:=hfr2.keep HF.out (fun h=>h)
   have z0:=cell_in hF2 (tab_off lc lp pb s c k hlt)
   have zf:=frozen_in hF2 (offK k)
   have HF2:=Hd hF2
   have HFR2:=Hd hfr2
   clear hF2 hfr2
   go_wp2_with fail
   go_roundw
   case rel=>
    refine⟨k+1,updN c (rowK k) q,by omega,by go_num,(HFR.out.trans HFR2.out).setCell (.inr (Nat.le_refl _)) _,?_,?_,fun j hj=> ?_⟩
    ·rw[set_in HF2.out,tab_set lc lp pb s c q k hlt]
    ·exact((Fr.refl (fun i=>i=w.heap.size) w2).setCell (.inl rfl) _).keep (HFR2.out.keep HG.out (fun h=>h)) (by omega)
    ·unfold updN
     rw[if_neg (fun e=>by have:=rowK_inj e;omega)]
     exact hcb j (by omega)
   case measure=>simp[intOf];omega
  ·obtain rfl:k=10:=by omega
   have hT1:=hfr.keep HBX.out (fun h=>h)
   have HS:=Hd (show∀w':World,Fr (fun i=>i=w.heap.size) wr w'→w'.cell? ⟨T,15,none⟩=some (.pointer (some ⟨b 7,0,none⟩))∧w'.cell? ⟨T,16,none⟩=some (.pointer (some ⟨b 8,0,none⟩))∧w'.cell? ⟨T,17,none⟩=some (.pointer (some ⟨b 9,0,none⟩))∧w'.cell? ⟨T,18,none⟩=some (.pointer (some ⟨b 10,0,none⟩))∧w'.cell? ⟨T,19,none⟩=some (.pointer (some ⟨b 11,0,none⟩))∧w'.cell? ⟨T,20,none⟩=some (.pointer (some ⟨b 12,0,none⟩))∧w'.cell? ⟨T,21,none⟩=some (.pointer (some ⟨b 13,0,none⟩))∧w'.cell? ⟨T,22,none⟩=some (.pointer (some ⟨b 14,0,none⟩)) from fun w' h=>⟨cell_in (i:=15) (h.keep hT1 (by omega)) rfl,cell_in (i:=16) (h.keep hT1 (by omega)) rfl,cell_in (i:=17) (h.keep hT1 (by omega)) rfl,cell_in (i:=18) (h.keep hT1 (by omega)) rfl,cell_in (i:=19) (h.keep hT1 (by omega)) rfl,cell_in (i:=20) (h.keep hT1 (by omega)) rfl,cell_in (i:=21) (h.keep hT1 (by omega)) rfl,cell_in (i:=22) (h.keep hT1 (by omega)) rfl⟩)
   have HLF:=Hd (show∀(w':World)(m:Nat),(m=7∨m=11)→Fr (fun i=>i=w.heap.size) wr w'→∀x,x=b m∨x=b (m+1)∨x=b (m+2)∨x=b (m+3)→∃g ps,Prob.SetAt w' x g ps∧ps.length≤1048576 from fun w' m hm h x hx=>by
    have hfw:=hfr.trans' h (fun i hi(e:i=w.heap.size)=>by omega)
    rcases hx with rfl|rfl|rfl|rfl
    ·exact⟨_,_,(HTB.out.set m (by omega)).keep hfw,HL.out _ (by omega)⟩
    ·exact⟨_,_,(HTB.out.set (m+1) (by omega)).keep hfw,HL.out _ (by omega)⟩
    ·exact⟨_,_,(HTB.out.set (m+2) (by omega)).keep hfw,HL.out _ (by omega)⟩
    ·exact⟨_,_,(HTB.out.set (m+3) (by omega)).keep hfw,HL.out _ (by omega)⟩)
   have HFR:=Hd hfr
   have HF:=Hd hF
   have HR:=Hd (Fr.refl (fun i=>i=w.heap.size) wr)
   obtain⟨c0,c1,c2,c3,c4,c5,c6,c7⟩:=HS.out wr HR.out
   clear hfr hF hG hst hF0 hx0 hy0 hT1
   go_wp2_with fail
   have HSC:=Hd (HS.out _ (HR.out.drew))
   obtain⟨c0,c1,c2,c3,c4,c5,c6,c7⟩:=HSC.out
   have HR:=Hd HR.out.drew
   have HF:=Hd ((Fr.refl (fun _=>False) wr).drew.keep HF.out (fun h=>h))
   go_region_held3 (fun w'=>w'.cell? ⟨T,15,none⟩=some (.pointer (some ⟨b 7,0,none⟩))∧w'.cell? ⟨T,16,none⟩=some (.pointer (some ⟨b 8,0,none⟩))∧w'.cell? ⟨T,17,none⟩=some (.pointer (some ⟨b 9,0,none⟩))∧w'.cell? ⟨T,18,none⟩=some (.pointer (some ⟨b 10,0,none⟩))∧w'.cell? ⟨T,19,none⟩=some (.pointer (some ⟨b 11,0,none⟩))∧w'.cell? ⟨T,20,none⟩=some (.pointer (some ⟨b 12,0,none⟩))∧w'.cell? ⟨T,21,none⟩=some (.pointer (some ⟨b 13,0,none⟩))∧w'.cell? ⟨T,22,none⟩=some (.pointer (some ⟨b 14,0,none⟩))) (first|with_reducible exact HSC.out|with_reducible exact HS.out _ HR.out|with_reducible exact HS.out _ (fr4 HR.out _ _ _ _ _ _ _ _)|with_reducible exact HS.out _ (fr4 (fr4 HR.out _ _ _ _ _ _ _ _) _ _ _ _ _ _ _ _)) ((first
    | (go_at_call 141
       first
        |(with_reducible refine(lenFork_calls (b 7) (b 8) (b 9) (b 10) _ (HLF.out _ 7 (.inl rfl) HR.out)).mono ?_)
        |(with_reducible refine(lenFork_calls (b 11) (b 12) (b 13) (b 14) _ (HLF.out _ 11 (.inr rfl) HR.out)).mono ?_)
       rintro e wc ⟨q0,q1,q2,q3,rfl,hfrc⟩
       have HR:=Hd (HR.out.trans (hfrc.mono (fun _ _ h=>h.elim)))
       have HSC:=Hd (HS.out _ HR.out)
       obtain⟨c0,c1,c2,c3,c4,c5,c6,c7⟩:=HSC.out
       have HF:=Hd (hfrc.keep HF.out (fun h=>h))
       have y0:wc.cell? ⟨w.heap.size,15,none⟩=some (.pointer (some ⟨c 7,0,none⟩)):=cell_in (i:=15) HF.out rfl
       have y1:wc.cell? ⟨w.heap.size,16,none⟩=some (.pointer (some ⟨c 8,0,none⟩)):=cell_in (i:=16) HF.out rfl
       have y2:wc.cell? ⟨w.heap.size,17,none⟩=some (.pointer (some ⟨c 9,0,none⟩)):=cell_in (i:=17) HF.out rfl
       have y3:wc.cell? ⟨w.heap.size,18,none⟩=some (.pointer (some ⟨c 10,0,none⟩)):=cell_in (i:=18) HF.out rfl
       have y4:wc.cell? ⟨w.heap.size,19,none⟩=some (.pointer (some ⟨c 11,0,none⟩)):=cell_in (i:=19) HF.out rfl
       have y5:wc.cell? ⟨w.heap.size,20,none⟩=some (.pointer (some ⟨c 12,0,none⟩)):=cell_in (i:=20) HF.out rfl
       have y6:wc.cell? ⟨w.heap.size,21,none⟩=some (.pointer (some ⟨c 13,0,none⟩)):=cell_in (i:=21) HF.out rfl
       have y7:wc.cell? ⟨w.heap.size,22,none⟩=some (.pointer (some ⟨c 14,0,none⟩)):=cell_in (i:=22) HF.out rfl
       have yf:=fun i=>frozen_in HF.out i
       clear hfrc)))
   go_wp2_with fail
   go_ret
   exact⟨w.heap.size,rfl,HFR.out.trans' (fr4 (fr4 HR.out _ _ _ _ _ _ _ _) _ _ _ _ _ _ _ _) (fun i hi e=>by omega),Nat.le_refl _⟩
end Enc
namespace Wire
open Mem Win
structure Wr(w0 w:World)(B:Nat)(v:Value)(bs:List UInt8):Prop where
 box:w.heap[B]? =some (.cells #[.int .i64 bs.length,v] 252 (0,0))
 own:Mine w0 w v bs
 new:w0.heap.size≤B
 apart:∀k,v.ownBlock=some k→k≠B
theorem onT_calls(B n k:Nat)(v:Value)(T:TypeId)(w:World)(h:w.heap[B]? =some (.cells #[.int .i64 n,v] T (0,0)))(hk:n+k≤9223372036854775807):
 Calls Tryz.prog 137 #[.pointer (some ⟨B,0,none⟩),.int .i64 k] w fun e w'=>e=.returned (.tuple #[])∧Fr (fun k=>k=B) w w'∧w'.heap[B]? =some (.cells #[.int .i64 ((n+k:Nat):Int),v] T (0,0)):=by
 have c0:w.cell? ⟨B,0,none⟩=some (.int .i64 n):=cell_in h rfl
 have f0:=frozen_in h 0
 have hw:IntKind.i64.wrap ((n:Int)+k)=((n+k:Nat):Int):=by rw[IntWalk.i64_in _ (by omega)];omega
 have H:=Hd h
 clear h
 generalize n+k=nk at*
 go_enter Tryz.func137,Tryz.ntmps137
 go_wp2_with fail
 go_end0
 exact⟨rfl,Fr.one _ _ _ _,by rw[set_in H.out 0];rfl⟩
theorem newWriter_calls(w:World):Calls Tryz.prog 93 #[] w fun e w'=>e=.returned (.pointer (some ⟨w.heap.size,0,none⟩))∧Fr (fun _=>False) w w'∧Wr w w' w.heap.size (.slice none 0 0) []:=by
 go_enter Tryz.func93,Tryz.ntmps93
 go_wp2_with fail
 go_ret
 exact⟨rfl,(Fr.refl _ w).alloc _,heap_alloc_new w _,Mine.nil _ _,Nat.le_refl _,fun k hk=>by simp[Value.ownBlock] at hk⟩
theorem Wr.on{w0 w w2 w3:World}{B:Nat}{v v2:Value}{bs bs2:List UInt8}(h:Wr w0 w B v bs)(hle:w0.heap.size≤w.heap.size)(W:World)(hW:Fr (fun _=>False) w W)(hM:Mine w0 w2 v2 bs2)(hfr:Fr (fun k=>v.ownBlock=some k) W w2)(hnew:∀k,v2.ownBlock=some k→v.ownBlock=some k∨W.heap.size≤k)
 (hfr3:Fr (fun k=>k=B) (w2.setCell ⟨B,1,none⟩ v2) w3)(hb:w3.heap[B]? =some (.cells #[.int .i64 bs2.length,v2] 252 (0,0))):Wr w0 w3 B v2 bs2∧Fr (fun k=>w0.heap.size≤k) w w3:=by
 have hB:=lt_of_block h.box
 have hap:∀k,v2.ownBlock=some k→k≠B:=fun k hk=>by
  rcases hnew k hk with h1|h1
  ·exact h.apart k h1
  ·have:=hW.size
   omega
 refine⟨⟨hb,(hM.step ((Fr.one w2 B 1 v2).trans hfr3) (fun k hk=>hap k hk)),h.new,hap⟩,?_⟩
 have hn:=h.new
 refine((hW.mono (fun _ _ h=>h.elim)).trans' hfr (fun k _ hk=>h.own.new k hk)).trans (((Fr.one w2 B 1 v2).trans hfr3).mono (fun k _ hk=> ?_))
 show w0.heap.size≤k
 omega
theorem add_calls{w0 w:World}(B:Nat)(v:Value)(bs:List UInt8)(c:UInt8)(x:Int)(hx:x=(c.toNat:Int))(h:Wr w0 w B v bs)(hle:w0.heap.size≤w.heap.size)(hn:bs.length≤1000000):
 Calls Tryz.prog 139 #[.pointer (some ⟨B,0,none⟩),.int .u8 x] w fun e w'=>e=.returned (.tuple #[])∧∃v',Wr w0 w' B v' (bs++[c])∧Fr (fun k=>w0.heap.size≤k) w w':=by
 obtain⟨p,cap,rfl⟩:=h.own.slice
 have c1:w.cell? ⟨B,1,none⟩=some (.slice p bs.length cap):=cell_in h.box rfl
 have HA:=Hd ((Fr.refl (fun _=>False) w).alloc (.cells #[.int .u8 x] 5))
 have HRD:=Hd (rd_one w w.heap.size rfl c x hx)
 have HH:=Hd h
 have HLE:=Hd hle
 have HBX:=Hd (HA.out.keep h.box (fun h=>h))
 have HM:=Hd (h.own.keep HA.out)
 have HN:=Hd hn
 obtain⟨nb,hnb⟩:∃nb,nb=bs.length:=⟨_,rfl⟩
 have HNB:=Hd hnb
 rw[←hnb] at c1
 have HAP:=Hd (show∀k,(Value.slice p nb cap).ownBlock=some k→k≠B from fun k hk=>h.apart k (by rw[←hnb];exact hk))
 clear h hle hx hn hnb
 go_enter Tryz.func139,Tryz.ntmps139
 go_wp2_with (at_builtin;refine append_mine rfl _ _ rfl (w0:=w0) (.slice p nb cap) (.slice (some ⟨w.heap.size,0,none⟩) 1 1) bs [c] rfl rfl (by rw[HNB.out];exact HM.out) (Nat.le_trans HLE.out HA.out.size) HRD.out (by have:=HN.out;simp only[List.length_singleton];omega) ?_;intro p2 cap2 n2 w2 hn2 hM2 hfr2 hnew2;have hx2:=hfr2.keep HBX.out (fun h=>HAP.out B h rfl);have z1:=cell_in (i:=1) hx2 rfl;have zf:=frozen_in hx2 1;have HX2:=Hd hx2;have HM2:=Hd hM2;have HF2:=Hd hfr2;have HN2:=Hd hnew2;have HL2:=Hd hn2;clear hx2 hM2 hfr2 hnew2 hn2)
 have HON:=Hd (onT_calls B bs.length 1 (.slice p2 n2 cap2) 252 (w2.setCell ⟨B,1,none⟩ (.slice p2 n2 cap2)) (by rw[set_in HX2.out 1,←HNB.out];rfl) (by have:=HN.out;omega))
 go_wp2_with fail
 refine HON.out.mono ?_
 rintro e w3 ⟨rfl,hfr3,hb3⟩
 have KEY:=Hd (Wr.on HH.out HLE.out _ HA.out HM2.out (by have:=HF2.out;rw[HNB.out] at this;exact this) (by have:=HN2.out;rw[HNB.out] at this;exact this) hfr3 (by rw[List.length_append];exact hb3))
 clear hfr3 hb3
 go_wp2_with fail
 go_end0
 exact⟨rfl,_,KEY.out⟩
theorem wput_calls{w0 w:World}(B:Nat)(v:Value)(bs ys:List UInt8)(q:Option Addr)(n qc:Nat)(h:Wr w0 w B v bs)(hle:w0.heap.size≤w.heap.size)(hrd:Rd w (.slice q n qc) ys)(hn:bs.length+ys.length≤1000000)(hyn:ys.length=n):
 Calls Tryz.prog 94 #[.pointer (some ⟨B,0,none⟩),.slice q n qc] w fun e w'=>e=.returned (.tuple #[])∧∃v',Wr w0 w' B v' (bs++ys)∧Fr (fun k=>w0.heap.size≤k) w w':=by
 obtain⟨p,cap,rfl⟩:=h.own.slice
 have c1:w.cell? ⟨B,1,none⟩=some (.slice p bs.length cap):=cell_in h.box rfl
 have HRD:=Hd hrd
 have HH:=Hd h
 have HLE:=Hd hle
 have HN:=Hd hn
 have HYN:=Hd hyn
 obtain⟨nb,hnb⟩:∃nb,nb=bs.length:=⟨_,rfl⟩
 have HNB:=Hd hnb
 rw[←hnb] at c1
 have HAP:=Hd (show∀k,(Value.slice p nb cap).ownBlock=some k→k≠B from fun k hk=>h.apart k (by rw[←hnb];exact hk))
 clear h hle hn hnb hrd hyn
 go_enter Tryz.func94,Tryz.ntmps94
 go_wp2_with (at_builtin;refine append_mine rfl _ _ rfl (w0:=w0) (.slice p nb cap) (.slice q n qc) bs ys rfl rfl (by rw[HNB.out];exact HH.out.own) HLE.out HRD.out (by have:=HN.out;omega) ?_;intro p2 cap2 n2 w2 hn2 hM2 hfr2 hnew2;have hx2:=hfr2.keep HH.out.box (fun h=>HAP.out B h rfl);have z1:=cell_in (i:=1) hx2 rfl;have zf:=frozen_in hx2 1;have HX2:=Hd hx2;have HM2:=Hd hM2;have HF2:=Hd hfr2;have HN2:=Hd hnew2;have HL2:=Hd hn2;clear hx2 hM2 hfr2 hnew2 hn2)
 have HON:=Hd (onT_calls B bs.length n (.slice p2 n2 cap2) 252 (w2.setCell ⟨B,1,none⟩ (.slice p2 n2 cap2)) (by rw[set_in HX2.out 1];rfl) (by have:=HN.out;have:=HYN.out;omega))
 go_wp2_with fail
 refine HON.out.mono ?_
 rintro e w3 ⟨rfl,hfr3,hb3⟩
 have KEY:=Hd (Wr.on HH.out HLE.out _ (Fr.refl _ _) HM2.out (by have:=HF2.out;rw[HNB.out] at this;exact this) (by have:=HN2.out;rw[HNB.out] at this;exact this) hfr3 (by rw[List.length_append,HYN.out];exact hb3))
 clear hfr3 hb3
 go_wp2_with fail
 go_end0
 exact⟨rfl,_,KEY.out⟩
theorem bytes_calls{w0 w:World}(B:Nat)(v:Value)(bs:List UInt8)(h:Wr w0 w B v bs)(h0:0<bs.length)(hn:bs.length≤1000000):
    Calls Tryz.prog 96 #[.pointer (some ⟨B,0,none⟩)] w fun e w'=>Fr (fun _=>False) w w'∧∃p cap,e=.returned (.slice p bs.length cap)∧Mine w w' (.slice p bs.length cap) bs:=by
  obtain⟨p,cap,rfl⟩:=h.own.slice
  have hrd:=h.own.rd
  have c1:w.cell? ⟨B,1,none⟩=some (.slice p bs.length cap):=cell_in h.box rfl
  have hf1:=(Fr.refl (fun _=>False) w).alloc (.cells (Array.replicate bs.length (.int .u8 0)) 5)
  have hx:=heap_alloc_new w (.cells (Array.replicate bs.length (.int .u8 0)) 5)
  have hmk:=make_u8 bs.length (by omega)
  have hown:(w.alloc (.cells (Array.replicate bs.length (.int .u8 0)) 5)).ownsRow 0 5 1 (.slice (some ⟨w.heap.size,0,none⟩) bs.length bs.length) bs.length (bvs (List.replicate bs.length 0)):=by
    refine own_row (g:=w.heap.size) ?_ (by simp[bvs]) (by simp only[maxLen];omega)
    rw[hx]
    simp[bvs,bv]
  have z1:(w.alloc (.cells (Array.replicate bs.length (.int .u8 0)) 5)).cell? ⟨B,1,none⟩=some (.slice p bs.length cap):=cell_in (hf1.keep h.box (fun h=>h)) rfl
  have HO:=Hd hown
  have HR:=Hd (hrd.keep hf1)
  have HF:=Hd hf1
  have hu:=Tryz.underlying22
  clear hrd hf1 hx hown h
  go_enter Tryz.func96,Tryz.ntmps96
  go_wp2_with (refine wpList_copy_any rfl (.tmp 10) (.tmp 14) 22 22 5 rfl hu sizeU8 (some ⟨w.heap.size,0,none⟩) bs.length bs.length 0 (List.replicate bs.length 0) 5 (by rw[dropP_zero];rfl) HO.out h0 p bs.length cap bs rfl HR.out h0 bs.length (by omega) ?_
               intro w2 hown2 hfr2
               have HO2:=Hd hown2
               have HF2:=Hd hfr2
               clear hown2 hfr2)
  go_ret
  have h1:=HO2.out
  simp only[List.take_zero,List.nil_append,Nat.zero_add] at h1
  rw[List.drop_of_length_le (by simp),List.append_nil,List.take_length] at h1
  refine⟨HF.out.trans' HF2.out (fun i hi h=> ?_),_,_,rfl,h1,fun k hk=>by simp only[Value.ownBlock,Option.some.injEq] at hk;omega⟩
  simp only[Value.ownBlock,Option.some.injEq] at h
  omega
theorem whigh2_calls{w0 w:World}(B:Nat)(v:Value)(bs:List UInt8)(h:Wr w0 w B v bs)(hle:w0.heap.size≤w.heap.size)(hn:bs.length≤1000):
 Calls Tryz.prog 95 #[.pointer (some ⟨B,0,none⟩),.int .u64 2,.int .i64 2] w fun e w'=>e=.returned (.int .i64 0)∧∃v',Wr w0 w' B v' (bs++[0,2])∧Fr (fun k=>w0.heap.size≤k) w w':=by
 have HLE:=Hd hle
 have HH:=Hd h
 have HN:=Hd hn
 clear h hle hn
 go_enter Tryz.func95,Tryz.ntmps95
 go_wp2_with fail
 refine(wide_calls _).mono ?_
 rintro e w1 ⟨rfl,rfl⟩
 go_wp2_with fail
 go_loopw [12] (fun i wr=>∃(k:Nat)(v':Value),k≤2∧i=.int .i64 k∧Wr w0 wr B v' (bs++[0,2].take k)∧Fr (fun k=>w0.heap.size≤k) w wr) (fun i _=>2-(intOf i).toNat)
 case atStart=>exact⟨0,v,by omega,rfl,by simpa using HH.out,Fr.refl _ _⟩
 case round=>
  obtain⟨k,v',hk,rfl,hW,hfr⟩:=hrel
  have hle2:=Nat.le_trans HLE.out hfr.size
  have HFR:=Hd hfr
  have HL2:=Hd hle2
  have HW:=Hd hW
  clear hfr hle2 hW
  have h3:k=0∨k=1∨k=2:=by omega
  clear hk
  rcases h3 with rfl|rfl|rfl
  ·have HAD:=Hd (add_calls (w0:=w0) (w:=wr) B v' bs 0 0 (by rfl) (by simpa using HW.out) HL2.out (by have:=HN.out;omega))
   go_wp2_with fail
   refine HAD.out.mono ?_
   rintro e w2 ⟨rfl,v2,hW2,hfr2⟩
   have HW2:=Hd hW2
   have HF2:=Hd hfr2
   clear hW2 hfr2
   go_wp2_with fail
   go_roundw
   case rel=>exact⟨1,v2,by omega,by go_num,by simpa using HW2.out,HFR.out.trans HF2.out⟩
   case measure=>simp[intOf]
  ·have HAD:=Hd (add_calls (w0:=w0) (w:=wr) B v' (bs++[0]) 2 2 (by rfl) (by simpa using HW.out) HL2.out (by have:=HN.out;rw[List.length_append,List.length_singleton];omega))
   go_wp2_with fail
   refine HAD.out.mono ?_
   rintro e w2 ⟨rfl,v2,hW2,hfr2⟩
   have HW2:=Hd hW2
   have HF2:=Hd hfr2
   clear hW2 hfr2
   go_wp2_with fail
   go_roundw
   case rel=>exact⟨2,v2,by omega,by go_num,by simpa using HW2.out,HFR.out.trans HF2.out⟩
   case measure=>simp[intOf]
  ·go_wp2_with fail
   go_ret
   exact⟨rfl,v',by simpa using HW.out,HFR.out⟩
end Wire
namespace Enc
open Mem Win
abbrev head3:Array Value:=#[.int .i64 1,.int .i64 3,.int .i64 3,.int .i64 0,.int .i64 0,.int .i64 0]
theorem sized_calls(w:World):Calls Tryz.prog 92 #[.agg head3] w fun e w'=>e=.returned (.bool true)∧Fr (fun _=>False) w w':=by
 have HF:=Hd ((Fr.refl (fun _=>False) w).alloc (.cells head3 52))
 go_enter Tryz.func92,Tryz.ntmps92
 go_wp2_with fail
 go_ret
 exact⟨rfl,HF.out⟩
theorem hput_calls(w:World):Calls Tryz.prog 59 #[.agg head3] w fun e w'=>Fr (fun _=>False) w w'∧∃p cap,e=.returned (.tuple #[.slice p 3 cap,.int .i64 0])∧Mine w w' (.slice p 3 cap) [1,0,2]:=by
 have HF:=Hd ((Fr.refl (fun _=>False) w).alloc (.cells head3 52))
 have HX:=Hd (heap_alloc_new w (.cells head3 52))
 go_enter Tryz.func59,Tryz.ntmps59
 go_wp2_with fail
 refine(sized_calls _).mono ?_
 rintro e w1 ⟨rfl,hfr⟩
 have hx1:=hfr.keep HX.out (fun h=>h)
 obtain⟨c0,c1⟩:=cs2 hx1 rfl rfl
 have HX1:=Hd hx1
 have HF1:=Hd (HF.out.trans hfr)
 clear hfr hx1
 go_wp2_with fail
 refine(Wire.newWriter_calls _).mono ?_
 rintro e w2 ⟨rfl,hfr,hW⟩
 have hx2:=hfr.keep HX1.out (fun h=>h)
 obtain⟨d0,d1⟩:=cs2 hx2 rfl rfl
 have HX2:=Hd hx2
 have HF2:=Hd hfr
 have HW:=Hd hW
 clear hfr hx2 hW
 go_wp2_with fail
 have hA:=(Fr.refl (fun _=>False) w2).alloc (.cells #[.int .u8 1] 5)
 have hrd:=rd_one w2 w2.heap.size rfl 1 1 rfl
 refine(Wire.wput_calls (w0:=w1) w1.heap.size (.slice none 0 0) [] [1] (some ⟨w2.heap.size,0,none⟩) 1 1 ⟨hA.keep HW.out.box (fun h=>h),HW.out.own.keep hA,HW.out.new,HW.out.apart⟩ (Nat.le_trans HF2.out.size hA.size) hrd (by decide) rfl).mono ?_
 rintro e w3 ⟨rfl,v3,hW3,hfr3⟩
 have hx3:=hfr3.keep (hA.keep HX2.out (fun h=>h)) (by have:=lt_of_block HX1.out;omega)
 obtain⟨a0,a1⟩:=cs2 hx3 rfl rfl
 have HW3:=Hd hW3
 have HF3:=Hd ((HF2.out.trans hA).trans' hfr3 (fun k h1 h2=>by omega))
 clear hfr3 hx3 hW3 hA hrd
 go_wp2_with fail
 refine(Wire.whigh2_calls (w0:=w1) w1.heap.size v3 [1] HW3.out HF3.out.size (by decide)).mono ?_
 rintro e w4 ⟨rfl,v4,hW4,hfr4⟩
 have HW4:=Hd hW4
 have HF4:=Hd (HF3.out.trans' hfr4 (fun k h1 h2=>by omega))
 clear hfr4 hW4
 go_wp2_with fail
 refine(Wire.bytes_calls (w0:=w1) w1.heap.size v4 [1,0,2] HW4.out (by decide) (by decide)).mono ?_
 rintro e w5 ⟨hfr5,p,cap,rfl,hM⟩
 have HM:=Hd hM
 have HF5:=Hd hfr5
 clear hfr5 hM
 go_wp2_with fail
 go_ret2
 exact⟨HF1.out.trans (HF4.out.trans HF5.out),p,cap,rfl,HM.out.own,fun k hk=>Nat.le_trans (Nat.le_trans HF1.out.size HF4.out.size) (HM.out.new k hk)⟩
end Enc
namespace Enc
open Mem Win Lz St
theorem tabForks:TabForks:=fun T lc lp pb b g s ps w h hl=>tabFork_calls T lc lp pb b g s ps w h hl
abbrev abc:List UInt8:=[97,98,99]
abbrev packV(g D:Nat)(out:Value)(x y z:Bool):Array Value:=#[.int .i64 0,.int .i64 0,.int .i64 3,.int .i64 0,.int .i64 2,.int .i64 4096,.int .i64 0,.int .i64 0,.slice (some ⟨g,0,none⟩) 3 3,ptr D,.int .i64 0,.int .i64 1,.int .i64 1,.int .i64 1,.int .i64 1,out,.bool x,.bool y,.bool z]
abbrev resV(g D:Nat):Array Value:=#[.int .i64 1,.int .i64 3,.int .i64 3,.int .i64 0,.int .i64 0,.int .i64 0,.slice (some ⟨g,0,none⟩) 3 3,ptr D,.int .i64 0,.int .i64 1,.int .i64 1,.int .i64 1,.int .i64 1]
structure Pk(w:World)(P g D T W E:Nat)(b r:Nat→Nat):Prop where
 box:w.heap[P]? =some (.cells (packV g D (.slice none 0 0) false false false) 97 (0,0))
 enc:EncAt w D T W E b r
 rd:Rd w (.slice (some ⟨g,0,none⟩) 3 3) abc
theorem Pk.keep{w w':World}{P g D T W E:Nat}{b r:Nat→Nat}(h:Pk w P g D T W E b r)(hf:Fr (fun _=>False) w w'):Pk w' P g D T W E b r:=
 ⟨hf.keep h.box (fun h=>h),⟨hf.keep h.enc.d (fun h=>h),⟨hf.keep h.enc.tab.box (fun h=>h),fun j hj=>(h.enc.tab.set j hj).keep hf,h.enc.tab.inj⟩,h.enc.win.keep hf (fun h=>h) (fun _ _ h=>h),hf.keep h.enc.rc (fun h=>h)⟩,h.rd.keep hf⟩
theorem Pk.lt{w:World}{P g D T W E:Nat}{b r:Nat→Nat}(h:Pk w P g D T W E b r):g<w.heap.size:=by
 obtain⟨p,cap,e,_,_,h3⟩:=h.rd
 obtain⟨b,o,rfl,hc⟩:=h3 (by decide)
 have h1:=hc 0 97 rfl
 simp only[Value.slice.injEq,Option.some.injEq,Addr.mk.injEq] at e
 obtain⟨⟨rfl,rfl,_⟩,_⟩:=e
 exact block_lt_of_cell h1
theorem praw_calls{w:World}{P g D T W E:Nat}{b r:Nat→Nat}(h:Pk w P g D T W E b r):Calls Tryz.prog 40 #[ptr P,.int .i64 0,.int .i64 3] w fun e w'=>Fr (fun _=>False) w w'∧∃R D',e=.returned (ptr R)∧w.heap.size≤R∧w'.heap[R]? =some (.cells (resV g D') 146 (0,0)):=by
 have c8:w.cell? ⟨P,8,none⟩=some (.slice (some ⟨g,0,none⟩) 3 3):=cell_in h.box rfl
 have c9:w.cell? ⟨P,9,none⟩=some (ptr D):=cell_in h.box rfl
 have c16:w.cell? ⟨P,16,none⟩=some (.bool false):=cell_in h.box rfl
 have hsl:∀W:World,(Instr.slice 22 (.slice (some ⟨g,0,none⟩) 3 3) (some (.int .i64 0)) (some (.int .i64 3)) none).run Tryz.prog W=.ok (.slice (some ⟨g,0,none⟩) 3 3) W:=by
  intro W
  have:=slice_lhI (some ⟨g,0,none⟩) 3 3 0 3 0 3 rfl rfl (by omega) (by omega) W
  rw[Wire.dropP_zero] at this
  exact this
 have HFK:=Hd (efork_calls tabForks h.enc)
 have HH:=Hd h
 have HLT:=Hd h.lt
 clear h
 go_enter Tryz.func40,Tryz.ntmps40
 go_wp2_with fail
 refine HFK.out.mono ?_
 rintro e w2 ⟨D',T',W',E',rv,rfl,hfr2,hD,hd,hw,hW0,hrv0⟩
 have HR:=Hd (eraw_calls D' T' W' E' rv (.slice (some ⟨g,0,none⟩) 3 3) abc w2 hd hw (HH.out.rd.keep hfr2) (fun _ k hk hk2=>by
  have h1:=hrv0 k hk2
  have h2:=HLT.out
  simp only[Value.ownBlock,Option.some.injEq] at hk
  omega) (by decide))
 have HF2:=Hd hfr2
 have HN:=Hd hW0
 have HN2:=Hd hrv0
 clear hfr2 hd hw hW0 hrv0
 go_wp2_with fail
 refine HR.out.mono ?_
 rintro e w3 ⟨rfl,hfr3⟩
 have hf3:=HF2.out.trans' hfr3 (fun k h1 h2=>by
  rcases h2 with h2|h2
  ·have:=HN.out
   omega
  ·have:=HN2.out k h2
   omega)
 have hbx:=hf3.keep HH.out.box (fun h=>h)
 have d10:=cell_in (i:=10) hbx rfl
 have d11:=cell_in (i:=11) hbx rfl
 have d12:=cell_in (i:=12) hbx rfl
 have d13:=cell_in (i:=13) hbx rfl
 have d14:=cell_in (i:=14) hbx rfl
 have HF3:=Hd hf3
 clear hfr3 hf3 hbx
 go_wp2_with fail
 go_ret
 exact⟨HF3.out.alloc _,w3.heap.size,D',rfl,HF3.out.size,heap_alloc_new _ _⟩
theorem ptried_calls{w:World}{P g D T W E:Nat}{b r:Nat→Nat}(h:Pk w P g D T W E b r):Calls Tryz.prog 41 #[ptr P,.int .i64 0,.int .i64 3] w fun e w'=>e=.returned (.pointer none)∧w=w':=by
 have c7:w.cell? ⟨P,7,none⟩=some (.int .i64 0):=cell_in h.box rfl
 clear h
 go_enter Tryz.func41,Tryz.ntmps41
 go_wp2_with fail
 go_ret
 exact⟨rfl,rfl⟩
end Enc
end Go.Proofs.YtilegoadokmcdaaGreatDoor
