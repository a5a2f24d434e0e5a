/- Part 34 of 52: lemmas of the last part, each under the conditions that it names. -/
import Derived.Test.YtffoddpjfgjelaaGreatDoorP14
import Derived.Test.YtffoddpjfgjelaaGreatDoorP15
import Derived.Test.YtffoddpjfgjelaaGreatDoorP26
import Derived.Test.YtffoddpjfgjelaaGreatDoorP32
import Derived.Test.YtffoddpjfgjelaaGreatDoorP33
set_option linter.unusedVariables false
set_option linter.unusedSimpArgs false
set_option maxRecDepth 1500
set_option maxHeartbeats 4000000
namespace Go.Proofs.YtffoddpjfgjelaaGreatDoor
open Go.RowKit
namespace Enc
open Mem Win Lz St
def NewTab(w:World)(lc lp pb:Nat)(s:S)(ps:Nat→List Nat)(e:Ending)(w':World):Prop:=∃T' c h,e=.returned (ptr T')∧Fr (fun _=>False) w w'∧w.heap.size≤T'∧Tab w' T' c h lc lp pb s ps∧∀j,j<18→w.heap.size≤c j∧w.heap.size≤h j
theorem set_off{w:World}{b g F:Nat}{p:List Nat}{cs:Array Value}{fr:Nat×Nat}(h:Prob.SetAt w b g p)(hF:w.heap[F]? =some (.cells cs 217 fr)):¬b=F∧¬g=F:=by
 obtain⟨cap,cs',h1,h2,_⟩:=h
 constructor
 ·rintro rfl
  rw[hF] at h1
  simp at h1
 ·rintro rfl
  rw[hF] at h2
  simp at h2
set_option maxRecDepth 100000 in
theorem tabForkP_calls(T lc lp pb:Nat)(b g:Nat→Nat)(s:S)(ps:Nat→List Nat)(w:World)(hT:Tab w T b g lc lp pb s ps)(hl:∀j,j<18→0<(ps j).length∧(ps j).length≤1048576):
 Calls Tryz.prog 119 #[ptr T] w (NewTab w lc lp pb s ps):=by
 have HTB:=Hd hT
 have HL:=Hd hl
 have hlT:=lt_of_block hT.box
 have HBX:=Hd hT.box
 clear hT hl
 have hsz:(tabV lc lp pb s b).size=26:=rfl
 have hst:(storeCells ⟨w.heap.size,0,none⟩ (tabV lc lp pb s b).toList).run Tryz.prog (w.alloc (.cells #[.int .i64 0,.int .i64 0,.int .i64 0,.int .i64 0,.int .i64 0,.int .i64 0,.int .i64 0,.int .i64 0,.pointer none,.pointer none,.pointer none,.pointer none,.pointer none,.pointer none,.pointer none,.pointer none,.pointer none,.pointer none,.pointer none,.pointer none,.pointer none,.pointer none,.pointer none,.pointer none,.pointer none,.pointer none] 217))=.ok () (w.alloc (.cells (tabV lc lp pb s b) 217)):=run_storeCells_new w _ #[.int .i64 0,.int .i64 0,.int .i64 0,.int .i64 0,.int .i64 0,.int .i64 0,.int .i64 0,.int .i64 0,.pointer none,.pointer none,.pointer none,.pointer none,.pointer none,.pointer none,.pointer none,.pointer none,.pointer none,.pointer none,.pointer none,.pointer none,.pointer none,.pointer none,.pointer none,.pointer none,.pointer none,.pointer none] (tabV lc lp pb s b) (by kernel_rfl) rfl (by simp[tabV,Value.oneCell'])
 go_enter Tryz.func119,Tryz.ntmps119
 go_wp2_with (first
  |(with_reducible refine wpList_load_row rfl 217 _ rfl T rfl 217 (tabV lc lp pb s b) (0,0) _ HBX.out Tryz.underlying217 rfl ?_ ?_;kernel_rfl))
 have hF0:=((Fr.refl (fun _=>False) w).alloc (.cells (tabV lc lp pb s b) 217)).alloc (.cells (ptrsF w.heap.size) 303)
 have hx0:=((Fr.refl (fun _=>False) (w.alloc (.cells (tabV lc lp pb s b) 217))).alloc (.cells (ptrsF w.heap.size) 303)).keep (heap_alloc_new w (.cells (tabV lc lp pb s b) 217)) (fun h=>h)
 have hy0:=heap_alloc_new (w.alloc (.cells (tabV lc lp pb s b) 217)) (.cells (ptrsF w.heap.size) 303)
 rw[World.size_alloc] at hy0
 go_loopw [5,21] (fun _ i wr=>∃(k:Nat)(c h:Nat→Nat),k≤10∧i=.int .i64 k∧Fr (fun _=>False) w wr∧wr.heap[w.heap.size]? =some (.cells (tabV lc lp pb s c) 217 (0,0))∧wr.heap[w.heap.size+1]? =some (.cells (ptrsF w.heap.size) 303 (0,0))∧(∀j,k≤j→c (rowK j)=b (rowK j))∧Got w wr k c h ps) (fun _ i _=>10-(intOf i).toNat)
 case atStart=>exact⟨0,b,b,by omega,rfl,hF0,hx0,hy0,fun _ _=>rfl,⟨fun j hj=>absurd hj (by omega),fun i j hi=>absurd hi (by omega)⟩⟩
 case round=>
  obtain⟨k,c,h,hk,rfl,hfr,hF,hG,hcb,hgot⟩:=hrel
  have HGT:=Hd hgot
  have HFF:=Hd (show w.heap.size+2≤wr.heap.size from lt_of_block hG)
  clear hgot
  by_cases hlt:k<10
  ·have g0:=cell_in hG (ptrs_at w.heap.size k hlt)
   have f0:=cell_in hF (tab_off lc lp pb s c k hlt)
   rw[hcb k (Nat.le_refl _)] at f0
   have HK:=Hd (setForkP_calls _ _ _ wr ((HTB.out.set (rowK k) (rowK_lt hlt)).keep hfr) (HL.out _ (rowK_lt hlt)).1 (HL.out _ (rowK_lt hlt)).2)
   have HFR:=Hd hfr
   have HF:=Hd hF
   have HG:=Hd hG
   clear hfr hF hG hst hF0 hx0 hy0
   go_wp2_with fail
   refine HK.out.mono ?_
   rintro e w2 ⟨q,rfl,hfr2,hq1,hq2,hqs⟩
   have hF2:=hfr2.keep HF.out (fun h=>h)
   have z0:=cell_in hF2 (tab_off lc lp pb s c k hlt)
   have zf:=frozen_in hF2 (offK k)
   have HF2:=Hd hF2
   have HFR2:=Hd hfr2
   have HGT2:=Hd (HGT.out.snoc hfr2 HFF.out hq1 hq2 hqs)
   clear hF2 hfr2 hq1 hq2 hqs
   go_wp2_with fail
   go_roundw
   case rel=>
    refine⟨k+1,updN c (rowK k) (q+1),updN h (rowK k) q,by omega,by go_num,(HFR.out.trans HFR2.out).setCell (.inr (Nat.le_refl _)) _,?_,?_,fun j hj=> ?_,HGT2.out.step (Fr.one _ _ _ _) (fun h=>set_off h HF2.out)⟩
    ·rw[set_in HF2.out,tab_set lc lp pb s c (q+1) k hlt]
    ·exact((Fr.refl (fun i=>i=w.heap.size) w2).setCell (.inl rfl) _).keep (HFR2.out.keep HG.out (fun h=>h)) (by omega)
    ·unfold updN
     rw[if_neg (fun e=>by have:=rowK_inj e;omega)]
     exact hcb j (by omega)
   case measure=>simp[intOf];omega
  ·obtain rfl:k=10:=by omega
   have hT1:=hfr.keep HBX.out (fun h=>h)
   have HS:=Hd (show∀w':World,Fr (fun i=>i=w.heap.size) wr w'→w'.cell? ⟨T,15,none⟩=some (.pointer (some ⟨b 7,0,none⟩))∧w'.cell? ⟨T,16,none⟩=some (.pointer (some ⟨b 8,0,none⟩))∧w'.cell? ⟨T,17,none⟩=some (.pointer (some ⟨b 9,0,none⟩))∧w'.cell? ⟨T,18,none⟩=some (.pointer (some ⟨b 10,0,none⟩))∧w'.cell? ⟨T,19,none⟩=some (.pointer (some ⟨b 11,0,none⟩))∧w'.cell? ⟨T,20,none⟩=some (.pointer (some ⟨b 12,0,none⟩))∧w'.cell? ⟨T,21,none⟩=some (.pointer (some ⟨b 13,0,none⟩))∧w'.cell? ⟨T,22,none⟩=some (.pointer (some ⟨b 14,0,none⟩)) from fun w' h=>⟨cell_in (i:=15) (h.keep hT1 (by omega)) rfl,cell_in (i:=16) (h.keep hT1 (by omega)) rfl,cell_in (i:=17) (h.keep hT1 (by omega)) rfl,cell_in (i:=18) (h.keep hT1 (by omega)) rfl,cell_in (i:=19) (h.keep hT1 (by omega)) rfl,cell_in (i:=20) (h.keep hT1 (by omega)) rfl,cell_in (i:=21) (h.keep hT1 (by omega)) rfl,cell_in (i:=22) (h.keep hT1 (by omega)) rfl⟩)
   have HLF:=Hd (show∀(w':World),Fr (fun i=>i=w.heap.size) wr w'→∀m,m<18→Prob.SetAt w' (b m) (g m) (ps m) from fun w' h m hm=>(HTB.out.set m hm).keep (hfr.trans' h (fun i hi(e:i=w.heap.size)=>by omega)))
   have HFR:=Hd hfr
   have HF:=Hd hF
   have HR:=Hd (Fr.refl (fun i=>i=w.heap.size) wr)
   obtain⟨c0,c1,c2,c3,c4,c5,c6,c7⟩:=HS.out wr HR.out
   clear hfr hF hG hst hF0 hx0 hy0 hT1
   go_wp2_with fail
   have HSC:=Hd (HS.out _ (HR.out.drew))
   obtain⟨c0,c1,c2,c3,c4,c5,c6,c7⟩:=HSC.out
   have HR:=Hd HR.out.drew
   have HF:=Hd ((Fr.refl (fun _=>False) wr).drew.keep HF.out (fun h=>h))
   have HGT0:=HGT
   have HGT:=Hd (HGT.out.keep (Fr.refl (fun _=>False) wr).drew)
   go_region_held3 (fun w'=>w'.cell? ⟨T,15,none⟩=some (.pointer (some ⟨b 7,0,none⟩))∧w'.cell? ⟨T,16,none⟩=some (.pointer (some ⟨b 8,0,none⟩))∧w'.cell? ⟨T,17,none⟩=some (.pointer (some ⟨b 9,0,none⟩))∧w'.cell? ⟨T,18,none⟩=some (.pointer (some ⟨b 10,0,none⟩))∧w'.cell? ⟨T,19,none⟩=some (.pointer (some ⟨b 11,0,none⟩))∧w'.cell? ⟨T,20,none⟩=some (.pointer (some ⟨b 12,0,none⟩))∧w'.cell? ⟨T,21,none⟩=some (.pointer (some ⟨b 13,0,none⟩))∧w'.cell? ⟨T,22,none⟩=some (.pointer (some ⟨b 14,0,none⟩))) (first|with_reducible exact HSC.out|with_reducible exact HS.out _ HR.out|with_reducible exact HS.out _ (fr4 HR.out _ _ _ _ _ _ _ _)|with_reducible exact HS.out _ (fr4 (fr4 HR.out _ _ _ _ _ _ _ _) _ _ _ _ _ _ _ _)) ((first
    | (go_at_call 179
       go_loud (
       with_reducible refine(lenForkP_calls (b 7) (b 8) (b 9) (b 10) (g 7) (g 8) (g 9) (g 10) (ps 7) (ps 8) (ps 9) (ps 10) _ (HLF.out _ HR.out 7 (by decide)) (HLF.out _ HR.out 8 (by decide)) (HLF.out _ HR.out 9 (by decide)) (HLF.out _ HR.out 10 (by decide)) (HL.out 7 (by decide)) (HL.out 8 (by decide)) (HL.out 9 (by decide)) (HL.out 10 (by decide))).mono ?_
       rintro e wc ⟨q0,q1,q2,q3,rfl,hfrc,hqq⟩
       have HR:=Hd (HR.out.trans (hfrc.mono (fun _ _ h=>h.elim)))
       have HSC:=Hd (HS.out _ HR.out)
       obtain⟨c0,c1,c2,c3,c4,c5,c6,c7⟩:=HSC.out
       have HF:=Hd (hfrc.keep HF.out (fun h=>h))
       have HGT:=Hd (HGT.out.keep hfrc)
       have HQ0:=Hd hqq
       have y0:wc.cell? ⟨w.heap.size,15,none⟩=some (.pointer (some ⟨c 7,0,none⟩)):=cell_in (i:=15) HF.out rfl
       have y1:wc.cell? ⟨w.heap.size,16,none⟩=some (.pointer (some ⟨c 8,0,none⟩)):=cell_in (i:=16) HF.out rfl
       have y2:wc.cell? ⟨w.heap.size,17,none⟩=some (.pointer (some ⟨c 9,0,none⟩)):=cell_in (i:=17) HF.out rfl
       have y3:wc.cell? ⟨w.heap.size,18,none⟩=some (.pointer (some ⟨c 10,0,none⟩)):=cell_in (i:=18) HF.out rfl
       have y4:wc.cell? ⟨w.heap.size,19,none⟩=some (.pointer (some ⟨c 11,0,none⟩)):=cell_in (i:=19) HF.out rfl
       have y5:wc.cell? ⟨w.heap.size,20,none⟩=some (.pointer (some ⟨c 12,0,none⟩)):=cell_in (i:=20) HF.out rfl
       have y6:wc.cell? ⟨w.heap.size,21,none⟩=some (.pointer (some ⟨c 13,0,none⟩)):=cell_in (i:=21) HF.out rfl
       have y7:wc.cell? ⟨w.heap.size,22,none⟩=some (.pointer (some ⟨c 14,0,none⟩)):=cell_in (i:=22) HF.out rfl
       have yf:=fun i=>frozen_in HF.out i
       clear hfrc hqq))
    | (go_at_call 179
       with_reducible refine(lenForkP_calls (b 11) (b 12) (b 13) (b 14) (g 11) (g 12) (g 13) (g 14) (ps 11) (ps 12) (ps 13) (ps 14) _ (HLF.out _ HR.out 11 (by decide)) (HLF.out _ HR.out 12 (by decide)) (HLF.out _ HR.out 13 (by decide)) (HLF.out _ HR.out 14 (by decide)) (HL.out 11 (by decide)) (HL.out 12 (by decide)) (HL.out 13 (by decide)) (HL.out 14 (by decide))).mono ?_
       rintro e wc ⟨q4,q5,q6,q7,rfl,hfrc,hqq⟩
       have HR:=Hd (HR.out.trans (hfrc.mono (fun _ _ h=>h.elim)))
       have HSC:=Hd (HS.out _ HR.out)
       obtain⟨c0,c1,c2,c3,c4,c5,c6,c7⟩:=HSC.out
       have HF:=Hd (hfrc.keep HF.out (fun h=>h))
       have HGT:=Hd (HGT.out.keep hfrc)
       have HQ0:=Hd (show q0+1<q1∧q1+1<q2∧q2+1<q3∧q3+1<q4∧wr.heap.size≤q0∧Prob.SetAt wc (q0+1) q0 (ps 7)∧Prob.SetAt wc (q1+1) q1 (ps 8)∧Prob.SetAt wc (q2+1) q2 (ps 9)∧Prob.SetAt wc (q3+1) q3 (ps 10) from
        ⟨HQ0.out.2.1,HQ0.out.2.2.1,HQ0.out.2.2.2.1,Nat.lt_of_lt_of_le HQ0.out.2.2.2.2.1 hqq.1,HQ0.out.1,HQ0.out.2.2.2.2.2.1.keep hfrc,HQ0.out.2.2.2.2.2.2.1.keep hfrc,HQ0.out.2.2.2.2.2.2.2.1.keep hfrc,HQ0.out.2.2.2.2.2.2.2.2.keep hfrc⟩)
       have HQ4:=Hd hqq
       have y0:wc.cell? ⟨w.heap.size,15,none⟩=some (.pointer (some ⟨c 7,0,none⟩)):=cell_in (i:=15) HF.out rfl
       have y1:wc.cell? ⟨w.heap.size,16,none⟩=some (.pointer (some ⟨c 8,0,none⟩)):=cell_in (i:=16) HF.out rfl
       have y2:wc.cell? ⟨w.heap.size,17,none⟩=some (.pointer (some ⟨c 9,0,none⟩)):=cell_in (i:=17) HF.out rfl
       have y3:wc.cell? ⟨w.heap.size,18,none⟩=some (.pointer (some ⟨c 10,0,none⟩)):=cell_in (i:=18) HF.out rfl
       have y4:wc.cell? ⟨w.heap.size,19,none⟩=some (.pointer (some ⟨c 11,0,none⟩)):=cell_in (i:=19) HF.out rfl
       have y5:wc.cell? ⟨w.heap.size,20,none⟩=some (.pointer (some ⟨c 12,0,none⟩)):=cell_in (i:=20) HF.out rfl
       have y6:wc.cell? ⟨w.heap.size,21,none⟩=some (.pointer (some ⟨c 13,0,none⟩)):=cell_in (i:=21) HF.out rfl
       have y7:wc.cell? ⟨w.heap.size,22,none⟩=some (.pointer (some ⟨c 14,0,none⟩)):=cell_in (i:=22) HF.out rfl
       have yf:=fun i=>frozen_in HF.out i
       clear hfrc hqq)))
   go_wp2_with fail
   go_ret
   have hq0:=HQ0.out
   have hq4:=HQ4.out
   have hf8:Fr (fun i=>i=w.heap.size) wc ((((((((wc.setCell ⟨w.heap.size,15,none⟩ (.pointer (some ⟨q0+1,0,none⟩))).setCell ⟨w.heap.size,16,none⟩ (.pointer (some ⟨q1+1,0,none⟩))).setCell ⟨w.heap.size,17,none⟩ (.pointer (some ⟨q2+1,0,none⟩))).setCell ⟨w.heap.size,18,none⟩ (.pointer (some ⟨q3+1,0,none⟩))).setCell ⟨w.heap.size,19,none⟩ (.pointer (some ⟨q4+1,0,none⟩))).setCell ⟨w.heap.size,20,none⟩ (.pointer (some ⟨q5+1,0,none⟩))).setCell ⟨w.heap.size,21,none⟩ (.pointer (some ⟨q6+1,0,none⟩))).setCell ⟨w.heap.size,22,none⟩ (.pointer (some ⟨q7+1,0,none⟩))):=fr4 (fr4 (Fr.refl _ _) _ _ _ _ _ _ _ _) _ _ _ _ _ _ _ _
   have hst:∀{b g:Nat}{p:List Nat},Prob.SetAt wc b g p→Prob.SetAt ((((((((wc.setCell ⟨w.heap.size,15,none⟩ (.pointer (some ⟨q0+1,0,none⟩))).setCell ⟨w.heap.size,16,none⟩ (.pointer (some ⟨q1+1,0,none⟩))).setCell ⟨w.heap.size,17,none⟩ (.pointer (some ⟨q2+1,0,none⟩))).setCell ⟨w.heap.size,18,none⟩ (.pointer (some ⟨q3+1,0,none⟩))).setCell ⟨w.heap.size,19,none⟩ (.pointer (some ⟨q4+1,0,none⟩))).setCell ⟨w.heap.size,20,none⟩ (.pointer (some ⟨q5+1,0,none⟩))).setCell ⟨w.heap.size,21,none⟩ (.pointer (some ⟨q6+1,0,none⟩))).setCell ⟨w.heap.size,22,none⟩ (.pointer (some ⟨q7+1,0,none⟩))) b g p:=fun{b g p} hs=>hs.step hf8 (set_off hs HF.out).1 (set_off hs HF.out).2
   have hbx:=set_in (set_in (set_in (set_in (set_in (set_in (set_in (set_in HF.out 15 (.pointer (some ⟨q0+1,0,none⟩))) 16 (.pointer (some ⟨q1+1,0,none⟩))) 17 (.pointer (some ⟨q2+1,0,none⟩))) 18 (.pointer (some ⟨q3+1,0,none⟩))) 19 (.pointer (some ⟨q4+1,0,none⟩))) 20 (.pointer (some ⟨q5+1,0,none⟩))) 21 (.pointer (some ⟨q6+1,0,none⟩))) 22 (.pointer (some ⟨q7+1,0,none⟩))
   obtain⟨h',hT',hle'⟩:=tab_of (lc:=lc) (lp:=lp) (pb:=pb) (s:=s) HGT0.out HGT.out HFF.out hq0.2.2.2.2.1 hq0.1 hq0.2.1 hq0.2.2.1 hq0.2.2.2.1 hq4.2.1 hq4.2.2.1 hq4.2.2.2.1 hq0.2.2.2.2.2.1 hq0.2.2.2.2.2.2.1 hq0.2.2.2.2.2.2.2.1 hq0.2.2.2.2.2.2.2.2 hq4.2.2.2.2.2.1 hq4.2.2.2.2.2.2.1 hq4.2.2.2.2.2.2.2.1 hq4.2.2.2.2.2.2.2.2 hst hbx
   exact⟨w.heap.size,fun j=>h' j+1,h',rfl,HFR.out.trans' (fr4 (fr4 HR.out _ _ _ _ _ _ _ _) _ _ _ _ _ _ _ _) (fun i hi e=>by omega),Nat.le_refl _,hT',fun j hj=>⟨Nat.le_trans (hle' j hj) (Nat.le_succ _),hle' j hj⟩⟩
end Enc
namespace En
open Mem Rc Win Lz St
structure XL where
 D:Nat
 E:Nat
 T:Nat
 W:Nat
 v:Value
 rv:Value
 ring:List UInt8
 t:Nat
 b:Nat→Nat
 g:Nat→Nat
structure XAt(w:World)(l:XL)(x:Xe):Prop where
 d:w.heap[l.D]? =some (.cells #[ptr l.T,ptr l.W,ptr l.E] 149 (0,0))
 tab:Tab w l.T l.b l.g x.c.lc x.c.lp x.c.pb x.c.s x.e.ps
 win:Win.At w l.W l.rv x.c.size x.c.all l.ring l.t
 rc:∃g,EAt w l.E l.v g∧Is g x.e.k
 ok:x.Ok
def XF(l:XL)(k:Nat):Prop:=EF l.E l.v k∨∃j,j<18∧k=l.g j
theorem XAt.off{w:World}{l:XL}{x:Xe}(h:XAt w l x){k:Nat}{cs:Array Value}{t:TypeId}{fr:Nat×Nat}(hk:w.heap[k]? =some (.cells cs t fr))(h1:t≠219)(h2:t≠5)(h3:t≠3):¬XF l k:=by
 obtain⟨g,a,_⟩:=h.rc
 rintro((rfl|e)|⟨j,hj,rfl⟩)
 ·rw[a.box] at hk
  simp only[Option.some.injEq,Obj.cells.injEq] at hk
  exact h1 hk.2.1.symm
 ·exact off_box a.own hk h2 _ e rfl
 ·obtain⟨_,_,_,hg,_⟩:=h.tab.set j hj
  rw[hg] at hk
  simp only[Option.some.injEq,Obj.cells.injEq] at hk
  exact h3 hk.2.1.symm
structure XSep(l:XL):Prop where
 rv:∀k,l.rv.ownBlock=some k→l.v.ownBlock≠some k
def XPost(l:XL)(w:World)(x:Xe)(w':World):Prop:=Fr (XF l) w w'∧∃v',XAt w' {l with v:=v'} x∧XSep {l with v:=v'}∧∀k,v'.ownBlock=some k→l.v.ownBlock=some k∨w.heap.size≤k
def Xe.ops(x:Xe)(o:List Op):Xe:=⟨x.c,x.e.run o⟩
def onRow(j:Nat):Op→Prop
 |.bit k _ _=>k=j
 |.half _=>True
theorem run_row{j k:Nat}(hk:k≠j):∀(o:List Op)(e:Es),(∀q ∈ o,onRow j q)→(e.run o).ps k=e.ps k
 |[],e,_=>rfl
 |q::o,e,h=>by
   rw[Es.run,run_row hk o _ (fun r hr=>h r (List.mem_cons_of_mem _ hr))]
   have:=h q (List.mem_cons_self ..)
   cases q with
   |bit i _ _=>
     have e:i=j:=this
     subst e
     exact upd_other _ _ hk
   |half _=>rfl
theorem XAt.post{w w':World}{l:XL}{x:Xe}(h:XAt w l x)(hp:XSep l){o:List Op}(ho:∀q ∈ o,q.Ok x.c.lc x.c.lp){v':Value}{g:G}(hfr:Fr (XF l) w w')(ha:EAt w' l.E v' g)(hg:Is g (x.e.run o).k)(hn:∀k,v'.ownBlock=some k→l.v.ownBlock=some k∨w.heap.size≤k)(hs:∀j,j<18→Prob.SetAt w' (l.b j) (l.g j) ((x.e.run o).ps j)):XPost l w (x.ops o) w':=by
 have hrw:=World.ownsRow.lt h.win.own
 refine⟨hfr,v',⟨hfr.keep h.d (h.off h.d (by decide) (by decide) (by decide)),⟨hfr.keep h.tab.box (h.off h.tab.box (by decide) (by decide) (by decide)),hs,h.tab.inj⟩,h.win.keep hfr (h.off h.win.box (by decide) (by decide) (by decide)) (fun k hk e=> ?_),⟨g,ha,hg⟩,⟨h.ok.c,(h.ok.e.run ho).1⟩⟩,⟨fun k hk e=> ?_⟩,hn⟩
 ·obtain⟨cur,hc⟩:=own_block h.win.own hk
  rcases e with(e|e)|⟨j,hj,e⟩
  ·obtain⟨g0,a0,_⟩:=h.rc
   rw[e,a0.box] at hc
   simp at hc
  ·exact hp.rv k hk e
  ·obtain⟨_,_,_,hg,_⟩:=h.tab.set j hj
   rw[e,hg] at hc
   simp at hc
 ·rcases hn k e with e|e
  ·exact hp.rv k hk e
  ·have:=(hrw k hk).2
   omega
theorem XPost.trans{w w1 w2:World}{l:XL}{v1:Value}{x:Xe}(h1:Fr (XF l) w w1)(hn:∀k,v1.ownBlock=some k→l.v.ownBlock=some k∨w.heap.size≤k)(h2:XPost {l with v:=v1} w1 x w2):XPost l w x w2:=by
 obtain⟨f,v2,a,s,n⟩:=h2
 refine⟨h1.trans' f (fun k hk e=> ?_),v2,a,s,fun k hk=> ?_⟩
 ·rcases e with(e|e)|e
  ·exact .inl (.inl e)
  ·rcases hn k e with e|e
   ·exact .inl (.inr e)
   ·omega
  ·exact .inr e
 ·rcases n k hk with e|e
  ·exact hn k e
  ·exact .inr (Nat.le_trans h1.size e)
theorem XAt.row{w w':World}{l:XL}{x:Xe}(h:XAt w l x)(hp:XSep l){j:Nat}(hj:j<18){o:List Op}(ho:∀q ∈ o,q.Ok x.c.lc x.c.lp)(hr:∀q ∈ o,onRow j q)(ht:TPost l.E l.v (l.b j) (l.g j) w (x.e.run o) j w'):XPost l w (x.ops o) w':=by
 obtain⟨hf,v',⟨g,a,hg,hs⟩,hn⟩:=ht
 have hfr:Fr (XF l) w w':=hf.mono (fun k _ e=>e.imp id (fun e=>⟨j,hj,e⟩))
 refine h.post hp ho hfr a hg hn (fun i hi=> ?_)
 by_cases e:i=j
 ·rw[e]
  exact hs
 ·rw[run_row e o x.e hr]
  obtain⟨g0,a0,_⟩:=h.rc
  have hso:=a0.offSet (h.tab.set i hi)
  have hb:=h.off (h.tab.set i hi).choose_spec.choose_spec.1 (by decide) (by decide) (by decide)
  refine(h.tab.set i hi).step hf (fun q=>hb (q.imp id (fun q=>⟨j,hj,q⟩))) (fun q=> ?_)
  rcases q with q|q
  ·exact hso.2 q
  ·exact e (h.tab.inj i j hi hj q)
theorem XAt.tat{w:World}{l:XL}{x:Xe}(h:XAt w l x){j:Nat}(hj:j<18):TAt w l.E l.v (l.b j) (l.g j) x.e j:=by
 obtain⟨g,a,hg⟩:=h.rc
 exact⟨g,a,hg,h.tab.set j hj⟩
theorem XAt.keep{w w':World}{l:XL}{x:Xe}(h:XAt w l x)(hfr:Fr (fun _=>False) w w'):XAt w' l x:=by
 obtain⟨g,a,hg⟩:=h.rc
 exact⟨hfr.keep h.d (fun h=>h),⟨hfr.keep h.tab.box (fun h=>h),fun j hj=>(h.tab.set j hj).keep hfr,h.tab.inj⟩,h.win.keep hfr (fun h=>h) (fun _ _ h=>h),⟨g,a.keep hfr (fun h=>h) (fun _ _ h=>h),hg⟩,h.ok⟩
theorem tree_row(back:Bool)(j a n x:Nat):∀q m,∀o ∈ treeOps back j a n x q m,onRow j o
 |0,m,o,h=>by simp[treeOps] at h
 |q+1,m,o,h=>by
   rw[treeOps,List.mem_cons] at h
   rcases h with rfl|h
   ·rfl
   ·exact tree_row back j a n x q _ o h
theorem tree_len(back:Bool)(j a n x:Nat):∀q m,(treeOps back j a n x q m).length=q
 |0,m=>rfl
 |q+1,m=>by rw[treeOps,List.length_cons,tree_len]
theorem rowLen_le{lc lp:Nat}(h:lc+lp≤4)(j:Nat):Lz.rowLen lc lp j≤12288:=by
 have hp:2^(lc+lp)≤2^4:=Nat.pow_le_pow_right (by omega) h
 unfold Lz.rowLen
 repeat' split
 all_goals omega
abbrev sinkV(E:Nat):Value:=.agg #[ptr E]
def SPost(l:XL)(w:World)(x:Xe)(e:Ending)(w':World):Prop:=e=.returned (.tuple #[])∧XPost l w x w'
theorem XPost.box{w w1 w2:World}{l:XL}{x:Xe}(h1:Fr (fun _=>False) w w1)(h2:XPost l w1 x w2):XPost l w x w2:=XPost.trans (v1:=l.v) (h1.mono (fun _ _ h=>h.elim)) (fun k hk=>.inl hk) h2
theorem cbit_calls{w:World}{l:XL}{x:Xe}(h:XAt w l x)(hp:XSep l){j i bit:Nat}(ho:Op.Ok x.c.lc x.c.lp (.bit j i bit))(hs:x.e.k.s≤1099511627000):
 Calls Tryz.prog 339 #[sinkV l.E,ptr (l.b j),.int .i64 i,.int .i64 bit] w (SPost l w (x.ops [.bit j i bit])):=by
 have hf:=(Fr.refl (fun _=>False) w).alloc (.cells #[ptr l.E] 242)
 have HF:=Hd hf
 have HT:=Hd (tbit_calls ((h.keep hf).tat ho.1) h.ok.e ho (by omega))
 have HP:=Hd (fun w'(ht:TPost l.E l.v (l.b j) (l.g j) _ (x.e.op (.bit j i bit)) j w')=>XPost.box hf ((h.keep hf).row hp ho.1 (o:=[.bit j i bit]) (fun q hq=>by simp only[List.mem_singleton] at hq;subst hq;exact ho) (fun q hq=>by simp only[List.mem_singleton] at hq;subst hq;rfl) ht))
 clear h hp ho hf
 go_enter Tryz.func339,Tryz.ntmps339
 go_wp2_with fail
 refine HT.out.mono ?_
 rintro e w2 ⟨rfl,ht⟩
 have HP2:=Hd (HP.out w2 ht)
 clear ht
 go_wp2_with fail
 go_end0
 exact⟨rfl,HP2.out⟩
theorem ctree_calls{w:World}{l:XL}{x:Xe}(h:XAt w l x)(hp:XSep l){j a n v:Nat}(hj:j<18)(hn:n≤16)(hv:v<2^n)(ha:a+2^n≤Lz.rowLen x.c.lc x.c.lp j)(hs:x.e.k.s≤1099511627000):
 Calls Tryz.prog 341 #[sinkV l.E,ptr (l.b j),.int .i64 a,.int .i64 n,.int .i64 v] w (SPost l w (x.ops (treeOps false j a n v n 1))):=by
 have hf:=(Fr.refl (fun _=>False) w).alloc (.cells #[ptr l.E] 242)
 have HT:=Hd (tput_calls ((h.keep hf).tat hj) h.ok.e hn hv ha hj (by omega) (by have:=rowLen_le h.ok.c.l j;omega))
 have HP:=Hd (fun w'(ht:TPost l.E l.v (l.b j) (l.g j) _ (x.e.run (treeOps false j a n v n 1)) j w')=>XPost.box hf ((h.keep hf).row hp hj (tree_reads (lc:=x.c.lc) (lp:=x.c.lp) false hj hv hn ha).1 (tree_row _ _ _ _ _ _ _) ht))
 clear h hp hf
 generalize treeOps false j a n v n 1=o at*
 go_enter Tryz.func341,Tryz.ntmps341
 go_wp2_with fail
 refine HT.out.mono ?_
 rintro e w2 ⟨rfl,ht⟩
 have HP2:=Hd (HP.out w2 ht)
 clear ht
 go_wp2_with fail
 go_end0
 exact⟨rfl,HP2.out⟩
theorem cback_calls{w:World}{l:XL}{x:Xe}(h:XAt w l x)(hp:XSep l){j a n v:Nat}(hj:j<18)(hn:n≤16)(hv:v<2^n)(ha:a+2^n≤Lz.rowLen x.c.lc x.c.lp j)(hs:x.e.k.s≤1099511627000):
 Calls Tryz.prog 338 #[sinkV l.E,ptr (l.b j),.int .i64 a,.int .i64 n,.int .i64 v] w (SPost l w (x.ops (treeOps true j a n v n 1))):=by
 have hf:=(Fr.refl (fun _=>False) w).alloc (.cells #[ptr l.E] 242)
 have HT:=Hd (tback_calls ((h.keep hf).tat hj) h.ok.e hn hv ha hj (by omega) (by have:=rowLen_le h.ok.c.l j;omega))
 have HP:=Hd (fun w'(ht:TPost l.E l.v (l.b j) (l.g j) _ (x.e.run (treeOps true j a n v n 1)) j w')=>XPost.box hf ((h.keep hf).row hp hj (tree_reads (lc:=x.c.lc) (lp:=x.c.lp) true hj hv hn ha).1 (tree_row _ _ _ _ _ _ _) ht))
 clear h hp hf
 generalize treeOps true j a n v n 1=o at*
 go_enter Tryz.func338,Tryz.ntmps338
 go_wp2_with fail
 refine HT.out.mono ?_
 rintro e w2 ⟨rfl,ht⟩
 have HP2:=Hd (HP.out w2 ht)
 clear ht
 go_wp2_with fail
 go_end0
 exact⟨rfl,HP2.out⟩
theorem halves_k(x:Nat):∀n(e:Es),(e.run (halves x n)).k=e.k.halves x n∧(e.run (halves x n)).ps=e.ps
 |0,e=>⟨rfl,rfl⟩
 |n+1,e=>halves_k x n (e.op (.half (x/2^n%2)))
theorem halves_is{g:G}{k:K}(x:Nat):∀n,Is g k→Is (g.halves x n) (k.halves x n)
 |0,h=>h
 |n+1,h=>halves_is x n (h.half (by omega))
theorem cdirect_calls{w:World}{l:XL}{x:Xe}(h:XAt w l x)(hp:XSep l){n v:Nat}(hn:n≤32)(hv:v<4294967296)(hs:x.e.k.s≤1099511627000):
 Calls Tryz.prog 340 #[sinkV l.E,.int .i64 v,.int .i64 n] w (SPost l w (x.ops (halves v n))):=by
 have hf:=(Fr.refl (fun _=>False) w).alloc (.cells #[ptr l.E] 242)
 obtain⟨g,a,hg⟩:=h.rc
 have HT:=Hd (direct_calls v n (a.keep hf (fun h=>h) (fun _ _ h=>h)) hg (by omega) hn hv)
 have HP:=Hd (fun w'(ht:EPost l.E l.v _ (g.halves v n) w')=>XPost.box hf ((h.keep hf).post hp (o:=halves v n) (direct_go (lc:=x.c.lc) (lp:=x.c.lp) (x:=v) n).1 (ht.1.mono (fun _ _ e=>.inl e)) ht.2.choose_spec.1 (by rw[(halves_k v n x.e).1];exact halves_is v n hg) ht.2.choose_spec.2 (fun j hj=>by
  rw[(halves_k v n x.e).2]
  obtain⟨g0,a0,_⟩:=(h.keep hf).rc
  have:=a0.offSet ((h.keep hf).tab.set j hj)
  exact((h.keep hf).tab.set j hj).step ht.1 this.1 this.2)))
 have hw:IntKind.u32.wrap (v:Int)=(v:Int):=IntWalk.u32_in _ (by omega)
 clear h hp hf a hg
 generalize halves v n=o at*
 generalize g.halves v n=g2 at*
 clear hv
 go_enter Tryz.func340,Tryz.ntmps340
 go_wp2_with fail
 refine HT.out.mono ?_
 rintro e w2 ⟨rfl,ht⟩
 have HP2:=Hd (HP.out w2 ht)
 clear ht
 go_wp2_with fail
 go_end0
 exact⟨rfl,HP2.out⟩
end En
namespace En
open Mem Rc Win Lz St
structure XCells(w:World)(l:XL)(x:Xe):Prop where
 d0:w.cell? ⟨l.D,0,none⟩=some (ptr l.T)
 d1:w.cell? ⟨l.D,1,none⟩=some (ptr l.W)
 d2:w.cell? ⟨l.D,2,none⟩=some (ptr l.E)
 t0:w.cell? ⟨l.T,0,none⟩=some (.int .i64 x.c.lc)
 t1:w.cell? ⟨l.T,1,none⟩=some (.int .i64 x.c.lp)
 t2:w.cell? ⟨l.T,2,none⟩=some (.int .i64 x.c.pb)
 t3:w.cell? ⟨l.T,3,none⟩=some (.int .i64 x.c.s.num)
 t4:w.cell? ⟨l.T,4,none⟩=some (.int .i64 x.c.s.r0)
 t5:w.cell? ⟨l.T,5,none⟩=some (.int .i64 x.c.s.r1)
 t6:w.cell? ⟨l.T,6,none⟩=some (.int .i64 x.c.s.r2)
 t7:w.cell? ⟨l.T,7,none⟩=some (.int .i64 x.c.s.r3)
 row:∀j,j<18→w.cell? ⟨l.T,8+j,none⟩=some (ptr (l.b j))
theorem XAt.cells{w:World}{l:XL}{x:Xe}(h:XAt w l x):XCells w l x:=by
 refine⟨cell_in h.d rfl,cell_in h.d rfl,cell_in h.d rfl,cell_in h.tab.box rfl,cell_in h.tab.box rfl,cell_in h.tab.box rfl,cell_in h.tab.box rfl,cell_in h.tab.box rfl,cell_in h.tab.box rfl,cell_in h.tab.box rfl,cell_in h.tab.box rfl,fun j hj=>cell_in h.tab.box ?_⟩
 have:∀j,j<18→(tabV x.c.lc x.c.lp x.c.pb x.c.s l.b)[8+j]? =some (ptr (l.b j)):=by
  intro j hj
  match j,hj with
  |0,_|1,_|2,_|3,_|4,_|5,_|6,_|7,_|8,_|9,_|10,_|11,_|12,_|13,_|14,_|15,_|16,_|17,_=>rfl
  |n+18,h=>omega
 exact this j hj
theorem XAt.drewN{w:World}{l:XL}{x:Xe}(h:XAt w l x)(n:Nat):XAt (w.drewN n) l x:=h.keep ((Fr.refl _ _).drewN n)
theorem XAt.pos{w:World}{l:XL}{x:Xe}(h:XAt w l x)(m:Nat):Calls Tryz.prog 193 #[ptr l.W] (w.drewN m) fun e w'=>e=.returned (.int .i64 x.c.all.length)∧w.drewN m=w':=
 Win.pos_calls l.W x.c.size l.t l.rv x.c.all l.ring _ (h.drewN m).win
theorem XAt.placeC{w:World}{l:XL}{x:Xe}(h:XAt w l x)(m:Nat):Calls Tryz.prog 240 #[ptr l.T,.int .i64 x.c.all.length] (w.drewN m) fun e w'=>e=.returned (.int .i64 x.c.place)∧w.drewN m=w':=
 place_calls l.T x.c.all.length x.c.pb _ (h.drewN m).cells.t2 h.ok.c.pb (by have:=h.win.much;omega)
abbrev iV(E:Nat):Value:=.iface 242 (sinkV E)
theorem ops_ops(x:Xe)(o p:List Op):(x.ops o).ops p=x.ops (o++p):=by unfold Xe.ops;rw[Es.run_append]
theorem m_bit (k E : Nat) (w : World) : (method (k + 1) 242 (sinkV E) "pith/lzenc.bit").run Tryz.prog w = .ok (339, sinkV E) w := by kernel_rfl
theorem m_tree (k E : Nat) (w : World) : (method (k + 1) 242 (sinkV E) "pith/lzenc.tree").run Tryz.prog w = .ok (341, sinkV E) w := by kernel_rfl
theorem m_back (k E : Nat) (w : World) : (method (k + 1) 242 (sinkV E) "pith/lzenc.back").run Tryz.prog w = .ok (338, sinkV E) w := by kernel_rfl
theorem m_direct (k E : Nat) (w : World) : (method (k + 1) 242 (sinkV E) "pith/lzenc.direct").run Tryz.prog w = .ok (340, sinkV E) w := by kernel_rfl
theorem na_bit (k E : Nat) (w : World) : (nilAhead (k + 1) 242 (sinkV E) "pith/lzenc.bit").run Tryz.prog w = .ok (some false) w := by kernel_rfl
theorem na_tree (k E : Nat) (w : World) : (nilAhead (k + 1) 242 (sinkV E) "pith/lzenc.tree").run Tryz.prog w = .ok (some false) w := by kernel_rfl
theorem na_back (k E : Nat) (w : World) : (nilAhead (k + 1) 242 (sinkV E) "pith/lzenc.back").run Tryz.prog w = .ok (some false) w := by kernel_rfl
set_option maxRecDepth 4000 in
theorem length_calls{w:World}{l:XL}{x:Xe}(h:XAt w l x)(hp:XSep l){q n:Nat}(hq:q=7∨q=11)(h1:2≤n)(h2:n≤273)(hs:x.e.k.s≤1099511620000):
 Calls Tryz.prog 195 #[ptr l.D,iV l.E,.agg #[ptr (l.b q),ptr (l.b (q+1)),ptr (l.b (q+2)),ptr (l.b (q+3))],.int .i64 n] w (SPost l w (x.ops (lenOps x.c q n))):=by
 have hf:=(Fr.refl (fun _=>False) w).alloc (.cells #[ptr (l.b q),ptr (l.b (q+1)),ptr (l.b (q+2)),ptr (l.b (q+3))] 214)
 have hx:=heap_alloc_new w (.cells #[ptr (l.b q),ptr (l.b (q+1)),ptr (l.b (q+2)),ptr (l.b (q+3))] 214)
 have hA:=h.keep hf
 have HF:=Hd hf
 have HSP:=Hd hp
 clear h hp hf
 have hpl:=place_lt x.c hA.ok.c
 obtain⟨a8,ha8⟩:∃a,a=8*x.c.place:=⟨_,rfl⟩
 have hw8:8*(x.c.place:Int)=(a8:Int):=by omega
 have ha8l:a8+8≤128:=by omega
 have HL1:=Hd (show n<10→lenOps x.c q n=[.bit q 0 0]++treeOps false (q+1) a8 3 (n-2) 3 1 from fun k=>by unfold lenOps;rw[if_pos k,ha8])
 have HL2:=Hd (show¬n<10→n<18→lenOps x.c q n=[.bit q 0 1]++([.bit q 1 0]++treeOps false (q+2) a8 3 (n-10) 3 1) from fun k k2=>by unfold lenOps;rw[if_neg k,if_pos k2,ha8])
 have HL3:=Hd (show¬n<10→¬n<18→lenOps x.c q n=[.bit q 0 1]++([.bit q 1 1]++treeOps false (q+3) 0 8 (n-18) 8 1) from fun k k2=>by unfold lenOps;rw[if_neg k,if_neg k2])
 go_enter Tryz.func195,Tryz.ntmps195
 go_wp2_with fail
 generalize hW:w.alloc (.cells #[ptr (l.b q),ptr (l.b (q+1)),ptr (l.b (q+2)),ptr (l.b (q+3))] 214)=W at*
 have HPOS:=Hd hA.pos
 have HPL:=Hd hA.placeC
 have c0:=hA.cells.d0
 have c1:=hA.cells.d1
 have HX:=Hd hx
 have HA:=Hd hA
 clear hW hx hA ha8
 go_quiet (first|exact quiet_left (HPOS.out _)|exact quiet_left (HPL.out _))
 have hx1:=((Fr.refl (fun _=>False) W).drewN nq).keep HX.out (fun h=>h)
 have HX1:=Hd hx1
 have HA1:=Hd (HA.out.drewN nq)
 have HF1:=Hd (HF.out.drewN nq)
 clear HPOS HPL HX HA HF c0 c1
 generalize W.drewN nq=W1 at*
 have z0:=cell_in (i:=0) hx1 rfl
 clear hx1
 have hm1:=fun k=>m_bit k l.E
 have hm2:=fun k=>m_tree k l.E
 have HBX:=Hd (show∀(W:World)(l':XL)(x':Xe)(w':World),XAt W l' x'→W.heap[w.heap.size]? =some (.cells #[ptr (l.b q),ptr (l.b (q+1)),ptr (l.b (q+2)),ptr (l.b (q+3))] 214 (0,0))→Fr (XF l') W w'→w'.heap[w.heap.size]? =some (.cells #[ptr (l.b q),ptr (l.b (q+1)),ptr (l.b (q+2)),ptr (l.b (q+3))] 214 (0,0)) from fun W l' x' w' ha hb hf=>hf.keep hb (ha.off hb (by decide) (by decide) (by decide)))
 have HFIN:=Hd (show∀(o:List Op)(w':World),lenOps x.c q n=o→XPost l W1 (x.ops o) w'→XPost l w (x.ops (lenOps x.c q n)) w' from fun o w' e hp=>by rw[e];exact XPost.box HF1.out hp)
 have HBIT:=Hd (show∀(i c:Nat),i<2→c≤1→Op.Ok x.c.lc x.c.lp (.bit q i c) from fun i c hi hc=>⟨by omega,by rcases hq with rfl|rfl<;>exact hi,hc⟩)
 by_cases k1:n<10
 ·have d1:decide ((n:Int)-2<8)=true:=decide_eq_true (by omega)
  have e2:(n:Int)-2=((n-2:Nat):Int):=by omega
  have hc:=cbit_calls HA1.out HSP.out (HBIT.out 0 0 (by omega) (by omega)) (by omega)
  have HC:=Hd hc
  have HL:=Hd (HL1.out k1)
  have E2:=Hd e2
  clear hc e2
  go_wp2_with fail
  refine HC.out.mono ?_
  rintro e w2 ⟨rfl,f2,v2,a2,s2,n2⟩
  have hx2:=HBX.out _ _ _ _ HA1.out HX1.out f2
  have z1:=cell_in (i:=1) hx2 rfl
  have HT:=Hd (ctree_calls (j:=q+1) (a:=a8) (n:=3) (v:=n-2) a2 s2 (by omega) (by omega) (by omega) (by rcases hq with rfl|rfl<;>exact ha8l) (by have:=run_s [.bit q 0 0] x.e;simp only[List.length_singleton] at this;exact Nat.le_trans this (by omega)))
  rw[←E2.out] at HT
  have HF2:=Hd f2
  have HN2:=Hd n2
  clear f2 a2 s2 n2 hx2 z0
  go_wp2_with fail
  refine HT.out.mono ?_
  rintro e w3 ⟨rfl,hp⟩
  have HP:=Hd (HFIN.out _ w3 HL.out (by rw[←ops_ops];exact XPost.trans HF2.out HN2.out hp))
  clear hp
  go_wp2_with fail
  go_end0
  exact⟨rfl,HP.out⟩
 have c1:=cbit_calls HA1.out HSP.out (HBIT.out 0 1 (by omega) (by omega)) (by omega)
 have HC:=Hd c1
 have d1:decide ((n:Int)-2<8)=false:=decide_eq_false (by omega)
 clear c1
 by_cases k2:n<18
 ·have d2:decide ((n:Int)-2<16)=true:=decide_eq_true (by omega)
  have HL:=Hd (HL2.out k1 k2)
  go_wp2_with fail
  refine HC.out.mono ?_
  rintro e w2 ⟨rfl,f2,v2,a2,s2,n2⟩
  have hx2:=HBX.out _ _ _ _ HA1.out HX1.out f2
  have z1:=cell_in (i:=0) hx2 rfl
  have hu:=run_s [.bit q 0 1] x.e
  simp only[List.length_singleton] at hu
  have HU:=Hd hu
  have HC3:=Hd (cbit_calls a2 s2 (HBIT.out 1 0 (by omega) (by omega)) (Nat.le_trans hu (by omega)))
  have HF2:=Hd f2
  have HN2:=Hd n2
  have HA2:=Hd a2
  have HX2:=Hd hx2
  clear f2 a2 s2 n2 hx2 z0 hu
  go_wp2_with fail
  refine HC3.out.mono ?_
  rintro e w3 ⟨rfl,f3,v3,a3,s3,n3⟩
  have hx3:=HBX.out _ _ _ _ HA2.out HX2.out f3
  have z2:=cell_in (i:=2) hx3 rfl
  have hu:=run_s [.bit q 1 0] (x.e.run [.bit q 0 1])
  simp only[List.length_singleton] at hu
  have ht:=ctree_calls (j:=q+2) (a:=a8) (n:=3) (v:=n-10) a3 s3 (by omega) (by omega) (by omega) (by rcases hq with rfl|rfl<;>exact ha8l) (Nat.le_trans hu (by have:=HU.out;omega))
  have e2:((n-10:Nat):Int)=(n:Int)-2-8:=by omega
  rw[e2] at ht
  have HT:=Hd ht
  have HF3:=Hd f3
  have HN3:=Hd n3
  clear f3 a3 s3 n3 hx3 z1 hu ht e2
  go_wp2_with fail
  refine HT.out.mono ?_
  rintro e w4 ⟨rfl,hp⟩
  have HP:=Hd (HFIN.out _ w4 HL.out (by rw[←ops_ops,←ops_ops];exact XPost.trans HF2.out HN2.out (XPost.trans HF3.out HN3.out hp)))
  clear hp
  go_wp2_with fail
  go_end0
  exact⟨rfl,HP.out⟩
 ·have d2:decide ((n:Int)-2<16)=false:=decide_eq_false (by omega)
  have HL:=Hd (HL3.out k1 k2)
  go_wp2_with fail
  refine HC.out.mono ?_
  rintro e w2 ⟨rfl,f2,v2,a2,s2,n2⟩
  have hx2:=HBX.out _ _ _ _ HA1.out HX1.out f2
  have z1:=cell_in (i:=0) hx2 rfl
  have hu:=run_s [.bit q 0 1] x.e
  simp only[List.length_singleton] at hu
  have HU:=Hd hu
  have HC3:=Hd (cbit_calls a2 s2 (HBIT.out 1 1 (by omega) (by omega)) (Nat.le_trans hu (by omega)))
  have HF2:=Hd f2
  have HN2:=Hd n2
  have HA2:=Hd a2
  have HX2:=Hd hx2
  clear f2 a2 s2 n2 hx2 z0 hu
  go_wp2_with fail
  refine HC3.out.mono ?_
  rintro e w3 ⟨rfl,f3,v3,a3,s3,n3⟩
  have hx3:=HBX.out _ _ _ _ HA2.out HX2.out f3
  have z2:=cell_in (i:=3) hx3 rfl
  have hu:=run_s [.bit q 1 1] (x.e.run [.bit q 0 1])
  simp only[List.length_singleton] at hu
  have ht:=ctree_calls (j:=q+3) (a:=0) (n:=8) (v:=n-18) a3 s3 (by omega) (by omega) (by omega) (by rcases hq with rfl|rfl<;>exact(show 0+2^8≤256 by decide)) (Nat.le_trans hu (by have:=HU.out;omega))
  have e2:((n-18:Nat):Int)=(n:Int)-2-16:=by omega
  rw[e2] at ht
  have HT:=Hd ht
  have HF3:=Hd f3
  have HN3:=Hd n3
  clear f3 a3 s3 n3 hx3 z1 hu ht e2
  go_wp2_with fail
  refine HT.out.mono ?_
  rintro e w4 ⟨rfl,hp⟩
  have HP:=Hd (HFIN.out _ w4 HL.out (by rw[←ops_ops,←ops_ops];exact XPost.trans HF2.out HN2.out (XPost.trans HF3.out HN3.out hp)))
  clear hp
  go_wp2_with fail
  go_end0
  exact⟨rfl,HP.out⟩
end En
end Go.Proofs.YtffoddpjfgjelaaGreatDoor
