/- Part 33 of 48: lemmas of the last part, each under the conditions that it names. -/
import Derived.Deep.WholeRow
import Derived.Test.YtffoddpjfgjelaaGreatDoorQ13
import Derived.Test.YtffoddpjfgjelaaGreatDoorQ27
import Derived.Test.YtffoddpjfgjelaaGreatDoorQ32
set_option linter.unusedVariables false
set_option linter.unusedSimpArgs false
set_option maxRecDepth 1500
set_option maxHeartbeats 4000000
namespace Go.Proofs.YtffoddpjfgjelaaGreatDoor
open Go.RowKit
namespace Enc
open Mem Win Lz St
def rowK(k:Nat):Nat:=if k<7 then k else k+8
def offK(k:Nat):Nat:=if k<7 then 8+k else 16+k
def updN(c:Nat→Nat)(j q:Nat):Nat→Nat:=fun i=>if i=j then q else c i
theorem tab_off(lc lp pb:Nat)(s:S)(c:Nat→Nat):∀k,k<10→(tabV lc lp pb s c)[offK k]? =some (.pointer (some ⟨c (rowK k),0,none⟩))
 |0,_=>rfl
 |1,_=>rfl
 |2,_=>rfl
 |3,_=>rfl
 |4,_=>rfl
 |5,_=>rfl
 |6,_=>rfl
 |7,_=>rfl
 |8,_=>rfl
 |9,_=>rfl
theorem tab_set(lc lp pb:Nat)(s:S)(c:Nat→Nat)(q:Nat):∀k,k<10→(tabV lc lp pb s c).setIfInBounds (offK k) (.pointer (some ⟨q,0,none⟩))=tabV lc lp pb s (updN c (rowK k) q)
 |0,_=>rfl
 |1,_=>rfl
 |2,_=>rfl
 |3,_=>rfl
 |4,_=>rfl
 |5,_=>rfl
 |6,_=>rfl
 |7,_=>rfl
 |8,_=>rfl
 |9,_=>rfl
def ptrsF(F:Nat):Array Value:=#[.pointer (some ⟨F,8,none⟩),.pointer (some ⟨F,9,none⟩),.pointer (some ⟨F,10,none⟩),.pointer (some ⟨F,11,none⟩),.pointer (some ⟨F,12,none⟩),.pointer (some ⟨F,13,none⟩),.pointer (some ⟨F,14,none⟩),.pointer (some ⟨F,23,none⟩),.pointer (some ⟨F,24,none⟩),.pointer (some ⟨F,25,none⟩)]
theorem ptrs_at(F:Nat):∀k,k<10→(ptrsF F)[k]? =some (.pointer (some ⟨F,offK k,none⟩))
 |0,_=>rfl
 |1,_=>rfl
 |2,_=>rfl
 |3,_=>rfl
 |4,_=>rfl
 |5,_=>rfl
 |6,_=>rfl
 |7,_=>rfl
 |8,_=>rfl
 |9,_=>rfl
theorem rowK_inj{k j:Nat}(h:rowK k=rowK j):k=j:=by
 unfold rowK at h
 split at h<;>split at h<;>omega
theorem fr4{F:Nat}{w0 wc:World}(h:Fr (fun i=>i=F) w0 wc)(i j k l:Nat)(a b c d:Value):Fr (fun i=>i=F) w0 ((((wc.setCell ⟨F,i,none⟩ a).setCell ⟨F,j,none⟩ b).setCell ⟨F,k,none⟩ c).setCell ⟨F,l,none⟩ d):=(((h.setCell (.inl rfl) _).setCell (.inl rfl) _).setCell (.inl rfl) _).setCell (.inl rfl) _
theorem rowK_lt{k:Nat}(h:k<10):rowK k<18:=by
 unfold rowK
 split<;>omega
end Enc
namespace Enc
open Mem Win Lz St
structure Got(w wr:World)(k:Nat)(c h:Nat→Nat)(ps:Nat→List Nat):Prop where
 fwd:∀j,j<k→c (rowK j)=h (rowK j)+1∧w.heap.size+2≤h (rowK j)∧h (rowK j)+1<wr.heap.size∧Prob.SetAt wr (h (rowK j)+1) (h (rowK j)) (ps (rowK j))
 inj:∀i j,i<k→j<k→h (rowK i)=h (rowK j)→i=j
theorem Got.step{w wr wr':World}{k F:Nat}{c h:Nat→Nat}{ps:Nat→List Nat}(hg:Got w wr k c h ps)(hf:Fr (fun i=>i=F) wr wr')(hF:∀{b g:Nat}{p:List Nat},Prob.SetAt wr b g p→¬b=F∧¬g=F):Got w wr' k c h ps:=
 ⟨fun j hj=>⟨(hg.fwd j hj).1,(hg.fwd j hj).2.1,Nat.lt_of_lt_of_le (hg.fwd j hj).2.2.1 hf.size,(hg.fwd j hj).2.2.2.step hf (hF (hg.fwd j hj).2.2.2).1 (hF (hg.fwd j hj).2.2.2).2⟩,hg.inj⟩
theorem Got.keep{w wr wr':World}{k:Nat}{c h:Nat→Nat}{ps:Nat→List Nat}(hg:Got w wr k c h ps)(hf:Fr (fun _=>False) wr wr'):Got w wr' k c h ps:=
 ⟨fun j hj=>⟨(hg.fwd j hj).1,(hg.fwd j hj).2.1,Nat.lt_of_lt_of_le (hg.fwd j hj).2.2.1 hf.size,(hg.fwd j hj).2.2.2.keep hf⟩,hg.inj⟩
theorem rowK_ne{j k:Nat}(h:j<k):rowK j≠rowK k:=fun e=>by have:=rowK_inj e;omega
theorem Got.snoc{w wr wr':World}{k q:Nat}{c h:Nat→Nat}{ps:Nat→List Nat}(hg:Got w wr k c h ps)(hf:Fr (fun _=>False) wr wr')(hw:w.heap.size+2≤wr.heap.size)(h1:wr.heap.size≤q)(h2:q+1<wr'.heap.size)(hs:Prob.SetAt wr' (q+1) q (ps (rowK k))):Got w wr' (k+1) (updN c (rowK k) (q+1)) (updN h (rowK k) q) ps:=by
 have e1:∀(f:Nat→Nat)(x:Nat),updN f (rowK k) x (rowK k)=x:=fun f x=>by unfold updN;rw[if_pos rfl]
 have e2:∀(f:Nat→Nat)(x j:Nat),j<k→updN f (rowK k) x (rowK j)=f (rowK j):=fun f x j hj=>by unfold updN;rw[if_neg (rowK_ne hj)]
 have hk:=hg.keep hf
 refine⟨fun j hj=> ?_,fun i j hi hj he=> ?_⟩
 ·by_cases hjk:j=k
  ·subst hjk
   rw[e1,e1]
   exact⟨rfl,by omega,h2,hs⟩
  ·rw[e2 _ _ _ (by omega),e2 _ _ _ (by omega)]
   exact hk.fwd j (by omega)
 ·by_cases hik:i=k
  ·by_cases hjk:j=k
   ·omega
   ·rw[hik,e1,e2 _ _ _ (by omega)] at he
    have:=(hg.fwd j (by omega)).2.2.1
    omega
  ·by_cases hjk:j=k
   ·rw[hjk,e1,e2 _ _ _ (by omega)] at he
    have:=(hg.fwd i (by omega)).2.2.1
    omega
   ·rw[e2 _ _ _ (by omega),e2 _ _ _ (by omega)] at he
    exact hg.inj i j (by omega) (by omega) he
theorem tab_of{w wr wc wx:World}{F lc lp pb:Nat}{s:S}{c h:Nat→Nat}{ps:Nat→List Nat}{q0 q1 q2 q3 q4 q5 q6 q7:Nat}(H1:Got w wr 10 c h ps)(H2:Got w wc 10 c h ps)(hff:w.heap.size+2≤wr.heap.size)(o0:wr.heap.size≤q0)(o1:q0+1<q1)(o2:q1+1<q2)(o3:q2+1<q3)(o4:q3+1<q4)(o5:q4+1<q5)(o6:q5+1<q6)(o7:q6+1<q7)(s7:Prob.SetAt wc (q0+1) q0 (ps 7))(s8:Prob.SetAt wc (q1+1) q1 (ps 8))(s9:Prob.SetAt wc (q2+1) q2 (ps 9))(s10:Prob.SetAt wc (q3+1) q3 (ps 10))(s11:Prob.SetAt wc (q4+1) q4 (ps 11))(s12:Prob.SetAt wc (q5+1) q5 (ps 12))(s13:Prob.SetAt wc (q6+1) q6 (ps 13))(s14:Prob.SetAt wc (q7+1) q7 (ps 14))
 (hst:∀{b g:Nat}{p:List Nat},Prob.SetAt wc b g p→Prob.SetAt wx b g p)(hbx:wx.heap[F]? =some (.cells (((((((((tabV lc lp pb s c).setIfInBounds 15 (.pointer (some ⟨q0+1,0,none⟩))).setIfInBounds 16 (.pointer (some ⟨q1+1,0,none⟩))).setIfInBounds 17 (.pointer (some ⟨q2+1,0,none⟩))).setIfInBounds 18 (.pointer (some ⟨q3+1,0,none⟩))).setIfInBounds 19 (.pointer (some ⟨q4+1,0,none⟩))).setIfInBounds 20 (.pointer (some ⟨q5+1,0,none⟩))).setIfInBounds 21 (.pointer (some ⟨q6+1,0,none⟩))).setIfInBounds 22 (.pointer (some ⟨q7+1,0,none⟩))) 217 (0,0))):
 ∃h':Nat→Nat,Tab wx F (fun j=>h' j+1) h' lc lp pb s ps∧∀j,j<18→w.heap.size≤h' j:=by
 have hbd:=H1.fwd
 have hfw:=H2.fwd
 have hin:=H2.inj
 obtain⟨h',hh⟩:∃h':Nat→Nat,h'=fun j=>if j<7 then h j else if j<15 then[q0,q1,q2,q3,q4,q5,q6,q7].getD (j-7) 0 else h j:=⟨_,rfl⟩
 have hk7:∀j,j<7→rowK j=j:=fun j hj=>if_pos hj
 have hk15:∀j,15≤j→j<18→rowK (j-8)=j:=fun j h1 h2=>by
  unfold rowK
  rw[if_neg (by omega)]
  omega
 have hv:∀j,j<18→w.heap.size+2≤h' j∧Prob.SetAt wc (h' j+1) (h' j) (ps j)∧(j<7∨15≤j→h' j=h j∧h j+1<q0)∧(7≤j→j<15→q0≤h' j):=by
  intro j hj
  rw[hh]
  simp only
  by_cases h7:j<7
  ·have h1:=hfw j (by omega)
   have h2:=hbd j (by omega)
   rw[hk7 j h7] at h1 h2
   rw[if_pos h7]
   exact⟨h1.2.1,h1.2.2.2,fun _=>⟨rfl,by omega⟩,fun h=>by omega⟩
  ·rw[if_neg h7]
   by_cases h15:j<15
   ·rw[if_pos h15]
    obtain rfl|rfl|rfl|rfl|rfl|rfl|rfl|rfl:j=7∨j=8∨j=9∨j=10∨j=11∨j=12∨j=13∨j=14:=by omega
    ·exact⟨by show w.heap.size+2≤q0;omega,s7,fun h=>by omega,fun _ _=>by show q0≤q0;omega⟩
    ·exact⟨by show w.heap.size+2≤q1;omega,s8,fun h=>by omega,fun _ _=>by show q0≤q1;omega⟩
    ·exact⟨by show w.heap.size+2≤q2;omega,s9,fun h=>by omega,fun _ _=>by show q0≤q2;omega⟩
    ·exact⟨by show w.heap.size+2≤q3;omega,s10,fun h=>by omega,fun _ _=>by show q0≤q3;omega⟩
    ·exact⟨by show w.heap.size+2≤q4;omega,s11,fun h=>by omega,fun _ _=>by show q0≤q4;omega⟩
    ·exact⟨by show w.heap.size+2≤q5;omega,s12,fun h=>by omega,fun _ _=>by show q0≤q5;omega⟩
    ·exact⟨by show w.heap.size+2≤q6;omega,s13,fun h=>by omega,fun _ _=>by show q0≤q6;omega⟩
    ·exact⟨by show w.heap.size+2≤q7;omega,s14,fun h=>by omega,fun _ _=>by show q0≤q7;omega⟩
   ·rw[if_neg h15]
    have h1:=hfw (j-8) (by omega)
    have h2:=hbd (j-8) (by omega)
    rw[hk15 j (by omega) hj] at h1 h2
    exact⟨h1.2.1,h1.2.2.2,fun _=>⟨rfl,by omega⟩,fun _ h=>by omega⟩
 have hlen:∀t,t<8→∀u,u<8→h' (t+7)=h' (u+7)→t=u:=by
  intro t ht u hu he
  rw[hh] at he
  simp only at he
  rw[if_neg (by omega),if_pos (by omega),if_neg (by omega),if_pos (by omega),Nat.add_sub_cancel,Nat.add_sub_cancel] at he
  obtain rfl|rfl|rfl|rfl|rfl|rfl|rfl|rfl:t=0∨t=1∨t=2∨t=3∨t=4∨t=5∨t=6∨t=7:=by omega
  all_goals
   obtain rfl|rfl|rfl|rfl|rfl|rfl|rfl|rfl:u=0∨u=1∨u=2∨u=3∨u=4∨u=5∨u=6∨u=7:=by omega
   all_goals first
    |rfl
    |(simp only[List.getD_cons_zero,List.getD_cons_succ] at he;omega)
 have hinj:∀i j,i<18→j<18→h' i=h' j→i=j:=by
  intro i j hi hj he
  have vi:=hv i hi
  have vj:=hv j hj
  by_cases li:i<7∨15≤i
  ·have a:=vi.2.2.1 li
   by_cases lj:j<7∨15≤j
   ·have b':=vj.2.2.1 lj
    have hr:∀x,x<18→x<7∨15≤x→∃y,y<10∧rowK y=x:=fun x hx hl=>by
     rcases hl with hl|hl
     ·exact⟨x,by omega,hk7 x hl⟩
     ·exact⟨x-8,by omega,hk15 x hl hx⟩
    obtain⟨y,hy,rfl⟩:=hr i hi li
    obtain⟨z,hz,rfl⟩:=hr j hj lj
    rw[a.1,b'.1] at he
    rw[hin y z hy hz he]
   ·have b':=vj.2.2.2 (by omega) (by omega)
    omega
  ·have a:=vi.2.2.2 (by omega) (by omega)
   by_cases lj:j<7∨15≤j
   ·have b':=vj.2.2.1 lj
    omega
   ·have h1:=hlen (i-7) (by omega) (j-7) (by omega) (by rw[show i-7+7=i by omega,show j-7+7=j by omega];exact he)
    omega
 have k0:c 0=h 0+1:=(hfw 0 (by decide)).1
 have k1:c 1=h 1+1:=(hfw 1 (by decide)).1
 have k2:c 2=h 2+1:=(hfw 2 (by decide)).1
 have k3:c 3=h 3+1:=(hfw 3 (by decide)).1
 have k4:c 4=h 4+1:=(hfw 4 (by decide)).1
 have k5:c 5=h 5+1:=(hfw 5 (by decide)).1
 have k6:c 6=h 6+1:=(hfw 6 (by decide)).1
 have k7:c 15=h 15+1:=(hfw 7 (by decide)).1
 have k8:c 16=h 16+1:=(hfw 8 (by decide)).1
 have k9:c 17=h 17+1:=(hfw 9 (by decide)).1
 have hbox:wx.heap[F]? =some (.cells (tabV lc lp pb s (fun j=>h' j+1)) 217 (0,0)):=by
  rw[hbx,hh]
  congr 1
  simp[tabV,k0,k1,k2,k3,k4,k5,k6,k7,k8,k9,ptr]
 exact⟨h',⟨hbox,fun j hj=>hst (hv j hj).2.1,hinj⟩,fun j hj=>by have:=(hv j hj).1;omega⟩
end Enc
namespace Enc
open Mem Win Lz St
def NewTab(w:World)(lc lp pb:Nat)(s:S)(ps:Nat→List Nat)(e:Ending)(w':World):Prop:=∃T' c h,e=.returned (ptr T')∧Fr (fun _=>False) w w'∧w.heap.size≤T'∧Tab w' T' c h lc lp pb s ps∧∀j,j<18→w.heap.size≤c j∧w.heap.size≤h j
theorem set_off{w:World}{b g F:Nat}{p:List Nat}{cs:Array Value}{fr:Nat×Nat}(h:Prob.SetAt w b g p)(hF:w.heap[F]? =some (.cells cs 217 fr)):¬b=F∧¬g=F:=by
 obtain⟨cap,cs',h1,h2,_⟩:=h
 constructor
 ·rintro rfl
  rw[hF] at h1
  simp at h1
 ·rintro rfl
  rw[hF] at h2
  simp at h2
set_option maxRecDepth 100000 in
theorem tabForkP_calls(T lc lp pb:Nat)(b g:Nat→Nat)(s:S)(ps:Nat→List Nat)(w:World)(hT:Tab w T b g lc lp pb s ps)(hl:∀j,j<18→0<(ps j).length∧(ps j).length≤1048576):
 Calls Tryz.prog 119 #[ptr T] w (NewTab w lc lp pb s ps):=by
 have HTB:=Hd hT
 have HL:=Hd hl
 have hlT:=lt_of_block hT.box
 have HBX:=Hd hT.box
 clear hT hl
 have hsz:(tabV lc lp pb s b).size=26:=rfl
 have hst:(storeCells ⟨w.heap.size,0,none⟩ (tabV lc lp pb s b).toList).run Tryz.prog (w.alloc (.cells #[.int .i64 0,.int .i64 0,.int .i64 0,.int .i64 0,.int .i64 0,.int .i64 0,.int .i64 0,.int .i64 0,.pointer none,.pointer none,.pointer none,.pointer none,.pointer none,.pointer none,.pointer none,.pointer none,.pointer none,.pointer none,.pointer none,.pointer none,.pointer none,.pointer none,.pointer none,.pointer none,.pointer none,.pointer none] 217))=.ok () (w.alloc (.cells (tabV lc lp pb s b) 217)):=run_storeCells_new w _ #[.int .i64 0,.int .i64 0,.int .i64 0,.int .i64 0,.int .i64 0,.int .i64 0,.int .i64 0,.int .i64 0,.pointer none,.pointer none,.pointer none,.pointer none,.pointer none,.pointer none,.pointer none,.pointer none,.pointer none,.pointer none,.pointer none,.pointer none,.pointer none,.pointer none,.pointer none,.pointer none,.pointer none,.pointer none] (tabV lc lp pb s b) (by kernel_rfl) rfl (by simp[tabV,Value.oneCell'])
 go_enter Tryz.func119,Tryz.ntmps119
 go_wp2_with (first
  |(with_reducible refine wpList_load_row rfl 217 _ rfl T rfl 217 (tabV lc lp pb s b) (0,0) _ HBX.out Tryz.underlying217 rfl ?_ ?_;kernel_rfl))
 have hF0:=((R0 w).alloc (.cells (tabV lc lp pb s b) 217)).alloc (.cells (ptrsF w.heap.size) 303)
 have hx0:=((R0 (w.alloc (.cells (tabV lc lp pb s b) 217))).alloc (.cells (ptrsF w.heap.size) 303)).keep (heap_alloc_new w (.cells (tabV lc lp pb s b) 217)) (fun h=>h)
 have hy0:=heap_alloc_new (w.alloc (.cells (tabV lc lp pb s b) 217)) (.cells (ptrsF w.heap.size) 303)
 rw[World.size_alloc] at hy0
 go_loopw [5,21] (fun _ i wr=>∃(k:Nat)(c h:Nat→Nat),k≤10∧i=.int .i64 k∧Fr (fun _=>False) w wr∧wr.heap[w.heap.size]? =some (.cells (tabV lc lp pb s c) 217 (0,0))∧wr.heap[w.heap.size+1]? =some (.cells (ptrsF w.heap.size) 303 (0,0))∧(∀j,k≤j→c (rowK j)=b (rowK j))∧Got w wr k c h ps) (fun _ i _=>10-(intOf i).toNat)
 case atStart=>exact⟨0,b,b,by omega,rfl,hF0,hx0,hy0,fun _ _=>rfl,⟨fun j hj=>absurd hj (by omega),fun i j hi=>absurd hi (by omega)⟩⟩
 case round=>
  obtain⟨k,c,h,hk,rfl,hfr,hF,hG,hcb,hgot⟩:=hrel
  have HGT:=Hd hgot
  have HFF:=Hd (show w.heap.size+2≤wr.heap.size from lt_of_block hG)
  clear hgot
  by_cases hlt:k<10
  ·have g0:=cell_in hG (ptrs_at w.heap.size k hlt)
   have f0:=cell_in hF (tab_off lc lp pb s c k hlt)
   rw[hcb k (Nat.le_refl _)] at f0
   have HK:=Hd (setForkP_calls _ _ _ wr ((HTB.out.set (rowK k) (rowK_lt hlt)).keep hfr) (HL.out _ (rowK_lt hlt)).1 (HL.out _ (rowK_lt hlt)).2)
   have HFR:=Hd hfr
   have HF:=Hd hF
   have HG:=Hd hG
   clear hfr hF hG hst hF0 hx0 hy0
   go_wp2_with fail
   refine HK.out.mono ?_
   rintro e w2 ⟨q,rfl,hfr2,hq1,hq2,hqs⟩
   have hF2:=hfr2.keep HF.out (fun h=>h)
   have z0:=cell_in hF2 (tab_off lc lp pb s c k hlt)
   have zf:=frozen_in hF2 (offK k)
   have HF2:=Hd hF2
   have HFR2:=Hd hfr2
   have HGT2:=Hd (HGT.out.snoc hfr2 HFF.out hq1 hq2 hqs)
   clear hF2 hfr2 hq1 hq2 hqs
   go_wp2_with fail
   go_roundw
   case rel=>
    refine⟨k+1,updN c (rowK k) (q+1),updN h (rowK k) q,by omega,by go_num,(HFR.out.trans HFR2.out).setCell (.inr (Nat.le_refl _)) _,?_,?_,fun j hj=> ?_,HGT2.out.step (Fr.one _ _ _ _) (fun h=>set_off h HF2.out)⟩
    ·rw[set_in HF2.out,tab_set lc lp pb s c (q+1) k hlt]
    ·exact((Fr.refl (fun i=>i=w.heap.size) w2).setCell (.inl rfl) _).keep (HFR2.out.keep HG.out (fun h=>h)) (by omega)
    ·unfold updN
     rw[if_neg (fun e=>by have:=rowK_inj e;omega)]
     exact hcb j (by omega)
   case measure=>simp[intOf];omega
  ·obtain rfl:k=10:=by omega
   have hT1:=hfr.keep HBX.out (fun h=>h)
   have HS:=Hd (show∀w':World,Fr (fun i=>i=w.heap.size) wr w'→w'.cell? ⟨T,15,none⟩=some (.pointer (some ⟨b 7,0,none⟩))∧w'.cell? ⟨T,16,none⟩=some (.pointer (some ⟨b 8,0,none⟩))∧w'.cell? ⟨T,17,none⟩=some (.pointer (some ⟨b 9,0,none⟩))∧w'.cell? ⟨T,18,none⟩=some (.pointer (some ⟨b 10,0,none⟩))∧w'.cell? ⟨T,19,none⟩=some (.pointer (some ⟨b 11,0,none⟩))∧w'.cell? ⟨T,20,none⟩=some (.pointer (some ⟨b 12,0,none⟩))∧w'.cell? ⟨T,21,none⟩=some (.pointer (some ⟨b 13,0,none⟩))∧w'.cell? ⟨T,22,none⟩=some (.pointer (some ⟨b 14,0,none⟩)) from fun w' h=>⟨cell_in (i:=15) (h.keep hT1 (by omega)) rfl,cell_in (i:=16) (h.keep hT1 (by omega)) rfl,cell_in (i:=17) (h.keep hT1 (by omega)) rfl,cell_in (i:=18) (h.keep hT1 (by omega)) rfl,cell_in (i:=19) (h.keep hT1 (by omega)) rfl,cell_in (i:=20) (h.keep hT1 (by omega)) rfl,cell_in (i:=21) (h.keep hT1 (by omega)) rfl,cell_in (i:=22) (h.keep hT1 (by omega)) rfl⟩)
   have HLF:=Hd (show∀(w':World),Fr (fun i=>i=w.heap.size) wr w'→∀m,m<18→Prob.SetAt w' (b m) (g m) (ps m) from fun w' h m hm=>(HTB.out.set m hm).keep (hfr.trans' h (fun i hi(e:i=w.heap.size)=>by omega)))
   have HFR:=Hd hfr
   have HF:=Hd hF
   have HR:=Hd (Fr.refl (fun i=>i=w.heap.size) wr)
   obtain⟨c0,c1,c2,c3,c4,c5,c6,c7⟩:=HS.out wr HR.out
   clear hfr hF hG hst hF0 hx0 hy0 hT1
   go_wp2_with fail
   have HSC:=Hd (HS.out _ (HR.out.drew))
   obtain⟨c0,c1,c2,c3,c4,c5,c6,c7⟩:=HSC.out
   have HR:=Hd HR.out.drew
   have HF:=Hd ((R0 wr).drew.keep HF.out (fun h=>h))
   have HGT0:=HGT
   have HGT:=Hd (HGT.out.keep (R0 wr).drew)
   go_region_held3 (fun w'=>w'.cell? ⟨T,15,none⟩=some (.pointer (some ⟨b 7,0,none⟩))∧w'.cell? ⟨T,16,none⟩=some (.pointer (some ⟨b 8,0,none⟩))∧w'.cell? ⟨T,17,none⟩=some (.pointer (some ⟨b 9,0,none⟩))∧w'.cell? ⟨T,18,none⟩=some (.pointer (some ⟨b 10,0,none⟩))∧w'.cell? ⟨T,19,none⟩=some (.pointer (some ⟨b 11,0,none⟩))∧w'.cell? ⟨T,20,none⟩=some (.pointer (some ⟨b 12,0,none⟩))∧w'.cell? ⟨T,21,none⟩=some (.pointer (some ⟨b 13,0,none⟩))∧w'.cell? ⟨T,22,none⟩=some (.pointer (some ⟨b 14,0,none⟩))) (first|with_reducible exact HSC.out|with_reducible exact HS.out _ HR.out|with_reducible exact HS.out _ (fr4 HR.out _ _ _ _ _ _ _ _)|with_reducible exact HS.out _ (fr4 (fr4 HR.out _ _ _ _ _ _ _ _) _ _ _ _ _ _ _ _)) ((first
    | (go_at_call 179
       go_loud (
       with_reducible refine(lenForkP_calls (b 7) (b 8) (b 9) (b 10) (g 7) (g 8) (g 9) (g 10) (ps 7) (ps 8) (ps 9) (ps 10) _ (HLF.out _ HR.out 7 (by decide)) (HLF.out _ HR.out 8 (by decide)) (HLF.out _ HR.out 9 (by decide)) (HLF.out _ HR.out 10 (by decide)) (HL.out 7 (by decide)) (HL.out 8 (by decide)) (HL.out 9 (by decide)) (HL.out 10 (by decide))).mono ?_
       rintro e wc ⟨q0,q1,q2,q3,rfl,hfrc,hqq⟩
       have HR:=Hd (HR.out.trans (hfrc.mono (fun _ _ h=>h.elim)))
       have HSC:=Hd (HS.out _ HR.out)
       obtain⟨c0,c1,c2,c3,c4,c5,c6,c7⟩:=HSC.out
       have HF:=Hd (hfrc.keep HF.out (fun h=>h))
       have HGT:=Hd (HGT.out.keep hfrc)
       have HQ0:=Hd hqq
       have y0:wc.cell? ⟨w.heap.size,15,none⟩=some (.pointer (some ⟨c 7,0,none⟩)):=cell_in (i:=15) HF.out rfl
       have y1:wc.cell? ⟨w.heap.size,16,none⟩=some (.pointer (some ⟨c 8,0,none⟩)):=cell_in (i:=16) HF.out rfl
       have y2:wc.cell? ⟨w.heap.size,17,none⟩=some (.pointer (some ⟨c 9,0,none⟩)):=cell_in (i:=17) HF.out rfl
       have y3:wc.cell? ⟨w.heap.size,18,none⟩=some (.pointer (some ⟨c 10,0,none⟩)):=cell_in (i:=18) HF.out rfl
       have y4:wc.cell? ⟨w.heap.size,19,none⟩=some (.pointer (some ⟨c 11,0,none⟩)):=cell_in (i:=19) HF.out rfl
       have y5:wc.cell? ⟨w.heap.size,20,none⟩=some (.pointer (some ⟨c 12,0,none⟩)):=cell_in (i:=20) HF.out rfl
       have y6:wc.cell? ⟨w.heap.size,21,none⟩=some (.pointer (some ⟨c 13,0,none⟩)):=cell_in (i:=21) HF.out rfl
       have y7:wc.cell? ⟨w.heap.size,22,none⟩=some (.pointer (some ⟨c 14,0,none⟩)):=cell_in (i:=22) HF.out rfl
       have yf:=fun i=>frozen_in HF.out i
       clear hfrc hqq))
    | (go_at_call 179
       with_reducible refine(lenForkP_calls (b 11) (b 12) (b 13) (b 14) (g 11) (g 12) (g 13) (g 14) (ps 11) (ps 12) (ps 13) (ps 14) _ (HLF.out _ HR.out 11 (by decide)) (HLF.out _ HR.out 12 (by decide)) (HLF.out _ HR.out 13 (by decide)) (HLF.out _ HR.out 14 (by decide)) (HL.out 11 (by decide)) (HL.out 12 (by decide)) (HL.out 13 (by decide)) (HL.out 14 (by decide))).mono ?_
       rintro e wc ⟨q4,q5,q6,q7,rfl,hfrc,hqq⟩
       have HR:=Hd (HR.out.trans (hfrc.mono (fun _ _ h=>h.elim)))
       have HSC:=Hd (HS.out _ HR.out)
       obtain⟨c0,c1,c2,c3,c4,c5,c6,c7⟩:=HSC.out
       have HF:=Hd (hfrc.keep HF.out (fun h=>h))
       have HGT:=Hd (HGT.out.keep hfrc)
       have HQ0:=Hd (show q0+1<q1∧q1+1<q2∧q2+1<q3∧q3+1<q4∧wr.heap.size≤q0∧Prob.SetAt wc (q0+1) q0 (ps 7)∧Prob.SetAt wc (q1+1) q1 (ps 8)∧Prob.SetAt wc (q2+1) q2 (ps 9)∧Prob.SetAt wc (q3+1) q3 (ps 10) from
        ⟨HQ0.out.2.1,HQ0.out.2.2.1,HQ0.out.2.2.2.1,Nat.lt_of_lt_of_le HQ0.out.2.2.2.2.1 hqq.1,HQ0.out.1,HQ0.out.2.2.2.2.2.1.keep hfrc,HQ0.out.2.2.2.2.2.2.1.keep hfrc,HQ0.out.2.2.2.2.2.2.2.1.keep hfrc,HQ0.out.2.2.2.2.2.2.2.2.keep hfrc⟩)
       have HQ4:=Hd hqq
       have y0:wc.cell? ⟨w.heap.size,15,none⟩=some (.pointer (some ⟨c 7,0,none⟩)):=cell_in (i:=15) HF.out rfl
       have y1:wc.cell? ⟨w.heap.size,16,none⟩=some (.pointer (some ⟨c 8,0,none⟩)):=cell_in (i:=16) HF.out rfl
       have y2:wc.cell? ⟨w.heap.size,17,none⟩=some (.pointer (some ⟨c 9,0,none⟩)):=cell_in (i:=17) HF.out rfl
       have y3:wc.cell? ⟨w.heap.size,18,none⟩=some (.pointer (some ⟨c 10,0,none⟩)):=cell_in (i:=18) HF.out rfl
       have y4:wc.cell? ⟨w.heap.size,19,none⟩=some (.pointer (some ⟨c 11,0,none⟩)):=cell_in (i:=19) HF.out rfl
       have y5:wc.cell? ⟨w.heap.size,20,none⟩=some (.pointer (some ⟨c 12,0,none⟩)):=cell_in (i:=20) HF.out rfl
       have y6:wc.cell? ⟨w.heap.size,21,none⟩=some (.pointer (some ⟨c 13,0,none⟩)):=cell_in (i:=21) HF.out rfl
       have y7:wc.cell? ⟨w.heap.size,22,none⟩=some (.pointer (some ⟨c 14,0,none⟩)):=cell_in (i:=22) HF.out rfl
       have yf:=fun i=>frozen_in HF.out i
       clear hfrc hqq)))
   go_wp2_with fail
   go_ret
   have hq0:=HQ0.out
   have hq4:=HQ4.out
   have hf8:Fr (fun i=>i=w.heap.size) wc ((((((((wc.setCell ⟨w.heap.size,15,none⟩ (.pointer (some ⟨q0+1,0,none⟩))).setCell ⟨w.heap.size,16,none⟩ (.pointer (some ⟨q1+1,0,none⟩))).setCell ⟨w.heap.size,17,none⟩ (.pointer (some ⟨q2+1,0,none⟩))).setCell ⟨w.heap.size,18,none⟩ (.pointer (some ⟨q3+1,0,none⟩))).setCell ⟨w.heap.size,19,none⟩ (.pointer (some ⟨q4+1,0,none⟩))).setCell ⟨w.heap.size,20,none⟩ (.pointer (some ⟨q5+1,0,none⟩))).setCell ⟨w.heap.size,21,none⟩ (.pointer (some ⟨q6+1,0,none⟩))).setCell ⟨w.heap.size,22,none⟩ (.pointer (some ⟨q7+1,0,none⟩))):=fr4 (fr4 (Fr.refl _ _) _ _ _ _ _ _ _ _) _ _ _ _ _ _ _ _
   have hst:∀{b g:Nat}{p:List Nat},Prob.SetAt wc b g p→Prob.SetAt ((((((((wc.setCell ⟨w.heap.size,15,none⟩ (.pointer (some ⟨q0+1,0,none⟩))).setCell ⟨w.heap.size,16,none⟩ (.pointer (some ⟨q1+1,0,none⟩))).setCell ⟨w.heap.size,17,none⟩ (.pointer (some ⟨q2+1,0,none⟩))).setCell ⟨w.heap.size,18,none⟩ (.pointer (some ⟨q3+1,0,none⟩))).setCell ⟨w.heap.size,19,none⟩ (.pointer (some ⟨q4+1,0,none⟩))).setCell ⟨w.heap.size,20,none⟩ (.pointer (some ⟨q5+1,0,none⟩))).setCell ⟨w.heap.size,21,none⟩ (.pointer (some ⟨q6+1,0,none⟩))).setCell ⟨w.heap.size,22,none⟩ (.pointer (some ⟨q7+1,0,none⟩))) b g p:=fun{b g p} hs=>hs.step hf8 (set_off hs HF.out).1 (set_off hs HF.out).2
   have hbx:=set_in (set_in (set_in (set_in (set_in (set_in (set_in (set_in HF.out 15 (.pointer (some ⟨q0+1,0,none⟩))) 16 (.pointer (some ⟨q1+1,0,none⟩))) 17 (.pointer (some ⟨q2+1,0,none⟩))) 18 (.pointer (some ⟨q3+1,0,none⟩))) 19 (.pointer (some ⟨q4+1,0,none⟩))) 20 (.pointer (some ⟨q5+1,0,none⟩))) 21 (.pointer (some ⟨q6+1,0,none⟩))) 22 (.pointer (some ⟨q7+1,0,none⟩))
   obtain⟨h',hT',hle'⟩:=tab_of (lc:=lc) (lp:=lp) (pb:=pb) (s:=s) HGT0.out HGT.out HFF.out hq0.2.2.2.2.1 hq0.1 hq0.2.1 hq0.2.2.1 hq0.2.2.2.1 hq4.2.1 hq4.2.2.1 hq4.2.2.2.1 hq0.2.2.2.2.2.1 hq0.2.2.2.2.2.2.1 hq0.2.2.2.2.2.2.2.1 hq0.2.2.2.2.2.2.2.2 hq4.2.2.2.2.2.1 hq4.2.2.2.2.2.2.1 hq4.2.2.2.2.2.2.2.1 hq4.2.2.2.2.2.2.2.2 hst hbx
   exact⟨w.heap.size,fun j=>h' j+1,h',rfl,HFR.out.trans' (fr4 (fr4 HR.out _ _ _ _ _ _ _ _) _ _ _ _ _ _ _ _) (fun i hi e=>by omega),Nat.le_refl _,hT',fun j hj=>⟨Nat.le_trans (hle' j hj) (Nat.le_succ _),hle' j hj⟩⟩
end Enc
namespace En
open Mem Rc Win Lz St
structure XL where
 D:Nat
 E:Nat
 T:Nat
 W:Nat
 v:Value
 rv:Value
 ring:List UInt8
 t:Nat
 b:Nat→Nat
 g:Nat→Nat
structure XAt(w:World)(l:XL)(x:Xe):Prop where
 d:w.heap[l.D]? =some (.cells #[ptr l.T,ptr l.W,ptr l.E] 149 (0,0))
 tab:Tab w l.T l.b l.g x.c.lc x.c.lp x.c.pb x.c.s x.e.ps
 win:Win.At w l.W l.rv x.c.size x.c.all l.ring l.t
 rc:∃g,EAt w l.E l.v g∧Is g x.e.k
 ok:x.Ok
def XF(l:XL)(k:Nat):Prop:=EF l.E l.v k∨∃j,j<18∧k=l.g j
theorem XAt.off{w:World}{l:XL}{x:Xe}(h:XAt w l x){k:Nat}{cs:Array Value}{t:TypeId}{fr:Nat×Nat}(hk:w.heap[k]? =some (.cells cs t fr))(h1:t≠219)(h2:t≠5)(h3:t≠3):¬XF l k:=by
 obtain⟨g,a,_⟩:=h.rc
 rintro((rfl|e)|⟨j,hj,rfl⟩)
 ·rw[a.box] at hk
  simp only[Option.some.injEq,Obj.cells.injEq] at hk
  exact h1 hk.2.1.symm
 ·exact off_box a.own hk h2 _ e rfl
 ·obtain⟨_,_,_,hg,_⟩:=h.tab.set j hj
  rw[hg] at hk
  simp only[Option.some.injEq,Obj.cells.injEq] at hk
  exact h3 hk.2.1.symm
structure XSep(l:XL):Prop where
 rv:∀k,l.rv.ownBlock=some k→l.v.ownBlock≠some k
def XPost(l:XL)(w:World)(x:Xe)(w':World):Prop:=Fr (XF l) w w'∧∃v',XAt w' {l with v:=v'} x∧XSep {l with v:=v'}∧∀k,v'.ownBlock=some k→l.v.ownBlock=some k∨w.heap.size≤k
def Xe.ops(x:Xe)(o:List Op):Xe:=⟨x.c,x.e.run o⟩
def onRow(j:Nat):Op→Prop
 |.bit k _ _=>k=j
 |.half _=>True
theorem run_row{j k:Nat}(hk:k≠j):∀(o:List Op)(e:Es),(∀q ∈ o,onRow j q)→(e.run o).ps k=e.ps k
 |[],e,_=>rfl
 |q::o,e,h=>by
   rw[Es.run,run_row hk o _ (fun r hr=>h r (List.mem_cons_of_mem _ hr))]
   have:=h q (List.mem_cons_self ..)
   cases q with
   |bit i _ _=>
     have e:i=j:=this
     subst e
     exact upd_other _ _ hk
   |half _=>rfl
theorem XAt.post{w w':World}{l:XL}{x:Xe}(h:XAt w l x)(hp:XSep l){o:List Op}(ho:∀q ∈ o,q.Ok x.c.lc x.c.lp){v':Value}{g:G}(hfr:Fr (XF l) w w')(ha:EAt w' l.E v' g)(hg:Is g (x.e.run o).k)(hn:∀k,v'.ownBlock=some k→l.v.ownBlock=some k∨w.heap.size≤k)(hs:∀j,j<18→Prob.SetAt w' (l.b j) (l.g j) ((x.e.run o).ps j)):XPost l w (x.ops o) w':=by
 have hrw:=World.ownsRow.lt h.win.own
 refine⟨hfr,v',⟨hfr.keep h.d (h.off h.d (by decide) (by decide) (by decide)),⟨hfr.keep h.tab.box (h.off h.tab.box (by decide) (by decide) (by decide)),hs,h.tab.inj⟩,h.win.keep hfr (h.off h.win.box (by decide) (by decide) (by decide)) (fun k hk e=> ?_),⟨g,ha,hg⟩,⟨h.ok.c,(h.ok.e.run ho).1⟩⟩,⟨fun k hk e=> ?_⟩,hn⟩
 ·obtain⟨cur,hc⟩:=own_block h.win.own hk
  rcases e with(e|e)|⟨j,hj,e⟩
  ·obtain⟨g0,a0,_⟩:=h.rc
   rw[e,a0.box] at hc
   simp at hc
  ·exact hp.rv k hk e
  ·obtain⟨_,_,_,hg,_⟩:=h.tab.set j hj
   rw[e,hg] at hc
   simp at hc
 ·rcases hn k e with e|e
  ·exact hp.rv k hk e
  ·have:=(hrw k hk).2
   omega
theorem XPost.trans{w w1 w2:World}{l:XL}{v1:Value}{x:Xe}(h1:Fr (XF l) w w1)(hn:∀k,v1.ownBlock=some k→l.v.ownBlock=some k∨w.heap.size≤k)(h2:XPost {l with v:=v1} w1 x w2):XPost l w x w2:=by
 obtain⟨f,v2,a,s,n⟩:=h2
 refine⟨h1.trans' f (fun k hk e=> ?_),v2,a,s,fun k hk=> ?_⟩
 ·rcases e with(e|e)|e
  ·exact .inl (.inl e)
  ·rcases hn k e with e|e
   ·exact .inl (.inr e)
   ·omega
  ·exact .inr e
 ·rcases n k hk with e|e
  ·exact hn k e
  ·exact .inr (Nat.le_trans h1.size e)
theorem XAt.row{w w':World}{l:XL}{x:Xe}(h:XAt w l x)(hp:XSep l){j:Nat}(hj:j<18){o:List Op}(ho:∀q ∈ o,q.Ok x.c.lc x.c.lp)(hr:∀q ∈ o,onRow j q)(ht:TPost l.E l.v (l.b j) (l.g j) w (x.e.run o) j w'):XPost l w (x.ops o) w':=by
 obtain⟨hf,v',⟨g,a,hg,hs⟩,hn⟩:=ht
 have hfr:Fr (XF l) w w':=hf.mono (fun k _ e=>e.imp id (fun e=>⟨j,hj,e⟩))
 refine h.post hp ho hfr a hg hn (fun i hi=> ?_)
 by_cases e:i=j
 ·rw[e]
  exact hs
 ·rw[run_row e o x.e hr]
  obtain⟨g0,a0,_⟩:=h.rc
  have hso:=a0.offSet (h.tab.set i hi)
  have hb:=h.off (h.tab.set i hi).choose_spec.choose_spec.1 (by decide) (by decide) (by decide)
  refine(h.tab.set i hi).step hf (fun q=>hb (q.imp id (fun q=>⟨j,hj,q⟩))) (fun q=> ?_)
  rcases q with q|q
  ·exact hso.2 q
  ·exact e (h.tab.inj i j hi hj q)
theorem XAt.tat{w:World}{l:XL}{x:Xe}(h:XAt w l x){j:Nat}(hj:j<18):TAt w l.E l.v (l.b j) (l.g j) x.e j:=by
 obtain⟨g,a,hg⟩:=h.rc
 exact⟨g,a,hg,h.tab.set j hj⟩
theorem XAt.keep{w w':World}{l:XL}{x:Xe}(h:XAt w l x)(hfr:Fr (fun _=>False) w w'):XAt w' l x:=by
 obtain⟨g,a,hg⟩:=h.rc
 exact⟨hfr.keep h.d (fun h=>h),⟨hfr.keep h.tab.box (fun h=>h),fun j hj=>(h.tab.set j hj).keep hfr,h.tab.inj⟩,h.win.keep hfr (fun h=>h) (fun _ _ h=>h),⟨g,a.keep hfr (fun h=>h) (fun _ _ h=>h),hg⟩,h.ok⟩
theorem tree_row(back:Bool)(j a n x:Nat):∀q m,∀o ∈ treeOps back j a n x q m,onRow j o
 |0,m,o,h=>by simp[treeOps] at h
 |q+1,m,o,h=>by
   rw[treeOps,List.mem_cons] at h
   rcases h with rfl|h
   ·rfl
   ·exact tree_row back j a n x q _ o h
theorem tree_len(back:Bool)(j a n x:Nat):∀q m,(treeOps back j a n x q m).length=q
 |0,m=>rfl
 |q+1,m=>by rw[treeOps,List.length_cons,tree_len]
theorem rowLen_le{lc lp:Nat}(h:lc+lp≤4)(j:Nat):Lz.rowLen lc lp j≤12288:=by
 have hp:2^(lc+lp)≤2^4:=Nat.pow_le_pow_right (by omega) h
 unfold Lz.rowLen
 repeat' split
 all_goals omega
abbrev sinkV(E:Nat):Value:=.agg #[ptr E]
def SPost(l:XL)(w:World)(x:Xe)(e:Ending)(w':World):Prop:=e=.returned (.tuple #[])∧XPost l w x w'
theorem XPost.box{w w1 w2:World}{l:XL}{x:Xe}(h1:Fr (fun _=>False) w w1)(h2:XPost l w1 x w2):XPost l w x w2:=XPost.trans (v1:=l.v) (h1.mono (fun _ _ h=>h.elim)) (fun k hk=>.inl hk) h2
theorem cbit_calls{w:World}{l:XL}{x:Xe}(h:XAt w l x)(hp:XSep l){j i bit:Nat}(ho:Op.Ok x.c.lc x.c.lp (.bit j i bit))(hs:x.e.k.s≤1099511627000):
 Calls Tryz.prog 339 #[sinkV l.E,ptr (l.b j),.int .i64 i,.int .i64 bit] w (SPost l w (x.ops [.bit j i bit])):=by
 have hf:=(R0 w).alloc (.cells #[ptr l.E] 242)
 have HF:=Hd hf
 have HT:=Hd (tbit_calls ((h.keep hf).tat ho.1) h.ok.e ho (by omega))
 have HP:=Hd (fun w'(ht:TPost l.E l.v (l.b j) (l.g j) _ (x.e.op (.bit j i bit)) j w')=>XPost.box hf ((h.keep hf).row hp ho.1 (o:=[.bit j i bit]) (fun q hq=>by simp only[List.mem_singleton] at hq;subst hq;exact ho) (fun q hq=>by simp only[List.mem_singleton] at hq;subst hq;rfl) ht))
 clear h hp ho hf
 go_enter Tryz.func339,Tryz.ntmps339
 go_wp2_with fail
 refine HT.out.mono ?_
 rintro e w2 ⟨rfl,ht⟩
 have HP2:=Hd (HP.out w2 ht)
 clear ht
 go_wp2_with fail
 go_end0
 exact⟨rfl,HP2.out⟩
theorem ctree_calls{w:World}{l:XL}{x:Xe}(h:XAt w l x)(hp:XSep l){j a n v:Nat}(hj:j<18)(hn:n≤16)(hv:v<2^n)(ha:a+2^n≤Lz.rowLen x.c.lc x.c.lp j)(hs:x.e.k.s≤1099511627000):
 Calls Tryz.prog 341 #[sinkV l.E,ptr (l.b j),.int .i64 a,.int .i64 n,.int .i64 v] w (SPost l w (x.ops (treeOps false j a n v n 1))):=by
 have hf:=(R0 w).alloc (.cells #[ptr l.E] 242)
 have HT:=Hd (tput_calls ((h.keep hf).tat hj) h.ok.e hn hv ha hj (by omega) (by have:=rowLen_le h.ok.c.l j;omega))
 have HP:=Hd (fun w'(ht:TPost l.E l.v (l.b j) (l.g j) _ (x.e.run (treeOps false j a n v n 1)) j w')=>XPost.box hf ((h.keep hf).row hp hj (tree_reads (lc:=x.c.lc) (lp:=x.c.lp) false hj hv hn ha).1 (tree_row _ _ _ _ _ _ _) ht))
 clear h hp hf
 generalize treeOps false j a n v n 1=o at*
 go_enter Tryz.func341,Tryz.ntmps341
 go_wp2_with fail
 refine HT.out.mono ?_
 rintro e w2 ⟨rfl,ht⟩
 have HP2:=Hd (HP.out w2 ht)
 clear ht
 go_wp2_with fail
 go_end0
 exact⟨rfl,HP2.out⟩
theorem cback_calls{w:World}{l:XL}{x:Xe}(h:XAt w l x)(hp:XSep l){j a n v:Nat}(hj:j<18)(hn:n≤16)(hv:v<2^n)(ha:a+2^n≤Lz.rowLen x.c.lc x.c.lp j)(hs:x.e.k.s≤1099511627000):
 Calls Tryz.prog 338 #[sinkV l.E,ptr (l.b j),.int .i64 a,.int .i64 n,.int .i64 v] w (SPost l w (x.ops (treeOps true j a n v n 1))):=by
 have hf:=(R0 w).alloc (.cells #[ptr l.E] 242)
 have HT:=Hd (tback_calls ((h.keep hf).tat hj) h.ok.e hn hv ha hj (by omega) (by have:=rowLen_le h.ok.c.l j;omega))
 have HP:=Hd (fun w'(ht:TPost l.E l.v (l.b j) (l.g j) _ (x.e.run (treeOps true j a n v n 1)) j w')=>XPost.box hf ((h.keep hf).row hp hj (tree_reads (lc:=x.c.lc) (lp:=x.c.lp) true hj hv hn ha).1 (tree_row _ _ _ _ _ _ _) ht))
 clear h hp hf
 generalize treeOps true j a n v n 1=o at*
 go_enter Tryz.func338,Tryz.ntmps338
 go_wp2_with fail
 refine HT.out.mono ?_
 rintro e w2 ⟨rfl,ht⟩
 have HP2:=Hd (HP.out w2 ht)
 clear ht
 go_wp2_with fail
 go_end0
 exact⟨rfl,HP2.out⟩
theorem halves_k(x:Nat):∀n(e:Es),(e.run (halves x n)).k=e.k.halves x n∧(e.run (halves x n)).ps=e.ps
 |0,e=>⟨rfl,rfl⟩
 |n+1,e=>halves_k x n (e.op (.half (x/2^n%2)))
theorem halves_is{g:G}{k:K}(x:Nat):∀n,Is g k→Is (g.halves x n) (k.halves x n)
 |0,h=>h
 |n+1,h=>halves_is x n (h.half (by omega))
theorem cdirect_calls{w:World}{l:XL}{x:Xe}(h:XAt w l x)(hp:XSep l){n v:Nat}(hn:n≤32)(hv:v<4294967296)(hs:x.e.k.s≤1099511627000):
 Calls Tryz.prog 340 #[sinkV l.E,.int .i64 v,.int .i64 n] w (SPost l w (x.ops (halves v n))):=by
 have hf:=(R0 w).alloc (.cells #[ptr l.E] 242)
 obtain⟨g,a,hg⟩:=h.rc
 have HT:=Hd (direct_calls v n (a.keep hf (fun h=>h) (fun _ _ h=>h)) hg (by omega) hn hv)
 have HP:=Hd (fun w'(ht:EPost l.E l.v _ (g.halves v n) w')=>XPost.box hf ((h.keep hf).post hp (o:=halves v n) (direct_go (lc:=x.c.lc) (lp:=x.c.lp) (x:=v) n).1 (ht.1.mono (fun _ _ e=>.inl e)) ht.2.choose_spec.1 (by rw[(halves_k v n x.e).1];exact halves_is v n hg) ht.2.choose_spec.2 (fun j hj=>by
  rw[(halves_k v n x.e).2]
  obtain⟨g0,a0,_⟩:=(h.keep hf).rc
  have:=a0.offSet ((h.keep hf).tab.set j hj)
  exact((h.keep hf).tab.set j hj).step ht.1 this.1 this.2)))
 have hw:IntKind.u32.wrap (v:Int)=(v:Int):=IntWalk.u32_in _ (by omega)
 clear h hp hf a hg
 generalize halves v n=o at*
 generalize g.halves v n=g2 at*
 clear hv
 go_enter Tryz.func340,Tryz.ntmps340
 go_wp2_with fail
 refine HT.out.mono ?_
 rintro e w2 ⟨rfl,ht⟩
 have HP2:=Hd (HP.out w2 ht)
 clear ht
 go_wp2_with fail
 go_end0
 exact⟨rfl,HP2.out⟩
end En
end Go.Proofs.YtffoddpjfgjelaaGreatDoor
