/- Part 42 of 53: lemmas of the last part, each under the conditions that it names. -/
import Derived.Deep.RegionHeld3
import Derived.Deep.WholeRow
import Derived.Test.YtlgccpjccopdmaaGreatDoorP03
import Derived.Test.YtlgccpjccopdmaaGreatDoorP05
import Derived.Test.YtlgccpjccopdmaaGreatDoorP15
import Derived.Test.YtlgccpjccopdmaaGreatDoorP35
import Derived.Test.YtlgccpjccopdmaaGreatDoorP36
set_option linter.unusedVariables false
set_option linter.unusedSimpArgs false
set_option maxRecDepth 1500
set_option maxHeartbeats 4000000
namespace Go.Proofs.YtlgccpjccopdmaaGreatDoor
open Go.RowKit
namespace Enc
open Mem Win Lz
abbrev four(wc:World)(z q0 q1 q2 q3:Nat):World:=(((wc.setCell ⟨z,0,none⟩ (.pointer (some ⟨q0,0,none⟩))).setCell ⟨z,1,none⟩ (.pointer (some ⟨q1,0,none⟩))).setCell ⟨z,2,none⟩ (.pointer (some ⟨q2,0,none⟩))).setCell ⟨z,3,none⟩ (.pointer (some ⟨q3,0,none⟩))
theorem len_ret{P:Program}{fn:Func}{a:Act}{w0 wc:World}{z q0 q1 q2 q3:Nat}(hr:(results fn a.tmps).run P (four wc z q0 q1 q2 q3)=.ok (.agg #[ptr q0,ptr q1,ptr q2,ptr q3]) (four wc z q0 q1 q2 q3))(hd:a.defers=[])
 (hfr:Fr (fun _=>False) w0 (four wc z q0 q1 q2 q3)):bodyPost P fn (fun e w'=>∃c0 c1 c2 c3,e=.returned (.agg #[ptr c0,ptr c1,ptr c2,ptr c3])∧Fr (fun _=>False) w0 w') .ret a (four wc z q0 q1 q2 q3):=
 bodyPost_ret hr hd ⟨q0,q1,q2,q3,rfl,hfr⟩
set_option maxRecDepth 100000 in
theorem lenFork_calls(b0 b1 b2 b3:Nat)(w:World)(H:∀x,x=b0∨x=b1∨x=b2∨x=b3→∃g ps,Prob.SetAt w x g ps∧ps.length≤1048576):
 Calls Tryz.prog 157 #[.agg #[ptr b0,ptr b1,ptr b2,ptr b3]] w fun e w'=>∃c0 c1 c2 c3,e=.returned (.agg #[ptr c0,ptr c1,ptr c2,ptr c3])∧Fr (fun _=>False) w w':=by
 have hf0:=((Fr.refl (fun _=>False) w).alloc (.cells #[ptr b0,ptr b1,ptr b2,ptr b3] 185)).alloc (.cells #[.pointer none,.pointer none,.pointer none,.pointer none] 185)
 have hx:=((Fr.refl (fun _=>False) (w.alloc (.cells #[ptr b0,ptr b1,ptr b2,ptr b3] 185))).alloc (.cells #[.pointer none,.pointer none,.pointer none,.pointer none] 185)).keep (heap_alloc_new w (.cells #[ptr b0,ptr b1,ptr b2,ptr b3] 185)) (fun h=>h)
 have hy:=heap_alloc_new (w.alloc (.cells #[ptr b0,ptr b1,ptr b2,ptr b3] 185)) (.cells #[.pointer none,.pointer none,.pointer none,.pointer none] 185)
 rw[World.size_alloc] at hy
 have HF0:=Hd hf0
 have HX:=Hd hx
 have HY:=Hd hy
 have HH:=Hd H
 clear hf0 hx hy H
 go_enter Tryz.func157,Tryz.ntmps157
 go_wp2_with fail
 generalize hW:(w.alloc (.cells #[ptr b0,ptr b1,ptr b2,ptr b3] 185)).alloc (.cells #[.pointer none,.pointer none,.pointer none,.pointer none] 185)=W at*
 clear hW
 have HS:=Hd (show∀w':World,Fr (fun k=>k=w.heap.size+1) W w'→w'.cell? ⟨w.heap.size,0,none⟩=some (ptr b0)∧w'.cell? ⟨w.heap.size,1,none⟩=some (ptr b1)∧w'.cell? ⟨w.heap.size,2,none⟩=some (ptr b2)∧w'.cell? ⟨w.heap.size,3,none⟩=some (ptr b3) from fun w' h=>
  ⟨cell_in (i:=0) (h.keep HX.out (by omega)) rfl,cell_in (i:=1) (h.keep HX.out (by omega)) rfl,cell_in (i:=2) (h.keep HX.out (by omega)) rfl,cell_in (i:=3) (h.keep HX.out (by omega)) rfl⟩)
 have HK:=Hd (show∀(x:Nat)(w':World),(x=b0∨x=b1∨x=b2∨x=b3)→Fr (fun k=>k=w.heap.size+1) W w'→Calls Tryz.prog 156 #[ptr x] w' (NewP w') from fun x w' hx h=>by
  obtain⟨g,ps,h1,h2⟩:=HH.out x hx
  exact setFork_calls x g ps w' (h1.keep (HF0.out.trans' h (fun i hi(e:i=w.heap.size+1)=>by omega))) h2)
 have HR:=Hd ((Fr.refl (fun k=>k=w.heap.size+1) W).drew)
 have HSC:=Hd (HS.out W.drew HR.out)
 obtain⟨c0,c1,c2,c3⟩:=HSC.out
 have HY:=Hd ((Fr.refl (fun _=>False) W).drew.keep HY.out (fun h=>h))
 go_region_held3 (fun w'=>w'.cell? ⟨w.heap.size,0,none⟩=some (ptr b0)∧w'.cell? ⟨w.heap.size,1,none⟩=some (ptr b1)∧w'.cell? ⟨w.heap.size,2,none⟩=some (ptr b2)∧w'.cell? ⟨w.heap.size,3,none⟩=some (ptr b3)) (first|with_reducible exact HSC.out|exact HS.out _ HR.out|exact HS.out _ ((((HR.out.setCell (.inl rfl) _).setCell (.inl rfl) _).setCell (.inl rfl) _).setCell (.inl rfl) _)) ((first
  | (go_at_call 156
     first
      |(with_reducible refine(HK.out b0 _ (.inl rfl) HR.out).mono ?_)
      |(with_reducible refine(HK.out b1 _ (.inr (.inl rfl)) HR.out).mono ?_)
      |(with_reducible refine(HK.out b2 _ (.inr (.inr (.inl rfl))) HR.out).mono ?_)
      |(with_reducible refine(HK.out b3 _ (.inr (.inr (.inr rfl))) HR.out).mono ?_)
     rintro e wc ⟨b,rfl,hfrc,_⟩
     have HR:=Hd (HR.out.trans (hfrc.mono (fun _ _ h=>h.elim)))
     have HSC:=Hd (HS.out _ HR.out)
     obtain⟨c0,c1,c2,c3⟩:=HSC.out
     have hy1:=hfrc.keep HY.out (fun h=>h)
     have HY:=Hd hy1
     obtain⟨y0,y1,y2,y3,yf⟩:=cf4 hy1 rfl rfl rfl rfl
     clear hfrc hy1)))
 all_goals go_wp2_with fail
 all_goals
  refine len_ret ?_ rfl ?_
  ·simp[four,results,Tryz.results157,go_sem,y0,y1,y2,y3,yf]
  ·exact(HF0.out.trans' HR.out (fun i hi(e:i=w.heap.size+1)=>by omega)).trans' ((((Fr.refl (fun k=>k=w.heap.size+1) wc).setCell (.inl rfl) _).setCell (.inl rfl) _).setCell (.inl rfl) _|>.setCell (.inl rfl) _) (fun i hi(e:i=w.heap.size+1)=>by omega)
end Enc
namespace Enc
open Mem Win Lz St
abbrev conf3:Array Value:=#[.int .i64 0,.int .i64 0,.int .i64 3,.int .i64 0,.int .i64 2,.int .i64 4096,.int .i64 0,.int .i64 0]
theorem props3(w:World):Calls Tryz.prog 40 #[.agg #[.int .i64 3,.int .i64 0,.int .i64 2]] w fun e w'=>(∃x,e=.returned (.tuple #[.int .i64 x,.int .i64 0]))∧Fr (fun _=>False) w w':=props_ok 3 0 2 (by omega) (by omega) w
theorem tables3(w:World):Calls Tryz.prog 58 #[.agg #[.int .i64 3,.int .i64 0,.int .i64 2]] w (NewPost 3 0 2 w):=tables_calls 3 0 2 w (by omega)
theorem good_calls(w:World):Calls Tryz.prog 23 #[.agg conf3] w fun e w'=>e=.returned (.bool true)∧Fr (fun _=>False) w w':=by
 have HF:=Hd ((Fr.refl (fun _=>False) w).alloc (.cells conf3 26))
 have HX:=Hd (heap_alloc_new w (.cells conf3 26))
 go_enter Tryz.func23,Tryz.ntmps23
 go_wp2_with fail
 refine(props3 _).mono ?_
 rintro e w1 ⟨⟨x,rfl⟩,hfr⟩
 have hx1:=hfr.keep HX.out (fun h=>h)
 have c5:=cell_in (i:=5) hx1 rfl
 have c7:=cell_in (i:=7) hx1 rfl
 have HF1:=Hd (HF.out.trans hfr)
 clear hfr hx1
 go_wp2_with fail
 go_ret
 exact⟨rfl,HF1.out⟩
structure EncAt(w:World)(D T W E:Nat)(b g:Nat→Nat):Prop where
 d:w.heap[D]? =some (.cells #[ptr T,ptr W,ptr E] 128 (0,0))
 tab:Tab w T b g 3 0 2 S.new (fresh 3 0)
 win:At w W (.slice none 0 0) 4096 [] [] 0
 rc:w.heap[E]? =some (.cells #[.int .u64 0,.int .u32 4294967295,.int .u8 0,.int .i64 0,.slice none 0 0] 191 (0,0))
theorem enew_calls(w:World):Calls Tryz.prog 24 #[.agg #[.int .i64 3,.int .i64 0,.int .i64 2],.int .i64 4096] w fun e w'=>Fr (fun _=>False) w w'∧∃D T W E b g,e=.returned (.tuple #[ptr D,.int .i64 0])∧w.heap.size≤D∧EncAt w' D T W E b g:=by
 have hx:=heap_alloc_new w (.cells #[.int .i64 3,.int .i64 0,.int .i64 2] 24)
 have hf0:=(Fr.refl (fun _=>False) w).alloc (.cells #[.int .i64 3,.int .i64 0,.int .i64 2] 24)
 have HT:=fun W=>Hd (tables3 W)
 unfold NewPost at HT
 have HX:=Hd hx
 have HF:=Hd hf0
 clear hx hf0
 go_enter Tryz.func24,Tryz.ntmps24
 go_wp2_with fail
 refine(props3 _).mono ?_
 rintro e w1 ⟨⟨x,rfl⟩,hfr1⟩
 have hx1:=hfr1.keep HX.out (fun h=>h)
 have HX1:=Hd hx1
 have HF1:=Hd (HF.out.trans hfr1)
 clear hfr1 hx1
 go_wp2_with fail
 refine(Win.new_in 4096 _ (by omega) (by omega)).mono ?_
 rintro e w2 ⟨rfl,hfr2,hW2⟩
 have hx2:=hfr2.keep HX1.out (fun h=>h)
 obtain⟨z0,z1,z2⟩:=cs3 hx2 rfl rfl rfl
 have HF2:=Hd hfr2
 have HW2:=Hd hW2
 clear hfr2 hW2 hx2
 go_wp2_with fail
 refine(HT _).out.mono ?_
 rintro e w3 ⟨T,b,g,rfl,hfr3,hTab,hT0,hn⟩
 have HF3:=Hd hfr3
 have HTab:=Hd hTab
 clear hfr3 hTab hn
 go_wp2_with fail
 refine(encNew_calls _).mono ?_
 rintro e w4 ⟨rfl,hfr4,hE⟩
 have HF4:=Hd hfr4
 have HE:=Hd hE
 clear hfr4 hE
 have FIN:=Hd (show Fr (fun _=>False) w (w4.alloc (.cells #[ptr T,ptr w1.heap.size,ptr w3.heap.size] 128))∧EncAt (w4.alloc (.cells #[ptr T,ptr w1.heap.size,ptr w3.heap.size] 128)) w4.heap.size T w1.heap.size w3.heap.size b g∧w.heap.size≤w4.heap.size from by
  have hf5:=(Fr.refl (fun _=>False) w4).alloc (.cells #[ptr T,ptr w1.heap.size,ptr w3.heap.size] 128)
  have h45:=HF4.out.trans hf5
  have h35:=HF3.out.trans h45
  have hs:=((HF1.out.trans HF2.out).trans HF3.out).trans HF4.out
  refine⟨hs.trans hf5,⟨heap_alloc_new _ _,⟨h45.keep HTab.out.box (fun h=>h),fun j hj=>(HTab.out.set j hj).keep h45,HTab.out.inj⟩,HW2.out.keep h35 (fun h=>h) (fun _ _ h=>h),hf5.keep HE.out (fun h=>h)⟩,hs.size⟩)
 go_wp2_with fail
 go_ret2
 exact⟨FIN.out.1,_,_,_,_,_,_,rfl,FIN.out.2.2,FIN.out.2.1⟩
end Enc
namespace Enc
open Mem Win Lz St
def TabForks:Prop:=∀(T lc lp pb:Nat)(b g:Nat→Nat)(s:S)(ps:Nat→List Nat)(w:World),Tab w T b g lc lp pb s ps→(∀j,j<18→(ps j).length≤1048576)→Calls Tryz.prog 106 #[ptr T] w (NewP w)
theorem fresh_small(j:Nat)(h:j<18):(fresh 3 0 j).length≤1048576:=by
 have h2:∀j,j<18→(fresh 3 0 j).length≤1048576:=by
  unfold fresh
  simp only[List.length_replicate]
  decide
 exact h2 j h
def Forked(w:World)(e:Ending)(w':World):Prop:=∃D T W E rv,e=.returned (ptr D)∧Fr (fun _=>False) w w'∧w.heap.size≤D∧w'.heap[D]? =some (.cells #[ptr T,ptr W,ptr E] 128 (0,0))∧At w' W rv 4096 [] [] 0∧w.heap.size≤W∧∀k,rv.ownBlock=some k→w.heap.size≤k
set_option maxRecDepth 100000 in
theorem efork_calls(TF:TabForks){w:World}{D T W E:Nat}{b g:Nat→Nat}(h:EncAt w D T W E b g):Calls Tryz.prog 61 #[ptr D] w (Forked w):=by
 have HH:=Hd h
 have HR:=Hd ((Fr.refl (fun _=>False) w).drew)
 have HS:=Hd (show∀w':World,Fr (fun _=>False) w w'→w'.cell? ⟨D,0,none⟩=some (ptr T)∧w'.cell? ⟨D,1,none⟩=some (ptr W)∧w'.cell? ⟨D,2,none⟩=some (ptr E) from fun w' hf=>
  ⟨cell_in (i:=0) (hf.keep h.d (fun h=>h)) rfl,cell_in (i:=1) (hf.keep h.d (fun h=>h)) rfl,cell_in (i:=2) (hf.keep h.d (fun h=>h)) rfl⟩)
 have HK0:=Hd (show∀w':World,Fr (fun _=>False) w w'→Calls Tryz.prog 106 #[ptr T] w' (NewP w') from fun w' hf=>
  TF T 3 0 2 b g S.new (fresh 3 0) w' ⟨hf.keep h.tab.box (fun h=>h),fun j hj=>(h.tab.set j hj).keep hf,h.tab.inj⟩ fresh_small)
 have HK1:=Hd (show∀w':World,Fr (fun _=>False) w w'→Calls Tryz.prog 107 #[ptr W] w' (fun e w''=>∃b' rv',e=.returned (.pointer (some ⟨b',0,none⟩))∧Fr (fun _=>False) w' w''∧w'.heap.size≤b'∧At w'' b' rv' 4096 [] [] 0∧(∀k,rv'.ownBlock=some k→w'.heap.size≤k)) from fun w' hf=>
  winFork_calls W 4096 0 (.slice none 0 0) [] [] w' (h.win.keep hf (fun h=>h) (fun _ _ h=>h)) (by decide))
 have HK2:=Hd (show∀w':World,Fr (fun _=>False) w w'→Calls Tryz.prog 108 #[ptr E] w' (NewP w') from fun w' hf=>encFork_calls E w' (hf.keep h.rc (fun h=>h)))
 have HSC:=Hd (HS.out w.drew HR.out)
 obtain⟨c0,c1,c2⟩:=HS.out w (Fr.refl _ _)
 clear h
 go_enter Tryz.func61,Tryz.ntmps61
 go_wp2_with fail
 have HWN:=Hd (show∀w':World,Fr (fun _=>False) w.drew w'→True from fun _ _=>trivial)
 go_region_held3 (fun w'=>w'.cell? ⟨D,0,none⟩=some (ptr T)∧w'.cell? ⟨D,1,none⟩=some (ptr W)∧w'.cell? ⟨D,2,none⟩=some (ptr E)) (first|with_reducible exact HSC.out|with_reducible exact HS.out _ HR.out|with_reducible exact HS.out _ (HR.out.alloc _)) ((first
  | (go_at_call 106
     with_reducible refine(HK0.out _ HR.out).mono ?_
     rintro e wc ⟨bT,rfl,hfrc,_⟩
     have HR:=Hd (HR.out.trans hfrc)
     have HSC:=Hd (HS.out _ HR.out)
     obtain⟨c0,c1,c2⟩:=HSC.out
     have HWN:=Hd (fun(w':World)(hf:Fr (fun _=>False) wc w')=>HWN.out w' (hfrc.trans hf))
     clear hfrc)
  | (go_at_call 108
     with_reducible refine(HK2.out _ HR.out).mono ?_
     rintro e wc ⟨bE,rfl,hfrc,_⟩
     have HR:=Hd (HR.out.trans hfrc)
     have HSC:=Hd (HS.out _ HR.out)
     obtain⟨c0,c1,c2⟩:=HSC.out
     have HWN:=Hd (fun(w':World)(hf:Fr (fun _=>False) wc w')=>HWN.out w' (hfrc.trans hf))
     clear hfrc)
  | (go_at_call 107
     with_reducible refine(HK1.out _ HR.out).mono ?_
     rintro e wc ⟨bW,rvW,rfl,hfrc,hbW,hAt,hrvW⟩
     have hw0:=HR.out.size
     have HR:=Hd (HR.out.trans hfrc)
     have HSC:=Hd (HS.out _ HR.out)
     obtain⟨c0,c1,c2⟩:=HSC.out
     have HWN:=Hd (show∀w':World,Fr (fun _=>False) wc w'→At w' bW rvW 4096 [] [] 0∧w.heap.size≤bW∧∀k,rvW.ownBlock=some k→w.heap.size≤k from fun w' hf=>⟨hAt.keep hf (fun h=>h) (fun _ _ h=>h),Nat.le_trans hw0 hbW,fun k hk=>Nat.le_trans hw0 (hrvW k hk)⟩)
     clear hfrc hbW hAt hrvW hw0)))
 all_goals go_wp2_with fail
 all_goals go_ret
 all_goals
  have hfa:=(Fr.refl (fun _=>False) wc).alloc (.cells #[ptr bT,ptr bW,ptr bE] 128)
  exact⟨_,_,_,_,rvW,rfl,HR.out.trans hfa,HR.out.size,heap_alloc_new _ _,(HWN.out _ hfa).1,(HWN.out wc (Fr.refl _ _)).2⟩
theorem eraw_calls(D T W E:Nat)(rv v:Value)(b:List UInt8)(w:World)(hd:w.heap[D]? =some (.cells #[ptr T,ptr W,ptr E] 128 (0,0)))(hw:At w W rv 4096 [] [] 0)(hb:Rd w v b)(hap:0<b.length→∀k,v.ownBlock=some k→rv.ownBlock≠some k)(hl:b.length≤1048576):
 Calls Tryz.prog 62 #[ptr D,v] w fun e w'=>e=.returned (.tuple #[])∧Fr (fun k=>k=W∨rv.ownBlock=some k) w w':=by
 have c1:w.cell? ⟨D,1,none⟩=some (ptr W):=cell_in hd rfl
 have HP:=Hd (put_calls W 4096 0 rv v [] [] b w hw hb hap (by simp only[List.length_nil];omega))
 clear hd hw hb hap hl
 go_enter Tryz.func62,Tryz.ntmps62
 go_wp2_with fail
 refine HP.out.mono ?_
 rintro e w2 ⟨rfl,rv',ring',t',hfr,_⟩
 have HF:=Hd hfr
 clear hfr
 go_wp2_with fail
 go_end0
 exact⟨rfl,HF.out⟩
end Enc
namespace Enc
open Mem Win Lz St
def rowK(k:Nat):Nat:=if k<7 then k else k+8
def offK(k:Nat):Nat:=if k<7 then 8+k else 16+k
def updN(c:Nat→Nat)(j q:Nat):Nat→Nat:=fun i=>if i=j then q else c i
theorem tab_off(lc lp pb:Nat)(s:S)(c:Nat→Nat):∀k,k<10→(tabV lc lp pb s c)[offK k]? =some (.pointer (some ⟨c (rowK k),0,none⟩))
 |0,_=>rfl
 |1,_=>rfl
 |2,_=>rfl
 |3,_=>rfl
 |4,_=>rfl
 |5,_=>rfl
 |6,_=>rfl
 |7,_=>rfl
 |8,_=>rfl
 |9,_=>rfl
theorem tab_set(lc lp pb:Nat)(s:S)(c:Nat→Nat)(q:Nat):∀k,k<10→(tabV lc lp pb s c).setIfInBounds (offK k) (.pointer (some ⟨q,0,none⟩))=tabV lc lp pb s (updN c (rowK k) q)
 |0,_=>rfl
 |1,_=>rfl
 |2,_=>rfl
 |3,_=>rfl
 |4,_=>rfl
 |5,_=>rfl
 |6,_=>rfl
 |7,_=>rfl
 |8,_=>rfl
 |9,_=>rfl
def ptrsF(F:Nat):Array Value:=#[.pointer (some ⟨F,8,none⟩),.pointer (some ⟨F,9,none⟩),.pointer (some ⟨F,10,none⟩),.pointer (some ⟨F,11,none⟩),.pointer (some ⟨F,12,none⟩),.pointer (some ⟨F,13,none⟩),.pointer (some ⟨F,14,none⟩),.pointer (some ⟨F,23,none⟩),.pointer (some ⟨F,24,none⟩),.pointer (some ⟨F,25,none⟩)]
theorem ptrs_at(F:Nat):∀k,k<10→(ptrsF F)[k]? =some (.pointer (some ⟨F,offK k,none⟩))
 |0,_=>rfl
 |1,_=>rfl
 |2,_=>rfl
 |3,_=>rfl
 |4,_=>rfl
 |5,_=>rfl
 |6,_=>rfl
 |7,_=>rfl
 |8,_=>rfl
 |9,_=>rfl
theorem rowK_inj{k j:Nat}(h:rowK k=rowK j):k=j:=by
 unfold rowK at h
 split at h<;>split at h<;>omega
theorem fr4{F:Nat}{w0 wc:World}(h:Fr (fun i=>i=F) w0 wc)(i j k l:Nat)(a b c d:Value):Fr (fun i=>i=F) w0 ((((wc.setCell ⟨F,i,none⟩ a).setCell ⟨F,j,none⟩ b).setCell ⟨F,k,none⟩ c).setCell ⟨F,l,none⟩ d):=(((h.setCell (.inl rfl) _).setCell (.inl rfl) _).setCell (.inl rfl) _).setCell (.inl rfl) _
theorem rowK_lt{k:Nat}(h:k<10):rowK k<18:=by
 unfold rowK
 split<;>omega
set_option maxRecDepth 100000 in
theorem tabFork_calls(T lc lp pb:Nat)(b g:Nat→Nat)(s:S)(ps:Nat→List Nat)(w:World)(hT:Tab w T b g lc lp pb s ps)(hl:∀j,j<18→(ps j).length≤1048576):
 Calls Tryz.prog 106 #[ptr T] w (NewP w):=by
 have HTB:=Hd hT
 have HL:=Hd hl
 have hlT:=lt_of_block hT.box
 have HBX:=Hd hT.box
 clear hT hl
 have hsz:(tabV lc lp pb s b).size=26:=rfl
 have hst:(storeCells ⟨w.heap.size,0,none⟩ (tabV lc lp pb s b).toList).run Tryz.prog (w.alloc (.cells #[.int .i64 0,.int .i64 0,.int .i64 0,.int .i64 0,.int .i64 0,.int .i64 0,.int .i64 0,.int .i64 0,.pointer none,.pointer none,.pointer none,.pointer none,.pointer none,.pointer none,.pointer none,.pointer none,.pointer none,.pointer none,.pointer none,.pointer none,.pointer none,.pointer none,.pointer none,.pointer none,.pointer none,.pointer none] 188))=.ok () (w.alloc (.cells (tabV lc lp pb s b) 188)):=run_storeCells_new w _ #[.int .i64 0,.int .i64 0,.int .i64 0,.int .i64 0,.int .i64 0,.int .i64 0,.int .i64 0,.int .i64 0,.pointer none,.pointer none,.pointer none,.pointer none,.pointer none,.pointer none,.pointer none,.pointer none,.pointer none,.pointer none,.pointer none,.pointer none,.pointer none,.pointer none,.pointer none,.pointer none,.pointer none,.pointer none] (tabV lc lp pb s b) (by kernel_rfl) rfl (by simp[tabV,Value.oneCell'])
 go_enter Tryz.func106,Tryz.ntmps106
 go_wp2_with (first
  |(with_reducible refine wpList_load_row rfl 188 _ rfl T rfl 188 (tabV lc lp pb s b) (0,0) _ HBX.out Tryz.underlying188 rfl ?_ ?_;kernel_rfl))
 have hF0:=((Fr.refl (fun _=>False) w).alloc (.cells (tabV lc lp pb s b) 188)).alloc (.cells (ptrsF w.heap.size) 258)
 have hx0:=((Fr.refl (fun _=>False) (w.alloc (.cells (tabV lc lp pb s b) 188))).alloc (.cells (ptrsF w.heap.size) 258)).keep (heap_alloc_new w (.cells (tabV lc lp pb s b) 188)) (fun h=>h)
 have hy0:=heap_alloc_new (w.alloc (.cells (tabV lc lp pb s b) 188)) (.cells (ptrsF w.heap.size) 258)
 rw[World.size_alloc] at hy0
 go_loopw [5,21] (fun _ i wr=>∃(k:Nat)(c:Nat→Nat),k≤10∧i=.int .i64 k∧Fr (fun _=>False) w wr∧wr.heap[w.heap.size]? =some (.cells (tabV lc lp pb s c) 188 (0,0))∧wr.heap[w.heap.size+1]? =some (.cells (ptrsF w.heap.size) 258 (0,0))∧∀j,k≤j→c (rowK j)=b (rowK j)) (fun _ i _=>10-(intOf i).toNat)
 case atStart=>exact⟨0,b,by omega,rfl,hF0,hx0,hy0,fun _ _=>rfl⟩
 case round=>
  obtain⟨k,c,hk,rfl,hfr,hF,hG,hcb⟩:=hrel
  by_cases hlt:k<10
  ·have g0:=cell_in hG (ptrs_at w.heap.size k hlt)
   have f0:=cell_in hF (tab_off lc lp pb s c k hlt)
   rw[hcb k (Nat.le_refl _)] at f0
   have HK:=Hd (setFork_calls _ _ _ wr ((HTB.out.set (rowK k) (rowK_lt hlt)).keep hfr) (HL.out _ (rowK_lt hlt)))
   have HFR:=Hd hfr
   have HF:=Hd hF
   have HG:=Hd hG
   clear hfr hF hG hst hF0 hx0 hy0
   go_wp2_with fail
   refine HK.out.mono ?_
   rintro e w2 ⟨q,rfl,hfr2,hq⟩
   have hF2:=hfr2.keep HF.out (fun h=>h)
   have z0:=cell_in hF2 (tab_off lc lp pb s c k hlt)
   have zf:=frozen_in hF2 (offK k)
   have HF2:=Hd hF2
   have HFR2:=Hd hfr2
   clear hF2 hfr2
   go_wp2_with fail
   go_roundw
   case rel=>
    refine⟨k+1,updN c (rowK k) q,by omega,by go_num,(HFR.out.trans HFR2.out).setCell (.inr (Nat.le_refl _)) _,?_,?_,fun j hj=> ?_⟩
    ·rw[set_in HF2.out,tab_set lc lp pb s c q k hlt]
    ·exact((Fr.refl (fun i=>i=w.heap.size) w2).setCell (.inl rfl) _).keep (HFR2.out.keep HG.out (fun h=>h)) (by omega)
    ·unfold updN
     rw[if_neg (fun e=>by have:=rowK_inj e;omega)]
     exact hcb j (by omega)
   case measure=>simp[intOf];omega
  ·obtain rfl:k=10:=by omega
   have hT1:=hfr.keep HBX.out (fun h=>h)
   have HS:=Hd (show∀w':World,Fr (fun i=>i=w.heap.size) wr w'→w'.cell? ⟨T,15,none⟩=some (.pointer (some ⟨b 7,0,none⟩))∧w'.cell? ⟨T,16,none⟩=some (.pointer (some ⟨b 8,0,none⟩))∧w'.cell? ⟨T,17,none⟩=some (.pointer (some ⟨b 9,0,none⟩))∧w'.cell? ⟨T,18,none⟩=some (.pointer (some ⟨b 10,0,none⟩))∧w'.cell? ⟨T,19,none⟩=some (.pointer (some ⟨b 11,0,none⟩))∧w'.cell? ⟨T,20,none⟩=some (.pointer (some ⟨b 12,0,none⟩))∧w'.cell? ⟨T,21,none⟩=some (.pointer (some ⟨b 13,0,none⟩))∧w'.cell? ⟨T,22,none⟩=some (.pointer (some ⟨b 14,0,none⟩)) from fun w' h=>⟨cell_in (i:=15) (h.keep hT1 (by omega)) rfl,cell_in (i:=16) (h.keep hT1 (by omega)) rfl,cell_in (i:=17) (h.keep hT1 (by omega)) rfl,cell_in (i:=18) (h.keep hT1 (by omega)) rfl,cell_in (i:=19) (h.keep hT1 (by omega)) rfl,cell_in (i:=20) (h.keep hT1 (by omega)) rfl,cell_in (i:=21) (h.keep hT1 (by omega)) rfl,cell_in (i:=22) (h.keep hT1 (by omega)) rfl⟩)
   have HLF:=Hd (show∀(w':World)(m:Nat),(m=7∨m=11)→Fr (fun i=>i=w.heap.size) wr w'→∀x,x=b m∨x=b (m+1)∨x=b (m+2)∨x=b (m+3)→∃g ps,Prob.SetAt w' x g ps∧ps.length≤1048576 from fun w' m hm h x hx=>by
    have hfw:=hfr.trans' h (fun i hi(e:i=w.heap.size)=>by omega)
    rcases hx with rfl|rfl|rfl|rfl
    ·exact⟨_,_,(HTB.out.set m (by omega)).keep hfw,HL.out _ (by omega)⟩
    ·exact⟨_,_,(HTB.out.set (m+1) (by omega)).keep hfw,HL.out _ (by omega)⟩
    ·exact⟨_,_,(HTB.out.set (m+2) (by omega)).keep hfw,HL.out _ (by omega)⟩
    ·exact⟨_,_,(HTB.out.set (m+3) (by omega)).keep hfw,HL.out _ (by omega)⟩)
   have HFR:=Hd hfr
   have HF:=Hd hF
   have HR:=Hd (Fr.refl (fun i=>i=w.heap.size) wr)
   obtain⟨c0,c1,c2,c3,c4,c5,c6,c7⟩:=HS.out wr HR.out
   clear hfr hF hG hst hF0 hx0 hy0 hT1
   go_wp2_with fail
   have HSC:=Hd (HS.out _ (HR.out.drew))
   obtain⟨c0,c1,c2,c3,c4,c5,c6,c7⟩:=HSC.out
   have HR:=Hd HR.out.drew
   have HF:=Hd ((Fr.refl (fun _=>False) wr).drew.keep HF.out (fun h=>h))
   go_region_held3 (fun w'=>w'.cell? ⟨T,15,none⟩=some (.pointer (some ⟨b 7,0,none⟩))∧w'.cell? ⟨T,16,none⟩=some (.pointer (some ⟨b 8,0,none⟩))∧w'.cell? ⟨T,17,none⟩=some (.pointer (some ⟨b 9,0,none⟩))∧w'.cell? ⟨T,18,none⟩=some (.pointer (some ⟨b 10,0,none⟩))∧w'.cell? ⟨T,19,none⟩=some (.pointer (some ⟨b 11,0,none⟩))∧w'.cell? ⟨T,20,none⟩=some (.pointer (some ⟨b 12,0,none⟩))∧w'.cell? ⟨T,21,none⟩=some (.pointer (some ⟨b 13,0,none⟩))∧w'.cell? ⟨T,22,none⟩=some (.pointer (some ⟨b 14,0,none⟩))) (first|with_reducible exact HSC.out|with_reducible exact HS.out _ HR.out|with_reducible exact HS.out _ (fr4 HR.out _ _ _ _ _ _ _ _)|with_reducible exact HS.out _ (fr4 (fr4 HR.out _ _ _ _ _ _ _ _) _ _ _ _ _ _ _ _)) ((first
    | (go_at_call 157
       first
        |(with_reducible refine(lenFork_calls (b 7) (b 8) (b 9) (b 10) _ (HLF.out _ 7 (.inl rfl) HR.out)).mono ?_)
        |(with_reducible refine(lenFork_calls (b 11) (b 12) (b 13) (b 14) _ (HLF.out _ 11 (.inr rfl) HR.out)).mono ?_)
       rintro e wc ⟨q0,q1,q2,q3,rfl,hfrc⟩
       have HR:=Hd (HR.out.trans (hfrc.mono (fun _ _ h=>h.elim)))
       have HSC:=Hd (HS.out _ HR.out)
       obtain⟨c0,c1,c2,c3,c4,c5,c6,c7⟩:=HSC.out
       have HF:=Hd (hfrc.keep HF.out (fun h=>h))
       have y0:wc.cell? ⟨w.heap.size,15,none⟩=some (.pointer (some ⟨c 7,0,none⟩)):=cell_in (i:=15) HF.out rfl
       have y1:wc.cell? ⟨w.heap.size,16,none⟩=some (.pointer (some ⟨c 8,0,none⟩)):=cell_in (i:=16) HF.out rfl
       have y2:wc.cell? ⟨w.heap.size,17,none⟩=some (.pointer (some ⟨c 9,0,none⟩)):=cell_in (i:=17) HF.out rfl
       have y3:wc.cell? ⟨w.heap.size,18,none⟩=some (.pointer (some ⟨c 10,0,none⟩)):=cell_in (i:=18) HF.out rfl
       have y4:wc.cell? ⟨w.heap.size,19,none⟩=some (.pointer (some ⟨c 11,0,none⟩)):=cell_in (i:=19) HF.out rfl
       have y5:wc.cell? ⟨w.heap.size,20,none⟩=some (.pointer (some ⟨c 12,0,none⟩)):=cell_in (i:=20) HF.out rfl
       have y6:wc.cell? ⟨w.heap.size,21,none⟩=some (.pointer (some ⟨c 13,0,none⟩)):=cell_in (i:=21) HF.out rfl
       have y7:wc.cell? ⟨w.heap.size,22,none⟩=some (.pointer (some ⟨c 14,0,none⟩)):=cell_in (i:=22) HF.out rfl
       have yf:=fun i=>frozen_in HF.out i
       clear hfrc)))
   go_wp2_with fail
   go_ret
   exact⟨w.heap.size,rfl,HFR.out.trans' (fr4 (fr4 HR.out _ _ _ _ _ _ _ _) _ _ _ _ _ _ _ _) (fun i hi e=>by omega),Nat.le_refl _⟩
end Enc
namespace Enc
open Mem Win Lz St
theorem tabForks:TabForks:=fun T lc lp pb b g s ps w h hl=>tabFork_calls T lc lp pb b g s ps w h hl
abbrev abc:List UInt8:=[97,98,99]
abbrev packV(g D:Nat)(out:Value)(x y z:Bool):Array Value:=#[.int .i64 0,.int .i64 0,.int .i64 3,.int .i64 0,.int .i64 2,.int .i64 4096,.int .i64 0,.int .i64 0,.slice (some ⟨g,0,none⟩) 3 3,ptr D,.int .i64 0,.int .i64 1,.int .i64 1,.int .i64 1,.int .i64 1,out,.bool x,.bool y,.bool z]
abbrev resV(g D:Nat):Array Value:=#[.int .i64 1,.int .i64 3,.int .i64 3,.int .i64 0,.int .i64 0,.int .i64 0,.slice (some ⟨g,0,none⟩) 3 3,ptr D,.int .i64 0,.int .i64 1,.int .i64 1,.int .i64 1,.int .i64 1]
structure Pk(w:World)(P g D T W E:Nat)(b r:Nat→Nat):Prop where
 box:w.heap[P]? =some (.cells (packV g D (.slice none 0 0) false false false) 74 (0,0))
 enc:EncAt w D T W E b r
 rd:Rd w (.slice (some ⟨g,0,none⟩) 3 3) abc
theorem Pk.keep{w w':World}{P g D T W E:Nat}{b r:Nat→Nat}(h:Pk w P g D T W E b r)(hf:Fr (fun _=>False) w w'):Pk w' P g D T W E b r:=
 ⟨hf.keep h.box (fun h=>h),⟨hf.keep h.enc.d (fun h=>h),⟨hf.keep h.enc.tab.box (fun h=>h),fun j hj=>(h.enc.tab.set j hj).keep hf,h.enc.tab.inj⟩,h.enc.win.keep hf (fun h=>h) (fun _ _ h=>h),hf.keep h.enc.rc (fun h=>h)⟩,h.rd.keep hf⟩
theorem Pk.lt{w:World}{P g D T W E:Nat}{b r:Nat→Nat}(h:Pk w P g D T W E b r):g<w.heap.size:=by
 obtain⟨p,cap,e,_,_,h3⟩:=h.rd
 obtain⟨b,o,rfl,hc⟩:=h3 (by decide)
 have h1:=hc 0 97 rfl
 simp only[Value.slice.injEq,Option.some.injEq,Addr.mk.injEq] at e
 obtain⟨⟨rfl,rfl,_⟩,_⟩:=e
 exact block_lt_of_cell h1
theorem praw_calls{w:World}{P g D T W E:Nat}{b r:Nat→Nat}(h:Pk w P g D T W E b r):Calls Tryz.prog 27 #[ptr P,.int .i64 0,.int .i64 3] w fun e w'=>Fr (fun _=>False) w w'∧∃R D',e=.returned (ptr R)∧w.heap.size≤R∧w'.heap[R]? =some (.cells (resV g D') 134 (0,0)):=by
 have c8:w.cell? ⟨P,8,none⟩=some (.slice (some ⟨g,0,none⟩) 3 3):=cell_in h.box rfl
 have c9:w.cell? ⟨P,9,none⟩=some (ptr D):=cell_in h.box rfl
 have c16:w.cell? ⟨P,16,none⟩=some (.bool false):=cell_in h.box rfl
 have hsl:∀W:World,(Instr.slice 22 (.slice (some ⟨g,0,none⟩) 3 3) (some (.int .i64 0)) (some (.int .i64 3)) none).run Tryz.prog W=.ok (.slice (some ⟨g,0,none⟩) 3 3) W:=by
  intro W
  have:=slice_lhI (some ⟨g,0,none⟩) 3 3 0 3 0 3 rfl rfl (by omega) (by omega) W
  rw[Wire.dropP_zero] at this
  exact this
 have HFK:=Hd (efork_calls tabForks h.enc)
 have HH:=Hd h
 have HLT:=Hd h.lt
 clear h
 go_enter Tryz.func27,Tryz.ntmps27
 go_wp2_with fail
 refine HFK.out.mono ?_
 rintro e w2 ⟨D',T',W',E',rv,rfl,hfr2,hD,hd,hw,hW0,hrv0⟩
 have HR:=Hd (eraw_calls D' T' W' E' rv (.slice (some ⟨g,0,none⟩) 3 3) abc w2 hd hw (HH.out.rd.keep hfr2) (fun _ k hk hk2=>by
  have h1:=hrv0 k hk2
  have h2:=HLT.out
  simp only[Value.ownBlock,Option.some.injEq] at hk
  omega) (by decide))
 have HF2:=Hd hfr2
 have HN:=Hd hW0
 have HN2:=Hd hrv0
 clear hfr2 hd hw hW0 hrv0
 go_wp2_with fail
 refine HR.out.mono ?_
 rintro e w3 ⟨rfl,hfr3⟩
 have hf3:=HF2.out.trans' hfr3 (fun k h1 h2=>by
  rcases h2 with h2|h2
  ·have:=HN.out
   omega
  ·have:=HN2.out k h2
   omega)
 have hbx:=hf3.keep HH.out.box (fun h=>h)
 have d10:=cell_in (i:=10) hbx rfl
 have d11:=cell_in (i:=11) hbx rfl
 have d12:=cell_in (i:=12) hbx rfl
 have d13:=cell_in (i:=13) hbx rfl
 have d14:=cell_in (i:=14) hbx rfl
 have HF3:=Hd hf3
 clear hfr3 hf3 hbx
 go_wp2_with fail
 go_ret
 exact⟨HF3.out.alloc _,w3.heap.size,D',rfl,HF3.out.size,heap_alloc_new _ _⟩
theorem ptried_calls{w:World}{P g D T W E:Nat}{b r:Nat→Nat}(h:Pk w P g D T W E b r):Calls Tryz.prog 28 #[ptr P,.int .i64 0,.int .i64 3] w fun e w'=>e=.returned (.pointer none)∧w=w':=by
 have c7:w.cell? ⟨P,7,none⟩=some (.int .i64 0):=cell_in h.box rfl
 clear h
 go_enter Tryz.func28,Tryz.ntmps28
 go_wp2_with fail
 go_ret
 exact⟨rfl,rfl⟩
end Enc
end Go.Proofs.YtlgccpjccopdmaaGreatDoor
