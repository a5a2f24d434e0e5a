/- Part 43 of 53: lemmas of the last part, each under the conditions that it names. -/
import Derived.Deep.RegionLaw
import Derived.Laws.BytesArg
import Derived.Lib.SlBytesConst
import Derived.Test.YtlgccpjccopdmaaGreatDoorRows
import Derived.Lib.LaidTab
import Derived.Stop.LaidErr
import Derived.Deep.Slices
import Derived.Deep.Fields
import Derived.ChangeSame
import Derived.Test.YtlgccpjccopdmaaGreatDoorP01
import Derived.Test.YtlgccpjccopdmaaGreatDoorP23
import Derived.Test.YtlgccpjccopdmaaGreatDoorP31
import Derived.Test.YtlgccpjccopdmaaGreatDoorP42
set_option linter.unusedVariables false
set_option linter.unusedSimpArgs false
set_option maxRecDepth 1500
set_option maxHeartbeats 4000000
namespace Go.Proofs.YtlgccpjccopdmaaGreatDoor
open Go.RowKit
namespace Enc
open Mem Win Lz St
abbrev waysV(P:Nat):Array Value:=#[.func (.func 27) #[ptr P] #[],.func (.func 28) #[ptr P] #[]]
theorem own_off{w:World}{T T':TypeId}{v:Value}{n:Nat}{xs:List Value}(h:w.ownsRow 0 T 1 v n xs){R:Nat}{cs:Array Value}{fr:Nat×Nat}(hR:w.heap[R]? =some (.cells cs T' fr))(hT:T'≠T):∀k,v.ownBlock=some k→k≠R:=by
 intro k hk
 rcases h.2 with⟨rfl,_⟩|⟨g2,cap,cur,rfl,_,hg2,_⟩
 ·simp[Value.ownBlock] at hk
 ·simp only[Value.ownBlock,Option.some.injEq] at hk
  subst hk
  rintro rfl
  rw[hR] at hg2
  simp only[Option.some.injEq,Obj.cells.injEq] at hg2
  exact hT hg2.2.1
def eight(W7:World)(P D':Nat):World:=((((((W7.setCell ⟨P,9,none⟩ (ptr D')).setCell ⟨P,10,none⟩ (.int .i64 0)).setCell ⟨P,11,none⟩ (.int .i64 1)).setCell ⟨P,12,none⟩ (.int .i64 1)).setCell ⟨P,13,none⟩ (.int .i64 1)).setCell ⟨P,14,none⟩ (.int .i64 1)).drew
theorem eight_eq(W7:World)(P D':Nat):eight W7 P D'=((((((W7.setCell ⟨P,9,none⟩ (ptr D')).setCell ⟨P,10,none⟩ (.int .i64 0)).setCell ⟨P,11,none⟩ (.int .i64 1)).setCell ⟨P,12,none⟩ (.int .i64 1)).setCell ⟨P,13,none⟩ (.int .i64 1)).setCell ⟨P,14,none⟩ (.int .i64 1)).drew:=rfl
theorem eight_fr(W7:World)(P D':Nat):Fr (fun k=>k=P) W7 (eight W7 P D'):=((((((Fr.one W7 P 9 _).trans (Fr.one _ P 10 _)).trans (Fr.one _ P 11 _)).trans (Fr.one _ P 12 _)).trans (Fr.one _ P 13 _)).trans (Fr.one _ P 14 _)).drew
theorem eight_in{W7:World}{P g D:Nat}{out:Value}(D':Nat)(h:W7.heap[P]? =some (.cells (packV g D out false false false) 74 (0,0))):(eight W7 P D').heap[P]? =some (.cells (packV g D' out false false false) 74 (0,0)):=by
 have q0:(W7.setCell ⟨P,9,none⟩ (ptr D')).heap[P]? =some (.cells (packV g D' out false false false) 74 (0,0)):=(set_in h 9 (ptr D')).trans rfl
 have q1:((W7.setCell ⟨P,9,none⟩ (ptr D')).setCell ⟨P,10,none⟩ (.int .i64 0)).heap[P]? =some (.cells (packV g D' out false false false) 74 (0,0)):=(set_in q0 10 (.int .i64 0)).trans rfl
 have q2:(((W7.setCell ⟨P,9,none⟩ (ptr D')).setCell ⟨P,10,none⟩ (.int .i64 0)).setCell ⟨P,11,none⟩ (.int .i64 1)).heap[P]? =some (.cells (packV g D' out false false false) 74 (0,0)):=(set_in q1 11 (.int .i64 1)).trans rfl
 have q3:((((W7.setCell ⟨P,9,none⟩ (ptr D')).setCell ⟨P,10,none⟩ (.int .i64 0)).setCell ⟨P,11,none⟩ (.int .i64 1)).setCell ⟨P,12,none⟩ (.int .i64 1)).heap[P]? =some (.cells (packV g D' out false false false) 74 (0,0)):=(set_in q2 12 (.int .i64 1)).trans rfl
 have q4:(((((W7.setCell ⟨P,9,none⟩ (ptr D')).setCell ⟨P,10,none⟩ (.int .i64 0)).setCell ⟨P,11,none⟩ (.int .i64 1)).setCell ⟨P,12,none⟩ (.int .i64 1)).setCell ⟨P,13,none⟩ (.int .i64 1)).heap[P]? =some (.cells (packV g D' out false false false) 74 (0,0)):=(set_in q3 13 (.int .i64 1)).trans rfl
 have q5:((((((W7.setCell ⟨P,9,none⟩ (ptr D')).setCell ⟨P,10,none⟩ (.int .i64 0)).setCell ⟨P,11,none⟩ (.int .i64 1)).setCell ⟨P,12,none⟩ (.int .i64 1)).setCell ⟨P,13,none⟩ (.int .i64 1)).setCell ⟨P,14,none⟩ (.int .i64 1)).heap[P]? =some (.cells (packV g D' out false false false) 74 (0,0)):=(set_in q4 14 (.int .i64 1)).trans rfl
 unfold eight
 exact(Fr.refl (fun _=>False) _).drew.keep q5 (fun h=>h)
def WRel(w:World)(P g:Nat)(best size i:Value)(wr:World):Prop:=
 (i=.int .i64 0∧best=.pointer none∧size=.int .i64 0∧wr=w)∨∃k R D',(k=1∨k=2)∧i=.int .i64 ((k:Nat):Int)∧best=ptr R∧size=.int .i64 6∧Fr (fun _=>False) w wr∧w.heap.size≤R∧wr.heap[R]? =some (.cells (resV g D') 134 (0,0))
set_option maxRecDepth 100000 in
theorem write_calls{w:World}{P g D T W E F:Nat}{b r:Nat→Nat}(h:Pk w P g D T W E b r)(hF:w.heap[F]? =some (.cells (waysV P) 131 (0,0))):
 Calls Tryz.prog 26 #[ptr P,.int .i64 0,.int .i64 3,.slice (some ⟨F,0,none⟩) 2 2] w fun e w'=>e=.returned (.tuple #[])∧Fr (fun k=>k=P) w w'∧∃p cap,w'.cell? ⟨P,15,none⟩=some (.slice p 6 cap)∧Mine w w' (.slice p 6 cap) ([1,0,2]++abc):=by
 have HH:=Hd h
 have HWY:=Hd hF
 have hPl:=lt_of_block h.box
 clear h hF
 go_enter Tryz.func26,Tryz.ntmps26
 go_wp2_with fail
 go_loopw [8,9,20] (fun best size i wr=>WRel w P g best size i wr) (fun _ _ i _=>2-(intOf i).toNat)
 case atStart=>exact .inl ⟨rfl,rfl,rfl,rfl⟩
 case round=>
  rcases hrel with⟨rfl,rfl,rfl,rfl⟩|⟨k,R,D',hk,rfl,rfl,rfl,hfr,hR0,hR⟩
  ·have f0:=cell_in (i:=0) HWY.out rfl
   have HRW:=Hd (praw_calls HH.out)
   go_wp2_with fail
   refine HRW.out.mono ?_
   rintro e w2 ⟨hfr2,R,D',rfl,hR0,hR⟩
   have HR2:=Hd hR
   have HF2:=Hd hfr2
   obtain⟨d0,d1,d2,d3,d4,d5⟩:=cs6 hR rfl rfl rfl rfl rfl rfl
   clear hfr2 hR
   go_wp2_with fail
   refine(hput_calls _).mono ?_
   rintro e w3 ⟨hfr3,ph,ch,rfl,hM3⟩
   have hR3:=hfr3.keep HR2.out (fun h=>h)
   have d6:=cell_in (i:=6) hR3 rfl
   have HR3:=Hd hR3
   have HF3:=Hd (HF2.out.trans hfr3)
   clear hfr3 hM3 hR3
   go_wp2_with fail
   go_roundw
   case rel=>exact .inr ⟨1,R,D',.inl rfl,rfl,rfl,by go_num,HF3.out,hR0,HR3.out⟩
   case measure=>simp[intOf]
  ·rcases hk with rfl|rfl
   ·have f1:=cell_in (i:=1) (hfr.keep HWY.out (fun h=>h)) rfl
    have HRW:=Hd (ptried_calls (HH.out.keep hfr))
    have HR2:=Hd hR
    have HF2:=Hd hfr
    clear hfr hR
    go_wp2_with fail
    refine HRW.out.mono ?_
    rintro e w2 ⟨rfl,rfl⟩
    go_wp2_with fail
    go_roundw
    case rel=>exact .inr ⟨2,R,D',.inr rfl,by go_num,rfl,rfl,HF2.out,hR0,HR2.out⟩
    case measure=>simp[intOf]
   ·obtain⟨d0,d1,d2,d3,d4,d5⟩:=cs6 hR rfl rfl rfl rfl rfl rfl
    have HR2:=Hd hR
    have HF2:=Hd hfr
    clear hfr hR
    go_wp2_with fail
    refine(hput_calls _).mono ?_
    rintro e w3 ⟨hfr3,ph,ch,rfl,hM3⟩
    have hR3:=hfr3.keep HR2.out (fun h=>h)
    have hP3:=(HF2.out.trans hfr3).keep HH.out.box (fun h=>h)
    have d6:=cell_in (i:=6) hR3 rfl
    have p15:=cell_in (i:=15) hP3 rfl
    have HR3:=Hd hR3
    have HP3:=Hd hP3
    have HF3:=Hd (HF2.out.trans hfr3)
    have HM3:=Hd hM3
    have HG3:=Hd (HH.out.rd.keep (HF2.out.trans hfr3))
    have HA0:=Hd (Acc.of_new (w0:=w) (w:=w3) (v:=.slice none 0 0) (xs:=[]) ⟨World.ownsRow_nil _ _ _ _,fun k hk=>by simp[Value.ownBlock] at hk⟩ (HF2.out.trans hfr3)).drew
    clear hfr3 hM3 hR3 hP3
    go_wp2_with fail
    have HR4:=Hd ((Fr.refl (fun _=>False) w3).drew.keep HR3.out (fun h=>h))
    have HP4:=Hd ((Fr.refl (fun _=>False) w3).drew.keep HP3.out (fun h=>h))
    have HRD1:=Hd (HM3.out.rd.keep (Fr.refl (fun _=>False) w3).drew)
    have HG4:=Hd (HG3.out.keep (Fr.refl (fun _=>False) w3).drew)
    go_region_law (first
     | (refine step_bytes rfl _ _ rfl (w0:=w) (.slice none 0 0) (.slice ph 3 ch) [] [1,0,2] (by simp [Act.eval,Act.put]) (by simp [Act.eval,Act.put]) HA0.out HRD1.out (by decide) ?_
        intro p2 cap2 n2 w2 hn2 hA2 hfr2
        obtain rfl:n2=3:=hn2
        have hf2:=hfr2.mono (T:=fun _=>False) (fun i _ h=>by simp[Value.ownBlock] at h)
        have HA2:=Hd hA2
        have hR5:=hf2.keep HR4.out (fun h=>h)
        have hP5:=hf2.keep HP4.out (fun h=>h)
        have d6:=cell_in (i:=6) hR5 rfl
        have HR5:=Hd hR5
        have HP5:=Hd hP5
        have HG5:=Hd (HG4.out.keep hf2)
        clear hA2 hfr2 hf2 hR5 hP5)
     | (refine step_bytes rfl _ _ rfl (w0:=w) (.slice p2 3 cap2) (.slice (some ⟨g,0,none⟩) 3 3) [1,0,2] abc (by simp [Act.eval,Act.put]) (by simp [Act.eval,Act.put]) HA2.out HG5.out (by decide) ?_
        intro p6 cap6 n6 w6 hn6 hA6 hfr6
        obtain rfl:n6=6:=hn6
        have hnw:=HA2.out.new
        have HA6:=Hd hA6
        have hR6:=hfr6.keep HR5.out (fun h=>own_off HA2.out.own HR5.out (by decide) R h rfl)
        have hP6:=hfr6.keep HP5.out (fun h=>by have:=hnw P h;omega)
        have q15:=cell_in (i:=15) hP6 rfl
        have qf:=frozen_in hP6 15
        have HR6:=Hd hR6
        have HP6:=Hd hP6
        clear hA6 hfr6 hR6 hP6 hnw))
    all_goals
     have hne:R≠P:=by omega
     have hP7:(w6.setCell ⟨P,15,none⟩ (.slice p6 6 cap6)).heap[P]? =some (.cells (packV g D (.slice p6 6 cap6) false false false) 74 (0,0)):=by
      rw[set_in HP6.out]
      rfl
     have hR7:=set_out (g:=P) (i:=15) HR6.out hne (.slice p6 6 cap6)
     have hF7:Fr (fun k=>k=P) w (w6.setCell ⟨P,15,none⟩ (.slice p6 6 cap6)):=(HA6.out.fr.mono (T:=fun k=>k=P) (fun _ _ h=>h.elim)).trans (Fr.one _ _ _ _)
     have hM7:Mine w (w6.setCell ⟨P,15,none⟩ (.slice p6 6 cap6)) (.slice p6 6 cap6) ([1,0,2]++abc):=
      ⟨own_step (S:=fun k=>k=P) HA6.out.own (Fr.one _ _ _ _) (fun k hk=>own_off HA6.out.own HP6.out (by decide) k hk),HA6.out.new⟩
     have HP7:=Hd hP7
     have HR7:=Hd hR7
     have HF7:=Hd hF7
     have HM7:=Hd hM7
     clear hP7 hR7 hF7 hM7 HP6 HR6 HA6 HP5 HR5 HG5 HA2 HR4 HP4 HRD1 HG4 HA0 HG3 HM3 HF3 HP3 HR3 HF2 HR2 q15 qf d6 p15 d0 d1 d2 d3 d4 d5
     generalize w6.setCell ⟨P,15,none⟩ (.slice p6 6 cap6)=W7 at*
     have HS:=Hd (show∀w':World,Fr (fun k=>k=P) W7 w'→w'.heap[R]? =some (.cells (resV g D') 134 (0,0)) from fun w' hf=>hf.keep HR7.out hne)
     have HPS:=Hd (show W7.drew.heap[P]? =some (.cells (packV g D (.slice p6 6 cap6) false false false) 74 (0,0)) from(Fr.refl (fun _=>False) W7).drew.keep HP7.out (fun h=>h))
     have HSC:=Hd (show∀w':World,Fr (fun k=>k=P) W7 w'→w'.cell? ⟨R,7,none⟩=some (ptr D')∧w'.cell? ⟨R,8,none⟩=some (.int .i64 0)∧w'.cell? ⟨R,9,none⟩=some (.int .i64 1)∧w'.cell? ⟨R,10,none⟩=some (.int .i64 1)∧w'.cell? ⟨R,11,none⟩=some (.int .i64 1)∧w'.cell? ⟨R,12,none⟩=some (.int .i64 1) from fun w' hf=>
      have h:=HS.out w' hf
      ⟨cell_in (i:=7) h rfl,cell_in (i:=8) h rfl,cell_in (i:=9) h rfl,cell_in (i:=10) h rfl,cell_in (i:=11) h rfl,cell_in (i:=12) h rfl⟩)
     have HR:=Hd ((Fr.refl (fun k=>k=P) W7).drew)
     obtain⟨e7,e8,e9,e10,e11,e12⟩:=HSC.out W7 (Fr.refl _ _)
     obtain⟨s7,s8,s9,s10,s11,s12⟩:=HSC.out W7.drew HR.out
     have y9:=cell_in (i:=9) HP7.out rfl
     have y10:=cell_in (i:=10) HP7.out rfl
     have y11:=cell_in (i:=11) HP7.out rfl
     have y12:=cell_in (i:=12) HP7.out rfl
     have y13:=cell_in (i:=13) HP7.out rfl
     have y14:=cell_in (i:=14) HP7.out rfl
     have yf:=fun i=>frozen_in HP7.out i
     go_wp2_with fail
     clear HSC
     go_region
     have hF8:Fr (fun k=>k=P) W7 (eight W7 P D'):=eight_fr W7 P D'
     have hP8:=eight_in D' HP7.out
     have hR8:=HS.out _ hF8
     have HP8:=Hd hP8
     have HR8:=Hd hR8
     have HF8:=Hd hF8
     clear hF8 hP8 hR8 e7 e8 e9 e10 e11 e12 s7 s8 s9 s10 s11 s12 y9 y10 y11 y12 y13 y14 yf HPS HR
     rw[←eight_eq]
     generalize eight W7 P D'=W8 at*
     have t0:=cell_in (i:=0) HR8.out rfl
     have t16:=cell_in (i:=16) HP8.out rfl
     have t17:=cell_in (i:=17) HP8.out rfl
     have t18:=cell_in (i:=18) HP8.out rfl
     have tf:=fun i=>frozen_in HP8.out i
     have hne2:P≠R:=fun h=>hne h.symm
     go_wp2_with fail
     go_end0
     have hlast:Fr (fun k=>k=P) W8 (((W8.setCell ⟨P,16,none⟩ (.bool true)).setCell ⟨P,17,none⟩ (.bool false)).setCell ⟨P,18,none⟩ (.bool false)):=((Fr.one W8 P 16 _).trans (Fr.one _ P 17 _)).trans (Fr.one _ P 18 _)
     have hrest:=HF8.out.trans hlast
     exact⟨rfl,HF7.out.trans hrest,p6,cap6,cell_in (set_in (set_in (set_in HP8.out 16 _) 17 _) 18 _) rfl,HM7.out.step hrest (fun k hk=>own_off HM7.out.own HP7.out (by decide) k hk)⟩
end Enc
namespace Enc
open Mem Win Lz St
theorem snew_calls(w:World):Calls Tryz.prog 25 #[] w fun e w'=>e=.returned (.agg #[.int .i64 0,.int .i64 1,.int .i64 1,.int .i64 1,.int .i64 1])∧Fr (fun _=>False) w w':=St.new_calls w
def ERel(w:World)(P:Nat)(i:Value)(wr:World):Prop:=
 (i=.int .i64 0∧wr=w)∨(i=.int .i64 65536∧Fr (fun k=>k=P) w wr∧∃p cap,wr.cell? ⟨P,15,none⟩=some (.slice p 6 cap)∧Mine w wr (.slice p 6 cap) ([1,0,2]++abc))
set_option maxRecDepth 100000 in
theorem encode_calls{w:World}{g:Nat}(h:Rd w (.slice (some ⟨g,0,none⟩) 3 3) abc):
 Calls Tryz.prog 8 #[.slice (some ⟨g,0,none⟩) 3 3,.agg conf3] w fun e w'=>Fr (fun _=>False) w w'∧∃p cap,e=.returned (.tuple #[.slice p 7 cap,.int .i64 0])∧Mine w w' (.slice p 7 cap) ([1,0,2]++abc++[0]):=by
 have HX:=Hd (heap_alloc_new w (.cells conf3 26))
 have HF:=Hd ((Fr.refl (fun _=>False) w).alloc (.cells conf3 26))
 have HRD:=Hd h
 have hmf:∀(fn:Fn)(first cap:Array Value)(w:World),(Instr.makeFunc fn first cap).run Tryz.prog w=.ok (.func fn first cap) w:=fun _ _ _ _=>rfl
 clear h
 go_enter Tryz.func8,Tryz.ntmps8
 go_wp2_with fail
 refine(good_calls _).mono ?_
 rintro e w1 ⟨rfl,hfr⟩
 have hx1:=hfr.keep HX.out (fun h=>h)
 have c2:=cell_in (i:=2) hx1 rfl
 have c3:=cell_in (i:=3) hx1 rfl
 have c4:=cell_in (i:=4) hx1 rfl
 have c5:=cell_in (i:=5) hx1 rfl
 have HX1:=Hd hx1
 have HF1:=Hd (HF.out.trans hfr)
 clear hfr hx1
 go_wp2_with fail
 refine(enew_calls _).mono ?_
 rintro e w2 ⟨hfr,D,T,W,E,b,r,rfl,hD,hE⟩
 have hx2:=hfr.keep HX1.out (fun h=>h)
 have HX2:=Hd hx2
 have HF2:=Hd (HF1.out.trans hfr)
 have HE:=Hd hE
 have HS:=Hd (show∀w':World,Fr (fun _=>False) w2 w'→w'.cell? ⟨w.heap.size,0,none⟩=some (.int .i64 0)∧w'.cell? ⟨w.heap.size,1,none⟩=some (.int .i64 0)∧w'.cell? ⟨w.heap.size,2,none⟩=some (.int .i64 3)∧w'.cell? ⟨w.heap.size,3,none⟩=some (.int .i64 0)∧w'.cell? ⟨w.heap.size,4,none⟩=some (.int .i64 2)∧w'.cell? ⟨w.heap.size,5,none⟩=some (.int .i64 4096)∧w'.cell? ⟨w.heap.size,6,none⟩=some (.int .i64 0)∧w'.cell? ⟨w.heap.size,7,none⟩=some (.int .i64 0) from fun w' hf=>
  have h:=hf.keep hx2 (fun h=>h)
  ⟨cell_in (i:=0) h rfl,cell_in (i:=1) h rfl,cell_in (i:=2) h rfl,cell_in (i:=3) h rfl,cell_in (i:=4) h rfl,cell_in (i:=5) h rfl,cell_in (i:=6) h rfl,cell_in (i:=7) h rfl⟩)
 have HR:=Hd ((Fr.refl (fun _=>False) w2).drew)
 have HSC:=Hd (HS.out w2.drew HR.out)
 obtain⟨s0,s1,s2,s3,s4,s5,s6,s7⟩:=HS.out w2 (Fr.refl _ _)
 clear hfr hE hx2 c2 c3 c4 c5
 go_wp2_with fail
 go_region_held3 (fun w'=>w'.cell? ⟨w.heap.size,0,none⟩=some (.int .i64 0)∧w'.cell? ⟨w.heap.size,1,none⟩=some (.int .i64 0)∧w'.cell? ⟨w.heap.size,2,none⟩=some (.int .i64 3)∧w'.cell? ⟨w.heap.size,3,none⟩=some (.int .i64 0)∧w'.cell? ⟨w.heap.size,4,none⟩=some (.int .i64 2)∧w'.cell? ⟨w.heap.size,5,none⟩=some (.int .i64 4096)∧w'.cell? ⟨w.heap.size,6,none⟩=some (.int .i64 0)∧w'.cell? ⟨w.heap.size,7,none⟩=some (.int .i64 0)) (first|with_reducible exact HSC.out|with_reducible exact HS.out _ HR.out|with_reducible exact HS.out _ (HR.out.alloc _)) ((first
  | (go_at_call 25
     with_reducible refine(snew_calls _).mono ?_
     rintro e wc ⟨rfl,hfrc⟩
     have HR:=Hd (HR.out.trans hfrc)
     have HSC:=Hd (HS.out _ HR.out)
     obtain⟨s0,s1,s2,s3,s4,s5,s6,s7⟩:=HSC.out
     clear hfrc)))
 have hfa:=HR.out.alloc (.cells (packV g D (.slice none 0 0) false false false) 74)
 have hPk:Pk (wc.alloc (.cells (packV g D (.slice none 0 0) false false false) 74)) wc.heap.size g D T W E b r:=
  ⟨heap_alloc_new _ _,⟨hfa.keep HE.out.d (fun h=>h),⟨hfa.keep HE.out.tab.box (fun h=>h),fun j hj=>(HE.out.tab.set j hj).keep hfa,HE.out.tab.inj⟩,HE.out.win.keep hfa (fun h=>h) (fun _ _ h=>h),hfa.keep HE.out.rc (fun h=>h)⟩,HRD.out.keep (HF2.out.trans hfa)⟩
 have HPK:=Hd hPk
 have HFA:=Hd (HF2.out.trans hfa)
 have hPn:w.heap.size≤wc.heap.size:=(HF2.out.trans HR.out).size
 clear hfa hPk HSC HS s0 s1 s2 s3 s4 s5 s6 s7 HR HE HX2 HF2 HX1 HF1
 generalize wc.alloc (.cells (packV g D (.slice none 0 0) false false false) 74)=W1 at*
 generalize wc.heap.size=P at*
 go_wp2_with fail
 go_loopw [9] (fun i wr=>ERel W1 P i wr) (fun i _=>65536-(intOf i).toNat)
 case atStart=>exact .inl ⟨rfl,rfl⟩
 case round=>
  rcases hrel with⟨rfl,rfl⟩|⟨rfl,hfr,p,cap,hc,hM⟩
  ·have hfa:=(Fr.refl (fun _=>False) wr).alloc (.cells (waysV P) 131)
   have HW:=Hd (write_calls (HPK.out.keep hfa) (heap_alloc_new wr (.cells (waysV P) 131)))
   have HA:=Hd hfa
   clear hfa
   go_wp2_with fail
   refine HW.out.mono ?_
   rintro e w3 ⟨rfl,hfr3,p,cap,hc3,hM3⟩
   have HF3:=Hd hfr3
   have HM3:=Hd hM3
   have HC3:=Hd hc3
   clear hfr3 hM3 hc3
   go_wp2_with fail
   go_roundw
   case rel=>exact .inr ⟨by go_num,(HA.out.mono (T:=fun k=>k=P) (fun _ _ h=>h.elim)).trans HF3.out,p,cap,HC3.out,HM3.out.own,fun k hk=>Nat.le_trans HA.out.size (HM3.out.new k hk)⟩
   case measure=>simp[intOf]
  ·have hfa:=(Fr.refl (fun _=>False) wr).alloc (.cells #[.int .u8 0] 5)
   have hrd:=rd_one wr wr.heap.size rfl 0 0 rfl
   have HM:=Hd (hM.keep hfa)
   have HA:=Hd hfa
   have HRD0:=Hd hrd
   have HFR:=Hd hfr
   clear hM hfa hrd hfr
   go_wp2_with (at_builtin;refine append_mine rfl _ _ rfl (w0:=W1) (.slice p 6 cap) (.slice (some ⟨wr.heap.size,0,none⟩) 1 1) ([1,0,2]++abc) [0] rfl rfl HM.out (Nat.le_trans HFR.out.size HA.out.size) HRD0.out (by decide) ?_;intro p2 cap2 n2 w2 hn2 hM2 hfr2 hnew2;obtain rfl:n2=7:=hn2;have HM2:=Hd hM2;have HF2:=Hd hfr2;clear hM2 hfr2 hnew2)
   go_ret2
   refine⟨?_,p2,cap2,rfl,HM2.out.own,fun k hk=>Nat.le_trans HFA.out.size (HM2.out.new k hk)⟩
   exact(HFA.out.trans' HFR.out (fun k h1 h2=>by omega)).trans' ((HA.out.mono (T:=fun k=>W1.heap.size≤k) (fun _ _ h=>h.elim)).trans' HF2.out (fun k _ hk=>HM.out.new k hk)) (fun k h1 h2=>by have:=HFA.out.size;omega)
end Enc
namespace Ck
open Mem Win
def str(xs:List UInt8):ByteArray:=⟨xs.toArray⟩
theorem str_eq(xs:List UInt8):strOfNums (xs.map fun x=>(x.toNat:Int))=str xs:=by
 unfold strOfNums str
 congr 2
 rw[List.map_map]
 conv=>rhs;rw[←List.map_id xs]
 apply List.map_congr_left
 intro x _
 simp
theorem conv_str{w:World}{v:Value}{xs:List UInt8}(h:Rd w v xs):(convert 22 9 v).run Tryz.prog w=.ok (.string (str xs)) w:=by
 obtain⟨p,cap,rfl,h1,h2,h3⟩:=h
 by_cases h0:0<xs.length
 ·obtain⟨b,o,rfl,hc⟩:=h3 h0
  rw[run_convert_bytes_arg (P:=Tryz.prog) w 22 5 Tryz.underlying22 Tryz.underlying5 b o xs.length cap (xs.map fun x=>(x.toNat:Int)) (by simp) (fun i hi=>by
   rw[hc i xs[i] (by simp[hi])]
   simp[bv,hi]) 9 Tryz.underlying9,str_eq]
 ·have hx:xs=[]:=List.eq_nil_of_length_eq_zero (by omega)
  subst hx
  cases p with
  |none=>exact run_convert_bytes_nil (P:=Tryz.prog) w 22 5 Tryz.underlying22 Tryz.underlying5 0 cap 9 Tryz.underlying9
  |some a=>
    show(convert 22 9 (.slice (some a) 0 cap)).run Tryz.prog w=_
    rw[run_convert_bytes_string w 22 9 5 (some a) 0 cap Tryz.underlying22 Tryz.underlying5 Tryz.underlying9]
    rw[run_bytesToString w a 0 cap [] (by simp[loadCells,loadCellsFrom])]
    rfl
theorem fix1:unpackP [1,0,2,97,98,99,0,255] 4096 7 3=.ok (7,[97,98,99]):=by kernel_rfl
theorem fix2:unpackP [1,0,2,97] 4096 (-1) (-1)=.error (3,1):=by kernel_rfl
theorem row_rd(w:World)(xs:List UInt8)(B:Nat)(hB:B=w.heap.size)(cs:Array Value)(hcs:cs=(bvs xs).toArray)(fr:Nat×Nat)(hl:xs.length≤1000):Rd (w.alloc (.cells cs 5 fr)) (.slice (some ⟨B,0,none⟩) xs.length xs.length) xs:=by
 subst hB hcs
 refine⟨_,_,rfl,Nat.le_refl _,by simp only[maxLen];omega,fun _=>⟨_,0,rfl,fun i x hx=> ?_⟩⟩
 rw[cell_of_row _ _ _ _ _ _ (heap_alloc_new w _),Nat.zero_add,List.getElem?_toArray]
 exact bvs_at hx
set_option maxRecDepth 100000 in
theorem fixed_calls(w:World)(hT:St.Tabs w)(hM:Moves w):Calls Tryz.prog 11 #[] w fun e w'=>e=.returned (.bool true)∧Fr (fun _=>False) w w':=by
 have hfa:=(Fr.refl (fun _=>False) w).alloc (.cells #[.int .u8 97,.int .u8 98,.int .u8 99] 5 (3,4))
 have kc:=fun(w:World)(C:Array Value)(n c:Nat)=>Lib.run_convert_bytes_const (P:=Tryz.prog) w 22 5 C n c Tryz.underlying22 Tryz.underlying5
 have hrd:=row_rd w [97,98,99] w.heap.size rfl #[.int .u8 97,.int .u8 98,.int .u8 99] rfl (3,4) (by decide)
 have HE:=Hd (Enc.encode_calls hrd)
 have HA:=Hd hfa
 have HT:=Hd hT
 have HM:=Hd hM
 clear hT hM hfa hrd
 go_enter Tryz.func11,Tryz.ntmps11
 go_wp2_with fail
 refine HE.out.mono ?_
 rintro e w1 ⟨hfr1,p,cap,rfl,hM1⟩
 have hcv:(convert 22 9 (.slice p 7 cap)).run Tryz.prog w1=.ok (.string (str [1,0,2,97,98,99,0])) w1:=conv_str hM1.rd
 have hstr:((str [1,0,2,97,98,99,0]).toList !=[1,0,2,97,98,99,0])=false:=by decide+kernel
 have hstr2:((str [1,0,2,97,98,99,0]).toList==[1,0,2,97,98,99,0])=true:=by decide+kernel
 have HF1:=Hd (HA.out.trans hfr1)
 have HF0:=Hd hfr1
 have hfb:=(Fr.refl (fun _=>False) w1).alloc (.cells #[.int .u8 255] 5)
 have HB:=Hd hfb
 have HRD:=Hd (rd_one w1 w1.heap.size rfl 255 255 rfl)
 have HM1:=Hd (hM1.keep hfb)
 clear hfr1 hM1 hfb
 go_wp2_with (at_builtin;refine append_mine rfl _ _ rfl (w0:=w.alloc (.cells #[.int .u8 97,.int .u8 98,.int .u8 99] 5 (3,4))) (.slice p 7 cap) (.slice (some ⟨w1.heap.size,0,none⟩) 1 1) ([1,0,2]++Enc.abc++[0]) [255] rfl rfl HM1.out (Nat.le_trans HF0.out.size HB.out.size) HRD.out (by decide) ?_;intro p2 cap2 n2 w2 hn2 hM2 hfr2 hnew2;obtain rfl:n2=8:=hn2;have HM2:=Hd hM2;have HF2:=Hd hfr2;clear hM2 hfr2 hnew2)
 have HF3:=Hd ((HF1.out.trans HB.out).trans' HF2.out (fun k h1 h2=>by
  have h3:=HM1.out.new k h2
  have h4:=HA.out.size
  omega))
 refine(decode_calls [1,0,2,97,98,99,0,255] 4096 7 3 w2 (.slice p2 8 cap2) (HT.out.keep HF3.out) HM2.out.rd (HM.out.step HF3.out (fun _ h=>h.elim)) (by decide)).mono ?_
 rintro e w3 hpost
 unfold DecodePost at hpost
 rw[fix1] at hpost
 obtain⟨hfr3,v3,rfl,hM3⟩:=hpost
 obtain⟨p3,cap3,rfl⟩:=hM3.slice
 have HF4:=Hd (HF3.out.trans hfr3)
 have HM3:=Hd hM3
 have hfc:=(Fr.refl (fun _=>False) w3).alloc (.cells #[.int .u8 1,.int .u8 0,.int .u8 2,.int .u8 97] 5)
 have HC:=Hd hfc
 have HRD4:=Hd (row_rd w3 [1,0,2,97] w3.heap.size rfl #[.int .u8 1,.int .u8 0,.int .u8 2,.int .u8 97] rfl (0,0) (by decide))
 clear hfr3 hM3 hfc
 go_wp2_with fail
 have HF5:=Hd (HF4.out.trans HC.out)
 refine(decode_calls [1,0,2,97] 4096 (-1) (-1) _ (.slice (some ⟨w3.heap.size,0,none⟩) 4 4) (HT.out.keep HF5.out) HRD4.out (HM.out.step HF5.out (fun _ h=>h.elim)) (by decide)).mono ?_
 rintro e w5 hpost
 unfold DecodePost at hpost
 rw[fix2] at hpost
 obtain⟨hfr5,_,rfl⟩:=hpost
 have hcv3:(convert 22 9 (.slice p3 3 cap3)).run Tryz.prog w5=.ok (.string (str [97,98,99])) w5:=conv_str ((HM3.out.rd.keep HC.out).keep hfr5)
 have hstr3:((str [97,98,99]).toList !=[97,98,99])=false:=by decide+kernel
 have hstr4:((str [97,98,99]).toList==[97,98,99])=true:=by decide+kernel
 have HF6:=Hd (HF5.out.trans hfr5)
 clear hfr5
 go_wp2_with fail
 go_ret
 exact⟨rfl,HF6.out⟩
end Ck
namespace Laid
theorem cells_of_grid{H:Type}{enc:TypeId×Value→H}{P:Program}{w:World}{base:Nat}{sp:Nat→Bool}{held:Bool}{fuel:Nat}{t e i:TypeId}{k:IntKind}{cs:List Value}{z0 z1 z2 z3:List Int}{p:List MemPlace}
 (ht:P.underlying t=some (.array 4 e))(he:P.underlying e=some (.array 7 i))(hi:P.underlying i=some (.int k))(hci:P.cellsOf i=1)(hce:P.cellsOf e=7)(hct:P.cellsOf t=28)
 (h:DataW.trod enc P w base sp held fuel t cs=some (.agg [Lib.tabData k z0,Lib.tabData k z1,Lib.tabData k z2,Lib.tabData k z3],p)):cs=(z0++(z1++(z2++z3))).map fun z=>Value.int k z:=by
 cases fuel with
 |zero=>simp[DataW.trod] at h
 |succ fuel=>
   simp only[DataW.trod,ht,hce,hct] at h
   split at h
   ·rename_i hl
    obtain⟨xs,hm,hx⟩:=Option.map_eq_some_iff.1 h
    have hxs:xs.map (·.1)=[Lib.tabData k z0,Lib.tabData k z1,Lib.tabData k z2,Lib.tabData k z3]:=by
     have:=congrArg Prod.fst hx
     simpa using this
    have key:∀j z,[z0,z1,z2,z3][j]? =some z→(cs.drop (j*7)).take 7=z.map fun z=>Value.int k z:=fun j z hz=>by
     have hj:j<4:=by have:=(List.getElem?_eq_some_iff.1 hz).1;simpa using this
     obtain⟨b,hb,hf⟩:=Lib.mapM_at hm j j (by simp[hj])
     have h2:(xs.map (·.1))[j]? =some b.1:=by simp[hb]
     have h3:[Lib.tabData (H:=H) k z0,Lib.tabData k z1,Lib.tabData k z2,Lib.tabData k z3][j]? =some (Lib.tabData k z):=by
      have:[Lib.tabData (H:=H) k z0,Lib.tabData k z1,Lib.tabData k z2,Lib.tabData k z3]=[z0,z1,z2,z3].map (Lib.tabData (H:=H) k):=rfl
      rw[this,List.getElem?_map,hz]
      rfl
     rw[hxs,h3] at h2
     have h4:=Option.some.inj h2
     obtain⟨b1,b2⟩:=b
     simp only at h4
     subst h4
     exact Lib.cells_of_tab he hi hci hce hf
    have k0:=key 0 z0 rfl
    have k1:=key 1 z1 rfl
    have k2:=key 2 z2 rfl
    have k3:=key 3 z3 rfl
    rw[List.map_append,List.map_append,List.map_append,←k0,←k1,←k2,←k3]
    apply List.ext_getElem?
    intro x
    simp only[List.getElem?_append,List.getElem?_take,List.getElem?_drop,List.length_take,List.length_drop,hl]
    repeat' split
    all_goals first|(congr 1;omega)|(rw[List.getElem?_eq_none (by omega)])|omega
   ·cases h
end Laid
end Go.Proofs.YtlgccpjccopdmaaGreatDoor
namespace Go.Proofs.YtlgccpjccopdmaaGreatDoor
namespace Bulk
theorem one_le{H:Type}(d:DataW H):1≤Rows.uptoBulk d:=by
 cases d with
 |lit l=>cases l<;>simp[Rows.uptoBulk]
 |nil=>simp[Rows.uptoBulk]
 |ptr d=>simp[Rows.uptoBulk]
 |slice elems spare=>simp[Rows.uptoBulk]
 |agg parts=>simp[Rows.uptoBulk]
 |iface t d=>simp[Rows.uptoBulk]
 |map es=>simp[Rows.uptoBulk]
 |held h=>simp[Rows.uptoBulk]
theorem part_le{H:Type}{d:DataW H}{l:List (DataW H)}(h:d ∈ l):Rows.uptoBulk d≤Rows.uptoBulkAll l:=by
 induction l with
 |nil=>cases h
 |cons x r ih=>
   simp only[Rows.uptoBulkAll]
   cases List.mem_cons.1 h with
   |inl e=>subst e;omega
   |inr e=>have:=ih e;omega
theorem length_le{H:Type}(l:List (DataW H)):l.length≤Rows.uptoBulkAll l:=by
 induction l with
 |nil=>simp[Rows.uptoBulkAll]
 |cons x r ih=>have:=one_le x;simp only[Rows.uptoBulkAll,List.length_cons];omega
theorem slice_le{H:Type}(elems spare:List (DataW H)):elems.length+spare.length+1≤Rows.uptoBulk (.slice elems spare):=by
 have h1:=length_le elems
 have h2:=length_le spare
 simp only[Rows.uptoBulk]
 omega
theorem slice_elems{H:Type}(elems spare:List (DataW H)):Rows.uptoBulkAll elems+1≤Rows.uptoBulk (.slice elems spare):=by
 simp only[Rows.uptoBulk]
 omega
theorem bound{H:Type}{l:List (DataW H)}(hk:Rows.uptoSmall H l=true):Rows.uptoBulkAll l≤1048576:=of_decide_eq_true hk
end Bulk
end Go.Proofs.YtlgccpjccopdmaaGreatDoor
namespace Go.Proofs.YtlgccpjccopdmaaGreatDoor
open Go.ChangeShapes Go.WideShapes Go.Deep Go.RowKit
namespace Opened
open Mem
section
variable {H:Type}{enc:TypeId×Value→H}{P:Program}{w:World}{base:Nat}{spare:Nat→Bool}{held:Bool}
theorem open_slice_fields{t e:TypeId}{fs:Array Field}{fuel:Nat}{cs:List Value}{x:DataW H×List MemPlace}(ht:P.underlying t=some (.slice e))(he:P.underlying e=some (.struct fs))
 (hone:oneCellFields P fs=true)(hC:P.cellsOf e=fs.size)(h:DataW.trod enc P w base spare held fuel t cs=some x):
 (cs=[.slice none 0 0]∧x=(.nil,[]))∨
 ∃(a:Addr)(len cap m:Nat)(D:Nat→DataW H)(Pl:Nat→List MemPlace),cs=[.slice (some a) len cap]∧base≤a.block∧len≤cap∧cap≤maxLen∧m=(if spare a.block then cap else len)∧
  x=(.slice ((List.range len).map D) ((List.range (m-len)).map fun j=>D (len+j)),MemPlace.row a (m*fs.size)++(List.range m).flatMap Pl)∧
  ∀i,i<m→∃(ys:List (DataW H×List MemPlace))(n:Nat),D i=.agg (ys.map (·.1))∧Pl i=ys.flatMap (·.2)∧ys.length=fs.size∧
   ∀(j:Nat)(f:Field),fs[j]? =some f→∃(v:Value)(y:DataW H×List MemPlace),w.cell? (a.add (i*fs.size+j))=some v∧ys[j]? =some y∧DataW.trod enc P w base spare held n f.type [v]=some y:=by
 rcases open_slice ht h with h0|⟨a,len,cap,m,n,D,Pl,hcs,hb,hl,hm,hmm,hx,hi⟩
 ·exact .inl h0
 ·refine .inr ⟨a,len,cap,m,D,Pl,hcs,hb,hl,hm,hmm,by rw[hC] at hx;exact hx,fun i him=> ?_⟩
  obtain⟨cs',hc,ht'⟩:=hi i him
  rw[hC] at hc
  obtain⟨ys,n',hn',hy,hlen,hyl,hf⟩:=DataW.trod_struct he ht'
  obtain⟨_,hcl,hat⟩:=World.cells?_some hc
  simp only[Prod.mk.injEq] at hy
  refine⟨ys,n',hy.1,hy.2,hyl,fun j f hj=> ?_⟩
  obtain⟨ho,hk⟩:=hone_of hone j f hj
  have hjl:j<fs.size:=(Array.getElem?_eq_some_iff.1 hj).1
  have hcell:=hat j hjl
  have hv:cs'[j]? =some (cs'[j]'(by omega)):=List.getElem?_eq_getElem (by omega)
  have h1:=hf j f hj
  rw[ho,hk] at h1
  have hone':(cs'.drop j).take 1=[cs'[j]'(by omega)]:=by
   rw[List.drop_eq_getElem_cons (by omega)]
   rfl
  rw[hone'] at h1
  have hys:ys[j]? =some (ys[j]'(by omega)):=List.getElem?_eq_getElem (by omega)
  refine⟨_,_,?_,hys,h1.trans hys⟩
  rw[←Go.Deep.add_add,hcell,hv]
theorem choose_lt2{α:Type} [Inhabited α]{p:Nat→α→Prop}{n:Nat}(h:∀i,i<n→∃x,p i x):∃f:Nat→α,∀i,i<n→p i (f i):=by
 refine⟨fun i=>if hi:i<n then Classical.choose (h i hi) else default,fun i hi=> ?_⟩
 simp only[hi,dif_pos]
 exact Classical.choose_spec (h i hi)
theorem trod_int_cell{fuel:Nat}{t:TypeId}{k:IntKind}{v:Value}{x:DataW H×List MemPlace}(ht:P.underlying t=some (.int k))(h:DataW.trod enc P w base spare held fuel t [v]=some x):
 ∃n:Int,v=.int k n∧(Lit.int k n).wf=true:=by
 obtain⟨n,h1,h2,h3⟩:=DataW.trod_int ht h
 exact⟨n,by simpa using h1,h3⟩
end
end Opened
namespace Opened
open Mem
section
variable {H:Type}{enc:TypeId×Value→H}{P:Program}{w:World}{base:Nat}{held:Bool}
theorem open_bytes{t e:TypeId}{fuel:Nat}{v:Value}{x:DataW H×List MemPlace}(ht:P.underlying t=some (.slice e))(he:P.underlying e=some (.int .u8))(hc:P.cellsOf e=1)
 (h:DataW.trod enc P w base (fun _=>true) held fuel t [v]=some x):∃xs:List UInt8,Rd w v xs∧xs.length<Rows.uptoBulk x.1:=by
 rcases open_ints ht he hc h with⟨h0,rfl⟩|⟨a,len,cap,zs,hcs,_,hl,hm,hz,rfl,hcell,hwf⟩
 ·simp only[List.cons.injEq,and_true] at h0
  subst h0
  exact⟨[],Rd.nil w,Bulk.one_le (H:=H) .nil⟩
 ·simp only[List.cons.injEq,and_true] at hcs
  subst hcs
  rw[if_pos rfl] at hz
  have hxl:((zs.take len).map fun z=>UInt8.ofNat z.toNat).length=len:=by rw[List.length_map,List.length_take];omega
  refine⟨(zs.take len).map fun z=>UInt8.ofNat z.toNat,⟨some a,cap,by rw[hxl],by omega,hm,fun h0=> ?_⟩,?_⟩
  ·rw[hxl] at h0
   have hpl:=row_plain (V:=fun i=>.int .u8 (zs.getD i 0)) hcell (by omega)
   refine⟨a.block,a.off,by rw[←hpl],fun i y hy=> ?_⟩
   have hi:i<len:=by have:=(List.getElem?_eq_some_iff.1 hy).1;omega
   have hcc:=hcell i (by omega)
   rw[hpl,add_mid] at hcc
   rw[hcc]
   have hzi:zs[i]? =some (zs[i]'(by omega)):=List.getElem?_eq_getElem (by omega)
   rw[List.getElem?_map,List.getElem?_take,if_pos hi,hzi] at hy
   simp only[Option.map_some,Option.some.injEq] at hy
   have hw:=hwf (zs[i]'(by omega)) (List.getElem_mem _)
   have hb:0≤zs[i]'(by omega)∧zs[i]'(by omega)≤255:=by simpa [Lit.wf,IntKind.min,IntKind.max,IntKind.signed,IntKind.bits] using hw
   subst hy
   simp only[bv,List.getD,hzi,Option.getD_some]
   congr 2
   rw[UInt8.toNat_ofNat']
   omega
  ·rw[hxl]
   have:=Bulk.slice_le (H:=H) (lits .u8 (zs.take len)) (lits .u8 (zs.drop len))
   have hll:(lits (H:=H) .u8 (zs.take len)).length=len:=by simp[lits];omega
   show len<Rows.uptoBulk (DataW.slice (lits (H:=H) .u8 (zs.take len)) (lits .u8 (zs.drop len)))
   omega
end
end Opened
end Go.Proofs.YtlgccpjccopdmaaGreatDoor
