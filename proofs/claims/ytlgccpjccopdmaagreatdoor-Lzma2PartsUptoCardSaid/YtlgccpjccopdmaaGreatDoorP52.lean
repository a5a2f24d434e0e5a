/- Part 52 of 53: lemmas of the last part, each under the conditions that it names. -/
import Derived.Test.YtlgccpjccopdmaaGreatDoorP40
import Derived.Test.YtlgccpjccopdmaaGreatDoorP41
import Derived.Test.YtlgccpjccopdmaaGreatDoorP43
import Derived.Test.YtlgccpjccopdmaaGreatDoorP51
set_option linter.unusedVariables false
set_option linter.unusedSimpArgs false
set_option maxRecDepth 1500
set_option maxHeartbeats 16000000
namespace Go.Proofs.YtlgccpjccopdmaaGreatDoor
open Go.RowKit
namespace Pa
open Mem Win Ga Lz St En
theorem cost_le:∀(l:List Pz)(q:Pz),q ∈ l→q.cost≤costs l
 |[],q,h=>by simp at h
 |p::l,q,h=>by
   rw[costs]
   rcases List.mem_cons.1 h with rfl|h
   ·omega
   ·have:=cost_le l q h
    omega
theorem costs_len:∀l:List Pz,11*l.length≤costs l
 |[]=>Nat.zero_le _
 |p::l=>by
   have:=costs_len l
   rw[costs,List.length_cons]
   unfold Pz.cost
   omega
theorem build_out(dict:Int)(l:List Pz)(lv:Value)(w:World)(h:dict<1∨4294967295<dict):Calls Tryz.prog 17 #[.int .i64 dict,lv] w (BuildPost w (.error 7)):=by
 have HNW:=Hd (enew_out dict w h)
 clear h
 go_enter Tryz.func17,Tryz.ntmps17
 go_wp2_with fail
 refine HNW.out.mono ?_
 rintro e w1 ⟨hf1,rfl⟩
 have HP:=Hd (show BuildPost w (.error 7) (.returned (.tuple #[.slice none 0 0,.int .i64 7])) w1 from⟨hf1,by decide,rfl⟩)
 clear hf1
 go_wp2_with fail
 go_ret2
 exact HP.out
theorem build_calls(dict:Int)(l:List Pz)(lv:Value)(w:World)(hT:Tabs w)(hM:Ck.Moves w)(hr:RdP w lv l)(hwf:∀p ∈ l,p.Wf)(hc:costs l≤11534336):
 Calls Tryz.prog 17 #[.int .i64 dict,lv] w (BuildPost w (buildP dict l)):=by
 by_cases h:dict<1∨4294967295<dict
 ·have e:buildP dict l=.error 7:=by unfold buildP;rw[if_pos h]
  rw[e]
  exact build_out dict l lv w h
 ·obtain⟨n,rfl⟩:=Int.eq_ofNat_of_zero_le (show 0≤dict by omega)
  exact build_in n l lv w (by omega) (by omega) hT hM hr hwf (by have:=costs_len l;omega) (by omega)
set_option maxRecDepth 100000 in
theorem parts_bad(p0 pb:Option Addr)(cap0 capb:Nat)(dict more:Int)(l:List Pz)(behind:List UInt8)(w:World)(hT:Tabs w)(hM:Ck.Moves w)(hr:RdP w (.slice p0 l.length cap0) l)(hwf:∀p ∈ l,p.Wf)(hc:costs l≤11534336)(er:Nat)(hres:buildP dict l=.error er):
 Calls Tryz.prog 6 #[.agg #[.int .i64 dict,.slice p0 l.length cap0,.int .i64 more,.slice pb behind.length capb]] w fun e w'=>e=.returned (.bool true)∧Fr (fun _=>False) w w':=by
 have hfa:=(Fr.refl (fun _=>False) w).alloc (.cells #[.int .i64 dict,.slice p0 l.length cap0,.int .i64 more,.slice pb behind.length capb] 56)
 have hcl:=costs_len l
 have HPA:=Hd (parts_calls l _ _ (hr.keep hfa) (by omega) (fun q hq=>by have:=cost_le l q hq;unfold Pz.cost at this;omega) (fun q hq=>by have:=cost_le l q hq;unfold Pz.cost at this;omega))
 have HA:=Hd hfa
 have HT:=Hd hT
 have HM:=Hd hM
 have HWF:=Hd hwf
 have HC:=Hd hc
 have HRES:=Hd hres
 obtain⟨n,hn⟩:∃n,n=l.length:=⟨_,rfl⟩
 rw[←hn] at HPA HA ⊢
 have HN:=Hd hn
 clear hfa hcl hT hM hwf hc hres hr hn
 go_enter Tryz.func6,Tryz.ntmps6
 go_wp2_with fail
 refine HPA.out.mono ?_
 rintro e w1 ⟨hf1,pc,cc,L,rfl,hcc,hL,hEach,hOwn⟩
 have HF1:=Hd (HA.out.trans hf1)
 have HB:=Hd (build_calls dict l _ w1 (HT.out.keep HF1.out) (HM.out.step HF1.out (fun _ h=>h.elim)) (rdp_of hL hcc hEach hOwn) HWF.out HC.out)
 clear hf1 hcc hL hEach hOwn
 go_wp2_with fail
 refine HB.out.mono ?_
 rintro e w2 ⟨hf2,hpost⟩
 rw[HRES.out] at hpost
 obtain⟨hne,rfl⟩:=hpost
 have HF2:=Hd (HF1.out.trans hf2)
 have hne1:((er:Int) !=0)=true:=by simp;omega
 clear hf2
 go_wp2_with fail
 refine(Ck.fixed_calls w2 (HT.out.keep HF2.out) (HM.out.step HF2.out (fun _ h=>h.elim))).mono ?_
 rintro e w3 ⟨rfl,hf3⟩
 have HF3:=Hd (HF2.out.trans hf3)
 clear hf3
 go_wp2_with fail
 go_ret
 exact⟨rfl,HF3.out⟩
set_option maxRecDepth 100000 in
theorem parts_good(p0 pb:Option Addr)(cap0 capb d:Nat)(more:Int)(l:List Pz)(behind:List UInt8)(w:World)(hT:Tabs w)(hM:Ck.Moves w)(hr:RdP w (.slice p0 l.length cap0) l)(hwf:∀p ∈ l,p.Wf)(hrb:Rd w (.slice pb behind.length capb) behind)(hc:costs l≤11534336)(hbl:behind.length≤1048576)(b:List UInt8)(hres:buildP d l=.ok b):
 Calls Tryz.prog 6 #[.agg #[.int .i64 d,.slice p0 l.length cap0,.int .i64 more,.slice pb behind.length capb]] w fun e w'=>e=.returned (.bool true)∧Fr (fun _=>False) w w':=by
 have hby:∀p ∈ l,∀z ∈ p.ys,z.byte<256:=fun p hp=>(hwf p hp).byte
 obtain⟨⟨hd1,hd2⟩,hgood,want,hmean,hall⟩:=parts_law hby hres
 obtain⟨u1,u2,u3⟩:=hall behind
 rw[Int.toNat_natCast] at hmean
 have hbn:=buildP_bd hby hres
 have hwn:=mean_bd d l [] S.new _ hby hmean
 simp only at hwn
 have hfa:=(Fr.refl (fun _=>False) w).alloc (.cells #[.int .i64 d,.slice p0 l.length cap0,.int .i64 more,.slice pb behind.length capb] 56)
 have HX:=Hd (heap_alloc_new w (.cells #[.int .i64 d,.slice p0 l.length cap0,.int .i64 more,.slice pb behind.length capb] 56))
 have hcl:=costs_len l
 have HPA:=Hd (parts_calls l _ _ (hr.keep hfa) (by omega) (fun q hq=>by have:=cost_le l q hq;unfold Pz.cost at this;omega) (fun q hq=>by have:=cost_le l q hq;unfold Pz.cost at this;omega))
 have HME:=Hd (show∀W,Fr (fun _=>False) w W→Calls Tryz.prog 20 #[.int .i64 d,.slice p0 l.length cap0] W fun e w'=>Fr (fun _=>False) W w'∧∃ov gv,e=.returned (.tuple #[ov,gv,.bool true])∧Mine W w' ov want∧RowsZ W w' gv (l.map Pz.rowZ) from fun W hW=>
  meaning_calls d l _ W (hT.keep hW) (hr.keep hW) hwf (fun p hp=>(hgood p hp).1) (by omega) (by omega) (fun q hq=>by have:=cost_le l q hq;unfold Pz.cost at this;omega) want _ hmean (by omega) (by rw[List.length_map];omega))
 have HA:=Hd hfa
 have HT:=Hd hT
 have HM:=Hd hM
 have HWF:=Hd hwf
 have HC:=Hd hc
 have HRES:=Hd hres
 have HRB:=Hd hrb
 have HBB:=Hd (show b.length≤16777216 by omega)
 have HBH:=Hd (show behind.length≤16777216 by omega)
 have HBJ:=Hd (show(b++behind).length≤16777216 by rw[List.length_append];omega)
 have HU1:=Hd u1
 have HU2:=Hd u2
 have HU3:=Hd u3
 have HGD:=Hd (show∀p ∈ l,∀z ∈ p.rowZ,z.bad=0 from fun p hp z hz=>by
  unfold Pz.rowZ at hz
  split at hz
  ·simp at hz
  ·exact(hgood p hp).2 (by omega) z hz)
 have HLN:=Hd (show∀p ∈ l,p.rowZ.length≤1048576 from fun p hp=>by
  have:=cost_le l p hp
  unfold Pz.cost at this
  unfold Pz.rowZ
  split
  ·simp
  ·omega)
 have HCL:=Hd hcl
 obtain⟨A,hA⟩:∃A:Nat,IntKind.u64.wrap more=(A:Int):=⟨(IntKind.u64.wrap more).toNat,(Int.toNat_of_nonneg (wrap_u64_nonneg _)).symm⟩
 obtain⟨k,hk0⟩:∃k,k=A%2147483648:=⟨_,rfl⟩
 have hk:k<2147483648:=by rw[hk0];exact Nat.mod_lt _ (by decide)
 have hmod:((A:Int).tmod 2147483648)=(k:Int):=by rw[hk0];rfl
 have hmod2:((A:Int)%2147483648)=(k:Int):=by rw[hk0];rfl
 have hwk:IntKind.i64.wrap (k:Int)=k:=IntWalk.i64_in _ (by omega)
 have hwk2:wrap64 (k:Int)=k:=IntWalk.wrap64_in _ (by omega)
 have hd3:1≤d∧d≤4294967295:=by omega
 have hpm:=hr
 clear hfa hcl hT hM hwf hc hres hrb u1 u2 u3 hgood hmean hall hbn hwn hbl hby hd1 hd2 hk0 hr
 have HPM:=Hd hpm
 clear hpm
 obtain⟨n,hn⟩:∃n,n=l.length:=⟨_,rfl⟩
 have HN:=Hd hn
 rw[←hn] at HPA HA HME HX HPM ⊢
 clear hn
 go_enter Tryz.func6,Tryz.ntmps6
 go_wp2_with fail
 refine HPA.out.mono ?_
 rintro e w1 ⟨hf1,pc,cc,L,rfl,hcc,hL,hEach,hOwn⟩
 have HF1:=Hd (HA.out.trans hf1)
 have HX1:=Hd (hf1.keep HX.out (fun h=>h))
 have HB:=Hd (build_calls d l _ w1 (HT.out.keep HF1.out) (HM.out.step HF1.out (fun _ h=>h.elim)) (rdp_of hL hcc hEach hOwn) HWF.out HC.out)
 clear hf1 hcc hL hEach hOwn
 go_wp2_with fail
 refine HB.out.mono ?_
 rintro e w2 ⟨hf2,hpost⟩
 rw[HRES.out] at hpost
 obtain⟨vb,rfl,hMb⟩:=hpost
 obtain⟨qb,cb,rfl⟩:=hMb.slice
 obtain⟨m,hm⟩:∃m,m=b.length:=⟨_,rfl⟩
 have HMM:=Hd hm
 rw[←hm]
 have HF2:=Hd (HF1.out.trans hf2)
 have HX2:=Hd (hf2.keep HX1.out (fun h=>h))
 have HRD2:=Hd (show Rd w2 (.slice qb m cb) b by rw[hm];exact hMb.rd)
 clear hf2 hMb hm
 go_wp2_with fail
 refine(Ck.fixed_calls w2 (HT.out.keep HF2.out) (HM.out.step HF2.out (fun _ h=>h.elim))).mono ?_
 rintro e w3 ⟨rfl,hf3⟩
 have HF3:=Hd (HF2.out.trans hf3)
 have HX3:=Hd (hf3.keep HX2.out (fun h=>h))
 have HRD3:=Hd (HRD2.out.keep hf3)
 clear hf3
 go_wp2_with fail
 refine(HME.out _ HF3.out).mono ?_
 rintro e w4 ⟨hf4,ov,gv,rfl,hMw,vsr,hOg,hvl,hvr⟩
 obtain⟨qo,co,rfl⟩:=hMw.slice
 obtain⟨qg,cg,rfl⟩:=hOg.slice
 obtain⟨q,hq⟩:∃q,q=want.length:=⟨_,rfl⟩
 have HQ:=Hd hq
 rw[←hq]
 rw[List.length_map] at hOg hvl ⊢
 rw[←HN.out] at hOg hvl ⊢
 have HF4:=Hd (HF3.out.trans hf4)
 have hx4:=hf4.keep HX3.out (fun h=>h)
 have x2:=cell_in (i:=2) hx4 rfl
 have HRD4:=Hd (HRD3.out.keep hf4)
 have HRW4:=Hd (show Rd w4 (.slice qo q co) want by rw[hq];exact hMw.rd)
 have HOG:=Hd hOg
 have HVR:=Hd hvr
 have HVL:=Hd hvl
 have HF34:=Hd hf4
 clear hf4 hMw hOg hvl hvr hq hx4
 obtain⟨great,hgr⟩:∃great:Nat,great=if 4294967295<d+k then 4294967295 else d+k:=⟨_,rfl⟩
 have HUG:=Hd (HU1.out great (by rw[hgr];split<;>omega) (by rw[hgr];split<;>omega))
 have HJ:=Hd (show∀W,Fr (fun _=>False) w4 W→Calls Tryz.prog 12 #[.slice qb m cb,.slice pb behind.length capb] W fun e w'=>Fr (fun _=>False) W w'∧∃v,e=.returned v∧Mine W w' v (b++behind) from fun W hW=>joined_calls _ _ b behind W (HRD4.out.keep hW) (HRB.out.keep (HF4.out.trans hW)) HBB.out HBH.out)
 have HDG:=Hd (show∀(W W0:World)(v:Value)(y:Int),y=great→Fr (fun _=>False) w W→Mine W0 W v (b++behind)→Calls Tryz.prog 14 #[v,.int .i64 y,.int .i64 (-1),.int .i64 (-1)] W (Ck.DecodePost W (.ok (b.length,want))) from fun W W0 v y hy hW hv=>by
  rw[hy]
  have h:=Ck.decode_calls (b++behind) great (-1) (-1) W v (HT.out.keep hW) hv.rd (HM.out.step hW (fun _ h=>h.elim)) HBJ.out
  rw[HUG.out] at h
  exact h)
 have HDT:=Hd (show∀(W W0:World)(v:Value),Fr (fun _=>False) w W→Mine W0 W v (b++behind)→Calls Tryz.prog 14 #[v,.int .i64 d,.int .i64 m,.int .i64 q] W (Ck.DecodePost W (.ok (b.length,want))) from fun W W0 v hW hv=>by
  have h:=Ck.decode_calls (b++behind) d b.length want.length W v (HT.out.keep hW) hv.rd (HM.out.step hW (fun _ h=>h.elim)) HBJ.out
  rw[HU2.out] at h
  rw[HMM.out,HQ.out]
  exact h)
 have HDS:=Hd (show∀(W W0:World)(v:Value),Fr (fun _=>False) w W→Mine W0 W v (b++behind)→Calls Tryz.prog 21 #[v,.int .i64 d] W (Cs.DecodePost W (.ok (b.length,l.map Pz.rowN))) from fun W W0 v hW hv=>by
  have h:=Cs.symbols_calls (b++behind) d W v (HT.out.keep hW) hv.rd (HM.out.step hW (fun _ h=>h.elim)) HBJ.out
  rw[HU3.out] at h
  exact h)
 by_cases hg:4294967295<d+k
 all_goals
  have tg:=hg
  simp only[hg,if_true,if_false] at hgr
  first
   | (have g1 : decide ((d : Int) + (k : Int) > 4294967295) = true:=decide_eq_true (by omega)
      have g2:decide (4294967295<(d:Int)+(k:Int))=true:=decide_eq_true (by omega)
      have tok1:True:=trivial
      clear tok1)
   | (have g1 : decide ((d : Int) + (k : Int) > 4294967295) = false:=decide_eq_false (by omega)
      have g2:decide (4294967295<(d:Int)+(k:Int))=false:=decide_eq_false (by omega))
  go_wp2_with fail
  refine(HJ.out _ (Fr.refl _ _)).mono ?_
  rintro e w5 ⟨hf5,vj,rfl,hMj⟩
  have HF5:=Hd (HF4.out.trans hf5)
  have HF45:=Hd hf5
  have HDX:=fun(y:Int)(hy:y=great)=>Hd (HDG.out w5 w4 vj y hy HF5.out hMj)
  clear hf5 hMj
  go_wp2_with fail
  refine(HDX _ ?_).out.mono ?_
  ·omega
  rintro e w6 ⟨hf6,vd,rfl,hMd⟩
  obtain⟨qd,cd,rfl⟩:=hMd.slice
  rw[←HQ.out,←HMM.out]
  have HF6:=Hd (HF5.out.trans hf6)
  have HF46:=Hd (HF45.out.trans hf6)
  have HRDD6:=Hd (show Rd w6 (.slice qd q cd) want by rw[HQ.out];exact hMd.rd)
  clear hf6 hMd HDX
  go_wp2_with fail
  refine(HJ.out _ HF46.out).mono ?_
  rintro e w7 ⟨hf7,vj2,rfl,hMj2⟩
  have HF7:=Hd (HF6.out.trans hf7)
  have HF47:=Hd (HF46.out.trans hf7)
  have HRDD7:=Hd (HRDD6.out.keep hf7)
  have HDT2:=Hd (HDT.out w7 w6 vj2 HF7.out hMj2)
  clear hf7 hMj2
  go_wp2_with fail
  refine HDT2.out.mono ?_
  rintro e w8 ⟨hf8,vx,rfl,hMx⟩
  obtain⟨qx,cx,rfl⟩:=hMx.slice
  rw[←HQ.out,←HMM.out]
  have HF8:=Hd (HF7.out.trans hf8)
  have HF48:=Hd (HF47.out.trans hf8)
  have HRDD8:=Hd (HRDD7.out.keep hf8)
  have HRDX8:=Hd (show Rd w8 (.slice qx q cx) want by rw[HQ.out];exact hMx.rd)
  clear hf8 hMx HDT2
  go_wp2_with fail
  refine(HJ.out _ HF48.out).mono ?_
  rintro e w9 ⟨hf9,vj3,rfl,hMj3⟩
  have HF9:=Hd (HF8.out.trans hf9)
  have HF49:=Hd (HF48.out.trans hf9)
  have HDS2:=Hd (HDS.out w9 w8 vj3 HF9.out hMj3)
  have HF89:=Hd hf9
  clear hf9 hMj3
  go_wp2_with fail
  refine HDS2.out.mono ?_
  rintro e w10 ⟨hf10,vs,rfl,hRY⟩
  obtain⟨vss,hOs,hsl,hss,_⟩:=hRY.ex
  rw[List.length_map,←HN.out] at hOs hsl
  obtain⟨qs,cs,rfl⟩:=hOs.slice
  have HF10:=Hd (HF9.out.trans hf10)
  have HF410:=Hd (HF49.out.trans hf10)
  have hcv1:=Ck.conv_str (HRDD8.out.keep (HF89.out.trans hf10))
  have hcv2:=Ck.conv_str (HRDX8.out.keep (HF89.out.trans hf10))
  have hcv3:=Ck.conv_str (HRW4.out.keep HF410.out)
  have HOS:=Hd hOs
  have HSL:=Hd hsl
  have HSS:=Hd hss
  have HOG10:=Hd (HOG.out.keep HF410.out)
  clear hf10 hRY hOs hsl hss HDS2
  generalize Ck.str want=zs at*
  have hne2:(zs.toList !=zs.toList)=false:=by simp
  have hne3:((m:Int) !=(m:Int))=false:=by simp
  have hne4:((n:Int) !=(n:Int))=false:=by simp
  go_wp2_with fail
  go_loopw [20](fun i wr=>∃k:Nat,k≤n∧i=.int .i64 k∧Fr (fun _=>False) w10 wr) (fun i _=>n-(intOf i).toNat)
  case atStart=>exact⟨0,Nat.zero_le _,rfl,Fr.refl _ _⟩
  case round=>
   obtain⟨j,hjn,rfl,hfr⟩:=hrel
   have hn0:(n:Int)≤1048576:=by have:=HCL.out;have:=HC.out;have:=HN.out;omega
   by_cases hlt:j<n
   ·obtain⟨p,hp⟩:∃p,l[j]? =some p:=⟨l[j]'(HN.out ▸ hlt),List.getElem?_eq_getElem (HN.out ▸ hlt)⟩
    obtain⟨x,hx⟩:∃x,vsr[j]? =some x:=⟨vsr[j]'(HVL.out ▸ hlt),List.getElem?_eq_getElem (HVL.out ▸ hlt)⟩
    obtain⟨y,hy⟩:∃y,vss[j]? =some y:=⟨vss[j]'(HSL.out ▸ hlt),List.getElem?_eq_getElem (HSL.out ▸ hlt)⟩
    have hz:=HVR.out j x p.rowZ hx (by rw[List.getElem?_map,hp];rfl)
    have hs:=HSS.out j y p.rowN hy (by rw[List.getElem?_map,hp];rfl)
    obtain⟨sp,sc,rfl,_,_⟩:=hz.slice
    obtain⟨sq,sd,rfl⟩:=(Own.of_syms hs).slice
    obtain⟨gr,hgr1,e1⟩:=(HOG10.out.keep hfr).cell hx
    obtain⟨gs,hgs1,e2⟩:=(HOS.out.keep hfr).cell hy
    subst hgr1 hgs1
    have HLK:=Hd (show∀W,Fr (fun _=>False) wr W→Calls Tryz.prog 22 #[.slice sp p.rowZ.length sc,.slice sq p.rowN.length sd] W fun e w'=>e=.returned (.bool true)∧Fr (fun _=>False) W w' from fun W hW=>
     like_calls _ _ p.rowZ w9 W (hz.keep ((HF34.out.trans HF410.out).trans (hfr.trans hW))) (hs.step (hfr.trans hW) (fun _ _ h=>h)) (fun z hz=>HGD.out p (List.mem_of_getElem? hp) z hz) (HLN.out p (List.mem_of_getElem? hp)))
    have HKEEP:=Hd (show∀W,Fr (fun _=>False) wr W→(W.cell? ⟨gr,j,none⟩=some (.slice sp p.rowZ.length sc)∧W.cell? ⟨gs,j,none⟩=some (.slice sq p.rowN.length sd)) from fun W hW=>⟨cell_keep e1 hW,cell_keep e2 hW⟩)
    have hidx:(j:Int)<n:=by omega
    have FC:=Hd (Fr.refl (fun _=>False) wr).drew
    have HFR:=Hd hfr
    generalize p.rowZ.length=lz at*
    generalize p.rowN.length=ln at*
    clear hz hs hfr hp hx hy
    go_wp2_with fail
    go_region_held3 (fun W=>W.cell? ⟨gr,j,none⟩=some (.slice sp lz sc)∧W.cell? ⟨gs,j,none⟩=some (.slice sq ln sd))
     (with_reducible exact HKEEP.out _ FC.out) ((
     (go_at_call 22
      refine(HLK.out _ FC.out).mono ?_
      rintro e wl ⟨rfl,hfl⟩
      have FC:=Hd (FC.out.trans hfl)
      clear hfl)))
    go_wp2_with fail
    go_roundw
    case rel=>exact⟨j+1,by omega,by go_num,HFR.out.trans FC.out⟩
    case measure=>simp[intOf];omega
   ·obtain rfl:j=n:=by omega
    go_wp2_with fail
    go_ret
    exact⟨rfl,HF10.out.trans hfr⟩
theorem law_calls(lv bv:Value)(dict more:Int)(l:List Pz)(behind:List UInt8)(w:World)(hT:Tabs w)(hM:Ck.Moves w)(hr:RdP w lv l)(hwf:∀p ∈ l,p.Wf)(hrb:Rd w bv behind)(hc:costs l≤11534336)(hbl:behind.length≤1048576):
 Calls Tryz.prog 6 #[.agg #[.int .i64 dict,lv,.int .i64 more,bv]] w fun e w'=>e=.returned (.bool true)∧Fr (fun _=>False) w w':=by
 obtain⟨p0,cap0,rfl,_,_⟩:=hr.slice
 have hrb0:=hrb
 obtain⟨pb,capb,rfl,_⟩:=hrb0
 cases hres:buildP dict l with
 |error er=>exact parts_bad p0 pb cap0 capb dict more l behind w hT hM hr hwf hc er hres
 |ok b=>
   have hd:¬(dict<1∨4294967295<dict):=fun h=>by
    unfold buildP at hres
    rw[if_pos h] at hres
    exact absurd hres (by simp)
   obtain⟨d,rfl⟩:=Int.eq_ofNat_of_zero_le (show 0≤dict by omega)
   exact parts_good p0 pb cap0 capb d more l behind w hT hM hr hwf hrb hc hbl b hres
end Pa
end Go.Proofs.YtlgccpjccopdmaaGreatDoor
