/- Part 52 of 53: lemmas of the last part, each under the conditions that it names. -/
import Derived.Test.YtilegoadokmcdaaGreatDoorP35
import Derived.Test.YtilegoadokmcdaaGreatDoorP51
set_option linter.unusedVariables false
set_option linter.unusedSimpArgs false
set_option maxRecDepth 1500
set_option maxHeartbeats 8000000
namespace Go.Proofs.YtilegoadokmcdaaGreatDoor
open Go.RowKit
namespace Ap
open Mem Win Ck Ga Wire Lz St La Re
theorem _root_.Go.Proofs.YtilegoadokmcdaaGreatDoor.Ga.RowsY.base0{w0 w:World}{v:Value}{rs:List (List Sy)}(h:RowsY w0 w v rs):RowsY {w with heap:=#[]} w v rs:=by
 obtain⟨vs,h1,h2,h3,h4⟩:=h.ex
 exact⟨vs,⟨h1.own,fun _ _=>Nat.zero_le _⟩,h2,fun i x l hx hl=>⟨(h3 i x l hx hl).own,fun _ _=>Nat.zero_le _⟩,h4⟩
set_option maxRecDepth 100000 in
theorem reads_calls(b:List UInt8)(bv:Value)(dict packed size:Int)(w:World)(hT:St.Tabs w)(hM:Moves w)(hr:Rd w bv b)(hb:b.length≤4194304)(hp:packed≤9223372036854775807)(hs:size≤9223372036854775807):
 Calls Tryz.prog 3 #[.agg #[bv,.int .i64 dict,.int .i64 packed,.int .i64 size]] w fun e w'=>e=.returned (.bool true)∧Fr (fun _=>False) w w':=by
 obtain⟨pa,ca,rfl,h1,h2,h3⟩:=hr
 have hr:Rd w (.slice pa b.length ca) b:=⟨pa,ca,rfl,h1,h2,h3⟩
 clear h1 h2 h3
 have H5:=Hd (show∀W,Fr (fun _=>False) w W→5≤W.heap.size from fun W hf=>Nat.le_trans hT.size hf.size)
 have hf1:=(Fr.refl (fun _=>False) w).alloc (.cells #[.slice pa b.length ca,.int .i64 dict,.int .i64 packed,.int .i64 size] 24)
 have hx1:=heap_alloc_new w (.cells #[.slice pa b.length ca,.int .i64 dict,.int .i64 packed,.int .i64 size] 24)
 have HT:=Hd hT
 have HMV:=Hd hM
 have HR:=Hd hr
 have HRD:=fun W(hf:Fr (fun _=>False) w W)=>Hd (rdec_calls b (.slice pa b.length ca) dict packed size W (hr.keep hf) hb hp hs)
 have HRC:=fun W(hf:Fr (fun _=>False) w W)=>Hd (rchu_calls b W (.slice pa b.length ca) (hr.keep hf) hb)
 have HRS:=fun W(hf:Fr (fun _=>False) w W)=>Hd (rsym_calls b dict W (.slice pa b.length ca) (hr.keep hf) hb)
 have HROOM:=fun W(hf:Fr (fun _=>False) w W)=>Hd (room_calls b (.slice pa b.length ca) W (hr.keep hf) hb)
 have HFX:=fun W(hf:Fr (fun _=>False) w W)=>Hd (fixed_calls W (hT.keep hf) (hM.step hf (fun _ h=>h.elim)))
 have HX1:=Hd hx1
 have HF1:=Hd hf1
 have hcl:=cR_le b
 have hsl:=(sR_le b dict).1
 have hse:=(sR_le b dict).2
 have HLEN:=Hd (show(cR b).2.2.length≤1099511627776∧(sR b dict).2.length≤1099511627776∧∀l ∈ (sR b dict).2,l.length≤1099511627776 from⟨by omega,by omega,fun l hl=>by have:=hse l hl;omega⟩)
 have hx:=hx1
 obtain⟨a0,a1,a2,a3⟩:=cs4 hx rfl rfl rfl rfl
 clear hf1 hx1 hx hT hM hr hcl hsl hse hp hs
 unfold DP at HRD
 unfold CP at HRC
 unfold SP at HRS
 unfold RoomP at HROOM
 go_enter Tryz.func3,Tryz.ntmps3
 go_upto_region 1 with fail
 generalize w.heap.size=zb at*
 generalize World.alloc w _=w1 at*
 go_wp2_with fail
 refine(HROOM _ HF1.out).out.mono ?_
 rintro e w2 ⟨hf2,p,cap,rfl,hcap,hroom⟩
 have HRM:=Hd hroom
 have HF2:=Hd (HF1.out.trans hf2)
 have hx:=hf2.keep HX1.out (fun h=>h)
 have HX2:=Hd hx
 have HDC:=Hd (dec_calls b dict packed size w2 (.slice p b.length cap) (HT.out.keep HF2.out) (room_rd hroom) (HMV.out.step HF2.out (fun _ h=>h.elim)) hb)
 unfold DP at HDC
 clear a0 a1 a2 a3
 have a1:=cell_in (i:=1) hx rfl
 have a2:=cell_in (i:=2) hx rfl
 have a3:=cell_in (i:=3) hx rfl
 clear hf2 hroom hx
 go_wp2_with fail
 refine HDC.out.mono ?_
 rintro e w3 ⟨hf3,dv,rfl,hd3⟩
 have HF3:=Hd (HF2.out.trans hf3)
 have HRM3:=Hd (HRM.out.keep hf3)
 have hx:=hf3.keep HX2.out (fun h=>h)
 have HX3:=Hd hx
 have HD3:=Hd hd3
 obtain⟨pd,kd,rfl⟩:=hd3.slice
 clear a1 a2 a3
 obtain⟨a0,a1,a2,a3⟩:=cs4 hx rfl rfl rfl rfl
 clear hf3 hd3 hx
 go_wp2_with fail
 refine(HRD _ HF3.out).out.mono ?_
 rintro e w4 ⟨hf4,wv,rfl,hw4⟩
 have HF4:=Hd (HF3.out.trans hf4)
 have HRM4:=Hd (HRM3.out.keep hf4)
 have hx:=hf4.keep HX3.out (fun h=>h)
 have HX4:=Hd hx
 have HW4:=Hd hw4
 have hcv1:=conv_str (HD3.out.keep hf4).rd
 have hcv2:=conv_str hw4.rd
 obtain⟨pw,kw,rfl⟩:=hw4.slice
 have hss:((str (dR b dict packed size).2.2).toList !=(str (dR b dict packed size).2.2).toList)=false:=by simp
 have HHE:=Hd (held_calls p cap b (.slice pa b.length ca) w1 w4 HRM4.out hcap (HR.out.keep HF4.out) hb)
 unfold Yes at HHE
 clear a0 a1 a2 a3
 have a0:=cell_in (i:=0) hx rfl
 clear hf4 hw4 hx
 go_wp2_with fail
 refine HHE.out.mono ?_
 rintro e w5 ⟨rfl,m5,rfl⟩
 have hf5:=(Fr.refl (fun _=>False) w4).drewN m5
 go_wp2_with fail
 refine(HFX _ (HF4.out.trans hf5)).out.mono ?_
 rintro e w6 ⟨rfl,hf6⟩
 have HF6:=Hd (HF4.out.trans (hf5.trans hf6))
 have HRM6:=Hd (HRM4.out.keep (hf5.trans hf6))
 have hx:=(hf5.trans hf6).keep HX4.out (fun h=>h)
 have HX6:=Hd hx
 have HW6:=Hd (HW4.out.keep (hf5.trans hf6))
 have HCC:=Hd (chu_calls b w6 (.slice p b.length cap) (room_rd HRM6.out) (HMV.out.step HF6.out (fun _ h=>h.elim)) (H5.out _ HF6.out) hb)
 unfold CP at HCC
 clear a0 hcv1 hcv2 hf5 hf6 hx
 go_wp2_with fail
 refine HCC.out.mono ?_
 rintro e w7 ⟨hf7,cv,rfl,hc7⟩
 have HF7:=Hd (HF6.out.trans hf7)
 have HRM7:=Hd (HRM6.out.keep hf7)
 have hx:=hf7.keep HX6.out (fun h=>h)
 have HX7:=Hd hx
 have HW7:=Hd (HW6.out.keep hf7)
 have HC7:=Hd hc7
 have a0:=cell_in (i:=0) hx rfl
 clear hf7 hc7 hx
 go_wp2_with fail
 refine(HRC _ HF7.out).out.mono ?_
 rintro e w8 ⟨hf8,cw,rfl,hc8⟩
 have HF8:=Hd (HF7.out.trans hf8)
 have HRM8:=Hd (HRM7.out.keep hf8)
 have hx:=hf8.keep HX7.out (fun h=>h)
 have HX8:=Hd hx
 have HW8:=Hd (HW7.out.keep hf8)
 have HCW8:=Hd hc8
 have HHD:=Hd (heads_calls cv cw (cR b).2.2 _ _ w8 (Own.keep HC7.out hf8) hc8 HLEN.out.1)
 unfold Yes at HHD
 clear a0 hf8 hc8 hx
 go_wp2_with fail
 refine HHD.out.mono ?_
 rintro e w9 ⟨rfl,m9,rfl⟩
 have hf9:=(Fr.refl (fun _=>False) w8).drewN m9
 have HF9:=Hd (HF8.out.trans hf9)
 have HRM9:=Hd (HRM8.out.keep hf9)
 have hx:=hf9.keep HX8.out (fun h=>h)
 have HX9:=Hd hx
 have HW9:=Hd (HW8.out.keep hf9)
 have HCW9:=Hd (Own.keep HCW8.out hf9)
 generalize w8.drewN m9=w9 at*
 have a1:=cell_in (i:=1) hx rfl
 have HSC:=Hd (sym_calls b dict w9 (.slice p b.length cap) (HT.out.keep HF9.out) (room_rd HRM9.out) (HMV.out.step HF9.out (fun _ h=>h.elim)) hb)
 unfold SP at HSC
 clear hf9 hx
 go_wp2_with fail
 refine HSC.out.mono ?_
 rintro e w10 ⟨hf10,sv,rfl,hs10⟩
 have HF10:=Hd (HF9.out.trans hf10)
 have HRM10:=Hd (HRM9.out.keep hf10)
 have hx:=hf10.keep HX9.out (fun h=>h)
 have HX10:=Hd hx
 have HW10:=Hd (HW9.out.keep hf10)
 have HCW10:=Hd (Own.keep HCW9.out hf10)
 have HS10:=Hd hs10
 clear a1
 obtain⟨a0,a1⟩:=cs2 hx rfl rfl
 clear hf10 hs10 hx
 go_wp2_with fail
 refine(HRS _ HF10.out).out.mono ?_
 rintro e w11 ⟨hf11,sw,rfl,hs11⟩
 have HF11:=Hd (HF10.out.trans hf11)
 have HRM11:=Hd (HRM10.out.keep hf11)
 have hx:=hf11.keep HX10.out (fun h=>h)
 have HX11:=Hd hx
 have HW11:=Hd (HW10.out.keep hf11)
 have HCW11:=Hd (Own.keep HCW10.out hf11)
 have HSW11:=Hd hs11
 have HRW:=Hd (rows_calls sv sw (sR b dict).2 _ _ w11 (HS10.out.keep hf11) hs11 HLEN.out.2.1 HLEN.out.2.2)
 unfold Yes at HRW
 clear a0 a1
 clear hf11 hs11 hx
 go_wp2_with fail
 refine HRW.out.mono ?_
 rintro e w12 ⟨rfl,m12,rfl⟩
 have hf12:=(Fr.refl (fun _=>False) w11).drewN m12
 have HF12:=Hd (HF11.out.trans hf12)
 have HRM12:=Hd (HRM11.out.keep hf12)
 have hx:=hf12.keep HX11.out (fun h=>h)
 have HX12:=Hd hx
 have HW12:=Hd (HW11.out.keep hf12)
 have HCW12:=Hd (Own.keep HCW11.out hf12)
 have HSW12:=Hd (HSW11.out.keep hf12)
 generalize w11.drewN m12=w12 at*
 have a0:=cell_in (i:=0) hx rfl
 have HHE2:=Hd (held_calls p cap b (.slice pa b.length ca) w1 w12 HRM12.out hcap (HR.out.keep HF12.out) hb)
 unfold Yes at HHE2
 clear hf12 hx
 go_wp2_with fail
 refine HHE2.out.mono ?_
 rintro e w13 ⟨rfl,m13,rfl⟩
 have hf13:=(Fr.refl (fun _=>False) w12).drewN m13
 have HF13:=Hd (HF12.out.trans hf13)
 have hx:=hf13.keep HX12.out (fun h=>h)
 have HRM13:=Hd (HRM12.out.keep hf13)
 have HW13:=Hd (HW12.out.keep hf13)
 have HCW13:=Hd (Own.keep HCW12.out hf13)
 have HSW13:=Hd (HSW12.out.keep hf13)
 generalize w12.drewN m13=w13 at*
 clear a0
 obtain⟨a0,a1,a2,a3⟩:=cs4 hx rfl rfl rfl rfl
 have HAP:=Hd (apart_calls b p pa cap ca dict packed size _ cw sw {w13 with heap:=#[]} w13 (HT.out.keep HF13.out) (HMV.out.step HF13.out (fun _ h=>h.elim)) ⟨HRM13.out.own,fun _ _=>Nat.zero_le _⟩ hcap (HR.out.keep HF13.out) hb ⟨HW13.out.own,fun _ _=>Nat.zero_le _⟩ ⟨HCW13.out.own,fun _ _=>Nat.zero_le _⟩ (HSW13.out.base0))
 clear hf13 hx
 go_wp2_with fail
 refine HAP.out.mono ?_
 rintro e w14 ⟨rfl,hf14⟩
 have HF14:=Hd (HF13.out.trans hf14)
 clear hf14 a0 a1 a2 a3
 go_wp2_with fail
 go_ret
 exact⟨rfl,HF14.out⟩
end Ap
end Go.Proofs.YtilegoadokmcdaaGreatDoor
