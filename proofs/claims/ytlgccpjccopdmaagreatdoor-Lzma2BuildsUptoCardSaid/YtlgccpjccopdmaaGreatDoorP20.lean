/- Part 20 of 54: lemmas of the last part, each under the conditions that it names. -/
import Derived.Deep.RegionHeld3
import Derived.Test.YtlgccpjccopdmaaGreatDoorP14
import Derived.Test.YtlgccpjccopdmaaGreatDoorP17
import Derived.Test.YtlgccpjccopdmaaGreatDoorP19
set_option linter.unusedVariables false
set_option linter.unusedSimpArgs false
set_option maxRecDepth 1500
set_option maxHeartbeats 2000000
namespace Go.Proofs.YtlgccpjccopdmaaGreatDoor
open Go.RowKit
namespace Enc
open Mem Win
theorem hput_k3(n m lc lp pb:Nat)(hn:n<2097152)(hm:m<65536)(hl:lc+lp≤4)(hp:pb≤4)(w:World):Calls Tryz.prog 60 #[.agg #[.int .i64 3,.int .i64 (n+1:Nat),.int .i64 (m+1:Nat),.int .i64 lc,.int .i64 lp,.int .i64 pb]] w fun e w'=>Fr (fun _=>False) w w'∧∃p cap,e=.returned (.tuple #[.slice p 5 cap,.int .i64 0])∧Mine w w' (.slice p 5 cap) [UInt8.ofNat (128+32*0+n/65536),UInt8.ofNat (n/256),UInt8.ofNat (n%256),UInt8.ofNat (m/256),UInt8.ofNat (m%256)]:=by
 have HS:=fun W=>Hd (sized_packed 3 (n+1) (m+1) lc lp pb (by decide) W)
 rw[show En.sizedP (n+1) (m+1)=true by unfold En.sizedP;simp;omega] at HS
 have HF:=Hd ((Fr.refl (fun _=>False) w).alloc (.cells #[.int .i64 3,.int .i64 (n+1:Nat),.int .i64 (m+1:Nat),.int .i64 lc,.int .i64 lp,.int .i64 pb] 47))
 have hx:=heap_alloc_new w (.cells #[.int .i64 3,.int .i64 (n+1:Nat),.int .i64 (m+1:Nat),.int .i64 lc,.int .i64 lp,.int .i64 pb] 47)
 have HX:=Hd hx
 have y0:=cell_in (i:=0) hx rfl
 clear hx
 obtain⟨f,hf⟩:∃f:Nat,f=128+32*0+n/65536:=⟨_,rfl⟩
 have hf2:f<256:=by omega
 go_enter Tryz.func60,Tryz.ntmps60
 go_wp2_with fail
 refine(HS _).out.mono ?_
 rintro e w1 ⟨rfl,hfr⟩
 have hx1:=hfr.keep HX.out (fun h=>h)
 obtain⟨c0,c1⟩:=cs2 hx1 rfl rfl
 have HX1:=Hd hx1
 have HF1:=Hd (HF.out.trans hfr)
 clear hfr hx1 y0
 go_wp2_with fail
 refine(Wire.newWriter_calls _).mono ?_
 rintro e w2 ⟨rfl,hfr,hW⟩
 have hx2:=hfr.keep HX1.out (fun h=>h)
 obtain⟨d0,d1⟩:=cs2 hx2 rfl rfl
 have HX2:=Hd hx2
 have HF2:=Hd hfr
 have HW:=Hd hW
 clear hfr hx2 hW
 have WP:=fun(y:Int)(hy:y=(f:Int))=>Hd (show Calls Tryz.prog 103 #[.pointer (some ⟨w1.heap.size,0,none⟩),.slice (some ⟨w2.heap.size,0,none⟩) 1 1] (w2.alloc (.cells #[.int .u8 y] 5)) (fun e w3=>e=.returned (.tuple #[])∧∃v',Wire.Wr w1 w3 w1.heap.size v' [UInt8.ofNat f]∧Fr (fun k=>w1.heap.size≤k) w2 w3) from by
  have hA:=(Fr.refl (fun _=>False) w2).alloc (.cells #[.int .u8 y] 5)
  have hrd:=rd_one w2 w2.heap.size rfl (UInt8.ofNat f) y (by rw[hy,UInt8.toNat_ofNat'];omega)
  refine(Wire.wput_calls (w0:=w1) w1.heap.size (.slice none 0 0) [] [UInt8.ofNat f] (some ⟨w2.heap.size,0,none⟩) 1 1 ⟨hA.keep HW.out.box (fun h=>h),HW.out.own.keep hA,HW.out.new,HW.out.apart⟩ (Nat.le_trans HF2.out.size hA.size) hrd (by simp) rfl).mono ?_
  rintro e w3 ⟨rfl,v3,hW3,hfr3⟩
  exact⟨rfl,v3,hW3,(hA.mono (fun _ _ h=>h.elim)).trans hfr3⟩)
 go_wp2_with fail
 refine(WP _ ?_).out.mono ?_
 ·go_num
 rintro e w3 ⟨rfl,v3,hW3,hfr3⟩
 have hx3:=hfr3.keep HX2.out (by have:=lt_of_block HX1.out;omega)
 have HX3:=Hd hx3
 obtain⟨a0,a1,a2⟩:=cs3 hx3 rfl rfl rfl
 have HW3:=Hd hW3
 have HF3:=Hd (HF2.out.trans' hfr3 (fun k h1 h2=>by omega))
 clear hfr3 hx3 hW3 WP
 have HH1:=fun(y:Int)(hy:y=(n:Int))=>Hd (show Calls Tryz.prog 104 #[.pointer (some ⟨w1.heap.size,0,none⟩),.int .u64 y,.int .i64 2] w3 _ from hy ▸ Wire.whigh_calls (w0:=w1) w1.heap.size v3 [UInt8.ofNat f] n (by omega) HW3.out HF3.out.size (by simp))
 go_wp2_with fail
 refine(HH1 _ ?_).out.mono ?_
 ·go_num
 rintro e w4 ⟨rfl,v4,hW4,hfr4⟩
 have hx4:=hfr4.keep HX3.out (by have:=lt_of_block HX1.out;omega)
 have HX4:=Hd hx4
 have b0:=cell_in (i:=0) hx4 rfl
 have b2:=cell_in (i:=2) hx4 rfl
 have HW4:=Hd hW4
 have HF4:=Hd (HF3.out.trans' hfr4 (fun k h1 h2=>by omega))
 clear hfr4 hx4 hW4
 have HH2:=fun(y:Int)(hy:y=(m:Int))=>Hd (show Calls Tryz.prog 104 #[.pointer (some ⟨w1.heap.size,0,none⟩),.int .u64 y,.int .i64 2] w4 _ from hy ▸ Wire.whigh_calls (w0:=w1) w1.heap.size v4 ([UInt8.ofNat f]++[UInt8.ofNat (n/256),UInt8.ofNat (n%256)]) m (by omega) HW4.out HF4.out.size (by simp))
 go_wp2_with fail
 refine(HH2 _ ?_).out.mono ?_
 ·go_num
 rintro e w5 ⟨rfl,v5,hW5,hfr5⟩
 have hx5:=hfr5.keep HX4.out (by have:=lt_of_block HX1.out;omega)
 have HX5:=Hd hx5
 have g0:=cell_in (i:=0) hx5 rfl
 have HW5:=Hd hW5
 have HF5:=Hd (HF4.out.trans' hfr5 (fun k h1 h2=>by omega))
 clear hfr5 hx5 hW5
 go_wp2_with fail
 refine(Wire.bytes_calls (w0:=w1) w1.heap.size v5 _ HW5.out (by simp) (by simp)).mono ?_
 rintro e w8 ⟨hfr8,p,cap,rfl,hM⟩
 have HM:=Hd hM
 have HF8:=Hd (HF5.out.trans hfr8)
 clear hfr8 hM
 go_wp2_with fail
 go_ret2
 rw[←hf]
 exact⟨HF1.out.trans HF8.out,p,cap,rfl,HM.out.own,fun k hk=>Nat.le_trans (Nat.le_trans HF1.out.size HF5.out.size) (HM.out.new k hk)⟩
theorem hput_k4(n m lc lp pb:Nat)(hn:n<2097152)(hm:m<65536)(hl:lc+lp≤4)(hp:pb≤4)(w:World):Calls Tryz.prog 60 #[.agg #[.int .i64 4,.int .i64 (n+1:Nat),.int .i64 (m+1:Nat),.int .i64 lc,.int .i64 lp,.int .i64 pb]] w fun e w'=>Fr (fun _=>False) w w'∧∃p cap,e=.returned (.tuple #[.slice p 5 cap,.int .i64 0])∧Mine w w' (.slice p 5 cap) [UInt8.ofNat (128+32*1+n/65536),UInt8.ofNat (n/256),UInt8.ofNat (n%256),UInt8.ofNat (m/256),UInt8.ofNat (m%256)]:=by
 have HS:=fun W=>Hd (sized_packed 4 (n+1) (m+1) lc lp pb (by decide) W)
 rw[show En.sizedP (n+1) (m+1)=true by unfold En.sizedP;simp;omega] at HS
 have HF:=Hd ((Fr.refl (fun _=>False) w).alloc (.cells #[.int .i64 4,.int .i64 (n+1:Nat),.int .i64 (m+1:Nat),.int .i64 lc,.int .i64 lp,.int .i64 pb] 47))
 have hx:=heap_alloc_new w (.cells #[.int .i64 4,.int .i64 (n+1:Nat),.int .i64 (m+1:Nat),.int .i64 lc,.int .i64 lp,.int .i64 pb] 47)
 have HX:=Hd hx
 have y0:=cell_in (i:=0) hx rfl
 clear hx
 obtain⟨f,hf⟩:∃f:Nat,f=128+32*1+n/65536:=⟨_,rfl⟩
 have hf2:f<256:=by omega
 go_enter Tryz.func60,Tryz.ntmps60
 go_wp2_with fail
 refine(HS _).out.mono ?_
 rintro e w1 ⟨rfl,hfr⟩
 have hx1:=hfr.keep HX.out (fun h=>h)
 obtain⟨c0,c1⟩:=cs2 hx1 rfl rfl
 have HX1:=Hd hx1
 have HF1:=Hd (HF.out.trans hfr)
 clear hfr hx1 y0
 go_wp2_with fail
 refine(Wire.newWriter_calls _).mono ?_
 rintro e w2 ⟨rfl,hfr,hW⟩
 have hx2:=hfr.keep HX1.out (fun h=>h)
 obtain⟨d0,d1⟩:=cs2 hx2 rfl rfl
 have HX2:=Hd hx2
 have HF2:=Hd hfr
 have HW:=Hd hW
 clear hfr hx2 hW
 have WP:=fun(y:Int)(hy:y=(f:Int))=>Hd (show Calls Tryz.prog 103 #[.pointer (some ⟨w1.heap.size,0,none⟩),.slice (some ⟨w2.heap.size,0,none⟩) 1 1] (w2.alloc (.cells #[.int .u8 y] 5)) (fun e w3=>e=.returned (.tuple #[])∧∃v',Wire.Wr w1 w3 w1.heap.size v' [UInt8.ofNat f]∧Fr (fun k=>w1.heap.size≤k) w2 w3) from by
  have hA:=(Fr.refl (fun _=>False) w2).alloc (.cells #[.int .u8 y] 5)
  have hrd:=rd_one w2 w2.heap.size rfl (UInt8.ofNat f) y (by rw[hy,UInt8.toNat_ofNat'];omega)
  refine(Wire.wput_calls (w0:=w1) w1.heap.size (.slice none 0 0) [] [UInt8.ofNat f] (some ⟨w2.heap.size,0,none⟩) 1 1 ⟨hA.keep HW.out.box (fun h=>h),HW.out.own.keep hA,HW.out.new,HW.out.apart⟩ (Nat.le_trans HF2.out.size hA.size) hrd (by simp) rfl).mono ?_
  rintro e w3 ⟨rfl,v3,hW3,hfr3⟩
  exact⟨rfl,v3,hW3,(hA.mono (fun _ _ h=>h.elim)).trans hfr3⟩)
 go_wp2_with fail
 refine(WP _ ?_).out.mono ?_
 ·go_num
 rintro e w3 ⟨rfl,v3,hW3,hfr3⟩
 have hx3:=hfr3.keep HX2.out (by have:=lt_of_block HX1.out;omega)
 have HX3:=Hd hx3
 obtain⟨a0,a1,a2⟩:=cs3 hx3 rfl rfl rfl
 have HW3:=Hd hW3
 have HF3:=Hd (HF2.out.trans' hfr3 (fun k h1 h2=>by omega))
 clear hfr3 hx3 hW3 WP
 have HH1:=fun(y:Int)(hy:y=(n:Int))=>Hd (show Calls Tryz.prog 104 #[.pointer (some ⟨w1.heap.size,0,none⟩),.int .u64 y,.int .i64 2] w3 _ from hy ▸ Wire.whigh_calls (w0:=w1) w1.heap.size v3 [UInt8.ofNat f] n (by omega) HW3.out HF3.out.size (by simp))
 go_wp2_with fail
 refine(HH1 _ ?_).out.mono ?_
 ·go_num
 rintro e w4 ⟨rfl,v4,hW4,hfr4⟩
 have hx4:=hfr4.keep HX3.out (by have:=lt_of_block HX1.out;omega)
 have HX4:=Hd hx4
 have b0:=cell_in (i:=0) hx4 rfl
 have b2:=cell_in (i:=2) hx4 rfl
 have HW4:=Hd hW4
 have HF4:=Hd (HF3.out.trans' hfr4 (fun k h1 h2=>by omega))
 clear hfr4 hx4 hW4
 have HH2:=fun(y:Int)(hy:y=(m:Int))=>Hd (show Calls Tryz.prog 104 #[.pointer (some ⟨w1.heap.size,0,none⟩),.int .u64 y,.int .i64 2] w4 _ from hy ▸ Wire.whigh_calls (w0:=w1) w1.heap.size v4 ([UInt8.ofNat f]++[UInt8.ofNat (n/256),UInt8.ofNat (n%256)]) m (by omega) HW4.out HF4.out.size (by simp))
 go_wp2_with fail
 refine(HH2 _ ?_).out.mono ?_
 ·go_num
 rintro e w5 ⟨rfl,v5,hW5,hfr5⟩
 have hx5:=hfr5.keep HX4.out (by have:=lt_of_block HX1.out;omega)
 have HX5:=Hd hx5
 have g0:=cell_in (i:=0) hx5 rfl
 have HW5:=Hd hW5
 have HF5:=Hd (HF4.out.trans' hfr5 (fun k h1 h2=>by omega))
 clear hfr5 hx5 hW5
 go_wp2_with fail
 refine(Wire.bytes_calls (w0:=w1) w1.heap.size v5 _ HW5.out (by simp) (by simp)).mono ?_
 rintro e w8 ⟨hfr8,p,cap,rfl,hM⟩
 have HM:=Hd hM
 have HF8:=Hd (HF5.out.trans hfr8)
 clear hfr8 hM
 go_wp2_with fail
 go_ret2
 rw[←hf]
 exact⟨HF1.out.trans HF8.out,p,cap,rfl,HM.out.own,fun k hk=>Nat.le_trans (Nat.le_trans HF1.out.size HF5.out.size) (HM.out.new k hk)⟩
theorem hput_k5(n m lc lp pb:Nat)(hn:n<2097152)(hm:m<65536)(hl:lc+lp≤4)(hp:pb≤4)(w:World):Calls Tryz.prog 60 #[.agg #[.int .i64 5,.int .i64 (n+1:Nat),.int .i64 (m+1:Nat),.int .i64 lc,.int .i64 lp,.int .i64 pb]] w fun e w'=>Fr (fun _=>False) w w'∧∃p cap,e=.returned (.tuple #[.slice p 6 cap,.int .i64 0])∧Mine w w' (.slice p 6 cap) [UInt8.ofNat (128+32*2+n/65536),UInt8.ofNat (n/256),UInt8.ofNat (n%256),UInt8.ofNat (m/256),UInt8.ofNat (m%256),UInt8.ofNat ((5*pb+lp)*9+lc)]:=by
 have HS:=fun W=>Hd (sized_packed 5 (n+1) (m+1) lc lp pb (by decide) W)
 rw[show En.sizedP (n+1) (m+1)=true by unfold En.sizedP;simp;omega] at HS
 have HF:=Hd ((Fr.refl (fun _=>False) w).alloc (.cells #[.int .i64 5,.int .i64 (n+1:Nat),.int .i64 (m+1:Nat),.int .i64 lc,.int .i64 lp,.int .i64 pb] 47))
 have hx:=heap_alloc_new w (.cells #[.int .i64 5,.int .i64 (n+1:Nat),.int .i64 (m+1:Nat),.int .i64 lc,.int .i64 lp,.int .i64 pb] 47)
 have HX:=Hd hx
 have y0:=cell_in (i:=0) hx rfl
 clear hx
 obtain⟨f,hf⟩:∃f:Nat,f=128+32*2+n/65536:=⟨_,rfl⟩
 have hf2:f<256:=by omega
 go_enter Tryz.func60,Tryz.ntmps60
 go_wp2_with fail
 refine(HS _).out.mono ?_
 rintro e w1 ⟨rfl,hfr⟩
 have hx1:=hfr.keep HX.out (fun h=>h)
 obtain⟨c0,c1⟩:=cs2 hx1 rfl rfl
 have HX1:=Hd hx1
 have HF1:=Hd (HF.out.trans hfr)
 clear hfr hx1 y0
 go_wp2_with fail
 refine(Wire.newWriter_calls _).mono ?_
 rintro e w2 ⟨rfl,hfr,hW⟩
 have hx2:=hfr.keep HX1.out (fun h=>h)
 obtain⟨d0,d1⟩:=cs2 hx2 rfl rfl
 have HX2:=Hd hx2
 have HF2:=Hd hfr
 have HW:=Hd hW
 clear hfr hx2 hW
 have WP:=fun(y:Int)(hy:y=(f:Int))=>Hd (show Calls Tryz.prog 103 #[.pointer (some ⟨w1.heap.size,0,none⟩),.slice (some ⟨w2.heap.size,0,none⟩) 1 1] (w2.alloc (.cells #[.int .u8 y] 5)) (fun e w3=>e=.returned (.tuple #[])∧∃v',Wire.Wr w1 w3 w1.heap.size v' [UInt8.ofNat f]∧Fr (fun k=>w1.heap.size≤k) w2 w3) from by
  have hA:=(Fr.refl (fun _=>False) w2).alloc (.cells #[.int .u8 y] 5)
  have hrd:=rd_one w2 w2.heap.size rfl (UInt8.ofNat f) y (by rw[hy,UInt8.toNat_ofNat'];omega)
  refine(Wire.wput_calls (w0:=w1) w1.heap.size (.slice none 0 0) [] [UInt8.ofNat f] (some ⟨w2.heap.size,0,none⟩) 1 1 ⟨hA.keep HW.out.box (fun h=>h),HW.out.own.keep hA,HW.out.new,HW.out.apart⟩ (Nat.le_trans HF2.out.size hA.size) hrd (by simp) rfl).mono ?_
  rintro e w3 ⟨rfl,v3,hW3,hfr3⟩
  exact⟨rfl,v3,hW3,(hA.mono (fun _ _ h=>h.elim)).trans hfr3⟩)
 go_wp2_with fail
 refine(WP _ ?_).out.mono ?_
 ·go_num
 rintro e w3 ⟨rfl,v3,hW3,hfr3⟩
 have hx3:=hfr3.keep HX2.out (by have:=lt_of_block HX1.out;omega)
 have HX3:=Hd hx3
 obtain⟨a0,a1,a2⟩:=cs3 hx3 rfl rfl rfl
 have HW3:=Hd hW3
 have HF3:=Hd (HF2.out.trans' hfr3 (fun k h1 h2=>by omega))
 clear hfr3 hx3 hW3 WP
 have HH1:=fun(y:Int)(hy:y=(n:Int))=>Hd (show Calls Tryz.prog 104 #[.pointer (some ⟨w1.heap.size,0,none⟩),.int .u64 y,.int .i64 2] w3 _ from hy ▸ Wire.whigh_calls (w0:=w1) w1.heap.size v3 [UInt8.ofNat f] n (by omega) HW3.out HF3.out.size (by simp))
 go_wp2_with fail
 refine(HH1 _ ?_).out.mono ?_
 ·go_num
 rintro e w4 ⟨rfl,v4,hW4,hfr4⟩
 have hx4:=hfr4.keep HX3.out (by have:=lt_of_block HX1.out;omega)
 have HX4:=Hd hx4
 have b0:=cell_in (i:=0) hx4 rfl
 have b2:=cell_in (i:=2) hx4 rfl
 have HW4:=Hd hW4
 have HF4:=Hd (HF3.out.trans' hfr4 (fun k h1 h2=>by omega))
 clear hfr4 hx4 hW4
 have HH2:=fun(y:Int)(hy:y=(m:Int))=>Hd (show Calls Tryz.prog 104 #[.pointer (some ⟨w1.heap.size,0,none⟩),.int .u64 y,.int .i64 2] w4 _ from hy ▸ Wire.whigh_calls (w0:=w1) w1.heap.size v4 ([UInt8.ofNat f]++[UInt8.ofNat (n/256),UInt8.ofNat (n%256)]) m (by omega) HW4.out HF4.out.size (by simp))
 go_wp2_with fail
 refine(HH2 _ ?_).out.mono ?_
 ·go_num
 rintro e w5 ⟨rfl,v5,hW5,hfr5⟩
 have hx5:=hfr5.keep HX4.out (by have:=lt_of_block HX1.out;omega)
 have HX5:=Hd hx5
 have g0:=cell_in (i:=0) hx5 rfl
 have g3:=cell_in (i:=3) hx5 rfl
 have g4:=cell_in (i:=4) hx5 rfl
 have g5:=cell_in (i:=5) hx5 rfl
 have HW5:=Hd hW5
 have HF5:=Hd (HF4.out.trans' hfr5 (fun k h1 h2=>by omega))
 clear hfr5 hx5 hW5
 go_wp2_with fail
 refine(St.propsV_calls lc lp pb hl hp _).mono ?_
 rintro e w6 ⟨rfl,hfr6⟩
 obtain⟨q,hq⟩:∃q:Nat,q=(5*pb+lp)*9+lc:=⟨_,rfl⟩
 have hq2:q<256:=by omega
 rw[←hq]
 have HW6:=Hd (show Wire.Wr w1 w6 w1.heap.size v5 _ from⟨hfr6.keep HW5.out.box (fun h=>h),HW5.out.own.keep hfr6,HW5.out.new,HW5.out.apart⟩)
 have HF6:=Hd (HF5.out.trans hfr6)
 clear hfr6
 have WP2:=fun(y:Int)(hy:y=(q:Int))=>Hd (show Calls Tryz.prog 103 #[.pointer (some ⟨w1.heap.size,0,none⟩),.slice (some ⟨w6.heap.size,0,none⟩) 1 1] (w6.alloc (.cells #[.int .u8 y] 5)) (fun e w7=>e=.returned (.tuple #[])∧∃v',Wire.Wr w1 w7 w1.heap.size v' (([UInt8.ofNat f]++[UInt8.ofNat (n/256),UInt8.ofNat (n%256)])++[UInt8.ofNat (m/256),UInt8.ofNat (m%256)]++[UInt8.ofNat q])∧Fr (fun k=>w1.heap.size≤k) w6 w7) from by
  have hA:=(Fr.refl (fun _=>False) w6).alloc (.cells #[.int .u8 y] 5)
  have hrd:=rd_one w6 w6.heap.size rfl (UInt8.ofNat q) y (by rw[hy,UInt8.toNat_ofNat'];omega)
  refine(Wire.wput_calls (w0:=w1) w1.heap.size v5 _ [UInt8.ofNat q] (some ⟨w6.heap.size,0,none⟩) 1 1 ⟨hA.keep HW6.out.box (fun h=>h),HW6.out.own.keep hA,HW6.out.new,HW6.out.apart⟩ (Nat.le_trans HF6.out.size hA.size) hrd (by simp) rfl).mono ?_
  rintro e w7 ⟨rfl,v7,hW7,hfr7⟩
  exact⟨rfl,v7,hW7,(hA.mono (fun _ _ h=>h.elim)).trans hfr7⟩)
 go_wp2_with fail
 refine(WP2 _ ?_).out.mono ?_
 ·go_num
 rintro e w7 ⟨rfl,v7,hW7,hfr7⟩
 have HW7:=Hd hW7
 have HF7:=Hd (HF6.out.trans' hfr7 (fun k h1 h2=>by omega))
 clear hfr7 hW7 WP2
 go_wp2_with fail
 refine(Wire.bytes_calls (w0:=w1) w1.heap.size v7 _ HW7.out (by simp) (by simp)).mono ?_
 rintro e w8 ⟨hfr8,p,cap,rfl,hM⟩
 have HM:=Hd hM
 have HF8:=Hd (HF7.out.trans hfr8)
 clear hfr8 hM
 go_wp2_with fail
 go_ret2
 rw[←hf,←hq]
 exact⟨HF1.out.trans HF8.out,p,cap,rfl,HM.out.own,fun k hk=>Nat.le_trans (Nat.le_trans HF1.out.size HF7.out.size) (HM.out.new k hk)⟩
theorem hput_k6(n m lc lp pb:Nat)(hn:n<2097152)(hm:m<65536)(hl:lc+lp≤4)(hp:pb≤4)(w:World):Calls Tryz.prog 60 #[.agg #[.int .i64 6,.int .i64 (n+1:Nat),.int .i64 (m+1:Nat),.int .i64 lc,.int .i64 lp,.int .i64 pb]] w fun e w'=>Fr (fun _=>False) w w'∧∃p cap,e=.returned (.tuple #[.slice p 6 cap,.int .i64 0])∧Mine w w' (.slice p 6 cap) [UInt8.ofNat (128+32*3+n/65536),UInt8.ofNat (n/256),UInt8.ofNat (n%256),UInt8.ofNat (m/256),UInt8.ofNat (m%256),UInt8.ofNat ((5*pb+lp)*9+lc)]:=by
 have HS:=fun W=>Hd (sized_packed 6 (n+1) (m+1) lc lp pb (by decide) W)
 rw[show En.sizedP (n+1) (m+1)=true by unfold En.sizedP;simp;omega] at HS
 have HF:=Hd ((Fr.refl (fun _=>False) w).alloc (.cells #[.int .i64 6,.int .i64 (n+1:Nat),.int .i64 (m+1:Nat),.int .i64 lc,.int .i64 lp,.int .i64 pb] 47))
 have hx:=heap_alloc_new w (.cells #[.int .i64 6,.int .i64 (n+1:Nat),.int .i64 (m+1:Nat),.int .i64 lc,.int .i64 lp,.int .i64 pb] 47)
 have HX:=Hd hx
 have y0:=cell_in (i:=0) hx rfl
 clear hx
 obtain⟨f,hf⟩:∃f:Nat,f=128+32*3+n/65536:=⟨_,rfl⟩
 have hf2:f<256:=by omega
 go_enter Tryz.func60,Tryz.ntmps60
 go_wp2_with fail
 refine(HS _).out.mono ?_
 rintro e w1 ⟨rfl,hfr⟩
 have hx1:=hfr.keep HX.out (fun h=>h)
 obtain⟨c0,c1⟩:=cs2 hx1 rfl rfl
 have HX1:=Hd hx1
 have HF1:=Hd (HF.out.trans hfr)
 clear hfr hx1 y0
 go_wp2_with fail
 refine(Wire.newWriter_calls _).mono ?_
 rintro e w2 ⟨rfl,hfr,hW⟩
 have hx2:=hfr.keep HX1.out (fun h=>h)
 obtain⟨d0,d1⟩:=cs2 hx2 rfl rfl
 have HX2:=Hd hx2
 have HF2:=Hd hfr
 have HW:=Hd hW
 clear hfr hx2 hW
 have WP:=fun(y:Int)(hy:y=(f:Int))=>Hd (show Calls Tryz.prog 103 #[.pointer (some ⟨w1.heap.size,0,none⟩),.slice (some ⟨w2.heap.size,0,none⟩) 1 1] (w2.alloc (.cells #[.int .u8 y] 5)) (fun e w3=>e=.returned (.tuple #[])∧∃v',Wire.Wr w1 w3 w1.heap.size v' [UInt8.ofNat f]∧Fr (fun k=>w1.heap.size≤k) w2 w3) from by
  have hA:=(Fr.refl (fun _=>False) w2).alloc (.cells #[.int .u8 y] 5)
  have hrd:=rd_one w2 w2.heap.size rfl (UInt8.ofNat f) y (by rw[hy,UInt8.toNat_ofNat'];omega)
  refine(Wire.wput_calls (w0:=w1) w1.heap.size (.slice none 0 0) [] [UInt8.ofNat f] (some ⟨w2.heap.size,0,none⟩) 1 1 ⟨hA.keep HW.out.box (fun h=>h),HW.out.own.keep hA,HW.out.new,HW.out.apart⟩ (Nat.le_trans HF2.out.size hA.size) hrd (by simp) rfl).mono ?_
  rintro e w3 ⟨rfl,v3,hW3,hfr3⟩
  exact⟨rfl,v3,hW3,(hA.mono (fun _ _ h=>h.elim)).trans hfr3⟩)
 go_wp2_with fail
 refine(WP _ ?_).out.mono ?_
 ·go_num
 rintro e w3 ⟨rfl,v3,hW3,hfr3⟩
 have hx3:=hfr3.keep HX2.out (by have:=lt_of_block HX1.out;omega)
 have HX3:=Hd hx3
 obtain⟨a0,a1,a2⟩:=cs3 hx3 rfl rfl rfl
 have HW3:=Hd hW3
 have HF3:=Hd (HF2.out.trans' hfr3 (fun k h1 h2=>by omega))
 clear hfr3 hx3 hW3 WP
 have HH1:=fun(y:Int)(hy:y=(n:Int))=>Hd (show Calls Tryz.prog 104 #[.pointer (some ⟨w1.heap.size,0,none⟩),.int .u64 y,.int .i64 2] w3 _ from hy ▸ Wire.whigh_calls (w0:=w1) w1.heap.size v3 [UInt8.ofNat f] n (by omega) HW3.out HF3.out.size (by simp))
 go_wp2_with fail
 refine(HH1 _ ?_).out.mono ?_
 ·go_num
 rintro e w4 ⟨rfl,v4,hW4,hfr4⟩
 have hx4:=hfr4.keep HX3.out (by have:=lt_of_block HX1.out;omega)
 have HX4:=Hd hx4
 have b0:=cell_in (i:=0) hx4 rfl
 have b2:=cell_in (i:=2) hx4 rfl
 have HW4:=Hd hW4
 have HF4:=Hd (HF3.out.trans' hfr4 (fun k h1 h2=>by omega))
 clear hfr4 hx4 hW4
 have HH2:=fun(y:Int)(hy:y=(m:Int))=>Hd (show Calls Tryz.prog 104 #[.pointer (some ⟨w1.heap.size,0,none⟩),.int .u64 y,.int .i64 2] w4 _ from hy ▸ Wire.whigh_calls (w0:=w1) w1.heap.size v4 ([UInt8.ofNat f]++[UInt8.ofNat (n/256),UInt8.ofNat (n%256)]) m (by omega) HW4.out HF4.out.size (by simp))
 go_wp2_with fail
 refine(HH2 _ ?_).out.mono ?_
 ·go_num
 rintro e w5 ⟨rfl,v5,hW5,hfr5⟩
 have hx5:=hfr5.keep HX4.out (by have:=lt_of_block HX1.out;omega)
 have HX5:=Hd hx5
 have g0:=cell_in (i:=0) hx5 rfl
 have g3:=cell_in (i:=3) hx5 rfl
 have g4:=cell_in (i:=4) hx5 rfl
 have g5:=cell_in (i:=5) hx5 rfl
 have HW5:=Hd hW5
 have HF5:=Hd (HF4.out.trans' hfr5 (fun k h1 h2=>by omega))
 clear hfr5 hx5 hW5
 go_wp2_with fail
 refine(St.propsV_calls lc lp pb hl hp _).mono ?_
 rintro e w6 ⟨rfl,hfr6⟩
 obtain⟨q,hq⟩:∃q:Nat,q=(5*pb+lp)*9+lc:=⟨_,rfl⟩
 have hq2:q<256:=by omega
 rw[←hq]
 have HW6:=Hd (show Wire.Wr w1 w6 w1.heap.size v5 _ from⟨hfr6.keep HW5.out.box (fun h=>h),HW5.out.own.keep hfr6,HW5.out.new,HW5.out.apart⟩)
 have HF6:=Hd (HF5.out.trans hfr6)
 clear hfr6
 have WP2:=fun(y:Int)(hy:y=(q:Int))=>Hd (show Calls Tryz.prog 103 #[.pointer (some ⟨w1.heap.size,0,none⟩),.slice (some ⟨w6.heap.size,0,none⟩) 1 1] (w6.alloc (.cells #[.int .u8 y] 5)) (fun e w7=>e=.returned (.tuple #[])∧∃v',Wire.Wr w1 w7 w1.heap.size v' (([UInt8.ofNat f]++[UInt8.ofNat (n/256),UInt8.ofNat (n%256)])++[UInt8.ofNat (m/256),UInt8.ofNat (m%256)]++[UInt8.ofNat q])∧Fr (fun k=>w1.heap.size≤k) w6 w7) from by
  have hA:=(Fr.refl (fun _=>False) w6).alloc (.cells #[.int .u8 y] 5)
  have hrd:=rd_one w6 w6.heap.size rfl (UInt8.ofNat q) y (by rw[hy,UInt8.toNat_ofNat'];omega)
  refine(Wire.wput_calls (w0:=w1) w1.heap.size v5 _ [UInt8.ofNat q] (some ⟨w6.heap.size,0,none⟩) 1 1 ⟨hA.keep HW6.out.box (fun h=>h),HW6.out.own.keep hA,HW6.out.new,HW6.out.apart⟩ (Nat.le_trans HF6.out.size hA.size) hrd (by simp) rfl).mono ?_
  rintro e w7 ⟨rfl,v7,hW7,hfr7⟩
  exact⟨rfl,v7,hW7,(hA.mono (fun _ _ h=>h.elim)).trans hfr7⟩)
 go_wp2_with fail
 refine(WP2 _ ?_).out.mono ?_
 ·go_num
 rintro e w7 ⟨rfl,v7,hW7,hfr7⟩
 have HW7:=Hd hW7
 have HF7:=Hd (HF6.out.trans' hfr7 (fun k h1 h2=>by omega))
 clear hfr7 hW7 WP2
 go_wp2_with fail
 refine(Wire.bytes_calls (w0:=w1) w1.heap.size v7 _ HW7.out (by simp) (by simp)).mono ?_
 rintro e w8 ⟨hfr8,p,cap,rfl,hM⟩
 have HM:=Hd hM
 have HF8:=Hd (HF7.out.trans hfr8)
 clear hfr8 hM
 go_wp2_with fail
 go_ret2
 rw[←hf,←hq]
 exact⟨HF1.out.trans HF8.out,p,cap,rfl,HM.out.own,fun k hk=>Nat.le_trans (Nat.le_trans HF1.out.size HF7.out.size) (HM.out.new k hk)⟩
end Enc
namespace Enc
open Mem Win
def okS(k n m:Nat):Bool:=if k≤2 then decide (1≤n∧n≤65536) else En.sizedP n m
theorem hput_no(k n m lc lp pb:Nat)(hk:1≤k∧k≤6)(w:World)(HS:∀W,Calls Tryz.prog 101 #[.agg #[.int .i64 k,.int .i64 n,.int .i64 m,.int .i64 lc,.int .i64 lp,.int .i64 pb]] W fun e w'=>e=.returned (.bool false)∧Fr (fun _=>False) W w'):
 Calls Tryz.prog 60 #[.agg #[.int .i64 k,.int .i64 n,.int .i64 m,.int .i64 lc,.int .i64 lp,.int .i64 pb]] w fun e w'=>e=.returned (.tuple #[.slice none 0 0,.int .i64 7])∧Fr (fun _=>False) w w':=by
 have HF:=Hd ((Fr.refl (fun _=>False) w).alloc (.cells #[.int .i64 k,.int .i64 n,.int .i64 m,.int .i64 lc,.int .i64 lp,.int .i64 pb] 47))
 have t1:decide ((k:Int)<0)=false:=decide_eq_false (by omega)
 have t2:decide ((k:Int)≥7)=false:=decide_eq_false (by omega)
 have t3:decide ((7:Int)≤k)=false:=decide_eq_false (by omega)
 have HS:=fun W=>Hd (HS W)
 go_enter Tryz.func60,Tryz.ntmps60
 go_wp2_with fail
 refine(HS _).out.mono ?_
 rintro e w1 ⟨rfl,hfr⟩
 have HF1:=Hd (HF.out.trans hfr)
 clear hfr
 go_wp2_with fail
 go_ret2
 exact⟨rfl,HF1.out⟩
theorem u8_mod(a:Nat):UInt8.ofNat (a%256)=UInt8.ofNat a:=by
 apply UInt8.toNat_inj.1
 rw[UInt8.toNat_ofNat',UInt8.toNat_ofNat',Nat.mod_mod]
theorem hput_any(k n m lc lp pb:Nat)(hk:1≤k∧k≤6)(hnm:k≤2→m=n)(hl:lc+lp≤4)(hp:pb≤4)(w:World):
 Calls Tryz.prog 60 #[.agg #[.int .i64 k,.int .i64 n,.int .i64 m,.int .i64 lc,.int .i64 lp,.int .i64 pb]] w fun e w'=>Fr (fun _=>False) w w'∧∃hv,e=.returned (.tuple #[hv,.int .i64 (if okS k n m=true then 0 else 7)])∧(okS k n m=true→Mine w w' hv (En.headB (if k<5 then⟨k,n,m,0,0,0⟩ else⟨k,n,m,lc,lp,pb⟩))):=by
 by_cases h:okS k n m=true
 ·rw[if_pos h]
  by_cases h2:k≤2
  ·obtain rfl:=hnm h2
   unfold okS at h
   rw[if_pos h2,decide_eq_true_eq] at h
   obtain⟨q,rfl⟩:∃q,m=q+1:=⟨m-1,by omega⟩
   refine(hput_raw k q lc lp pb (by omega) (by omega) w).mono ?_
   rintro e w' ⟨hf,p,cap,rfl,hM⟩
   refine⟨hf,_,rfl,fun _=> ?_⟩
   rw[if_pos (by omega)]
   unfold En.headB
   rw[if_neg (by simp only;omega),if_pos h2]
   exact hM
  ·unfold okS En.sizedP at h
   rw[if_neg h2,decide_eq_true_eq] at h
   obtain⟨q,rfl⟩:∃q,n=q+1:=⟨n-1,by omega⟩
   obtain⟨r,rfl⟩:∃r,m=r+1:=⟨m-1,by omega⟩
   obtain rfl|rfl|rfl|rfl:k=3∨k=4∨k=5∨k=6:=by omega
   ·refine(hput_k3 q r lc lp pb (by omega) (by omega) hl hp w).mono ?_
    rintro e w' ⟨hf,p,cap,rfl,hM⟩
    refine⟨hf,_,rfl,fun _=> ?_⟩
    rw[if_pos (by decide)]
    simp only[En.headB,Nat.add_sub_cancel,u8_mod] at hM ⊢
    exact hM
   ·refine(hput_k4 q r lc lp pb (by omega) (by omega) hl hp w).mono ?_
    rintro e w' ⟨hf,p,cap,rfl,hM⟩
    refine⟨hf,_,rfl,fun _=> ?_⟩
    rw[if_pos (by decide)]
    simp only[En.headB,Nat.add_sub_cancel,u8_mod] at hM ⊢
    exact hM
   ·refine(hput_k5 q r lc lp pb (by omega) (by omega) hl hp w).mono ?_
    rintro e w' ⟨hf,p,cap,rfl,hM⟩
    refine⟨hf,_,rfl,fun _=> ?_⟩
    rw[if_neg (by decide)]
    simp only[En.headB,Nat.add_sub_cancel,u8_mod] at hM ⊢
    exact hM
   ·refine(hput_k6 q r lc lp pb (by omega) (by omega) hl hp w).mono ?_
    rintro e w' ⟨hf,p,cap,rfl,hM⟩
    refine⟨hf,_,rfl,fun _=> ?_⟩
    rw[if_neg (by decide)]
    simp only[En.headB,Nat.add_sub_cancel,u8_mod] at hM ⊢
    exact hM
 ·rw[if_neg h]
  have hS:∀W,Calls Tryz.prog 101 #[.agg #[.int .i64 k,.int .i64 n,.int .i64 m,.int .i64 lc,.int .i64 lp,.int .i64 pb]] W fun e w'=>e=.returned (.bool false)∧Fr (fun _=>False) W w':=by
   intro W
   by_cases h2:k≤2
   ·obtain rfl:=hnm h2
    unfold okS at h
    rw[if_pos h2] at h
    have:=sized_raw k m lc lp pb (by omega) W
    rw[show decide (1≤m∧m≤65536)=false by simpa using h] at this
    exact this
   ·unfold okS at h
    rw[if_neg h2] at h
    have:=sized_packed k n m lc lp pb (by omega) W
    rw[show En.sizedP n m=false by simpa using h] at this
    exact this
  refine(hput_no k n m lc lp pb hk w hS).mono ?_
  rintro e w' ⟨rfl,hf⟩
  exact⟨hf,_,rfl,fun h'=>absurd h' h⟩
end Enc
namespace St
open Mem
set_option maxRecDepth 100000 in
theorem size_in(y:Sy)(hy:y.Ok)(w:World)(hT:Tabs w)(ln dn:Int)(hnd:y.kind=2∨y.kind=3→ln=y.len∧dn=y.dist)(HN0:∀W,Tabs W→Calls Tryz.prog 97 #[.agg S.new.cells,.agg #[.int .i64 y.kind,.int .u8 y.byte,.int .i64 ln,.int .i64 dn]] W fun e w'=>e=.returned (.tuple #[.agg (S.new.next y).2.cells,.int .i64 (S.new.next y).1])∧Fr (fun _=>False) W w'):
    Calls Tryz.prog 94 #[.agg #[.int .i64 y.kind,.int .u8 y.byte,.int .i64 ln,.int .i64 dn]] w fun e w'=>e=.returned (.int .i64 (size y))∧Fr (fun _=>False) w w':=by
  have herr:=S.next_err S.new y
  generalize hsz:size y=sz
  unfold size at hsz
  have HN:=fun W(h:Tabs W)=>Hd (HN0 W h)
  clear HN0
  obtain⟨kind,byte,len,dist⟩:=y
  have hk:=hy.kind
  simp only at hk hsz hnd HN ⊢
  clear hy
  have HND:=Hd hnd
  clear hnd
  generalize S.new.next ⟨kind,byte,len,dist⟩=r at*
  obtain⟨er,rn,ra,rb,rc,rd⟩:=r
  simp only at herr hsz HN
  have HN2:∀W,Tabs W→Hid (Calls Tryz.prog 97 #[.agg S.new.cells,.agg #[.int .i64 kind,.int .u8 byte,.int .i64 ln,.int .i64 dn]] W fun e w'=>e=.returned (.tuple #[.agg #[.int .i64 rn,.int .i64 ra,.int .i64 rb,.int .i64 rc,.int .i64 rd],.int .i64 er])∧Fr (fun _=>False) W w'):=HN
  clear HN
  have HN:=HN2
  clear HN2
  have HSZ:=Hd hsz
  have hbx:=heap_alloc_new w (.cells #[.int .i64 kind,.int .u8 byte,.int .i64 ln,.int .i64 dn] 96)
  have hf0:=(Fr.refl (fun _=>False) w).alloc (.cells #[.int .i64 kind,.int .u8 byte,.int .i64 ln,.int .i64 dn] 96)
  have HT:=Hd (hT.keep hf0)
  have HF0:=Hd hf0
  have hS:∀w':World,Fr (fun _=>False) (w.alloc (.cells #[.int .i64 kind,.int .u8 byte,.int .i64 ln,.int .i64 dn] 96)) w'→w'.cell? ⟨w.heap.size,0,none⟩=some (.int .i64 kind)∧w'.cell? ⟨w.heap.size,1,none⟩=some (.int .u8 byte)∧w'.cell? ⟨w.heap.size,2,none⟩=some (.int .i64 ln)∧w'.cell? ⟨w.heap.size,3,none⟩=some (.int .i64 dn):=fun w' h=>
    ⟨cell_in (i:=0) (h.keep hbx (fun h=>h)) rfl,cell_in (i:=1) (h.keep hbx (fun h=>h)) rfl,cell_in (i:=2) (h.keep hbx (fun h=>h)) rfl,cell_in (i:=3) (h.keep hbx (fun h=>h)) rfl⟩
  clear hT hsz hf0 hbx
  go_enter Tryz.func94,Tryz.ntmps94
  go_wp2_with fail
  generalize hb:w.alloc (.cells #[.int .i64 kind,.int .u8 byte,.int .i64 ln,.int .i64 dn] 96)=wb at*
  have HS:=Hd hS
  have FC:=Hd (Fr.refl (fun _=>False) wb).drew
  have HSC:=Hd (hS wb.drew FC.out)
  obtain⟨e0,e1,e2,e3⟩:=HSC.out
  have HB:=Hd hb
  clear hS hb
  go_region_held3 (fun w'=>w'.cell? ⟨w.heap.size,0,none⟩=some (.int .i64 kind)∧w'.cell? ⟨w.heap.size,1,none⟩=some (.int .u8 byte)∧w'.cell? ⟨w.heap.size,2,none⟩=some (.int .i64 ln)∧w'.cell? ⟨w.heap.size,3,none⟩=some (.int .i64 dn)) (first|with_reducible exact HSC.out|(refine HS.out _ ?_;(repeat refine Fr.setCell ?_ (.inr (by first|exact FC.out.size|exact HY.out)) _);first|exact FC.out|exact FC.out.alloc _)) ((first
    | (go_at_call 25
       first
         | (refine (new_at wb _ FC.out).mono ?_
            rintro e wc ⟨rfl,hfrc⟩
            have FC:=Hd (FC.out.trans hfrc)
            have HSC:=Hd (HS.out _ FC.out)
            obtain⟨e0,e1,e2,e3⟩:=HSC.out
            try (have hz:=hfrc.keep HZ.out (fun h=>h)
                 obtain⟨z0,z1,z2,z3,z4,zf⟩:=cf5 hz rfl rfl rfl rfl rfl
                 have HZ:=Hd hz
                 clear hz)
            clear hfrc)
         | (refine (new_at wb _ (FC.out.alloc _)).mono ?_
            rintro e wc ⟨rfl,hfrc⟩
            have HY:=Hd FC.out.size
            have FC:=Hd ((FC.out.alloc _).trans hfrc)
            have HSC:=Hd (HS.out _ FC.out)
            obtain⟨e0,e1,e2,e3⟩:=HSC.out
            have hz:=hfrc.keep (heap_alloc_new _ _) (fun h=>h)
            try simp only[World.size_drew] at hz
            obtain⟨z0,z1,z2,z3,z4,zf⟩:=cf5 hz rfl rfl rfl rfl rfl
            have HZ:=Hd hz
            clear hz
            clear hfrc))
    | (go_at_call 97
       first
         | (refine (HN _ (HT.out.keep FC.out)).out.mono ?_
            rintro e wc ⟨rfl,hfrc⟩
            have FC:=Hd (FC.out.trans hfrc)
            have HSC:=Hd (HS.out _ FC.out)
            obtain⟨e0,e1,e2,e3⟩:=HSC.out
            try (have hz:=hfrc.keep HZ.out (fun h=>h)
                 obtain⟨z0,z1,z2,z3,z4,zf⟩:=cf5 hz rfl rfl rfl rfl rfl
                 have HZ:=Hd hz
                 clear hz)
            clear hfrc)
         | (refine (HN _ (HT.out.keep (FC.out.alloc _))).out.mono ?_
            rintro e wc ⟨rfl,hfrc⟩
            have HY:=Hd FC.out.size
            have FC:=Hd ((FC.out.alloc _).trans hfrc)
            have HSC:=Hd (HS.out _ FC.out)
            obtain⟨e0,e1,e2,e3⟩:=HSC.out
            have hz:=hfrc.keep (heap_alloc_new _ _) (fun h=>h)
            try simp only[World.size_drew] at hz
            obtain⟨z0,z1,z2,z3,z4,zf⟩:=cf5 hz rfl rfl rfl rfl rfl
            have HZ:=Hd hz
            clear hz
            clear hfrc))))
  all_goals
    rcases herr with rfl|rfl
    · rcases hk with rfl|rfl|rfl|rfl
      all_goals
        first|obtain⟨rfl,rfl⟩:=HND.out (.inl rfl)|obtain⟨rfl,rfl⟩:=HND.out (.inr rfl)|skip
        go_wp2_with fail
        go_ret
        refine⟨?_,HF0.out.trans ?_⟩
        · have h:=HSZ.out
          simp at h
          subst h
          rfl
        · (repeat refine Fr.setCell ?_ (.inr (by first|exact FC.out.size|exact HY.out)) _)
          first|exact FC.out|exact FC.out.alloc _
    · go_wp2_with fail
      go_ret
      refine⟨?_,HF0.out.trans ?_⟩
      · have h:=HSZ.out
        simp at h
        subst h
        rfl
      · (repeat refine Fr.setCell ?_ (.inr (by first|exact FC.out.size|exact HY.out)) _)
        first|exact FC.out|exact FC.out.alloc _
theorem size_any(z:Sz)(h0:z.bad=0)(hb:z.byte<256)(w:World)(hT:Tabs w):
 Calls Tryz.prog 94 #[.agg z.cells] w fun e w'=>e=.returned (.int .i64 (size z.sy))∧Fr (fun _=>False) w w':=by
 obtain⟨hy,hn⟩:=Sz.ok h0 hb
 have hsm:=Sz.same h0
 have hnx:=fun W hW=>next_any S.new S.new_ok z hb W hW
 rw[h0,if_pos rfl] at hnx
 have hk0:(z.sy.kind:Int)=z.kind:=by
  have:=hy.kind
  unfold Sz.bad at h0
  simp only[Sz.sy] at this ⊢
  omega
 have e:z.cells=#[.int .i64 z.sy.kind,.int .u8 z.sy.byte,.int .i64 z.len,.int .i64 z.dist]:=by rw[hk0];rfl
 rw[e] at hnx ⊢
 refine size_in z.sy hy w hT z.len z.dist (fun hk=> ?_) (fun W hW=>by rw[hn S.new];exact hnx W hW)
 have:=hsm (by omega)
 exact⟨this.1.symm,this.2.1.symm⟩
end St
end Go.Proofs.YtlgccpjccopdmaaGreatDoor
