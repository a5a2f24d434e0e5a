/- Part 35 of 48: lemmas of the last part, each under the conditions that it names. -/
import Derived.Test.YtffoddpjfgjelaaGreatDoorRows
import Derived.Lib.LaidTab
import Derived.Stop.LaidErr
import Derived.Deep.Slices
import Derived.Deep.Fields
import Derived.ChangeSame
import Derived.Test.YtffoddpjfgjelaaGreatDoorQ01
import Derived.Test.YtffoddpjfgjelaaGreatDoorQ05
import Derived.Test.YtffoddpjfgjelaaGreatDoorQ26
import Derived.Test.YtffoddpjfgjelaaGreatDoorQ28
import Derived.Test.YtffoddpjfgjelaaGreatDoorQ34
set_option linter.unusedVariables false
set_option linter.unusedSimpArgs false
set_option maxRecDepth 1500
set_option maxHeartbeats 2000000
namespace Go.Proofs.YtffoddpjfgjelaaGreatDoor
open Go.RowKit
namespace Enc
open Mem Win
theorem hput_k34(k q:Nat)(hkq:k=3∧q=0∨k=4∧q=1)(n m lc lp pb:Nat)(hn:n<2097152)(hm:m<65536)(hl:lc+lp≤4)(hp:pb≤4)(w:World):Calls Tryz.prog 67 #[.agg #[.int .i64 k,.int .i64 (n+1:Nat),.int .i64 (m+1:Nat),.int .i64 lc,.int .i64 lp,.int .i64 pb]] w fun e w'=>Fr (fun _=>False) w w'∧∃p cap,e=.returned (.tuple #[.slice p 5 cap,.int .i64 0])∧Mine w w' (.slice p 5 cap) [UInt8.ofNat (128+32*q+n/65536),UInt8.ofNat (n/256),UInt8.ofNat (n%256),UInt8.ofNat (m/256),UInt8.ofNat (m%256)]:=by
 have HS:=fun W=>Hd (sized_packed k (n+1) (m+1) lc lp pb (by omega) W)
 rw[show En.sizedP (n+1) (m+1)=true by unfold En.sizedP;simp;omega] at HS
 have HF:=Hd ((R0 w).alloc (.cells #[.int .i64 k,.int .i64 (n+1:Nat),.int .i64 (m+1:Nat),.int .i64 lc,.int .i64 lp,.int .i64 pb] 47))
 have hx:=heap_alloc_new w (.cells #[.int .i64 k,.int .i64 (n+1:Nat),.int .i64 (m+1:Nat),.int .i64 lc,.int .i64 lp,.int .i64 pb] 47)
 have HX:=Hd hx
 have y0:=cell_in (i:=0) hx rfl
 clear hx
 obtain⟨f,hf⟩:∃f:Nat,f=128+32*q+n/65536:=⟨_,rfl⟩
 have hf2:f<256:=by omega
 rcases hkq with⟨rfl,rfl⟩|⟨rfl,rfl⟩
 all_goals simp only[show((3:Nat):Int)=3 from rfl,show((4:Nat):Int)=4 from rfl] at*
 all_goals
  go_enter Tryz.func67,Tryz.ntmps67
  go_wp2_with fail
  refine(HS _).out.mono ?_
  rintro e w1 ⟨rfl,hfr⟩
  have hx1:=hfr.keep HX.out (fun h=>h)
  obtain⟨c0,c1⟩:=cs2 hx1 rfl rfl
  have HX1:=Hd hx1
  have HF1:=Hd (HF.out.trans hfr)
  clear hfr hx1 y0
  go_wp2_with fail
  refine(Wire.newWriter_calls _).mono ?_
  rintro e w2 ⟨rfl,hfr,hW⟩
  have hx2:=hfr.keep HX1.out (fun h=>h)
  obtain⟨d0,d1⟩:=cs2 hx2 rfl rfl
  have HX2:=Hd hx2
  have HF2:=Hd hfr
  have HW:=Hd hW
  clear hfr hx2 hW
  have WP:=fun(y:Int)(hy:y=(f:Int))=>Hd (show Calls Tryz.prog 116 #[.pointer (some ⟨w1.heap.size,0,none⟩),.slice (some ⟨w2.heap.size,0,none⟩) 1 1] (w2.alloc (.cells #[.int .u8 y] 5)) (fun e w3=>e=.returned (.tuple #[])∧∃v',Wire.Wr w1 w3 w1.heap.size v' [UInt8.ofNat f]∧Fr (fun k=>w1.heap.size≤k) w2 w3) from by
   have hA:=(R0 w2).alloc (.cells #[.int .u8 y] 5)
   have hrd:=rd_one w2 w2.heap.size rfl (UInt8.ofNat f) y (by rw[hy,UInt8.toNat_ofNat'];omega)
   refine(Wire.wput_calls (w0:=w1) w1.heap.size (.slice none 0 0) [] [UInt8.ofNat f] (some ⟨w2.heap.size,0,none⟩) 1 1 ⟨hA.keep HW.out.box (fun h=>h),HW.out.own.keep hA,HW.out.new,HW.out.apart⟩ (Nat.le_trans HF2.out.size hA.size) hrd (by simp) rfl).mono ?_
   rintro e w3 ⟨rfl,v3,hW3,hfr3⟩
   exact⟨rfl,v3,hW3,(hA.mono (fun _ _ h=>h.elim)).trans hfr3⟩)
  go_wp2_with fail
  refine(WP _ ?_).out.mono ?_
  ·go_num
  rintro e w3 ⟨rfl,v3,hW3,hfr3⟩
  have hx3:=hfr3.keep HX2.out (by have:=lt_of_block HX1.out;omega)
  have HX3:=Hd hx3
  obtain⟨a0,a1,a2⟩:=cs3 hx3 rfl rfl rfl
  have HW3:=Hd hW3
  have HF3:=Hd (HF2.out.trans' hfr3 (fun k h1 h2=>by omega))
  clear hfr3 hx3 hW3 WP
  have HH1:=fun(y:Int)(hy:y=(n:Int))=>Hd (show Calls Tryz.prog 117 #[.pointer (some ⟨w1.heap.size,0,none⟩),.int .u64 y,.int .i64 2] w3 _ from hy ▸ Wire.whigh_calls (w0:=w1) w1.heap.size v3 [UInt8.ofNat f] n (by omega) HW3.out HF3.out.size (by simp))
  go_wp2_with fail
  refine(HH1 _ ?_).out.mono ?_
  ·go_num
  rintro e w4 ⟨rfl,v4,hW4,hfr4⟩
  have hx4:=hfr4.keep HX3.out (by have:=lt_of_block HX1.out;omega)
  have HX4:=Hd hx4
  have b0:=cell_in (i:=0) hx4 rfl
  have b2:=cell_in (i:=2) hx4 rfl
  have HW4:=Hd hW4
  have HF4:=Hd (HF3.out.trans' hfr4 (fun k h1 h2=>by omega))
  clear hfr4 hx4 hW4
  have HH2:=fun(y:Int)(hy:y=(m:Int))=>Hd (show Calls Tryz.prog 117 #[.pointer (some ⟨w1.heap.size,0,none⟩),.int .u64 y,.int .i64 2] w4 _ from hy ▸ Wire.whigh_calls (w0:=w1) w1.heap.size v4 ([UInt8.ofNat f]++[UInt8.ofNat (n/256),UInt8.ofNat (n%256)]) m (by omega) HW4.out HF4.out.size (by simp))
  go_wp2_with fail
  refine(HH2 _ ?_).out.mono ?_
  ·go_num
  rintro e w5 ⟨rfl,v5,hW5,hfr5⟩
  have hx5:=hfr5.keep HX4.out (by have:=lt_of_block HX1.out;omega)
  have HX5:=Hd hx5
  have g0:=cell_in (i:=0) hx5 rfl
  have HW5:=Hd hW5
  have HF5:=Hd (HF4.out.trans' hfr5 (fun k h1 h2=>by omega))
  clear hfr5 hx5 hW5
  go_wp2_with fail
  refine(Wire.bytes_calls (w0:=w1) w1.heap.size v5 _ HW5.out (by simp) (by simp)).mono ?_
  rintro e w8 ⟨hfr8,p,cap,rfl,hM⟩
  have HM:=Hd hM
  have HF8:=Hd (HF5.out.trans hfr8)
  clear hfr8 hM
  go_wp2_with fail
  go_ret2
  rw[←hf]
  exact⟨HF1.out.trans HF8.out,p,cap,rfl,HM.out.own,fun k hk=>Nat.le_trans (Nat.le_trans HF1.out.size HF5.out.size) (HM.out.new k hk)⟩
theorem hput_k56(k q:Nat)(hkq:k=5∧q=2∨k=6∧q=3)(n m lc lp pb:Nat)(hn:n<2097152)(hm:m<65536)(hl:lc+lp≤4)(hp:pb≤4)(w:World):Calls Tryz.prog 67 #[.agg #[.int .i64 k,.int .i64 (n+1:Nat),.int .i64 (m+1:Nat),.int .i64 lc,.int .i64 lp,.int .i64 pb]] w fun e w'=>Fr (fun _=>False) w w'∧∃p cap,e=.returned (.tuple #[.slice p 6 cap,.int .i64 0])∧Mine w w' (.slice p 6 cap) [UInt8.ofNat (128+32*q+n/65536),UInt8.ofNat (n/256),UInt8.ofNat (n%256),UInt8.ofNat (m/256),UInt8.ofNat (m%256),UInt8.ofNat ((5*pb+lp)*9+lc)]:=by
 have HS:=fun W=>Hd (sized_packed k (n+1) (m+1) lc lp pb (by omega) W)
 rw[show En.sizedP (n+1) (m+1)=true by unfold En.sizedP;simp;omega] at HS
 have HF:=Hd ((R0 w).alloc (.cells #[.int .i64 k,.int .i64 (n+1:Nat),.int .i64 (m+1:Nat),.int .i64 lc,.int .i64 lp,.int .i64 pb] 47))
 have hx:=heap_alloc_new w (.cells #[.int .i64 k,.int .i64 (n+1:Nat),.int .i64 (m+1:Nat),.int .i64 lc,.int .i64 lp,.int .i64 pb] 47)
 have HX:=Hd hx
 have y0:=cell_in (i:=0) hx rfl
 clear hx
 obtain⟨f,hf⟩:∃f:Nat,f=128+32*q+n/65536:=⟨_,rfl⟩
 have hf2:f<256:=by omega
 rcases hkq with⟨rfl,rfl⟩|⟨rfl,rfl⟩
 all_goals simp only[show((5:Nat):Int)=5 from rfl,show((6:Nat):Int)=6 from rfl] at*
 all_goals
  go_enter Tryz.func67,Tryz.ntmps67
  go_wp2_with fail
  refine(HS _).out.mono ?_
  rintro e w1 ⟨rfl,hfr⟩
  have hx1:=hfr.keep HX.out (fun h=>h)
  obtain⟨c0,c1⟩:=cs2 hx1 rfl rfl
  have HX1:=Hd hx1
  have HF1:=Hd (HF.out.trans hfr)
  clear hfr hx1 y0
  go_wp2_with fail
  refine(Wire.newWriter_calls _).mono ?_
  rintro e w2 ⟨rfl,hfr,hW⟩
  have hx2:=hfr.keep HX1.out (fun h=>h)
  obtain⟨d0,d1⟩:=cs2 hx2 rfl rfl
  have HX2:=Hd hx2
  have HF2:=Hd hfr
  have HW:=Hd hW
  clear hfr hx2 hW
  have WP:=fun(y:Int)(hy:y=(f:Int))=>Hd (show Calls Tryz.prog 116 #[.pointer (some ⟨w1.heap.size,0,none⟩),.slice (some ⟨w2.heap.size,0,none⟩) 1 1] (w2.alloc (.cells #[.int .u8 y] 5)) (fun e w3=>e=.returned (.tuple #[])∧∃v',Wire.Wr w1 w3 w1.heap.size v' [UInt8.ofNat f]∧Fr (fun k=>w1.heap.size≤k) w2 w3) from by
   have hA:=(R0 w2).alloc (.cells #[.int .u8 y] 5)
   have hrd:=rd_one w2 w2.heap.size rfl (UInt8.ofNat f) y (by rw[hy,UInt8.toNat_ofNat'];omega)
   refine(Wire.wput_calls (w0:=w1) w1.heap.size (.slice none 0 0) [] [UInt8.ofNat f] (some ⟨w2.heap.size,0,none⟩) 1 1 ⟨hA.keep HW.out.box (fun h=>h),HW.out.own.keep hA,HW.out.new,HW.out.apart⟩ (Nat.le_trans HF2.out.size hA.size) hrd (by simp) rfl).mono ?_
   rintro e w3 ⟨rfl,v3,hW3,hfr3⟩
   exact⟨rfl,v3,hW3,(hA.mono (fun _ _ h=>h.elim)).trans hfr3⟩)
  go_wp2_with fail
  refine(WP _ ?_).out.mono ?_
  ·go_num
  rintro e w3 ⟨rfl,v3,hW3,hfr3⟩
  have hx3:=hfr3.keep HX2.out (by have:=lt_of_block HX1.out;omega)
  have HX3:=Hd hx3
  obtain⟨a0,a1,a2⟩:=cs3 hx3 rfl rfl rfl
  have HW3:=Hd hW3
  have HF3:=Hd (HF2.out.trans' hfr3 (fun k h1 h2=>by omega))
  clear hfr3 hx3 hW3 WP
  have HH1:=fun(y:Int)(hy:y=(n:Int))=>Hd (show Calls Tryz.prog 117 #[.pointer (some ⟨w1.heap.size,0,none⟩),.int .u64 y,.int .i64 2] w3 _ from hy ▸ Wire.whigh_calls (w0:=w1) w1.heap.size v3 [UInt8.ofNat f] n (by omega) HW3.out HF3.out.size (by simp))
  go_wp2_with fail
  refine(HH1 _ ?_).out.mono ?_
  ·go_num
  rintro e w4 ⟨rfl,v4,hW4,hfr4⟩
  have hx4:=hfr4.keep HX3.out (by have:=lt_of_block HX1.out;omega)
  have HX4:=Hd hx4
  have b0:=cell_in (i:=0) hx4 rfl
  have b2:=cell_in (i:=2) hx4 rfl
  have HW4:=Hd hW4
  have HF4:=Hd (HF3.out.trans' hfr4 (fun k h1 h2=>by omega))
  clear hfr4 hx4 hW4
  have HH2:=fun(y:Int)(hy:y=(m:Int))=>Hd (show Calls Tryz.prog 117 #[.pointer (some ⟨w1.heap.size,0,none⟩),.int .u64 y,.int .i64 2] w4 _ from hy ▸ Wire.whigh_calls (w0:=w1) w1.heap.size v4 ([UInt8.ofNat f]++[UInt8.ofNat (n/256),UInt8.ofNat (n%256)]) m (by omega) HW4.out HF4.out.size (by simp))
  go_wp2_with fail
  refine(HH2 _ ?_).out.mono ?_
  ·go_num
  rintro e w5 ⟨rfl,v5,hW5,hfr5⟩
  have hx5:=hfr5.keep HX4.out (by have:=lt_of_block HX1.out;omega)
  have HX5:=Hd hx5
  have g0:=cell_in (i:=0) hx5 rfl
  have g3:=cell_in (i:=3) hx5 rfl
  have g4:=cell_in (i:=4) hx5 rfl
  have g5:=cell_in (i:=5) hx5 rfl
  have HW5:=Hd hW5
  have HF5:=Hd (HF4.out.trans' hfr5 (fun k h1 h2=>by omega))
  clear hfr5 hx5 hW5
  go_wp2_with fail
  refine(St.propsV_calls lc lp pb hl hp _).mono ?_
  rintro e w6 ⟨rfl,hfr6⟩
  obtain⟨q,hq⟩:∃q:Nat,q=(5*pb+lp)*9+lc:=⟨_,rfl⟩
  have hq2:q<256:=by omega
  rw[←hq]
  have HW6:=Hd (show Wire.Wr w1 w6 w1.heap.size v5 _ from⟨hfr6.keep HW5.out.box (fun h=>h),HW5.out.own.keep hfr6,HW5.out.new,HW5.out.apart⟩)
  have HF6:=Hd (HF5.out.trans hfr6)
  clear hfr6
  have WP2:=fun(y:Int)(hy:y=(q:Int))=>Hd (show Calls Tryz.prog 116 #[.pointer (some ⟨w1.heap.size,0,none⟩),.slice (some ⟨w6.heap.size,0,none⟩) 1 1] (w6.alloc (.cells #[.int .u8 y] 5)) (fun e w7=>e=.returned (.tuple #[])∧∃v',Wire.Wr w1 w7 w1.heap.size v' (([UInt8.ofNat f]++[UInt8.ofNat (n/256),UInt8.ofNat (n%256)])++[UInt8.ofNat (m/256),UInt8.ofNat (m%256)]++[UInt8.ofNat q])∧Fr (fun k=>w1.heap.size≤k) w6 w7) from by
   have hA:=(R0 w6).alloc (.cells #[.int .u8 y] 5)
   have hrd:=rd_one w6 w6.heap.size rfl (UInt8.ofNat q) y (by rw[hy,UInt8.toNat_ofNat'];omega)
   refine(Wire.wput_calls (w0:=w1) w1.heap.size v5 _ [UInt8.ofNat q] (some ⟨w6.heap.size,0,none⟩) 1 1 ⟨hA.keep HW6.out.box (fun h=>h),HW6.out.own.keep hA,HW6.out.new,HW6.out.apart⟩ (Nat.le_trans HF6.out.size hA.size) hrd (by simp) rfl).mono ?_
   rintro e w7 ⟨rfl,v7,hW7,hfr7⟩
   exact⟨rfl,v7,hW7,(hA.mono (fun _ _ h=>h.elim)).trans hfr7⟩)
  go_wp2_with fail
  refine(WP2 _ ?_).out.mono ?_
  ·go_num
  rintro e w7 ⟨rfl,v7,hW7,hfr7⟩
  have HW7:=Hd hW7
  have HF7:=Hd (HF6.out.trans' hfr7 (fun k h1 h2=>by omega))
  clear hfr7 hW7 WP2
  go_wp2_with fail
  refine(Wire.bytes_calls (w0:=w1) w1.heap.size v7 _ HW7.out (by simp) (by simp)).mono ?_
  rintro e w8 ⟨hfr8,p,cap,rfl,hM⟩
  have HM:=Hd hM
  have HF8:=Hd (HF7.out.trans hfr8)
  clear hfr8 hM
  go_wp2_with fail
  go_ret2
  rw[←hf,←hq]
  exact⟨HF1.out.trans HF8.out,p,cap,rfl,HM.out.own,fun k hk=>Nat.le_trans (Nat.le_trans HF1.out.size HF7.out.size) (HM.out.new k hk)⟩
end Enc
namespace Enc
open Mem Win
def okS(k n m:Nat):Bool:=if k≤2 then decide (1≤n∧n≤65536) else En.sizedP n m
theorem hput_no(k n m lc lp pb:Nat)(hk:1≤k∧k≤6)(w:World)(HS:∀W,Calls Tryz.prog 114 #[.agg #[.int .i64 k,.int .i64 n,.int .i64 m,.int .i64 lc,.int .i64 lp,.int .i64 pb]] W fun e w'=>e=.returned (.bool false)∧Fr (fun _=>False) W w'):
 Calls Tryz.prog 67 #[.agg #[.int .i64 k,.int .i64 n,.int .i64 m,.int .i64 lc,.int .i64 lp,.int .i64 pb]] w fun e w'=>e=.returned (.tuple #[.slice none 0 0,.int .i64 7])∧Fr (fun _=>False) w w':=by
 have HF:=Hd ((R0 w).alloc (.cells #[.int .i64 k,.int .i64 n,.int .i64 m,.int .i64 lc,.int .i64 lp,.int .i64 pb] 47))
 have t1:decide ((k:Int)<0)=false:=decide_eq_false (by omega)
 have t2:decide ((k:Int)≥7)=false:=decide_eq_false (by omega)
 have t3:decide ((7:Int)≤k)=false:=decide_eq_false (by omega)
 have HS:=fun W=>Hd (HS W)
 go_enter Tryz.func67,Tryz.ntmps67
 go_wp2_with fail
 refine(HS _).out.mono ?_
 rintro e w1 ⟨rfl,hfr⟩
 have HF1:=Hd (HF.out.trans hfr)
 clear hfr
 go_wp2_with fail
 go_ret2
 exact⟨rfl,HF1.out⟩
theorem u8_mod(a:Nat):UInt8.ofNat (a%256)=UInt8.ofNat a:=by
 apply UInt8.toNat_inj.1
 rw[UInt8.toNat_ofNat',UInt8.toNat_ofNat',Nat.mod_mod]
theorem hput_any(k n m lc lp pb:Nat)(hk:1≤k∧k≤6)(hnm:k≤2→m=n)(hl:lc+lp≤4)(hp:pb≤4)(w:World):
 Calls Tryz.prog 67 #[.agg #[.int .i64 k,.int .i64 n,.int .i64 m,.int .i64 lc,.int .i64 lp,.int .i64 pb]] w fun e w'=>Fr (fun _=>False) w w'∧∃hv,e=.returned (.tuple #[hv,.int .i64 (if okS k n m=true then 0 else 7)])∧(okS k n m=true→Mine w w' hv (En.headB (if k<5 then⟨k,n,m,0,0,0⟩ else⟨k,n,m,lc,lp,pb⟩))):=by
 by_cases h:okS k n m=true
 ·rw[if_pos h]
  by_cases h2:k≤2
  ·obtain rfl:=hnm h2
   unfold okS at h
   rw[if_pos h2,decide_eq_true_eq] at h
   obtain⟨q,rfl⟩:∃q,m=q+1:=⟨m-1,by omega⟩
   refine(hput_raw k q lc lp pb (by omega) (by omega) w).mono ?_
   rintro e w' ⟨hf,p,cap,rfl,hM⟩
   refine⟨hf,_,rfl,fun _=> ?_⟩
   rw[if_pos (by omega)]
   unfold En.headB
   rw[if_neg (by simp only;omega),if_pos h2]
   exact hM
  ·unfold okS En.sizedP at h
   rw[if_neg h2,decide_eq_true_eq] at h
   obtain⟨q,rfl⟩:∃q,n=q+1:=⟨n-1,by omega⟩
   obtain⟨r,rfl⟩:∃r,m=r+1:=⟨m-1,by omega⟩
   obtain rfl|rfl|rfl|rfl:k=3∨k=4∨k=5∨k=6:=by omega
   ·refine(hput_k34 3 0 (.inl ⟨rfl,rfl⟩) q r lc lp pb (by omega) (by omega) hl hp w).mono ?_
    rintro e w' ⟨hf,p,cap,rfl,hM⟩
    refine⟨hf,_,rfl,fun _=> ?_⟩
    rw[if_pos (by decide)]
    simp only[En.headB,Nat.add_sub_cancel,u8_mod] at hM ⊢
    exact hM
   ·refine(hput_k34 4 1 (.inr ⟨rfl,rfl⟩) q r lc lp pb (by omega) (by omega) hl hp w).mono ?_
    rintro e w' ⟨hf,p,cap,rfl,hM⟩
    refine⟨hf,_,rfl,fun _=> ?_⟩
    rw[if_pos (by decide)]
    simp only[En.headB,Nat.add_sub_cancel,u8_mod] at hM ⊢
    exact hM
   ·refine(hput_k56 5 2 (.inl ⟨rfl,rfl⟩) q r lc lp pb (by omega) (by omega) hl hp w).mono ?_
    rintro e w' ⟨hf,p,cap,rfl,hM⟩
    refine⟨hf,_,rfl,fun _=> ?_⟩
    rw[if_neg (by decide)]
    simp only[En.headB,Nat.add_sub_cancel,u8_mod] at hM ⊢
    exact hM
   ·refine(hput_k56 6 3 (.inr ⟨rfl,rfl⟩) q r lc lp pb (by omega) (by omega) hl hp w).mono ?_
    rintro e w' ⟨hf,p,cap,rfl,hM⟩
    refine⟨hf,_,rfl,fun _=> ?_⟩
    rw[if_neg (by decide)]
    simp only[En.headB,Nat.add_sub_cancel,u8_mod] at hM ⊢
    exact hM
 ·rw[if_neg h]
  have hS:∀W,Calls Tryz.prog 114 #[.agg #[.int .i64 k,.int .i64 n,.int .i64 m,.int .i64 lc,.int .i64 lp,.int .i64 pb]] W fun e w'=>e=.returned (.bool false)∧Fr (fun _=>False) W w':=by
   intro W
   by_cases h2:k≤2
   ·obtain rfl:=hnm h2
    unfold okS at h
    rw[if_pos h2] at h
    have:=sized_raw k m lc lp pb (by omega) W
    rw[show decide (1≤m∧m≤65536)=false by simpa using h] at this
    exact this
   ·unfold okS at h
    rw[if_neg h2] at h
    have:=sized_packed k n m lc lp pb (by omega) W
    rw[show En.sizedP n m=false by simpa using h] at this
    exact this
  refine(hput_no k n m lc lp pb hk w hS).mono ?_
  rintro e w' ⟨rfl,hf⟩
  exact⟨hf,_,rfl,fun h'=>absurd h' h⟩
end Enc
namespace En
open Mem St
end En
namespace En
open Mem Rc St Lz Ck
end En
namespace En
open Mem Rc St Lz Ck
theorem widen_s(k:K):k.widen.s≤k.s+1:=by
 unfold K.widen
 split<;>simp
theorem op_bd(e:Es)(o:Op):(e.op o).k.s≤e.k.s+1:=by
 cases o with
 |bit j i b=>
   refine Nat.le_trans (widen_s _) ?_
   unfold K.cut
   split<;>exact Nat.le_refl _
 |half b=>exact widen_s _
theorem run_bd:∀(o:List Op)(e:Es),(e.run o).k.s≤e.k.s+o.length
 |[],e=>Nat.le_refl _
 |q::o,e=>by
   have h1:=run_bd o (e.op q)
   have h2:=op_bd e q
   rw[Es.run,List.length_cons]
   omega
theorem tree_n(back:Bool)(j a n x:Nat):∀(f m:Nat),(treeOps back j a n x f m).length=f
 |0,m=>rfl
 |f+1,m=>by rw[treeOps,List.length_cons,tree_n]
theorem mat_n(u a b:Nat):∀(k m:Nat)(s:Bool),(matOps u a b k m s).length=k
 |0,m,s=>rfl
 |k+1,m,s=>by rw[matOps,List.length_cons,mat_n]
theorem halves_n(x:Nat):∀n,(halves x n).length=n
 |0=>rfl
 |n+1=>by rw[halves,List.length_cons,halves_n]
theorem lit_n(c:C)(b:Nat):(litOps c b).length=8:=by
 unfold litOps
 split
 ·exact tree_n ..
 ·exact mat_n ..
theorem len_n(c:C)(q n:Nat):(lenOps c q n).length≤10:=by
 unfold lenOps
 split
 ·simp[tree_n]
 ·split<;>simp[tree_n]
theorem rest_n{slot r:Nat}(h:slot<64):(restOps slot r).length≤34:=by
 have hr:(range slot).2≤30:=by
  unfold range
  split
  ·simp
  ·simp only
   omega
 unfold restOps
 split
 ·simp
 ·split
  ·simp only[tree_n]
   omega
  ·simp only[List.length_append,halves_n,tree_n]
   omega
theorem sym_n{c:C}{y:Sy}(h:May c y):(symOps c y).length≤52:=by
 have hk:=h.kind
 have hd:=h.dist
 unfold symOps
 by_cases h1:y.kind=1
 ·rw[if_pos h1]
  simp[lit_n]
 ·rw[if_neg h1]
  by_cases h2:y.kind=2
  ·rw[if_pos h2]
   have hd2:=hd h2
   have h3:=len_n c 7 y.len
   have h4:=rest_n (r:=y.dist-(range (slotOf y.dist)).1) (slotOf_in hd2.1 hd2.2).1
   simp only[distOps,List.length_append,tree_n,List.length_cons,List.length_nil]
   omega
  ·rw[if_neg h2]
   have h3:=len_n c 11 y.len
   by_cases h4:y.kind=3
   ·rw[if_pos h4]
    unfold repOps
    split
    ·simp only[List.length_append,List.length_cons,List.length_nil]
     omega
    ·split<;>simp only[List.length_append,List.length_cons,List.length_nil]<;>omega
   ·rw[if_neg h4]
    simp
theorem size_le{z:Sz}(hz:z.bad=0)(hb:z.byte<256):St.size z.sy≤273:=by
 have hm:=may_of (c:=⟨0,0,0,S.new,0,[]⟩) hz hb
 unfold St.size
 split
 ·split
  ·rename_i h0 h1
   have:=hm.len h1
   unfold isL at this
   omega
  ·omega
 ·omega
theorem apZ_put{x:Xe}{z:Sz}(h:(x.apZ z).1=0)(hb:z.byte<256):(x.put z.sy).e.k.s≤x.e.k.s+52∧(x.put z.sy).c.all.length=x.c.all.length+St.size z.sy∧St.size z.sy≤273∧(x.apZ z).2.1.length=St.size z.sy:=by
 obtain⟨hz,he⟩:=apZ_ok h
 have hm:=may_of (c:=x.c) hz hb
 have h1:=sym_n hm
 have h2:=run_bd (symOps x.c z.sy) x.e
 have hl:(x.ap z.sy).2.1.length=St.size z.sy:=apply_len (by rw[he] at h;exact h) hm.kind
 refine⟨Nat.le_trans h2 (by omega),?_,size_le hz hb,by rw[he];exact hl⟩
 show(x.c.all++(x.ap z.sy).2.1).length=_
 rw[List.length_append,hl]
theorem head_n(h:Head):(headB h).length≤6:=by
 unfold headB
 split
 ·simp
 ·split
  ·simp
  ·split<;>simp
end En
namespace Laid
theorem cells_of_grid{H:Type}{enc:TypeId×Value→H}{P:Program}{w:World}{base:Nat}{sp:Nat→Bool}{held:Bool}{fuel:Nat}{t e i:TypeId}{k:IntKind}{cs:List Value}{z0 z1 z2 z3:List Int}{p:List MemPlace}
 (ht:P.underlying t=some (.array 4 e))(he:P.underlying e=some (.array 7 i))(hi:P.underlying i=some (.int k))(hci:P.cellsOf i=1)(hce:P.cellsOf e=7)(hct:P.cellsOf t=28)
 (h:DataW.trod enc P w base sp held fuel t cs=some (.agg [Lib.tabData k z0,Lib.tabData k z1,Lib.tabData k z2,Lib.tabData k z3],p)):cs=(z0++(z1++(z2++z3))).map fun z=>Value.int k z:=by
 cases fuel with
 |zero=>simp[DataW.trod] at h
 |succ fuel=>
   simp only[DataW.trod,ht,hce,hct] at h
   split at h
   ·rename_i hl
    obtain⟨xs,hm,hx⟩:=Option.map_eq_some_iff.1 h
    have hxs:xs.map (·.1)=[Lib.tabData k z0,Lib.tabData k z1,Lib.tabData k z2,Lib.tabData k z3]:=by
     have:=congrArg Prod.fst hx
     simpa using this
    have key:∀j z,[z0,z1,z2,z3][j]? =some z→(cs.drop (j*7)).take 7=z.map fun z=>Value.int k z:=fun j z hz=>by
     have hj:j<4:=by have:=(List.getElem?_eq_some_iff.1 hz).1;simpa using this
     obtain⟨b,hb,hf⟩:=Lib.mapM_at hm j j (by simp[hj])
     have h2:(xs.map (·.1))[j]? =some b.1:=by simp[hb]
     have h3:[Lib.tabData (H:=H) k z0,Lib.tabData k z1,Lib.tabData k z2,Lib.tabData k z3][j]? =some (Lib.tabData k z):=by
      have:[Lib.tabData (H:=H) k z0,Lib.tabData k z1,Lib.tabData k z2,Lib.tabData k z3]=[z0,z1,z2,z3].map (Lib.tabData (H:=H) k):=rfl
      rw[this,List.getElem?_map,hz]
      rfl
     rw[hxs,h3] at h2
     have h4:=Option.some.inj h2
     obtain⟨b1,b2⟩:=b
     simp only at h4
     subst h4
     exact Lib.cells_of_tab he hi hci hce hf
    have k0:=key 0 z0 rfl
    have k1:=key 1 z1 rfl
    have k2:=key 2 z2 rfl
    have k3:=key 3 z3 rfl
    rw[List.map_append,List.map_append,List.map_append,←k0,←k1,←k2,←k3]
    apply List.ext_getElem?
    intro x
    simp only[List.getElem?_append,List.getElem?_take,List.getElem?_drop,List.length_take,List.length_drop,hl]
    repeat' split
    all_goals first|(congr 1;omega)|(rw[List.getElem?_eq_none (by omega)])|omega
   ·cases h
end Laid
end Go.Proofs.YtffoddpjfgjelaaGreatDoor
namespace Go.Proofs.YtffoddpjfgjelaaGreatDoor
namespace Bulk
theorem one_le{H:Type}(d:DataW H):1≤Rows.uptoBulk d:=by
 cases d with
 |lit l=>cases l<;>simp[Rows.uptoBulk]
 |nil=>simp[Rows.uptoBulk]
 |ptr d=>simp[Rows.uptoBulk]
 |slice elems spare=>simp[Rows.uptoBulk]
 |agg parts=>simp[Rows.uptoBulk]
 |iface t d=>simp[Rows.uptoBulk]
 |map es=>simp[Rows.uptoBulk]
 |held h=>simp[Rows.uptoBulk]
theorem length_le{H:Type}(l:List (DataW H)):l.length≤Rows.uptoBulkAll l:=by
 induction l with
 |nil=>simp[Rows.uptoBulkAll]
 |cons x r ih=>have:=one_le x;simp only[Rows.uptoBulkAll,List.length_cons];omega
theorem slice_le{H:Type}(elems spare:List (DataW H)):elems.length+spare.length+1≤Rows.uptoBulk (.slice elems spare):=by
 have h1:=length_le elems
 have h2:=length_le spare
 simp only[Rows.uptoBulk]
 omega
theorem bound{H:Type}{l:List (DataW H)}(hk:Rows.uptoSmall H l=true):Rows.uptoBulkAll l≤1048576:=of_decide_eq_true hk
end Bulk
end Go.Proofs.YtffoddpjfgjelaaGreatDoor
namespace Go.Proofs.YtffoddpjfgjelaaGreatDoor
open Go.ChangeShapes Go.WideShapes Go.Deep Go.RowKit
namespace Opened
open Mem
section
variable {H:Type}{enc:TypeId×Value→H}{P:Program}{w:World}{base:Nat}{spare:Nat→Bool}{held:Bool}
end
end Opened
namespace Opened
open Mem
section
variable {H:Type}{enc:TypeId×Value→H}{P:Program}{w:World}{base:Nat}{held:Bool}
theorem open_bytes{t e:TypeId}{fuel:Nat}{v:Value}{x:DataW H×List MemPlace}(ht:P.underlying t=some (.slice e))(he:P.underlying e=some (.int .u8))(hc:P.cellsOf e=1)
 (h:DataW.trod enc P w base (fun _=>true) held fuel t [v]=some x):∃xs:List UInt8,Rd w v xs∧xs.length<Rows.uptoBulk x.1:=by
 rcases open_ints ht he hc h with⟨h0,rfl⟩|⟨a,len,cap,zs,hcs,_,hl,hm,hz,rfl,hcell,hwf⟩
 ·simp only[List.cons.injEq,and_true] at h0
  subst h0
  exact⟨[],Rd.nil w,Bulk.one_le (H:=H) .nil⟩
 ·simp only[List.cons.injEq,and_true] at hcs
  subst hcs
  rw[if_pos rfl] at hz
  have hxl:((zs.take len).map fun z=>UInt8.ofNat z.toNat).length=len:=by rw[List.length_map,List.length_take];omega
  refine⟨(zs.take len).map fun z=>UInt8.ofNat z.toNat,⟨some a,cap,by rw[hxl],by omega,hm,fun h0=> ?_⟩,?_⟩
  ·rw[hxl] at h0
   have hpl:=row_plain (V:=fun i=>.int .u8 (zs.getD i 0)) hcell (by omega)
   refine⟨a.block,a.off,by rw[←hpl],fun i y hy=> ?_⟩
   have hi:i<len:=by have:=(List.getElem?_eq_some_iff.1 hy).1;omega
   have hcc:=hcell i (by omega)
   rw[hpl,add_mid] at hcc
   rw[hcc]
   have hzi:zs[i]? =some (zs[i]'(by omega)):=List.getElem?_eq_getElem (by omega)
   rw[List.getElem?_map,List.getElem?_take,if_pos hi,hzi] at hy
   simp only[Option.map_some,Option.some.injEq] at hy
   have hw:=hwf (zs[i]'(by omega)) (List.getElem_mem _)
   have hb:0≤zs[i]'(by omega)∧zs[i]'(by omega)≤255:=by simpa [Lit.wf,IntKind.min,IntKind.max,IntKind.signed,IntKind.bits] using hw
   subst hy
   simp only[bv,List.getD,hzi,Option.getD_some]
   congr 2
   rw[UInt8.toNat_ofNat']
   omega
  ·rw[hxl]
   have:=Bulk.slice_le (H:=H) (lits .u8 (zs.take len)) (lits .u8 (zs.drop len))
   have hll:(lits (H:=H) .u8 (zs.take len)).length=len:=by simp[lits];omega
   show len<Rows.uptoBulk (DataW.slice (lits (H:=H) .u8 (zs.take len)) (lits .u8 (zs.drop len)))
   omega
end
end Opened
end Go.Proofs.YtffoddpjfgjelaaGreatDoor
