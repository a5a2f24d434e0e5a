/- Part 25 of 48: lemmas of the last part, each under the conditions that it names. -/
import Derived.Test.YtffoddpjfgjelaaGreatDoorQ20
import Derived.Test.YtffoddpjfgjelaaGreatDoorQ22
import Derived.Test.YtffoddpjfgjelaaGreatDoorQ24
set_option linter.unusedVariables false
set_option linter.unusedSimpArgs false
set_option maxRecDepth 1500
set_option maxHeartbeats 8000000
namespace Go.Proofs.YtffoddpjfgjelaaGreatDoor
open Go.RowKit
namespace Ch
open Mem Vi
def propsBad(lc lp pb:Int):Bool:=decide (lc<0∨lp<0∨pb<0∨4<pb∨4<lc∨4-lc<lp)
theorem props_calls(lc lp pb:Int)(w:World)(b_lc:-9223372036854775808≤lc∧lc≤9223372036854775807)(b_lp:-9223372036854775808≤lp∧lp≤9223372036854775807)(b_pb:-9223372036854775808≤pb∧pb≤9223372036854775807):
 Calls Tryz.prog 49 #[.agg #[.int .i64 lc,.int .i64 lp,.int .i64 pb]] w fun e w'=>(∃x,e=.returned (.tuple #[.int .i64 x,.int .i64 (if propsBad lc lp pb then 6 else 0)]))∧Fr (fun _=>False) w w':=by
 have HF:=Hd ((R0 w).alloc (.cells #[.int .i64 lc,.int .i64 lp,.int .i64 pb] 24))
 go_enter Tryz.func49,Tryz.ntmps49
 by_cases h2_0:lc<0
 ·have t2_0_0:(decide (lc<0))=true:=by simp;omega
  have hq:propsBad lc lp pb=true:=by unfold propsBad;simp;omega
  rw[hq]
  go_wp2_with fail
  go_ret2
  exact⟨⟨_,rfl⟩,HF.out⟩
 have g2_0_0:(decide (lc<0))=false:=by simp;omega
 by_cases h2_1:lp<0
 ·have t2_1_0:(decide (lp<0))=true:=by simp;omega
  have hq:propsBad lc lp pb=true:=by unfold propsBad;simp;omega
  rw[hq]
  go_wp2_with fail
  go_ret2
  exact⟨⟨_,rfl⟩,HF.out⟩
 have g2_1_0:(decide (lp<0))=false:=by simp;omega
 by_cases h2_2:pb<0
 ·have t2_2_0:(decide (pb<0))=true:=by simp;omega
  have hq:propsBad lc lp pb=true:=by unfold propsBad;simp;omega
  rw[hq]
  go_wp2_with fail
  go_ret2
  exact⟨⟨_,rfl⟩,HF.out⟩
 have g2_2_0:(decide (pb<0))=false:=by simp;omega
 by_cases h2_3:4<pb
 ·have t2_3_0:(decide (4<pb))=true:=by simp;omega
  have t2_3_1:(decide (pb>4))=true:=by simp;omega
  have hq:propsBad lc lp pb=true:=by unfold propsBad;simp;omega
  rw[hq]
  go_wp2_with fail
  go_ret2
  exact⟨⟨_,rfl⟩,HF.out⟩
 have g2_3_0:(decide (4<pb))=false:=by simp;omega
 have g2_3_1:(decide (pb>4))=false:=by simp;omega
 by_cases h2_4:4<lc
 ·have t2_4_0:(decide (4<lc))=true:=by simp;omega
  have t2_4_1:(decide (lc>4))=true:=by simp;omega
  have hq:propsBad lc lp pb=true:=by unfold propsBad;simp;omega
  rw[hq]
  go_wp2_with fail
  go_ret2
  exact⟨⟨_,rfl⟩,HF.out⟩
 have g2_4_0:(decide (4<lc))=false:=by simp;omega
 have g2_4_1:(decide (lc>4))=false:=by simp;omega
 by_cases h2_5:4-lc<lp
 ·have t2_5_0:(decide (4-lc<lp))=true:=by simp;omega
  have t2_5_1:(decide (lp>4-lc))=true:=by simp;omega
  have hq:propsBad lc lp pb=true:=by unfold propsBad;simp;omega
  rw[hq]
  go_wp2_with fail
  go_ret2
  exact⟨⟨_,rfl⟩,HF.out⟩
 have g2_5_0:(decide (4-lc<lp))=false:=by simp;omega
 have g2_5_1:(decide (lp>4-lc))=false:=by simp;omega
 have hq:propsBad lc lp pb=false:=by unfold propsBad;simp;omega
 rw[hq]
 go_wp2_with fail
 go_ret2
 exact⟨⟨_,rfl⟩,HF.out⟩
def legalBad(ck dl lc lp pb di bl mo:Int):Bool:=decide (¬(ck=0∨ck=1∨ck=4∨ck=10)∨propsBad lc lp pb=true∨dl<0∨256<dl∨di<4096∨67108864<di∨bl<1∨2147483648<bl∨mo<0∨2<mo)
theorem legalBad_props{ck dl lc lp pb di bl mo:Int}(h:propsBad lc lp pb=true):legalBad ck dl lc lp pb di bl mo=true:=decide_eq_true (.inr (.inl h))
theorem legalBad_eq{ck dl lc lp pb di bl mo:Int}(h:propsBad lc lp pb=false):legalBad ck dl lc lp pb di bl mo=decide (¬(ck=0∨ck=1∨ck=4∨ck=10)∨dl<0∨256<dl∨di<4096∨67108864<di∨bl<1∨2147483648<bl∨mo<0∨2<mo):=by
 unfold legalBad
 simp only[h,Bool.false_eq_true,false_or]
theorem legal_calls(ck dl lc lp pb di bl mo:Int)(w:World)(b_ck:-9223372036854775808≤ck∧ck≤9223372036854775807)(b_dl:-9223372036854775808≤dl∧dl≤9223372036854775807)(b_lc:-9223372036854775808≤lc∧lc≤9223372036854775807)(b_lp:-9223372036854775808≤lp∧lp≤9223372036854775807)(b_pb:-9223372036854775808≤pb∧pb≤9223372036854775807)(b_di:-9223372036854775808≤di∧di≤9223372036854775807)(b_bl:-9223372036854775808≤bl∧bl≤9223372036854775807)(b_mo:-9223372036854775808≤mo∧mo≤9223372036854775807):
 Calls Tryz.prog 26 #[.agg #[.int .i64 ck,.int .i64 dl,.int .i64 lc,.int .i64 lp,.int .i64 pb,.int .i64 di,.int .i64 bl,.int .i64 mo]] w fun e w'=>e=.returned (.int .i64 (if legalBad ck dl lc lp pb di bl mo then 6 else 0))∧Fr (fun _=>False) w w':=by
 have hbox:=heap_alloc_new w (.cells #[.int .i64 ck,.int .i64 dl,.int .i64 lc,.int .i64 lp,.int .i64 pb,.int .i64 di,.int .i64 bl,.int .i64 mo] 26)
 have hfr0:=(R0 w).alloc (.cells #[.int .i64 ck,.int .i64 dl,.int .i64 lc,.int .i64 lp,.int .i64 pb,.int .i64 di,.int .i64 bl,.int .i64 mo] 26)
 have HB:=Hd hbox
 have HF:=Hd hfr0
 clear hbox hfr0
 generalize hrr:(if legalBad ck dl lc lp pb di bl mo then(6:Int) else 0)=r
 have HRR:=Hd hrr
 clear hrr
 go_enter Tryz.func26,Tryz.ntmps26
 go_wp2_with fail
 refine(props_calls lc lp pb _ b_lc b_lp b_pb).mono ?_
 rintro e w1 ⟨⟨x,rfl⟩,hfr1⟩
 have hb1:=hfr1.keep HB.out (fun h=>h)
 obtain⟨c0,c1⟩:=cs2 hb1 rfl rfl
 have c5:=cell_in (i:=5) hb1 rfl
 have c6:=cell_in (i:=6) hb1 rfl
 have c7:=cell_in (i:=7) hb1 rfl
 have HF1:=Hd (HF.out.trans hfr1)
 clear hb1 hfr1
 cases hp:propsBad lc lp pb with
 |true=>
   have HQ:=Hd (legalBad_props (ck:=ck) (dl:=dl) (di:=di) (bl:=bl) (mo:=mo) hp)
   clear hp
   go_wp2_with fail
   go_ret
   exact⟨by rw[←HRR.out,HQ.out];rfl,HF1.out⟩
 |false=>
   have HP:=Hd hp
   clear hp
   by_cases h4_0:ck=0
   ·have t4_0_0:(ck==(0:Int))=true:=by simp;omega
    have s4_0_0:(ck !=(0:Int))=false:=by simp;omega
    by_cases h6_0:dl<0
    ·have t6_0_0:(decide (dl<0))=true:=by simp;omega
     have HQ:=Hd (show legalBad ck dl lc lp pb di bl mo=true by rw[legalBad_eq HP.out];simp;omega)
     go_wp2_with fail
     go_ret
     exact⟨by rw[←HRR.out,HQ.out];rfl,HF1.out⟩
    have g6_0_0:(decide (dl<0))=false:=by simp;omega
    by_cases h6_1:256<dl
    ·have t6_1_0:(decide (256<dl))=true:=by simp;omega
     have t6_1_1:(decide (dl>256))=true:=by simp;omega
     have HQ:=Hd (show legalBad ck dl lc lp pb di bl mo=true by rw[legalBad_eq HP.out];simp;omega)
     go_wp2_with fail
     go_ret
     exact⟨by rw[←HRR.out,HQ.out];rfl,HF1.out⟩
    have g6_1_0:(decide (256<dl))=false:=by simp;omega
    have g6_1_1:(decide (dl>256))=false:=by simp;omega
    by_cases h6_2:di<4096
    ·have t6_2_0:(decide (di<4096))=true:=by simp;omega
     have HQ:=Hd (show legalBad ck dl lc lp pb di bl mo=true by rw[legalBad_eq HP.out];simp;omega)
     go_wp2_with fail
     go_ret
     exact⟨by rw[←HRR.out,HQ.out];rfl,HF1.out⟩
    have g6_2_0:(decide (di<4096))=false:=by simp;omega
    by_cases h6_3:67108864<di
    ·have t6_3_0:(decide (67108864<di))=true:=by simp;omega
     have t6_3_1:(decide (di>67108864))=true:=by simp;omega
     have HQ:=Hd (show legalBad ck dl lc lp pb di bl mo=true by rw[legalBad_eq HP.out];simp;omega)
     go_wp2_with fail
     go_ret
     exact⟨by rw[←HRR.out,HQ.out];rfl,HF1.out⟩
    have g6_3_0:(decide (67108864<di))=false:=by simp;omega
    have g6_3_1:(decide (di>67108864))=false:=by simp;omega
    by_cases h6_4:bl<1
    ·have t6_4_0:(decide (bl<1))=true:=by simp;omega
     have HQ:=Hd (show legalBad ck dl lc lp pb di bl mo=true by rw[legalBad_eq HP.out];simp;omega)
     go_wp2_with fail
     go_ret
     exact⟨by rw[←HRR.out,HQ.out];rfl,HF1.out⟩
    have g6_4_0:(decide (bl<1))=false:=by simp;omega
    by_cases h6_5:2147483648<bl
    ·have t6_5_0:(decide (2147483648<bl))=true:=by simp;omega
     have t6_5_1:(decide (bl>2147483648))=true:=by simp;omega
     have HQ:=Hd (show legalBad ck dl lc lp pb di bl mo=true by rw[legalBad_eq HP.out];simp;omega)
     go_wp2_with fail
     go_ret
     exact⟨by rw[←HRR.out,HQ.out];rfl,HF1.out⟩
    have g6_5_0:(decide (2147483648<bl))=false:=by simp;omega
    have g6_5_1:(decide (bl>2147483648))=false:=by simp;omega
    by_cases h6_6:mo<0
    ·have t6_6_0:(decide (mo<0))=true:=by simp;omega
     have HQ:=Hd (show legalBad ck dl lc lp pb di bl mo=true by rw[legalBad_eq HP.out];simp;omega)
     go_wp2_with fail
     go_ret
     exact⟨by rw[←HRR.out,HQ.out];rfl,HF1.out⟩
    have g6_6_0:(decide (mo<0))=false:=by simp;omega
    by_cases h6_7:2<mo
    ·have t6_7_0:(decide (2<mo))=true:=by simp;omega
     have t6_7_1:(decide (mo>2))=true:=by simp;omega
     have HQ:=Hd (show legalBad ck dl lc lp pb di bl mo=true by rw[legalBad_eq HP.out];simp;omega)
     go_wp2_with fail
     go_ret
     exact⟨by rw[←HRR.out,HQ.out];rfl,HF1.out⟩
    have g6_7_0:(decide (2<mo))=false:=by simp;omega
    have g6_7_1:(decide (mo>2))=false:=by simp;omega
    have HQ:=Hd (show legalBad ck dl lc lp pb di bl mo=false by rw[legalBad_eq HP.out];simp;omega)
    go_wp2_with fail
    go_ret
    exact⟨by rw[←HRR.out,HQ.out];rfl,HF1.out⟩
   have g4_0_0:(ck==(0:Int))=false:=by simp;omega
   have f4_0_0:(ck !=(0:Int))=true:=by simp;omega
   by_cases h4_1:ck=1
   ·have t4_1_0:(ck==(1:Int))=true:=by simp;omega
    have s4_1_0:(ck !=(1:Int))=false:=by simp;omega
    by_cases h6_0:dl<0
    ·have t6_0_0:(decide (dl<0))=true:=by simp;omega
     have HQ:=Hd (show legalBad ck dl lc lp pb di bl mo=true by rw[legalBad_eq HP.out];simp;omega)
     go_wp2_with fail
     go_ret
     exact⟨by rw[←HRR.out,HQ.out];rfl,HF1.out⟩
    have g6_0_0:(decide (dl<0))=false:=by simp;omega
    by_cases h6_1:256<dl
    ·have t6_1_0:(decide (256<dl))=true:=by simp;omega
     have t6_1_1:(decide (dl>256))=true:=by simp;omega
     have HQ:=Hd (show legalBad ck dl lc lp pb di bl mo=true by rw[legalBad_eq HP.out];simp;omega)
     go_wp2_with fail
     go_ret
     exact⟨by rw[←HRR.out,HQ.out];rfl,HF1.out⟩
    have g6_1_0:(decide (256<dl))=false:=by simp;omega
    have g6_1_1:(decide (dl>256))=false:=by simp;omega
    by_cases h6_2:di<4096
    ·have t6_2_0:(decide (di<4096))=true:=by simp;omega
     have HQ:=Hd (show legalBad ck dl lc lp pb di bl mo=true by rw[legalBad_eq HP.out];simp;omega)
     go_wp2_with fail
     go_ret
     exact⟨by rw[←HRR.out,HQ.out];rfl,HF1.out⟩
    have g6_2_0:(decide (di<4096))=false:=by simp;omega
    by_cases h6_3:67108864<di
    ·have t6_3_0:(decide (67108864<di))=true:=by simp;omega
     have t6_3_1:(decide (di>67108864))=true:=by simp;omega
     have HQ:=Hd (show legalBad ck dl lc lp pb di bl mo=true by rw[legalBad_eq HP.out];simp;omega)
     go_wp2_with fail
     go_ret
     exact⟨by rw[←HRR.out,HQ.out];rfl,HF1.out⟩
    have g6_3_0:(decide (67108864<di))=false:=by simp;omega
    have g6_3_1:(decide (di>67108864))=false:=by simp;omega
    by_cases h6_4:bl<1
    ·have t6_4_0:(decide (bl<1))=true:=by simp;omega
     have HQ:=Hd (show legalBad ck dl lc lp pb di bl mo=true by rw[legalBad_eq HP.out];simp;omega)
     go_wp2_with fail
     go_ret
     exact⟨by rw[←HRR.out,HQ.out];rfl,HF1.out⟩
    have g6_4_0:(decide (bl<1))=false:=by simp;omega
    by_cases h6_5:2147483648<bl
    ·have t6_5_0:(decide (2147483648<bl))=true:=by simp;omega
     have t6_5_1:(decide (bl>2147483648))=true:=by simp;omega
     have HQ:=Hd (show legalBad ck dl lc lp pb di bl mo=true by rw[legalBad_eq HP.out];simp;omega)
     go_wp2_with fail
     go_ret
     exact⟨by rw[←HRR.out,HQ.out];rfl,HF1.out⟩
    have g6_5_0:(decide (2147483648<bl))=false:=by simp;omega
    have g6_5_1:(decide (bl>2147483648))=false:=by simp;omega
    by_cases h6_6:mo<0
    ·have t6_6_0:(decide (mo<0))=true:=by simp;omega
     have HQ:=Hd (show legalBad ck dl lc lp pb di bl mo=true by rw[legalBad_eq HP.out];simp;omega)
     go_wp2_with fail
     go_ret
     exact⟨by rw[←HRR.out,HQ.out];rfl,HF1.out⟩
    have g6_6_0:(decide (mo<0))=false:=by simp;omega
    by_cases h6_7:2<mo
    ·have t6_7_0:(decide (2<mo))=true:=by simp;omega
     have t6_7_1:(decide (mo>2))=true:=by simp;omega
     have HQ:=Hd (show legalBad ck dl lc lp pb di bl mo=true by rw[legalBad_eq HP.out];simp;omega)
     go_wp2_with fail
     go_ret
     exact⟨by rw[←HRR.out,HQ.out];rfl,HF1.out⟩
    have g6_7_0:(decide (2<mo))=false:=by simp;omega
    have g6_7_1:(decide (mo>2))=false:=by simp;omega
    have HQ:=Hd (show legalBad ck dl lc lp pb di bl mo=false by rw[legalBad_eq HP.out];simp;omega)
    go_wp2_with fail
    go_ret
    exact⟨by rw[←HRR.out,HQ.out];rfl,HF1.out⟩
   have g4_1_0:(ck==(1:Int))=false:=by simp;omega
   have f4_1_0:(ck !=(1:Int))=true:=by simp;omega
   by_cases h4_2:ck=4
   ·have t4_2_0:(ck==(4:Int))=true:=by simp;omega
    have s4_2_0:(ck !=(4:Int))=false:=by simp;omega
    by_cases h6_0:dl<0
    ·have t6_0_0:(decide (dl<0))=true:=by simp;omega
     have HQ:=Hd (show legalBad ck dl lc lp pb di bl mo=true by rw[legalBad_eq HP.out];simp;omega)
     go_wp2_with fail
     go_ret
     exact⟨by rw[←HRR.out,HQ.out];rfl,HF1.out⟩
    have g6_0_0:(decide (dl<0))=false:=by simp;omega
    by_cases h6_1:256<dl
    ·have t6_1_0:(decide (256<dl))=true:=by simp;omega
     have t6_1_1:(decide (dl>256))=true:=by simp;omega
     have HQ:=Hd (show legalBad ck dl lc lp pb di bl mo=true by rw[legalBad_eq HP.out];simp;omega)
     go_wp2_with fail
     go_ret
     exact⟨by rw[←HRR.out,HQ.out];rfl,HF1.out⟩
    have g6_1_0:(decide (256<dl))=false:=by simp;omega
    have g6_1_1:(decide (dl>256))=false:=by simp;omega
    by_cases h6_2:di<4096
    ·have t6_2_0:(decide (di<4096))=true:=by simp;omega
     have HQ:=Hd (show legalBad ck dl lc lp pb di bl mo=true by rw[legalBad_eq HP.out];simp;omega)
     go_wp2_with fail
     go_ret
     exact⟨by rw[←HRR.out,HQ.out];rfl,HF1.out⟩
    have g6_2_0:(decide (di<4096))=false:=by simp;omega
    by_cases h6_3:67108864<di
    ·have t6_3_0:(decide (67108864<di))=true:=by simp;omega
     have t6_3_1:(decide (di>67108864))=true:=by simp;omega
     have HQ:=Hd (show legalBad ck dl lc lp pb di bl mo=true by rw[legalBad_eq HP.out];simp;omega)
     go_wp2_with fail
     go_ret
     exact⟨by rw[←HRR.out,HQ.out];rfl,HF1.out⟩
    have g6_3_0:(decide (67108864<di))=false:=by simp;omega
    have g6_3_1:(decide (di>67108864))=false:=by simp;omega
    by_cases h6_4:bl<1
    ·have t6_4_0:(decide (bl<1))=true:=by simp;omega
     have HQ:=Hd (show legalBad ck dl lc lp pb di bl mo=true by rw[legalBad_eq HP.out];simp;omega)
     go_wp2_with fail
     go_ret
     exact⟨by rw[←HRR.out,HQ.out];rfl,HF1.out⟩
    have g6_4_0:(decide (bl<1))=false:=by simp;omega
    by_cases h6_5:2147483648<bl
    ·have t6_5_0:(decide (2147483648<bl))=true:=by simp;omega
     have t6_5_1:(decide (bl>2147483648))=true:=by simp;omega
     have HQ:=Hd (show legalBad ck dl lc lp pb di bl mo=true by rw[legalBad_eq HP.out];simp;omega)
     go_wp2_with fail
     go_ret
     exact⟨by rw[←HRR.out,HQ.out];rfl,HF1.out⟩
    have g6_5_0:(decide (2147483648<bl))=false:=by simp;omega
    have g6_5_1:(decide (bl>2147483648))=false:=by simp;omega
    by_cases h6_6:mo<0
    ·have t6_6_0:(decide (mo<0))=true:=by simp;omega
     have HQ:=Hd (show legalBad ck dl lc lp pb di bl mo=true by rw[legalBad_eq HP.out];simp;omega)
     go_wp2_with fail
     go_ret
     exact⟨by rw[←HRR.out,HQ.out];rfl,HF1.out⟩
    have g6_6_0:(decide (mo<0))=false:=by simp;omega
    by_cases h6_7:2<mo
    ·have t6_7_0:(decide (2<mo))=true:=by simp;omega
     have t6_7_1:(decide (mo>2))=true:=by simp;omega
     have HQ:=Hd (show legalBad ck dl lc lp pb di bl mo=true by rw[legalBad_eq HP.out];simp;omega)
     go_wp2_with fail
     go_ret
     exact⟨by rw[←HRR.out,HQ.out];rfl,HF1.out⟩
    have g6_7_0:(decide (2<mo))=false:=by simp;omega
    have g6_7_1:(decide (mo>2))=false:=by simp;omega
    have HQ:=Hd (show legalBad ck dl lc lp pb di bl mo=false by rw[legalBad_eq HP.out];simp;omega)
    go_wp2_with fail
    go_ret
    exact⟨by rw[←HRR.out,HQ.out];rfl,HF1.out⟩
   have g4_2_0:(ck==(4:Int))=false:=by simp;omega
   have f4_2_0:(ck !=(4:Int))=true:=by simp;omega
   by_cases h4_3:ck=10
   ·have t4_3_0:(ck==(10:Int))=true:=by simp;omega
    have s4_3_0:(ck !=(10:Int))=false:=by simp;omega
    by_cases h6_0:dl<0
    ·have t6_0_0:(decide (dl<0))=true:=by simp;omega
     have HQ:=Hd (show legalBad ck dl lc lp pb di bl mo=true by rw[legalBad_eq HP.out];simp;omega)
     go_wp2_with fail
     go_ret
     exact⟨by rw[←HRR.out,HQ.out];rfl,HF1.out⟩
    have g6_0_0:(decide (dl<0))=false:=by simp;omega
    by_cases h6_1:256<dl
    ·have t6_1_0:(decide (256<dl))=true:=by simp;omega
     have t6_1_1:(decide (dl>256))=true:=by simp;omega
     have HQ:=Hd (show legalBad ck dl lc lp pb di bl mo=true by rw[legalBad_eq HP.out];simp;omega)
     go_wp2_with fail
     go_ret
     exact⟨by rw[←HRR.out,HQ.out];rfl,HF1.out⟩
    have g6_1_0:(decide (256<dl))=false:=by simp;omega
    have g6_1_1:(decide (dl>256))=false:=by simp;omega
    by_cases h6_2:di<4096
    ·have t6_2_0:(decide (di<4096))=true:=by simp;omega
     have HQ:=Hd (show legalBad ck dl lc lp pb di bl mo=true by rw[legalBad_eq HP.out];simp;omega)
     go_wp2_with fail
     go_ret
     exact⟨by rw[←HRR.out,HQ.out];rfl,HF1.out⟩
    have g6_2_0:(decide (di<4096))=false:=by simp;omega
    by_cases h6_3:67108864<di
    ·have t6_3_0:(decide (67108864<di))=true:=by simp;omega
     have t6_3_1:(decide (di>67108864))=true:=by simp;omega
     have HQ:=Hd (show legalBad ck dl lc lp pb di bl mo=true by rw[legalBad_eq HP.out];simp;omega)
     go_wp2_with fail
     go_ret
     exact⟨by rw[←HRR.out,HQ.out];rfl,HF1.out⟩
    have g6_3_0:(decide (67108864<di))=false:=by simp;omega
    have g6_3_1:(decide (di>67108864))=false:=by simp;omega
    by_cases h6_4:bl<1
    ·have t6_4_0:(decide (bl<1))=true:=by simp;omega
     have HQ:=Hd (show legalBad ck dl lc lp pb di bl mo=true by rw[legalBad_eq HP.out];simp;omega)
     go_wp2_with fail
     go_ret
     exact⟨by rw[←HRR.out,HQ.out];rfl,HF1.out⟩
    have g6_4_0:(decide (bl<1))=false:=by simp;omega
    by_cases h6_5:2147483648<bl
    ·have t6_5_0:(decide (2147483648<bl))=true:=by simp;omega
     have t6_5_1:(decide (bl>2147483648))=true:=by simp;omega
     have HQ:=Hd (show legalBad ck dl lc lp pb di bl mo=true by rw[legalBad_eq HP.out];simp;omega)
     go_wp2_with fail
     go_ret
     exact⟨by rw[←HRR.out,HQ.out];rfl,HF1.out⟩
    have g6_5_0:(decide (2147483648<bl))=false:=by simp;omega
    have g6_5_1:(decide (bl>2147483648))=false:=by simp;omega
    by_cases h6_6:mo<0
    ·have t6_6_0:(decide (mo<0))=true:=by simp;omega
     have HQ:=Hd (show legalBad ck dl lc lp pb di bl mo=true by rw[legalBad_eq HP.out];simp;omega)
     go_wp2_with fail
     go_ret
     exact⟨by rw[←HRR.out,HQ.out];rfl,HF1.out⟩
    have g6_6_0:(decide (mo<0))=false:=by simp;omega
    by_cases h6_7:2<mo
    ·have t6_7_0:(decide (2<mo))=true:=by simp;omega
     have t6_7_1:(decide (mo>2))=true:=by simp;omega
     have HQ:=Hd (show legalBad ck dl lc lp pb di bl mo=true by rw[legalBad_eq HP.out];simp;omega)
     go_wp2_with fail
     go_ret
     exact⟨by rw[←HRR.out,HQ.out];rfl,HF1.out⟩
    have g6_7_0:(decide (2<mo))=false:=by simp;omega
    have g6_7_1:(decide (mo>2))=false:=by simp;omega
    have HQ:=Hd (show legalBad ck dl lc lp pb di bl mo=false by rw[legalBad_eq HP.out];simp;omega)
    go_wp2_with fail
    go_ret
    exact⟨by rw[←HRR.out,HQ.out];rfl,HF1.out⟩
   have g4_3_0:(ck==(10:Int))=false:=by simp;omega
   have f4_3_0:(ck !=(10:Int))=true:=by simp;omega
   have HQ:=Hd (show legalBad ck dl lc lp pb di bl mo=true by rw[legalBad_eq HP.out];simp;omega)
   go_wp2_with fail
   go_ret
   exact⟨by rw[←HRR.out,HQ.out];rfl,HF1.out⟩
end Ch
namespace Ch
open Mem Vi
def ofA(d k:Nat):List (Nat×List UInt8):=(if d=0 then[] else[(3,[UInt8.ofNat (d-1)])])++[(33,[UInt8.ofNat k])]
def OfPost(d k:Nat)(w:World)(e:Ending)(w':World):Prop:=∃v' l,e=.returned (.tuple #[v',.int .i64 0])∧OwnF w w' v' l∧ffs l=ofA d k
theorem of_plain(ck lc lp pb bl mo:Int)(n k:Nat)(w:World)(b_ck:-9223372036854775808≤ck∧ck≤9223372036854775807)(b_lc:-9223372036854775808≤lc∧lc≤9223372036854775807)(b_lp:-9223372036854775808≤lp∧lp≤9223372036854775807)(b_pb:-9223372036854775808≤pb∧pb≤9223372036854775807)(b_bl:-9223372036854775808≤bl∧bl≤9223372036854775807)(b_mo:-9223372036854775808≤mo∧mo≤9223372036854775807)
 (hn:n≤4294967295)(hk:IsByte n k)(hgood:legalBad ck 0 lc lp pb n bl mo=false):
 Calls Tryz.prog 25 #[.agg #[.int .i64 ck,.int .i64 0,.int .i64 lc,.int .i64 lp,.int .i64 pb,.int .i64 n,.int .i64 bl,.int .i64 mo]] w (OfPost 0 k w):=by
 have hbox:=heap_alloc_new w (.cells #[.int .i64 ck,.int .i64 0,.int .i64 lc,.int .i64 lp,.int .i64 pb,.int .i64 n,.int .i64 bl,.int .i64 mo] 26)
 have hfr0:=(R0 w).alloc (.cells #[.int .i64 ck,.int .i64 0,.int .i64 lc,.int .i64 lp,.int .i64 pb,.int .i64 n,.int .i64 bl,.int .i64 mo] 26)
 have HB:=Hd hbox
 have HF:=Hd hfr0
 have HK:=Hd hk
 have HG:=Hd hgood
 clear hbox hfr0 hk hgood
 go_enter Tryz.func25,Tryz.ntmps25
 go_wp2_with fail
 refine(legal_calls ck 0 lc lp pb n bl mo _ b_ck (by omega) b_lc b_lp b_pb (by omega) b_bl b_mo).mono ?_
 rintro e w1 ⟨rfl,hfr1⟩
 simp only[HG.out,Bool.false_eq_true,if_false]
 have hb1:=hfr1.keep HB.out (fun h=>h)
 have c1:=cell_in (i:=1) hb1 rfl
 have c5:=cell_in (i:=5) hb1 rfl
 have HF1:=Hd (HF.out.trans hfr1)
 clear hb1 hfr1
 go_wp2_with fail
 refine(dictByte_calls n k _ hn HK.out).mono ?_
 rintro e w' ⟨rfl,rfl⟩
 have hk40:=HK.out.1
 have hby:(k:Int)=((UInt8.ofNat k).toNat:Int):=by rw[UInt8.toNat_ofNat'];omega
 have hx:=rd_one w1 w1.heap.size rfl (UInt8.ofNat k) (k:Int) hby
 have hx:=hx.keep ((R0 _).alloc (.cells #[.int .u64 33,.slice (some ⟨w1.heap.size,0,none⟩) 1 1] 69))
 have hbl:=heap_alloc_new (w1.alloc (.cells #[.int .u8 k] 5)) (.cells #[.int .u64 33,.slice (some ⟨w1.heap.size,0,none⟩) 1 1] 69)
 have hf2:=((R0 w1).alloc (.cells #[.int .u8 k] 5)).alloc (.cells #[.int .u64 33,.slice (some ⟨w1.heap.size,0,none⟩) 1 1] 69)
 simp only[World.size_alloc] at hbl
 have HX:=Hd hx
 have HBL:=Hd hbl
 have HF2:=Hd (HF1.out.trans hf2)
 clear hby hx hbl hf2
 go_wp2_with (first
  | (at_builtin
     refine append_filter rfl _ _ rfl (.slice none 0 0) [] (w1.heap.size+1) 33 (.slice (some ⟨w1.heap.size,0,none⟩) 1 1) [UInt8.ofNat k] rfl rfl (OwnF.nil _) HBL.out (by omega) HX.out (fun _ j _ h=>by simp[Value.ownBlock] at h) (by simp) ?_
     intro p3 cap3 n3 w3 hn3 hA3 hfr3
     have HA3:=Hd hA3
     clear hA3 hfr3 hn3))
 go_ret2
 exact⟨_,_,rfl,HA3.out.older HF2.out,by simp[ffs,ofA]⟩
theorem of_delta(ck lc lp pb bl mo:Int)(d n k:Nat)(w:World)(b_ck:-9223372036854775808≤ck∧ck≤9223372036854775807)(b_lc:-9223372036854775808≤lc∧lc≤9223372036854775807)(b_lp:-9223372036854775808≤lp∧lp≤9223372036854775807)(b_pb:-9223372036854775808≤pb∧pb≤9223372036854775807)(b_bl:-9223372036854775808≤bl∧bl≤9223372036854775807)(b_mo:-9223372036854775808≤mo∧mo≤9223372036854775807)
 (hd0:0<d)(hd:d≤256)(hn:n≤4294967295)(hk:IsByte n k)(hgood:legalBad ck d lc lp pb n bl mo=false):
 Calls Tryz.prog 25 #[.agg #[.int .i64 ck,.int .i64 d,.int .i64 lc,.int .i64 lp,.int .i64 pb,.int .i64 n,.int .i64 bl,.int .i64 mo]] w (OfPost d k w):=by
 have hbox:=heap_alloc_new w (.cells #[.int .i64 ck,.int .i64 d,.int .i64 lc,.int .i64 lp,.int .i64 pb,.int .i64 n,.int .i64 bl,.int .i64 mo] 26)
 have hfr0:=(R0 w).alloc (.cells #[.int .i64 ck,.int .i64 d,.int .i64 lc,.int .i64 lp,.int .i64 pb,.int .i64 n,.int .i64 bl,.int .i64 mo] 26)
 have HB:=Hd hbox
 have HF:=Hd hfr0
 have HK:=Hd hk
 have HG:=Hd hgood
 clear hbox hfr0 hk hgood
 go_enter Tryz.func25,Tryz.ntmps25
 go_wp2_with fail
 refine(legal_calls ck d lc lp pb n bl mo _ b_ck (by omega) b_lc b_lp b_pb (by omega) b_bl b_mo).mono ?_
 rintro e w1 ⟨rfl,hfr1⟩
 simp only[HG.out,Bool.false_eq_true,if_false]
 have hb1:=hfr1.keep HB.out (fun h=>h)
 have c1:=cell_in (i:=1) hb1 rfl
 have c5:=cell_in (i:=5) hb1 rfl
 have HF1:=Hd (HF.out.trans hfr1)
 clear hb1 hfr1
 go_wp2_with fail
 refine(dictByte_calls n k _ hn HK.out).mono ?_
 rintro e w' ⟨rfl,rfl⟩
 have hk40:=HK.out.1
 have hne:((d:Int) !=0)=true:=by simp;omega
 have hby:((d:Int)-1)=((UInt8.ofNat (d-1)).toNat:Int):=by rw[UInt8.toNat_ofNat'];omega
 have hx:=rd_one w1 w1.heap.size rfl (UInt8.ofNat (d-1)) ((d:Int)-1) hby
 have hx:=hx.keep ((R0 _).alloc (.cells #[.int .u64 3,.slice (some ⟨w1.heap.size,0,none⟩) 1 1] 69))
 have hbl:=heap_alloc_new (w1.alloc (.cells #[.int .u8 ((d:Int)-1)] 5)) (.cells #[.int .u64 3,.slice (some ⟨w1.heap.size,0,none⟩) 1 1] 69)
 have hf2:=((R0 w1).alloc (.cells #[.int .u8 ((d:Int)-1)] 5)).alloc (.cells #[.int .u64 3,.slice (some ⟨w1.heap.size,0,none⟩) 1 1] 69)
 simp only[World.size_alloc] at hbl
 have HX:=Hd hx
 have HBL:=Hd hbl
 have HF2:=Hd (HF1.out.trans hf2)
 clear hby hx hbl hf2
 go_wp2_with (first
  | (at_builtin
     refine append_filter rfl _ _ rfl (.slice none 0 0) [] (w1.heap.size+1) 3 (.slice (some ⟨w1.heap.size,0,none⟩) 1 1) [UInt8.ofNat (d-1)] rfl rfl (OwnF.nil _) HBL.out (by omega) HX.out (fun _ j _ h=>by simp[Value.ownBlock] at h) (by simp) ?_
     intro p3 cap3 n3 w3 hn3 hA3 hfr3
     have hby2:(k:Int)=((UInt8.ofNat k).toNat:Int):=by rw[UInt8.toNat_ofNat'];omega
     have hx2:=rd_one w3 w3.heap.size rfl (UInt8.ofNat k) (k:Int) hby2
     have hx2:=hx2.keep ((R0 _).alloc (.cells #[.int .u64 33,.slice (some ⟨w3.heap.size,0,none⟩) 1 1] 69))
     have hbl2:=heap_alloc_new (w3.alloc (.cells #[.int .u8 k] 5)) (.cells #[.int .u64 33,.slice (some ⟨w3.heap.size,0,none⟩) 1 1] 69)
     have hf3:=((R0 w3).alloc (.cells #[.int .u8 k] 5)).alloc (.cells #[.int .u64 33,.slice (some ⟨w3.heap.size,0,none⟩) 1 1] 69)
     simp only[World.size_alloc] at hbl2
     have hlt:∀j,(Value.slice p3 n3 cap3).ownBlock=some j→j<w3.heap.size:=fun j hj=>(World.ownsRow.lt hA3.own j hj).2
     have HLT:=Hd hlt
     have HX2:=Hd hx2
     have HBL2:=Hd hbl2
     have HA3:=Hd (hA3.keep hf3)
     clear hA3 hfr3 hn3 hby2 hx2 hbl2 hf3 hlt)
  | (at_builtin
     refine append_filter rfl _ _ rfl (.slice p3 n3 cap3) _ (w3.heap.size+1) 33 (.slice (some ⟨w3.heap.size,0,none⟩) 1 1) [UInt8.ofNat k] rfl rfl HA3.out HBL2.out (by omega) HX2.out (fun _ j hj h=>by simp only[Value.ownBlock,Option.some.injEq] at hj;have:=HLT.out j h;omega) (by simp) ?_
     intro p4 cap4 n4 w4 hn4 hA4 hfr4
     have HA4:=Hd hA4
     clear hA4 hfr4 hn4))
 go_ret2
 exact⟨_,_,rfl,HA4.out.older HF2.out,by simp[ffs,ofA,show d≠0 by omega]⟩
end Ch
namespace Ck
open Mem Wire
theorem beyond_untold(n:Nat):beyond (-1) n=false:=by unfold beyond;simp
def toldBad(P S:Int)(s:Sr)(h:Head)(s2:Sr):Bool:=beyond P (s.at'+1)||(decide (h.kind=0)&& !ends P S s.at' s.plain)||beyond P s2.at'||beyond S s2.plain
structure Good(b:List UInt8)(s:Sr)(h:Head)(part:List UInt8)(fr:Nat)(s2:Sr)(k:Nat):Prop where
 lt:s.at'<b.length
 kind:kindOf (b.getD s.at' 0).toNat=some k
 mv:move s.now k≠4
 err:(get ((b.drop s.at').take 6)).2.2=0
 long:¬b.length-(s.at'+(get ((b.drop s.at').take 6)).2.1)<(get ((b.drop s.at').take 6)).1.packed
 eh:h=(get ((b.drop s.at').take 6)).1
 efr:fr=s.at'+(get ((b.drop s.at').take 6)).2.1
 epart:part=(b.drop fr).take h.packed
 es2:s2=⟨fr+h.packed,s.plain+h.size,move s.now k⟩
theorem good_of{b:List UInt8}{s s2:Sr}{h:Head}{part:List UInt8}{fr:Nat}(ha:s.at'≤b.length)(e:nextP b (-1) (-1) s=.ok (h,part,fr,s2)):∃k,Good b s h part fr s2 k:=by
 unfold nextP at e
 rw[if_neg (by rw[beyond_untold];decide)] at e
 split at e
 ·cases e
 ·rename_i hne
  split at e
  ·cases e
  ·rename_i k hk
   split at e
   ·cases e
   ·rename_i hmv
    split at e
    ·cases e
    ·split at e
     ·cases e
     ·rename_i hge
      split at e
      ·cases e
      ·split at e
       ·cases e
       ·rename_i hsh
        simp only[Except.ok.injEq,Prod.mk.injEq] at e
        obtain⟨rfl,rfl,rfl,rfl⟩:=e
        exact⟨k,⟨by omega,hk,hmv,by simpa using hge,hsh,rfl,rfl,rfl,rfl⟩⟩
theorem good_told{b:List UInt8}{s s2:Sr}{h:Head}{part:List UInt8}{fr k:Nat}(g:Good b s h part fr s2 k)(hk:k=0↔h.kind=0)(P S:Int):nextP b P S s=if toldBad P S s h s2 then .error (s.at',2) else .ok (h,part,fr,s2):=by
 obtain⟨g1,g2,g3,g4,g5,g6,g7,g8,g9⟩:=g
 unfold nextP toldBad
 cases h1:beyond P (s.at'+1) with
 |true=>simp
 |false=>
   rw[if_neg (by decide),if_neg (by omega),g2]
   simp only
   rw[if_neg g3]
   by_cases h2:k=0∧ends P S s.at' s.plain=false
   ·rw[if_pos h2]
    simp[hk.1 h2.1,h2.2]
   ·rw[if_neg h2,if_neg (by simpa using g4),←g6,←g7]
    subst g9
    cases h3:beyond P (fr+h.packed) with
    |true=>simp
    |false=>
      cases h4:beyond S (s.plain+h.size) with
      |true=>simp
      |false=>
        rw[if_neg (by decide),if_neg (by rw[g7,g6];exact g5),if_neg,g8]
        simp only[Bool.false_or,Bool.or_false,Bool.and_eq_true,decide_eq_true_eq,Bool.not_eq_true']
        exact fun hh=>h2 ⟨hk.2 hh.1,hh.2⟩
end Ck
namespace Ck
open Mem Wire
theorem get_kind(xs:List UInt8)(h:(get xs).2.2=0):(get xs).1.kind=0↔(xs.getD 0 0).toNat=0:=by
 unfold get at*
 simp only at*
 by_cases h0:xs.length=0
 ·rw[if_pos h0] at h
  simp at h
 rw[if_neg h0] at h ⊢
 by_cases h1:(xs.getD 0 0).toNat=0
 ·rw[if_pos h1]
  exact⟨fun _=>h1,fun _=>rfl⟩
 rw[if_neg h1] at h ⊢
 by_cases h2:(xs.getD 0 0).toNat≤2
 ·rw[if_pos h2] at h ⊢
  by_cases h3:xs.length<3
  ·rw[if_pos h3] at h
   simp at h
  ·rw[if_neg h3]
 rw[if_neg h2] at h ⊢
 by_cases h3:(xs.getD 0 0).toNat<128
 ·rw[if_pos h3] at h
  simp at h
 rw[if_neg h3] at h ⊢
 by_cases h4:xs.length<5
 ·rw[if_pos h4] at h
  simp at h
 rw[if_neg h4] at h ⊢
 by_cases h5:((xs.getD 0 0).toNat-128)/32<2
 ·rw[if_pos h5]
  simp only
  exact⟨fun h=>by omega,fun h=>by omega⟩
 rw[if_neg h5] at h ⊢
 by_cases h6:xs.length<6
 ·rw[if_pos h6] at h
  simp at h
 rw[if_neg h6] at h ⊢
 by_cases h7:St.bytePropsOk (xs.getD 5 0).toNat=true
 ·rw[if_pos h7]
  simp only
  exact⟨fun h=>by omega,fun h=>by omega⟩
 ·rw[if_neg h7] at h
  simp at h
theorem good_kind{b:List UInt8}{s s2:Sr}{h:Head}{part:List UInt8}{fr k:Nat}(g:Good b s h part fr s2 k):k=0↔h.kind=0:=by
 obtain⟨g1,g2,g3,g4,g5,g6,g7,g8,g9⟩:=g
 have e0:((b.drop s.at').take 6).getD 0 0=b.getD s.at' 0:=by
  simp only[List.getD_eq_getElem?_getD,List.getElem?_take,List.getElem?_drop,Nat.add_zero]
  rw[if_pos (by omega)]
 have hxk:=get_kind _ g4
 rw[e0] at hxk
 rw[g6,hxk]
 unfold kindOf at g2
 split at g2
 ·have:=Option.some.inj g2
  omega
 ·split at g2
  ·cases g2
  ·have:=Option.some.inj g2
   omega
end Ck
namespace Ck
open Mem Wire
theorem takeGo_ok(n:Nat):∀(f:Nat)(c:Lz.C)(y:Lz.Y)(l:List St.Sy)(out:List UInt8){c2:Lz.C}{y2:Lz.Y}{l2:List St.Sy}{out2:List UInt8},y.Ok c.lc c.lp→Lz.takeGo n f c y l out=some (c2,y2,l2,out2)→y2.Ok c2.lc c2.lp
 |0,c,y,l,out,c2,y2,l2,out2,hy,h=>by cases h
 |f+1,c,y,l,out,c2,y2,l2,out2,hy,h=>by
   rw[Lz.takeGo_succ] at h
   have hsy:=Lz.Y.symbol_ok (c:=c) hy
   by_cases h1:n≤out.length
   ·rw[if_pos h1] at h
    simp only[Option.some.injEq,Prod.mk.injEq] at h
    obtain⟨rfl,rfl,rfl,rfl⟩:=h
    exact hy
   ·rw[if_neg h1] at h
    split at h
    ·cases h
    ·split at h
     ·cases h
     ·exact takeGo_ok n f ((c.on (St.apply c.size c.all c.s (y.symbol c).1).2.1).to (St.apply c.size c.all c.s (y.symbol c).1).2.2) (y.symbol c).2 _ _ (show(y.symbol c).2.Ok c.lc c.lp from hsy.1) h
structure POk(u:US):Prop where
 p:∀j,j<18→Rc.okP (u.ps j)
 len:∀j,j<18→(u.ps j).length=Lz.rowLen u.c.lc u.c.lp j
theorem fresh_pok(a b:Nat):(∀j,j<18→Rc.okP (Lz.fresh a b j))∧∀j,j<18→(Lz.fresh a b j).length=Lz.rowLen a b j:=
 ⟨fun j hj p hpm=>by
  simp only[Lz.fresh] at hpm
  rw[List.eq_of_mem_replicate hpm]
  decide,fun j _=>Lz.fresh_len a b j⟩
theorem take_pok{u u2:US}(h:POk u){part:List UInt8}(hp:part.length≤65536){n:Nat}(e:u.take part n=some u2):POk u2∧u2.out.length=u.out.length+n:=by
 unfold US.take at e
 cases hta:Lz.takeAll u.c u.ps part n with
 |none=>rw[hta] at e;cases e
 |some r=>
   obtain⟨ls,outs,c2,ps2⟩:=r
   rw[hta] at e
   simp only[Option.map_some,Option.some.injEq] at e
   subst e
   have hy:∀d,Rc.init part=.ok d→(⟨d,false,u.ps⟩:Lz.Y).Ok u.c.lc u.c.lp:=fun d hd=>⟨(Rc.init_ok hd (by omega)).1,h.p,h.len⟩
   have h1:=take_len hta hy
   refine⟨?_,by simp only[List.length_append];omega⟩
   unfold Lz.takeAll at hta
   split at hta
   ·cases hta
   ·rename_i d hd
    split at hta
    ·cases hta
    ·rename_i c3 y3 l3 out3 hg
     split at hta
     ·simp only[Option.some.injEq,Prod.mk.injEq] at hta
      obtain⟨rfl,rfl,rfl,rfl⟩:=hta
      have:=takeGo_ok n _ _ _ _ _ (hy d hd) hg
      exact⟨this.p,this.len⟩
     ·cases hta
theorem step_pok{u u2:US}(hU:POk u){h:Head}{part:List UInt8}(hp:part.length≤65536)(hpl:h.kind<3→part.length=h.size)(hk:h.kind≤6)(e:u.step h part=some u2):POk u2∧u2.out.length=u.out.length+h.size:=by
 unfold US.step at e
 split at e
 ·simp only[Option.some.injEq] at e
  subst e
  exact⟨⟨hU.p,hU.len⟩,by simp only[US.raw,List.length_append];omega⟩
 ·split at e
  ·simp only[Option.some.injEq] at e
   subst e
   exact⟨⟨(fresh_pok u.c.lc u.c.lp).1,(fresh_pok u.c.lc u.c.lp).2⟩,by simp only[US.raw,US.clear,List.length_append];omega⟩
  ·split at e
   ·exact take_pok hU hp e
   ·split at e
    ·exact take_pok (u:=u.reset) ⟨(fresh_pok _ _).1,(fresh_pok _ _).2⟩ hp e
    ·split at e
     ·exact take_pok (u:=(u.props h).reset) ⟨(fresh_pok _ _).1,(fresh_pok _ _).2⟩ hp e
     ·exact take_pok (u:=(u.clear.props h).reset) ⟨(fresh_pok _ _).1,(fresh_pok _ _).2⟩ hp e
theorem start_pok(dict:Nat):POk (US.start dict):=⟨(fresh_pok 0 0).1,(fresh_pok 0 0).2⟩
inductive Run (b:List UInt8):Nat→Sr→US→Nat→US→Prop
 |done {f:Nat}{s:Sr}{u:US}(h:s.now=3):Run b (f+1) s u s.at' u
 |step {f n:Nat}{s s2:Sr}{u u2 v:US}{h:Head}{part:List UInt8}{fr k:Nat}(h3:s.now≠3)(g:Good b s h part fr s2 k)(ok:NextOk b s h part fr s2)(e:u.step h part=some u2)(hk:k=0↔h.kind=0)(r:Run b f s2 u2 n v):Run b (f+1) s u n v
theorem run_of(b:List UInt8):∀(f:Nat)(s:Sr)(u:US){n:Nat}{v:US},s.now<4→s.at'≤b.length→readP b (-1) (-1) f s u=.ok (n,v)→Run b f s u n v
 |0,s,u,n,v,_,_,e=>by cases e
 |f+1,s,u,n,v,hn,ha,e=>by
   unfold readP at e
   by_cases h3:s.now=3
   ·rw[if_pos h3] at e
    simp only[Except.ok.injEq,Prod.mk.injEq] at e
    obtain⟨rfl,rfl⟩:=e
    exact .done h3
   ·rw[if_neg h3] at e
    cases hx:nextP b (-1) (-1) s with
    |error x=>rw[hx] at e;cases e
    |ok r=>
      obtain⟨h,part,fr,s2⟩:=r
      rw[hx] at e
      simp only at e
      have hok:=nextP_ok hn ha hx
      obtain⟨k,g⟩:=good_of ha hx
      cases hs:u.step h part with
      |none=>rw[hs] at e;cases e
      |some u2=>
        rw[hs] at e
        simp only at e
        exact .step h3 g hok hs (good_kind g) (run_of b f s2 u2 hok.now hok.le e)
end Ck
end Go.Proofs.YtffoddpjfgjelaaGreatDoor
