/- Part 4 of 54: lemmas of the last part, each under the conditions that it names. -/
import Derived.LoopN
import Derived.WalkLawsBesides
import Derived.Deep.QuietTactic
import Derived.BigQuiet
import Derived.IntWalk
import Derived.Test.YtlgccpjccopdmaaGreatDoorRows
import Derived.WalkKit
import Derived.WalkSpells
import Derived.Lib.Hide
import Derived.Deep.RegionWith
import Derived.Test.YtlgccpjccopdmaaGreatDoorP01
import Derived.Test.YtlgccpjccopdmaaGreatDoorP02
import Derived.Test.YtlgccpjccopdmaaGreatDoorP03
set_option linter.unusedVariables false
set_option linter.unusedSimpArgs false
set_option maxRecDepth 1500
set_option maxHeartbeats 4000000
namespace Go.Proofs.YtlgccpjccopdmaaGreatDoor
open Go.RowKit
namespace St
open Mem
structure S where
 num:Nat
 r0:Nat
 r1:Nat
 r2:Nat
 r3:Nat
abbrev isD(d:Nat):Prop:=1≤d∧d≤4294967295
structure S.Ok(s:S):Prop where
 num:s.num<12
 r0:isD s.r0
 r1:isD s.r1
 r2:isD s.r2
 r3:isD s.r3
def S.cells(s:S):Array Value:=#[.int .i64 s.num,.int .i64 s.r0,.int .i64 s.r1,.int .i64 s.r2,.int .i64 s.r3]
def S.new:S:=⟨0,1,1,1,1⟩
theorem S.new_ok:S.new.Ok:=by constructor<;>simp[S.new,isD]
theorem dist_calls(d:Nat)(w:World):Calls Tryz.prog 149 #[.int .i64 d] w fun e w'=>e=.returned (.bool (decide (1≤d∧d≤4294967295)))∧w=w':=by
 generalize hq:decide (1≤d∧d≤4294967295)=q
 have HQ:=Hd hq
 clear hq
 by_cases h1:1≤d
 ·have t1:decide ((d:Int)≥1)=true:=by simp;omega
  have t2:decide ((1:Int)≤d)=true:=by simp;omega
  by_cases h2:d≤4294967295
  ·have t3:decide ((d:Int)≤4294967295)=true:=by simp;omega
   go_enter Tryz.func149,Tryz.ntmps149
   go_wp2_with fail
   go_ret
   exact⟨by rw[←HQ.out];simp[h1,h2],rfl⟩
  ·have t3:decide ((d:Int)≤4294967295)=false:=by simp;omega
   go_enter Tryz.func149,Tryz.ntmps149
   go_wp2_with fail
   go_ret
   exact⟨by rw[←HQ.out];simp[h2],rfl⟩
 ·have t1:decide ((d:Int)≥1)=false:=by simp;omega
  have t2:decide ((1:Int)≤d)=false:=by simp;omega
  go_enter Tryz.func149,Tryz.ntmps149
  go_wp2_with fail
  go_ret
  exact⟨by rw[←HQ.out];simp[h1],rfl⟩
theorem len_calls(d:Nat)(w:World):Calls Tryz.prog 148 #[.int .i64 d] w fun e w'=>e=.returned (.bool (decide (2≤d∧d≤273)))∧w=w':=by
 generalize hq:decide (2≤d∧d≤273)=q
 have HQ:=Hd hq
 clear hq
 by_cases h1:2≤d
 ·have t1:decide ((d:Int)≥2)=true:=by simp;omega
  have t2:decide ((2:Int)≤d)=true:=by simp;omega
  by_cases h2:d≤273
  ·have t3:decide ((d:Int)≤273)=true:=by simp;omega
   go_enter Tryz.func148,Tryz.ntmps148
   go_wp2_with fail
   go_ret
   exact⟨by rw[←HQ.out];simp[h1,h2],rfl⟩
  ·have t3:decide ((d:Int)≤273)=false:=by simp;omega
   go_enter Tryz.func148,Tryz.ntmps148
   go_wp2_with fail
   go_ret
   exact⟨by rw[←HQ.out];simp[h2],rfl⟩
 ·have t1:decide ((d:Int)≥2)=false:=by simp;omega
  have t2:decide ((2:Int)≤d)=false:=by simp;omega
  go_enter Tryz.func148,Tryz.ntmps148
  go_wp2_with fail
  go_ret
  exact⟨by rw[←HQ.out];simp[h1],rfl⟩
theorem new_calls(w:World):Calls Tryz.prog 25 #[] w fun e w'=>e=.returned (.agg S.new.cells)∧Fr (fun _=>False) w w':=by
 have hbx:=heap_alloc_new w (.cells #[.int .i64 0,.int .i64 1,.int .i64 1,.int .i64 1,.int .i64 1] 71)
 obtain⟨c0,c1,c2,c3,c4⟩:=cs5 hbx rfl rfl rfl rfl rfl
 clear hbx
 go_enter Tryz.func25,Tryz.ntmps25
 go_wp2_with fail
 refine bodyPost_ret (v:=.agg #[.int .i64 0,.int .i64 1,.int .i64 1,.int .i64 1,.int .i64 1]) (by simp[results,Tryz.results25,go_sem,c0,c1,c2,c3,c4]) rfl ?_
 exact⟨rfl,(Fr.refl _ _).alloc _⟩
theorem literal_calls(s:S)(w:World):Calls Tryz.prog 207 #[.agg s.cells] w fun e w'=>e=.returned (.bool (decide (s.num<7)))∧Fr (fun _=>False) w w':=by
 obtain⟨n,a,b,c,d⟩:=s
 unfold S.cells
 generalize hq:decide (n<7)=q
 have HQ:=Hd hq
 have HF:=Hd ((Fr.refl (fun _=>False) w).alloc (.cells #[.int .i64 n,.int .i64 a,.int .i64 b,.int .i64 c,.int .i64 d] 71))
 clear hq
 have t1:decide ((n:Int)≥0)=true:=by simp
 have t2:decide ((0:Int)≤n)=true:=by simp
 by_cases h:n<7
 ·have t3:decide ((n:Int)<7)=true:=by simp;omega
  go_enter Tryz.func207,Tryz.ntmps207
  go_wp2_with fail
  go_ret
  exact⟨by rw[←HQ.out];simp[h],HF.out⟩
 ·have t3:decide ((n:Int)<7)=false:=by simp;omega
  go_enter Tryz.func207,Tryz.ntmps207
  go_wp2_with fail
  go_ret
  exact⟨by rw[←HQ.out];simp[h],HF.out⟩
set_option maxRecDepth 100000 in
theorem reps_at(b0 b1 b2 b3:Int):(∀w,(Instr.index 69 (.agg #[.int .i64 b0,.int .i64 b1,.int .i64 b2,.int .i64 b3]) (.int .i64 0)).run Tryz.prog w=.ok (.int .i64 b0) w)∧(∀w,(Instr.index 69 (.agg #[.int .i64 b0,.int .i64 b1,.int .i64 b2,.int .i64 b3]) (.int .i64 1)).run Tryz.prog w=.ok (.int .i64 b1) w)∧(∀w,(Instr.index 69 (.agg #[.int .i64 b0,.int .i64 b1,.int .i64 b2,.int .i64 b3]) (.int .i64 2)).run Tryz.prog w=.ok (.int .i64 b2) w)∧(∀w,(Instr.index 69 (.agg #[.int .i64 b0,.int .i64 b1,.int .i64 b2,.int .i64 b3]) (.int .i64 3)).run Tryz.prog w=.ok (.int .i64 b3) w):=by
 refine⟨?_,?_,?_,?_⟩
 all_goals exact fun _=>by kernel_rfl
def repAt(s:S)(k:Nat):Nat:=if k=0 then s.r0 else if k=1 then s.r1 else if k=2 then s.r2 else s.r3
set_option maxRecDepth 100000 in
theorem right_calls(s:S)(hs:s.Ok)(w:World):Calls Tryz.prog 147 #[.agg s.cells] w fun e w'=>e=.returned (.bool true)∧Fr (fun _=>False) w w':=by
 obtain⟨n,a,b,c,d⟩:=s
 obtain⟨hn,ha,hb,hc,hd⟩:=hs
 simp only at hn ha hb hc hd
 unfold S.cells
 have HF:=Hd ((Fr.refl (fun _=>False) w).alloc (.cells #[.int .i64 n,.int .i64 a,.int .i64 b,.int .i64 c,.int .i64 d] 71))
 have t1:decide ((n:Int)≥0)=true:=by simp
 have t2:decide ((0:Int)≤n)=true:=by simp
 have t3:decide ((n:Int)<12)=true:=by simp;omega
 have HA:=Hd (decide_eq_true ha)
 have HB:=Hd (decide_eq_true hb)
 have HC:=Hd (decide_eq_true hc)
 have HD:=Hd (decide_eq_true hd)
 clear ha hb hc hd
 obtain⟨x0,x1,x2,x3⟩:=reps_at a b c d
 go_enter Tryz.func147,Tryz.ntmps147
 go_wp2_with fail
 go_loopw [4,7](fun _ s7 wx=>∃k:Nat,k≤4∧s7=.int .i64 (k:Int)∧wx=w.alloc (.cells #[.int .i64 n,.int .i64 a,.int .i64 b,.int .i64 c,.int .i64 d] 71)) (fun _ s7 _=>4-(intOf s7).toNat)
 case atStart=>exact⟨0,by omega,rfl,rfl⟩
 case round=>
  obtain⟨k,hk,rfl,rfl⟩:=hrel
  obtain rfl|rfl|rfl|rfl|rfl:k=0∨k=1∨k=2∨k=3∨k=4:=by omega
  ·go_wp2_with fail
   refine(dist_calls a _).mono ?_
   rw[show decide (1≤a∧a≤4294967295)=true from HA.out]
   rintro e w' ⟨rfl,rfl⟩
   go_wp2_with fail
   go_roundw
   case rel=>exact⟨1,by omega,by first|rfl|trivial,by first|rfl|trivial⟩
   case measure=>simp[intOf]
  ·go_wp2_with fail
   refine(dist_calls b _).mono ?_
   rw[show decide (1≤b∧b≤4294967295)=true from HB.out]
   rintro e w' ⟨rfl,rfl⟩
   go_wp2_with fail
   go_roundw
   case rel=>exact⟨2,by omega,by first|rfl|trivial,by first|rfl|trivial⟩
   case measure=>simp[intOf]
  ·go_wp2_with fail
   refine(dist_calls c _).mono ?_
   rw[show decide (1≤c∧c≤4294967295)=true from HC.out]
   rintro e w' ⟨rfl,rfl⟩
   go_wp2_with fail
   go_roundw
   case rel=>exact⟨3,by omega,by first|rfl|trivial,by first|rfl|trivial⟩
   case measure=>simp[intOf]
  ·go_wp2_with fail
   refine(dist_calls d _).mono ?_
   rw[show decide (1≤d∧d≤4294967295)=true from HD.out]
   rintro e w' ⟨rfl,rfl⟩
   go_wp2_with fail
   go_roundw
   case rel=>exact⟨4,by omega,by first|rfl|trivial,by first|rfl|trivial⟩
   case measure=>simp[intOf]
  ·go_wp2_with fail
   go_ret
   exact⟨rfl,HF.out⟩
def range(s:Nat):Nat×Nat:=if s<4 then(s+1,0) else((2+s%2)*2^(s/2-1)+1,s/2-1)
theorem range_calls(s:Nat)(hs:s≤63)(w:World):Calls Tryz.prog 209 #[.int .i64 s] w fun e w'=>e=.returned (.tuple #[.int .i64 (range s).1,.int .i64 (range s).2,.int .i64 0])∧w=w':=by
 obtain rfl|rfl|rfl|rfl|rfl|rfl|rfl|rfl|rfl|rfl|rfl|rfl|rfl|rfl|rfl|rfl|rfl|rfl|rfl|rfl|rfl|rfl|rfl|rfl|rfl|rfl|rfl|rfl|rfl|rfl|rfl|rfl|rfl|rfl|rfl|rfl|rfl|rfl|rfl|rfl|rfl|rfl|rfl|rfl|rfl|rfl|rfl|rfl|rfl|rfl|rfl|rfl|rfl|rfl|rfl|rfl|rfl|rfl|rfl|rfl|rfl|rfl|rfl|rfl:s=0∨s=1∨s=2∨s=3∨s=4∨s=5∨s=6∨s=7∨s=8∨s=9∨s=10∨s=11∨s=12∨s=13∨s=14∨s=15∨s=16∨s=17∨s=18∨s=19∨s=20∨s=21∨s=22∨s=23∨s=24∨s=25∨s=26∨s=27∨s=28∨s=29∨s=30∨s=31∨s=32∨s=33∨s=34∨s=35∨s=36∨s=37∨s=38∨s=39∨s=40∨s=41∨s=42∨s=43∨s=44∨s=45∨s=46∨s=47∨s=48∨s=49∨s=50∨s=51∨s=52∨s=53∨s=54∨s=55∨s=56∨s=57∨s=58∨s=59∨s=60∨s=61∨s=62∨s=63:=by omega
 all_goals
  go_enter Tryz.func209,Tryz.ntmps209
  go_wp2_with fail
  go_ret3
  exact⟨by kernel_rfl,rfl⟩
end St
namespace Lz
open Mem St
def rowLen(lc lp j:Nat):Nat:=
 if j=0∨j=1 then 192 else if j≤5 then 12 else if j=6 then 768*2^(lc+lp) else if j=7∨j=11 then 2 else if j=10∨j=14∨j=15 then 256 else if j=17 then 16 else 128
def sumFrom:Nat→Nat→Nat
 |_,0=>0
 |s,k+1=>2^(range s).2+sumFrom (s+1) k
def restAt(slot:Nat):Nat:=sumFrom 4 (slot-4)
theorem range_le:∀s:Fin 64,(range s).1+2^(range s).2≤4294967297∧(range s).2≤30∧1≤(range s).1∧(14≤s.val→4≤(range s).2)∧(4≤s.val→s.val<14→(range s).2≤5∧1≤(range s).2):=by decide+kernel
theorem and_low(a k:Nat)(ha:a<9223372036854775808)(hk:k≤62):bits BinOp.and IntKind.i64 (a:Int) (2^k-1)=((a%2^k:Nat):Int):=by
 have hp:(2:Nat)^k≤4611686018427387904:=Nat.le_trans (Nat.pow_le_pow_right (by omega) hk) (by decide)
 have h0:=Nat.two_pow_pos k
 have e:((2:Int)^k-1)=((2^k-1:Nat):Int):=by
  have:((2^k:Nat):Int)=(2:Int)^k:=by simp
  omega
 rw[e]
 have k1:(BitVec.ofInt 64 (a:Int)).toNat=a:=by
  rw[BitVec.ofInt_natCast,BitVec.toNat_ofNat];exact Nat.mod_eq_of_lt (by omega)
 have k2:(BitVec.ofInt 64 ((2^k-1:Nat):Int)).toNat=2^k-1:=by
  rw[BitVec.ofInt_natCast,BitVec.toNat_ofNat];exact Nat.mod_eq_of_lt (by omega)
 show IntKind.i64.wrap ((BitVec.ofInt 64 (a:Int)&&&BitVec.ofInt 64 ((2^k-1:Nat):Int)).toNat:Int)=_
 rw[BitVec.toNat_and,k1,k2,Nat.and_two_pow_sub_one_eq_mod]
 have:=Nat.mod_lt a h0
 exact IntWalk.i64_in _ (by omega)
theorem place_calls(T place pb:Nat)(w:World)(hc:w.cell? ⟨T,2,none⟩=some (.int .i64 pb))(hpb:pb≤4)(hp:place<9223372036854775808):
 Calls Tryz.prog 205 #[.pointer (some ⟨T,0,none⟩),.int .i64 place] w fun e w'=>e=.returned (.int .i64 (place%2^pb:Nat))∧w=w':=by
 have ha:=and_low place pb hp (by omega)
 obtain rfl|rfl|rfl|rfl|rfl:pb=0∨pb=1∨pb=2∨pb=3∨pb=4:=by omega
 all_goals
  simp only[Int.reducePow,Int.reduceSub,Nat.reducePow] at ha ⊢
  go_enter Tryz.func205,Tryz.ntmps205
  go_wp2_with fail
  go_ret
  first
   |exact⟨rfl,rfl⟩
   |exact⟨ret_int (by simp[Nat.mod_one]),rfl⟩
theorem at_calls(T place pb num:Nat)(w:World)(hc:w.cell? ⟨T,2,none⟩=some (.int .i64 pb))(hn:w.cell? ⟨T,3,none⟩=some (.int .i64 num))(hpb:pb≤4)(hp:place<9223372036854775808)(hnum:num<12):
 Calls Tryz.prog 167 #[.pointer (some ⟨T,0,none⟩),.int .i64 place] w fun e w'=>e=.returned (.int .i64 ((num*16+place%2^pb:Nat):Int))∧∃m,w'=w.drewN m:=by
 have HP:=Hd (fun m=>place_calls T place pb (w.drewN m) (by simpa using hc) hpb hp)
 have hl:place%2^pb<16:=Nat.lt_of_lt_of_le (Nat.mod_lt _ (Nat.two_pow_pos pb)) (Nat.pow_le_pow_right (by omega) hpb)
 generalize place%2^pb=x at*
 have h1:IntKind.i64.wrap ((num:Int)*16)=(num:Int)*16:=IntWalk.i64_in _ (by omega)
 have h2:IntKind.i64.wrap ((num:Int)*16+x)=(num:Int)*16+x:=IntWalk.i64_in _ (by omega)
 clear hc
 go_enter Tryz.func167,Tryz.ntmps167
 go_wp2_with fail
 go_quiet (exact quiet_left (HP.out _))
 go_wp2_with fail
 go_ret
 exact⟨ret_int (by omega),_,rfl⟩
theorem context_calls(T place lc lp before:Nat)(w:World)(h0:w.cell? ⟨T,0,none⟩=some (.int .i64 lc))(h1:w.cell? ⟨T,1,none⟩=some (.int .i64 lp))(hl:lc+lp≤4)(hp:place<9223372036854775808)(hb:before<256):
 Calls Tryz.prog 206 #[.pointer (some ⟨T,0,none⟩),.int .i64 place,.int .u8 before] w fun e w'=>e=.returned (.int .i64 ((768*(place%2^lp*2^lc+before/2^(8-lc)):Nat):Int))∧∃m,w'=w.drewN m:=by
 have ha:=and_low place lp hp (by omega)
 have hc1:lc=0∨lc=1∨lc=2∨lc=3∨lc=4:=by omega
 have hc2:lp=0∨lp=1∨lp=2∨lp=3∨lp=4:=by omega
 rcases hc1 with rfl|rfl|rfl|rfl|rfl
 all_goals
  rcases hc2 with rfl|rfl|rfl|rfl|rfl
 all_goals first|(exfalso;omega)|skip
 all_goals
  simp only[Int.reducePow,Int.reduceSub,Nat.reducePow,Nat.reduceSub] at ha ⊢
  go_enter Tryz.func206,Tryz.ntmps206
  go_wp2_with fail
  go_quiet (fail)
  go_wp2_with fail
  go_ret
  exact⟨ret_int (by omega),_,rfl⟩
theorem late_calls(s:Nat)(w:World):Calls Tryz.prog 210 #[.int .i64 s] w fun e w'=>e=.returned (.bool (decide (14≤s)))∧w=w':=by
 by_cases h:14≤s
 all_goals
  have e:decide (14≤s)=decide (14≤s):=rfl
  go_enter Tryz.func210,Tryz.ntmps210
  go_wp2_with fail
  go_ret
  refine⟨?_,rfl⟩
  simp[h]
  try omega
theorem sumFrom_snoc:∀(k s:Nat),sumFrom s (k+1)=sumFrom s k+2^(range (s+k)).2
 |0,s=>by simp[sumFrom]
 |k+1,s=>by rw[sumFrom,sumFrom_snoc k (s+1),sumFrom,show s+1+k=s+(k+1) by omega];omega
theorem sumFrom_le:∀k:Fin 11,sumFrom 4 k≤128:=by decide+kernel
theorem restAt_calls(slot:Nat)(w:World)(h:slot≤14):Calls Tryz.prog 211 #[.int .i64 slot] w fun e w'=>e=.returned (.int .i64 (restAt slot))∧w=w':=by
 go_enter Tryz.func211,Tryz.ntmps211
 go_wp2_with fail
 go_loop [3,4](fun t i=>∃k:Nat,4+k≤max slot 4∧i=.int .i64 ((4+k:Nat):Int)∧t=.int .i64 (sumFrom 4 k)) (fun _ i=>slot-(intOf i).toNat)
 case atStart=>exact⟨0,by omega,rfl,rfl⟩
 case round=>
  obtain⟨k,hk,rfl,rfl⟩:=hrel
  by_cases hlt:4+k<slot
  ·have hr:=range_le ⟨4+k,by omega⟩
   have hs:=sumFrom_le ⟨k,by omega⟩
   simp only at hr hs
   have hb:=(hr.2.2.2.2 (by omega) (by omega)).1
   have hp:2^(range (4+k)).2≤32:=Nat.pow_le_pow_right (n:=2) (by omega) hb
   have HS:=Hd (sumFrom_snoc k 4)
   have HC:=Hd (range_calls (4+k) (by omega) w)
   clear hr
   generalize range (4+k)=r at*
   obtain⟨r1,r2⟩:=r
   simp only at hb hp HS HC
   generalize sumFrom 4 k=s0 at*
   go_wp2_with fail
   refine HC.out.mono ?_
   rintro e w' ⟨rfl,rfl⟩
   obtain rfl|rfl|rfl|rfl|rfl|rfl:r2=0∨r2=1∨r2=2∨r2=3∨r2=4∨r2=5:=by omega
   all_goals
    simp only[Nat.reducePow] at HS hp
    go_wp2_with fail
    go_round
    case rel=>exact⟨k+1,by omega,by go_num,by rw[HS.out];go_num⟩
    case measure=>simp[intOf];omega
  ·go_wp2_with fail
   go_ret
   refine⟨ret_int ?_,rfl⟩
   unfold restAt
   congr 2
   omega
end Lz
end Go.Proofs.YtlgccpjccopdmaaGreatDoor
namespace Go.Proofs.YtlgccpjccopdmaaGreatDoor
namespace Prob
def taken(p:Int):Int:=if p<0 then 0 else if 2047<p then 2047 else p
def next(p bit:Int):Int:=if bit=0 then taken p+(2048-taken p)/32 else taken p-taken p/32
def bnd(r p:Int):Int:=(r/2048)*taken p
theorem taken_lo(p:Int):0≤taken p:=by unfold taken;split<;>(try split)<;>omega
theorem taken_hi(p:Int):taken p≤2047:=by unfold taken;split<;>(try split)<;>omega
theorem taken_id(p:Int)(h:0≤p)(h2:p≤2047):taken p=p:=by unfold taken;rw[if_neg (by omega),if_neg (by omega)]
end Prob
end Go.Proofs.YtlgccpjccopdmaaGreatDoor
namespace Go.Proofs.YtlgccpjccopdmaaGreatDoor
open Go.RowKit
namespace Prob
theorem bnd_in(r p:Int)(h0:0≤r)(h1:r≤4294967295):r/2048*taken p%4294967296=bnd r p:=by
 have h2:=taken_lo p
 have h3:=taken_hi p
 unfold bnd
 have hm:0≤r/2048*taken p:=Int.mul_nonneg (by omega) h2
 have hM:r/2048*taken p≤2097151*2047:=Int.mul_le_mul (by omega) h3 h2 (by omega)
 exact Int.emod_eq_of_lt hm (by omega)
theorem ret_int{k:IntKind}{a b:Int}(h:a=b):Ending.returned (.int k a)=.returned (.int k b):=by rw[h]
theorem taken_calls(p:Int)(w:World):
 Calls Tryz.prog 258 #[.int .i64 p] w fun e w'=>e=.returned (.int .i64 (taken p))∧w=w':=by
 go_enter Tryz.func258,Tryz.ntmps258
 go_wp2
 all_goals go_ret
 all_goals refine⟨ret_int ?_,rfl⟩
 all_goals(unfold taken;repeat' split)
 all_goals omega
theorem next_calls(p b:Int)(w:World):
 Calls Tryz.prog 257 #[.int .i64 p,.int .i64 b] w fun e w'=>e=.returned (.int .i64 (next p b))∧w=w':=by
 have h0:=taken_lo p
 have h1:=taken_hi p
 go_enter Tryz.func257,Tryz.ntmps257
 go_wp2_with ((with_reducible refine(taken_calls _ _).mono ?_);rintro e w' ⟨rfl,rfl⟩)
 all_goals go_ret
 all_goals refine⟨ret_int ?_,rfl⟩
 all_goals simp only[beq_iff_eq,beq_eq_false_iff_ne] at*
 all_goals(unfold next;first|rw[if_pos (by assumption)]|rw[if_neg (by assumption)])
theorem boundR_calls(r p:Int)(w:World)(h0:0≤r)(h1:r≤4294967295):
 Calls Tryz.prog 247 #[.int .u32 r,.int .i64 p] w fun e w'=>e=.returned (.int .u32 (bnd r p))∧w=w':=by
 have h2:=taken_lo p
 have h3:=taken_hi p
 go_enter Tryz.func247,Tryz.ntmps247
 go_wp2_with ((with_reducible refine(taken_calls _ _).mono ?_);rintro e w' ⟨rfl,rfl⟩)
 all_goals go_ret
 all_goals refine⟨ret_int ?_,rfl⟩
 all_goals exact bnd_in r p h0 h1
end Prob
namespace Prob
open Mem
theorem rep_at(cs:Array Value)(k:Nat)(h:k<cs.size)(v:Value):((List.replicate k v).toArray++cs.extract k cs.size)[k]? =cs[k]? :=by
 rw[Array.getElem?_append]
 simp[Array.getElem?_extract]
 omega
theorem rep_set(cs:Array Value)(k:Nat)(h:k<cs.size)(v:Value):
 ((List.replicate k v).toArray++cs.extract k cs.size).setIfInBounds k v=(List.replicate (k+1) v).toArray++cs.extract (k+1) cs.size:=by
 apply Array.ext_getElem?
 intro i
 rw[Array.getElem?_setIfInBounds,Array.getElem?_append,Array.getElem?_append]
 by_cases h1:k=i
 ·subst h1;simp[h];omega
 ·rw[if_neg h1]
  by_cases h2:i<k
  ·simp[h2,show i<k+1 by omega]
  ·simp[show¬i<k by omega,show¬i<k+1 by omega,Array.getElem?_extract]
   rw[show k+1+(i-(k+1))=k+(i-k) by omega]
   by_cases h3:i<cs.size
   ·rw[if_pos (by omega),if_pos (by omega)]
   ·rw[if_neg (by omega),if_neg (by omega)]
theorem len_calls(b g n cap:Nat)(w:World)(hb:w.cell? ⟨b,0,none⟩=some (.slice (some ⟨g,0,none⟩) n cap)):
 Calls Tryz.prog 267 #[.pointer (some ⟨b,0,none⟩)] w fun e w'=>e=.returned (.int .i64 n)∧w=w':=by
 go_enter Tryz.func267,Tryz.ntmps267
 go_wp2
 go_ret
 exact⟨rfl,rfl⟩
theorem has_calls(b:Nat)(p:Option Addr)(n cap:Nat)(i:Int)(w:World)(hb:w.cell? ⟨b,0,none⟩=some (.slice p n cap)):
 Calls Tryz.prog 256 #[.pointer (some ⟨b,0,none⟩),.int .i64 i] w fun e w'=>e=.returned (.int .i64 (if 0≤i∧i<n then 0 else 7))∧w=w':=by
 by_cases h0:i<0
 ·go_enter Tryz.func256,Tryz.ntmps256
  go_wp2
  go_ret
  exact⟨rfl,rfl⟩
 ·have h1:0≤i:=by omega
  have hd:decide (i<0)=false:=by simp;omega
  by_cases h2:(n:Int)≤i
  all_goals
   go_enter Tryz.func256,Tryz.ntmps256
   go_wp2
   go_ret
   exact⟨rfl,rfl⟩
theorem turn_in(b g n cap i:Nat)(cs:Array Value)(p bit:Int)(w:World)(hb:w.heap[b]? =some (.cells #[.slice (some ⟨g,0,none⟩) n cap] 305 (0,0)))
 (hg:w.heap[g]? =some (.cells cs 3 (0,0)))(hi:i<n)(hn:n≤maxLen)(hp:cs[i]? =some (.int .i64 p))(hbg:b≠g):
 Calls Tryz.prog 245 #[.pointer (some ⟨b,0,none⟩),.int .i64 i,.int .i64 bit] w fun e w'=>e=.returned (.int .i64 0)∧
  Fr (fun k=>k=g) w w'∧w'.heap[g]? =some (.cells (cs.setIfInBounds i (.int .i64 (next p bit))) 3 (0,0))∧w'.heap.size=w.heap.size:=by
 have hcb:=cell_in (i:=0) hb rfl
 have hcg:=cell_in hg hp
 have hf:=frozen_in hg i
 have Hb:=Hd hb
 have Hg:=Hd hg
 have Hp:=Hd hp
 clear hb hg hp
 unfold maxLen at hn
 go_enter Tryz.func245,Tryz.ntmps245
 go_wp2_with ((with_reducible refine(has_calls _ _ _ _ _ _ hcb).mono ?_);rintro e w' ⟨rfl,rfl⟩)
 go_region_with ((with_reducible refine(next_calls _ _ _).mono ?_);rintro e w' ⟨rfl,rfl⟩)
 all_goals go_wp2
 all_goals go_ret
 all_goals exact⟨rfl,(Fr.one _ _ _ _).drew,set_in Hg.out _ _,by simp⟩
theorem reset_calls(b g n cap:Nat)(cs:Array Value)(w:World)(hb:w.heap[b]? =some (.cells #[.slice (some ⟨g,0,none⟩) n cap] 305 (0,0)))
 (hg:w.heap[g]? =some (.cells cs 3 (0,0)))(hn:n≤maxLen)(hc:n≤cs.size)(hbg:b≠g):
 Calls Tryz.prog 200 #[.pointer (some ⟨b,0,none⟩)] w fun e w'=>e=.returned (.tuple #[])∧
  Fr (fun k=>k=g) w w'∧w'.heap[g]? =some (.cells ((List.replicate n (.int .i64 1024)).toArray++cs.extract n cs.size) 3 (0,0))∧w'.heap.size=w.heap.size:=by
 have hcb:=cell_in (i:=0) hb rfl
 have Hb:=Hd hb
 have Hg:=Hd hg
 clear hb hg
 unfold maxLen at hn
 go_enter Tryz.func200,Tryz.ntmps200
 go_wp2
 go_loopw [8](fun i wr=>∃k:Nat,k≤n∧i=.int .i64 k∧Fr (fun k=>k=g) w wr∧wr.heap.size=w.heap.size∧
  wr.heap[g]? =some (.cells ((List.replicate k (.int .i64 1024)).toArray++cs.extract k cs.size) 3 (0,0))) (fun i _=>n-(intOf i).toNat)
 case atStart=>exact⟨0,by omega,rfl,Fr.refl _ _,rfl,by rw[Hg.out];simp⟩
 case round=>
  obtain⟨k,hk,rfl,hfr,hsz,hgr⟩:=hrel
  have hcb1:=cell_in (i:=0) (hfr.keep Hb.out hbg) rfl
  have hf1:=frozen_in hgr k
  have Hgr:=Hd hgr
  clear hgr
  by_cases hlt:k<n
  ·have hcg1:wr.cell? ⟨g,k,none⟩=cs[k]? :=by
    rw[cell_of_row _ _ _ _ _ _ Hgr.out]
    exact rep_at cs k (by omega) _
   obtain⟨v,hv⟩:∃v,cs[k]? =some v:=⟨cs[k]'(by omega),by simp⟩
   rw[hv] at hcg1
   clear hv
   go_wp2
   go_roundw
   case rel=>exact⟨k+1,by omega,by go_num,hfr.trans (Fr.one _ _ _ _),by simpa using hsz,by rw[set_in Hgr.out,rep_set cs k (by omega)]⟩
   case measure=>simp[intOf];omega
  ·obtain rfl:k=n:=by omega
   go_wp2
   go_end0
   exact⟨rfl,hfr,Hgr.out,hsz⟩
theorem at_in(b g n cap i:Nat)(p:Int)(w:World)(hb:w.cell? ⟨b,0,none⟩=some (.slice (some ⟨g,0,none⟩) n cap))
 (hg:w.cell? ⟨g,i,none⟩=some (.int .i64 p))(hi:i<n)(hn:n≤maxLen):
 Calls Tryz.prog 242 #[.pointer (some ⟨b,0,none⟩),.int .i64 i] w fun e w'=>e=.returned (.tuple #[.int .i64 p,.int .i64 0])∧w=w':=by
 unfold maxLen at hn
 go_enter Tryz.func242,Tryz.ntmps242
 go_wp2_with ((with_reducible refine(has_calls _ _ _ _ _ _ hb).mono ?_);rintro e w' ⟨rfl,rfl⟩)
 go_ret2
 exact⟨rfl,rfl⟩
end Prob
namespace Prob
open Mem
theorem infoInt:(Tryz.prog.info? 3).map (fun i=>(i.zero,i.size,i.bytes))=some (some (.int .i64 0),1,8):=by kernel_rfl
theorem make_ints(n:Nat)(h:n≤35184372088832)(W:World):
 (Instr.makeSlice 81 (.int .i64 n) (.int .i64 n)).run Tryz.prog W=.ok (.slice (some ⟨W.heap.size,0,none⟩) n n) (W.alloc (.cells (Array.replicate n (.int .i64 0)) 3)):=by
 obtain⟨i,hi,hz,hs,hb⟩:=info_parts infoInt
 have:=run_make (P:=Tryz.prog) W 81 3 i (.int .i64 0) Tryz.underlying81 hi hz .i64 .i64 n n (by omega) (by omega) (by rw[hb];omega) (by omega)
 rw[this,hs,Int.toNat_natCast,Nat.mul_one]
 have e:madeCells (Value.int .i64 0).cells n=Array.replicate n (Value.int .i64 0):=by
  apply Array.ext
  ·simp[madeCells]
  ·intro k h1 h2
   simp[madeCells,Value.cells,Nat.mod_one]
 rw[e]
theorem new_in(n:Nat)(w:World)(hn:n≤1048576):
 Calls Tryz.prog 152 #[.int .i64 n] w fun e w'=>e=.returned (.tuple #[.pointer (some ⟨w.heap.size+1,0,none⟩),.int .i64 0])∧
  Fr (fun _=>False) w w'∧w'.heap[w.heap.size+1]? =some (.cells #[.slice (some ⟨w.heap.size,0,none⟩) n n] 305 (0,0))∧
  w'.heap[w.heap.size]? =some (.cells (List.replicate n (.int .i64 1024)).toArray 3 (0,0))∧w'.heap.size=w.heap.size+2:=by
 go_enter Tryz.func152,Tryz.ntmps152
 have hmk:=make_ints n (by omega)
 go_wp2_with fail
 refine(reset_calls (w.heap.size+1) w.heap.size n n (Array.replicate n (.int .i64 0)) _ (heap_alloc2_new w _ _) (heap_alloc2_old w _ _) (by simp only[maxLen];omega) (by simp) (by omega)).mono ?_
 rintro e w1 ⟨rfl,hfr,hg,hsz⟩
 have hfr0:Fr (fun _=>False) w w1:=(((Fr.refl (fun _=>False) w).alloc _).alloc _).trans' hfr (fun i hi(h:i=_)=>by omega)
 have hb:=hfr.keep (heap_alloc2_new w _ _) (by simp)
 simp only[World.size_alloc] at hsz
 have HG:=Hd hg
 have HB:=Hd hb
 have HS:=Hd hsz
 clear hg hb hfr hsz
 go_wp2
 go_ret2
 exact⟨rfl,hfr0,HB.out,by rw[HG.out];simp,HS.out⟩
end Prob
namespace Prob
open Mem
def nextN(p bit:Nat):Nat:=if bit=0 then p+(2048-p)/32 else p-p/32
theorem next_nat (p bit:Nat) (hp:p≤2047):next (p:Int) (bit:Int)=(nextN p bit:Int):=by
 unfold next nextN
 rw[taken_id _ (by omega) (by omega)]
 by_cases h:bit=0
 ·rw[if_pos (by omega),if_pos h];omega
 ·rw[if_neg (by omega),if_neg h];omega
theorem nextN_le(p bit:Nat)(hp:p≤2047):nextN p bit≤2047:=by unfold nextN;split<;>omega
def SetAt(w:World)(b g:Nat)(ps:List Nat):Prop:=
 ∃cap cs,w.heap[b]? =some (.cells #[.slice (some ⟨g,0,none⟩) ps.length cap] 305 (0,0))∧w.heap[g]? =some (.cells cs 3 (0,0))∧ps.length≤cap∧cap≤maxLen∧
  (∀(i:Nat)(p:Nat),ps[i]? =some p→cs[i]? =some (.int .i64 p)∧p≤2047)∧(∀(j:Nat)(x:Value),cs[j]? =some x→∃n:Int,x=.int .i64 n)
theorem SetAt.apart{w:World}{b g:Nat}{ps:List Nat}(h:SetAt w b g ps):b≠g:=by
 obtain⟨cap,cs,h1,h2,_⟩:=h
 rintro rfl
 rw[h1] at h2
 simp at h2
theorem SetAt.lt{w:World}{b g:Nat}{ps:List Nat}(h:SetAt w b g ps):b<w.heap.size∧g<w.heap.size:=by
 obtain⟨cap,cs,h1,h2,_⟩:=h
 exact⟨lt_of_block h1,lt_of_block h2⟩
theorem SetAt.step{S:Nat→Prop}{w w':World}{b g:Nat}{ps:List Nat}(h:SetAt w b g ps)(hfr:Fr S w w')(hb:¬S b)(hg:¬S g):SetAt w' b g ps:=by
 obtain⟨cap,cs,h1,h2,h3⟩:=h
 exact⟨cap,cs,hfr.keep h1 hb,hfr.keep h2 hg,h3⟩
theorem SetAt.keep{w w':World}{b g:Nat}{ps:List Nat}(h:SetAt w b g ps)(hfr:Fr (fun _=>False) w w'):SetAt w' b g ps:=h.step hfr (fun h=>h) (fun h=>h)
theorem at_set(b g i p:Nat)(ps:List Nat)(w:World)(h:SetAt w b g ps)(hp:ps[i]? =some p):
 Calls Tryz.prog 242 #[.pointer (some ⟨b,0,none⟩),.int .i64 i] w fun e w'=>e=.returned (.tuple #[.int .i64 p,.int .i64 0])∧w=w':=by
 obtain⟨cap,cs,h1,h2,h3,h4,h5,h6⟩:=h
 have hi:=(List.getElem?_eq_some_iff.1 hp).1
 exact at_in b g ps.length cap i p w (cell_in h1 rfl) (cell_in h2 (h5 i p hp).1) hi (by omega)
theorem turn_set(b g i p bit:Nat)(ps:List Nat)(w:World)(h:SetAt w b g ps)(hp:ps[i]? =some p):
 Calls Tryz.prog 245 #[.pointer (some ⟨b,0,none⟩),.int .i64 i,.int .i64 bit] w fun e w'=>e=.returned (.int .i64 0)∧Fr (fun k=>k=g) w w'∧SetAt w' b g (ps.set i (nextN p bit)):=by
 have hbg:=h.apart
 obtain⟨cap,cs,h1,h2,h3,h4,h5,h6⟩:=h
 have hi:=(List.getElem?_eq_some_iff.1 hp).1
 have hc:=h5 i p hp
 refine(turn_in b g ps.length cap i cs p bit w h1 h2 hi (by omega) hc.1 hbg).mono ?_
 rintro e w' ⟨rfl,hfr,hg,_⟩
 refine⟨rfl,hfr,cap,_,by rw[List.length_set];exact hfr.keep h1 hbg,hg,by rw[List.length_set];exact h3,h4,fun j q hq=> ?_,fun j x hx=> ?_⟩
 ·have hcs:=(Array.getElem?_eq_some_iff.1 hc.1).1
  rw[List.getElem?_set] at hq
  rw[Array.getElem?_setIfInBounds]
  by_cases hij:i=j
  ·rw[if_pos hij] at hq ⊢
   rw[if_pos (by omega)] at hq
   rw[if_pos (by omega)]
   obtain rfl:=Option.some.inj hq
   exact⟨by rw[next_nat p bit hc.2],nextN_le p bit hc.2⟩
  ·rw[if_neg hij] at hq ⊢
   exact h5 j q hq
 ·rw[Array.getElem?_setIfInBounds] at hx
  split at hx
  ·split at hx
   ·exact⟨_,(Option.some.inj hx).symm⟩
   ·cases hx
  ·exact h6 j x hx
end Prob
end Go.Proofs.YtlgccpjccopdmaaGreatDoor
