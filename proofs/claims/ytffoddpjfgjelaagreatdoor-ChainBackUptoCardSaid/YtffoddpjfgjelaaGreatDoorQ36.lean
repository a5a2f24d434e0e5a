/- Part 36 of 48: lemmas of the last part, each under the conditions that it names. -/
import Derived.RangeFuncNested
import Derived.RangeFuncBound
import Derived.RangeFuncCalls
import Derived.RangeFuncLeaves
import Derived.Shelf.Abstract
import Derived.Shelf.RegionOpen
import Derived.OwnWalkIn
import Derived.TacticsInMore
import Derived.LoopNIn
import Derived.LoopIn
import Derived.RangeFuncBox
import Derived.Test.YtffoddpjfgjelaaGreatDoorQ28
import Derived.Test.YtffoddpjfgjelaaGreatDoorQ30
set_option linter.unusedVariables false
set_option linter.unusedSimpArgs false
set_option maxRecDepth 1500
set_option maxHeartbeats 4000000
namespace Go.Proofs.YtffoddpjfgjelaaGreatDoor
open Go.RowKit Go.Shelf
namespace Fi
open Mem Win
attribute [local go_sem] Oper.semAt_some
structure MOk(data:List UInt8)(dict p most:Nat)(x:Nat×Nat):Prop where
 d1:1≤x.2
 dp:x.2≤p
 dd:x.2≤dict
 le:x.1≤most
 fit:p+x.1≤data.length
 run:∀j,j<x.1→data[p+j]? =data[p+j-x.2]?
abbrev Mt(data:List UInt8)(dict p most:Nat):Type:={x:Nat×Nat//MOk data dict p most x}
set_option maxRecDepth 100000 in
theorem slice_hI(p:Option Addr)(n cap b:Nat)(hb:b≤cap)(W:World):
 (Instr.slice 94 (.slice p n cap) none (some (.int .i64 (b:Int))) none).run Tryz.prog W=.ok (.slice p b cap) W:=by
 obtain⟨i,hi,hz,hs,_⟩:=info_parts infoInt
 rw[run_slice_h (P:=Tryz.prog) W 94 p n cap Tryz.underlying94 .i64 b (by omega) (by omega)]
 cases p<;>simp[sizeOf,typeInfo,hi,hs,Result.andThen,sliced,Addr.add,show Tryz.prog.elem 94=3 by kernel_rfl]
theorem grown_fr{w w':World}(h:Fr (fun _=>False) w w'):w.grownBy w' none:=⟨h.os,h.tape,h.output,h.size,fun i hi _=>h.block i hi (fun h=>h)⟩
abbrev KpF(S0:Nat→Prop)(N:Nat)(W W':World):Prop:=Fr (fun k=>S0 k∨N≤k) W W'
set_option maxRecDepth 100000 in
theorem matches_stops(n Fb Bf Bm M B dict p most:Nat)(data:List UInt8)(dv:Value)(wo w:World)(S0:Nat→Prop)(h:FiAt wo Fb data dict p dv M B)(hwo:Fr (fun k=>wo.heap.size≤k) wo w)(hS0:∀k,S0 k→wo.heap.size≤k)(hnf:¬S0 Bf)(hnm:¬S0 Bm)(hf:w.cell? ⟨Bf,0,none⟩=some (ptr Fb))(hm:w.cell? ⟨Bm,0,none⟩=some (.int .i64 most))(hp:p+most≤data.length)(hb:data.length≤1099511627776)(hd:dict≤4294967295)(h273:most≤273):
 SeqStopsK Fence.wide n Tryz.prog 263 #[ptr Bf,ptr Bm] (fun x:Mt data dict p most=>#[Value.agg #[.int .i64 (x.1.1:Nat),.int .i64 (x.1.2:Nat)]]) (KpF S0 w.heap.size) (fun _=>True) (fun _=>True) (data.length+1) w:=fun l J Jx W hW hJ hJx hY h0=>by
 have hWk:KpF S0 w.heap.size w W:=Fr.of_below hW _
 have hsz:=hwo.size
 have HOLD:=Hd (show∀W':World,KpF S0 w.heap.size w W'→Fr (fun k=>wo.heap.size≤k) wo W' from fun W' hk=>hwo.trans' hk (fun k hlt hs=>hs.elim (fun h=>hS0 k h) (fun h=>by omega)))
 have HFI:=Hd (show∀W':World,KpF S0 w.heap.size w W'→FiAt W' Fb data dict p dv M B from fun W' hk=>h.keep (HOLD.out W' hk) (fun k h1 h2=>by omega))
 have HBF:=Hd (show∀W':World,KpF S0 w.heap.size w W'→W'.cell? ⟨Bf,0,none⟩=some (ptr Fb) from fun W' hk=>by
  have hlt:=block_lt_of_cell hf
  simp only at hlt
  rw[World.cell?_of_block (w:=w) (hk.block Bf hlt (fun h=>h.elim hnf (fun h=>by omega)))]
  exact hf)
 have H0:=Hd h
 have HH:=Hd (HFI.out W hWk)
 have HC:=Hd (show W.cell? ⟨Bf,0,none⟩=some (ptr Fb)∧W.cell? ⟨Bm,0,none⟩=some (.int .i64 most) from⟨HBF.out W hWk,(hW.cell (p:=⟨Bm,0,none⟩) (block_lt_of_cell hm)).trans hm⟩)
 obtain⟨a,cap,rfl,hcap⟩:=h.dslice
 obtain⟨cf,cm⟩:=HC.out
 obtain⟨c0,c1,c2,c3⟩:=cs4 HH.out.box rfl rfl rfl rfl
 clear h hf hm hnf hnm
 have hmx:Tryz.prog.follows .mixedOrders=true:=by kernel_rfl
 refine callsIn_of_wp Tryz.func263 rfl trivial ?_ rfl
 simp only[Tryz.ntmps263,List.size_toArray,List.length_cons,List.length_nil,Nat.reduceAdd,Nat.reduceSub,Array.replicate_succ,Array.replicate_zero,List.push_toArray,List.append_toArray,List.nil_append,List.cons_append]
 have hw:IntKind.i64.wrap ((data.length:Int)-(p:Int))=(data.length:Int)-(p:Int):=IntWalk.i64_in _ (by omega)
 have m1:(most:Int)≤273:=by omega
 have m2:(most:Int)≤(data.length:Int)-(p:Int):=by omega
 have HJ0:=Hd h0
 have HFW:=Hd (R0 W)
 have HYY:=Hd hY
 clear h0 hY
 gi_wp2
 gi_quiet_th (fail)
 generalize nq=q1 at*
 by_cases h3:(3:Int)≤(most:Int)
 ·obtain⟨g,cp,e,hcs⟩:=HH.out.bytes (by omega)
  simp only[Value.slice.injEq,true_and] at e
  obtain⟨rfl,rfl⟩:=e
  obtain⟨x0,hx0⟩:∃x,data[p]? =some x:=⟨data[p],by simp⟩
  obtain⟨x1,hx1⟩:∃x,data[p+1]? =some x:=⟨data[p+1],by simp⟩
  obtain⟨x2,hx2⟩:∃x,data[p+2]? =some x:=⟨data[p+2],by simp⟩
  have d0:W.cell? ⟨g,p,none⟩=some (.int .u8 x0.toNat):=hcs _ _ hx0
  have d1:W.cell? ⟨g,p+1,none⟩=some (.int .u8 x1.toNat):=hcs _ _ hx1
  have d2:W.cell? ⟨g,p+2,none⟩=some (.int .u8 x2.toNat):=hcs _ _ hx2
  have hsl:=slice_l (some ⟨g,0,none⟩) data.length cap p (by omega)
  rw[show dropP (some ⟨g,0,none⟩) cap p=some ⟨g,p,none⟩ by unfold dropP;rw[if_neg (by omega)];simp[add_mid]] at hsl
  have harr:=array_at (some ⟨g,p,none⟩) (data.length-p) (cap-p) (by omega)
  obtain⟨kl,hkl⟩:=word_key x0 x1 x2
  obtain⟨v,zs,hlk,hvr,hup,hzl⟩:=H0.out.map.look hkl
  obtain⟨va,vc,rfl,hvc,hvm,hvz⟩:=hvr.slice
  have hWM:W.heap[M]? =wo.heap[M]? :=by
   obtain⟨es,c,hmi⟩:=H0.out.map
   exact(HOLD.out W hWk).block M (lt_of_block hmi.box) (fun h=>by have:=lt_of_block hmi.box;omega)
  simp only[wordV,bv] at hlk
  have hlk2:∀m,(Instr.lookup 313 (.map (some M)) (.agg #[.int .u8 x0.toNat,.int .u8 x1.toNat,.int .u8 x2.toNat]) false).run Tryz.prog (W.drewN m)=.ok (.slice va zs.length vc) (W.drewN m):=fun m=>hlk _ hWM
  have hlk3:∀k m,(Instr.lookup 313 (.map (some M)) (.agg #[.int .u8 x0.toNat,.int .u8 x1.toNat,.int .u8 x2.toNat]) false).run Tryz.prog ((W.drewN k).drewN m)=.ok (.slice va zs.length vc) ((W.drewN k).drewN m):=fun k m=>hlk _ hWM
  have HV:=Hd hvr
  have HVZ:=Hd hvz
  have HUP:=Hd hup
  have HWB:=Hd hWk
  have HZ:=Hd (show∀W':World,KpF S0 w.heap.size w W'→VRow W' (.slice va zs.length vc) zs from fun W' hk=>hvr.step (HOLD.out W' hk) (fun k hkk hs=>by
   obtain⟨cs,hc⟩:=hvr.block hkk
   have:=lt_of_block hc
   omega))
  have HS:=fun W'(hb:KpF S0 w.heap.size w W')=>Hd (searchInts_calls _ zs data.length p W' (HZ.out W' hb) hup (by omega))
  clear hcs hx0 hx1 hx2 hlk hvr hup hkl hvz
  gi_wp2
  gi_quiet_th (fail)
  gi_wp2
  have hb2:KpF S0 w.heap.size w (W.drewN (q1+nq)):=HWB.out.drewN _
  have HJ2:=Hd (hJ _ _ (W.drewN (q1+nq)) none HJ0.out ⟨rfl,rfl,rfl,Nat.le_refl _,fun _ _ _=>rfl⟩ (fun r e=>by cases e))
  have HS2:=HS _ hb2
  clear d0 d1 d2 hsl harr hlk2 hlk3 hWM c0 c1 c2 c3 cf cm HS
  generalize W.drewN (q1+nq)=W2 at*
  refine⟨trivial,fun h=>by simp[Fence.wide] at h,(callsIn_wide.2 HS2.out).mono ?_⟩
  rintro e W3 ⟨hf3,k,rfl,hk,hkz⟩
  have hsk:=slice_hI va zs.length vc k (by omega)
  gi_wp2
  have HJ3:=Hd (hJ _ _ W3 none HJ2.out (grown_fr hf3) (fun r e=>by cases e))
  have HB3:=Hd (hb2.trans (hf3.mono (T:=fun k=>S0 k∨w.heap.size≤k) (fun _ _ h=>h.elim)))
  clear hb2 hf3 HJ2 HS2 hsk HJ0 HFW HC HH
  gi_loopw [7] (fun s7 wr=>∃(s:Int)(pre:List (Mt data dict p most)),s7=.int .i64 s∧-1≤s∧s<(k:Int)∧(pre.length:Int)+s+1≤(k:Int)∧J pre wr∧KpF S0 w.heap.size w wr) (fun s7 _=>(intOf s7+1).toNat)
  case atStart=>exact⟨(k:Int)-1,[],rfl,by omega,by omega,by simp,HJ3.out,HB3.out⟩
  case round=>
   obtain⟨s,pre,rfl,hs1,hs2,hs3,hJp,hBw⟩:=hrel
   have HJP:=Hd hJp
   have HBW:=Hd hBw
   clear hJp hBw
   have hwr:IntKind.i64.wrap ((k:Int)-32)=(k:Int)-32:=IntWalk.i64_in _ (by omega)
   obtain⟨X,hXe,hX⟩:∃X:Int,(if(32:Int)<(k:Int) then(k:Int)-32 else 0)=X∧0≤X:=⟨_,rfl,by split<;>omega⟩
   by_cases hXs:X≤s
   ·have hgd:decide (X≤s)=true:=decide_eq_true hXs
    obtain⟨j,rfl⟩:=Int.eq_ofNat_of_zero_le (Int.le_trans hX hXs)
    have hjk:j<k:=by omega
    have hjz:j<zs.length:=by omega
    obtain⟨z,hz⟩:∃z,zs[j]? =some z:=⟨zs[j],by simp[hjz]⟩
    obtain⟨g2,rfl,hzc⟩:=HVZ.out (by omega)
    have HWR:=Hd (HFI.out wr HBW.out)
    have q0:wr.cell? ⟨g2,j,none⟩=some (.int .i64 z):=(by
     obtain⟨va',cp',e',_,_,hz'⟩:=(HZ.out wr HBW.out).slice
     obtain⟨g3,e3,hc3⟩:=hz' (by omega)
     simp only[Value.slice.injEq] at e'
     rw[←e'.1] at e3
     simp only[Option.some.injEq,Addr.mk.injEq,and_true] at e3
     rw[e3]
     exact hc3 j z hz)
    have q1:wr.cell? ⟨Bf,0,none⟩=some (ptr Fb):=HBF.out wr HBW.out
    have q2:=cell_in (i:=1) HWR.out.box rfl
    have hzp:=hkz j z hjk hz
    have i1:(0:Int)≤(j:Int):=by omega
    have i2:(j:Int)<(k:Int):=by omega
    have i3:IntKind.i64.wrap ((p:Int)-(z:Int))=(p:Int)-(z:Int):=IntWalk.i64_in _ (by omega)
    clear hX hXs hkz hzc hz
    by_cases hdz:(p:Int)-(z:Int)≤(dict:Int)
    ·have hdd:decide ((p:Int)-(z:Int)≤(dict:Int))=true:=decide_eq_true hdz
     gi_wp2
     gi_quiet (fail)
     gi_wp2
     have hfq:=(R0 wr).drewN nq
     have p0:(wr.drewN nq).cell? ⟨g2,j,none⟩=some (.int .i64 z):=q0
     have p1:(wr.drewN nq).cell? ⟨Bf,0,none⟩=some (ptr Fb):=q1
     have HJQ:=Hd (hJ _ _ (wr.drewN nq) none HJP.out (grown_fr hfq) (fun r e=>by cases e))
     have HBQ:=Hd (HBW.out.trans (hfq.mono (T:=fun k=>S0 k∨w.heap.size≤k) (fun _ _ h=>h.elim)))
     have HFQ:=Hd (HWR.out.still hfq)
     clear q0 q1 q2 hfq HJP HBW HWR
     generalize wr.drewN nq=wq at*
     have HLG:=Hd (fun m=>long_calls Fb dict p z p most M B data _ (wq.drewN m) (HFQ.out.still ((R0 wq).drewN m)) (by omega) hp hb)
     have p0':wq.drew.cell? ⟨g2,j,none⟩=some (.int .i64 z):=p0
     have p1':wq.drew.cell? ⟨Bf,0,none⟩=some (ptr Fb):=p1
     have HNX:=Hd (show(-1:Int)≤(j:Int)-1∧(j:Int)-1<(k:Int)∧(∀x:Mt data dict p most,(((pre++[x]).length:Nat):Int)+((j:Int)-1)+1≤(k:Int))∧(intOf (Value.int .i64 ((j:Int)-1))+1).toNat<(intOf (Value.int .i64 (j:Int))+1).toNat from
      ⟨by omega,by omega,fun x=>by rw[List.length_append,List.length_singleton];omega,by simp only[intOf];omega⟩)
     have f225:Fence.wide.fn 265:=trivial
     have fdep:Fence.wide.depth=none:=rfl
     gi_region_with_o (first
      | (gi_at_call 265
         refine((callsIn_wide (n:=n-1)).2 (HLG.out 1)).mono ?_
         rintro e w5 ⟨hf5,n5,rfl,hn5,hr5⟩
         have p5:w5.cell? ⟨g2,j,none⟩=some (.int .i64 z):=by
          rw[World.cell?_of_block (hf5.block g2 (block_lt_of_cell p0) (fun h=>h))]
          exact p0
         have hJ5:=hJ _ _ w5 none (hJ _ _ wq.drew none HJQ.out (grown_fr (R0 wq).drew) (fun r e=>by cases e)) (grown_fr hf5) (fun r e=>by cases e)
         have HB5:=Hd (HBQ.out.trans (((R0 wq).drew.trans hf5).mono (T:=fun k=>S0 k∨w.heap.size≤k) (fun _ _ h=>h.elim)))
         have hmk:MOk data dict p most (n5,p-z):=⟨by simp only;omega,by simp only;omega,by simp only;omega,hn5,by simp only;omega,fun i hi=>by simp only at hi ⊢;rw[hr5 i hi];congr 1;omega⟩
         obtain⟨fn,tmps,assign,body,hy,hR⟩:=HYY.out pre ⟨(n5,p-z),hmk⟩ w5 hJ5 (by omega)
         simp only[show((p-z:Nat):Int)=(p:Int)-(z:Int) by omega] at hy
         have HR6:Hid (RoundIn Fence.wide (n-1) Tryz.prog l fn tmps assign body w5 fun e W6=>∃bb:Bool,e=.returned (.bool bb)∧(bb=true→J (pre++[⟨(n5,p-z),hmk⟩]) W6∧KpF S0 w.heap.size w5 W6)∧(bb=false→Jx (pre++[⟨(n5,p-z),hmk⟩]) W6)):=Hd (hR.mono (by
          rintro e W6 (⟨rfl,h1,h2⟩|⟨rfl,h1⟩)
          ·exact⟨true,rfl,fun _=>⟨h1,h2⟩,(fun h=>(by cases h))⟩
          ·exact⟨false,rfl,(fun h=>(by cases h)),fun _=>h1⟩))
         clear hR hJ5 hf5 hr5)
      | (refine HR6.out.mono ?_
         rintro e W6 ⟨bb,rfl,h6,h7⟩
         have H6:=Hd h6
         have H7:=Hd h7
         clear h6 h7))
     all_goals
      cases bb
      ·gi_wp2
       refine bodyPost_ret (results_none rfl _ _ _) rfl ?_
       exact⟨⟨_,rfl⟩,.inr ⟨_,H7.out trivial⟩⟩
      ·obtain⟨h6,h7⟩:=H6.out rfl
       gi_wp2
       go_roundw
       ·exact⟨(j:Int)-1,pre++[⟨(n5,p-z),hmk⟩],rfl,HNX.out.1,HNX.out.2.1,HNX.out.2.2.1 _,h6,HB5.out.trans h7⟩
       ·exact HNX.out.2.2.2
    ·have hdd:decide ((p:Int)-(z:Int)≤(dict:Int))=false:=decide_eq_false hdz
     gi_wp2
     gi_quiet (fail)
     gi_wp2
     go_end0
     exact⟨⟨_,rfl⟩,.inl ⟨pre,trivial,hJ _ _ _ none HJP.out (grown_fr ((R0 wr).drewN _)) (fun r e=>by cases e)⟩⟩
   ·have hgd:decide (X≤s)=false:=decide_eq_false hXs
    gi_wp2
    gi_quiet (fail)
    gi_wp2
    go_end0
    exact⟨⟨_,rfl⟩,.inl ⟨pre,trivial,hJ _ _ _ none HJP.out (grown_fr ((R0 wr).drewN _)) (fun r e=>by cases e)⟩⟩
 ·gi_wp2
  refine bodyPost_ret (results_none rfl _ _ _) rfl ?_
  exact⟨⟨_,rfl⟩,.inl ⟨[],hJ _ _ _ none HJ0.out ⟨rfl,rfl,rfl,Nat.le_refl _,fun _ _ _=>rfl⟩ (fun r e=>by cases e)⟩⟩
end Fi
namespace Fi
open Mem Win
attribute [local go_sem] Oper.semAt_some
theorem matches_calls(Fb most:Nat)(w:World):
 Calls Tryz.prog 235 #[ptr Fb,.int .i64 most] w fun e w'=>e=.returned (.func (.func 263) #[] #[ptr w.heap.size,ptr (w.heap.size+1)])∧w'=(w.alloc (.cells #[ptr Fb] 233)).alloc (.cells #[.int .i64 most] 3):=by
 go_enter Tryz.func235,Tryz.ntmps235
 go_wp2_with fail
 go_ret
 exact⟨rfl,rfl⟩
theorem fr_own{wo:World}{B:Nat}(hB:wo.heap.size≤B){β:Type}:OwnFrom B (fun(_:β) W=>Fr (fun k=>wo.heap.size≤k) wo W):=
 fun _ _ _ _ hs hg hr=>hs.grown hg (fun k e=>.inl (Nat.le_trans hB (hr k e).1))
theorem cells_own{B b:Nat}{β:Type}(f:β→Array Value)(t:TypeId):OwnFrom B (fun(s:β) W=>W.heap[b]? =some (.cells (f s) t (0,0))):=
 fun s W W' row hs hg hr=>(hg.block b (lt_of_block hs) (fun e=>by
  obtain⟨_,o,ho,hc⟩:=hr b e.symm
  rw[hs] at ho
  cases ho
  cases hc)).trans hs
theorem kpf_t{S0:Nat→Prop}{N:Nat}{A B C:World}(h:KpF S0 N A B)(k:KpF S0 N B C):KpF S0 N A C:=Fr.trans h k
theorem kpf_b{S0:Nat→Prop}{N:Nat}(W:World)(l:Nat)(o o':Obj)(hl:N≤l)(h:W.heap[l]? =some o)(_:o.isCells=false)(_:o.isWalk=false):KpF S0 N W (W.putObj l o'):=
 (Fr.refl _ W).grown (grownBy_putObj' W l o') (fun k e=>by cases e;exact .inl (.inr hl))
def Good(data:List UInt8)(dict p most n d:Nat):Prop:=n=0∨MOk data dict p most (n,d)
set_option maxRecDepth 100000 in
theorem best_calls(Fb M B dict p most:Nat)(data:List UInt8)(dv:Value)(w:World)(h:FiAt w Fb data dict p dv M B)(hp:p+most≤data.length)(hb:data.length≤1099511627776)(hd:dict≤4294967295)(h273:most≤273):
 Calls Tryz.prog 182 #[ptr Fb,.int .i64 most] w fun e w'=>Fr (fun _=>False) w w'∧∃n d:Nat,e=.returned (.agg #[.int .i64 n,.int .i64 d])∧Good data dict p most n d:=by
 have hx0:=heap_alloc_new w (.cells #[.int .i64 0,.int .i64 0] 310)
 have hf0:=(R0 w).alloc (.cells #[.int .i64 0,.int .i64 0] 310)
 have HH:=Hd h
 have hmx:Tryz.prog.follows .mixedOrders=true:=by kernel_rfl
 refine(callsIn_wide (n:=5)).1 ?_
 refine callsIn_of_wp_marks Tryz.func182 rfl trivial ?_ rfl
 simp only[Tryz.ntmps182,List.size_toArray,List.length_cons,List.length_nil,Nat.reduceAdd,Nat.reduceSub,Array.replicate_succ,Array.replicate_zero,List.push_toArray,List.append_toArray,List.nil_append,List.cons_append]
 have f202:Fence.wide.fn 235:=trivial
 have fdep:Fence.wide.depth=none:=rfl
 gi_wp2_with (gi_at_call 235;refine(callsIn_wide.2 (matches_calls Fb most _)).mono ?_;rintro e w' ⟨rfl,rfl⟩)
 have hfa:=(hf0.alloc (.cells #[ptr Fb] 233)).alloc (.cells #[.int .i64 most] 3)
 have hx0':=(((R0 _).alloc (.cells #[ptr Fb] 233)).alloc (.cells #[.int .i64 most] 3)).keep hx0 (fun h=>h)
 have hx1':=((R0 _).alloc (.cells #[.int .i64 most] 3)).keep (heap_alloc_new (w.alloc (.cells #[.int .i64 0,.int .i64 0] 310)) (.cells #[ptr Fb] 233)) (fun h=>h)
 have hx2':=heap_alloc_new ((w.alloc (.cells #[.int .i64 0,.int .i64 0] 310)).alloc (.cells #[ptr Fb] 233)) (.cells #[.int .i64 most] 3)
 have hsz:(((w.alloc (.cells #[.int .i64 0,.int .i64 0] 310)).alloc (.cells #[ptr Fb] 233)).alloc (.cells #[.int .i64 most] 3)).heap.size=w.heap.size+3:=by simp
 simp only[World.size_alloc] at hx1' hx2'
 clear hf0 hx0
 generalize((w.alloc (.cells #[.int .i64 0,.int .i64 0] 310)).alloc (.cells #[ptr Fb] 233)).alloc (.cells #[.int .i64 most] 3)=W0 at*
 obtain⟨b0,hb0⟩:∃b0,w.heap.size=b0:=⟨_,rfl⟩
 rw[hb0] at hx0' hx1' hx2' hsz
 rw[hb0]
 have HB0:=Hd hb0
 clear hb0
 refine wpIn_rangeFunc_ownH rfl (by omega) (gf:=263) (lb:=#[ptr (b0+1),ptr (b0+1+1)]) rfl trivial (enters_of Tryz.func263 (by kernel_rfl) rfl)
  (matches_stops (5-1) Fb (b0+1) (b0+1+1) M B dict p most data dv w W0 (fun k=>k=b0) h (hfa.mono (fun _ _ h=>h.elim)) (fun k e=>by have:=HB0.out;omega) (by omega) (by omega) (cell_in (i:=0) hx1' rfl) (cell_in (i:=0) hx2' rfl) hp hb hd h273)
  kpf_t (fun W l o o' hl=>kpf_b W l o o' hl) (Below.refl _ _) (fun _=>rfl)
  (fun(pre:List (Mt data dict p most)) W=>(∃n d:Nat,W.heap[b0]? =some (.cells #[.int .i64 n,.int .i64 d] 310 (0,0))∧Good data dict p most n d)∧Fr (fun k=>w.heap.size≤k) w W∧W0.heap.size≤W.heap.size)
  (fun _ _ _=>False) ?hI (fun _ _ _ _ _ h _ _=>h) ⟨⟨0,0,hx0',.inl rfl⟩,hfa.mono (fun _ _ h=>h.elim),Nat.le_refl _⟩
  (fun(x:Mt data dict p most) a' W=>∃Bx,W0.heap.size≤Bx∧W.heap[Bx]? =some (.cells #[.int .i64 (x.1.1:Nat),.int .i64 (x.1.2:Nat)] 310 (0,0))∧a'={tmps:=#[ptr Fb,.int .i64 most,undef,undef,ptr b0,ptr Bx,ptr Fb,.int .i64 most,.func (.func 263) #[] #[ptr (b0+1),ptr (b0+1+1)],.agg #[.int .i64 (x.1.1:Nat),.int .i64 (x.1.2:Nat)],undef,undef,undef,undef,undef,undef,undef],defers:=[]})
  ?hAx ?assign ?body ?done ?stop
 case hI=>
  intro pre W W' row hs hg hr
  obtain⟨⟨n,d,h1,h2⟩,h3,h4⟩:=hs
  exact⟨⟨n,d,cells_own (B:=W0.heap.size) (b:=b0) (fun(_:Unit)=>#[Value.int .i64 (n:Int),.int .i64 (d:Int)]) 310 () W W' row h1 hg hr,h2⟩,fr_own (B:=W0.heap.size) (by have:=HB0.out;omega) () W W' row h3 hg hr,Nat.le_trans h4 hg.size⟩
 case hAx=>
  intro x a' s W W' row hs hg hr
  obtain⟨Bx,h1,h2,h3⟩:=hs
  exact⟨Bx,h1,cells_own (B:=W0.heap.size) (b:=Bx) (fun(_:Unit)=>#[Value.int .i64 (x.1.1:Nat),.int .i64 (x.1.2:Nat)]) 310 () W W' row h2 hg hr,h3⟩
 case assign=>
  rintro l pre x W K hi hK
  obtain⟨⟨n,d,hc,hg⟩,hfr,hWs⟩:=hi
  have HK:=Hd hK
  clear hK
  gi_wp2
  exact HK.out _ _ ((KeepsOthers.alloc _ _).from _) ((Fr.refl _ W).alloc _) ⟨⟨n,d,((R0 W).alloc _).keep hc (fun h=>h),hg⟩,hfr.alloc _,by rw[World.size_alloc];omega⟩ ⟨W.heap.size,hWs,heap_alloc_new _ _,rfl⟩
 case body=>
  rintro l pre x a' W hl ⟨r,hr⟩ ⟨⟨n,d,hc,hg⟩,hfr,hWs⟩ ⟨Bx,hBx,hx,rfl⟩ hlt
  obtain⟨x0,x1⟩:=cs2 hx rfl rfl
  obtain⟨c0,c1,cf⟩:=cf2 hc rfl rfl
  by_cases hgt:(n:Int)<((x.1.1:Nat):Int)
  ·gi_wp2
   have hle:w.heap.size≤b0:=by have:=HB0.out;omega
   exact⟨((KeepsOthers.setCell _ _ _).trans (KeepsOthers.setCell _ _ _)).from _,((Fr.refl _ W).setCell (p:=⟨b0,0,none⟩) (.inl (.inl rfl)) _).setCell (p:=⟨b0,1,none⟩) (.inl (.inl rfl)) _,⟨_,_,set_in (set_in hc 0 _) 1 _,.inr x.2⟩,(hfr.setCell (p:=⟨b0,0,none⟩) (.inl hle) _).setCell (p:=⟨b0,1,none⟩) (.inl hle) _,by simpa [World.setCell] using hWs⟩
  ·gi_wp2
   exact⟨KeepsFrom.refl _ _,Fr.refl _ _,⟨n,d,hc,hg⟩,hfr,by first|exact hWs|omega⟩
 case done=>
  rintro D xs W hD _ ⟨⟨n,d,hc,hg⟩,hfr,hWs⟩ hK
  obtain⟨c0,c1,cf⟩:=cf2 hc rfl rfl
  gi_wp2
  have hle:w.heap.size≤b0:=by have:=HB0.out;omega
  have hK2:=((KeepsOthers.setCell W ⟨b0,0,none⟩ (.int .i64 n)).trans (KeepsOthers.setCell _ ⟨b0,1,none⟩ (.int .i64 d))).same D _ hK rfl
  have hc2:=set_in (set_in hc 0 (.int .i64 n)) 1 (.int .i64 d)
  have hf2:=(hfr.setCell (p:=⟨b0,0,none⟩) (.inl hle) (.int .i64 n)).setCell (p:=⟨b0,1,none⟩) (.inl hle) (.int .i64 d)
  refine⟨by simp,.inl ⟨_,_,rfl,run_takeDeferred hK2,?_⟩⟩
  refine⟨_,results_cell_row rfl _ _ b0 310 #[.int .i64 n,.int .i64 d] (0,0) _ rfl ((World.putObj_heap_other (by omega)).trans hc2) Tryz.underlying310 rfl (by kernel_rfl),?_⟩
  refine⟨(hf2.grown (grownBy_putObj' _ D _) (fun k e=>by cases e;exact .inl (by have:=HB0.out;omega))).mono (fun k hk h=>by omega),n,d,rfl,hg⟩
 case stop=>
  rintro D c pre W _ _ h _
  exact h.elim
end Fi
end Go.Proofs.YtffoddpjfgjelaaGreatDoor
namespace Go.Proofs.YtffoddpjfgjelaaGreatDoor
open Go.RowKit
namespace Ps
open Mem Win St Fi Pk
structure PcAt(w:World)(P tp dict:Nat)(pv fv:Value)(data:List UInt8):Prop where
 box:w.heap[P]? =some (.cells #[pv,.int .i64 tp,.int .i64 dict,fv] 235 (0,0))
 rd:Rd w pv data
theorem PcAt.keep{w w':World}{P tp dict:Nat}{pv fv:Value}{data:List UInt8}(h:PcAt w P tp dict pv fv data)(hf:Fr (fun _=>False) w w'):PcAt w' P tp dict pv fv data:=⟨hf.keep h.box (fun h=>h),h.rd.keep hf⟩
def most(tp p:Nat):Nat:=min 273 (tp-p)
theorem most_calls(P tp dict p:Nat)(pv fv:Value)(data:List UInt8)(w:World)(h:PcAt w P tp dict pv fv data)(hp:p≤tp)(hb:tp≤1099511627776):
 Calls Tryz.prog 183 #[ptr P,.int .i64 p] w fun e w'=>e=.returned (.int .i64 (most tp p))∧w=w':=by
 have c1:=cell_in (i:=1) h.box rfl
 have hw:IntKind.i64.wrap ((tp:Int)-(p:Int))=(tp:Int)-(p:Int):=IntWalk.i64_in _ (by omega)
 clear h
 by_cases hm:(tp:Int)-(p:Int)<273
 ·have e:((most tp p:Nat):Int)=(tp:Int)-(p:Int):=by unfold most;omega
  rw[e]
  clear e
  go_enter Tryz.func183,Tryz.ntmps183
  go_wp2_with fail
  go_ret
  exact⟨rfl,rfl⟩
 ·have e:((most tp p:Nat):Int)=273:=by unfold most;omega
  rw[e]
  clear e
  go_enter Tryz.func183,Tryz.ntmps183
  go_wp2_with fail
  go_ret
  exact⟨rfl,rfl⟩
theorem most_le(tp p:Nat)(h:p≤tp):p+most tp p≤tp∧most tp p≤273:=by unfold most;omega
set_option maxRecDepth 100000 in
theorem run_calls(P tp dict p d:Nat)(pv fv:Value)(data:List UInt8)(w:World)(h:PcAt w P tp dict pv fv data)(hp:p≤tp)(ht:tp≤data.length)(hb:data.length≤1099511627776):
 Calls Tryz.prog 184 #[ptr P,.int .i64 p,.int .i64 d] w fun e w'=>Fr (fun _=>False) w w'∧∃n:Nat,e=.returned (.int .i64 n)∧p+n≤tp∧(n=0∨Run data p n d):=by
 have HH:=Hd h
 have c2:=cell_in (i:=2) h.box rfl
 obtain⟨a,cap,rfl,hcap,_,_⟩:=h.rd
 by_cases hbad:(d<1∨p<d)∨dict<d
 ·clear h
  rcases hbad with(h1|h1)|h1
  ·have e1:decide ((d:Int)<1)=true:=by simp;omega
   go_enter Tryz.func184,Tryz.ntmps184
   go_wp2_with fail
   go_ret
   exact⟨Fr.refl _ _,0,rfl,by omega,.inl rfl⟩
  ·have e2:decide ((p:Int)<(d:Int))=true:=by simp;omega
   by_cases h0:d<1
   ·omega
   have e1:decide ((d:Int)<1)=false:=by simp;omega
   go_enter Tryz.func184,Tryz.ntmps184
   go_wp2_with fail
   go_ret
   exact⟨Fr.refl _ _,0,rfl,by omega,.inl rfl⟩
  ·by_cases h0:d<1
   ·have e1:decide ((d:Int)<1)=true:=by simp;omega
    go_enter Tryz.func184,Tryz.ntmps184
    go_wp2_with fail
    go_ret
    exact⟨Fr.refl _ _,0,rfl,by omega,.inl rfl⟩
   have e1:decide ((d:Int)<1)=false:=by simp;omega
   by_cases h2:p<d
   ·have e2:decide ((p:Int)<(d:Int))=true:=by simp;omega
    go_enter Tryz.func184,Tryz.ntmps184
    go_wp2_with fail
    go_ret
    exact⟨Fr.refl _ _,0,rfl,by omega,.inl rfl⟩
   have e2:decide ((p:Int)<(d:Int))=false:=by simp;omega
   have e3:decide ((dict:Int)<(d:Int))=true:=by simp;omega
   go_enter Tryz.func184,Tryz.ntmps184
   go_wp2_with fail
   go_ret
   exact⟨Fr.refl _ _,0,rfl,by omega,.inl rfl⟩
 ·have e1:decide ((d:Int)<1)=false:=by simp;omega
  have e2:decide ((p:Int)<(d:Int))=false:=by simp;omega
  have e3:decide ((dict:Int)<(d:Int))=false:=by simp;omega
  have HM:=Hd (most_calls P tp dict p _ fv data w h hp (by omega))
  have hm:=(most_le tp p hp).1
  clear h
  go_enter Tryz.func184,Tryz.ntmps184
  go_wp2_with fail
  refine HM.out.mono ?_
  rintro e w1 ⟨rfl,rfl⟩
  go_wp2_with fail
  generalize most tp p=m at*
  go_loopw [7](fun s7 wr=>∃n:Nat,s7=.int .i64 n∧n≤m∧(∀j,j<n→data[p+j]? =data[p+j-d]?)∧Fr (fun _=>False) w wr) (fun s7 _=>m-(intOf s7).toNat)
  case atStart=>exact⟨0,rfl,Nat.zero_le _,fun j hj=>absurd hj (Nat.not_lt_zero _),Fr.refl _ _⟩
  case round=>
   obtain⟨n,rfl,hn,hal,hfr⟩:=hrel
   by_cases hlt:n<m
   ·have hd:decide ((n:Int)<(m:Int))=true:=by simp;omega
    have hr:=HH.out.keep hfr
    obtain⟨a',cp,e,_,_,hc0⟩:=hr.rd
    obtain⟨g,o,rfl,hc⟩:=hc0 (by omega)
    simp only[Value.slice.injEq,true_and] at e
    obtain⟨rfl,rfl⟩:=e
    obtain⟨x,hx⟩:∃x,data[p+n]? =some x:=⟨data[p+n],by simp⟩
    obtain⟨y,hy⟩:∃y,data[p+n-d]? =some y:=⟨data[p+n-d]'(by omega),List.getElem?_eq_getElem _⟩
    have c0:=cell_in (i:=0) hr.box rfl
    have i5:(p:Int)+(n:Int)-(d:Int)=((p+n-d:Nat):Int):=by omega
    have cx:wr.cell? ⟨g,o+(p+n),none⟩=some (.int .u8 x.toNat):=hc _ _ hx
    have cy:wr.cell? ⟨g,o+(p+n-d),none⟩=some (.int .u8 y.toNat):=hc _ _ hy
    have i1:(0:Int)≤(p:Int)+(n:Int):=by omega
    have i2:(p:Int)+(n:Int)<(data.length:Int):=by omega
    have i3:(0:Int)≤((p+n-d:Nat):Int):=by omega
    have i4:((p+n-d:Nat):Int)<(data.length:Int):=by omega
    have i6:IntKind.i64.wrap ((p:Int)+(n:Int)-(d:Int))=((p+n-d:Nat):Int):=by rw[IntWalk.i64_in _ (by omega)];exact i5
    have HFR:=Hd hfr
    have HAL:=Hd hal
    have HX:=Hd hx
    have HY:=Hd hy
    have HND:=Hd hbad
    clear hr hc hc0 hfr hal hx hy i5 hbad
    by_cases hxy:x=y
    ·have he:((x.toNat:Int)==(y.toNat:Int))=true:=by subst hxy;simp
     go_wp2_with fail
     go_quiet (fail)
     go_wp2_with fail
     go_roundw
     case rel=>
      refine⟨n+1,by go_num,by omega,fun j hj=> ?_,HFR.out.drewN _⟩
      by_cases hjn:j<n
      ·exact HAL.out j hjn
      ·obtain rfl:j=n:=by omega
       rw[HX.out,HY.out,hxy]
     case measure=>simp[intOf];omega
    ·have he:((x.toNat:Int)==(y.toNat:Int))=false:=by
      simp only[beq_eq_false_iff_ne,ne_eq,Int.natCast_inj]
      exact fun e=>hxy (UInt8.toNat_inj.1 e)
     go_wp2_with fail
     go_quiet (fail)
     go_wp2_with fail
     go_ret
     have hbad:=HND.out
     exact⟨HFR.out.drewN _,n,rfl,by omega,.inr ⟨by omega,by omega,HAL.out⟩⟩
   ·have hd:decide ((n:Int)<(m:Int))=false:=by simp;omega
    have HFR:=Hd hfr
    clear hfr
    go_wp2_with fail
    go_quiet (fail)
    go_wp2_with fail
    go_ret
    exact⟨HFR.out.drewN _,n,rfl,by omega,.inr ⟨by omega,by omega,hal⟩⟩
end Ps
namespace Ps
open Mem Win St Fi Pk
def RepOk(data:List UInt8)(tp p:Nat)(s:S)(b k:Nat):Prop:=b=0∨(2≤b∧k<4∧p+b≤tp∧Run data p b (repAt s k))
theorem index4(nn r0 r1 r2 r3 i:Nat)(hi:i<4)(W:World):(Instr.index 82 (.agg #[.int .i64 r0,.int .i64 r1,.int .i64 r2,.int .i64 r3]) (.int .i64 i)).run Tryz.prog W=.ok (.int .i64 (repAt ⟨nn,r0,r1,r2,r3⟩ i)) W:=by
 rcases(show i=0∨i=1∨i=2∨i=3 by omega) with rfl|rfl|rfl|rfl<;>kernel_rfl
set_option maxRecDepth 100000 in
theorem rep_calls(P tp dict p:Nat)(pv fv:Value)(data:List UInt8)(s:S)(w:World)(h:PcAt w P tp dict pv fv data)(hp:p≤tp)(ht:tp≤data.length)(hb:data.length≤1099511627776):
 Calls Tryz.prog 181 #[ptr P,.int .i64 p,.agg s.cells] w fun e w'=>Fr (fun _=>False) w w'∧∃b k:Nat,e=.returned (.tuple #[.int .i64 b,.int .i64 k])∧RepOk data tp p s b k:=by
 have HR:=Hd (fun(d:Nat)(w':World)(hf:Fr (fun _=>False) w w')=>run_calls P tp dict p d pv fv data w' (h.keep hf) hp ht hb)
 have hx:=heap_alloc_new w (.cells s.cells 84)
 have HA:=Hd ((R0 w).alloc (.cells s.cells 84))
 obtain⟨nn,r0,r1,r2,r3⟩:=s
 simp only[S.cells] at hx HA ⊢
 have s1:=cell_in (i:=1) hx rfl
 have s2:=cell_in (i:=2) hx rfl
 have s3:=cell_in (i:=3) hx rfl
 have s4:=cell_in (i:=4) hx rfl
 clear h hx
 go_enter Tryz.func181,Tryz.ntmps181
 go_wp2_with fail
 go_loopw [8,9,15](fun s8 s9 s15 wr=>∃b k i:Nat,s8=.int .i64 b∧s9=.int .i64 k∧s15=.int .i64 i∧i≤4∧RepOk data tp p ⟨nn,r0,r1,r2,r3⟩ b k∧Fr (fun _=>False) w wr) (fun _ _ s15 _=>4-(intOf s15).toNat)
 case atStart=>exact⟨0,0,0,rfl,rfl,rfl,by omega,.inl rfl,HA.out⟩
 case round=>
  obtain⟨b,k,i,rfl,rfl,rfl,hi,hok,hfr⟩:=hrel
  have HOK:=Hd hok
  have HFR:=Hd hfr
  clear hok hfr
  by_cases hi4:i<4
  ·have hix:=index4 nn r0 r1 r2 r3 i hi4
   have HRi:=Hd (HR.out (repAt ⟨nn,r0,r1,r2,r3⟩ i) wr HFR.out)
   generalize hd:repAt ⟨nn,r0,r1,r2,r3⟩ i=d at*
   have HD:=Hd hd
   clear hd
   go_wp2_with fail
   refine HRi.out.mono ?_
   rintro e w2 ⟨hf2,n,rfl,hn1,hn2⟩
   have HF2:=Hd (HFR.out.trans hf2)
   have HN:=Hd hn2
   clear hf2 hn2
   by_cases h2:(2:Int)≤(n:Int)
   ·by_cases h3:(b:Int)<(n:Int)
    ·go_wp2_with fail
     go_roundw
     case rel=>exact⟨n,i,i+1,rfl,rfl,by go_num,by omega,.inr ⟨by omega,hi4,hn1,by rw[HD.out];exact HN.out.resolve_left (by omega)⟩,HF2.out⟩
     case measure=>simp[intOf];omega
    ·go_wp2_with fail
     go_roundw
     case rel=>exact⟨b,k,i+1,rfl,rfl,by go_num,by omega,HOK.out,HF2.out⟩
     case measure=>simp[intOf];omega
   ·go_wp2_with fail
    go_roundw
    case rel=>exact⟨b,k,i+1,rfl,rfl,by go_num,by omega,HOK.out,HF2.out⟩
    case measure=>simp[intOf];omega
  ·obtain rfl:i=4:=by omega
   go_wp2_with fail
   go_ret2
   exact⟨HFR.out,b,k,rfl,HOK.out⟩
theorem size_calls(k y n d:Int)(w:World)(hn:0≤n):Calls Tryz.prog 128 #[.agg #[.int .i64 k,.int .u8 y,.int .i64 n,.int .i64 d]] w fun e w'=>e=.returned (.int .i64 (if n≤1 then 1 else n))∧Fr (fun _=>False) w w':=by
 have hx:=heap_alloc_new w (.cells #[.int .i64 k,.int .u8 y,.int .i64 n,.int .i64 d] 110)
 have HA:=Hd ((R0 w).alloc (.cells #[.int .i64 k,.int .u8 y,.int .i64 n,.int .i64 d] 110))
 have c2:=cell_in (i:=2) hx rfl
 clear hx
 by_cases h:n≤1
 ·rw[if_pos h]
  go_enter Tryz.func128,Tryz.ntmps128
  go_wp2_with fail
  go_ret
  exact⟨by first|rfl|(congr 2;omega),HA.out⟩
 ·rw[if_neg h]
  go_enter Tryz.func128,Tryz.ntmps128
  go_wp2_with fail
  go_ret
  exact⟨by first|rfl|(congr 2;omega),HA.out⟩
set_option maxRecDepth 100000 in
theorem right_calls(s:S)(hs:s.Ok)(w:World)(hT:Tabs w):Calls Tryz.prog 124 #[.agg s.cells] w fun e w'=>e=.returned (.int .i64 0)∧Fr (fun _=>False) w w':=by
 have hx:=heap_alloc_new w (.cells s.cells 84)
 have hf:=(R0 w).alloc (.cells s.cells 84)
 have HN:=Hd (next_lit s hs 0 0 0 (w.alloc (.cells s.cells 84)) (hT.keep hf))
 have HA:=Hd hf
 obtain⟨nn,r0,r1,r2,r3⟩:=s
 simp only[S.cells] at hx HA HN ⊢
 obtain⟨s0,s1,s2,s3,s4⟩:=cs5 hx rfl rfl rfl rfl rfl
 clear hx hf
 go_enter Tryz.func124,Tryz.ntmps124
 go_wp2_with fail
 refine HN.out.mono ?_
 rintro e w2 ⟨rfl,hf2⟩
 have HF2:=Hd (HA.out.trans hf2)
 clear hf2
 go_wp2_with fail
 go_ret
 exact⟨rfl,HF2.out.alloc _⟩
end Ps
namespace Ps
open Mem Win St Fi Pk
set_option maxRecDepth 100000 in
theorem newPiece_calls(pv:Value)(data:List UInt8)(fm tp dict:Nat)(w:World)(h:Rd w pv data)(hf:fm≤tp)(ht:tp≤data.length)(hb:data.length≤1099511627776)(hd1:1≤dict)(hd2:dict≤4294967295):
 Calls Tryz.prog 123 #[pv,.int .i64 fm,.int .i64 tp,.int .i64 dict] w fun e w'=>Fr (fun _=>False) w w'∧∃P F dv M B,e=.returned (.tuple #[ptr P,.int .i64 0])∧PcAt w' P tp dict pv (ptr F) data∧FiAt w' F data dict fm dv M B∧w.heap.size≤F∧w.heap.size≤P:=by
 have HN:=Hd (new_calls pv data dict w h hb hd1 hd2)
 have HR:=Hd h
 obtain⟨a,cap,rfl,_⟩:=h
 have e1:decide ((fm:Int)<0)=false:=by simp
 have e2:decide ((tp:Int)<(fm:Int))=false:=by simp;omega
 have e3:decide ((data.length:Int)<(tp:Int))=false:=by simp;omega
 go_enter Tryz.func123,Tryz.ntmps123
 go_wp2_with fail
 refine HN.out.mono ?_
 rintro e w1 ⟨hf1,F,dv,M,rfl,hfi,hFn⟩
 have hfa:=(R0 w1).alloc (.cells #[.slice a data.length cap,.int .i64 tp,.int .i64 dict,ptr F] 235)
 have HS:=Hd (skip_calls F dict 0 fm M w.heap.size data dv _ (hfi.still hfa) (by omega) hb)
 have HB:=Hd (heap_alloc_new w1 (.cells #[.slice a data.length cap,.int .i64 tp,.int .i64 dict,ptr F] 235))
 have HF1:=Hd (hf1.trans hfa)
 have HF0:=Hd hf1
 have HFL:=Hd (lt_of_block hfi.box)
 clear hfi hf1 hfa
 go_wp2_with fail
 refine HS.out.mono ?_
 rintro e w3 ⟨rfl,hf3,hfi3⟩
 have HF3:=Hd hf3
 have HI3:=Hd hfi3
 clear hf3 hfi3
 go_wp2_with fail
 go_ret2
 have hfl:=HFL.out
 have hs:=HF0.out.size
 rw[Nat.zero_add] at HI3
 have hfin:Fr (fun _=>False) w w3:=HF1.out.trans' HF3.out (fun k hk e=>by omega)
 exact⟨hfin,w1.heap.size,F,dv,M,w.heap.size,rfl,⟨HF3.out.keep HB.out (by omega),HR.out.keep hfin⟩,HI3.out,hFn,hs⟩
structure Cand(data:List UInt8)(tp p:Nat)(s:S)(y:Sy):Prop where
 ok:y.Ok
 lit:y.kind=1→data[p]? =some (UInt8.ofNat y.byte)∧p+1≤tp∧y.len=0
 run:y.kind≠1→Run data p (lenOfSy y) (distOf s y)∧p+lenOfSy y≤tp
 len:y.kind=4→y.len=0
theorem Cand.right{data:List UInt8}{tp p:Nat}{s:S}{y:Sy}(h:Cand data tp p s y)(h0:(s.next y).1=0):Right data tp p s y:=by
 obtain⟨z1,z2⟩:=size_of h0 h.ok
 refine⟨h.ok,h0,?_,fun hk=>(h.lit hk).1,fun hk=>(h.run hk).1⟩
 by_cases hk:y.kind=1
 ·rw[z1 hk]
  exact(h.lit hk).2.1
 ·rw[z2 hk]
  exact(h.run hk).2
theorem Cand.size{data:List UInt8}{tp p:Nat}{s:S}{y:Sy}(h:Cand data tp p s y)(h0:(s.next y).1=0):(if(y.len:Int)≤1 then(1:Int) else(y.len:Int))=(St.size y:Nat):=by
 obtain⟨z1,z2⟩:=size_of h0 h.ok
 have hk:=h.ok.kind
 by_cases h1:y.kind=1
 ·rw[z1 h1,(h.lit h1).2.2]
  rfl
 ·rw[z2 h1]
  by_cases h4:y.kind=4
  ·unfold lenOfSy
   rw[if_pos h4,h.len h4]
   rfl
  ·have hl:isL y.len:=by
    unfold S.next at h0
    by_cases hl:isL y.len
    ·exact hl
    ·rw[if_neg h1,if_neg h4] at h0
     by_cases h2:y.kind=2
     ·rw[if_pos h2,if_neg hl] at h0
      simp at h0
     ·rw[if_neg h2,if_neg hl] at h0
      simp at h0
   unfold lenOfSy
   rw[if_neg h4]
   split<;>omega
end Ps
end Go.Proofs.YtffoddpjfgjelaaGreatDoor
