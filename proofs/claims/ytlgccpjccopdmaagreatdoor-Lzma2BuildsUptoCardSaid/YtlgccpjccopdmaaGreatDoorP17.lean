/- Part 17 of 54: lemmas of the last part, each under the conditions that it names. -/
import Derived.Test.YtlgccpjccopdmaaGreatDoorP12
import Derived.Test.YtlgccpjccopdmaaGreatDoorP16
set_option linter.unusedVariables false
set_option linter.unusedSimpArgs false
set_option maxRecDepth 1500
set_option maxHeartbeats 4000000
namespace Go.Proofs.YtlgccpjccopdmaaGreatDoor
open Go.RowKit
namespace Ck
open Mem Wire Win
structure US where
 c:Lz.C
 ps:Nat→List Nat
 pr:Nat×Nat×Nat
 out:List UInt8
def US.clear(u:US):US:={u with c:={u.c.fresh u.c.lc u.c.lp u.c.pb with all:=[]},ps:=Lz.fresh u.c.lc u.c.lp}
def US.props(u:US)(h:Head):US:={u with pr:=(h.lc,h.lp,h.pb)}
def US.reset(u:US):US:={u with c:=u.c.fresh u.pr.1 u.pr.2.1 u.pr.2.2,ps:=Lz.fresh u.pr.1 u.pr.2.1}
def US.raw(u:US)(part:List UInt8):US:={u with c:=u.c.on part,out:=u.out++part}
def US.take(u:US)(part:List UInt8)(n:Nat):Option US:=(Lz.takeAll u.c u.ps part n).map fun r=>{u with c:=r.2.2.1,ps:=r.2.2.2,out:=u.out++r.2.1}
def US.step(u:US)(h:Head)(part:List UInt8):Option US:=
 if h.kind=0∨h.kind=2 then some (u.raw part)
 else if h.kind=1 then some (u.clear.raw part)
 else if h.kind=3 then u.take part h.size
 else if h.kind=4 then u.reset.take part h.size
 else if h.kind=5 then((u.props h).reset).take part h.size
 else((u.clear.props h).reset).take part h.size
structure UAt(w0 w:World)(dB prB fB Vb:Nat)(l:Lz.L)(ov:Value)(u:US):Prop where
 d:w.heap[dB]? =some (.cells #[Lz.ptr l.D] 163 (0,0))
 pr:w.heap[prB]? =some (.cells #[.int .i64 u.pr.1,.int .i64 u.pr.2.1,.int .i64 u.pr.2.2] 24 (0,0))
 f:w.heap[fB]? =some (.cells #[.func (.func 42) #[] #[Lz.ptr Vb]] 104 (0,0))
 dec:Lz.Dec w l u.c u.ps false
 out:OutAt w Vb ov
 mine:Mine w0 w ov u.out
 tabs:St.Tabs w
 low:∀k,l.F k→w0.heap.size≤k
 five:5≤w0.heap.size
 lows:w0.heap.size≤dB∧w0.heap.size≤prB∧w0.heap.size≤fB∧w0.heap.size≤Vb
 ofs:∀k,ov.ownBlock=some k→¬l.F k
 prok:u.pr.1+u.pr.2.1≤4∧u.pr.2.2≤4
 size:w0.heap.size≤w.heap.size
theorem dec_off{w:World}{l:Lz.L}{c:Lz.C}{ps:Nat→List Nat}{sp:Bool}(h:Lz.Dec w l c ps sp){k:Nat}{cs:Array Value}{t:TypeId}{fr:Nat×Nat}(hk:w.heap[k]? =some (.cells cs t fr))(ht:¬Lz.owned t)(ht2:t≠5):¬l.F k:=by
 rintro(rfl|rfl|rfl|hF|⟨j,hj,rfl|rfl⟩)
 ·rw[h.d] at hk
  simp only[Option.some.injEq,Obj.cells.injEq] at hk
  exact ht (hk.2.1 ▸ by decide)
 ·rw[h.tab.box] at hk
  simp only[Option.some.injEq,Obj.cells.injEq] at hk
  exact ht (hk.2.1 ▸ by decide)
 ·rw[h.win.box] at hk
  simp only[Option.some.injEq,Obj.cells.injEq] at hk
  exact ht (hk.2.1 ▸ by decide)
 ·obtain⟨cur,hc⟩:=Lz.own_block h.win.own hF
  rw[hc] at hk
  simp only[Option.some.injEq,Obj.cells.injEq] at hk
  exact ht2 hk.2.1.symm
 ·obtain⟨_,_,_,hg,_⟩:=h.tab.set j hj
  rw[hg] at hk
  simp only[Option.some.injEq,Obj.cells.injEq] at hk
  exact ht (hk.2.1 ▸ by decide)
 ·obtain⟨_,_,hb,_⟩:=h.tab.set j hj
  rw[hb] at hk
  simp only[Option.some.injEq,Obj.cells.injEq] at hk
  exact ht (hk.2.1 ▸ by decide)
theorem UAt.keep{w0 w w':World}{dB prB fB Vb:Nat}{l:Lz.L}{ov:Value}{u:US}(h:UAt w0 w dB prB fB Vb l ov u)(hfr:Fr (fun _=>False) w w'):UAt w0 w' dB prB fB Vb l ov u:=
 ⟨hfr.keep h.d (fun h=>h),hfr.keep h.pr (fun h=>h),hfr.keep h.f (fun h=>h),h.dec.keep0 hfr,hfr.keep h.out (fun h=>h),h.mine.keep hfr,h.tabs.keep hfr,h.low,h.five,h.lows,h.ofs,h.prok,Nat.le_trans h.size hfr.size⟩
theorem UAt.decd{w0 w w':World}{dB prB fB Vb:Nat}{l l':Lz.L}{ov:Value}{u:US}{c2:Lz.C}{ps2:Nat→List Nat}(h:UAt w0 w dB prB fB Vb l ov u)(hfr:Fr l.F w w')(hn:Lz.Nx w l l')(hd:Lz.Dec w' l' c2 ps2 false):UAt w0 w' dB prB fB Vb l' ov {u with c:=c2,ps:=ps2}:=by
 have hs:=h.size
 refine⟨by rw[hn.D];exact hfr.keep h.d (dec_off h.dec h.d (by decide) (by decide)),hfr.keep h.pr (dec_off h.dec h.pr (by decide) (by decide)),hfr.keep h.f (dec_off h.dec h.f (by decide) (by decide)),hd,hfr.keep h.out (dec_off h.dec h.out (by decide) (by decide)),h.mine.step hfr h.ofs,h.tabs.step hfr (fun k hk=>Nat.le_trans h.five (h.low k hk)),fun k hk=> ?_,h.five,h.lows,fun k hk hF=> ?_,h.prok,Nat.le_trans hs hfr.size⟩
 ·rcases hn.F k hk with h1|h1
  ·exact h.low k h1
  ·omega
 ·rcases hn.F k hF with h1|h1
  ·exact h.ofs k hk h1
  ·have:=h.mine.lt k hk
   omega
theorem UAt.did{w0 w w':World}{dB prB fB Vb:Nat}{l:Lz.L}{ov ov2:Value}{u:US}{out2:List UInt8}(h:UAt w0 w dB prB fB Vb l ov u)(hO:OutAt w' Vb ov2)(hM:Mine w0 w' ov2 out2)(hfr:Fr (fun k=>k=Vb∨ov.ownBlock=some k) w w')(hn:∀k,ov2.ownBlock=some k→ov.ownBlock=some k∨w.heap.size≤k):UAt w0 w' dB prB fB Vb l ov2 {u with out:=out2}:=by
 have hs:=h.size
 have hne:∀{k:Nat}{cs:Array Value}{t:TypeId}{fr:Nat×Nat},w.heap[k]? =some (.cells cs t fr)→t≠22→t≠5→¬(k=Vb∨ov.ownBlock=some k):=by
  intro k cs t fr hk h1 h2 h3
  rcases h3 with h3|h3
  ·have h4:=h.out
   unfold OutAt at h4
   rw[h3,h4] at hk
   simp only[Option.some.injEq,Obj.cells.injEq] at hk
   exact h1 hk.2.1.symm
  ·obtain⟨cur,hc⟩:=Lz.own_block h.mine.own h3
   rw[hc] at hk
   simp only[Option.some.injEq,Obj.cells.injEq] at hk
   exact h2 hk.2.1.symm
 refine⟨hfr.keep h.d (hne h.d (by decide) (by decide)),hfr.keep h.pr (hne h.pr (by decide) (by decide)),hfr.keep h.f (hne h.f (by decide) (by decide)),h.dec.keep hfr (fun k hk h3=> ?_),hO,hM,h.tabs.step hfr (fun k h3=> ?_),h.low,h.five,h.lows,fun k hk hF=> ?_,h.prok,Nat.le_trans hs hfr.size⟩
 ·rcases h3 with h3|h3
  ·exact dec_off h.dec h.out (by decide) (by decide) (h3 ▸ hk)
  ·exact h.ofs k h3 hk
 ·have:=h.five
  have:=h.lows
  rcases h3 with h3|h3
  ·omega
  ·have:=h.mine.new k h3
   omega
 ·rcases hn k hk with h1|h1
  ·exact h.ofs k h1 hF
  ·have:=h.dec.old k hF
   omega
end Ck
namespace Ck
open Mem Wire Win
def UG(prB Vb:Nat)(l:Lz.L)(ov:Value)(k:Nat):Prop:=k=prB∨k=Vb∨l.F k∨ov.ownBlock=some k
def UPost(w0 w:World)(dB prB fB Vb:Nat)(l:Lz.L)(ov:Value)(res:Option US)(e:Ending)(w':World):Prop:=
 Fr (UG prB Vb l ov) w w'∧match res with
  |none=>e=.returned (.int .i64 2)
  |some u2=>e=.returned (.int .i64 0)∧∃l2 ov2,UAt w0 w' dB prB fB Vb l2 ov2 u2∧(∀k,l2.F k→l.F k∨w.heap.size≤k)∧(∀k,ov2.ownBlock=some k→ov.ownBlock=some k∨w.heap.size≤k)
structure B(w0 w wk:World)(dB prB fB Vb z5:Nat)(l l2:Lz.L)(ov ov2:Value)(u2:US)(hc:Array Value):Prop where
 U:UAt w0 wk dB prB fB Vb l2 ov2 u2
 fr:Fr (UG prB Vb l ov) w wk
 nx:∀k,l2.F k→l.F k∨w.heap.size≤k
 on:∀k,ov2.ownBlock=some k→ov.ownBlock=some k∨w.heap.size≤k
 z:wk.heap[z5]? =some (.cells hc 47 (0,0))
theorem B.decd{w0 w wk wk':World}{dB prB fB Vb z5:Nat}{l l2 l3:Lz.L}{ov ov2:Value}{u2:US}{hc:Array Value}{c2:Lz.C}{ps2:Nat→List Nat}(h:B w0 w wk dB prB fB Vb z5 l l2 ov ov2 u2 hc)(hfr:Fr l2.F wk wk')(hn:Lz.Nx wk l2 l3)(hd:Lz.Dec wk' l3 c2 ps2 false):B w0 w wk' dB prB fB Vb z5 l l3 ov ov2 {u2 with c:=c2,ps:=ps2} hc:=by
 have hs:=h.fr.size
 refine⟨h.U.decd hfr hn hd,h.fr.trans' hfr (fun i hi hF=> ?_),fun k hk=> ?_,h.on,hfr.keep h.z (dec_off h.U.dec h.z (by decide) (by decide))⟩
 ·rcases h.nx i hF with h1|h1
  ·exact .inr (.inr (.inl h1))
  ·omega
 ·rcases hn.F k hk with h1|h1
  ·exact h.nx k h1
  ·exact .inr (by omega)
theorem B.did{w0 w wk wk':World}{dB prB fB Vb z5:Nat}{l l2:Lz.L}{ov ov2 ov3:Value}{u2:US}{hc:Array Value}{out2:List UInt8}(h:B w0 w wk dB prB fB Vb z5 l l2 ov ov2 u2 hc)(hO:OutAt wk' Vb ov3)(hM:Mine w0 wk' ov3 out2)(hfr:Fr (fun k=>k=Vb∨ov2.ownBlock=some k) wk wk')(hn:∀k,ov3.ownBlock=some k→ov2.ownBlock=some k∨wk.heap.size≤k):
 UPost w0 w dB prB fB Vb l ov (some {u2 with out:=out2}) (.returned (.int .i64 0)) wk':=by
 have hs:=h.fr.size
 refine⟨h.fr.trans' hfr (fun i hi hF=> ?_),rfl,l2,ov3,h.U.did hO hM hfr hn,h.nx,fun k hk=> ?_⟩
 ·rcases hF with hF|hF
  ·exact .inr (.inl hF)
  ·rcases h.on i hF with h1|h1
   ·exact .inr (.inr (.inr h1))
   ·omega
 ·rcases hn k hk with h1|h1
  ·exact h.on k h1
  ·exact .inr (by omega)
theorem UG_low{w0 w:World}{dB prB fB Vb:Nat}{l:Lz.L}{ov:Value}{u:US}(h:UAt w0 w dB prB fB Vb l ov u):∀k,UG prB Vb l ov k→w0.heap.size≤k:=by
 have:=h.lows
 rintro k (rfl|rfl|hk|hk)
 ·omega
 ·omega
 ·exact h.low k hk
 ·exact h.mine.new k hk
set_option maxRecDepth 100000 in
theorem unpack1_k0(w0 w:World)(dB prB fB Vb:Nat)(l:Lz.L)(ov:Value)(u:US)(hU:UAt w0 w dB prB fB Vb l ov u)(h:Head)(hk:h.kind=0)(part:List UInt8)(pv:Value)(hr:Rd w pv part)(hpv:0<part.length→∀k,pv.ownBlock=some k→k<w0.heap.size)(hok:h.lc+h.lp≤4∧h.pb≤4)(hs:3≤h.kind→1≤h.size∧h.size≤2097152)
 (hp:part.length≤1099511627776)(hm:u.c.all.length+part.length+h.size≤1152921504606840000)(ho:u.out.length+part.length+h.size≤70368744177664):
 Calls Tryz.prog 86 #[.agg h.cells,pv,Lz.ptr dB,Lz.ptr prB,Lz.ptr fB] w (UPost w0 w dB prB fB Vb l ov (u.step h part)):=by
 obtain⟨res,hres⟩:∃res,res=u.step h part:=⟨_,rfl⟩
 rw[←hres]
 unfold US.step at hres
 obtain⟨kind,size,packed,lc,lp,pb⟩:=h
 simp only at hk hok hs hm ho hres
 subst hk
 simp only[Nat.reduceEqDiff,or_false,false_or,or_self,if_true,if_false,reduceIte] at hres
 have hf:=(Fr.refl (fun _=>False) w).alloc (.cells #[.int .i64 0,.int .i64 size,.int .i64 packed,.int .i64 lc,.int .i64 lp,.int .i64 pb] 47)
 have hz:=heap_alloc_new w (.cells #[.int .i64 0,.int .i64 size,.int .i64 packed,.int .i64 lc,.int .i64 lp,.int .i64 pb] 47)
 have HB:=Hd (show B w0 w (w.alloc (.cells #[.int .i64 0,.int .i64 size,.int .i64 packed,.int .i64 lc,.int .i64 lp,.int .i64 pb] 47)) dB prB fB Vb w.heap.size l l ov ov u #[.int .i64 0,.int .i64 size,.int .i64 packed,.int .i64 lc,.int .i64 lp,.int .i64 pb] from⟨hU.keep hf,hf.mono (fun _ _ h=>h.elim),fun k h=>.inl h,fun k h=>.inl h,hz⟩)
 have HRD:=Hd (show∀wk,Fr (UG prB Vb l ov) w wk→Rd wk pv part from fun wk hfr=>rd_step1 hr hfr (fun h0 k hk hg=>by have h1:=hpv h0 k hk;have h2:=UG_low hU k hg;omega))
 have HPV:=Hd (show∀(l2:Lz.L)(wk:World)(ov2:Value)(u2:US),UAt w0 wk dB prB fB Vb l2 ov2 u2→0<part.length→∀k,pv.ownBlock=some k→¬l2.F k from fun l2 wk ov2 u2 hu h0 k hk hF=>by have h1:=hpv h0 k hk;have h2:=hu.low k hF;omega)
 have HF5:=Hd (show∀(l2:Lz.L)(wk:World)(ov2:Value)(u2:US),UAt w0 wk dB prB fB Vb l2 ov2 u2→∀k,l2.F k→5≤k from fun l2 wk ov2 u2 hu k hF=>Nat.le_trans hu.five (hu.low k hF))
 have HRES:=Hd hres
 clear hf hz hU hr hpv hres
 show Calls Tryz.prog 86 #[.agg #[.int .i64 0,.int .i64 size,.int .i64 packed,.int .i64 lc,.int .i64 lp,.int .i64 pb],pv,Lz.ptr dB,Lz.ptr prB,Lz.ptr fB] w (UPost w0 w dB prB fB Vb l ov res)
 go_enter Tryz.func86,Tryz.ntmps86
 have d0:=cell_in (i:=0) HB.out.U.d rfl
 obtain⟨p0,p1,p2,pf⟩:=cf3 HB.out.U.pr rfl rfl rfl
 have f0:=cell_in (i:=0) HB.out.U.f rfl
 obtain⟨z0,z1,z2,z3,z4,z5⟩:=cs6 HB.out.z rfl rfl rfl rfl rfl rfl
 go_wp2_with fail
 generalize w.alloc (.cells #[.int .i64 0,.int .i64 size,.int .i64 packed,.int .i64 lc,.int .i64 lp,.int .i64 pb] 47)=wk at*
 generalize w.heap.size=zb at*
 clear d0 p0 p1 p2 pf f0 z0 z1 z2 z3 z4 z5
 have HM:=Hd (Lz.raw_calls HB.out.U.dec pv part (HRD.out _ HB.out.fr) (HPV.out _ _ _ _ HB.out.U) (by first|omega|(simp only[US.clear,US.props,US.reset,Lz.C.fresh,Lz.C.on,List.length_nil];omega)))
 refine HM.out.mono ?_
 rintro e w1 ⟨rfl,hfr,l1,hn,hd⟩
 have HB2:=Hd (HB.out.decd hfr hn hd)
 clear hfr hn hd HM HB
 have HB:=HB2
 clear HB2
 obtain⟨wk,rfl⟩:∃wk,wk=w1:=⟨_,rfl⟩
 have d0:=cell_in (i:=0) HB.out.U.d rfl
 obtain⟨p0,p1,p2,pf⟩:=cf3 HB.out.U.pr rfl rfl rfl
 have f0:=cell_in (i:=0) HB.out.U.f rfl
 obtain⟨z0,z1,z2,z3,z4,z5⟩:=cs6 HB.out.z rfl rfl rfl rfl rfl rfl
 go_wp2_with fail
 clear d0 p0 p1 p2 pf f0 z0 z1 z2 z3 z4 z5
 have HM:=Hd (decode1_calls Vb ov pv (.slice none 0 0) ⟨0,size,packed,lc,lp,pb⟩ _ part w0 wk HB.out.U.out HB.out.U.mine HB.out.U.size (HRD.out _ HB.out.fr) (by first|(simp only[];omega)|(simp only[US.clear,US.props,US.reset,Lz.C.fresh,Lz.C.on,List.length_nil];omega)))
 refine HM.out.mono ?_
 rintro e w9 ⟨rfl,ov9,hO9,hM9,hf9,hn9⟩
 have HP:=Hd (HB.out.did hO9 hM9 hf9 hn9)
 clear hO9 hM9 hf9 hn9
 go_wp2_with fail
 go_ret
 rw[HRES.out]
 exact HP.out
set_option maxRecDepth 100000 in
theorem unpack1_k1(w0 w:World)(dB prB fB Vb:Nat)(l:Lz.L)(ov:Value)(u:US)(hU:UAt w0 w dB prB fB Vb l ov u)(h:Head)(hk:h.kind=1)(part:List UInt8)(pv:Value)(hr:Rd w pv part)(hpv:0<part.length→∀k,pv.ownBlock=some k→k<w0.heap.size)(hok:h.lc+h.lp≤4∧h.pb≤4)(hs:3≤h.kind→1≤h.size∧h.size≤2097152)
 (hp:part.length≤1099511627776)(hm:u.c.all.length+part.length+h.size≤1152921504606840000)(ho:u.out.length+part.length+h.size≤70368744177664):
 Calls Tryz.prog 86 #[.agg h.cells,pv,Lz.ptr dB,Lz.ptr prB,Lz.ptr fB] w (UPost w0 w dB prB fB Vb l ov (u.step h part)):=by
 obtain⟨res,hres⟩:∃res,res=u.step h part:=⟨_,rfl⟩
 rw[←hres]
 unfold US.step at hres
 obtain⟨kind,size,packed,lc,lp,pb⟩:=h
 simp only at hk hok hs hm ho hres
 subst hk
 simp only[Nat.reduceEqDiff,or_false,false_or,or_self,if_true,if_false,reduceIte] at hres
 have hf:=(Fr.refl (fun _=>False) w).alloc (.cells #[.int .i64 1,.int .i64 size,.int .i64 packed,.int .i64 lc,.int .i64 lp,.int .i64 pb] 47)
 have hz:=heap_alloc_new w (.cells #[.int .i64 1,.int .i64 size,.int .i64 packed,.int .i64 lc,.int .i64 lp,.int .i64 pb] 47)
 have HB:=Hd (show B w0 w (w.alloc (.cells #[.int .i64 1,.int .i64 size,.int .i64 packed,.int .i64 lc,.int .i64 lp,.int .i64 pb] 47)) dB prB fB Vb w.heap.size l l ov ov u #[.int .i64 1,.int .i64 size,.int .i64 packed,.int .i64 lc,.int .i64 lp,.int .i64 pb] from⟨hU.keep hf,hf.mono (fun _ _ h=>h.elim),fun k h=>.inl h,fun k h=>.inl h,hz⟩)
 have HRD:=Hd (show∀wk,Fr (UG prB Vb l ov) w wk→Rd wk pv part from fun wk hfr=>rd_step1 hr hfr (fun h0 k hk hg=>by have h1:=hpv h0 k hk;have h2:=UG_low hU k hg;omega))
 have HPV:=Hd (show∀(l2:Lz.L)(wk:World)(ov2:Value)(u2:US),UAt w0 wk dB prB fB Vb l2 ov2 u2→0<part.length→∀k,pv.ownBlock=some k→¬l2.F k from fun l2 wk ov2 u2 hu h0 k hk hF=>by have h1:=hpv h0 k hk;have h2:=hu.low k hF;omega)
 have HF5:=Hd (show∀(l2:Lz.L)(wk:World)(ov2:Value)(u2:US),UAt w0 wk dB prB fB Vb l2 ov2 u2→∀k,l2.F k→5≤k from fun l2 wk ov2 u2 hu k hF=>Nat.le_trans hu.five (hu.low k hF))
 have HRES:=Hd hres
 clear hf hz hU hr hpv hres
 show Calls Tryz.prog 86 #[.agg #[.int .i64 1,.int .i64 size,.int .i64 packed,.int .i64 lc,.int .i64 lp,.int .i64 pb],pv,Lz.ptr dB,Lz.ptr prB,Lz.ptr fB] w (UPost w0 w dB prB fB Vb l ov res)
 go_enter Tryz.func86,Tryz.ntmps86
 have d0:=cell_in (i:=0) HB.out.U.d rfl
 obtain⟨p0,p1,p2,pf⟩:=cf3 HB.out.U.pr rfl rfl rfl
 have f0:=cell_in (i:=0) HB.out.U.f rfl
 obtain⟨z0,z1,z2,z3,z4,z5⟩:=cs6 HB.out.z rfl rfl rfl rfl rfl rfl
 go_wp2_with fail
 generalize w.alloc (.cells #[.int .i64 1,.int .i64 size,.int .i64 packed,.int .i64 lc,.int .i64 lp,.int .i64 pb] 47)=wk at*
 generalize w.heap.size=zb at*
 clear d0 p0 p1 p2 pf f0 z0 z1 z2 z3 z4 z5
 have HM:=Hd (Lz.clear_calls HB.out.U.dec)
 refine HM.out.mono ?_
 rintro e w1 ⟨rfl,hfr,l1,hn,hd⟩
 replace HB:=Hd (show B w0 w w1 dB prB fB Vb zb l l1 ov ov (u.clear) #[.int .i64 1,.int .i64 size,.int .i64 packed,.int .i64 lc,.int .i64 lp,.int .i64 pb] from HB.out.decd hfr hn hd)
 clear hfr hn hd HM
 obtain⟨wk,rfl⟩:∃wk,wk=w1:=⟨_,rfl⟩
 have d0:=cell_in (i:=0) HB.out.U.d rfl
 obtain⟨p0,p1,p2,pf⟩:=cf3 HB.out.U.pr rfl rfl rfl
 have f0:=cell_in (i:=0) HB.out.U.f rfl
 obtain⟨z0,z1,z2,z3,z4,z5⟩:=cs6 HB.out.z rfl rfl rfl rfl rfl rfl
 go_wp2_with fail
 clear d0 p0 p1 p2 pf f0 z0 z1 z2 z3 z4 z5
 have HM:=Hd (Lz.raw_calls HB.out.U.dec pv part (HRD.out _ HB.out.fr) (HPV.out _ _ _ _ HB.out.U) (by first|omega|(simp only[US.clear,US.props,US.reset,Lz.C.fresh,Lz.C.on,List.length_nil];omega)))
 refine HM.out.mono ?_
 rintro e w2 ⟨rfl,hfr,l2,hn,hd⟩
 have HB2:=Hd (HB.out.decd hfr hn hd)
 clear hfr hn hd HM HB
 have HB:=HB2
 clear HB2
 obtain⟨wk,rfl⟩:∃wk,wk=w2:=⟨_,rfl⟩
 have d0:=cell_in (i:=0) HB.out.U.d rfl
 obtain⟨p0,p1,p2,pf⟩:=cf3 HB.out.U.pr rfl rfl rfl
 have f0:=cell_in (i:=0) HB.out.U.f rfl
 obtain⟨z0,z1,z2,z3,z4,z5⟩:=cs6 HB.out.z rfl rfl rfl rfl rfl rfl
 go_wp2_with fail
 clear d0 p0 p1 p2 pf f0 z0 z1 z2 z3 z4 z5
 have HM:=Hd (decode1_calls Vb ov pv (.slice none 0 0) ⟨1,size,packed,lc,lp,pb⟩ _ part w0 wk HB.out.U.out HB.out.U.mine HB.out.U.size (HRD.out _ HB.out.fr) (by first|(simp only[];omega)|(simp only[US.clear,US.props,US.reset,Lz.C.fresh,Lz.C.on,List.length_nil];omega)))
 refine HM.out.mono ?_
 rintro e w9 ⟨rfl,ov9,hO9,hM9,hf9,hn9⟩
 have HP:=Hd (HB.out.did hO9 hM9 hf9 hn9)
 clear hO9 hM9 hf9 hn9
 go_wp2_with fail
 go_ret
 rw[HRES.out]
 exact HP.out
set_option maxRecDepth 100000 in
theorem unpack1_k2(w0 w:World)(dB prB fB Vb:Nat)(l:Lz.L)(ov:Value)(u:US)(hU:UAt w0 w dB prB fB Vb l ov u)(h:Head)(hk:h.kind=2)(part:List UInt8)(pv:Value)(hr:Rd w pv part)(hpv:0<part.length→∀k,pv.ownBlock=some k→k<w0.heap.size)(hok:h.lc+h.lp≤4∧h.pb≤4)(hs:3≤h.kind→1≤h.size∧h.size≤2097152)
 (hp:part.length≤1099511627776)(hm:u.c.all.length+part.length+h.size≤1152921504606840000)(ho:u.out.length+part.length+h.size≤70368744177664):
 Calls Tryz.prog 86 #[.agg h.cells,pv,Lz.ptr dB,Lz.ptr prB,Lz.ptr fB] w (UPost w0 w dB prB fB Vb l ov (u.step h part)):=by
 obtain⟨res,hres⟩:∃res,res=u.step h part:=⟨_,rfl⟩
 rw[←hres]
 unfold US.step at hres
 obtain⟨kind,size,packed,lc,lp,pb⟩:=h
 simp only at hk hok hs hm ho hres
 subst hk
 simp only[Nat.reduceEqDiff,or_false,false_or,or_self,if_true,if_false,reduceIte] at hres
 have hf:=(Fr.refl (fun _=>False) w).alloc (.cells #[.int .i64 2,.int .i64 size,.int .i64 packed,.int .i64 lc,.int .i64 lp,.int .i64 pb] 47)
 have hz:=heap_alloc_new w (.cells #[.int .i64 2,.int .i64 size,.int .i64 packed,.int .i64 lc,.int .i64 lp,.int .i64 pb] 47)
 have HB:=Hd (show B w0 w (w.alloc (.cells #[.int .i64 2,.int .i64 size,.int .i64 packed,.int .i64 lc,.int .i64 lp,.int .i64 pb] 47)) dB prB fB Vb w.heap.size l l ov ov u #[.int .i64 2,.int .i64 size,.int .i64 packed,.int .i64 lc,.int .i64 lp,.int .i64 pb] from⟨hU.keep hf,hf.mono (fun _ _ h=>h.elim),fun k h=>.inl h,fun k h=>.inl h,hz⟩)
 have HRD:=Hd (show∀wk,Fr (UG prB Vb l ov) w wk→Rd wk pv part from fun wk hfr=>rd_step1 hr hfr (fun h0 k hk hg=>by have h1:=hpv h0 k hk;have h2:=UG_low hU k hg;omega))
 have HPV:=Hd (show∀(l2:Lz.L)(wk:World)(ov2:Value)(u2:US),UAt w0 wk dB prB fB Vb l2 ov2 u2→0<part.length→∀k,pv.ownBlock=some k→¬l2.F k from fun l2 wk ov2 u2 hu h0 k hk hF=>by have h1:=hpv h0 k hk;have h2:=hu.low k hF;omega)
 have HF5:=Hd (show∀(l2:Lz.L)(wk:World)(ov2:Value)(u2:US),UAt w0 wk dB prB fB Vb l2 ov2 u2→∀k,l2.F k→5≤k from fun l2 wk ov2 u2 hu k hF=>Nat.le_trans hu.five (hu.low k hF))
 have HRES:=Hd hres
 clear hf hz hU hr hpv hres
 show Calls Tryz.prog 86 #[.agg #[.int .i64 2,.int .i64 size,.int .i64 packed,.int .i64 lc,.int .i64 lp,.int .i64 pb],pv,Lz.ptr dB,Lz.ptr prB,Lz.ptr fB] w (UPost w0 w dB prB fB Vb l ov res)
 go_enter Tryz.func86,Tryz.ntmps86
 have d0:=cell_in (i:=0) HB.out.U.d rfl
 obtain⟨p0,p1,p2,pf⟩:=cf3 HB.out.U.pr rfl rfl rfl
 have f0:=cell_in (i:=0) HB.out.U.f rfl
 obtain⟨z0,z1,z2,z3,z4,z5⟩:=cs6 HB.out.z rfl rfl rfl rfl rfl rfl
 go_wp2_with fail
 generalize w.alloc (.cells #[.int .i64 2,.int .i64 size,.int .i64 packed,.int .i64 lc,.int .i64 lp,.int .i64 pb] 47)=wk at*
 generalize w.heap.size=zb at*
 clear d0 p0 p1 p2 pf f0 z0 z1 z2 z3 z4 z5
 have HM:=Hd (Lz.raw_calls HB.out.U.dec pv part (HRD.out _ HB.out.fr) (HPV.out _ _ _ _ HB.out.U) (by first|omega|(simp only[US.clear,US.props,US.reset,Lz.C.fresh,Lz.C.on,List.length_nil];omega)))
 refine HM.out.mono ?_
 rintro e w1 ⟨rfl,hfr,l1,hn,hd⟩
 have HB2:=Hd (HB.out.decd hfr hn hd)
 clear hfr hn hd HM HB
 have HB:=HB2
 clear HB2
 obtain⟨wk,rfl⟩:∃wk,wk=w1:=⟨_,rfl⟩
 have d0:=cell_in (i:=0) HB.out.U.d rfl
 obtain⟨p0,p1,p2,pf⟩:=cf3 HB.out.U.pr rfl rfl rfl
 have f0:=cell_in (i:=0) HB.out.U.f rfl
 obtain⟨z0,z1,z2,z3,z4,z5⟩:=cs6 HB.out.z rfl rfl rfl rfl rfl rfl
 go_wp2_with fail
 clear d0 p0 p1 p2 pf f0 z0 z1 z2 z3 z4 z5
 have HM:=Hd (decode1_calls Vb ov pv (.slice none 0 0) ⟨2,size,packed,lc,lp,pb⟩ _ part w0 wk HB.out.U.out HB.out.U.mine HB.out.U.size (HRD.out _ HB.out.fr) (by first|(simp only[];omega)|(simp only[US.clear,US.props,US.reset,Lz.C.fresh,Lz.C.on,List.length_nil];omega)))
 refine HM.out.mono ?_
 rintro e w9 ⟨rfl,ov9,hO9,hM9,hf9,hn9⟩
 have HP:=Hd (HB.out.did hO9 hM9 hf9 hn9)
 clear hO9 hM9 hf9 hn9
 go_wp2_with fail
 go_ret
 rw[HRES.out]
 exact HP.out
end Ck
namespace Ck
open Mem Wire Win
def readP(b:List UInt8)(packed size:Int):Nat→Sr→US→Except (Nat×Nat) (Nat×US)
 |0,_,_=>.error (0,0)
 |f+1,s,u=>
   if s.now=3 then .ok (s.at',u)
   else match nextP b packed size s with
    |.error x=>.error x
    |.ok (h,part,fr,s2)=>match u.step h part with
      |none=>.error (fr,2)
      |some u2=>readP b packed size f s2 u2
theorem get_pos(xs:List UInt8)(h:(get xs).2.2=0):1≤(get xs).2.1:=by
 unfold get at*
 simp only at*
 by_cases h0:xs.length=0
 ·rw[if_pos h0] at h
  simp at h
 rw[if_neg h0] at h ⊢
 by_cases h1:(xs.getD 0 0).toNat=0
 ·rw[if_pos h1]
  exact Nat.le_refl 1
 rw[if_neg h1] at h ⊢
 by_cases h2:(xs.getD 0 0).toNat≤2
 ·rw[if_pos h2] at h ⊢
  by_cases h3:xs.length<3
  ·rw[if_pos h3] at h
   simp at h
  ·rw[if_neg h3]
   simp only
   omega
 rw[if_neg h2] at h ⊢
 by_cases h3:(xs.getD 0 0).toNat<128
 ·rw[if_pos h3] at h
  simp at h
 rw[if_neg h3] at h ⊢
 by_cases h4:xs.length<5
 ·rw[if_pos h4] at h
  simp at h
 rw[if_neg h4] at h ⊢
 by_cases h5:((xs.getD 0 0).toNat-128)/32<2
 ·rw[if_pos h5]
  simp only
  omega
 rw[if_neg h5] at h ⊢
 by_cases h6:xs.length<6
 ·rw[if_pos h6] at h
  simp at h
 rw[if_neg h6] at h ⊢
 by_cases h7:St.bytePropsOk (xs.getD 5 0).toNat=true
 ·rw[if_pos h7]
  simp only
  omega
 ·rw[if_neg h7] at h
  simp at h
theorem get_sizes(xs:List UInt8)(h:(get xs).2.2=0):(3≤(get xs).1.kind→1≤(get xs).1.size)∧((get xs).1.kind<3→(get xs).1.size=(get xs).1.packed):=by
 unfold get at*
 simp only at*
 by_cases h0:xs.length=0
 ·rw[if_pos h0] at h
  simp at h
 rw[if_neg h0] at h ⊢
 by_cases h1:(xs.getD 0 0).toNat=0
 ·rw[if_pos h1]
  simp[Head.none]
 rw[if_neg h1] at h ⊢
 by_cases h2:(xs.getD 0 0).toNat≤2
 ·rw[if_pos h2] at h ⊢
  by_cases h3:xs.length<3
  ·rw[if_pos h3] at h
   simp at h
  ·rw[if_neg h3]
   simp only
   exact⟨fun _=>by omega,by simp⟩
 rw[if_neg h2] at h ⊢
 by_cases h3:(xs.getD 0 0).toNat<128
 ·rw[if_pos h3] at h
  simp at h
 rw[if_neg h3] at h ⊢
 by_cases h4:xs.length<5
 ·rw[if_pos h4] at h
  simp at h
 rw[if_neg h4] at h ⊢
 by_cases h5:((xs.getD 0 0).toNat-128)/32<2
 ·rw[if_pos h5]
  simp only
  exact⟨fun _=>by omega,fun _=>by omega⟩
 rw[if_neg h5] at h ⊢
 by_cases h6:xs.length<6
 ·rw[if_pos h6] at h
  simp at h
 rw[if_neg h6] at h ⊢
 by_cases h7:St.bytePropsOk (xs.getD 5 0).toNat=true
 ·rw[if_pos h7]
  simp only
  exact⟨fun _=>by omega,fun _=>by omega⟩
 ·rw[if_neg h7] at h
  simp at h
structure NextOk(b:List UInt8)(s:Sr)(h:Head)(part:List UInt8)(fr:Nat)(s2:Sr):Prop where
 at2:s2.at'=fr+h.packed
 more:s.at'<fr
 le:s2.at'≤b.length
 plain:s2.plain=s.plain+h.size
 eq:part=(b.drop fr).take h.packed
 plen:part.length=h.packed
 kind:h.kind≤6
 size:h.size≤2097152
 packed:h.packed≤65536
 props:h.lc+h.lp≤4∧h.pb≤4
 one:3≤h.kind→1≤h.size
 now:s2.now<4
theorem nextP_ok{b:List UInt8}{packed size:Int}{s s2:Sr}{h:Head}{part:List UInt8}{fr:Nat}(hn:s.now<4)(ha:s.at'≤b.length)(e:nextP b packed size s=.ok (h,part,fr,s2)):NextOk b s h part fr s2:=by
 unfold nextP at e
 split at e
 ·cases e
 ·split at e
  ·cases e
  ·rename_i hne
   split at e
   ·cases e
   ·rename_i k hk
    have hk7:=kindOf_lt (UInt8.toNat_lt _) hk
    split at e
    ·cases e
    ·rename_i hmv
     split at e
     ·cases e
     ·split at e
      ·cases e
      ·rename_i hge
       split at e
       ·cases e
       ·split at e
        ·cases e
        ·rename_i hsh
         have hge0:(get ((b.drop s.at').take 6)).2.2=0:=by simpa using hge
         have g1:=get_small ((b.drop s.at').take 6)
         have g2:=get_le_len ((b.drop s.at').take 6) hge0
         have g3:=get_pos ((b.drop s.at').take 6) hge0
         have g4:=get_sizes ((b.drop s.at').take 6) hge0
         rw[List.length_take,List.length_drop] at g2
         generalize get ((b.drop s.at').take 6)=g at*
         obtain⟨⟨gk,gs,gp,glc,glp,gpb⟩,gn,ge⟩:=g
         simp only[Except.ok.injEq,Prod.mk.injEq] at e g1 g2 g3 g4 hsh
         obtain⟨rfl,rfl,rfl,rfl⟩:=e
         have hm:=move_le ⟨s.now,hn⟩ ⟨k,hk7⟩
         simp only at hm
         refine⟨rfl,by omega,by simp only;omega,rfl,rfl,?_,g1.2.2.1,g1.1,g1.2.1,g1.2.2.2.2,g4.1,by simp only;omega⟩
         rw[List.length_take,List.length_drop]
         simp only
         omega
theorem nextP_err{b:List UInt8}{packed size:Int}{s:Sr}{p er:Nat}(e:nextP b packed size s=.error (p,er)):er≠0:=by
 unfold nextP at e
 split at e
 ·cases e;decide
 ·split at e
  ·cases e;decide
  ·split at e
   ·cases e;decide
   ·split at e
    ·cases e;decide
    ·split at e
     ·cases e;decide
     ·split at e
      ·rename_i h
       cases e
       exact h
      ·split at e
       ·cases e;decide
       ·split at e
        ·cases e;decide
        ·cases e
end Ck
namespace En
open Mem Ck
def headB(h:Head):List UInt8:=
 if h.kind=0 then[0]
 else if h.kind≤2 then[UInt8.ofNat h.kind,UInt8.ofNat ((h.size-1)/256),UInt8.ofNat ((h.size-1)%256)]
 else[UInt8.ofNat (128+32*(h.kind-3)+(h.size-1)/65536),UInt8.ofNat ((h.size-1)/256%256),UInt8.ofNat ((h.size-1)%256),UInt8.ofNat ((h.packed-1)/256),UInt8.ofNat ((h.packed-1)%256)]++
  (if h.kind<5 then[] else[UInt8.ofNat ((5*h.pb+h.lp)*9+h.lc)])
end En
namespace En
open Mem Rc St Lz Ck Wire
structure HeadOk(h:Head):Prop where
 kind:1≤h.kind∧h.kind≤6
 raw:h.kind≤2→1≤h.size∧h.size≤65536∧h.packed=h.size
 packed:3≤h.kind→1≤h.size∧h.size≤2097152∧1≤h.packed∧h.packed≤65536
 props:h.lc+h.lp≤4∧h.pb≤4
 none:h.kind<5→h.lc=0∧h.lp=0∧h.pb=0
theorem toN{x:Nat}(h:x<256):(UInt8.ofNat x).toNat=x:=by rw[UInt8.toNat_ofNat'];omega
end En
end Go.Proofs.YtlgccpjccopdmaaGreatDoor
