/- Part 19 of 48: lemmas of the last part, each under the conditions that it names. -/
import Derived.Test.YtffoddpjfgjelaaGreatDoorQ18
set_option linter.unusedVariables false
set_option linter.unusedSimpArgs false
set_option maxRecDepth 1500
set_option maxHeartbeats 4000000
namespace Go.Proofs.YtffoddpjfgjelaaGreatDoor
open Go.RowKit
namespace Ck
open Mem Wire Win
theorem takeGo_len(n:Nat):∀(f:Nat)(c:Lz.C)(y:Lz.Y)(l:List St.Sy)(out:List UInt8){c2:Lz.C}{y2:Lz.Y}{l2:List St.Sy}{out2:List UInt8},y.Ok c.lc c.lp→out.length≤n→Lz.takeGo n f c y l out=some (c2,y2,l2,out2)→out2.length=n∧c2.all.length=c.all.length+(out2.length-out.length)∧out.length≤out2.length
 |0,c,y,l,out,c2,y2,l2,out2,hy,hle,h=>by cases h
 |f+1,c,y,l,out,c2,y2,l2,out2,hy,hle,h=>by
   rw[Lz.takeGo_succ] at h
   have hsy:=Lz.Y.symbol_ok (c:=c) hy
   by_cases h1:n≤out.length
   ·rw[if_pos h1] at h
    simp only[Option.some.injEq,Prod.mk.injEq] at h
    obtain⟨rfl,rfl,rfl,rfl⟩:=h
    exact⟨by omega,by omega,Nat.le_refl _⟩
   ·rw[if_neg h1] at h
    split at h
    ·cases h
    ·rename_i h2
     split at h
     ·cases h
     ·rename_i h3
      have h3':(St.apply c.size c.all c.s (y.symbol c).1).1=0:=by simpa using h3
      have hal:=Lz.apply_len h3' hsy.2.kind
      have h2c:¬(n-out.length<St.size (y.symbol c).1):=fun h=>h2 (.inr (.inr h))
      have ih:=takeGo_len n f ((c.on (St.apply c.size c.all c.s (y.symbol c).1).2.1).to (St.apply c.size c.all c.s (y.symbol c).1).2.2) (y.symbol c).2 _ _ (show(y.symbol c).2.Ok c.lc c.lp from hsy.1) (by rw[List.length_append,hal];omega) h
      simp only[Lz.C.on,Lz.C.to,List.length_append] at ih
      omega
theorem take_len{c c2:Lz.C}{ps ps2:Nat→List Nat}{part outs:List UInt8}{ls:List St.Sy}{n:Nat}(h:Lz.takeAll c ps part n=some (ls,outs,c2,ps2))(hy:∀d,Rc.init part=.ok d→(⟨d,false,ps⟩:Lz.Y).Ok c.lc c.lp):outs.length=n∧c2.all.length=c.all.length+n:=by
 unfold Lz.takeAll at h
 split at h
 ·cases h
 ·rename_i d hd
  split at h
  ·cases h
  ·rename_i c3 y3 l3 out3 hg
   split at h
   ·simp only[Option.some.injEq,Prod.mk.injEq] at h
    obtain⟨rfl,rfl,rfl,rfl⟩:=h
    have:=takeGo_len n _ _ _ _ _ (hy d hd) (by simp) hg
    simp at this
    omega
   ·cases h
def UG(prB Vb:Nat)(l:Lz.L)(ov:Value)(k:Nat):Prop:=k=prB∨k=Vb∨l.F k∨ov.ownBlock=some k
def UPost(w0 w:World)(dB prB fB Vb:Nat)(l:Lz.L)(ov:Value)(res:Option US)(e:Ending)(w':World):Prop:=
 Fr (UG prB Vb l ov) w w'∧match res with
  |none=>e=.returned (.int .i64 2)
  |some u2=>e=.returned (.int .i64 0)∧∃l2 ov2,UAt w0 w' dB prB fB Vb l2 ov2 u2∧(∀k,l2.F k→l.F k∨w.heap.size≤k)∧(∀k,ov2.ownBlock=some k→ov.ownBlock=some k∨w.heap.size≤k)
structure B(w0 w wk:World)(dB prB fB Vb z5:Nat)(l l2:Lz.L)(ov ov2:Value)(u2:US)(hc:Array Value):Prop where
 U:UAt w0 wk dB prB fB Vb l2 ov2 u2
 fr:Fr (UG prB Vb l ov) w wk
 nx:∀k,l2.F k→l.F k∨w.heap.size≤k
 on:∀k,ov2.ownBlock=some k→ov.ownBlock=some k∨w.heap.size≤k
 z:wk.heap[z5]? =some (.cells hc 47 (0,0))
theorem B.nz{w0 w wk:World}{dB prB fB Vb z5:Nat}{l l2:Lz.L}{ov ov2:Value}{u2:US}{hc:Array Value}(h:B w0 w wk dB prB fB Vb z5 l l2 ov ov2 u2 hc):z5≠prB:=by
 intro e
 have h1:=h.U.pr
 rw[←e,h.z] at h1
 simp at h1
theorem B.nd{w0 w wk:World}{dB prB fB Vb z5:Nat}{l l2:Lz.L}{ov ov2:Value}{u2:US}{hc:Array Value}(h:B w0 w wk dB prB fB Vb z5 l l2 ov ov2 u2 hc):dB≠prB:=by
 intro e
 have h1:=h.U.pr
 rw[←e,h.U.d] at h1
 simp at h1
theorem B.decd{w0 w wk wk':World}{dB prB fB Vb z5:Nat}{l l2 l3:Lz.L}{ov ov2:Value}{u2:US}{hc:Array Value}{c2:Lz.C}{ps2:Nat→List Nat}(h:B w0 w wk dB prB fB Vb z5 l l2 ov ov2 u2 hc)(hfr:Fr l2.F wk wk')(hn:Lz.Nx wk l2 l3)(hd:Lz.Dec wk' l3 c2 ps2 false):B w0 w wk' dB prB fB Vb z5 l l3 ov ov2 {u2 with c:=c2,ps:=ps2} hc:=by
 have hs:=h.fr.size
 refine⟨h.U.decd hfr hn hd,h.fr.trans' hfr (fun i hi hF=> ?_),fun k hk=> ?_,h.on,hfr.keep h.z (dec_off h.U.dec h.z (by decide) (by decide))⟩
 ·rcases h.nx i hF with h1|h1
  ·exact .inr (.inr (.inl h1))
  ·omega
 ·rcases hn.F k hk with h1|h1
  ·exact h.nx k h1
  ·exact .inr (by omega)
theorem B.fail{w0 w wk wk':World}{dB prB fB Vb z5:Nat}{l l2:Lz.L}{ov ov2:Value}{u2:US}{hc:Array Value}(h:B w0 w wk dB prB fB Vb z5 l l2 ov ov2 u2 hc)(hfr:Fr l2.F wk wk'):Fr (UG prB Vb l ov) w wk':=by
 have hs:=h.fr.size
 refine h.fr.trans' hfr (fun i hi hF=> ?_)
 rcases h.nx i hF with h1|h1
 ·exact .inr (.inr (.inl h1))
 ·omega
theorem B.propd{w0 w wk:World}{dB prB fB Vb z5:Nat}{l l2:Lz.L}{ov ov2:Value}{u2:US}{hc:Array Value}(h:B w0 w wk dB prB fB Vb z5 l l2 ov ov2 u2 hc)(hd:Head)(hok:hd.lc+hd.lp≤4∧hd.pb≤4):B w0 w (((wk.setCell ⟨prB,0,none⟩ (.int .i64 hd.lc)).setCell ⟨prB,1,none⟩ (.int .i64 hd.lp)).setCell ⟨prB,2,none⟩ (.int .i64 hd.pb)) dB prB fB Vb z5 l l2 ov ov2 (u2.props hd) hc:=by
 have hfr:Fr (fun k=>k=prB) wk (((wk.setCell ⟨prB,0,none⟩ (.int .i64 hd.lc)).setCell ⟨prB,1,none⟩ (.int .i64 hd.lp)).setCell ⟨prB,2,none⟩ (.int .i64 hd.pb)):=((Fr.one _ _ _ _).trans (Fr.one _ _ _ _)).trans (Fr.one _ _ _ _)
 refine⟨h.U.propd hd hok,h.fr.trans (hfr.mono (fun i _ e=>.inl e)),h.nx,h.on,hfr.keep h.z (fun(e:z5=prB)=> ?_)⟩
 have h1:=h.U.pr
 rw[←e,h.z] at h1
 simp at h1
theorem B.did{w0 w wk wk':World}{dB prB fB Vb z5:Nat}{l l2:Lz.L}{ov ov2 ov3:Value}{u2:US}{hc:Array Value}{out2:List UInt8}(h:B w0 w wk dB prB fB Vb z5 l l2 ov ov2 u2 hc)(hO:OutAt wk' Vb ov3)(hM:Mine w0 wk' ov3 out2)(hfr:Fr (fun k=>k=Vb∨ov2.ownBlock=some k) wk wk')(hn:∀k,ov3.ownBlock=some k→ov2.ownBlock=some k∨wk.heap.size≤k):
 UPost w0 w dB prB fB Vb l ov (some {u2 with out:=out2}) (.returned (.int .i64 0)) wk':=by
 have hs:=h.fr.size
 refine⟨h.fr.trans' hfr (fun i hi hF=> ?_),rfl,l2,ov3,h.U.did hO hM hfr hn,h.nx,fun k hk=> ?_⟩
 ·rcases hF with hF|hF
  ·exact .inr (.inl hF)
  ·rcases h.on i hF with h1|h1
   ·exact .inr (.inr (.inr h1))
   ·omega
 ·rcases hn k hk with h1|h1
  ·exact h.on k h1
  ·exact .inr (by omega)
theorem UG_low{w0 w:World}{dB prB fB Vb:Nat}{l:Lz.L}{ov:Value}{u:US}(h:UAt w0 w dB prB fB Vb l ov u):∀k,UG prB Vb l ov k→w0.heap.size≤k:=by
 have:=h.lows
 rintro k (rfl|rfl|hk|hk)
 ·omega
 ·omega
 ·exact h.low k hk
 ·exact h.mine.new k hk
set_option maxRecDepth 100000 in
theorem unpack1_k0(w0 w:World)(dB prB fB Vb:Nat)(l:Lz.L)(ov:Value)(u:US)(hU:UAt w0 w dB prB fB Vb l ov u)(h:Head)(hk:h.kind=0)(part:List UInt8)(pv:Value)(hr:Rd w pv part)(hpv:0<part.length→∀k,pv.ownBlock=some k→k<w0.heap.size)(hok:h.lc+h.lp≤4∧h.pb≤4)(hs:3≤h.kind→1≤h.size∧h.size≤2097152)
 (hp:part.length≤1099511627776)(hm:u.c.all.length+part.length+h.size≤1152921504606840000)(ho:u.out.length+part.length+h.size≤70368744177664):
 Calls Tryz.prog 93 #[.agg h.cells,pv,Lz.ptr dB,Lz.ptr prB,Lz.ptr fB] w (UPost w0 w dB prB fB Vb l ov (u.step h part)):=by
 obtain⟨res,hres⟩:∃res,res=u.step h part:=⟨_,rfl⟩
 rw[←hres]
 unfold US.step at hres
 obtain⟨kind,size,packed,lc,lp,pb⟩:=h
 simp only at hk hok hs hm ho hres
 subst hk
 simp only[Nat.reduceEqDiff,or_false,false_or,or_self,if_true,if_false,reduceIte] at hres
 have hf:=(R0 w).alloc (.cells #[.int .i64 0,.int .i64 size,.int .i64 packed,.int .i64 lc,.int .i64 lp,.int .i64 pb] 47)
 have hz:=heap_alloc_new w (.cells #[.int .i64 0,.int .i64 size,.int .i64 packed,.int .i64 lc,.int .i64 lp,.int .i64 pb] 47)
 have HB:=Hd (show B w0 w (w.alloc (.cells #[.int .i64 0,.int .i64 size,.int .i64 packed,.int .i64 lc,.int .i64 lp,.int .i64 pb] 47)) dB prB fB Vb w.heap.size l l ov ov u #[.int .i64 0,.int .i64 size,.int .i64 packed,.int .i64 lc,.int .i64 lp,.int .i64 pb] from⟨hU.keep hf,hf.mono (fun _ _ h=>h.elim),fun k h=>.inl h,fun k h=>.inl h,hz⟩)
 have HRD:=Hd (show∀wk,Fr (UG prB Vb l ov) w wk→Rd wk pv part from fun wk hfr=>rd_step1 hr hfr (fun h0 k hk hg=>by have h1:=hpv h0 k hk;have h2:=UG_low hU k hg;omega))
 have HPV:=Hd (show∀(l2:Lz.L)(wk:World)(ov2:Value)(u2:US),UAt w0 wk dB prB fB Vb l2 ov2 u2→0<part.length→∀k,pv.ownBlock=some k→¬l2.F k from fun l2 wk ov2 u2 hu h0 k hk hF=>by have h1:=hpv h0 k hk;have h2:=hu.low k hF;omega)
 have HF5:=Hd (show∀(l2:Lz.L)(wk:World)(ov2:Value)(u2:US),UAt w0 wk dB prB fB Vb l2 ov2 u2→∀k,l2.F k→6≤k from fun l2 wk ov2 u2 hu k hF=>Nat.le_trans hu.five (hu.low k hF))
 have HRES:=Hd hres
 clear hf hz hU hr hpv hres
 show Calls Tryz.prog 93 #[.agg #[.int .i64 0,.int .i64 size,.int .i64 packed,.int .i64 lc,.int .i64 lp,.int .i64 pb],pv,Lz.ptr dB,Lz.ptr prB,Lz.ptr fB] w (UPost w0 w dB prB fB Vb l ov res)
 go_enter Tryz.func93,Tryz.ntmps93
 have d0:=cell_in (i:=0) HB.out.U.d rfl
 obtain⟨p0,p1,p2,pf⟩:=cf3 HB.out.U.pr rfl rfl rfl
 have f0:=cell_in (i:=0) HB.out.U.f rfl
 obtain⟨z0,z1,z2,z3,z4,z5⟩:=cs6 HB.out.z rfl rfl rfl rfl rfl rfl
 go_wp2_with fail
 generalize w.alloc (.cells #[.int .i64 0,.int .i64 size,.int .i64 packed,.int .i64 lc,.int .i64 lp,.int .i64 pb] 47)=wk at*
 generalize w.heap.size=zb at*
 clear d0 p0 p1 p2 pf f0 z0 z1 z2 z3 z4 z5
 have HM:=Hd (Lz.raw_calls HB.out.U.dec pv part (HRD.out _ HB.out.fr) (HPV.out _ _ _ _ HB.out.U) (by first|omega|(simp only[US.clear,US.props,US.reset,Lz.C.fresh,Lz.C.on,List.length_nil];omega)))
 refine HM.out.mono ?_
 rintro e w1 ⟨rfl,hfr,l1,hn,hd⟩
 have HB2:=Hd (HB.out.decd hfr hn hd)
 clear hfr hn hd HM HB
 have HB:=HB2
 clear HB2
 obtain⟨wk,rfl⟩:∃wk,wk=w1:=⟨_,rfl⟩
 have d0:=cell_in (i:=0) HB.out.U.d rfl
 obtain⟨p0,p1,p2,pf⟩:=cf3 HB.out.U.pr rfl rfl rfl
 have f0:=cell_in (i:=0) HB.out.U.f rfl
 obtain⟨z0,z1,z2,z3,z4,z5⟩:=cs6 HB.out.z rfl rfl rfl rfl rfl rfl
 go_wp2_with fail
 clear d0 p0 p1 p2 pf f0 z0 z1 z2 z3 z4 z5
 have HM:=Hd (decode1_calls Vb ov pv (.slice none 0 0) ⟨0,size,packed,lc,lp,pb⟩ _ part w0 wk HB.out.U.out HB.out.U.mine HB.out.U.size (HRD.out _ HB.out.fr) (by first|(simp only[];omega)|(simp only[US.clear,US.props,US.reset,Lz.C.fresh,Lz.C.on,List.length_nil];omega)))
 refine HM.out.mono ?_
 rintro e w9 ⟨rfl,ov9,hO9,hM9,hf9,hn9⟩
 have HP:=Hd (HB.out.did hO9 hM9 hf9 hn9)
 clear hO9 hM9 hf9 hn9
 go_wp2_with fail
 go_ret
 rw[HRES.out]
 exact HP.out
set_option maxRecDepth 100000 in
theorem unpack1_k1(w0 w:World)(dB prB fB Vb:Nat)(l:Lz.L)(ov:Value)(u:US)(hU:UAt w0 w dB prB fB Vb l ov u)(h:Head)(hk:h.kind=1)(part:List UInt8)(pv:Value)(hr:Rd w pv part)(hpv:0<part.length→∀k,pv.ownBlock=some k→k<w0.heap.size)(hok:h.lc+h.lp≤4∧h.pb≤4)(hs:3≤h.kind→1≤h.size∧h.size≤2097152)
 (hp:part.length≤1099511627776)(hm:u.c.all.length+part.length+h.size≤1152921504606840000)(ho:u.out.length+part.length+h.size≤70368744177664):
 Calls Tryz.prog 93 #[.agg h.cells,pv,Lz.ptr dB,Lz.ptr prB,Lz.ptr fB] w (UPost w0 w dB prB fB Vb l ov (u.step h part)):=by
 obtain⟨res,hres⟩:∃res,res=u.step h part:=⟨_,rfl⟩
 rw[←hres]
 unfold US.step at hres
 obtain⟨kind,size,packed,lc,lp,pb⟩:=h
 simp only at hk hok hs hm ho hres
 subst hk
 simp only[Nat.reduceEqDiff,or_false,false_or,or_self,if_true,if_false,reduceIte] at hres
 have hf:=(R0 w).alloc (.cells #[.int .i64 1,.int .i64 size,.int .i64 packed,.int .i64 lc,.int .i64 lp,.int .i64 pb] 47)
 have hz:=heap_alloc_new w (.cells #[.int .i64 1,.int .i64 size,.int .i64 packed,.int .i64 lc,.int .i64 lp,.int .i64 pb] 47)
 have HB:=Hd (show B w0 w (w.alloc (.cells #[.int .i64 1,.int .i64 size,.int .i64 packed,.int .i64 lc,.int .i64 lp,.int .i64 pb] 47)) dB prB fB Vb w.heap.size l l ov ov u #[.int .i64 1,.int .i64 size,.int .i64 packed,.int .i64 lc,.int .i64 lp,.int .i64 pb] from⟨hU.keep hf,hf.mono (fun _ _ h=>h.elim),fun k h=>.inl h,fun k h=>.inl h,hz⟩)
 have HRD:=Hd (show∀wk,Fr (UG prB Vb l ov) w wk→Rd wk pv part from fun wk hfr=>rd_step1 hr hfr (fun h0 k hk hg=>by have h1:=hpv h0 k hk;have h2:=UG_low hU k hg;omega))
 have HPV:=Hd (show∀(l2:Lz.L)(wk:World)(ov2:Value)(u2:US),UAt w0 wk dB prB fB Vb l2 ov2 u2→0<part.length→∀k,pv.ownBlock=some k→¬l2.F k from fun l2 wk ov2 u2 hu h0 k hk hF=>by have h1:=hpv h0 k hk;have h2:=hu.low k hF;omega)
 have HF5:=Hd (show∀(l2:Lz.L)(wk:World)(ov2:Value)(u2:US),UAt w0 wk dB prB fB Vb l2 ov2 u2→∀k,l2.F k→6≤k from fun l2 wk ov2 u2 hu k hF=>Nat.le_trans hu.five (hu.low k hF))
 have HRES:=Hd hres
 clear hf hz hU hr hpv hres
 show Calls Tryz.prog 93 #[.agg #[.int .i64 1,.int .i64 size,.int .i64 packed,.int .i64 lc,.int .i64 lp,.int .i64 pb],pv,Lz.ptr dB,Lz.ptr prB,Lz.ptr fB] w (UPost w0 w dB prB fB Vb l ov res)
 go_enter Tryz.func93,Tryz.ntmps93
 have d0:=cell_in (i:=0) HB.out.U.d rfl
 obtain⟨p0,p1,p2,pf⟩:=cf3 HB.out.U.pr rfl rfl rfl
 have f0:=cell_in (i:=0) HB.out.U.f rfl
 obtain⟨z0,z1,z2,z3,z4,z5⟩:=cs6 HB.out.z rfl rfl rfl rfl rfl rfl
 go_wp2_with fail
 generalize w.alloc (.cells #[.int .i64 1,.int .i64 size,.int .i64 packed,.int .i64 lc,.int .i64 lp,.int .i64 pb] 47)=wk at*
 generalize w.heap.size=zb at*
 clear d0 p0 p1 p2 pf f0 z0 z1 z2 z3 z4 z5
 have HM:=Hd (Lz.clear_calls HB.out.U.dec)
 refine HM.out.mono ?_
 rintro e w1 ⟨rfl,hfr,l1,hn,hd⟩
 replace HB:=Hd (show B w0 w w1 dB prB fB Vb zb l l1 ov ov (u.clear) #[.int .i64 1,.int .i64 size,.int .i64 packed,.int .i64 lc,.int .i64 lp,.int .i64 pb] from HB.out.decd hfr hn hd)
 clear hfr hn hd HM
 obtain⟨wk,rfl⟩:∃wk,wk=w1:=⟨_,rfl⟩
 have d0:=cell_in (i:=0) HB.out.U.d rfl
 obtain⟨p0,p1,p2,pf⟩:=cf3 HB.out.U.pr rfl rfl rfl
 have f0:=cell_in (i:=0) HB.out.U.f rfl
 obtain⟨z0,z1,z2,z3,z4,z5⟩:=cs6 HB.out.z rfl rfl rfl rfl rfl rfl
 go_wp2_with fail
 clear d0 p0 p1 p2 pf f0 z0 z1 z2 z3 z4 z5
 have HM:=Hd (Lz.raw_calls HB.out.U.dec pv part (HRD.out _ HB.out.fr) (HPV.out _ _ _ _ HB.out.U) (by first|omega|(simp only[US.clear,US.props,US.reset,Lz.C.fresh,Lz.C.on,List.length_nil];omega)))
 refine HM.out.mono ?_
 rintro e w2 ⟨rfl,hfr,l2,hn,hd⟩
 have HB2:=Hd (HB.out.decd hfr hn hd)
 clear hfr hn hd HM HB
 have HB:=HB2
 clear HB2
 obtain⟨wk,rfl⟩:∃wk,wk=w2:=⟨_,rfl⟩
 have d0:=cell_in (i:=0) HB.out.U.d rfl
 obtain⟨p0,p1,p2,pf⟩:=cf3 HB.out.U.pr rfl rfl rfl
 have f0:=cell_in (i:=0) HB.out.U.f rfl
 obtain⟨z0,z1,z2,z3,z4,z5⟩:=cs6 HB.out.z rfl rfl rfl rfl rfl rfl
 go_wp2_with fail
 clear d0 p0 p1 p2 pf f0 z0 z1 z2 z3 z4 z5
 have HM:=Hd (decode1_calls Vb ov pv (.slice none 0 0) ⟨1,size,packed,lc,lp,pb⟩ _ part w0 wk HB.out.U.out HB.out.U.mine HB.out.U.size (HRD.out _ HB.out.fr) (by first|(simp only[];omega)|(simp only[US.clear,US.props,US.reset,Lz.C.fresh,Lz.C.on,List.length_nil];omega)))
 refine HM.out.mono ?_
 rintro e w9 ⟨rfl,ov9,hO9,hM9,hf9,hn9⟩
 have HP:=Hd (HB.out.did hO9 hM9 hf9 hn9)
 clear hO9 hM9 hf9 hn9
 go_wp2_with fail
 go_ret
 rw[HRES.out]
 exact HP.out
set_option maxRecDepth 100000 in
theorem unpack1_k2(w0 w:World)(dB prB fB Vb:Nat)(l:Lz.L)(ov:Value)(u:US)(hU:UAt w0 w dB prB fB Vb l ov u)(h:Head)(hk:h.kind=2)(part:List UInt8)(pv:Value)(hr:Rd w pv part)(hpv:0<part.length→∀k,pv.ownBlock=some k→k<w0.heap.size)(hok:h.lc+h.lp≤4∧h.pb≤4)(hs:3≤h.kind→1≤h.size∧h.size≤2097152)
 (hp:part.length≤1099511627776)(hm:u.c.all.length+part.length+h.size≤1152921504606840000)(ho:u.out.length+part.length+h.size≤70368744177664):
 Calls Tryz.prog 93 #[.agg h.cells,pv,Lz.ptr dB,Lz.ptr prB,Lz.ptr fB] w (UPost w0 w dB prB fB Vb l ov (u.step h part)):=by
 obtain⟨res,hres⟩:∃res,res=u.step h part:=⟨_,rfl⟩
 rw[←hres]
 unfold US.step at hres
 obtain⟨kind,size,packed,lc,lp,pb⟩:=h
 simp only at hk hok hs hm ho hres
 subst hk
 simp only[Nat.reduceEqDiff,or_false,false_or,or_self,if_true,if_false,reduceIte] at hres
 have hf:=(R0 w).alloc (.cells #[.int .i64 2,.int .i64 size,.int .i64 packed,.int .i64 lc,.int .i64 lp,.int .i64 pb] 47)
 have hz:=heap_alloc_new w (.cells #[.int .i64 2,.int .i64 size,.int .i64 packed,.int .i64 lc,.int .i64 lp,.int .i64 pb] 47)
 have HB:=Hd (show B w0 w (w.alloc (.cells #[.int .i64 2,.int .i64 size,.int .i64 packed,.int .i64 lc,.int .i64 lp,.int .i64 pb] 47)) dB prB fB Vb w.heap.size l l ov ov u #[.int .i64 2,.int .i64 size,.int .i64 packed,.int .i64 lc,.int .i64 lp,.int .i64 pb] from⟨hU.keep hf,hf.mono (fun _ _ h=>h.elim),fun k h=>.inl h,fun k h=>.inl h,hz⟩)
 have HRD:=Hd (show∀wk,Fr (UG prB Vb l ov) w wk→Rd wk pv part from fun wk hfr=>rd_step1 hr hfr (fun h0 k hk hg=>by have h1:=hpv h0 k hk;have h2:=UG_low hU k hg;omega))
 have HPV:=Hd (show∀(l2:Lz.L)(wk:World)(ov2:Value)(u2:US),UAt w0 wk dB prB fB Vb l2 ov2 u2→0<part.length→∀k,pv.ownBlock=some k→¬l2.F k from fun l2 wk ov2 u2 hu h0 k hk hF=>by have h1:=hpv h0 k hk;have h2:=hu.low k hF;omega)
 have HF5:=Hd (show∀(l2:Lz.L)(wk:World)(ov2:Value)(u2:US),UAt w0 wk dB prB fB Vb l2 ov2 u2→∀k,l2.F k→6≤k from fun l2 wk ov2 u2 hu k hF=>Nat.le_trans hu.five (hu.low k hF))
 have HRES:=Hd hres
 clear hf hz hU hr hpv hres
 show Calls Tryz.prog 93 #[.agg #[.int .i64 2,.int .i64 size,.int .i64 packed,.int .i64 lc,.int .i64 lp,.int .i64 pb],pv,Lz.ptr dB,Lz.ptr prB,Lz.ptr fB] w (UPost w0 w dB prB fB Vb l ov res)
 go_enter Tryz.func93,Tryz.ntmps93
 have d0:=cell_in (i:=0) HB.out.U.d rfl
 obtain⟨p0,p1,p2,pf⟩:=cf3 HB.out.U.pr rfl rfl rfl
 have f0:=cell_in (i:=0) HB.out.U.f rfl
 obtain⟨z0,z1,z2,z3,z4,z5⟩:=cs6 HB.out.z rfl rfl rfl rfl rfl rfl
 go_wp2_with fail
 generalize w.alloc (.cells #[.int .i64 2,.int .i64 size,.int .i64 packed,.int .i64 lc,.int .i64 lp,.int .i64 pb] 47)=wk at*
 generalize w.heap.size=zb at*
 clear d0 p0 p1 p2 pf f0 z0 z1 z2 z3 z4 z5
 have HM:=Hd (Lz.raw_calls HB.out.U.dec pv part (HRD.out _ HB.out.fr) (HPV.out _ _ _ _ HB.out.U) (by first|omega|(simp only[US.clear,US.props,US.reset,Lz.C.fresh,Lz.C.on,List.length_nil];omega)))
 refine HM.out.mono ?_
 rintro e w1 ⟨rfl,hfr,l1,hn,hd⟩
 have HB2:=Hd (HB.out.decd hfr hn hd)
 clear hfr hn hd HM HB
 have HB:=HB2
 clear HB2
 obtain⟨wk,rfl⟩:∃wk,wk=w1:=⟨_,rfl⟩
 have d0:=cell_in (i:=0) HB.out.U.d rfl
 obtain⟨p0,p1,p2,pf⟩:=cf3 HB.out.U.pr rfl rfl rfl
 have f0:=cell_in (i:=0) HB.out.U.f rfl
 obtain⟨z0,z1,z2,z3,z4,z5⟩:=cs6 HB.out.z rfl rfl rfl rfl rfl rfl
 go_wp2_with fail
 clear d0 p0 p1 p2 pf f0 z0 z1 z2 z3 z4 z5
 have HM:=Hd (decode1_calls Vb ov pv (.slice none 0 0) ⟨2,size,packed,lc,lp,pb⟩ _ part w0 wk HB.out.U.out HB.out.U.mine HB.out.U.size (HRD.out _ HB.out.fr) (by first|(simp only[];omega)|(simp only[US.clear,US.props,US.reset,Lz.C.fresh,Lz.C.on,List.length_nil];omega)))
 refine HM.out.mono ?_
 rintro e w9 ⟨rfl,ov9,hO9,hM9,hf9,hn9⟩
 have HP:=Hd (HB.out.did hO9 hM9 hf9 hn9)
 clear hO9 hM9 hf9 hn9
 go_wp2_with fail
 go_ret
 rw[HRES.out]
 exact HP.out
set_option maxRecDepth 100000 in
theorem unpack1_k3(w0 w:World)(dB prB fB Vb:Nat)(l:Lz.L)(ov:Value)(u:US)(hU:UAt w0 w dB prB fB Vb l ov u)(h:Head)(hk:h.kind=3)(part:List UInt8)(pv:Value)(hr:Rd w pv part)(hpv:0<part.length→∀k,pv.ownBlock=some k→k<w0.heap.size)(hok:h.lc+h.lp≤4∧h.pb≤4)(hs:3≤h.kind→1≤h.size∧h.size≤2097152)
 (hp:part.length≤1099511627776)(hm:u.c.all.length+part.length+h.size≤1152921504606840000)(ho:u.out.length+part.length+h.size≤70368744177664):
 Calls Tryz.prog 93 #[.agg h.cells,pv,Lz.ptr dB,Lz.ptr prB,Lz.ptr fB] w (UPost w0 w dB prB fB Vb l ov (u.step h part)):=by
 obtain⟨res,hres⟩:∃res,res=u.step h part:=⟨_,rfl⟩
 rw[←hres]
 unfold US.step at hres
 obtain⟨kind,size,packed,lc,lp,pb⟩:=h
 simp only at hk hok hs hm ho hres
 subst hk
 simp only[Nat.reduceEqDiff,or_false,false_or,or_self,if_true,if_false,reduceIte] at hres
 have hf:=(R0 w).alloc (.cells #[.int .i64 3,.int .i64 size,.int .i64 packed,.int .i64 lc,.int .i64 lp,.int .i64 pb] 47)
 have hz:=heap_alloc_new w (.cells #[.int .i64 3,.int .i64 size,.int .i64 packed,.int .i64 lc,.int .i64 lp,.int .i64 pb] 47)
 have HB:=Hd (show B w0 w (w.alloc (.cells #[.int .i64 3,.int .i64 size,.int .i64 packed,.int .i64 lc,.int .i64 lp,.int .i64 pb] 47)) dB prB fB Vb w.heap.size l l ov ov u #[.int .i64 3,.int .i64 size,.int .i64 packed,.int .i64 lc,.int .i64 lp,.int .i64 pb] from⟨hU.keep hf,hf.mono (fun _ _ h=>h.elim),fun k h=>.inl h,fun k h=>.inl h,hz⟩)
 have HRD:=Hd (show∀wk,Fr (UG prB Vb l ov) w wk→Rd wk pv part from fun wk hfr=>rd_step1 hr hfr (fun h0 k hk hg=>by have h1:=hpv h0 k hk;have h2:=UG_low hU k hg;omega))
 have HPV:=Hd (show∀(l2:Lz.L)(wk:World)(ov2:Value)(u2:US),UAt w0 wk dB prB fB Vb l2 ov2 u2→0<part.length→∀k,pv.ownBlock=some k→¬l2.F k from fun l2 wk ov2 u2 hu h0 k hk hF=>by have h1:=hpv h0 k hk;have h2:=hu.low k hF;omega)
 have HF5:=Hd (show∀(l2:Lz.L)(wk:World)(ov2:Value)(u2:US),UAt w0 wk dB prB fB Vb l2 ov2 u2→∀k,l2.F k→6≤k from fun l2 wk ov2 u2 hu k hF=>Nat.le_trans hu.five (hu.low k hF))
 have HRES:=Hd hres
 clear hf hz hU hr hpv hres
 obtain⟨hs1,hs2⟩:=hs (by omega)
 clear hs
 show Calls Tryz.prog 93 #[.agg #[.int .i64 3,.int .i64 size,.int .i64 packed,.int .i64 lc,.int .i64 lp,.int .i64 pb],pv,Lz.ptr dB,Lz.ptr prB,Lz.ptr fB] w (UPost w0 w dB prB fB Vb l ov res)
 go_enter Tryz.func93,Tryz.ntmps93
 have d0:=cell_in (i:=0) HB.out.U.d rfl
 obtain⟨p0,p1,p2,pf⟩:=cf3 HB.out.U.pr rfl rfl rfl
 have f0:=cell_in (i:=0) HB.out.U.f rfl
 obtain⟨z0,z1,z2,z3,z4,z5⟩:=cs6 HB.out.z rfl rfl rfl rfl rfl rfl
 go_wp2_with fail
 generalize w.alloc (.cells #[.int .i64 3,.int .i64 size,.int .i64 packed,.int .i64 lc,.int .i64 lp,.int .i64 pb] 47)=wk at*
 generalize w.heap.size=zb at*
 clear d0 p0 p1 p2 pf f0 z0 z1 z2 z3 z4 z5
 have HM:=Hd (Lz.take_calls HB.out.U.dec pv part (HRD.out _ HB.out.fr) hp size hs1 hs2 (by first|omega|(simp only[US.clear,US.props,US.reset,Lz.C.fresh,Lz.C.on,List.length_nil];omega)) HB.out.U.tabs (HF5.out _ _ _ _ HB.out.U))
 unfold Lz.TakePost at HM
 unfold US.take at HRES
 cases ht:Lz.takeAll u.c u.ps part size with
 |none=>
   rw[ht] at HM HRES
   simp only at HM
   refine HM.out.mono ?_
   rintro e w8 ⟨hfr,lv8,pv8,rfl⟩
   have HP:=Hd (HB.out.fail hfr)
   clear hfr
   go_wp2_with fail
   go_ret
   rw[HRES.out]
   exact⟨HP.out,rfl⟩
 |some r=>
   obtain⟨ls,outs,c2,ps2⟩:=r
   rw[ht] at HM HRES
   simp only at HM
   have hlo:=take_len ht (fun d hd=>⟨(Rc.init_ok hd hp).1,fun j hj=>Rc.setAt_ok (HB.out.U.dec.tab.set j hj),HB.out.U.dec.len⟩)
   refine HM.out.mono ?_
   rintro e w8 ⟨hfr,lv8,pv8,rfl,l8,hn,hd,hm8,hs8,ho8,ho9⟩
   have HB2:=Hd (HB.out.decd hfr hn hd)
   have HM8:=Hd hm8
   clear hfr hn hd hm8 hs8 ho8 ho9 HM HB
   have HB:=HB2
   clear HB2
   obtain⟨wk,rfl⟩:∃wk,wk=w8:=⟨_,rfl⟩
   have d0:=cell_in (i:=0) HB.out.U.d rfl
   obtain⟨p0,p1,p2,pf⟩:=cf3 HB.out.U.pr rfl rfl rfl
   have f0:=cell_in (i:=0) HB.out.U.f rfl
   obtain⟨z0,z1,z2,z3,z4,z5⟩:=cs6 HB.out.z rfl rfl rfl rfl rfl rfl
   go_wp2_with fail
   clear d0 p0 p1 p2 pf f0 z0 z1 z2 z3 z4 z5
   have HM:=Hd (decode1_calls Vb ov pv8 lv8 ⟨3,size,packed,lc,lp,pb⟩ _ outs w0 wk HB.out.U.out HB.out.U.mine HB.out.U.size HM8.out.rd (by first|(simp only[];omega)|(simp only[US.clear,US.props,US.reset,Lz.C.fresh,Lz.C.on,List.length_nil];omega)))
   refine HM.out.mono ?_
   rintro e w9 ⟨rfl,ov9,hO9,hM9,hf9,hn9⟩
   have HP:=Hd (HB.out.did hO9 hM9 hf9 hn9)
   clear hO9 hM9 hf9 hn9
   go_wp2_with fail
   go_ret
   rw[HRES.out]
   exact HP.out
set_option maxRecDepth 100000 in
theorem unpack1_k4(w0 w:World)(dB prB fB Vb:Nat)(l:Lz.L)(ov:Value)(u:US)(hU:UAt w0 w dB prB fB Vb l ov u)(h:Head)(hk:h.kind=4)(part:List UInt8)(pv:Value)(hr:Rd w pv part)(hpv:0<part.length→∀k,pv.ownBlock=some k→k<w0.heap.size)(hok:h.lc+h.lp≤4∧h.pb≤4)(hs:3≤h.kind→1≤h.size∧h.size≤2097152)
 (hp:part.length≤1099511627776)(hm:u.c.all.length+part.length+h.size≤1152921504606840000)(ho:u.out.length+part.length+h.size≤70368744177664):
 Calls Tryz.prog 93 #[.agg h.cells,pv,Lz.ptr dB,Lz.ptr prB,Lz.ptr fB] w (UPost w0 w dB prB fB Vb l ov (u.step h part)):=by
 obtain⟨res,hres⟩:∃res,res=u.step h part:=⟨_,rfl⟩
 rw[←hres]
 unfold US.step at hres
 obtain⟨kind,size,packed,lc,lp,pb⟩:=h
 simp only at hk hok hs hm ho hres
 subst hk
 simp only[Nat.reduceEqDiff,or_false,false_or,or_self,if_true,if_false,reduceIte] at hres
 have hf:=(R0 w).alloc (.cells #[.int .i64 4,.int .i64 size,.int .i64 packed,.int .i64 lc,.int .i64 lp,.int .i64 pb] 47)
 have hz:=heap_alloc_new w (.cells #[.int .i64 4,.int .i64 size,.int .i64 packed,.int .i64 lc,.int .i64 lp,.int .i64 pb] 47)
 have HB:=Hd (show B w0 w (w.alloc (.cells #[.int .i64 4,.int .i64 size,.int .i64 packed,.int .i64 lc,.int .i64 lp,.int .i64 pb] 47)) dB prB fB Vb w.heap.size l l ov ov u #[.int .i64 4,.int .i64 size,.int .i64 packed,.int .i64 lc,.int .i64 lp,.int .i64 pb] from⟨hU.keep hf,hf.mono (fun _ _ h=>h.elim),fun k h=>.inl h,fun k h=>.inl h,hz⟩)
 have HRD:=Hd (show∀wk,Fr (UG prB Vb l ov) w wk→Rd wk pv part from fun wk hfr=>rd_step1 hr hfr (fun h0 k hk hg=>by have h1:=hpv h0 k hk;have h2:=UG_low hU k hg;omega))
 have HPV:=Hd (show∀(l2:Lz.L)(wk:World)(ov2:Value)(u2:US),UAt w0 wk dB prB fB Vb l2 ov2 u2→0<part.length→∀k,pv.ownBlock=some k→¬l2.F k from fun l2 wk ov2 u2 hu h0 k hk hF=>by have h1:=hpv h0 k hk;have h2:=hu.low k hF;omega)
 have HF5:=Hd (show∀(l2:Lz.L)(wk:World)(ov2:Value)(u2:US),UAt w0 wk dB prB fB Vb l2 ov2 u2→∀k,l2.F k→6≤k from fun l2 wk ov2 u2 hu k hF=>Nat.le_trans hu.five (hu.low k hF))
 have HRES:=Hd hres
 clear hf hz hU hr hpv hres
 obtain⟨hs1,hs2⟩:=hs (by omega)
 clear hs
 show Calls Tryz.prog 93 #[.agg #[.int .i64 4,.int .i64 size,.int .i64 packed,.int .i64 lc,.int .i64 lp,.int .i64 pb],pv,Lz.ptr dB,Lz.ptr prB,Lz.ptr fB] w (UPost w0 w dB prB fB Vb l ov res)
 go_enter Tryz.func93,Tryz.ntmps93
 have d0:=cell_in (i:=0) HB.out.U.d rfl
 obtain⟨p0,p1,p2,pf⟩:=cf3 HB.out.U.pr rfl rfl rfl
 have f0:=cell_in (i:=0) HB.out.U.f rfl
 obtain⟨z0,z1,z2,z3,z4,z5⟩:=cs6 HB.out.z rfl rfl rfl rfl rfl rfl
 go_wp2_with fail
 generalize w.alloc (.cells #[.int .i64 4,.int .i64 size,.int .i64 packed,.int .i64 lc,.int .i64 lp,.int .i64 pb] 47)=wk at*
 generalize w.heap.size=zb at*
 clear d0 p0 p1 p2 pf f0 z0 z1 z2 z3 z4 z5
 have HM:=Hd (Lz.reset_calls HB.out.U.dec _ _ _ HB.out.U.prok.1 HB.out.U.prok.2)
 refine HM.out.mono ?_
 rintro e w1 ⟨rfl,hfr,l1,hn,hd⟩
 replace HB:=Hd (show B w0 w w1 dB prB fB Vb zb l l1 ov ov (u.reset) #[.int .i64 4,.int .i64 size,.int .i64 packed,.int .i64 lc,.int .i64 lp,.int .i64 pb] from HB.out.decd hfr hn hd)
 clear hfr hn hd HM
 obtain⟨wk,rfl⟩:∃wk,wk=w1:=⟨_,rfl⟩
 have d0:=cell_in (i:=0) HB.out.U.d rfl
 obtain⟨p0,p1,p2,pf⟩:=cf3 HB.out.U.pr rfl rfl rfl
 have f0:=cell_in (i:=0) HB.out.U.f rfl
 obtain⟨z0,z1,z2,z3,z4,z5⟩:=cs6 HB.out.z rfl rfl rfl rfl rfl rfl
 go_wp2_with fail
 clear d0 p0 p1 p2 pf f0 z0 z1 z2 z3 z4 z5
 have HM:=Hd (Lz.take_calls HB.out.U.dec pv part (HRD.out _ HB.out.fr) hp size hs1 hs2 (by first|omega|(simp only[US.clear,US.props,US.reset,Lz.C.fresh,Lz.C.on,List.length_nil];omega)) HB.out.U.tabs (HF5.out _ _ _ _ HB.out.U))
 unfold Lz.TakePost at HM
 unfold US.take at HRES
 cases ht:Lz.takeAll (u.reset).c (u.reset).ps part size with
 |none=>
   rw[ht] at HM HRES
   simp only at HM
   refine HM.out.mono ?_
   rintro e w8 ⟨hfr,lv8,pv8,rfl⟩
   have HP:=Hd (HB.out.fail hfr)
   clear hfr
   go_wp2_with fail
   go_ret
   rw[HRES.out]
   exact⟨HP.out,rfl⟩
 |some r=>
   obtain⟨ls,outs,c2,ps2⟩:=r
   rw[ht] at HM HRES
   simp only at HM
   have hlo:=take_len ht (fun d hd=>⟨(Rc.init_ok hd hp).1,fun j hj=>Rc.setAt_ok (HB.out.U.dec.tab.set j hj),HB.out.U.dec.len⟩)
   refine HM.out.mono ?_
   rintro e w8 ⟨hfr,lv8,pv8,rfl,l8,hn,hd,hm8,hs8,ho8,ho9⟩
   have HB2:=Hd (HB.out.decd hfr hn hd)
   have HM8:=Hd hm8
   clear hfr hn hd hm8 hs8 ho8 ho9 HM HB
   have HB:=HB2
   clear HB2
   obtain⟨wk,rfl⟩:∃wk,wk=w8:=⟨_,rfl⟩
   have d0:=cell_in (i:=0) HB.out.U.d rfl
   obtain⟨p0,p1,p2,pf⟩:=cf3 HB.out.U.pr rfl rfl rfl
   have f0:=cell_in (i:=0) HB.out.U.f rfl
   obtain⟨z0,z1,z2,z3,z4,z5⟩:=cs6 HB.out.z rfl rfl rfl rfl rfl rfl
   go_wp2_with fail
   clear d0 p0 p1 p2 pf f0 z0 z1 z2 z3 z4 z5
   have HM:=Hd (decode1_calls Vb ov pv8 lv8 ⟨4,size,packed,lc,lp,pb⟩ _ outs w0 wk HB.out.U.out HB.out.U.mine HB.out.U.size HM8.out.rd (by first|(simp only[];omega)|(simp only[US.clear,US.props,US.reset,Lz.C.fresh,Lz.C.on,List.length_nil];omega)))
   refine HM.out.mono ?_
   rintro e w9 ⟨rfl,ov9,hO9,hM9,hf9,hn9⟩
   have HP:=Hd (HB.out.did hO9 hM9 hf9 hn9)
   clear hO9 hM9 hf9 hn9
   go_wp2_with fail
   go_ret
   rw[HRES.out]
   exact HP.out
set_option maxRecDepth 100000 in
theorem unpack1_k5(w0 w:World)(dB prB fB Vb:Nat)(l:Lz.L)(ov:Value)(u:US)(hU:UAt w0 w dB prB fB Vb l ov u)(h:Head)(hk:h.kind=5)(part:List UInt8)(pv:Value)(hr:Rd w pv part)(hpv:0<part.length→∀k,pv.ownBlock=some k→k<w0.heap.size)(hok:h.lc+h.lp≤4∧h.pb≤4)(hs:3≤h.kind→1≤h.size∧h.size≤2097152)
 (hp:part.length≤1099511627776)(hm:u.c.all.length+part.length+h.size≤1152921504606840000)(ho:u.out.length+part.length+h.size≤70368744177664):
 Calls Tryz.prog 93 #[.agg h.cells,pv,Lz.ptr dB,Lz.ptr prB,Lz.ptr fB] w (UPost w0 w dB prB fB Vb l ov (u.step h part)):=by
 obtain⟨res,hres⟩:∃res,res=u.step h part:=⟨_,rfl⟩
 rw[←hres]
 unfold US.step at hres
 obtain⟨kind,size,packed,lc,lp,pb⟩:=h
 simp only at hk hok hs hm ho hres
 subst hk
 simp only[Nat.reduceEqDiff,or_false,false_or,or_self,if_true,if_false,reduceIte] at hres
 have hf:=(R0 w).alloc (.cells #[.int .i64 5,.int .i64 size,.int .i64 packed,.int .i64 lc,.int .i64 lp,.int .i64 pb] 47)
 have hz:=heap_alloc_new w (.cells #[.int .i64 5,.int .i64 size,.int .i64 packed,.int .i64 lc,.int .i64 lp,.int .i64 pb] 47)
 have HB:=Hd (show B w0 w (w.alloc (.cells #[.int .i64 5,.int .i64 size,.int .i64 packed,.int .i64 lc,.int .i64 lp,.int .i64 pb] 47)) dB prB fB Vb w.heap.size l l ov ov u #[.int .i64 5,.int .i64 size,.int .i64 packed,.int .i64 lc,.int .i64 lp,.int .i64 pb] from⟨hU.keep hf,hf.mono (fun _ _ h=>h.elim),fun k h=>.inl h,fun k h=>.inl h,hz⟩)
 have HRD:=Hd (show∀wk,Fr (UG prB Vb l ov) w wk→Rd wk pv part from fun wk hfr=>rd_step1 hr hfr (fun h0 k hk hg=>by have h1:=hpv h0 k hk;have h2:=UG_low hU k hg;omega))
 have HPV:=Hd (show∀(l2:Lz.L)(wk:World)(ov2:Value)(u2:US),UAt w0 wk dB prB fB Vb l2 ov2 u2→0<part.length→∀k,pv.ownBlock=some k→¬l2.F k from fun l2 wk ov2 u2 hu h0 k hk hF=>by have h1:=hpv h0 k hk;have h2:=hu.low k hF;omega)
 have HF5:=Hd (show∀(l2:Lz.L)(wk:World)(ov2:Value)(u2:US),UAt w0 wk dB prB fB Vb l2 ov2 u2→∀k,l2.F k→6≤k from fun l2 wk ov2 u2 hu k hF=>Nat.le_trans hu.five (hu.low k hF))
 have HRES:=Hd hres
 clear hf hz hU hr hpv hres
 obtain⟨hs1,hs2⟩:=hs (by omega)
 clear hs
 show Calls Tryz.prog 93 #[.agg #[.int .i64 5,.int .i64 size,.int .i64 packed,.int .i64 lc,.int .i64 lp,.int .i64 pb],pv,Lz.ptr dB,Lz.ptr prB,Lz.ptr fB] w (UPost w0 w dB prB fB Vb l ov res)
 go_enter Tryz.func93,Tryz.ntmps93
 have d0:=cell_in (i:=0) HB.out.U.d rfl
 obtain⟨p0,p1,p2,pf⟩:=cf3 HB.out.U.pr rfl rfl rfl
 have f0:=cell_in (i:=0) HB.out.U.f rfl
 obtain⟨z0,z1,z2,z3,z4,z5⟩:=cs6 HB.out.z rfl rfl rfl rfl rfl rfl
 have ne1:=HB.out.nz
 have ne2:=HB.out.nz.symm
 have ne3:=HB.out.nd
 have ne4:=HB.out.nd.symm
 go_wp2_with fail
 generalize w.alloc (.cells #[.int .i64 5,.int .i64 size,.int .i64 packed,.int .i64 lc,.int .i64 lp,.int .i64 pb] 47)=wk at*
 generalize w.heap.size=zb at*
 replace HB:=Hd (show B w0 w (((wk.setCell ⟨prB,0,none⟩ (.int .i64 lc)).setCell ⟨prB,1,none⟩ (.int .i64 lp)).setCell ⟨prB,2,none⟩ (.int .i64 pb)) dB prB fB Vb zb l l ov ov (u.props ⟨5,size,packed,lc,lp,pb⟩) #[.int .i64 5,.int .i64 size,.int .i64 packed,.int .i64 lc,.int .i64 lp,.int .i64 pb] from HB.out.propd ⟨5,size,packed,lc,lp,pb⟩ hok)
 generalize((wk.setCell ⟨prB,0,none⟩ (.int .i64 lc)).setCell ⟨prB,1,none⟩ (.int .i64 lp)).setCell ⟨prB,2,none⟩ (.int .i64 pb)=wk at*
 clear ne1 ne2 ne3 ne4
 clear d0 p0 p1 p2 pf f0 z0 z1 z2 z3 z4 z5
 have HM:=Hd (Lz.reset_calls HB.out.U.dec _ _ _ HB.out.U.prok.1 HB.out.U.prok.2)
 refine HM.out.mono ?_
 rintro e w1 ⟨rfl,hfr,l1,hn,hd⟩
 replace HB:=Hd (show B w0 w w1 dB prB fB Vb zb l l1 ov ov ((u.props ⟨5,size,packed,lc,lp,pb⟩).reset) #[.int .i64 5,.int .i64 size,.int .i64 packed,.int .i64 lc,.int .i64 lp,.int .i64 pb] from HB.out.decd hfr hn hd)
 clear hfr hn hd HM
 obtain⟨wk,rfl⟩:∃wk,wk=w1:=⟨_,rfl⟩
 have d0:=cell_in (i:=0) HB.out.U.d rfl
 obtain⟨p0,p1,p2,pf⟩:=cf3 HB.out.U.pr rfl rfl rfl
 have f0:=cell_in (i:=0) HB.out.U.f rfl
 obtain⟨z0,z1,z2,z3,z4,z5⟩:=cs6 HB.out.z rfl rfl rfl rfl rfl rfl
 go_wp2_with fail
 clear d0 p0 p1 p2 pf f0 z0 z1 z2 z3 z4 z5
 have HM:=Hd (Lz.take_calls HB.out.U.dec pv part (HRD.out _ HB.out.fr) hp size hs1 hs2 (by first|omega|(simp only[US.clear,US.props,US.reset,Lz.C.fresh,Lz.C.on,List.length_nil];omega)) HB.out.U.tabs (HF5.out _ _ _ _ HB.out.U))
 unfold Lz.TakePost at HM
 unfold US.take at HRES
 cases ht:Lz.takeAll ((u.props ⟨5,size,packed,lc,lp,pb⟩).reset).c ((u.props ⟨5,size,packed,lc,lp,pb⟩).reset).ps part size with
 |none=>
   rw[ht] at HM HRES
   simp only at HM
   refine HM.out.mono ?_
   rintro e w8 ⟨hfr,lv8,pv8,rfl⟩
   have HP:=Hd (HB.out.fail hfr)
   clear hfr
   go_wp2_with fail
   go_ret
   rw[HRES.out]
   exact⟨HP.out,rfl⟩
 |some r=>
   obtain⟨ls,outs,c2,ps2⟩:=r
   rw[ht] at HM HRES
   simp only at HM
   have hlo:=take_len ht (fun d hd=>⟨(Rc.init_ok hd hp).1,fun j hj=>Rc.setAt_ok (HB.out.U.dec.tab.set j hj),HB.out.U.dec.len⟩)
   refine HM.out.mono ?_
   rintro e w8 ⟨hfr,lv8,pv8,rfl,l8,hn,hd,hm8,hs8,ho8,ho9⟩
   have HB2:=Hd (HB.out.decd hfr hn hd)
   have HM8:=Hd hm8
   clear hfr hn hd hm8 hs8 ho8 ho9 HM HB
   have HB:=HB2
   clear HB2
   obtain⟨wk,rfl⟩:∃wk,wk=w8:=⟨_,rfl⟩
   have d0:=cell_in (i:=0) HB.out.U.d rfl
   obtain⟨p0,p1,p2,pf⟩:=cf3 HB.out.U.pr rfl rfl rfl
   have f0:=cell_in (i:=0) HB.out.U.f rfl
   obtain⟨z0,z1,z2,z3,z4,z5⟩:=cs6 HB.out.z rfl rfl rfl rfl rfl rfl
   go_wp2_with fail
   clear d0 p0 p1 p2 pf f0 z0 z1 z2 z3 z4 z5
   have HM:=Hd (decode1_calls Vb ov pv8 lv8 ⟨5,size,packed,lc,lp,pb⟩ _ outs w0 wk HB.out.U.out HB.out.U.mine HB.out.U.size HM8.out.rd (by first|(simp only[];omega)|(simp only[US.clear,US.props,US.reset,Lz.C.fresh,Lz.C.on,List.length_nil];omega)))
   refine HM.out.mono ?_
   rintro e w9 ⟨rfl,ov9,hO9,hM9,hf9,hn9⟩
   have HP:=Hd (HB.out.did hO9 hM9 hf9 hn9)
   clear hO9 hM9 hf9 hn9
   go_wp2_with fail
   go_ret
   rw[HRES.out]
   exact HP.out
set_option maxRecDepth 100000 in
theorem unpack1_k6(w0 w:World)(dB prB fB Vb:Nat)(l:Lz.L)(ov:Value)(u:US)(hU:UAt w0 w dB prB fB Vb l ov u)(h:Head)(hk:h.kind=6)(part:List UInt8)(pv:Value)(hr:Rd w pv part)(hpv:0<part.length→∀k,pv.ownBlock=some k→k<w0.heap.size)(hok:h.lc+h.lp≤4∧h.pb≤4)(hs:3≤h.kind→1≤h.size∧h.size≤2097152)
 (hp:part.length≤1099511627776)(hm:u.c.all.length+part.length+h.size≤1152921504606840000)(ho:u.out.length+part.length+h.size≤70368744177664):
 Calls Tryz.prog 93 #[.agg h.cells,pv,Lz.ptr dB,Lz.ptr prB,Lz.ptr fB] w (UPost w0 w dB prB fB Vb l ov (u.step h part)):=by
 obtain⟨res,hres⟩:∃res,res=u.step h part:=⟨_,rfl⟩
 rw[←hres]
 unfold US.step at hres
 obtain⟨kind,size,packed,lc,lp,pb⟩:=h
 simp only at hk hok hs hm ho hres
 subst hk
 simp only[Nat.reduceEqDiff,or_false,false_or,or_self,if_true,if_false,reduceIte] at hres
 have hf:=(R0 w).alloc (.cells #[.int .i64 6,.int .i64 size,.int .i64 packed,.int .i64 lc,.int .i64 lp,.int .i64 pb] 47)
 have hz:=heap_alloc_new w (.cells #[.int .i64 6,.int .i64 size,.int .i64 packed,.int .i64 lc,.int .i64 lp,.int .i64 pb] 47)
 have HB:=Hd (show B w0 w (w.alloc (.cells #[.int .i64 6,.int .i64 size,.int .i64 packed,.int .i64 lc,.int .i64 lp,.int .i64 pb] 47)) dB prB fB Vb w.heap.size l l ov ov u #[.int .i64 6,.int .i64 size,.int .i64 packed,.int .i64 lc,.int .i64 lp,.int .i64 pb] from⟨hU.keep hf,hf.mono (fun _ _ h=>h.elim),fun k h=>.inl h,fun k h=>.inl h,hz⟩)
 have HRD:=Hd (show∀wk,Fr (UG prB Vb l ov) w wk→Rd wk pv part from fun wk hfr=>rd_step1 hr hfr (fun h0 k hk hg=>by have h1:=hpv h0 k hk;have h2:=UG_low hU k hg;omega))
 have HPV:=Hd (show∀(l2:Lz.L)(wk:World)(ov2:Value)(u2:US),UAt w0 wk dB prB fB Vb l2 ov2 u2→0<part.length→∀k,pv.ownBlock=some k→¬l2.F k from fun l2 wk ov2 u2 hu h0 k hk hF=>by have h1:=hpv h0 k hk;have h2:=hu.low k hF;omega)
 have HF5:=Hd (show∀(l2:Lz.L)(wk:World)(ov2:Value)(u2:US),UAt w0 wk dB prB fB Vb l2 ov2 u2→∀k,l2.F k→6≤k from fun l2 wk ov2 u2 hu k hF=>Nat.le_trans hu.five (hu.low k hF))
 have HRES:=Hd hres
 clear hf hz hU hr hpv hres
 obtain⟨hs1,hs2⟩:=hs (by omega)
 clear hs
 show Calls Tryz.prog 93 #[.agg #[.int .i64 6,.int .i64 size,.int .i64 packed,.int .i64 lc,.int .i64 lp,.int .i64 pb],pv,Lz.ptr dB,Lz.ptr prB,Lz.ptr fB] w (UPost w0 w dB prB fB Vb l ov res)
 go_enter Tryz.func93,Tryz.ntmps93
 have d0:=cell_in (i:=0) HB.out.U.d rfl
 obtain⟨p0,p1,p2,pf⟩:=cf3 HB.out.U.pr rfl rfl rfl
 have f0:=cell_in (i:=0) HB.out.U.f rfl
 obtain⟨z0,z1,z2,z3,z4,z5⟩:=cs6 HB.out.z rfl rfl rfl rfl rfl rfl
 go_wp2_with fail
 generalize w.alloc (.cells #[.int .i64 6,.int .i64 size,.int .i64 packed,.int .i64 lc,.int .i64 lp,.int .i64 pb] 47)=wk at*
 generalize w.heap.size=zb at*
 clear d0 p0 p1 p2 pf f0 z0 z1 z2 z3 z4 z5
 have HM:=Hd (Lz.clear_calls HB.out.U.dec)
 refine HM.out.mono ?_
 rintro e w1 ⟨rfl,hfr,l1,hn,hd⟩
 replace HB:=Hd (show B w0 w w1 dB prB fB Vb zb l l1 ov ov (u.clear) #[.int .i64 6,.int .i64 size,.int .i64 packed,.int .i64 lc,.int .i64 lp,.int .i64 pb] from HB.out.decd hfr hn hd)
 clear hfr hn hd HM
 obtain⟨wk,rfl⟩:∃wk,wk=w1:=⟨_,rfl⟩
 have d0:=cell_in (i:=0) HB.out.U.d rfl
 obtain⟨p0,p1,p2,pf⟩:=cf3 HB.out.U.pr rfl rfl rfl
 have f0:=cell_in (i:=0) HB.out.U.f rfl
 obtain⟨z0,z1,z2,z3,z4,z5⟩:=cs6 HB.out.z rfl rfl rfl rfl rfl rfl
 have ne1:=HB.out.nz
 have ne2:=HB.out.nz.symm
 have ne3:=HB.out.nd
 have ne4:=HB.out.nd.symm
 go_wp2_with fail
 replace HB:=Hd (show B w0 w (((wk.setCell ⟨prB,0,none⟩ (.int .i64 lc)).setCell ⟨prB,1,none⟩ (.int .i64 lp)).setCell ⟨prB,2,none⟩ (.int .i64 pb)) dB prB fB Vb zb l l1 ov ov ((u.clear).props ⟨6,size,packed,lc,lp,pb⟩) #[.int .i64 6,.int .i64 size,.int .i64 packed,.int .i64 lc,.int .i64 lp,.int .i64 pb] from HB.out.propd ⟨6,size,packed,lc,lp,pb⟩ hok)
 generalize((wk.setCell ⟨prB,0,none⟩ (.int .i64 lc)).setCell ⟨prB,1,none⟩ (.int .i64 lp)).setCell ⟨prB,2,none⟩ (.int .i64 pb)=wk at*
 clear ne1 ne2 ne3 ne4
 clear d0 p0 p1 p2 pf f0 z0 z1 z2 z3 z4 z5
 have HM:=Hd (Lz.reset_calls HB.out.U.dec _ _ _ HB.out.U.prok.1 HB.out.U.prok.2)
 refine HM.out.mono ?_
 rintro e w2 ⟨rfl,hfr,l2,hn,hd⟩
 replace HB:=Hd (show B w0 w w2 dB prB fB Vb zb l l2 ov ov (((u.clear).props ⟨6,size,packed,lc,lp,pb⟩).reset) #[.int .i64 6,.int .i64 size,.int .i64 packed,.int .i64 lc,.int .i64 lp,.int .i64 pb] from HB.out.decd hfr hn hd)
 clear hfr hn hd HM
 obtain⟨wk,rfl⟩:∃wk,wk=w2:=⟨_,rfl⟩
 have d0:=cell_in (i:=0) HB.out.U.d rfl
 obtain⟨p0,p1,p2,pf⟩:=cf3 HB.out.U.pr rfl rfl rfl
 have f0:=cell_in (i:=0) HB.out.U.f rfl
 obtain⟨z0,z1,z2,z3,z4,z5⟩:=cs6 HB.out.z rfl rfl rfl rfl rfl rfl
 go_wp2_with fail
 clear d0 p0 p1 p2 pf f0 z0 z1 z2 z3 z4 z5
 have HM:=Hd (Lz.take_calls HB.out.U.dec pv part (HRD.out _ HB.out.fr) hp size hs1 hs2 (by first|omega|(simp only[US.clear,US.props,US.reset,Lz.C.fresh,Lz.C.on,List.length_nil];omega)) HB.out.U.tabs (HF5.out _ _ _ _ HB.out.U))
 unfold Lz.TakePost at HM
 unfold US.take at HRES
 cases ht:Lz.takeAll (((u.clear).props ⟨6,size,packed,lc,lp,pb⟩).reset).c (((u.clear).props ⟨6,size,packed,lc,lp,pb⟩).reset).ps part size with
 |none=>
   rw[ht] at HM HRES
   simp only at HM
   refine HM.out.mono ?_
   rintro e w8 ⟨hfr,lv8,pv8,rfl⟩
   have HP:=Hd (HB.out.fail hfr)
   clear hfr
   go_wp2_with fail
   go_ret
   rw[HRES.out]
   exact⟨HP.out,rfl⟩
 |some r=>
   obtain⟨ls,outs,c2,ps2⟩:=r
   rw[ht] at HM HRES
   simp only at HM
   have hlo:=take_len ht (fun d hd=>⟨(Rc.init_ok hd hp).1,fun j hj=>Rc.setAt_ok (HB.out.U.dec.tab.set j hj),HB.out.U.dec.len⟩)
   refine HM.out.mono ?_
   rintro e w8 ⟨hfr,lv8,pv8,rfl,l8,hn,hd,hm8,hs8,ho8,ho9⟩
   have HB2:=Hd (HB.out.decd hfr hn hd)
   have HM8:=Hd hm8
   clear hfr hn hd hm8 hs8 ho8 ho9 HM HB
   have HB:=HB2
   clear HB2
   obtain⟨wk,rfl⟩:∃wk,wk=w8:=⟨_,rfl⟩
   have d0:=cell_in (i:=0) HB.out.U.d rfl
   obtain⟨p0,p1,p2,pf⟩:=cf3 HB.out.U.pr rfl rfl rfl
   have f0:=cell_in (i:=0) HB.out.U.f rfl
   obtain⟨z0,z1,z2,z3,z4,z5⟩:=cs6 HB.out.z rfl rfl rfl rfl rfl rfl
   go_wp2_with fail
   clear d0 p0 p1 p2 pf f0 z0 z1 z2 z3 z4 z5
   have HM:=Hd (decode1_calls Vb ov pv8 lv8 ⟨6,size,packed,lc,lp,pb⟩ _ outs w0 wk HB.out.U.out HB.out.U.mine HB.out.U.size HM8.out.rd (by first|(simp only[];omega)|(simp only[US.clear,US.props,US.reset,Lz.C.fresh,Lz.C.on,List.length_nil];omega)))
   refine HM.out.mono ?_
   rintro e w9 ⟨rfl,ov9,hO9,hM9,hf9,hn9⟩
   have HP:=Hd (HB.out.did hO9 hM9 hf9 hn9)
   clear hO9 hM9 hf9 hn9
   go_wp2_with fail
   go_ret
   rw[HRES.out]
   exact HP.out
end Ck
end Go.Proofs.YtffoddpjfgjelaaGreatDoor
