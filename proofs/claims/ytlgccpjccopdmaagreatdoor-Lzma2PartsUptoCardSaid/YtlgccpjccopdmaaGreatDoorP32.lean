/- Part 32 of 55: lemmas of the last part, each under the conditions that it names. -/
import Derived.Test.YtlgccpjccopdmaaGreatDoorP27
import Derived.Test.YtlgccpjccopdmaaGreatDoorP29
import Derived.Test.YtlgccpjccopdmaaGreatDoorP31
set_option linter.unusedVariables false
set_option linter.unusedSimpArgs false
set_option maxRecDepth 1500
set_option maxHeartbeats 400000
namespace Go.Proofs.YtlgccpjccopdmaaGreatDoor
open Go.RowKit
namespace Cs
open Mem Wire Win Ck Ga
def OutAt(w:World)(Vb:Nat)(v:Value):Prop:=w.heap[Vb]? =some (.cells #[v] 57 (0,0))
structure RowsB(w0 w:World)(v:Value)(rs:List (List St.Sy))(hi:Nat):Prop where
 ex:∃vs:List Value,Own 63 1 w0 w v rs.length vs∧vs.length=rs.length∧(∀(i:Nat)(x:Value)(l:List St.Sy),vs[i]? =some x→rs[i]? =some l→Lz.Syms w0 w x l)∧(∀(i j:Nat)(x y:Value)(k:Nat),i<j→vs[i]? =some x→vs[j]? =some y→x.ownBlock=some k→y.ownBlock≠some k)∧∀(i:Nat)(x:Value)(k:Nat),vs[i]? =some x→x.ownBlock=some k→k<hi
theorem RowsB.step{S:Nat→Prop}{w0 w w':World}{v:Value}{rs:List (List St.Sy)}{hi:Nat}(h:RowsB w0 w v rs hi)(hfr:Fr S w w')(hS:∀k cs t fr,w.heap[k]? =some (.cells cs t fr)→(t=63∧v.ownBlock=some k∨t=96)→¬S k):RowsB w0 w' v rs hi:=by
 obtain⟨vs,h1,h2,h3,h4,h5⟩:=h.ex
 refine⟨vs,h1.step hfr (fun k hk=> ?_),h2,fun i x l hx hl=>(h3 i x l hx hl).step hfr (fun k hk=> ?_),h4,h5⟩
 ·obtain⟨cur,hc⟩:=h1.block hk
  exact hS k _ _ _ hc (.inl ⟨rfl,hk⟩)
 ·obtain⟨cur,hc⟩:=(Own.of_syms (h3 i x l hx hl)).block hk
  exact hS k _ _ _ hc (.inr rfl)
theorem RowsB.toRows{w0 w:World}{v:Value}{rs:List (List St.Sy)}{hi:Nat}(h:RowsB w0 w v rs hi):RowsY w0 w v rs:=by
 obtain⟨vs,h1,h2,h3,h4,h5⟩:=h.ex
 exact⟨vs,h1,h2,h3,h4⟩
theorem _root_.Go.Proofs.YtlgccpjccopdmaaGreatDoor.Ga.RowsY.toB{w0 w:World}{v:Value}{rs:List (List St.Sy)}(h:RowsY w0 w v rs):RowsB w0 w v rs w.heap.size:=by
 obtain⟨vs,h1,h2,h3,h4⟩:=h.ex
 refine⟨vs,h1,h2,h3,h4,fun i x k hx hk=> ?_⟩
 have hi:i<rs.length:=h2 ▸ (List.getElem?_eq_some_iff.1 hx).1
 exact(Own.of_syms (h3 i x rs[i] hx (by simp[hi]))).lt k hk
theorem syms_nil(w0 w:World):Lz.Syms w0 w (.slice none 0 0) []:=⟨World.ownsRow_nil _ _ _ _,fun k hk=>by simp[Value.ownBlock] at hk⟩
theorem sym1_calls(Vb:Nat)(ov pv lv:Value)(h:Head)(out:List (List St.Sy))(ls:List St.Sy)(w0 w:World){hi:Nat}(hV:OutAt w Vb ov)(hM:RowsB w0 w ov out hi)(hlo:∀k,lv.ownBlock=some k→hi≤k)(h0:w0.heap.size≤w.heap.size)(hl:Lz.Syms w0 w lv ls)(hb:out.length≤1099511627776):
    Calls Tryz.prog 57 #[.agg h.cells,lv,pv,Lz.ptr Vb] w fun e w'=>e=.returned (.tuple #[])∧∃ov',OutAt w' Vb ov'∧RowsY w0 w' ov' (out++if h.kind=0 then[] else[ls])∧Fr (fun k=>k=Vb∨ov.ownBlock=some k) w w'∧(∀k,ov'.ownBlock=some k→ov.ownBlock=some k∨w.heap.size≤k):=by
  obtain⟨pl,capl,rfl⟩:=(Own.of_syms hl).slice
  have hf:=(Fr.refl (fun _=>False) w).alloc (.cells h.cells 47)
  have hx:=heap_alloc_new w (.cells h.cells 47)
  have hV1:=hf.keep hV (fun h=>h)
  have c0:=cell_in (i:=0) hV1 rfl
  have cf:=fun i=>frozen_in hV1 i
  have x0:(w.alloc (.cells h.cells 47)).cell? ⟨w.heap.size,0,none⟩=some (.int .i64 h.kind):=cell_in hx rfl
  have hoff:∀k,ov.ownBlock=some k→k≠Vb:=by
    intro k hk e
    obtain⟨cur,hc⟩:=hM.toRows.block hk
    rw[e,hV] at hc
    simp at hc
  have HV1:=Hd hV1
  have HM:=Hd (hM.step hf (fun _ _ _ _ _ _ h=>h))
  have HL:=Hd (hl.step hf (fun _ _ h=>h))
  have HF:=Hd hf
  have HOFF:=Hd hoff
  have HLO:=Hd hlo
  obtain⟨ph,capv,hov⟩:=hM.toRows.slice
  have HOV:=Hd hov
  clear hV hM hf hV1 hoff hlo hl hov hx
  by_cases hk:h.kind=0
  · rw[if_pos hk,List.append_nil]
    rw[hk] at x0
    unfold Head.cells at*
    clear hk
    go_enter Tryz.func57,Tryz.ntmps57
    go_wp2_with fail
    go_end0
    exact⟨rfl,ov,HV1.out,HM.out.toRows,HF.out.mono (fun _ _ h=>h.elim),fun k hk=>.inl hk⟩
  · rw[if_neg hk]
    unfold Head.cells at*
    have hk1:((h.kind:Int)==0)=false:=by simp[hk]
    have hk2:((h.kind:Int) !=0)=true:=by simp[hk]
    obtain⟨vs,g1,g2,g3,g4,g5⟩:=HM.out.ex
    obtain⟨w1,hW1⟩:∃w1,w1=w.alloc (.cells #[.int .i64 h.kind,.int .i64 h.size,.int .i64 h.packed,.int .i64 h.lc,.int .i64 h.lp,.int .i64 h.pb] 47):=⟨_,rfl⟩
    rw[←hW1] at HV1 HM HL HF
    have hf2:=(Fr.refl (fun _=>False) w1).alloc (.cells #[.slice pl ls.length capl] 63)
    have hx2:=heap_alloc_new w1 (.cells #[.slice pl ls.length capl] 63)
    have hx2:(w1.alloc (.cells #[.slice pl ls.length capl] 63)).heap[w.heap.size+1]? =some (.cells #[.slice pl ls.length capl] 63 (0,0)):=by rw[show w.heap.size+1=w1.heap.size by rw[hW1,World.size_alloc]];exact hx2
    have HX2:=Hd hx2
    have HV2:=Hd (hf2.keep HV1.out (fun h=>h))
    have HF2:=Hd (HF.out.trans hf2)
    have HM2:=Hd (HM.out.step hf2 (fun _ _ _ _ _ _ h=>h))
    have HL2:=Hd (HL.out.step hf2 (fun _ _ h=>h))
    have HG:=Hd (And.intro g1 (And.intro g2 (And.intro g3 (And.intro g4 g5))))
    clear hk g1 g2 g3 g4 g5 hf2 hx2
    obtain⟨vs,g1,g2,g3,g4,g5⟩:=HM2.out.ex
    have HG2:=Hd (And.intro g1 (And.intro g2 (And.intro g3 (And.intro g4 g5))))
    clear g1 g2 g3 g4 g5 HG
    have hone:∀u ∈ (#[.slice pl ls.length capl]:Array Value).toList,u.oneCell'=true:=by
      intro u hu
      simp only[List.mem_cons,List.not_mem_nil,or_false] at hu
      rw[hu]
      rfl
    have HONE:=Hd hone
    clear hone
    subst hW1
    go_enter Tryz.func57,Tryz.ntmps57
    go_wp2_with (at_builtin
                 go_loud (refine append_own rfl _ _ rfl Tryz.underlying57 infoRow rfl (by decide) (by decide) (w0:=w0) ov vs _ _ rfl rfl HG2.out.1 (Nat.le_trans h0 HF2.out.size) HX2.out rfl HONE.out hb ?_)
                 intro v5 w5 hO5 hfr5 hnew5
                 obtain⟨p5,cap5,rfl⟩:=hO5.slice
                 have hV5:=hfr5.keep HV2.out (fun(e:ov.ownBlock=some Vb)=>HG2.out.1.off HV2.out (by decide) e)
                 have d0:=cell_in (i:=0) hV5 rfl
                 have df:=fun i=>frozen_in hV5 i
                 have HV5:=Hd hV5
                 have HO5:=Hd hO5
                 have HF5:=Hd hfr5
                 have HN5:=Hd hnew5
                 clear hO5 hfr5 hnew5 hV5)
    go_end0
    have f6:=Fr.one w5 Vb 0 (.slice p5 (out.length+1) cap5)
    obtain⟨g1,g2,g3,g4,g5⟩:=HG2.out
    have hR:=RowsY.snoc g1 g2 g3 g4 HL2.out (fun i y k hy hk he=>by
      have h1:=g5 i y k hy hk
      have h2:=HLO.out k he
      omega) HO5.out HF5.out
    refine⟨rfl,.slice p5 (out.length+1) cap5,set_in HV5.out 0 _,hR.step f6 (fun k cs t fr hk ht(e:k=Vb)=> ?_),((Lz.lift HF2.out).trans (HF5.out.mono (fun _ _ h=>.inr h))).trans (f6.mono (fun _ _ h=>.inl h)),fun k hk=> ?_⟩
    · have h1:=HV5.out
      rw[e,h1] at hk
      simp only[Option.some.injEq,Obj.cells.injEq] at hk
      rcases ht with⟨rfl,_⟩|rfl
      · exact absurd hk.2.1 (by decide)
      · exact absurd hk.2.1 (by decide)
    · have:=HF2.out.size
      exact(HN5.out k hk).imp id (fun h=>Nat.le_trans this h)
end Cs
namespace Cs
open Mem Wire Win Ck Ga
structure US where
 c:Lz.C
 ps:Nat→List Nat
 pr:Nat×Nat×Nat
 out:List (List St.Sy)
def US.clear(u:US):US:={u with c:={u.c.fresh u.c.lc u.c.lp u.c.pb with all:=[]},ps:=Lz.fresh u.c.lc u.c.lp}
def US.props(u:US)(h:Head):US:={u with pr:=(h.lc,h.lp,h.pb)}
def US.reset(u:US):US:={u with c:=u.c.fresh u.pr.1 u.pr.2.1 u.pr.2.2,ps:=Lz.fresh u.pr.1 u.pr.2.1}
def US.raw(u:US)(h:Head)(part:List UInt8):US:={u with c:=u.c.on part,out:=u.out++(if h.kind=0 then[] else[[]])}
def US.take(u:US)(part:List UInt8)(n:Nat):Option US:=(Lz.takeAll u.c u.ps part n).map fun r=>{u with c:=r.2.2.1,ps:=r.2.2.2,out:=u.out++[r.1]}
def US.step(u:US)(h:Head)(part:List UInt8):Option US:=
 if h.kind=0∨h.kind=2 then some (u.raw h part)
 else if h.kind=1 then some (u.clear.raw h part)
 else if h.kind=3 then u.take part h.size
 else if h.kind=4 then u.reset.take part h.size
 else if h.kind=5 then((u.props h).reset).take part h.size
 else((u.clear.props h).reset).take part h.size
structure UAt(w0 w:World)(dB prB fB Vb:Nat)(l:Lz.L)(ov:Value)(u:US):Prop where
 d:w.heap[dB]? =some (.cells #[Lz.ptr l.D] 163 (0,0))
 pr:w.heap[prB]? =some (.cells #[.int .i64 u.pr.1,.int .i64 u.pr.2.1,.int .i64 u.pr.2.2] 24 (0,0))
 f:w.heap[fB]? =some (.cells #[.func (.func 57) #[] #[Lz.ptr Vb]] 104 (0,0))
 dec:Lz.Dec w l u.c u.ps false
 out:OutAt w Vb ov
 mine:RowsY w0 w ov u.out
 tabs:St.Tabs w
 low:∀k,l.F k→w0.heap.size≤k
 five:5≤w0.heap.size
 lows:w0.heap.size≤dB∧w0.heap.size≤prB∧w0.heap.size≤fB∧w0.heap.size≤Vb
 ofs:∀k,ov.ownBlock=some k→¬l.F k
 prok:u.pr.1+u.pr.2.1≤4∧u.pr.2.2≤4
 size:w0.heap.size≤w.heap.size
theorem rows_F{w:World}{l:Lz.L}{c:Lz.C}{ps:Nat→List Nat}{sp:Bool}(h:Lz.Dec w l c ps sp){v:Value}(ho:∀k,v.ownBlock=some k→¬l.F k):∀k cs t fr,w.heap[k]? =some (.cells cs t fr)→(t=63∧v.ownBlock=some k∨t=96)→¬l.F k:=by
 rintro k cs t fr hk (⟨_,h1⟩|rfl)
 ·exact ho k h1
 ·exact dec_off h hk (by decide) (by decide)
theorem UAt.keep{w0 w w':World}{dB prB fB Vb:Nat}{l:Lz.L}{ov:Value}{u:US}(h:UAt w0 w dB prB fB Vb l ov u)(hfr:Fr (fun _=>False) w w'):UAt w0 w' dB prB fB Vb l ov u:=
 ⟨hfr.keep h.d (fun h=>h),hfr.keep h.pr (fun h=>h),hfr.keep h.f (fun h=>h),h.dec.keep0 hfr,hfr.keep h.out (fun h=>h),h.mine.keep hfr,h.tabs.keep hfr,h.low,h.five,h.lows,h.ofs,h.prok,Nat.le_trans h.size hfr.size⟩
theorem UAt.decd{w0 w w':World}{dB prB fB Vb:Nat}{l l':Lz.L}{ov:Value}{u:US}{c2:Lz.C}{ps2:Nat→List Nat}(h:UAt w0 w dB prB fB Vb l ov u)(hfr:Fr l.F w w')(hn:Lz.Nx w l l')(hd:Lz.Dec w' l' c2 ps2 false):UAt w0 w' dB prB fB Vb l' ov {u with c:=c2,ps:=ps2}:=by
 have hs:=h.size
 refine⟨by rw[hn.D];exact hfr.keep h.d (dec_off h.dec h.d (by decide) (by decide)),hfr.keep h.pr (dec_off h.dec h.pr (by decide) (by decide)),hfr.keep h.f (dec_off h.dec h.f (by decide) (by decide)),hd,hfr.keep h.out (dec_off h.dec h.out (by decide) (by decide)),h.mine.step hfr (rows_F h.dec h.ofs),h.tabs.step hfr (fun k hk=>Nat.le_trans h.five (h.low k hk)),fun k hk=> ?_,h.five,h.lows,fun k hk hF=> ?_,h.prok,Nat.le_trans hs hfr.size⟩
 ·rcases hn.F k hk with h1|h1
  ·exact h.low k h1
  ·omega
 ·rcases hn.F k hF with h1|h1
  ·exact h.ofs k hk h1
  ·have:=h.mine.lt k hk
   omega
theorem UAt.propd{w0 w:World}{dB prB fB Vb:Nat}{l:Lz.L}{ov:Value}{u:US}(h:UAt w0 w dB prB fB Vb l ov u)(hd:Head)(hok:hd.lc+hd.lp≤4∧hd.pb≤4):UAt w0 (((w.setCell ⟨prB,0,none⟩ (.int .i64 hd.lc)).setCell ⟨prB,1,none⟩ (.int .i64 hd.lp)).setCell ⟨prB,2,none⟩ (.int .i64 hd.pb)) dB prB fB Vb l ov (u.props hd):=by
 have hfr:Fr (fun k=>k=prB) w (((w.setCell ⟨prB,0,none⟩ (.int .i64 hd.lc)).setCell ⟨prB,1,none⟩ (.int .i64 hd.lp)).setCell ⟨prB,2,none⟩ (.int .i64 hd.pb)):=((Fr.one _ _ _ _).trans (Fr.one _ _ _ _)).trans (Fr.one _ _ _ _)
 have hne:∀{k:Nat}{cs:Array Value}{t:TypeId}{fr:Nat×Nat},w.heap[k]? =some (.cells cs t fr)→t≠24→¬k=prB:=by
  intro k cs t fr hk h1 e
  rw[e,h.pr] at hk
  simp only[Option.some.injEq,Obj.cells.injEq] at hk
  exact h1 hk.2.1.symm
 have hpr:=set_in (set_in (set_in h.pr 0 (.int .i64 hd.lc)) 1 (.int .i64 hd.lp)) 2 (.int .i64 hd.pb)
 refine⟨hfr.keep h.d (hne h.d (by decide)),hpr,hfr.keep h.f (hne h.f (by decide)),h.dec.keep hfr (fun k hk(e:k=prB)=>dec_off h.dec h.pr (by decide) (by decide) (e ▸ hk)),hfr.keep h.out (hne h.out (by decide)),h.mine.step hfr (fun k cs t fr hk ht=>hne hk (by rcases ht with⟨rfl,_⟩|rfl<;>decide)),h.tabs.step hfr (fun k(e:k=prB)=>by have:=h.five;have:=h.lows;omega),h.low,h.five,h.lows,h.ofs,hok,Nat.le_trans h.size hfr.size⟩
theorem UAt.did{w0 w w':World}{dB prB fB Vb:Nat}{l:Lz.L}{ov ov2:Value}{u:US}{out2:List (List St.Sy)}(h:UAt w0 w dB prB fB Vb l ov u)(hO:OutAt w' Vb ov2)(hM:RowsY w0 w' ov2 out2)(hfr:Fr (fun k=>k=Vb∨ov.ownBlock=some k) w w')(hn:∀k,ov2.ownBlock=some k→ov.ownBlock=some k∨w.heap.size≤k):UAt w0 w' dB prB fB Vb l ov2 {u with out:=out2}:=by
 have hs:=h.size
 have hne:∀{k:Nat}{cs:Array Value}{t:TypeId}{fr:Nat×Nat},w.heap[k]? =some (.cells cs t fr)→t≠57→t≠63→¬(k=Vb∨ov.ownBlock=some k):=by
  intro k cs t fr hk h1 h2 h3
  rcases h3 with h3|h3
  ·have h4:=h.out
   unfold OutAt at h4
   rw[h3,h4] at hk
   simp only[Option.some.injEq,Obj.cells.injEq] at hk
   exact h1 hk.2.1.symm
  ·obtain⟨cur,hc⟩:=h.mine.block h3
   rw[hc] at hk
   simp only[Option.some.injEq,Obj.cells.injEq] at hk
   exact h2 hk.2.1.symm
 refine⟨hfr.keep h.d (hne h.d (by decide) (by decide)),hfr.keep h.pr (hne h.pr (by decide) (by decide)),hfr.keep h.f (hne h.f (by decide) (by decide)),h.dec.keep hfr (fun k hk h3=> ?_),hO,hM,h.tabs.step hfr (fun k h3=> ?_),h.low,h.five,h.lows,fun k hk hF=> ?_,h.prok,Nat.le_trans hs hfr.size⟩
 ·rcases h3 with h3|h3
  ·exact dec_off h.dec h.out (by decide) (by decide) (h3 ▸ hk)
  ·exact h.ofs k h3 hk
 ·have:=h.five
  have:=h.lows
  rcases h3 with h3|h3
  ·omega
  ·have:=h.mine.new k h3
   omega
 ·rcases hn k hk with h1|h1
  ·exact h.ofs k h1 hF
  ·have:=h.dec.old k hF
   omega
end Cs
end Go.Proofs.YtlgccpjccopdmaaGreatDoor
