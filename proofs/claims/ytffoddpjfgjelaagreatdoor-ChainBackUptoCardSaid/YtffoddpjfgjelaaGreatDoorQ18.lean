/- Part 18 of 48: lemmas of the last part, each under the conditions that it names. -/
import Derived.Test.YtffoddpjfgjelaaGreatDoorQ07
import Derived.Test.YtffoddpjfgjelaaGreatDoorQ17
set_option linter.unusedVariables false
set_option linter.unusedSimpArgs false
set_option maxRecDepth 1500
set_option maxHeartbeats 4000000
namespace Go.Proofs.YtffoddpjfgjelaaGreatDoor
open Go.RowKit
namespace Lz
open Mem Rc St Win
def TakePost(l:L)(c:C)(ps:Nat→List Nat)(xs:List UInt8)(n:Nat)(w:World)(e:Ending)(w':World):Prop:=
 Fr l.F w w'∧match takeAll c ps xs n with
  |none=>∃lv pv,e=.returned (.tuple #[lv,pv,.int .i64 2])
  |some (ls,outs,c2,ps2)=>∃lv pv,e=.returned (.tuple #[lv,pv,.int .i64 0])∧∃l',Nx w l l'∧Dec w' l' c2 ps2 false∧Mine w w' pv outs∧Syms w w' lv ls∧(∀k,pv.ownBlock=some k→¬l'.F k)∧(∀k,lv.ownBlock=some k→¬l'.F k)
theorem take_calls{l:L}{c:C}{ps:Nat→List Nat}{w:World}(h:Dec w l c ps false)(v:Value)(xs:List UInt8)(hr:Rd w v xs)(hxl:xs.length≤1099511627776)(n:Nat)(hn1:1≤n)(hn:n≤2097152)(hm:c.all.length+n≤1152921504606840000)(hT:Tabs w)(hF:∀k,l.F k→6≤k):
 Calls Tryz.prog 97 #[ptr l.D,v,.int .i64 n] w (TakePost l c ps xs n w):=by
 have HAC:=Hd (all_calls h v xs hr hxl n hn hm hT hF)
 have hd:w.cell? ⟨l.D,2,none⟩=some (.bool false):=cell_in h.d rfl
 have HD:=Hd h.d
 clear h hr hT hF
 unfold AllPost at HAC
 unfold TakePost
 cases ht:takeAll c ps xs n with
 |none=>
   rw[ht] at HAC
   simp only at HAC
   clear ht
   go_enter Tryz.func97,Tryz.ntmps97
   go_wp2_with fail
   refine HAC.out.mono ?_
   rintro e w1 ⟨lv,pv,ok,rfl,hfr,hdd,rfl⟩
   rw[HD.out] at hdd
   have z0:w1.cell? ⟨l.D,2,none⟩=some (.bool false):=cell_in hdd rfl
   have zf:=frozen_in hdd 2
   have HF:=Hd hfr
   clear hfr hdd
   go_wp2_with fail
   go_ret3
   exact⟨Fr.setCell HF.out (.inl (.inl rfl)) _,_,_,rfl⟩
 |some r=>
   obtain⟨ls,outs,c2,ps2⟩:=r
   rw[ht] at HAC
   simp only at HAC
   clear ht
   go_enter Tryz.func97,Tryz.ntmps97
   go_wp2_with fail
   refine HAC.out.mono ?_
   rintro e w1 ⟨lv,pv,ok,rfl,hfr,hdd,rfl,hrest⟩
   have HF:=Hd hfr
   have HR:=Hd hrest
   clear hfr hdd hrest
   go_wp2_with fail
   go_ret3
   exact⟨HF.out,_,_,rfl,HR.out⟩
end Lz
namespace Ck
open Mem Wire
def rowV(bv:Value)(at' plain:Nat)(packed size:Int)(Ob:Nat):Array Value:=#[bv,.int .i64 at',.int .i64 plain,.int .i64 packed,.int .i64 size,.pointer (some ⟨Ob,0,none⟩)]
def RowAt(w:World)(Rb:Nat)(bv:Value)(at' plain:Nat)(packed size:Int)(Ob:Nat):Prop:=w.heap[Rb]? =some (.cells (rowV bv at' plain packed size Ob) 194 (0,0))
def ends(packed size:Int)(at' plain:Nat):Bool:=decide ((packed<0∨packed=(at':Int)+1)∧(size<0∨size=(plain:Int)))
set_option maxRecDepth 100000 in
theorem ends_calls(Rb Ob at' plain:Nat)(bv:Value)(packed size:Int)(w:World)(h:RowAt w Rb bv at' plain packed size Ob)(ha:at'≤1099511627776)(q:Bool)(hq:ends packed size at' plain=q):
 Calls Tryz.prog 163 #[.pointer (some ⟨Rb,0,none⟩)] w fun e w'=>e=.returned (.bool q)∧∃m,w'=w.drewN m:=by
 have c1:w.cell? ⟨Rb,1,none⟩=some (.int .i64 at'):=cell_in h rfl
 have c2:w.cell? ⟨Rb,2,none⟩=some (.int .i64 plain):=cell_in h rfl
 have c3:w.cell? ⟨Rb,3,none⟩=some (.int .i64 packed):=cell_in h rfl
 have c4:w.cell? ⟨Rb,4,none⟩=some (.int .i64 size):=cell_in h rfl
 clear h
 unfold ends at hq
 obtain⟨a1,ha1⟩:∃a1:Int,a1=(at':Int)+1:=⟨_,rfl⟩
 have hw:IntKind.i64.wrap ((at':Int)+1)=a1:=by rw[IntWalk.i64_in _ (by omega)];exact ha1.symm
 have hw2:(at':Int)+1=a1:=ha1.symm
 rw[←ha1] at hq
 have HQ:=Hd hq
 clear hq ha1
 by_cases h1:packed<0
 ·have e1:decide (packed<0)=true:=by simp[h1]
  have H1:=Hd h1
  clear h1
  by_cases h2:size<0
  ·have e2:decide (size<0)=true:=by simp[h2]
   have H2:=Hd h2
   clear h2
   go_enter Tryz.func163,Tryz.ntmps163
   go_wp2_with fail
   go_quiet (fail)
   go_wp2_with fail
   go_ret
   exact⟨ret_bool (by rw[←HQ.out];simp[H1.out,H2.out]),_,rfl⟩
  ·have e2:decide (size<0)=false:=by simp;omega
   have H2:=Hd h2
   clear h2
   by_cases h3:size=plain
   ·have e3:(size==(plain:Int))=true:=by simp[h3]
    have H3:=Hd h3
    clear h3
    go_enter Tryz.func163,Tryz.ntmps163
    go_wp2_with fail
    go_quiet (fail)
    go_wp2_with fail
    go_ret
    exact⟨ret_bool (by rw[←HQ.out];simp[H1.out,H2.out,H3.out]),_,rfl⟩
   ·have e3:(size==(plain:Int))=false:=by simp[h3]
    have H3:=Hd h3
    clear h3
    go_enter Tryz.func163,Tryz.ntmps163
    go_wp2_with fail
    go_quiet (fail)
    go_wp2_with fail
    go_ret
    exact⟨ret_bool (by rw[←HQ.out];simp[H1.out,H2.out,H3.out]),_,rfl⟩
 ·have e1:decide (packed<0)=false:=by simp;omega
  have H1:=Hd h1
  clear h1
  by_cases h4:packed=a1
  ·have e4:(packed==a1)=true:=by simp[h4]
   have H4:=Hd h4
   clear h4
   by_cases h2:size<0
   ·have e2:decide (size<0)=true:=by simp[h2]
    have H2:=Hd h2
    clear h2
    go_enter Tryz.func163,Tryz.ntmps163
    go_wp2_with fail
    go_quiet (fail)
    go_wp2_with fail
    go_ret
    exact⟨ret_bool (by rw[←HQ.out];simp[H1.out,H4.out,H2.out]),_,rfl⟩
   ·have e2:decide (size<0)=false:=by simp;omega
    have H2:=Hd h2
    clear h2
    by_cases h3:size=plain
    ·have e3:(size==(plain:Int))=true:=by simp[h3]
     have H3:=Hd h3
     clear h3
     go_enter Tryz.func163,Tryz.ntmps163
     go_wp2_with fail
     go_quiet (fail)
     go_wp2_with fail
     go_ret
     exact⟨ret_bool (by rw[←HQ.out];simp[H1.out,H4.out,H2.out,H3.out]),_,rfl⟩
    ·have e3:(size==(plain:Int))=false:=by simp[h3]
     have H3:=Hd h3
     clear h3
     go_enter Tryz.func163,Tryz.ntmps163
     go_wp2_with fail
     go_quiet (fail)
     go_wp2_with fail
     go_ret
     exact⟨ret_bool (by rw[←HQ.out];simp[H1.out,H4.out,H2.out,H3.out]),_,rfl⟩
  ·have e4:(packed==a1)=false:=by simp[h4]
   have H4:=Hd h4
   clear h4
   go_enter Tryz.func163,Tryz.ntmps163
   go_wp2_with fail
   go_quiet (fail)
   go_wp2_with fail
   go_ret
   exact⟨ret_bool (by rw[←HQ.out];simp[H4.out];intro h;have:=H1.out;omega),_,rfl⟩
structure Sr where
 at':Nat
 plain:Nat
 now:Nat
def nextP(b:List UInt8)(packed size:Int)(s:Sr):Except (Nat×Nat) (Head×List UInt8×Nat×Sr):=
 if beyond packed (s.at'+1) then .error (s.at',2)
 else if s.at'=b.length then .error (s.at',1)
 else match kindOf (b.getD s.at' 0).toNat with
  |none=>.error (s.at',2)
  |some k=>
    if move s.now k=4 then .error (s.at',2)
    else if k=0∧ends packed size s.at' s.plain=false then .error (s.at',2)
    else if(get ((b.drop s.at').take 6)).2.2≠0 then .error (s.at',(get ((b.drop s.at').take 6)).2.2)
    else if beyond packed (s.at'+(get ((b.drop s.at').take 6)).2.1+(get ((b.drop s.at').take 6)).1.packed)=true∨beyond size (s.plain+(get ((b.drop s.at').take 6)).1.size)=true then .error (s.at',2)
    else if b.length-(s.at'+(get ((b.drop s.at').take 6)).2.1)<(get ((b.drop s.at').take 6)).1.packed then .error (s.at'+(get ((b.drop s.at').take 6)).2.1,1)
    else .ok ((get ((b.drop s.at').take 6)).1,(b.drop (s.at'+(get ((b.drop s.at').take 6)).2.1)).take (get ((b.drop s.at').take 6)).1.packed,s.at'+(get ((b.drop s.at').take 6)).2.1,
     ⟨s.at'+(get ((b.drop s.at').take 6)).2.1+(get ((b.drop s.at').take 6)).1.packed,s.plain+(get ((b.drop s.at').take 6)).1.size,move s.now k⟩)
theorem kindOf_lt{x k:Nat}(hx:x<256)(h:kindOf x=some k):k<7:=by
 unfold kindOf at h
 split at h
 ·have:=Option.some.inj h
  omega
 ·split at h
  ·cases h
  ·have:=Option.some.inj h
   omega
theorem get_le_len(xs:List UInt8)(h:(get xs).2.2=0):(get xs).2.1≤xs.length:=by
 unfold get at*
 simp only at*
 by_cases h0:xs.length=0
 ·rw[if_pos h0] at h
  simp at h
 rw[if_neg h0] at h ⊢
 by_cases h1:(xs.getD 0 0).toNat=0
 ·rw[if_pos h1]
  simp only
  omega
 rw[if_neg h1] at h ⊢
 by_cases h2:(xs.getD 0 0).toNat≤2
 ·rw[if_pos h2] at h ⊢
  by_cases h3:xs.length<3
  ·rw[if_pos h3] at h
   simp at h
  ·rw[if_neg h3]
   simp only
   omega
 rw[if_neg h2] at h ⊢
 by_cases h3:(xs.getD 0 0).toNat<128
 ·rw[if_pos h3] at h
  simp at h
 rw[if_neg h3] at h ⊢
 by_cases h4:xs.length<5
 ·rw[if_pos h4] at h
  simp at h
 rw[if_neg h4] at h ⊢
 by_cases h5:((xs.getD 0 0).toNat-128)/32<2
 ·rw[if_pos h5]
  simp only
  omega
 rw[if_neg h5] at h ⊢
 by_cases h6:xs.length<6
 ·rw[if_pos h6] at h
  simp at h
 rw[if_neg h6] at h ⊢
 by_cases h7:St.bytePropsOk (xs.getD 5 0).toNat=true
 ·rw[if_pos h7]
  simp only
  omega
 ·rw[if_neg h7] at h
  simp at h
theorem get_small(xs:List UInt8):(get xs).1.size≤2097152∧(get xs).1.packed≤65536∧(get xs).1.kind≤6∧(get xs).2.2≤2∧(get xs).1.lc+(get xs).1.lp≤4∧(get xs).1.pb≤4:=by
 have hb1:=beV2_lt (xs.drop 1)
 have hb3:=beV2_lt (xs.drop 3)
 have hx:=UInt8.toNat_lt (xs.getD 0 0)
 have hm:(xs.getD 0 0).toNat%32<32:=Nat.mod_lt _ (by omega)
 unfold get Head.none
 simp only
 generalize beV (xs.drop 1) 2=n1 at*
 generalize beV (xs.drop 3) 2=n3 at*
 split
 ·simp
 ·split
  ·simp
  ·split
   ·split
    ·simp
    ·simp only;omega
   ·split
    ·simp
    ·split
     ·simp
     ·split
      ·simp only;omega
      ·split
       ·simp
       ·split
        ·rename_i h
         unfold St.bytePropsOk at h
         have h:=of_decide_eq_true h
         simp only
         omega
        ·simp
end Ck
namespace Ck
open Mem Wire Win
def OutAt(w:World)(Vb:Nat)(v:Value):Prop:=w.heap[Vb]? =some (.cells #[v] 22 (0,0))
theorem decode1_calls(Vb:Nat)(ov pv lv:Value)(h:Head)(out plain:List UInt8)(w0 w:World)(hV:OutAt w Vb ov)(hM:Mine w0 w ov out)(h0:w0.heap.size≤w.heap.size)(hr:Rd w pv plain)(hb:out.length+plain.length≤70368744177664):
    Calls Tryz.prog 51 #[.agg h.cells,lv,pv,Lz.ptr Vb] w fun e w'=>e=.returned (.tuple #[])∧∃ov',OutAt w' Vb ov'∧Mine w0 w' ov' (out++plain)∧Fr (fun k=>k=Vb∨ov.ownBlock=some k) w w'∧(∀k,ov'.ownBlock=some k→ov.ownBlock=some k∨w.heap.size≤k):=by
  have hf:=(R0 w).alloc (.cells h.cells 47)
  have hV1:=hf.keep hV (fun h=>h)
  have c0:=cell_in (i:=0) hV1 rfl
  have hoff:∀k,ov.ownBlock=some k→k≠Vb:=by
    intro k hk e
    obtain⟨cur,hc⟩:=Lz.own_block hM.own hk
    rw[e,hV] at hc
    simp at hc
  have HV1:=Hd hV1
  have HM:=Hd (hM.keep hf)
  have HR:=Hd (hr.keep hf)
  have HF:=Hd hf
  have HOFF:=Hd hoff
  obtain⟨ph,capv,hov⟩:=hM.slice
  subst hov
  unfold Head.cells at*
  clear hV hM hr hf hV1 hoff
  go_enter Tryz.func51,Tryz.ntmps51
  go_wp2_with (at_builtin
               refine append_mine rfl _ _ rfl (w0:=w0) (.slice ph out.length capv) pv out plain rfl rfl HM.out (Nat.le_trans h0 HF.out.size) HR.out hb ?_
               intro p5 cap5 n5 w5 hn5 hM5 hfr5 hnew5
               have hV5:=hfr5.keep HV1.out (fun(e:(Value.slice ph out.length capv).ownBlock=some Vb)=>HOFF.out _ e rfl)
               have d0:=cell_in (i:=0) hV5 rfl
               have df:=fun i=>frozen_in hV5 i
               have HV5:=Hd hV5
               have HM5:=Hd hM5
               have HF5:=Hd hfr5
               have HN5:=Hd hnew5
               clear hM5 hfr5 hnew5 hn5 hV5)
  go_end0
  have hset:Fr (fun k=>k=Vb) w5 (w5.setCell ⟨Vb,0,none⟩ (.slice p5 n5 cap5)):=Fr.one _ _ _ _
  have hVm:∀k,(Value.slice p5 n5 cap5).ownBlock=some k→¬k=Vb:=by
    intro k hk e
    obtain⟨cur,hc⟩:=Lz.own_block HM5.out.own hk
    have:=HV5.out
    rw[e] at hc
    rw[hc] at this
    simp at this
  refine⟨rfl,_,set_in HV5.out 0 _,HM5.out.step hset hVm,((HF.out.mono (fun _ _ h=>h.elim)).trans (HF5.out.mono (fun _ _ h=>.inr h))).trans (hset.mono (fun _ _ h=>.inl h)),fun k hk=> ?_⟩
  have:=HF.out.size
  exact(HN5.out k hk).imp id (fun h=>Nat.le_trans this h)
end Ck
namespace Ck
open Mem Wire Win
structure US where
 c:Lz.C
 ps:Nat→List Nat
 pr:Nat×Nat×Nat
 out:List UInt8
def US.clear(u:US):US:={u with c:={u.c.fresh u.c.lc u.c.lp u.c.pb with all:=[]},ps:=Lz.fresh u.c.lc u.c.lp}
def US.props(u:US)(h:Head):US:={u with pr:=(h.lc,h.lp,h.pb)}
def US.reset(u:US):US:={u with c:=u.c.fresh u.pr.1 u.pr.2.1 u.pr.2.2,ps:=Lz.fresh u.pr.1 u.pr.2.1}
def US.raw(u:US)(part:List UInt8):US:={u with c:=u.c.on part,out:=u.out++part}
def US.take(u:US)(part:List UInt8)(n:Nat):Option US:=(Lz.takeAll u.c u.ps part n).map fun r=>{u with c:=r.2.2.1,ps:=r.2.2.2,out:=u.out++r.2.1}
def US.step(u:US)(h:Head)(part:List UInt8):Option US:=
 if h.kind=0∨h.kind=2 then some (u.raw part)
 else if h.kind=1 then some (u.clear.raw part)
 else if h.kind=3 then u.take part h.size
 else if h.kind=4 then u.reset.take part h.size
 else if h.kind=5 then((u.props h).reset).take part h.size
 else((u.clear.props h).reset).take part h.size
structure UAt(w0 w:World)(dB prB fB Vb:Nat)(l:Lz.L)(ov:Value)(u:US):Prop where
 d:w.heap[dB]? =some (.cells #[Lz.ptr l.D] 185 (0,0))
 pr:w.heap[prB]? =some (.cells #[.int .i64 u.pr.1,.int .i64 u.pr.2.1,.int .i64 u.pr.2.2] 24 (0,0))
 f:w.heap[fB]? =some (.cells #[.func (.func 51) #[] #[Lz.ptr Vb]] 118 (0,0))
 dec:Lz.Dec w l u.c u.ps false
 out:OutAt w Vb ov
 mine:Mine w0 w ov u.out
 tabs:St.Tabs w
 low:∀k,l.F k→w0.heap.size≤k
 five:6≤w0.heap.size
 lows:w0.heap.size≤dB∧w0.heap.size≤prB∧w0.heap.size≤fB∧w0.heap.size≤Vb
 ofs:∀k,ov.ownBlock=some k→¬l.F k
 prok:u.pr.1+u.pr.2.1≤4∧u.pr.2.2≤4
 size:w0.heap.size≤w.heap.size
theorem dec_off{w:World}{l:Lz.L}{c:Lz.C}{ps:Nat→List Nat}{sp:Bool}(h:Lz.Dec w l c ps sp){k:Nat}{cs:Array Value}{t:TypeId}{fr:Nat×Nat}(hk:w.heap[k]? =some (.cells cs t fr))(ht:¬Lz.owned t)(ht2:t≠5):¬l.F k:=by
 rintro(rfl|rfl|rfl|hF|⟨j,hj,rfl|rfl⟩)
 ·rw[h.d] at hk
  simp only[Option.some.injEq,Obj.cells.injEq] at hk
  exact ht (hk.2.1 ▸ by decide)
 ·rw[h.tab.box] at hk
  simp only[Option.some.injEq,Obj.cells.injEq] at hk
  exact ht (hk.2.1 ▸ by decide)
 ·rw[h.win.box] at hk
  simp only[Option.some.injEq,Obj.cells.injEq] at hk
  exact ht (hk.2.1 ▸ by decide)
 ·obtain⟨cur,hc⟩:=Lz.own_block h.win.own hF
  rw[hc] at hk
  simp only[Option.some.injEq,Obj.cells.injEq] at hk
  exact ht2 hk.2.1.symm
 ·obtain⟨_,_,_,hg,_⟩:=h.tab.set j hj
  rw[hg] at hk
  simp only[Option.some.injEq,Obj.cells.injEq] at hk
  exact ht (hk.2.1 ▸ by decide)
 ·obtain⟨_,_,hb,_⟩:=h.tab.set j hj
  rw[hb] at hk
  simp only[Option.some.injEq,Obj.cells.injEq] at hk
  exact ht (hk.2.1 ▸ by decide)
theorem UAt.keep{w0 w w':World}{dB prB fB Vb:Nat}{l:Lz.L}{ov:Value}{u:US}(h:UAt w0 w dB prB fB Vb l ov u)(hfr:Fr (fun _=>False) w w'):UAt w0 w' dB prB fB Vb l ov u:=
 ⟨hfr.keep h.d (fun h=>h),hfr.keep h.pr (fun h=>h),hfr.keep h.f (fun h=>h),h.dec.keep0 hfr,hfr.keep h.out (fun h=>h),h.mine.keep hfr,h.tabs.keep hfr,h.low,h.five,h.lows,h.ofs,h.prok,Nat.le_trans h.size hfr.size⟩
theorem UAt.decd{w0 w w':World}{dB prB fB Vb:Nat}{l l':Lz.L}{ov:Value}{u:US}{c2:Lz.C}{ps2:Nat→List Nat}(h:UAt w0 w dB prB fB Vb l ov u)(hfr:Fr l.F w w')(hn:Lz.Nx w l l')(hd:Lz.Dec w' l' c2 ps2 false):UAt w0 w' dB prB fB Vb l' ov {u with c:=c2,ps:=ps2}:=by
 have hs:=h.size
 refine⟨by rw[hn.D];exact hfr.keep h.d (dec_off h.dec h.d (by decide) (by decide)),hfr.keep h.pr (dec_off h.dec h.pr (by decide) (by decide)),hfr.keep h.f (dec_off h.dec h.f (by decide) (by decide)),hd,hfr.keep h.out (dec_off h.dec h.out (by decide) (by decide)),h.mine.step hfr h.ofs,h.tabs.step hfr (fun k hk=>Nat.le_trans h.five (h.low k hk)),fun k hk=> ?_,h.five,h.lows,fun k hk hF=> ?_,h.prok,Nat.le_trans hs hfr.size⟩
 ·rcases hn.F k hk with h1|h1
  ·exact h.low k h1
  ·omega
 ·rcases hn.F k hF with h1|h1
  ·exact h.ofs k hk h1
  ·have:=h.mine.lt k hk
   omega
theorem UAt.propd{w0 w:World}{dB prB fB Vb:Nat}{l:Lz.L}{ov:Value}{u:US}(h:UAt w0 w dB prB fB Vb l ov u)(hd:Head)(hok:hd.lc+hd.lp≤4∧hd.pb≤4):UAt w0 (((w.setCell ⟨prB,0,none⟩ (.int .i64 hd.lc)).setCell ⟨prB,1,none⟩ (.int .i64 hd.lp)).setCell ⟨prB,2,none⟩ (.int .i64 hd.pb)) dB prB fB Vb l ov (u.props hd):=by
 have hfr:Fr (fun k=>k=prB) w (((w.setCell ⟨prB,0,none⟩ (.int .i64 hd.lc)).setCell ⟨prB,1,none⟩ (.int .i64 hd.lp)).setCell ⟨prB,2,none⟩ (.int .i64 hd.pb)):=((Fr.one _ _ _ _).trans (Fr.one _ _ _ _)).trans (Fr.one _ _ _ _)
 have hne:∀{k:Nat}{cs:Array Value}{t:TypeId}{fr:Nat×Nat},w.heap[k]? =some (.cells cs t fr)→t≠24→¬k=prB:=by
  intro k cs t fr hk h1 e
  rw[e,h.pr] at hk
  simp only[Option.some.injEq,Obj.cells.injEq] at hk
  exact h1 hk.2.1.symm
 have hpr:=set_in (set_in (set_in h.pr 0 (.int .i64 hd.lc)) 1 (.int .i64 hd.lp)) 2 (.int .i64 hd.pb)
 refine⟨hfr.keep h.d (hne h.d (by decide)),hpr,hfr.keep h.f (hne h.f (by decide)),h.dec.keep hfr (fun k hk(e:k=prB)=>dec_off h.dec h.pr (by decide) (by decide) (e ▸ hk)),hfr.keep h.out (hne h.out (by decide)),h.mine.step hfr (fun k hk=> ?_),h.tabs.step hfr (fun k(e:k=prB)=>by have:=h.five;have:=h.lows;omega),h.low,h.five,h.lows,h.ofs,hok,Nat.le_trans h.size hfr.size⟩
 obtain⟨cur,hc⟩:=Lz.own_block h.mine.own hk
 exact hne hc (by decide)
theorem UAt.did{w0 w w':World}{dB prB fB Vb:Nat}{l:Lz.L}{ov ov2:Value}{u:US}{out2:List UInt8}(h:UAt w0 w dB prB fB Vb l ov u)(hO:OutAt w' Vb ov2)(hM:Mine w0 w' ov2 out2)(hfr:Fr (fun k=>k=Vb∨ov.ownBlock=some k) w w')(hn:∀k,ov2.ownBlock=some k→ov.ownBlock=some k∨w.heap.size≤k):UAt w0 w' dB prB fB Vb l ov2 {u with out:=out2}:=by
 have hs:=h.size
 have hne:∀{k:Nat}{cs:Array Value}{t:TypeId}{fr:Nat×Nat},w.heap[k]? =some (.cells cs t fr)→t≠22→t≠5→¬(k=Vb∨ov.ownBlock=some k):=by
  intro k cs t fr hk h1 h2 h3
  rcases h3 with h3|h3
  ·have h4:=h.out
   unfold OutAt at h4
   rw[h3,h4] at hk
   simp only[Option.some.injEq,Obj.cells.injEq] at hk
   exact h1 hk.2.1.symm
  ·obtain⟨cur,hc⟩:=Lz.own_block h.mine.own h3
   rw[hc] at hk
   simp only[Option.some.injEq,Obj.cells.injEq] at hk
   exact h2 hk.2.1.symm
 refine⟨hfr.keep h.d (hne h.d (by decide) (by decide)),hfr.keep h.pr (hne h.pr (by decide) (by decide)),hfr.keep h.f (hne h.f (by decide) (by decide)),h.dec.keep hfr (fun k hk h3=> ?_),hO,hM,h.tabs.step hfr (fun k h3=> ?_),h.low,h.five,h.lows,fun k hk hF=> ?_,h.prok,Nat.le_trans hs hfr.size⟩
 ·rcases h3 with h3|h3
  ·exact dec_off h.dec h.out (by decide) (by decide) (h3 ▸ hk)
  ·exact h.ofs k h3 hk
 ·have:=h.five
  have:=h.lows
  rcases h3 with h3|h3
  ·omega
  ·have:=h.mine.new k h3
   omega
 ·rcases hn k hk with h1|h1
  ·exact h.ofs k h1 hF
  ·have:=h.dec.old k hF
   omega
end Ck
end Go.Proofs.YtffoddpjfgjelaaGreatDoor
