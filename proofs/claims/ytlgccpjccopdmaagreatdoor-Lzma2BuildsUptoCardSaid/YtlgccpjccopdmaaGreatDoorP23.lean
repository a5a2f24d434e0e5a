/- Part 23 of 54: lemmas of the last part, each under the conditions that it names. -/
import Derived.Test.YtlgccpjccopdmaaGreatDoorP18
set_option linter.unusedVariables false
set_option linter.unusedSimpArgs false
set_option maxRecDepth 1500
set_option maxHeartbeats 16000000
namespace Go.Proofs.YtlgccpjccopdmaaGreatDoor
open Go.RowKit
namespace Ck
open Mem Wire
theorem get_raws(v:Value)(ys:List UInt8)(w:World)(hr:Rd w v ys)(h0:0<ys.length)(hl:ys.length≤1099511627776)(hx:((ys.take 6).getD 0 0).toNat≤2)(he:(get (ys.take 6)).2.2=0):
 Calls Tryz.prog 145 #[v] w fun e w'=>e=.returned (.tuple #[.agg (get (ys.take 6)).1.cells,.int .i64 (get (ys.take 6)).2.1,.int .i64 (get (ys.take 6)).2.2])∧Fr (fun _=>False) w w':=by
 obtain⟨xs,hxs⟩:∃xs,xs=ys.take 6:=⟨_,rfl⟩
 rw[←hxs] at hx he ⊢
 have hxl:xs.length=min ys.length 6:=by rw[hxs,List.length_take];omega
 unfold get at he ⊢
 simp only at he ⊢
 rw[if_neg (show¬xs.length=0 by omega)] at he ⊢
 by_cases h1:(xs.getD 0 0).toNat=0
 ·rw[if_pos h1]
  exact get_end v ys w hr h0 hl xs hxs h1
 ·rw[if_neg h1] at he ⊢
  rw[if_pos hx] at he ⊢
  by_cases h3:xs.length<3
  ·rw[if_pos h3] at he
   simp at he
  ·rw[if_neg h3]
   exact get_raw v ys w hr h0 hl xs hxs (by omega) hx (by omega)
def Raw(b:List UInt8)(packed size:Int)(s:Sr):Prop:=
 beyond packed (s.at'+1)=false∧¬s.at'=b.length∧¬kindOf (b.getD s.at' 0).toNat=none∧(∀k,kindOf (b.getD s.at' 0).toNat=some k→¬move s.now k=4∧(k=0→ends packed size s.at' s.plain=true))∧
  (((b.drop s.at').take 6).getD 0 0).toNat≤2∧(get ((b.drop s.at').take 6)).2.2=0∧beyond packed (s.at'+(get ((b.drop s.at').take 6)).2.1+(get ((b.drop s.at').take 6)).1.packed)=false∧beyond size (s.plain+(get ((b.drop s.at').take 6)).1.size)=false
set_option maxRecDepth 100000 in
theorem next_raw(Rb Ob:Nat)(bv:Value)(b:List UInt8)(packed size:Int)(s:Sr)(w:World)(h:RowAt w Rb bv s.at' s.plain packed size Ob)(hO:OrdAt w Ob s.now)(hb:Rd w bv b)(hM:Moves w)(h5:5≤Rb∧5≤Ob)(hn:s.now<4)(ha:s.at'≤b.length)(hl:b.length≤1099511627776)(hp:s.plain≤1152921504606846976)(hw:Raw b packed size s):
 Calls Tryz.prog 92 #[ptrR Rb] w (NextPost Rb Ob bv packed size w (nextP b packed size s)):=by
 obtain⟨res,hres⟩:∃res,res=nextP b packed size s:=⟨_,rfl⟩
 rw[←hres]
 unfold nextP at hres
 obtain⟨at',plain,now⟩:=s
 simp only at h hO hn ha hp hres
 unfold Raw at hw
 simp only at hw
 have HW:=Hd hw
 clear hw
 obtain⟨p,cap,rfl,hc1,hc2,hc3⟩:=hb
 have hb:Rd w (.slice p b.length cap) b:=⟨p,cap,rfl,hc1,hc2,hc3⟩
 clear hc3
 have hf1:=(Fr.refl (fun _=>False) w).alloc (.cells #[.int .i64 0,.int .i64 0,.int .i64 0,.int .i64 0,.int .i64 0,.int .i64 0] 47)
 have hf2:=hf1.alloc (.cells #[.int .i64 0,.int .i64 0,.int .i64 0,.int .i64 0,.int .i64 0,.int .i64 0] 47)
 have x1:=heap_alloc_new w (.cells #[.int .i64 0,.int .i64 0,.int .i64 0,.int .i64 0,.int .i64 0,.int .i64 0] 47)
 have x2:=heap_alloc_new (w.alloc (.cells #[.int .i64 0,.int .i64 0,.int .i64 0,.int .i64 0,.int .i64 0,.int .i64 0] 47)) (.cells #[.int .i64 0,.int .i64 0,.int .i64 0,.int .i64 0,.int .i64 0,.int .i64 0] 47)
 simp only[World.size_alloc] at x2
 have HN:=Hd (show N w _ w.heap.size (w.heap.size+1) Rb Ob (.slice p b.length cap) b at' plain packed size now from⟨lift0 hf2,((Fr.refl (fun _=>False) _).alloc _).keep x1 (fun h=>h),x2,hf2.keep h (fun h=>h),hf2.keep hO (fun h=>h),hb.keep hf2,hM.step hf2 (fun _ h=>h.elim),Nat.le_refl _,by omega,by omega,h5⟩)
 have HR:=Hd hres
 clear hres h hO hb hM hf1 hf2 x1 x2
 go_enter Tryz.func92,Tryz.ntmps92
 go_wp2_with fail
 generalize(w.alloc (.cells #[.int .i64 0,.int .i64 0,.int .i64 0,.int .i64 0,.int .i64 0,.int .i64 0] 47)).alloc (.cells #[.int .i64 0,.int .i64 0,.int .i64 0,.int .i64 0,.int .i64 0,.int .i64 0] 47)=wk at*
 generalize w.heap.size+1=z6 at*
 generalize w.heap.size=z2 at*
 have HBE:=Hd (fun v hv m(k:Int)(hk:k=((at'+1:Nat):Int))=>beyond_callsI packed (at'+1) k hk v hv (wk.drewN m))
 have hw1:IntKind.i64.wrap ((at':Int)+1)=((at':Int)+1):=IntWalk.i64_in _ (by omega)
 cases hbe:beyond packed (at'+1) with
 |true=>
   exact absurd (HW.out.1.symm.trans hbe) (by decide)
 |false=>
   replace HR:=Hd (HR.out.trans (if_neg (by rw[hbe];decide)))
   have HB:=Hd (fun m k hk=>HBE.out false hbe m k hk)
   clear HBE hbe
   have HALL:=Hd (fun n=>HN.out.keep ((Fr.refl (fun _=>False) wk).drewN n))
   have ss:=HN.out.cells (w':=wk) (lift0 (Fr.refl _ _))
   obtain⟨c0,c1,c2,c3,c4,c5,r0,r1,r2,r3,r4,r5⟩:=ss
   go_quiet (exact quiet_left (HB.out _ _ (by omega)))
   replace HN:=Hd (HALL.out nq)
   clear HALL c0 c1 c2 c3 c4 c5 r0 r1 r2 r3 r4 r5
   generalize wk.drewN nq=wk at*
   clear HB hw1
   go_wp2_with fail
   by_cases hal:at'=b.length
   ·exact absurd hal HW.out.2.1
   have ea:((at':Int)==(b.length:Int))=false:=by simp;omega
   replace HR:=Hd (HR.out.trans (if_neg hal))
   have hat:at'<b.length:=by omega
   clear hal
   have HALL:=Hd (fun n=>HN.out.keep ((Fr.refl (fun _=>False) wk).drewN n))
   have ss:=HN.out.cells (w':=wk) (lift0 (Fr.refl _ _))
   obtain⟨c0,c1,c2,c3,c4,c5,r0,r1,r2,r3,r4,r5⟩:=ss
   go_quiet (fail)
   replace HN:=Hd (HALL.out nq)
   clear HALL c0 c1 c2 c3 c4 c5 r0 r1 r2 r3 r4 r5
   generalize wk.drewN nq=wk at*
   go_wp2_with fail
   clear ea
   obtain⟨bb,o,rfl,hc⟩:=Win.byte_at HN.out.rd (el_at hat)
   have hxb:=UInt8.toNat_lt (b.getD at' 0)
   generalize(b.getD at' 0).toNat=x at*
   have i1:(0:Int)≤(at':Int):=by omega
   have i2:(at':Int)<(b.length:Int):=by omega
   have HKO:=Hd (fun m=>kindOf_calls x hxb (wk.drewN m))
   cases hk:kindOf x with
   |none=>
     exact absurd hk HW.out.2.2.1
   |some k=>
     have HKK:=Hd (HW.out.2.2.2.1 k hk)
     rw[hk] at HR
     simp only at HR
     have hki:kindI x=(k:Int):=by unfold kindI;rw[hk]
     rw[hki] at HKO
     have hk7:=kindOf_lt hxb hk
     clear hk hki
     have HALL:=Hd (fun n=>HN.out.keep ((Fr.refl (fun _=>False) wk).drewN n))
     have ss:=HN.out.cells (w':=wk) (lift0 (Fr.refl _ _))
     obtain⟨c0,c1,c2,c3,c4,c5,r0,r1,r2,r3,r4,r5⟩:=ss
     go_quiet (exact quiet_left (HKO.out _))
     replace HN:=Hd (HALL.out nq)
     clear HALL c0 c1 c2 c3 c4 c5 r0 r1 r2 r3 r4 r5
     generalize wk.drewN nq=wk at*
     clear hc i1 i2 HKO
     have ss:=HN.out.cells (w':=wk) (lift0 (Fr.refl _ _))
     obtain⟨c0,c1,c2,c3,c4,c5,r0,r1,r2,r3,r4,r5⟩:=ss
     have HNX:=Hd (order_calls Ob now k wk HN.out.ord HN.out.mv hn hk7)
     go_wp2_with fail
     by_cases hmv:move now k=4
     ·exact absurd hmv HKK.out.1
     rw[if_neg hmv,if_neg hmv] at HNX
     replace HR:=Hd (HR.out.trans (if_neg hmv))
     have hmv4:move now k<4:=by have:=move_le ⟨now,hn⟩ ⟨k,hk7⟩;simp only at this;omega
     clear hmv
     generalize move now k=now2 at*
     refine HNX.out.mono ?_
     rintro e w2 ⟨rfl,hfr,hO⟩
     replace HN:=Hd (HN.out.ordered hfr hO)
     clear hfr hO HNX c0 c1 c2 c3 c4 c5 r0 r1 r2 r3 r4 r5 wk
     obtain⟨wk,rfl⟩:∃wk,wk=w2:=⟨_,rfl⟩
     have hcase:(k=0∧ends packed size at' plain=false)∨((k=0∧ends packed size at' plain=true)∨¬k=0):=by cases ends packed size at' plain<;>by_cases h:k=0<;>simp[h]
     rcases hcase with⟨hk0,hen⟩|hcase
     ·exact absurd ((HKK.out.2 hk0).symm.trans hen) (by decide)
     rcases hcase with⟨hk0,hen⟩|hk0
     focus
      subst hk0
      have HEN:=Hd (ends_calls Rb Ob at' plain _ packed size wk HN.out.row (by omega) true hen)
      replace HR:=Hd (HR.out.trans (if_neg (by rw[hen];simp)))
      clear hen
      go_wp2_with fail
      refine HEN.out.mono ?_
      rintro e w2 ⟨rfl,m,rfl⟩
      replace HN:=Hd (HN.out.keep ((Fr.refl (fun _=>False) wk).drewN m))
      clear HEN
      generalize wk.drewN m=wk at*
      go_wp2_with fail
     rotate_left
     focus
      have ek:((k:Int)==0)=false:=by simp;omega
      replace HR:=Hd (HR.out.trans (if_neg (fun h=>hk0 h.1)))
      go_wp2_with fail
     all_goals
      have hd0:0<(b.drop at').length:=by rw[List.length_drop];omega
      have hrd:=rd_drop (a:=at') HN.out.rd (by omega)
      have hln:b.length-at'=(b.drop at').length:=by rw[List.length_drop]
      have HGET:=fun W(hf:Fr (fun _=>False) wk W)=>Hd (get_raws (.slice (dropP (some ⟨bb,o,none⟩) cap at') (b.length-at') (cap-at')) (b.drop at') W (hrd.keep hf) hd0 (by rw[List.length_drop];omega) HW.out.2.2.2.2.1 HW.out.2.2.2.2.2.1)
      have hsl:=slice_lI (some ⟨bb,o,none⟩) b.length cap at' (at':Int) rfl (by omega)
      have hgs:=get_small ((b.drop at').take 6)
      have hgl:=get_le_len ((b.drop at').take 6)
      have hg6:=get_le ((b.drop at').take 6)
      rw[List.length_take,List.length_drop] at hgl
      generalize get ((b.drop at').take 6)=g at*
      obtain⟨⟨gk,gs,gp,glc,glp,gpb⟩,gn,ge⟩:=g
      simp only[Head.cells] at HR HGET hgs hgl hg6
      simp only at HW
      obtain⟨hgs1,hgs2,hgs3,hgs4,hgs5,hgs6⟩:=hgs
      have HGL:=Hd hgl
      clear hrd hd0 hgl hgs3 hgs5 hgs6
      generalize dropP (some ⟨bb,o,none⟩) cap at'=q1 at*
      have HLN:=Hd hln
      clear hln
      have FC:=Hd (Fr.refl (fun k=>wk.heap.size≤k) wk).drew
      have HKP:=Hd (fun(W:World)(hf:Fr (fun k=>wk.heap.size≤k) wk W)=>HN.out.cells2b hf)
      have HSC:=Hd (HKP.out _ FC.out)
      have ss:=HSC.out
      obtain⟨r0,r1⟩:=ss
      have i1:(0:Int)≤(at':Int):=by omega
      go_region_held3 (fun w'=>w'.cell? ⟨Rb,0,none⟩=some (.slice (some ⟨bb,o,none⟩) b.length cap)∧w'.cell? ⟨Rb,1,none⟩=some (.int .i64 at'))
       (first|with_reducible exact HSC.out|(refine HKP.out _ ?_;(repeat refine Fr.setCell ?_ (.inl (by first|exact FC.out.size|exact HY.out)) _);first|exact FC.out|exact FC.out.alloc _)) ((first
       | (go_at_call 145
          first
           | (with_reducible refine (HGET _ (Fr.refl _ _).drew).out.mono ?_
              rintro e wc ⟨rfl,hfrc⟩
              have HFC:=Hd ((Fr.refl (fun _=>False) wk).drew.trans hfrc)
              have FC:=Hd (lift0 (S:=fun k=>wk.heap.size≤k) HFC.out)
              have HSC:=Hd (HKP.out _ FC.out)
              have ss:=HSC.out
              obtain⟨r0,r1⟩:=ss
              clear hfrc)
           | (with_reducible refine (HGET _ ((Fr.refl _ _).alloc _).drew).out.mono ?_
              rintro e wc ⟨rfl,hfrc⟩
              have HY:=Hd FC.out.size
              have HFC:=Hd ((((Fr.refl (fun _=>False) wk).alloc _).drew).trans hfrc)
              have FC:=Hd (lift0 (S:=fun k=>wk.heap.size≤k) HFC.out)
              have HSC:=Hd (HKP.out _ FC.out)
              have ss:=HSC.out
              obtain⟨r0,r1⟩:=ss
              have hz:=hfrc.keep (heap_drew_new wk _) (fun h=>h)
              try simp only[World.size_drew] at hz
              obtain⟨s0,s1,s2,s3,s4,s5,sf⟩:=cf6 hz rfl rfl rfl rfl rfl rfl
              have HSZ:=Hd hz
              clear hz hfrc))))
      focus
       have hx:=heap_alloc_new wc (.cells #[.int .i64 gk,.int .i64 gs,.int .i64 gp,.int .i64 glc,.int .i64 glp,.int .i64 gpb] 47)
       have HM:=Hd (M.of HN.out (by omega) (lift0 (HFC.out.alloc (.cells #[.int .i64 gk,.int .i64 gs,.int .i64 gp,.int .i64 glc,.int .i64 glp,.int .i64 gpb] 47))) hx HFC.out.size)
       generalize wc.alloc (.cells #[.int .i64 gk,.int .i64 gs,.int .i64 gp,.int .i64 glc,.int .i64 glp,.int .i64 gpb] 47)=w6 at*
       generalize wc.heap.size=z8 at*
       clear hx HFC FC HSC HKP HGET HN
       obtain⟨wk,rfl⟩:∃wk,wk=w6:=⟨_,rfl⟩
      rotate_left
      focus
       have hx:=(set_in (set_in (set_in (set_in (set_in (set_in HSZ.out 0 (.int .i64 gk)) 1 (.int .i64 gs)) 2 (.int .i64 gp)) 3 (.int .i64 glc)) 4 (.int .i64 glp)) 5 (.int .i64 gpb))
       have hf:Fr (fun k=>wk.heap.size≤k) wc ((((((wc.setCell ⟨wk.heap.size,0,none⟩ (.int .i64 gk)).setCell ⟨wk.heap.size,1,none⟩ (.int .i64 gs)).setCell ⟨wk.heap.size,2,none⟩ (.int .i64 gp)).setCell ⟨wk.heap.size,3,none⟩ (.int .i64 glc)).setCell ⟨wk.heap.size,4,none⟩ (.int .i64 glp)).setCell ⟨wk.heap.size,5,none⟩ (.int .i64 gpb)):=by
        repeat refine Fr.setCell ?_ (.inl (by simp)) _
        exact Fr.refl _ _
       have HM:=Hd (M.of (c:=#[.int .i64 gk,.int .i64 gs,.int .i64 gp,.int .i64 glc,.int .i64 glp,.int .i64 gpb]) HN.out (by omega) (FC.out.trans hf) hx (Nat.le_refl _))
       generalize((((((wc.setCell ⟨wk.heap.size,0,none⟩ (.int .i64 gk)).setCell ⟨wk.heap.size,1,none⟩ (.int .i64 gs)).setCell ⟨wk.heap.size,2,none⟩ (.int .i64 gp)).setCell ⟨wk.heap.size,3,none⟩ (.int .i64 glc)).setCell ⟨wk.heap.size,4,none⟩ (.int .i64 glp)).setCell ⟨wk.heap.size,5,none⟩ (.int .i64 gpb))=w6 at*
       clear hx hf HFC FC HSC HKP HGET s0 s1 s2 s3 s4 s5 sf HSZ HN HY
       generalize wk.heap.size=z8 at*
       obtain⟨wk,rfl⟩:∃wk,wk=w6:=⟨_,rfl⟩
      all_goals
       by_cases hge:ge=0
       ·subst hge
        replace HR:=Hd (HR.out.trans (if_neg (by simp)))
        have hgn:gn≤b.length-at':=by have:=HGL.out rfl;omega
        obtain⟨fm,hfm⟩:∃fm,fm=at'+gn:=⟨_,rfl⟩
        have hfi:(at':Int)+gn=(fm:Int):=by omega
        have hfl:fm≤b.length:=by omega
        rw[←hfm] at HR HW
        have HFM:=Hd hfm
        clear hfm hgn HGL
        have q8:=HM.out.b8
        obtain⟨e0,e1,e2,e3,e4,e5,ef⟩:=cf6 q8 rfl rfl rfl rfl rfl rfl
        clear q8
        have qr:=HM.out.n.row
        unfold RowAt at qr
        have r0:wk.cell? ⟨Rb,0,none⟩=some (.slice (some ⟨bb,o,none⟩) b.length cap):=cell_in qr rfl
        have r1:wk.cell? ⟨Rb,1,none⟩=some (.int .i64 at'):=cell_in qr rfl
        have r2:wk.cell? ⟨Rb,2,none⟩=some (.int .i64 plain):=cell_in qr rfl
        have r3:wk.cell? ⟨Rb,3,none⟩=some (.int .i64 packed):=cell_in qr rfl
        have r4:wk.cell? ⟨Rb,4,none⟩=some (.int .i64 size):=cell_in qr rfl
        have r5:wk.cell? ⟨Rb,5,none⟩=some (ptrR Ob):=cell_in qr rfl
        have rf:=fun i=>frozen_in qr i
        clear qr
        go_wp2_with fail
        clear e0 e1 e2 e3 e4 e5 ef r0 r1 r2 r3 r4 r5 rf
        have w1:IntKind.i64.wrap ((fm:Int)+gp)=(fm:Int)+gp:=IntWalk.i64_in _ (by omega)
        have w2:IntKind.i64.wrap ((plain:Int)+gs)=(plain:Int)+gs:=IntWalk.i64_in _ (by omega)
        have HB1:=Hd (fun v hv m(k:Int)(hk:k=((fm+gp:Nat):Int))=>beyond_callsI packed (fm+gp) k hk v hv (wk.drewN m))
        have HB2:=Hd (fun v hv m(k:Int)(hk:k=((plain+gs:Nat):Int))=>beyond_callsI size (plain+gs) k hk v hv (wk.drewN m))
        cases hb1:beyond packed (fm+gp) with
        |true=>
          exact absurd (HW.out.2.2.2.2.2.2.1.symm.trans hb1) (by decide)
        |false=>
          cases hb2:beyond size (plain+gs) with
          |true=>
            exact absurd (HW.out.2.2.2.2.2.2.2.symm.trans hb2) (by decide)
          |false=>
            replace HR:=Hd (HR.out.trans (if_neg (by rw[hb1,hb2];simp)))
            have HB:=Hd (fun m k hk=>HB1.out false hb1 m k hk)
            have HC:=Hd (fun m k hk=>HB2.out false hb2 m k hk)
            clear HB1 HB2 hb1 hb2
            have HALL:=Hd (fun n=>HM.out.keep ((Fr.refl (fun _=>False) wk).drewN n))
            have q8:=HM.out.b8
            obtain⟨e0,e1,e2,e3,e4,e5,ef⟩:=cf6 q8 rfl rfl rfl rfl rfl rfl
            clear q8
            have qr:=HM.out.n.row
            unfold RowAt at qr
            have r0:wk.cell? ⟨Rb,0,none⟩=some (.slice (some ⟨bb,o,none⟩) b.length cap):=cell_in qr rfl
            have r1:wk.cell? ⟨Rb,1,none⟩=some (.int .i64 at'):=cell_in qr rfl
            have r2:wk.cell? ⟨Rb,2,none⟩=some (.int .i64 plain):=cell_in qr rfl
            have r3:wk.cell? ⟨Rb,3,none⟩=some (.int .i64 packed):=cell_in qr rfl
            have r4:wk.cell? ⟨Rb,4,none⟩=some (.int .i64 size):=cell_in qr rfl
            have r5:wk.cell? ⟨Rb,5,none⟩=some (ptrR Ob):=cell_in qr rfl
            have rf:=fun i=>frozen_in qr i
            clear qr
            go_quiet (first|((with_reducible refine quiet_left (HB.out _ _ ?_));omega)|((with_reducible refine quiet_left (HC.out _ _ ?_));omega))
            replace HM:=Hd (HALL.out nq)
            clear HALL e0 e1 e2 e3 e4 e5 ef r0 r1 r2 r3 r4 r5 rf
            generalize wk.drewN nq=wk at*
            clear hfi
            have w3:IntKind.i64.wrap ((b.length:Int)-fm)=(b.length:Int)-fm:=IntWalk.i64_in _ (by omega)
            go_wp2_with fail
            have HALL:=Hd (fun n=>HM.out.keep ((Fr.refl (fun _=>False) wk).drewN n))
            have q8:=HM.out.b8
            obtain⟨e0,e1,e2,e3,e4,e5,ef⟩:=cf6 q8 rfl rfl rfl rfl rfl rfl
            clear q8
            have qr:=HM.out.n.row
            unfold RowAt at qr
            have r0:wk.cell? ⟨Rb,0,none⟩=some (.slice (some ⟨bb,o,none⟩) b.length cap):=cell_in qr rfl
            have r1:wk.cell? ⟨Rb,1,none⟩=some (.int .i64 at'):=cell_in qr rfl
            have r2:wk.cell? ⟨Rb,2,none⟩=some (.int .i64 plain):=cell_in qr rfl
            have r3:wk.cell? ⟨Rb,3,none⟩=some (.int .i64 packed):=cell_in qr rfl
            have r4:wk.cell? ⟨Rb,4,none⟩=some (.int .i64 size):=cell_in qr rfl
            have r5:wk.cell? ⟨Rb,5,none⟩=some (ptrR Ob):=cell_in qr rfl
            have rf:=fun i=>frozen_in qr i
            clear qr
            go_quiet (fail)
            replace HM:=Hd (HALL.out nq)
            clear HALL e0 e1 e2 e3 e4 e5 ef r0 r1 r2 r3 r4 r5 rf
            generalize wk.drewN nq=wk at*
            clear w3
            by_cases hsh:b.length-fm<gp
            ·replace HR:=Hd (HR.out.trans (if_pos hsh))
             have hi:(b.length:Int)-fm<gp:=by omega
             have HN:=Hd HM.out.n
             have ss:=HN.out.cells (w':=wk) (lift0 (Fr.refl _ _))
             obtain⟨c0,c1,c2,c3,c4,c5,r0,r1,r2,r3,r4,r5⟩:=ss
             have q2:=HN.out.b2
             obtain⟨a0,a1,a2,a3,a4,a5,af⟩:=cf6 q2 rfl rfl rfl rfl rfl rfl
             clear q2
             go_wp2_with fail
             refine bodyPost_ret (v:=.tuple #[.agg Head.none.cells,.slice none 0 0,.int .i64 fm,.int .i64 1]) (by simp[Head.none,Head.cells,results,Tryz.results92,go_sem,a0,a1,a2,a3,a4,a5]) rfl ?_
             rw[HR.out]
             exact⟨HN.out.fin (by((try refine Fr.drew ?_);(repeat refine Fr.setCell ?_ (.inl (by simp)) _);first|exact Fr.refl _ _|exact(Fr.refl _ _).drew)),rfl⟩
            replace HR:=Hd (HR.out.trans (if_neg hsh))
            have hi:(gp:Int)≤(b.length:Int)-fm:=by omega
            have q8:=HM.out.b8
            obtain⟨e0,e1,e2,e3,e4,e5,ef⟩:=cf6 q8 rfl rfl rfl rfl rfl rfl
            clear q8
            have qr:=HM.out.n.row
            unfold RowAt at qr
            have r0:wk.cell? ⟨Rb,0,none⟩=some (.slice (some ⟨bb,o,none⟩) b.length cap):=cell_in qr rfl
            have r1:wk.cell? ⟨Rb,1,none⟩=some (.int .i64 at'):=cell_in qr rfl
            have r2:wk.cell? ⟨Rb,2,none⟩=some (.int .i64 plain):=cell_in qr rfl
            have r3:wk.cell? ⟨Rb,3,none⟩=some (.int .i64 packed):=cell_in qr rfl
            have r4:wk.cell? ⟨Rb,4,none⟩=some (.int .i64 size):=cell_in qr rfl
            have r5:wk.cell? ⟨Rb,5,none⟩=some (ptrR Ob):=cell_in qr rfl
            have rf:=fun i=>frozen_in qr i
            clear qr
            obtain⟨fg,hfg⟩:∃fg,fg=fm+gp:=⟨_,rfl⟩
            obtain⟨pg,hpg⟩:∃pg,pg=plain+gs:=⟨_,rfl⟩
            have hfg2:(fm:Int)+gp=(fg:Int):=by omega
            have hpg2:(plain:Int)+gs=(pg:Int):=by omega
            have w1b:IntKind.i64.wrap ((fm:Int)+gp)=(fg:Int):=by rw[w1];exact hfg2
            have w2b:IntKind.i64.wrap ((plain:Int)+gs)=(pg:Int):=by rw[w2];exact hpg2
            have hgl2:gp≤b.length-fm:=by omega
            rw[←hfg,←hpg] at HR
            have HFG:=Hd hfg
            clear w1 w2 hpg hsh
            have hsl2:=slice_lhI (some ⟨bb,o,none⟩) b.length cap fm fg (fm:Int) (fg:Int) rfl rfl (by omega) (by omega)
            rw[show fg-fm=gp by omega] at hsl2
            have HMID:=Hd (fun(W:World)(hr:Rd W (.slice (some ⟨bb,o,none⟩) b.length cap) b)=>rd_mid (a:=fm) (b:=fg) hr (by omega) (by omega))
            have HDB:=Hd (fun m c2=>Win.drop_block (some ⟨bb,o,none⟩) b.length m cap c2 fm)
            generalize dropP (some ⟨bb,o,none⟩) cap fm=q2 at*
            generalize cap-fm=c2 at*
            clear hfg
            go_wp2_with fail
            have hrow:=set_in HM.out.n.row 1 (.int .i64 (fg:Int))
            replace HM:=Hd (HM.out.moved (Fr.one wk Rb 1 (.int .i64 (fg:Int))) (show RowAt (wk.setCell ⟨Rb,1,none⟩ (.int .i64 (fg:Int))) Rb (.slice (some ⟨bb,o,none⟩) b.length cap) fg plain packed size Ob from hrow))
            generalize wk.setCell ⟨Rb,1,none⟩ (.int .i64 (fg:Int))=wk at*
            clear hrow e0 e1 e2 e3 e4 e5 ef r0 r1 r2 r3 r4 r5 rf
            have q8:=HM.out.b8
            have e1:=cell_in (i:=1) q8 rfl
            have qr:=HM.out.n.row
            unfold RowAt at qr
            have r2:wk.cell? ⟨Rb,2,none⟩=some (.int .i64 plain):=cell_in qr rfl
            have rf:=fun i=>frozen_in qr i
            have HQR:=Hd qr
            clear q8 qr
            go_region
            all_goals
             go_wp2_with fail
             have hrow:=set_in HQR.out 2 (.int .i64 (pg:Int))
             have HM2:=Hd (HM.out.moved ((Fr.one wk Rb 2 (.int .i64 (pg:Int))).drew) (show RowAt (wk.setCell ⟨Rb,2,none⟩ (.int .i64 (pg:Int))).drew Rb (.slice (some ⟨bb,o,none⟩) b.length cap) fg pg packed size Ob from hrow))
             generalize(wk.setCell ⟨Rb,2,none⟩ (.int .i64 (pg:Int))).drew=w7 at*
             clear hrow e1 r2 rf HQR HM
             have q2:=HM2.out.n.b2
             obtain⟨a0,a1,a2,a3,a4,a5,af⟩:=cf6 q2 rfl rfl rfl rfl rfl rfl
             clear q2
             have HSC:=Hd (HM2.out.cells8 (w':=w7.drew) (Fr.refl _ _).drew)
             have ss:=HSC.out
             obtain⟨e0,e1,e2,e3,e4,e5,r0,r1⟩:=ss
             have i3:(0:Int)≤(fm:Int):=by omega
             go_region_held3 (fun w'=>w'.cell? ⟨z8,0,none⟩=some (.int .i64 gk)∧w'.cell? ⟨z8,1,none⟩=some (.int .i64 gs)∧w'.cell? ⟨z8,2,none⟩=some (.int .i64 gp)∧w'.cell? ⟨z8,3,none⟩=some (.int .i64 glc)∧w'.cell? ⟨z8,4,none⟩=some (.int .i64 glp)∧w'.cell? ⟨z8,5,none⟩=some (.int .i64 gpb)∧w'.cell? ⟨Rb,0,none⟩=some (.slice (some ⟨bb,o,none⟩) b.length cap)∧w'.cell? ⟨Rb,1,none⟩=some (.int .i64 fg))
              (first|with_reducible exact HSC.out|(refine HM2.out.cells8 ?_;((try refine Fr.drew ?_);(repeat refine Fr.setCell ?_ (.inl (by simp)) _);first|exact Fr.refl _ _|exact(Fr.refl _ _).drew))) (fail)
             go_wp2_with fail
             refine bodyPost_ret (v:=.tuple #[.agg #[.int .i64 gk,.int .i64 gs,.int .i64 gp,.int .i64 glc,.int .i64 glp,.int .i64 gpb],.slice q2 gp c2,.int .i64 fm,.int .i64 0]) (by simp[results,Tryz.results92,go_sem,a0,a1,a2,a3,a4,a5]) rfl ?_
             rw[HR.out]
             exact M.last HM2.out HMID.out HDB.out HFG.out hgl2 (by((try refine Fr.drew ?_);(repeat refine Fr.setCell ?_ (.inl (by simp)) _);first|exact Fr.refl _ _|exact(Fr.refl _ _).drew))
       ·exact absurd HW.out.2.2.2.2.2.1 hge
end Ck
end Go.Proofs.YtlgccpjccopdmaaGreatDoor
