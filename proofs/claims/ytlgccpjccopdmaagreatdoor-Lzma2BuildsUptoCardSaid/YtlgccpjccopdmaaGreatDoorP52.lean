/- Part 52 of 54: lemmas of the last part, each under the conditions that it names. -/
import Derived.Test.YtlgccpjccopdmaaGreatDoorP22
import Derived.Test.YtlgccpjccopdmaaGreatDoorP51
set_option linter.unusedVariables false
set_option linter.unusedSimpArgs false
set_option maxRecDepth 1500
set_option maxHeartbeats 16000000
namespace Go.Proofs.YtlgccpjccopdmaaGreatDoor
open Go.RowKit
namespace Rf
open Mem Rc Prob St Lz Win En Ga Ck
theorem rbuild_out(dict:Int)(l:List Pz)(lv:Value)(w:World)(h:dict<1∨4294967295<dict):Calls Tryz.prog 18 #[.int .i64 dict,lv] w (BuildPost w (.error 7)):=by
 have HNW:=Hd (show Calls Tryz.prog 30 #[.agg #[.int .i64 0,.int .i64 0,.int .i64 0],.int .i64 dict] w _ from new14_bad dict h w)
 clear h
 go_enter Tryz.func18,Tryz.ntmps18
 go_wp2_with fail
 refine HNW.out.mono ?_
 rintro e w1 ⟨rfl,hf1⟩
 have HP:=Hd (show BuildPost w (.error 7) (.returned (.tuple #[.slice none 0 0,.int .i64 7])) w1 from⟨hf1,by decide,rfl⟩)
 clear hf1
 go_wp2_with fail
 go_ret2
 exact HP.out
set_option maxRecDepth 100000 in
theorem rbuild_in(n:Nat)(l:List Pz)(lv:Value)(w:World)(h1:1≤n)(h2:n≤4294967295)(hr:RdP w lv l)(hwf:∀p ∈ l,p.Wf)(hl:l.length≤1048576)(hc:costs l≤16777216):
    Calls Tryz.prog 18 #[.int .i64 n,lv] w (BuildPost w (buildP n l)):=by
  obtain⟨RS,hRS⟩:∃RS,RS=buildGo l 0 (Xe.start n) (0,0,0):=⟨_,rfl⟩
  have hBP:buildP n l=after' RS:=by
    rw[hRS]
    unfold buildP
    rw[if_neg (by omega),Int.toNat_natCast]
    cases buildGo l 0 (Xe.start n) (0,0,0)<;>rfl
  rw[hBP]
  obtain⟨p0,cap0,rfl,_,_⟩:=hr.slice
  obtain⟨m,hm⟩:∃m,m=l.length:=⟨_,rfl⟩
  have HR:=Hd hr
  have HWF:=Hd hwf
  have HL:=Hd hl
  have HC:=Hd hc
  have HN:=Hd hm
  have HRS:=Hd hRS
  have HNW:=Hd (show Calls Tryz.prog 30 #[.agg #[.int .i64 0,.int .i64 0,.int .i64 0],.int .i64 n] w _ from enew14_calls n h1 h2 w)
  rw[←hm] at HR ⊢
  clear hr hwf hl hc hm hRS hBP h1 h2
  go_enter Tryz.func18,Tryz.ntmps18
  go_wp2_with fail
  refine HNW.out.mono ?_
  rintro e w1 ⟨l0,E0,v0,rfl,hf1,hE1,hn1⟩
  have HB0:=Hd (show BQ w w1 l0.K l0 E0 v0 (Xe.start n) 0 (0,0,0) (.slice none 0 0) [] (.slice none 0 0) [] from
    ⟨hf1,hE1,rfl,hn1,start_ok n,rfl,rfl,by decide,Ga.Own.nil _ _ _ _,fun x hx=>by simp at hx,⟨by decide,rfl⟩,Mine.nil _ _,fun k hk=>by simp[Value.ownBlock] at hk,fun k hk=>by simp[Value.ownBlock] at hk⟩)
  clear hf1 hE1 hn1 HNW
  generalize hKK:l0.K=KK at*
  clear hKK
  go_wp2_with fail
  go_loopw [8,9,10] (fun bf ov i wr=>BRelQ w l n KK bf ov i wr) (fun _ _ i _=>m-(intOf i).toNat)
  case atStart=>
    exact⟨0,l0,E0,v0,Xe.start n,0,(0,0,0),[],[],0,Nat.zero_le _,rfl,HB0.out,rfl,by rw[List.drop_zero];cases buildGo l 0 (Xe.start n) (0,0,0)<;>rfl,by rw[List.drop_zero,Nat.zero_add],Nat.le_refl _,Nat.zero_le _⟩
  case round=>
    obtain⟨k,l',E',v',x,now,pr,bs,o,C,hkm,rfl,hI,hbk,hgo,hC,hbl,hal⟩:=hrel
    obtain⟨bp,bcap,rfl⟩:=hI.hbf.slice
    obtain⟨op,ocap,rfl⟩:=hI.hout.slice
    have hmb:(m:Int)≤1048576:=by have:=HN.out;have:=HL.out;omega
    obtain⟨nb,hnb⟩:∃nb,bs.length=nb:=⟨_,rfl⟩
    obtain⟨no,hno⟩:∃no,o.length=no:=⟨_,rfl⟩
    have HNB:=Hd hnb
    have HNO:=Hd hno
    rw[hnb,hno] at hI
    rw[hnb,hno]
    have hnb2:nb≤1048576:=by have:=HL.out;omega
    clear hnb hno
    by_cases hlt:k<m
    · obtain⟨q,hq⟩:∃q,l[k]? =some q:=⟨l[k]'(HN.out ▸ hlt),List.getElem?_eq_getElem (HN.out ▸ hlt)⟩
      rw[drop_cons2 hq,costs] at hC
      rw[drop_cons2 hq,buildGo] at hgo
      have hwq:=HWF.out q (List.mem_of_getElem? hq)
      obtain⟨b,ob,rfl,c0,c1,c2,c3,sv,rvv,c4,c5,hz,hrd⟩:=(HR.out).at hq
      have c0:=cell_keep c0 hI.fr
      have c1:=cell_keep c1 hI.fr
      have c2:=cell_keep c2 hI.fr
      have c3:=cell_keep c3 hI.fr
      have c4:=cell_keep c4 hI.fr
      have c5:=cell_keep c5 hI.fr
      have hidx:(k:Int)<m:=by omega
      have hcost:=hC
      unfold Pz.cost at hcost
      have hcl:=HC.out
      have hyl:q.ys.length≤1048576:=by omega
      have hrl:q.raw.length≤16777216:=by omega
      have hab:x.c.all.length≤1099511627776:=by omega
      obtain⟨sp,sc,rfl,_,_⟩:=hz.slice
      have hrd0:=hrd
      obtain⟨rp,rc,rfl,_⟩:=hrd0
      have HWQ:=Hd hwq
      have HZ:=Hd hz
      have HRD:=Hd hrd
      have HYL:=Hd hyl
      have HRL:=Hd hrl
      have HAB:=Hd hab
      have HI:=Hd hI
      have HGO:=Hd hgo
      have HCC:=Hd hC
      have HBL:=Hd hbl
      have HAL:=Hd hal
      clear hwq hz hrd hyl hrl hab hI hgo hC hbl hal hcost hcl hq
      obtain⟨kind,lc,lp,pb,raw,ys⟩:=q
      simp only at c0 c1 c2 c3 c4 c5 HGO HCC HZ HRD HYL HRL
      obtain⟨ny,hny⟩:∃ny,ys.length=ny:=⟨_,rfl⟩
      obtain⟨nr,hnr⟩:∃nr,raw.length=nr:=⟨_,rfl⟩
      have HNY:=Hd hny
      have HNR:=Hd hnr
      rw[hny] at c4
      rw[hnr] at c5
      clear hny hnr
      have hfq:=(Fr.refl (fun _=>False) wr).alloc (.cells #[.int .i64 kind,.int .i64 lc,.int .i64 lp,.int .i64 pb,.slice sp ny sc,.slice rp nr rc] 108)
      have hbq:=heap_alloc_new wr (.cells #[.int .i64 kind,.int .i64 lc,.int .i64 lp,.int .i64 pb,.slice sp ny sc,.slice rp nr rc] 108)
      obtain⟨a0,a1,a2,a3,a4,a5⟩:=cs6 hbq rfl rfl rfl rfl rfl rfl
      have HBQ:=Hd hbq
      have HIQ:=Hd (HI.out.keep hfq)
      have HFQ:=Hd hfq
      clear hfq hbq
      by_cases hk16:kind<1∨6<kind
      · have hrs:RS=.error 6:=by rw[HRS.out,HGO.out,if_pos hk16];rfl
        have HP:=Hd (show BuildPost w (after' RS) (.returned (.tuple #[.slice none 0 0,.int .i64 6])) (wr.alloc (.cells #[.int .i64 kind,.int .i64 lc,.int .i64 lp,.int .i64 pb,.slice sp ny sc,.slice rp nr rc] 108)) from by
          rw[hrs]
          exact⟨HIQ.out.fr,by decide,rfl⟩)
        clear hrs
        rcases hk16 with hk1|hk6
        · have t1:decide (kind<1)=true:=decide_eq_true hk1
          go_wp2_with fail
          go_ret2
          exact HP.out
        · have t1:decide (kind<1)=false:=decide_eq_false (by omega)
          have t2:decide (kind>6)=true:=decide_eq_true hk6
          have t3:decide (6<kind)=true:=decide_eq_true hk6
          go_wp2_with fail
          go_ret2
          exact HP.out
      · have t1:decide (kind<1)=false:=decide_eq_false (by omega)
        have t2:decide (kind>6)=false:=decide_eq_false (by omega)
        have t3:decide (6<kind)=false:=decide_eq_false (by omega)
        have hgo:=HGO.out
        rw[if_neg hk16] at hgo
        obtain⟨kd,rfl⟩:=Int.eq_ofNat_of_zero_le (show 0≤kind by omega)
        simp only[Int.toNat_natCast] at hgo
        have hkd:1≤kd∧kd≤6:=by omega
        have HKD:=Hd hkd
        have HGO:=Hd hgo
        have hnx:nxQ (scanQ bs) kd=if Ck.move now kd=4 then 2 else 0:=by
          rw[HI.out.hnow.2]
          exact nx_moveQ ⟨now,HI.out.hnow.1⟩ ⟨kd,by omega⟩
        have HNX:=Hd (next17_callsQ (.slice bp nb bcap) bs kd hkd.2 HIQ.out.hbs w _ (HIQ.out.hbf) (by rw[HNB.out];omega))
        rw[hnx] at HNX
        clear hgo hk16 hnx
        go_wp2_with fail
        refine HNX.out.mono ?_
        rintro e w' ⟨rfl,rfl⟩
        by_cases hmv:Ck.move now kd=4
        · rw[if_pos hmv]
          have hrs:RS=.error 2:=by rw[HRS.out,HGO.out,if_pos hmv];rfl
          have HP:=Hd (show BuildPost w (after' RS) (.returned (.tuple #[.slice none 0 0,.int .i64 2])) (wr.alloc (.cells #[.int .i64 kd,.int .i64 lc,.int .i64 lp,.int .i64 pb,.slice sp ny sc,.slice rp nr rc] 108)) from by
            rw[hrs]
            exact⟨HIQ.out.fr,by decide,rfl⟩)
          clear hrs
          go_wp2_with fail
          go_ret2
          exact HP.out
        · rw[if_neg hmv]
          have HGO2:=Hd (show RS=_ from HRS.out.trans (HGO.out.trans (by rw[if_neg hmv])))
          have hfi:=(Fr.refl (fun _=>False) (wr.alloc (.cells #[.int .i64 kd,.int .i64 lc,.int .i64 lp,.int .i64 pb,.slice sp ny sc,.slice rp nr rc] 108))).alloc (.cells #[.int .i64 kd] 3)
          have HI2:=Hd (HIQ.out.keep hfi)
          have HBQ2:=Hd (hfi.keep HBQ.out (fun h=>h))
          have HONE:=Hd (alloc2 wr (.cells #[.int .i64 kd,.int .i64 lc,.int .i64 lp,.int .i64 pb,.slice sp ny sc,.slice rp nr rc] 108) (.cells #[.int .i64 kd] 3))
          have HBK:=Hd hbk
          clear hbk hfi a0 a1 a2 a3 a4 a5 c0 c1 c2 c3 c4 c5
          have tok1:True:=trivial
          by_cases h2:kd≤2
          · have t4:decide ((kd:Int)≤2)=true:=decide_eq_true (by omega)
            have hpe:prOf ⟨kd,lc,lp,pb,raw,ys⟩ pr=pr:=by
              unfold prOf
              rw[if_neg (by simp only;omega)]
            have HPE:=Hd hpe
            have HERR:=Hd (show∀W,Fr (fun _=>False) w W→¬(1≤nr∧nr≤65536)→BuildPost w (after' RS) (.returned (.tuple #[.slice none 0 0,.int .i64 7])) W from fun W hW hbad=>by
              have hpp:partP x ⟨kd,lc,lp,pb,raw,ys⟩ (prOf ⟨kd,lc,lp,pb,raw,ys⟩ pr)=.error 7:=by
                unfold partP
                simp only
                rw[if_pos (show(kd:Int)≤2 by omega),if_neg (by rw[HNR.out];exact hbad)]
              have hrs:RS=.error 7:=by rw[HGO2.out,hpp];rfl
              rw[hrs]
              exact⟨hW,by decide,rfl⟩)
            by_cases r1:nr<1
            · have u1:decide ((nr:Int)<1)=true:=decide_eq_true (by omega)
              go_wp2_with (at_builtin
                           have _t:=tok1
                           refine append_own rfl _ _ rfl Tryz.underlying81 Ga.infoInt rfl (by decide) (by decide) (w0:=w) (.slice bp nb bcap) (intsQ bs) #[.int .i64 kd] (wr.heap.size+1) rfl rfl HI2.out.hbf HI2.out.fr.size HONE.out rfl (by simp[Value.oneCell']) (by rw[HNB.out];omega) ?_
                           intro v3 w3 hO3 hf3 hn3
                           have HI3:=Hd (HI2.out.noted HKD.out hmv hO3 hf3 hn3)
                           have hbq3:=hf3.keep HBQ2.out (fun e=>HI2.out.hbf.off HBQ2.out (by decide) e)
                           have a0:=cell_in (i:=0) hbq3 rfl;have a1:=cell_in (i:=1) hbq3 rfl;have a2:=cell_in (i:=2) hbq3 rfl;have a3:=cell_in (i:=3) hbq3 rfl;have a4:=cell_in (i:=4) hbq3 rfl;have a5:=cell_in (i:=5) hbq3 rfl
                           have HBQ3:=Hd hbq3
                           obtain⟨p3,cap3,rfl⟩:=hO3.slice
                           clear hO3 hf3 hn3 tok1 hbq3)
              have HX:=Hd (HERR.out _ HI3.out.fr (by omega))
              clear r1
              go_ret2
              exact HX.out
            have u1:decide ((nr:Int)<1)=false:=decide_eq_false (by omega)
            by_cases r2:65536<nr
            · have u2:decide ((nr:Int)>65536)=true:=decide_eq_true (by omega)
              have u3:decide ((65536:Int)<(nr:Int))=true:=decide_eq_true (by omega)
              go_wp2_with (at_builtin
                           have _t:=tok1
                           refine append_own rfl _ _ rfl Tryz.underlying81 Ga.infoInt rfl (by decide) (by decide) (w0:=w) (.slice bp nb bcap) (intsQ bs) #[.int .i64 kd] (wr.heap.size+1) rfl rfl HI2.out.hbf HI2.out.fr.size HONE.out rfl (by simp[Value.oneCell']) (by rw[HNB.out];omega) ?_
                           intro v3 w3 hO3 hf3 hn3
                           have HI3:=Hd (HI2.out.noted HKD.out hmv hO3 hf3 hn3)
                           have hbq3:=hf3.keep HBQ2.out (fun e=>HI2.out.hbf.off HBQ2.out (by decide) e)
                           have a0:=cell_in (i:=0) hbq3 rfl;have a1:=cell_in (i:=1) hbq3 rfl;have a2:=cell_in (i:=2) hbq3 rfl;have a3:=cell_in (i:=3) hbq3 rfl;have a4:=cell_in (i:=4) hbq3 rfl;have a5:=cell_in (i:=5) hbq3 rfl
                           have HBQ3:=Hd hbq3
                           obtain⟨p3,cap3,rfl⟩:=hO3.slice
                           clear hO3 hf3 hn3 tok1 hbq3)
              have HX:=Hd (HERR.out _ HI3.out.fr (by omega))
              clear r2
              go_ret2
              exact HX.out
            have u2:decide ((nr:Int)>65536)=false:=decide_eq_false (by omega)
            have u3:decide ((65536:Int)<(nr:Int))=false:=decide_eq_false (by omega)
            have hrb:1≤nr∧nr≤65536:=by omega
            have HRBD:=Hd hrb
            obtain⟨xc,hxc⟩:∃xc,xc=(if(kd:Int)=1∨(kd:Int)=6 then x.clear else x):=⟨_,rfl⟩
            obtain⟨x2,hx2⟩:∃x2,x2=xc.raw raw:=⟨_,rfl⟩
            obtain⟨b1,hb1⟩:∃b1,b1=headB ⟨kd,nr,nr,0,0,0⟩++raw:=⟨_,rfl⟩
            have hpp:partP x ⟨kd,lc,lp,pb,raw,ys⟩ (prOf ⟨kd,lc,lp,pb,raw,ys⟩ pr)=.ok (b1,x2):=by
              unfold partP
              simp only
              rw[if_pos (show(kd:Int)≤2 by omega),if_pos (by rw[HNR.out];exact HRBD.out),hx2,hb1,hxc,HNR.out]
              rfl
            have hfinC:(C+(11+raw.length+52*ys.length))+costs (l.drop (k+1))=costs l∧(o++b1).length≤C+(11+raw.length+52*ys.length)∧x2.c.all.length≤6*(C+(11+raw.length+52*ys.length)):=by
              have hcb:=HCC.out
              have hbl:=HBL.out
              have hal:=HAL.out
              obtain⟨g1,g2,g3⟩:=part_bd HWQ.out.byte HI.out.hk hpp
              unfold Pz.cost at hcb g1
              simp only at hcb g1 g2
              rw[List.length_append]
              omega
            have hRSn:buildGo l 0 (Xe.start n) (0,0,0)=after (o++b1) (buildGo (l.drop (k+1)) (Ck.move now kd) x2 (prOf ⟨kd,lc,lp,pb,raw,ys⟩ pr)):=by
              rw[←HRS.out,HGO2.out,hpp]
              simp only
              cases buildGo (l.drop (k+1)) (Ck.move now kd) x2 (prOf ⟨kd,lc,lp,pb,raw,ys⟩ pr) with
              |error e=>rfl
              |ok t=>simp[after]
            have HLB:=Hd (show o.length+b1.length≤70368744177664 by
              have h1:=hfinC.2.1
              have hcb:=HCC.out
              have hcl:=HC.out
              unfold Pz.cost at hcb
              simp only at hcb
              rw[List.length_append] at h1
              omega)
            have HFC:=Hd hfinC
            have HRSN:=Hd hRSn
            have HLD:=Hd (show∀W,Fr (fun _=>False) w W→Calls Tryz.prog 38 #[.agg #[.int .i64 kd,.int .i64 nr,.int .i64 nr,.int .i64 0,.int .i64 0,.int .i64 0],.slice rp nr rc] W (fun e w'=>∃v,e=.returned v∧Fr (fun _=>False) W w'∧Mine W w' v b1) from fun W hW=>by
              rw[hb1]
              refine laid_calls kd nr nr 0 0 0 ⟨kd,nr,nr,0,0,0⟩ (.slice rp nr rc) raw W (fun W2=> ?_) (by have:=HRD.out.keep hW;rw[HNR.out] at this;exact this) (by rw[HNR.out];have:=HRBD.out;omega)
              obtain⟨m',hm'⟩:∃m',nr=m'+1:=⟨nr-1,by have:=HRBD.out;omega⟩
              rw[hm']
              exact put17_raw kd m' 0 0 0 (by have:=HKD.out;omega) (by have:=HRBD.out;omega) W2)
            have HRWX:=Hd (show∀W l2 E2 v2 bf2 bs2 ov2,BQ w W KK l2 E2 v2 xc (Ck.move now kd) pr bf2 bs2 ov2 o→Calls Tryz.prog 39 #[ptr KK,.slice rp nr rc] W (fun r w'=>r=.returned (.tuple #[])∧∃l5,BQ w w' KK l5 E2 v2 x2 (Ck.move now kd) pr bf2 bs2 ov2 o∧Nxt W l2 E2 v2 w' l5 E2 v2) from fun W l2 E2 v2 bf2 bs2 ov2 hb=>by
              have hal:xc.c.all.length≤x.c.all.length:=by
                rw[hxc]
                split
                · exact Nat.zero_le _
                · exact Nat.le_refl _
              have:=eraw_calls hb.e (.slice rp nr rc) raw (by have:=HRD.out.keep hb.fr;rw[HNR.out] at this;exact this) (by have:=HAB.out;rw[HNR.out];have:=HRBD.out;omega)
              rw[hb.hK] at this
              refine this.mono ?_
              rintro r w' ⟨rfl,l5,he5,hn5⟩
              exact⟨rfl,l5,hb.coded (by rw[hx2];exact he5) hn5 (by rw[hx2];exact hb.ok.raw raw) (by rw[hx2];exact hb.hk) (by rw[hx2];exact hb.hpr) hb.hgood,hn5⟩)
            have hxx:kd=1∧xc=x.clear∨kd=2∧xc=x:=by
              rw[hxc]
              have:=HKD.out
              obtain rfl|rfl:kd=1∨kd=2:=by omega
              · exact .inl ⟨rfl,if_pos (.inl rfl)⟩
              · exact .inr ⟨rfl,if_neg (by decide)⟩
            clear r1 r2 HERR hpe hrb hfinC hRSn hpp hb1 hx2 hxc h2
            rcases hxx with⟨rfl,rfl⟩|⟨rfl,rfl⟩
            · have cc:((1:Nat):Int)=1:=rfl
              simp only[cc] at HI2 HBQ2 HONE HLD
              clear cc
              go_wp2_with (at_builtin
                           have _t:=tok1
                           refine append_own rfl _ _ rfl Tryz.underlying81 Ga.infoInt rfl (by decide) (by decide) (w0:=w) (.slice bp nb bcap) (intsQ bs) #[.int .i64 1] (wr.heap.size+1) rfl rfl HI2.out.hbf HI2.out.fr.size HONE.out rfl (by simp[Value.oneCell']) (by rw[HNB.out];omega) ?_
                           intro v3 w3 hO3 hf3 hn3
                           have HI3:=Hd (HI2.out.noted HKD.out hmv hO3 hf3 hn3)
                           have hbq3:=hf3.keep HBQ2.out (fun e=>HI2.out.hbf.off HBQ2.out (by decide) e)
                           have a0:=cell_in (i:=0) hbq3 rfl;have a1:=cell_in (i:=1) hbq3 rfl;have a2:=cell_in (i:=2) hbq3 rfl;have a3:=cell_in (i:=3) hbq3 rfl;have a4:=cell_in (i:=4) hbq3 rfl;have a5:=cell_in (i:=5) hbq3 rfl
                           have HBQ3:=Hd hbq3
                           obtain⟨p3,cap3,rfl⟩:=hO3.slice
                           clear hO3 hf3 hn3 tok1 hbq3)
              have hCLX:=eclear_calls HI3.out.e
              rw[HI3.out.hK] at hCLX
              refine hCLX.mono ?_
              rintro r w4 ⟨rfl,l4,he4,hn4⟩
              have HI4:=Hd (show BQ w w4 KK l4 E' v' x.clear (Ck.move now 1) pr _ _ _ o from HI3.out.coded (by
                have:=HI3.out.hk
                simp only[this] at he4
                exact he4) hn4 HI3.out.ok.clear rfl HI3.out.hpr HI3.out.hgood)
              have hbq4:=hn4.fr.keep HBQ3.out (fun hx=>by have:=HI.out.e.old _ hx;omega)
              have a0:=cell_in (i:=0) hbq4 rfl;have a1:=cell_in (i:=1) hbq4 rfl;have a2:=cell_in (i:=2) hbq4 rfl;have a3:=cell_in (i:=3) hbq4 rfl;have a4:=cell_in (i:=4) hbq4 rfl;have a5:=cell_in (i:=5) hbq4 rfl
              have HBQ4:=Hd hbq4
              have HOF4:=Hd (hn4.off (lt_of_block HBQ3.out) (fun hx=>by have:=HI.out.e.old _ hx;omega))
              clear he4 hn4 hbq4 hCLX
              go_wp2_with fail
              refine(HRWX.out _ _ _ _ _ _ _ HI4.out).mono ?_
              rintro r w5 ⟨rfl,l5,hI5,hn5⟩
              have HI5:=Hd hI5
              have hbq5:=hn5.fr.keep HBQ4.out HOF4.out
              have a0:=cell_in (i:=0) hbq5 rfl;have a1:=cell_in (i:=1) hbq5 rfl;have a2:=cell_in (i:=2) hbq5 rfl;have a3:=cell_in (i:=3) hbq5 rfl;have a4:=cell_in (i:=4) hbq5 rfl;have a5:=cell_in (i:=5) hbq5 rfl
              clear hI5 hn5 hbq5
              go_wp2_with fail
              refine(HLD.out _ HI5.out.fr).mono ?_
              rintro e w6 ⟨v6,rfl,hf6,hm6⟩
              have HI6:=Hd (HI5.out.keep hf6)
              have HRDB:=Hd hm6.rd
              obtain⟨q6,c6,rfl⟩:=hm6.slice
              clear hf6 hm6
              go_wp2_with (at_builtin
                           refine append_mine rfl _ _ rfl (w0:=w) (.slice op no ocap) (.slice q6 b1.length c6) o b1 rfl rfl HI6.out.hout HI6.out.fr.size HRDB.out HLB.out ?_
                           intro p8 cap8 n8 w8 hn8 hM8 hf8 hnew8
                           have HI8:=Hd (HI6.out.laid hM8 hf8 hnew8)
                           clear hM8 hf8 hnew8 hn8)
              go_roundw
              case rel=>exact⟨k+1,_,_,_,x2,_,pr,bs++[1],o++b1,C+(11+raw.length+52*ys.length),by have:=HN.out;omega,by go_num,HI8.out,by rw[List.length_append,List.length_singleton,HBK.out],by have:=HRSN.out;rw[HPE.out] at this;exact this,HFC.out.1,HFC.out.2.1,HFC.out.2.2⟩
              case measure=>simp[intOf];omega
            · have cc:((2:Nat):Int)=2:=rfl
              simp only[cc] at HI2 HBQ2 HONE HLD
              clear cc
              go_wp2_with (at_builtin
                           have _t:=tok1
                           refine append_own rfl _ _ rfl Tryz.underlying81 Ga.infoInt rfl (by decide) (by decide) (w0:=w) (.slice bp nb bcap) (intsQ bs) #[.int .i64 2] (wr.heap.size+1) rfl rfl HI2.out.hbf HI2.out.fr.size HONE.out rfl (by simp[Value.oneCell']) (by rw[HNB.out];omega) ?_
                           intro v3 w3 hO3 hf3 hn3
                           have HI3:=Hd (HI2.out.noted HKD.out hmv hO3 hf3 hn3)
                           have hbq3:=hf3.keep HBQ2.out (fun e=>HI2.out.hbf.off HBQ2.out (by decide) e)
                           have a0:=cell_in (i:=0) hbq3 rfl;have a1:=cell_in (i:=1) hbq3 rfl;have a2:=cell_in (i:=2) hbq3 rfl;have a3:=cell_in (i:=3) hbq3 rfl;have a4:=cell_in (i:=4) hbq3 rfl;have a5:=cell_in (i:=5) hbq3 rfl
                           have HBQ3:=Hd hbq3
                           obtain⟨p3,cap3,rfl⟩:=hO3.slice
                           clear hO3 hf3 hn3 tok1 hbq3)
              have HI4:=HI3
              have HBQ4:=HBQ3
              have HOF4:=Hd (show¬ECF l' E' v' wr.heap.size from fun hx=>by have:=HI.out.e.old _ hx;omega)
              go_wp2_with fail
              refine(HRWX.out _ _ _ _ _ _ _ HI4.out).mono ?_
              rintro r w5 ⟨rfl,l5,hI5,hn5⟩
              have HI5:=Hd hI5
              have hbq5:=hn5.fr.keep HBQ4.out HOF4.out
              have a0:=cell_in (i:=0) hbq5 rfl;have a1:=cell_in (i:=1) hbq5 rfl;have a2:=cell_in (i:=2) hbq5 rfl;have a3:=cell_in (i:=3) hbq5 rfl;have a4:=cell_in (i:=4) hbq5 rfl;have a5:=cell_in (i:=5) hbq5 rfl
              clear hI5 hn5 hbq5
              go_wp2_with fail
              refine(HLD.out _ HI5.out.fr).mono ?_
              rintro e w6 ⟨v6,rfl,hf6,hm6⟩
              have HI6:=Hd (HI5.out.keep hf6)
              have HRDB:=Hd hm6.rd
              obtain⟨q6,c6,rfl⟩:=hm6.slice
              clear hf6 hm6
              go_wp2_with (at_builtin
                           refine append_mine rfl _ _ rfl (w0:=w) (.slice op no ocap) (.slice q6 b1.length c6) o b1 rfl rfl HI6.out.hout HI6.out.fr.size HRDB.out HLB.out ?_
                           intro p8 cap8 n8 w8 hn8 hM8 hf8 hnew8
                           have HI8:=Hd (HI6.out.laid hM8 hf8 hnew8)
                           clear hM8 hf8 hnew8 hn8)
              go_roundw
              case rel=>exact⟨k+1,_,_,_,x2,_,pr,bs++[2],o++b1,C+(11+raw.length+52*ys.length),by have:=HN.out;omega,by go_num,HI8.out,by rw[List.length_append,List.length_singleton,HBK.out],by have:=HRSN.out;rw[HPE.out] at this;exact this,HFC.out.1,HFC.out.2.1,HFC.out.2.2⟩
              case measure=>simp[intOf];omega
          · have t4:decide ((kd:Int)≤2)=false:=decide_eq_false (by omega)
            have hk36:3≤kd∧kd≤6:=by have:=HKD.out;omega
            by_cases h5:kd<5
            · have t5:decide ((kd:Int)<5)=true:=decide_eq_true (by omega)
              have hq:5≤kd→Pi3.bad (lc,lp,pb)=false:=fun h=>absurd h (by omega)
              go_wp2_with (at_builtin
                           have _t:=tok1
                           refine append_own rfl _ _ rfl Tryz.underlying81 Ga.infoInt rfl (by decide) (by decide) (w0:=w) (.slice bp nb bcap) (intsQ bs) #[.int .i64 kd] (wr.heap.size+1) rfl rfl HI2.out.hbf HI2.out.fr.size HONE.out rfl (by simp[Value.oneCell']) (by rw[HNB.out];omega) ?_
                           intro v3 w3 hO3 hf3 hn3
                           have HI3:=Hd (HI2.out.noted HKD.out hmv hO3 hf3 hn3)
                           have hbq3:=hf3.keep HBQ2.out (fun e=>HI2.out.hbf.off HBQ2.out (by decide) e)
                           have a0:=cell_in (i:=0) hbq3 rfl;have a1:=cell_in (i:=1) hbq3 rfl;have a2:=cell_in (i:=2) hbq3 rfl;have a3:=cell_in (i:=3) hbq3 rfl;have a4:=cell_in (i:=4) hbq3 rfl;have a5:=cell_in (i:=5) hbq3 rfl
                           have HBQ3:=Hd hbq3
                           obtain⟨p3,cap3,rfl⟩:=hO3.slice
                           clear hO3 hf3 hn3 tok1 hbq3)
              have HI4:=HI3
              have hPK:=pack_all HI4.out.e HI4.out.ok HI4.out.hk kd lc lp pb raw pr hk36 HI4.out.hpr HI4.out.hgood hq ys sp rp sc nr rc HWQ.out.byte HI4.out.fr HI4.out.new HZ.out HYL.out HAB.out
              rw[HI4.out.hK,HNY.out] at hPK
              have HPK:=Hd hPK
              clear hPK
              go_wp2_with fail
              refine HPK.out.mono ?_
              rintro e w5 hpost
              generalize hpp:partP x ⟨kd,lc,lp,pb,raw,ys⟩ (prOf ⟨kd,lc,lp,pb,raw,ys⟩ pr)=res at hpost
              cases res with
              |error er=>
                obtain⟨rfl,hf5,her⟩:=hpost
                have hrs:RS=.error er:=by rw[HGO2.out,hpp];rfl
                have hne:((er:Int) !=0)=true:=by simp;omega
                have HP:=Hd (show BuildPost w (after' RS) (.returned (.tuple #[.slice none 0 0,.int .i64 er])) w5 from by
                  rw[hrs]
                  exact⟨HI4.out.fr.trans' hf5 (fun i h1 h2=>by have:=HI4.out.new i h2;omega),her,rfl⟩)
                clear hf5 hrs hpp
                go_wp2_with fail
                go_ret2
                exact HP.out
              |ok r=>
                obtain⟨b1,x2⟩:=r
                obtain⟨bv,l5,E5,v5,rfl,hm5,he5,hn5,hoff5⟩:=hpost
                have hfinC:(C+(11+raw.length+52*ys.length))+costs (l.drop (k+1))=costs l∧(o++b1).length≤C+(11+raw.length+52*ys.length)∧x2.c.all.length≤6*(C+(11+raw.length+52*ys.length)):=by
                  have hcb:=HCC.out
                  have hbl:=HBL.out
                  have hal:=HAL.out
                  obtain⟨g1,g2,g3⟩:=part_bd HWQ.out.byte HI.out.hk hpp
                  unfold Pz.cost at hcb g1
                  simp only at hcb g1 g2
                  rw[List.length_append]
                  omega
                have hRSn:buildGo l 0 (Xe.start n) (0,0,0)=after (o++b1) (buildGo (l.drop (k+1)) (Ck.move now kd) x2 (prOf ⟨kd,lc,lp,pb,raw,ys⟩ pr)):=by
                  rw[←HRS.out,HGO2.out,hpp]
                  simp only
                  cases buildGo (l.drop (k+1)) (Ck.move now kd) x2 (prOf ⟨kd,lc,lp,pb,raw,ys⟩ pr) with
                  |error e=>rfl
                  |ok t=>simp[after]
                have HLB:=Hd (show o.length+b1.length≤70368744177664 by
                  have h1:=hfinC.2.1
                  have hcb:=HCC.out
                  have hcl:=HC.out
                  unfold Pz.cost at hcb
                  simp only at hcb
                  rw[List.length_append] at h1
                  omega)
                have HFC:=Hd hfinC
                have HRSN:=Hd hRSn
                have hpts:=part_pts HI.out.ok HI.out.hgood (by have:=HKD.out;simp only;omega) HWQ.out.byte hpp
                have hgd:=hpts.2.2.2.2.2.1
                have hok2:=hpts.2.2.2.2.2.2
                have hk2:=(part_bd HWQ.out.byte HI.out.hk hpp).2.2
                clear hpts
                have HI5:=Hd (HI4.out.coded he5 hn5 hok2 hk2 (part_props hk36 HI.out.hpr hpp) hgd)
                have HRDB:=Hd hm5.rd
                obtain⟨q5,c5,rfl⟩:=hm5.slice
                have hz1:((0:Int) !=0)=false:=by decide
                clear hm5 he5 hn5 hoff5 hfinC hRSn hpp hgd hok2 hk2
                go_wp2_with (at_builtin
                             refine append_mine rfl _ _ rfl (w0:=w) (.slice op no ocap) (.slice q5 b1.length c5) o b1 rfl rfl HI5.out.hout HI5.out.fr.size HRDB.out HLB.out ?_
                             intro p8 cap8 n8 w8 hn8 hM8 hf8 hnew8
                             have HI8:=Hd (HI5.out.laid hM8 hf8 hnew8)
                             clear hM8 hf8 hnew8 hn8)
                go_roundw
                case rel=>exact⟨k+1,_,_,_,x2,_,prOf ⟨kd,lc,lp,pb,raw,ys⟩ pr,bs++[kd],o++b1,C+(11+raw.length+52*ys.length),by have:=HN.out;omega,by go_num,HI8.out,by rw[List.length_append,List.length_singleton,HBK.out],HRSN.out,HFC.out.1,HFC.out.2.1,HFC.out.2.2⟩
                case measure=>simp[intOf];omega
            · have t5:decide ((kd:Int)<5)=false:=decide_eq_false (by omega)
              have HALW:=fun W=>Hd (allowed_any lc lp pb W)
              by_cases hbad:propsBad lc lp pb=true
              · simp only[hbad,Bool.not_true] at HALW
                have hpp:partP x ⟨kd,lc,lp,pb,raw,ys⟩ (prOf ⟨kd,lc,lp,pb,raw,ys⟩ pr)=.error 6:=by
                  have e:prOf ⟨kd,lc,lp,pb,raw,ys⟩ pr=(lc,lp,pb):=by
                    unfold prOf
                    rw[if_pos (by simp only;omega)]
                  rw[e]
                  unfold partP
                  simp only
                  rw[if_neg (show¬(kd:Int)≤2 by omega),if_pos ⟨by omega,hbad⟩]
                have hrs:RS=.error 6:=by rw[HGO2.out,hpp];rfl
                have HRSX:=Hd hrs
                clear hpp hrs hbad
                go_wp2_with (at_builtin
                             have _t:=tok1
                             refine append_own rfl _ _ rfl Tryz.underlying81 Ga.infoInt rfl (by decide) (by decide) (w0:=w) (.slice bp nb bcap) (intsQ bs) #[.int .i64 kd] (wr.heap.size+1) rfl rfl HI2.out.hbf HI2.out.fr.size HONE.out rfl (by simp[Value.oneCell']) (by rw[HNB.out];omega) ?_
                             intro v3 w3 hO3 hf3 hn3
                             have HI3:=Hd (HI2.out.noted HKD.out hmv hO3 hf3 hn3)
                             have hbq3:=hf3.keep HBQ2.out (fun e=>HI2.out.hbf.off HBQ2.out (by decide) e)
                             have a0:=cell_in (i:=0) hbq3 rfl;have a1:=cell_in (i:=1) hbq3 rfl;have a2:=cell_in (i:=2) hbq3 rfl;have a3:=cell_in (i:=3) hbq3 rfl;have a4:=cell_in (i:=4) hbq3 rfl;have a5:=cell_in (i:=5) hbq3 rfl
                             have HBQ3:=Hd hbq3
                             obtain⟨p3,cap3,rfl⟩:=hO3.slice
                             clear hO3 hf3 hn3 tok1 hbq3)
                refine(HALW _).out.mono ?_
                rintro e w4 ⟨rfl,hf4⟩
                have HP:=Hd (show BuildPost w (after' RS) (.returned (.tuple #[.slice none 0 0,.int .i64 6])) w4 from by
                  rw[HRSX.out]
                  exact⟨HI3.out.fr.trans hf4,by decide,rfl⟩)
                clear hf4
                go_wp2_with fail
                go_ret2
                exact HP.out
              · have hbd:propsBad lc lp pb=false:=by simpa using hbad
                simp only[hbd,Bool.not_false] at HALW
                have hq:5≤kd→Pi3.bad (lc,lp,pb)=false:=fun _=>hbd
                clear hbad
                go_wp2_with (at_builtin
                             have _t:=tok1
                             refine append_own rfl _ _ rfl Tryz.underlying81 Ga.infoInt rfl (by decide) (by decide) (w0:=w) (.slice bp nb bcap) (intsQ bs) #[.int .i64 kd] (wr.heap.size+1) rfl rfl HI2.out.hbf HI2.out.fr.size HONE.out rfl (by simp[Value.oneCell']) (by rw[HNB.out];omega) ?_
                             intro v3 w3 hO3 hf3 hn3
                             have HI3:=Hd (HI2.out.noted HKD.out hmv hO3 hf3 hn3)
                             have hbq3:=hf3.keep HBQ2.out (fun e=>HI2.out.hbf.off HBQ2.out (by decide) e)
                             have a0:=cell_in (i:=0) hbq3 rfl;have a1:=cell_in (i:=1) hbq3 rfl;have a2:=cell_in (i:=2) hbq3 rfl;have a3:=cell_in (i:=3) hbq3 rfl;have a4:=cell_in (i:=4) hbq3 rfl;have a5:=cell_in (i:=5) hbq3 rfl
                             have HBQ3:=Hd hbq3
                             obtain⟨p3,cap3,rfl⟩:=hO3.slice
                             clear hO3 hf3 hn3 tok1 hbq3)
                refine(HALW _).out.mono ?_
                rintro e w4 ⟨rfl,hf4⟩
                have HI4:=Hd (HI3.out.keep hf4)
                have hbq4:=hf4.keep HBQ3.out (fun h=>h)
                have a0:=cell_in (i:=0) hbq4 rfl;have a1:=cell_in (i:=1) hbq4 rfl;have a2:=cell_in (i:=2) hbq4 rfl;have a3:=cell_in (i:=3) hbq4 rfl;have a4:=cell_in (i:=4) hbq4 rfl;have a5:=cell_in (i:=5) hbq4 rfl
                clear hf4 hbq4
                have hPK:=pack_all HI4.out.e HI4.out.ok HI4.out.hk kd lc lp pb raw pr hk36 HI4.out.hpr HI4.out.hgood hq ys sp rp sc nr rc HWQ.out.byte HI4.out.fr HI4.out.new HZ.out HYL.out HAB.out
                rw[HI4.out.hK,HNY.out] at hPK
                have HPK:=Hd hPK
                clear hPK
                go_wp2_with fail
                refine HPK.out.mono ?_
                rintro e w5 hpost
                generalize hpp:partP x ⟨kd,lc,lp,pb,raw,ys⟩ (prOf ⟨kd,lc,lp,pb,raw,ys⟩ pr)=res at hpost
                cases res with
                |error er=>
                  obtain⟨rfl,hf5,her⟩:=hpost
                  have hrs:RS=.error er:=by rw[HGO2.out,hpp];rfl
                  have hne:((er:Int) !=0)=true:=by simp;omega
                  have HP:=Hd (show BuildPost w (after' RS) (.returned (.tuple #[.slice none 0 0,.int .i64 er])) w5 from by
                    rw[hrs]
                    exact⟨HI4.out.fr.trans' hf5 (fun i h1 h2=>by have:=HI4.out.new i h2;omega),her,rfl⟩)
                  clear hf5 hrs hpp
                  go_wp2_with fail
                  go_ret2
                  exact HP.out
                |ok r=>
                  obtain⟨b1,x2⟩:=r
                  obtain⟨bv,l5,E5,v5,rfl,hm5,he5,hn5,hoff5⟩:=hpost
                  have hfinC:(C+(11+raw.length+52*ys.length))+costs (l.drop (k+1))=costs l∧(o++b1).length≤C+(11+raw.length+52*ys.length)∧x2.c.all.length≤6*(C+(11+raw.length+52*ys.length)):=by
                    have hcb:=HCC.out
                    have hbl:=HBL.out
                    have hal:=HAL.out
                    obtain⟨g1,g2,g3⟩:=part_bd HWQ.out.byte HI.out.hk hpp
                    unfold Pz.cost at hcb g1
                    simp only at hcb g1 g2
                    rw[List.length_append]
                    omega
                  have hRSn:buildGo l 0 (Xe.start n) (0,0,0)=after (o++b1) (buildGo (l.drop (k+1)) (Ck.move now kd) x2 (prOf ⟨kd,lc,lp,pb,raw,ys⟩ pr)):=by
                    rw[←HRS.out,HGO2.out,hpp]
                    simp only
                    cases buildGo (l.drop (k+1)) (Ck.move now kd) x2 (prOf ⟨kd,lc,lp,pb,raw,ys⟩ pr) with
                    |error e=>rfl
                    |ok t=>simp[after]
                  have HLB:=Hd (show o.length+b1.length≤70368744177664 by
                    have h1:=hfinC.2.1
                    have hcb:=HCC.out
                    have hcl:=HC.out
                    unfold Pz.cost at hcb
                    simp only at hcb
                    rw[List.length_append] at h1
                    omega)
                  have HFC:=Hd hfinC
                  have HRSN:=Hd hRSn
                  have hpts:=part_pts HI.out.ok HI.out.hgood (by have:=HKD.out;simp only;omega) HWQ.out.byte hpp
                  have hgd:=hpts.2.2.2.2.2.1
                  have hok2:=hpts.2.2.2.2.2.2
                  have hk2:=(part_bd HWQ.out.byte HI.out.hk hpp).2.2
                  clear hpts
                  have HI5:=Hd (HI4.out.coded he5 hn5 hok2 hk2 (part_props hk36 HI.out.hpr hpp) hgd)
                  have HRDB:=Hd hm5.rd
                  obtain⟨q5,c5,rfl⟩:=hm5.slice
                  have hz1:((0:Int) !=0)=false:=by decide
                  clear hm5 he5 hn5 hoff5 hfinC hRSn hpp hgd hok2 hk2
                  go_wp2_with (at_builtin
                               refine append_mine rfl _ _ rfl (w0:=w) (.slice op no ocap) (.slice q5 b1.length c5) o b1 rfl rfl HI5.out.hout HI5.out.fr.size HRDB.out HLB.out ?_
                               intro p8 cap8 n8 w8 hn8 hM8 hf8 hnew8
                               have HI8:=Hd (HI5.out.laid hM8 hf8 hnew8)
                               clear hM8 hf8 hnew8 hn8)
                  go_roundw
                  case rel=>exact⟨k+1,_,_,_,x2,_,prOf ⟨kd,lc,lp,pb,raw,ys⟩ pr,bs++[kd],o++b1,C+(11+raw.length+52*ys.length),by have:=HN.out;omega,by go_num,HI8.out,by rw[List.length_append,List.length_singleton,HBK.out],HRSN.out,HFC.out.1,HFC.out.2.1,HFC.out.2.2⟩
                  case measure=>simp[intOf];omega
    · obtain rfl:k=m:=by have:=HN.out;omega
      have hrs:RS=.ok o:=by
        rw[HRS.out,hgo,HN.out,List.drop_length]
        simp[buildGo,after]
      have HRSX:=Hd hrs
      have hfa:=(Fr.refl (fun _=>False) wr).alloc (.cells #[.int .u8 0] 5)
      have HFA:=Hd hfa
      have HIA:=Hd (hI.keep hfa)
      have HRD0:=Hd (rd_one wr wr.heap.size rfl (0:UInt8) 0 rfl)
      have HLN:=Hd (show o.length+[(0:UInt8)].length≤70368744177664 by have:=HC.out;simp only[List.length_singleton];omega)
      clear hrs hfa hI hgo hC hbl hal hbk
      go_wp2_with (at_builtin
                   refine append_mine rfl _ _ rfl (w0:=w) (.slice op no ocap) (.slice (some ⟨wr.heap.size,0,none⟩) 1 1) o [0] rfl rfl HIA.out.hout HIA.out.fr.size HRD0.out HLN.out ?_
                   intro p8 cap8 n8 w8 hn8 hM8 hf8 _
                   have HM8:=Hd hM8
                   have HF8:=Hd (HIA.out.fr.trans' hf8 (fun i h1 h2=>by have:=HIA.out.hout.new i h2;omega))
                   clear hM8 hf8 hn8)
      go_ret2
      refine⟨HF8.out,?_⟩
      rw[HRSX.out]
      exact⟨_,rfl,HM8.out⟩
theorem rbuild_calls(dict:Int)(l:List Pz)(lv:Value)(w:World)(hr:RdP w lv l)(hwf:∀p ∈ l,p.Wf)(hl:l.length≤1048576)(hc:costs l≤16777216):
 Calls Tryz.prog 18 #[.int .i64 dict,lv] w (BuildPost w (buildP dict l)):=by
 by_cases h:dict<1∨4294967295<dict
 ·have e:buildP dict l=.error 7:=by unfold buildP;rw[if_pos h]
  rw[e]
  exact rbuild_out dict l lv w h
 ·obtain⟨n,rfl⟩:=Int.eq_ofNat_of_zero_le (show 0≤dict by omega)
  exact rbuild_in n l lv w (by omega) (by omega) hr hwf hl hc
end Rf
end Go.Proofs.YtlgccpjccopdmaaGreatDoor
