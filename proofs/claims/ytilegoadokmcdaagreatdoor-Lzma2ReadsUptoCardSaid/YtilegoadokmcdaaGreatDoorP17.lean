/- Part 17 of 53: lemmas of the last part, each under the conditions that it names. -/
import Derived.LoopN
import Derived.Test.YtilegoadokmcdaaGreatDoorP12
import Derived.Test.YtilegoadokmcdaaGreatDoorP15
import Derived.Test.YtilegoadokmcdaaGreatDoorP16
set_option linter.unusedVariables false
set_option linter.unusedSimpArgs false
set_option maxRecDepth 1500
set_option maxHeartbeats 4000000
namespace Go.Proofs.YtilegoadokmcdaaGreatDoor
open Go.RowKit
namespace Rf
open Mem St
abbrev propV(lc lp pb:Nat):Value:=.agg #[.int .i64 lc,.int .i64 lp,.int .i64 pb]
theorem allowed_calls(lc lp pb:Nat)(h:lc+lp≤4)(hp:pb≤4)(w:World):Calls Tryz.prog 125 #[propV lc lp pb] w fun e w'=>e=.returned (.bool true)∧Fr (fun _=>False) w w':=by
 have HF:=Hd ((Fr.refl (fun _=>False) w).alloc (.cells #[.int .i64 lc,.int .i64 lp,.int .i64 pb] 50))
 have hx:=heap_alloc_new w (.cells #[.int .i64 lc,.int .i64 lp,.int .i64 pb] 50)
 obtain⟨c0,c1,c2⟩:=cs3 hx rfl rfl rfl
 clear hx
 have a0:decide ((lc:Int)≥0)=true:=by rw[decide_eq_true_eq];omega
 have a1:decide ((lp:Int)≥0)=true:=by rw[decide_eq_true_eq];omega
 have a2:decide ((pb:Int)≥0)=true:=by rw[decide_eq_true_eq];omega
 have b0:decide ((0:Int)≤lc)=true:=by rw[decide_eq_true_eq];omega
 have b1:decide ((0:Int)≤lp)=true:=by rw[decide_eq_true_eq];omega
 have b2:decide ((0:Int)≤pb)=true:=by rw[decide_eq_true_eq];omega
 have d0:decide ((lc:Int)≤4)=true:=by rw[decide_eq_true_eq];omega
 have d1:decide ((lp:Int)≤4)=true:=by rw[decide_eq_true_eq];omega
 have d2:decide ((pb:Int)≤4)=true:=by rw[decide_eq_true_eq];omega
 have d3:decide ((lc:Int)+(lp:Int)≤4)=true:=by rw[decide_eq_true_eq];omega
 go_enter Tryz.func125,Tryz.ntmps125
 go_wp2_with fail
 go_ret
 exact⟨rfl,HF.out⟩
theorem propsByte_calls(lc lp pb:Nat)(h:lc+lp≤4)(hp:pb≤4)(w:World):Calls Tryz.prog 80 #[propV lc lp pb] w fun e w'=>e=.returned (.tuple #[.int .i64 (((5*pb+lp)*9+lc:Nat):Int),.int .i64 0])∧Fr (fun _=>False) w w':=by
 have HF:=Hd ((Fr.refl (fun _=>False) w).alloc (.cells #[.int .i64 lc,.int .i64 lp,.int .i64 pb] 50))
 have hx:=heap_alloc_new w (.cells #[.int .i64 lc,.int .i64 lp,.int .i64 pb] 50)
 obtain⟨c0,c1,c2⟩:=cs3 hx rfl rfl rfl
 have HX:=Hd hx
 clear hx
 have HA:=fun W=>Hd (allowed_calls lc lp pb h hp W)
 go_enter Tryz.func80,Tryz.ntmps80
 go_wp2_with fail
 refine(HA _).out.mono ?_
 rintro e w2 ⟨rfl,hf2⟩
 have hx2:=hf2.keep HX.out (fun h=>h)
 clear c0 c1 c2
 obtain⟨c0,c1,c2⟩:=cs3 hx2 rfl rfl rfl
 have HF2:=Hd (HF.out.trans hf2)
 clear hf2 hx2
 go_wp2_with fail
 go_ret2
 refine⟨?_,HF2.out⟩
 have e:(((5*pb+lp)*9+lc:Nat):Int)=(5*(pb:Int)+lp)*9+lc:=by omega
 rw[e]
 rfl
def bpPost(b:Nat)(w:World)(e:Ending)(w':World):Prop:=
 Fr (fun _=>False) w w'∧e=.returned (if bytePropsOk b=true then .tuple #[propV (b%9) (b/9%5) (b/45),.int .i64 0] else .tuple #[propV 0 0 0,.int .i64 2])
theorem bok(b:Nat):bytePropsOk b=true↔b%9+b/9%5≤4∧b/45≤4:=by unfold bytePropsOk;simp
set_option maxRecDepth 100000 in
theorem byteProps_calls(b:Nat)(hb:b<256)(w:World):Calls Tryz.prog 84 #[.int .i64 b] w (bpPost b w):=by
 have HF:=Hd ((Fr.refl (fun _=>False) w).alloc (.cells #[.int .i64 0,.int .i64 0,.int .i64 0] 50))
 have HX:=Hd (heap_alloc_new w (.cells #[.int .i64 0,.int .i64 0,.int .i64 0] 50))
 have HPB:=fun(lc lp pb:Nat)(h:lc+lp≤4)(hp:pb≤4) W=>Hd (propsByte_calls lc lp pb h hp W)
 have t0:decide ((b:Int)<0)=false:=by rw[decide_eq_false_iff_not];omega
 have t1:decide ((b:Int)>255)=false:=by rw[decide_eq_false_iff_not];omega
 have t2:decide ((255:Int)<b)=false:=by rw[decide_eq_false_iff_not];omega
 have hbk:=bok b
 have h45:b/45≤5:=by omega
 obtain⟨x0,hx0⟩:∃x,x=b%9:=⟨_,rfl⟩
 obtain⟨x1,hx1⟩:∃x,x=b/9%5:=⟨_,rfl⟩
 obtain⟨x2,hx2⟩:∃x,x=b/45:=⟨_,rfl⟩
 have hcode:(5*x2+x1)*9+x0=b:=by omega
 have huniq:∀r q p:Nat,r+q≤4→(5*p+q)*9+r=b→r=x0∧q=x1∧p=x2:=fun r q p h1 h2=>by omega
 rw[←hx0,←hx1,←hx2] at hbk
 have HV:Hid (∀w',Fr (fun _=>False) w w'→(bytePropsOk b=true→bpPost b w (.returned (.tuple #[propV x0 x1 x2,.int .i64 0])) w')∧(¬bytePropsOk b=true→bpPost b w (.returned (.tuple #[propV 0 0 0,.int .i64 2])) w')):=Hd (fun w' hw=>⟨fun h=>by
  unfold bpPost
  rw[if_pos h,hx0,hx1,hx2]
  exact⟨hw,rfl⟩,fun h=>by
  unfold bpPost
  rw[if_neg h]
  exact⟨hw,rfl⟩⟩)
 clear hx0 hx1 hx2 h45
 generalize bytePropsOk b=ok at*
 obtain⟨post,hpost⟩:∃post,post=bpPost b w:=⟨_,rfl⟩
 rw[←hpost] at HV ⊢
 clear hpost
 have HBK:=Hd hbk
 have HUN:=Hd huniq
 have HCD:=Hd hcode
 clear hbk huniq hcode
 go_enter Tryz.func84,Tryz.ntmps84
 go_wp2_with fail
 generalize hz:w.heap.size=z at*
 have HZ:=Hd hz
 clear hz
 generalize w.alloc (.cells #[.int .i64 0,.int .i64 0,.int .i64 0] 50)=W at*
 go_loopw [4](fun pv wr=>∃p:Nat,p≤5∧pv=.int .i64 p∧Fr (fun _=>False) W wr∧(ok=true→p≤x2)) (fun pv _=>5-(intOf pv).toNat)
 case atStart=>exact⟨0,by omega,rfl,Fr.refl _ _,fun _=>Nat.zero_le _⟩
 case round=>
  obtain⟨p,hp5,rfl,hfp,hip⟩:=hrel
  have HFP:=Hd hfp
  have HIP:=Hd hip
  clear hfp hip
  by_cases hp4:p≤4
  ·have tp:decide ((p:Int)≤4)=true:=by rw[decide_eq_true_eq];omega
   go_wp2_with fail
   go_loopw [5](fun qv wx=>∃q:Nat,q≤5∧qv=.int .i64 q∧Fr (fun _=>False) W wx∧(ok=true→p<x2∨(p=x2∧q≤x1))) (fun qv _=>5-(intOf qv).toNat)
   case atStart=>exact⟨0,by omega,rfl,HFP.out,fun h=>by have:=HIP.out h;omega⟩
   case round=>
    obtain⟨q,hq5,rfl,hfq,hiq⟩:=hrel
    have HFQ:=Hd hfq
    have HIQ:=Hd hiq
    clear hfq hiq
    by_cases hq4:q≤4
    ·have tq:decide ((q:Int)≤4)=true:=by rw[decide_eq_true_eq];omega
     go_wp2_with fail
     go_loopw [6](fun rv wy=>∃r:Nat,r+q≤5∧rv=.int .i64 r∧Fr (fun _=>False) W wy∧(ok=true→p<x2∨(p=x2∧(q<x1∨(q=x1∧r≤x0))))) (fun rv _=>5-(intOf rv).toNat)
     case atStart=>exact⟨0,by omega,rfl,HFQ.out,fun h=>by have:=HIQ.out h;omega⟩
     case round=>
      obtain⟨r,hr5,rfl,hfr,hir⟩:=hrel
      have HFR:=Hd hfr
      have HIR:=Hd hir
      clear hfr hir
      by_cases hr4:r+q≤4
      ·have tr:decide ((r:Int)+(q:Int)≤4)=true:=by rw[decide_eq_true_eq];omega
       have HP:=HPB r q p hr4 hp4
       go_wp2_with fail
       refine(HP _).out.mono ?_
       rintro e w2 ⟨rfl,hf2⟩
       have HF2:=Hd (HFR.out.trans hf2)
       have hz2:=HF2.out.keep HX.out (fun h=>h)
       clear hf2
       by_cases hm:(5*p+q)*9+r=b
       ·have te:(((5*p+q)*9+r:Nat):Int)=(b:Int):=by omega
        obtain⟨rfl,rfl,rfl⟩:=HUN.out r q p hr4 hm
        have hok:ok=true:=HBK.out.2 ⟨hr4,hp4⟩
        have HOK:=Hd hok
        obtain⟨r0,r1,r2,rf⟩:=cf3 hz2 rfl rfl rfl
        rw[te]
        clear hz2 hok hm te
        go_wp2_with fail
        refine bodyPost_ret (v:=.tuple #[propV r q p,.int .i64 0]) (by simp[results,Tryz.results84,go_sem,r0,r1,r2]) rfl ?_
        exact(HV.out _ ((HF.out.trans HF2.out).trans' (T:=fun k=>k=z) (((Fr.one _ z 0 _).trans (Fr.one _ z 1 _)).trans (Fr.one _ z 2 _)) (fun k hk e=>by have:=HZ.out;omega))).1 HOK.out
       ·have te:((((5*p+q)*9+r:Nat):Int)==(b:Int))=false:=by simp only[beq_eq_false_iff_ne,ne_eq];omega
        generalize(((5*p+q)*9+r:Nat):Int)=cd at*
        clear hz2
        go_wp2_with fail
        go_roundw
        case rel=>exact⟨r+1,by omega,by go_num,HF2.out,fun h=>by
         rcases HIR.out h with h1|⟨h1,h2|⟨h2,h3⟩⟩
         ·exact .inl h1
         ·exact .inr ⟨h1,.inl h2⟩
         ·refine .inr ⟨h1,.inr ⟨h2,?_⟩⟩
          by_cases hr0:r=x0
          ·subst h1
           subst h2
           subst hr0
           exact absurd HCD.out hm
          ·omega⟩
        case measure=>simp[intOf];omega
      ·have tr:decide ((r:Int)+(q:Int)≤4)=false:=by rw[decide_eq_false_iff_not];omega
       go_wp2_with fail
       go_roundw
       case rel=>exact⟨q+1,by omega,by go_num,HFR.out,fun h=>by
        have:=HBK.out.1 h
        rcases HIR.out h with h1|⟨h1,h2|⟨h2,h3⟩⟩<;>omega⟩
       case measure=>simp[intOf];omega
    ·have tq:decide ((q:Int)≤4)=false:=by rw[decide_eq_false_iff_not];omega
     go_wp2_with fail
     go_roundw
     case rel=>exact⟨p+1,by omega,by go_num,HFQ.out,fun h=>by
      have:=HBK.out.1 h
      rcases HIQ.out h with h1|⟨h1,h2⟩<;>omega⟩
     case measure=>simp[intOf];omega
  ·have tp:decide ((p:Int)≤4)=false:=by rw[decide_eq_false_iff_not];omega
   have hno:¬ok=true:=fun h=>by
    have h1:=HBK.out.1 h
    have h2:=HIP.out h
    omega
   have HNO:=Hd hno
   have hz2:=HFP.out.keep HX.out (fun h=>h)
   obtain⟨r0,r1,r2,rf⟩:=cf3 hz2 rfl rfl rfl
   clear hz2 hno
   go_wp2_with fail
   refine bodyPost_ret (v:=.tuple #[propV 0 0 0,.int .i64 2]) (by simp[results,Tryz.results84,go_sem,r0,r1,r2]) rfl ?_
   exact(HV.out _ ((HF.out.trans HFP.out).trans' (T:=fun k=>k=z) (((Fr.one _ z 0 _).trans (Fr.one _ z 1 _)).trans (Fr.one _ z 2 _)) (fun k hk e=>by have:=HZ.out;omega))).2 HNO.out
end Rf
namespace Rf
open Mem Rc Prob
theorem RDec.keep{w w':World}{Q:Nat}{bv:Value}{d:D}(h:RDec w Q bv d)(hfr:Fr (fun _=>False) w w'):RDec w' Q bv d:=⟨hfr.keep h.box (fun h=>h),h.rd.keep hfr⟩
theorem RDec.setR{w:World}{Q:Nat}{bv:Value}{d:D}(h:RDec w Q bv d)(r:Nat):RDec (w.setCell ⟨Q,2,none⟩ (.int .i64 r)) Q bv ⟨d.b,d.read,r,d.now⟩:=
 ⟨set_in h.box 2 _,h.rdstep (Fr.one w Q 2 (.int .i64 r)) (fun k _ hk=>hk)⟩
theorem RDec.setC{w:World}{Q:Nat}{bv:Value}{d:D}(h:RDec w Q bv d)(n:Nat):RDec (w.setCell ⟨Q,3,none⟩ (.int .i64 n)) Q bv ⟨d.b,d.read,d.rng,n⟩:=
 ⟨set_in h.box 3 _,h.rdstep (Fr.one w Q 3 (.int .i64 n)) (fun k _ hk=>hk)⟩
theorem ints_nb(L:List Nat):∀(i:Nat)(m:Int),(L.map fun p:Nat=>Value.int .i64 (p:Int)).toArray[i]? ≠some (Value.int .u8 m):=by
 intro i m hh
 have:=Array.mem_of_getElem? hh
 simp at this
theorem store_end{w:World}{Q z:Nat}{bv:Value}{d e:D}(h:RDec w Q bv d)(h2:RDec w z bv e):
 Fr (fun k=>k=Q) w ((((w.setCell ⟨Q,0,none⟩ bv).setCell ⟨Q,1,none⟩ (.int .i64 e.read)).setCell ⟨Q,2,none⟩ (.int .i64 e.rng)).setCell ⟨Q,3,none⟩ (.int .i64 e.now))∧
  RDec ((((w.setCell ⟨Q,0,none⟩ bv).setCell ⟨Q,1,none⟩ (.int .i64 e.read)).setCell ⟨Q,2,none⟩ (.int .i64 e.rng)).setCell ⟨Q,3,none⟩ (.int .i64 e.now)) Q bv e:=by
 have f0:=Fr.one w Q 0 bv
 have f1:=f0.trans (Fr.one _ Q 1 (.int .i64 e.read))
 have f2:=f1.trans (Fr.one _ Q 2 (.int .i64 e.rng))
 have f3:=f2.trans (Fr.one _ Q 3 (.int .i64 e.now))
 refine⟨f3,⟨set_in (set_in (set_in (set_in h.box 0 bv) 1 _) 2 _) 3 _,?_⟩⟩
 have hb:=h.rdstep f3 (fun k _ hk=>hk)
 obtain⟨p,cap,rfl,a1,a2,a3⟩:=hb
 obtain⟨p2,cap2,e2,_⟩:=h2.rd
 simp only[Value.slice.injEq] at e2
 by_cases h0:0<e.b.length
 ·refine h2.rd.step f3 (fun k hk hq=> ?_)
  exact h.off (by omega) k hk hq
 ·obtain⟨p3,cap3,e3,b1,b2,b3⟩:=h2.rd
  exact⟨p3,cap3,e3,b1,b2,fun h=>absurd h h0⟩
theorem RDec.step5{w w':World}{Q g:Nat}{bv:Value}{d:D}(h:RDec w Q bv d)(hfr:Fr (fun k=>k=g) w w')(hg:¬g=Q)(hb:∀k,bv.ownBlock=some k→k≠g):RDec w' Q bv d:=
 ⟨hfr.keep h.box (fun e=>hg e.symm),h.rd.step hfr (fun k hk e=>hb k hk e)⟩
def BitPost(Q b g i p:Nat)(bv:Value)(d:D)(L:List Nat)(w:World)(e:Ending)(w':World):Prop:=match d.bit p with
 |none=>e=.returned (.tuple #[.int .i64 0,.int .i64 1])∧Fr (fun _=>False) w w'
 |some (v,d2)=>e=.returned (.tuple #[.int .i64 v,.int .i64 0])∧Fr (fun k=>k=Q∨k=g) w w'∧RDec w' Q bv d2∧RSet w' b g (L.set i (nextN p v))
set_option maxRecDepth 100000 in
theorem rbit_calls(Q b g i p:Nat)(bv:Value)(d:D)(L:List Nat)(w:World)(h:RDec w Q bv d)(hok:d.ok)(hs:RSet w b g L)(hp:L[i]? =some p):
 Calls Tryz.prog 175 #[.pointer (some ⟨Q,0,none⟩),.pointer (some ⟨b,0,none⟩),.int .i64 i] w (BitPost Q b g i p bv d L w):=by
 obtain⟨pp,cap,rfl,_⟩:=id h.rd
 have hp2:=hs.ok p (List.mem_of_getElem? hp)
 obtain⟨o1,o2,o3,o4,o5⟩:=id hok
 have hcl:=cutAt_lt (r:=d.rng) (p:=p) (by omega) hp2
 have c2:w.cell? ⟨Q,2,none⟩=some (.int .i64 d.rng):=cell_in h.box rfl
 have hw1:IntKind.u32.wrap (d.rng:Int)=d.rng:=IntWalk.u32_in _ (by omega)
 have hw2:IntKind.i64.wrap (cutAt d.rng p:Int)=cutAt d.rng p:=IntWalk.i64_in _ (by omega)
 have HA:=Hd (rset_at b g i p L w hs hp)
 have HBo:=Hd (rbound_nat d.rng p w (by omega) hp2)
 have HFk:=Hd (rfork_calls Q _ d w h)
 have HD:=Hd h
 have HS:=Hd hs
 have HO:=Hd hok
 have HP:=Hd hp
 have hQl:=lt_of_block h.box
 have hbq:¬b=Q∧¬g=Q:=by
  refine⟨?_,?_⟩
  ·rintro rfl
   have h1:=h.box
   rw[hs.box] at h1
   simp only[Option.some.injEq,Obj.cells.injEq] at h1
   exact absurd h1.2.1 (by decide)
  ·rintro rfl
   have h1:=h.box
   rw[hs.row] at h1
   simp only[Option.some.injEq,Obj.cells.injEq] at h1
   exact absurd h1.2.1 (by decide)
 have HBQ:=Hd hbq
 have hbl:=hs.lt
 clear h hs hok hp hbq
 generalize hcut:cutAt d.rng p=cut at*
 go_enter Tryz.func175,Tryz.ntmps175
 go_wp2_with fail
 refine HA.out.mono ?_
 rintro e w' ⟨rfl,rfl⟩
 go_wp2_with fail
 refine HBo.out.mono ?_
 rintro e w' ⟨rfl,rfl⟩
 go_wp2_with fail
 refine HFk.out.mono ?_
 rintro e w1 ⟨rfl,hf1,hR1⟩
 generalize hz:w.heap.size=z at*
 have q2:w1.cell? ⟨z,2,none⟩=some (.int .i64 d.rng):=cell_in hR1.box rfl
 have q3:w1.cell? ⟨z,3,none⟩=some (.int .i64 d.now):=cell_in hR1.box rfl
 have k2:=frozen_in hR1.box 2
 have k3:=frozen_in hR1.box 3
 have HF1:=Hd hf1
 have HR1:=Hd hR1
 clear hf1 hR1
 have hbit:d.bit p=(d.upper cut).2.widen.map fun e=>((d.upper cut).1,e):=by rw[←hcut];rfl
 have hup:=D.upper_ok HO.out hcl
 have HUP:=Hd hup
 have HBIT:=Hd hbit
 clear hbit hup
 unfold BitPost
 rw[HBIT.out]
 by_cases hlt:d.now<cut
 ·have e:d.upper cut=(0,⟨d.b,d.read,cut,d.now⟩):=if_pos hlt
  have hRu:=HR1.out.setR cut
  have hfu:=Fr.one w1 z 2 (.int .i64 cut)
  have t1:decide ((d.now:Int)<(cut:Int))=true:=by simp;omega
  rw[e] at HUP HBIT ⊢
  have HRU:=Hd hRu
  have HFU:=Hd hfu
  clear hRu hfu e
  go_wp2_with fail
  have HW:=Hd (rwiden_calls z _ _ _ HRU.out (by have:=HUP.out.1.2.1;omega) (by have:=HUP.out.1.1;have:=HUP.out.1.2.1;omega) o3 o4)
  have HZ:=Hd hz
  cases hwd:(⟨d.b,d.read,cut,d.now⟩:D).widen with
  |none=>
    rw[hwd] at HW HBIT
    refine HW.out.mono ?_
    rintro e w3 ⟨rfl,m,rfl⟩
    have HFN:=Hd (HF1.out.trans' (HFU.out.drewN m) (fun k hk e=>by rw[HZ.out] at hk;omega))
    clear HW HRU HFU HR1 HF1 hwd
    go_wp2_with fail
    go_ret2
    unfold BitPost
    rw[HBIT.out]
    exact⟨rfl,HFN.out⟩
  |some d2=>
    rw[hwd] at HW HBIT
    refine HW.out.mono ?_
    rintro e w3 ⟨rfl,hf3,hR3⟩
    have hf13:=HF1.out.trans' (HFU.out.trans hf3) (fun k hk e=>by rw[HZ.out] at hk;omega)
    have hQ3:=(HD.out.keep hf13)
    have hS3:=HS.out.step hf13 (fun h=>h) (fun h=>h)
    have x0:w3.cell? ⟨z,0,none⟩=some (.slice pp d.b.length cap):=cell_in (i:=0) hR3.box rfl
    have x1:w3.cell? ⟨z,1,none⟩=some (.int .i64 d2.read):=cell_in (i:=1) hR3.box rfl
    have x2:w3.cell? ⟨z,2,none⟩=some (.int .i64 d2.rng):=cell_in (i:=2) hR3.box rfl
    have x3:w3.cell? ⟨z,3,none⟩=some (.int .i64 d2.now):=cell_in (i:=3) hR3.box rfl
    have v0:w3.cell? ⟨Q,0,none⟩=some (.slice pp d.b.length cap):=cell_in (i:=0) hQ3.box rfl
    have y0:=frozen_in hQ3.box 0
    have v1:w3.cell? ⟨Q,1,none⟩=some (.int .i64 d.read):=cell_in (i:=1) hQ3.box rfl
    have y1:=frozen_in hQ3.box 1
    have v2:w3.cell? ⟨Q,2,none⟩=some (.int .i64 d.rng):=cell_in (i:=2) hQ3.box rfl
    have y2:=frozen_in hQ3.box 2
    have v3:w3.cell? ⟨Q,3,none⟩=some (.int .i64 d.now):=cell_in (i:=3) hQ3.box rfl
    have y3:=frozen_in hQ3.box 3
    have hok2:=(D.widen_ok HUP.out.1 hwd).1
    have HO5:=Hd hok2.2.2.2.2
    clear hok2
    have HQ3:=Hd hQ3
    have HS3:=Hd hS3
    have HF13:=Hd hf13
    have HR3:=Hd hR3
    clear HW HRU HFU HR1 HF1 hwd hf3 hR3 hf13 hQ3 hS3
    go_wp2_with fail
    have hE:=store_end HQ3.out HR3.out
    have hS4:=HS3.out.step hE.1 (HBQ.out).1 (HBQ.out).2
    have HT:=Hd (rset_turn b g i p 0 L _ hS4 HP.out)
    have HE:=Hd hE
    have HS4:=Hd hS4
    clear hE hS4 x0 x1 x2 x3 y0 y1 y2 y3 v0 v1 v2 v3 HQ3 HR3
    generalize World.setCell _ ⟨Q,3,none⟩ _=w4 at*
    refine HT.out.mono ?_
    rintro e w5 ⟨rfl,hf5,hS5⟩
    have hR5:=HE.out.2.step5 hf5 (HBQ.out).2 (fun k hk=>Wire.rd_off0 HE.out.2.rd HO5.out HS4.out.row (ints_nb L) k hk)
    have HFE:=Hd (((HF13.out.mono (T:=fun k=>k=Q∨k=g) (fun _ _ h=>h.elim)).trans (HE.out.1.mono (fun _ _ h=>.inl h))).trans (hf5.mono (fun _ _ h=>.inr h)))
    have HR5:=Hd hR5
    have HS5:=Hd hS5
    clear hf5 hR5 hS5
    go_wp2_with fail
    go_ret2
    unfold BitPost
    rw[HBIT.out]
    exact⟨rfl,HFE.out,HR5.out,HS5.out⟩
 ·have e:d.upper cut=(1,⟨d.b,d.read,d.rng-cut,d.now-cut⟩):=if_neg hlt
  have e1:((d.now-cut:Nat):Int)=(d.now:Int)-(cut:Int):=by omega
  have e2:((d.rng-cut:Nat):Int)=(d.rng:Int)-(cut:Int):=by omega
  have hR2:=HR1.out.setC (d.now-cut)
  have hR3:=hR2.setR (d.rng-cut)
  have hfu:=(Fr.one w1 z 3 (.int .i64 (d.now-cut:Nat))).trans (Fr.one (w1.setCell ⟨z,3,none⟩ (.int .i64 (d.now-cut:Nat))) z 2 (.int .i64 (d.rng-cut:Nat)))
  rw[e1] at hR2 hR3 hfu
  rw[e2] at hR3 hfu
  have t1:decide ((d.now:Int)<(cut:Int))=false:=by simp;omega
  rw[e] at HUP HBIT ⊢
  have HRU:=Hd hR3
  have HFU:=Hd hfu
  have n2:=cell_in (i:=2) hR2.box rfl
  have n3:=frozen_in hR2.box 2
  clear hR2 hR3 hfu e
  go_wp2_with fail
  have HW:=Hd (rwiden_calls z _ _ _ HRU.out (by have:=HUP.out.1.2.1;omega) (by have:=HUP.out.1.1;have:=HUP.out.1.2.1;omega) o3 o4)
  have HZ:=Hd hz
  cases hwd:(⟨d.b,d.read,d.rng-cut,d.now-cut⟩:D).widen with
  |none=>
    rw[hwd] at HW HBIT
    refine HW.out.mono ?_
    rintro e w3 ⟨rfl,m,rfl⟩
    have HFN:=Hd (HF1.out.trans' (HFU.out.drewN m) (fun k hk e=>by rw[HZ.out] at hk;omega))
    clear HW HRU HFU HR1 HF1 hwd
    go_wp2_with fail
    go_ret2
    unfold BitPost
    rw[HBIT.out]
    exact⟨rfl,HFN.out⟩
  |some d2=>
    rw[hwd] at HW HBIT
    refine HW.out.mono ?_
    rintro e w3 ⟨rfl,hf3,hR3⟩
    have hf13:=HF1.out.trans' (HFU.out.trans hf3) (fun k hk e=>by rw[HZ.out] at hk;omega)
    have hQ3:=(HD.out.keep hf13)
    have hS3:=HS.out.step hf13 (fun h=>h) (fun h=>h)
    have x0:w3.cell? ⟨z,0,none⟩=some (.slice pp d.b.length cap):=cell_in (i:=0) hR3.box rfl
    have x1:w3.cell? ⟨z,1,none⟩=some (.int .i64 d2.read):=cell_in (i:=1) hR3.box rfl
    have x2:w3.cell? ⟨z,2,none⟩=some (.int .i64 d2.rng):=cell_in (i:=2) hR3.box rfl
    have x3:w3.cell? ⟨z,3,none⟩=some (.int .i64 d2.now):=cell_in (i:=3) hR3.box rfl
    have v0:w3.cell? ⟨Q,0,none⟩=some (.slice pp d.b.length cap):=cell_in (i:=0) hQ3.box rfl
    have y0:=frozen_in hQ3.box 0
    have v1:w3.cell? ⟨Q,1,none⟩=some (.int .i64 d.read):=cell_in (i:=1) hQ3.box rfl
    have y1:=frozen_in hQ3.box 1
    have v2:w3.cell? ⟨Q,2,none⟩=some (.int .i64 d.rng):=cell_in (i:=2) hQ3.box rfl
    have y2:=frozen_in hQ3.box 2
    have v3:w3.cell? ⟨Q,3,none⟩=some (.int .i64 d.now):=cell_in (i:=3) hQ3.box rfl
    have y3:=frozen_in hQ3.box 3
    have hok2:=(D.widen_ok HUP.out.1 hwd).1
    have HO5:=Hd hok2.2.2.2.2
    clear hok2
    have HQ3:=Hd hQ3
    have HS3:=Hd hS3
    have HF13:=Hd hf13
    have HR3:=Hd hR3
    clear HW HRU HFU HR1 HF1 hwd hf3 hR3 hf13 hQ3 hS3
    go_wp2_with fail
    have hE:=store_end HQ3.out HR3.out
    have hS4:=HS3.out.step hE.1 (HBQ.out).1 (HBQ.out).2
    have HT:=Hd (rset_turn b g i p 1 L _ hS4 HP.out)
    have HE:=Hd hE
    have HS4:=Hd hS4
    clear hE hS4 x0 x1 x2 x3 y0 y1 y2 y3 v0 v1 v2 v3 HQ3 HR3
    generalize World.setCell _ ⟨Q,3,none⟩ _=w4 at*
    refine HT.out.mono ?_
    rintro e w5 ⟨rfl,hf5,hS5⟩
    have hR5:=HE.out.2.step5 hf5 (HBQ.out).2 (fun k hk=>Wire.rd_off0 HE.out.2.rd HO5.out HS4.out.row (ints_nb L) k hk)
    have HFE:=Hd (((HF13.out.mono (T:=fun k=>k=Q∨k=g) (fun _ _ h=>h.elim)).trans (HE.out.1.mono (fun _ _ h=>.inl h))).trans (hf5.mono (fun _ _ h=>.inr h)))
    have HR5:=Hd hR5
    have HS5:=Hd hS5
    clear hf5 hR5 hS5
    go_wp2_with fail
    go_ret2
    unfold BitPost
    rw[HBIT.out]
    exact⟨rfl,HFE.out,HR5.out,HS5.out⟩
end Rf
namespace Rf
open Mem Rc Prob
def DirPost(Q:Nat)(bv:Value)(n:Nat)(d:D)(w:World)(e:Ending)(w':World):Prop:=match D.direct n 0 d with
 |.error x=>e=.returned (.tuple #[.int .u32 0,.int .i64 x])∧Fr (fun _=>False) w w'
 |.ok (v,d2)=>e=.returned (.tuple #[.int .u32 v,.int .i64 0])∧Fr (fun k=>k=Q) w w'∧RDec w' Q bv d2
theorem direct_succ(n v:Nat)(d:D):D.direct (n+1) v d=(if(if d.rng/2≤d.now then d.now-d.rng/2 else d.now)=d.rng/2 then .error 2 else
 match (⟨d.b,d.read,d.rng/2,if d.rng/2≤d.now then d.now-d.rng/2 else d.now⟩:D).widen with
 |none=>.error 1
 |some e=>D.direct n (if d.rng/2≤d.now then 2*v+1 else 2*v) e):=rfl
set_option maxRecDepth 100000 in
theorem rdirect_calls(Q n:Nat)(bv:Value)(d:D)(w:World)(h:RDec w Q bv d)(hok:d.ok)(hn:n≤32):
 Calls Tryz.prog 184 #[.pointer (some ⟨Q,0,none⟩),.int .i64 n] w (DirPost Q bv n d w):=by
 obtain⟨pp,cap,rfl,_⟩:=id h.rd
 have HFk:=Hd (rfork_calls Q _ d w h)
 have HD:=Hd h
 have HO:=Hd hok
 have hQl:=lt_of_block h.box
 have g1:decide ((n:Int)<0)=false:=by simp
 have g2:decide ((n:Int)>32)=false:=by simp;omega
 have g3:decide ((32:Int)<n)=false:=by simp;omega
 clear h hok
 go_enter Tryz.func184,Tryz.ntmps184
 go_wp2_with fail
 refine HFk.out.mono ?_
 rintro e w1 ⟨rfl,hf1,hR1⟩
 generalize hz:w.heap.size=z at*
 have HZ:=Hd hz
 have HF1:=Hd hf1
 have HR1:=Hd hR1
 clear hf1 hR1 hz
 go_wp2_with fail
 go_loopw [7,8] (fun v i wr=>∃(k vv:Nat)(e:D),k≤n∧i=.int .i64 k∧v=.int .i64 vv∧vv<2^k∧e.ok∧e.b=d.b∧RDec wr z (.slice pp d.b.length cap) e∧Fr (fun k=>k=z) w1 wr∧D.direct (n-k) vv e=D.direct n 0 d) (fun _ i _=>n-(intOf i).toNat)
 case atStart=>exact⟨0,0,d,by omega,rfl,rfl,by simp,HO.out,rfl,HR1.out,Fr.refl _ _,rfl⟩
 case round=>
  obtain⟨k,vv,e,hk,rfl,rfl,hv,hek,heb,hAe,hfr,hdir⟩:=hrel
  by_cases hlt:k<n
  ·obtain⟨m,hm⟩:∃m,n-k=m+1:=⟨n-k-1,by omega⟩
   have hm2:n-(k+1)=m:=by omega
   have hp:2^k≤2147483648:=Nat.le_trans (Nat.pow_le_pow_right (by omega) (show k≤31 by omega)) (by decide)
   have hp2:2^(k+1)=2*2^k:=by rw[Nat.pow_succ];omega
   rw[hm,direct_succ] at hdir
   obtain⟨eb,er,eg,en⟩:=e
   simp only at heb
   subst heb
   obtain⟨q1,q2,q3,q4,q5⟩:=id hek
   simp only at q1 q2 q3 q4 q5 hdir
   have e2:wr.cell? ⟨z,2,none⟩=some (.int .i64 eg):=cell_in hAe.box rfl
   have f2:=frozen_in hAe.box 2
   have hc2:((eg/2:Nat):Int)=(eg:Int)/2:=by omega
   have hA1:=hAe.setR (eg/2)
   have hF1:=hfr.trans (Fr.one wr z 2 (.int .i64 (eg/2:Nat)))
   rw[hc2] at hA1 hF1
   have y2:(wr.setCell ⟨z,2,none⟩ (.int .i64 ((eg:Int)/2))).cell? ⟨z,2,none⟩=some (.int .i64 ((eg:Int)/2)):=by rw[←hc2];exact cell_in (by rw[←hc2] at hA1;exact hA1.box) rfl
   have y3:(wr.setCell ⟨z,2,none⟩ (.int .i64 ((eg:Int)/2))).cell? ⟨z,3,none⟩=some (.int .i64 en):=cell_in hA1.box rfl
   have k3:=frozen_in hA1.box 3
   have HA1:=Hd hA1
   have HFR1:=Hd hF1
   have HEK:=Hd hek
   clear hAe hfr hA1 hF1 hek
   by_cases hge:eg/2≤en
   ·have t1:decide ((en:Int)≥(eg:Int)/2)=true:=by simp;omega
    have t2:decide ((eg:Int)/2≤(en:Int))=true:=by simp;omega
    simp only[if_pos hge] at hdir
    have HDIR:=Hd hdir
    clear hdir
    go_wp2_with fail
    go_quiet (fail)
    go_wp2_with fail
    go_region
    all_goals go_wp2_with fail
    have hsn:((en-eg/2:Nat):Int)=(en:Int)-(eg:Int)/2:=by omega
    have hA3:=(HA1.out.keep ((Fr.refl _ (wr.setCell ⟨z,2,none⟩ (.int .i64 ((eg:Int)/2)))).drewN (nq+1))).setC (en-eg/2)
    have hF3:=(HFR1.out.drewN (nq+1)).trans (Fr.one ((wr.setCell ⟨z,2,none⟩ (.int .i64 ((eg:Int)/2))).drewN (nq+1)) z 3 (.int .i64 (en-eg/2:Nat)))
    rw[hsn] at hA3 hF3
    have HA3:=Hd hA3
    have HF3:=Hd hF3
    clear y2 y3 k3 HA1 HFR1 hA3 hF3
    generalize World.setCell (World.drewN _ _) _ _=w3 at*
    have y2:w3.cell? ⟨z,2,none⟩=some (.int .i64 ((eg:Int)/2)):=by rw[←hc2];exact cell_in HA3.out.box rfl
    have y3:w3.cell? ⟨z,3,none⟩=some (.int .i64 ((en:Int)-(eg:Int)/2)):=by rw[←hsn];exact cell_in HA3.out.box rfl
    by_cases heq:en-eg/2=eg/2
    ·have t3:decide ((en:Int)-(eg:Int)/2≥(eg:Int)/2)=true:=by rw[decide_eq_true_eq];omega
     have t4:decide ((eg:Int)/2≤(en:Int)-(eg:Int)/2)=true:=by rw[decide_eq_true_eq];omega
     have HDIR2:=Hd ((if_pos heq).symm.trans HDIR.out)
     clear HDIR
     go_quiet (fail)
     go_wp2_with fail
     go_ret2
     unfold DirPost
     rw[←HDIR2.out]
     exact⟨rfl,HF1.out.trans' (HF3.out.drewN _) (fun k hk e=>by rw[HZ.out] at hk;omega)⟩
    ·have t3:decide ((en:Int)-(eg:Int)/2≥(eg:Int)/2)=false:=by rw[decide_eq_false_iff_not];omega
     have t4:decide ((eg:Int)/2≤(en:Int)-(eg:Int)/2)=false:=by rw[decide_eq_false_iff_not];omega
     have HDIR2:=Hd ((if_neg heq).symm.trans HDIR.out)
     have hok2:(⟨d.b,er,eg/2,en-eg/2⟩:D).ok:=⟨by simp only;omega,by simp only;omega,q3,q4,q5⟩
     have HOK2:=Hd hok2
     clear HDIR hok2
     go_quiet (fail)
     go_wp2_with fail
     have HW:=Hd (rwiden_calls z _ _ _ (HA3.out.keep ((Fr.refl _ w3).drewN nq)) (by simp only;omega) (by simp only;omega) q3 q4)
     cases hwd:(⟨d.b,er,eg/2,en-eg/2⟩:D).widen with
     |none=>
       rw[hwd] at HW HDIR2
       refine HW.out.mono ?_
       rintro e w5 ⟨rfl,m5,rfl⟩
       have HFN:=Hd (HF1.out.trans' (HF3.out.drewN (nq+m5)) (fun k hk e=>by rw[HZ.out] at hk;omega))
       clear HW HA3 HF3 hwd
       go_wp2_with fail
       go_ret2
       unfold DirPost
       rw[←HDIR2.out]
       exact⟨rfl,HFN.out⟩
     |some d2=>
       have hok2:=D.widen_ok HOK2.out hwd
       rw[hwd] at HW HDIR2
       refine HW.out.mono ?_
       rintro e w5 ⟨rfl,hf5,hR5⟩
       have HFN:=Hd ((HF3.out.drewN nq).trans hf5)
       have HR5:=Hd hR5
       have HOK5:=Hd hok2
       clear HW HA3 HF3 hwd hf5 hR5 hok2
       go_wp2_with fail
       go_roundw
       case rel=>exact⟨k+1,2*vv+1,d2,by omega,by go_num,by go_num,by omega,HOK5.out.1,HOK5.out.2,HR5.out,HFN.out,by rw[hm2];exact HDIR2.out⟩
       case measure=>simp[intOf];omega
   ·have t1:decide ((en:Int)≥(eg:Int)/2)=false:=by rw[decide_eq_false_iff_not];omega
    have t2:decide ((eg:Int)/2≤(en:Int))=false:=by rw[decide_eq_false_iff_not];omega
    simp only[if_neg hge] at hdir
    rw[if_neg (by omega)] at hdir
    have HDIR2:=Hd hdir
    have hok2:(⟨d.b,er,eg/2,en⟩:D).ok:=⟨by simp only;omega,by simp only;omega,q3,q4,q5⟩
    have HOK2:=Hd hok2
    clear hdir hok2
    go_wp2_with fail
    go_quiet (fail)
    go_wp2_with fail
    have HA3:=Hd (HA1.out.keep ((Fr.refl _ (wr.setCell ⟨z,2,none⟩ (.int .i64 ((eg:Int)/2)))).drewN nq))
    have HF3:=Hd (HFR1.out.drewN nq)
    clear y2 y3 k3 HA1 HFR1
    generalize World.drewN _ nq=w3 at*
    have y2:w3.cell? ⟨z,2,none⟩=some (.int .i64 ((eg:Int)/2)):=by rw[←hc2];exact cell_in HA3.out.box rfl
    have y3:w3.cell? ⟨z,3,none⟩=some (.int .i64 en):=cell_in HA3.out.box rfl
    go_quiet (fail)
    go_wp2_with fail
    have HW:=Hd (rwiden_calls z _ _ _ (HA3.out.keep ((Fr.refl _ w3).drewN nq)) (by simp only;omega) (by simp only;omega) q3 q4)
    cases hwd:(⟨d.b,er,eg/2,en⟩:D).widen with
    |none=>
      rw[hwd] at HW HDIR2
      refine HW.out.mono ?_
      rintro e w5 ⟨rfl,m5,rfl⟩
      have HFN:=Hd (HF1.out.trans' (HF3.out.drewN (nq+m5)) (fun k hk e=>by rw[HZ.out] at hk;omega))
      clear HW HA3 HF3 hwd
      go_wp2_with fail
      go_ret2
      unfold DirPost
      rw[←HDIR2.out]
      exact⟨rfl,HFN.out⟩
    |some d2=>
      have hok2:=D.widen_ok HOK2.out hwd
      rw[hwd] at HW HDIR2
      refine HW.out.mono ?_
      rintro e w5 ⟨rfl,hf5,hR5⟩
      have HFN:=Hd ((HF3.out.drewN nq).trans hf5)
      have HR5:=Hd hR5
      have HOK5:=Hd hok2
      clear HW HA3 HF3 hwd hf5 hR5 hok2
      go_wp2_with fail
      go_roundw
      case rel=>exact⟨k+1,2*vv,d2,by omega,by go_num,by go_num,by omega,HOK5.out.1,HOK5.out.2,HR5.out,HFN.out,by rw[hm2];exact HDIR2.out⟩
      case measure=>simp[intOf];omega
  ·obtain rfl:k=n:=by omega
   rw[Nat.sub_self] at hdir
   have hdir2:D.direct k 0 d=.ok (vv,e):=hdir.symm
   have HDIR:=Hd hdir2
   have hf13:=HF1.out.trans' hfr (fun k hk e=>by rw[HZ.out] at hk;omega)
   have hQ3:=HD.out.keep hf13
   have x0:wr.cell? ⟨z,0,none⟩=some (.slice pp d.b.length cap):=cell_in hAe.box rfl
   have x1:wr.cell? ⟨z,1,none⟩=some (.int .i64 e.read):=cell_in hAe.box rfl
   have x2:wr.cell? ⟨z,2,none⟩=some (.int .i64 e.rng):=cell_in hAe.box rfl
   have x3:wr.cell? ⟨z,3,none⟩=some (.int .i64 e.now):=cell_in hAe.box rfl
   have v0:wr.cell? ⟨Q,0,none⟩=some (.slice pp d.b.length cap):=cell_in hQ3.box rfl
   have v1:wr.cell? ⟨Q,1,none⟩=some (.int .i64 d.read):=cell_in hQ3.box rfl
   have v2:wr.cell? ⟨Q,2,none⟩=some (.int .i64 d.rng):=cell_in hQ3.box rfl
   have v3:wr.cell? ⟨Q,3,none⟩=some (.int .i64 d.now):=cell_in hQ3.box rfl
   have y0:=frozen_in hQ3.box 0
   have y1:=frozen_in hQ3.box 1
   have y2:=frozen_in hQ3.box 2
   have y3:=frozen_in hQ3.box 3
   have hE:=store_end hQ3 hAe
   have HE:=Hd (And.intro (hf13.mono (T:=fun k=>k=Q) (fun _ _ h=>h.elim)) hE)
   have hvl:vv<4294967296:=Nat.lt_of_lt_of_le hv (Nat.pow_le_pow_right (n:=2) (by omega) hn)
   have hw1:IntKind.u32.wrap (vv:Int)=vv:=IntWalk.u32_in _ (by omega)
   clear hf13 hQ3 hE hAe hfr hdir hdir2
   go_wp2_with fail
   go_ret2
   unfold DirPost
   rw[HDIR.out]
   exact⟨rfl,HE.out.1.trans HE.out.2.1,HE.out.2.2⟩
end Rf
end Go.Proofs.YtilegoadokmcdaaGreatDoor
