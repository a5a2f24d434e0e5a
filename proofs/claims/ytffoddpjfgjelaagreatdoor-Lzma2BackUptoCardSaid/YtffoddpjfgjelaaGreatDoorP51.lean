/- Part 51 of 52: lemmas of the last part, each under the conditions that it names. -/
import Derived.Test.YtffoddpjfgjelaaGreatDoorP36
import Derived.Test.YtffoddpjfgjelaaGreatDoorP37
import Derived.Test.YtffoddpjfgjelaaGreatDoorP50
set_option linter.unusedVariables false
set_option linter.unusedSimpArgs false
set_option maxRecDepth 1500
set_option maxHeartbeats 4000000
namespace Go.Proofs.YtffoddpjfgjelaaGreatDoor
open Go.RowKit
namespace Bk
open Mem Rc St Lz En Win Ck Pk
theorem flat6:∀(l:List Head)(i j:Nat)(a:Head),j<6→l[i]? =some a→(Cc.hcs l)[i*6+j]? =a.cells.toList[j]?
 |[],i,j,a,hj,h=>by simp at h
 |x::r,0,j,a,hj,h=>by
   simp only[List.getElem?_cons_zero,Option.some.injEq] at h
   subst h
   show(x.cells.toList++Cc.hcs r)[0*6+j]? =_
   rw[Nat.zero_mul,Nat.zero_add,List.getElem?_append_left (show j<x.cells.toList.length from hj)]
 |x::r,i+1,j,a,hj,h=>by
   show(x.cells.toList++Cc.hcs r)[(i+1)*6+j]? =_
   rw[List.getElem?_append_right (show x.cells.toList.length≤(i+1)*6+j by show 6≤_;omega),show(i+1)*6+j-x.cells.toList.length=i*6+j by show(i+1)*6+j-6=_;omega]
   exact flat6 r i j a hj h
theorem head_cellN{w0 w:World}{p:Option Addr}{n cap:Nat}{l:List Head}(h:Ga.Own 47 6 w0 w (.slice p n cap) n (Cc.hcs l)){k j:Nat}{a:Head}{u:Value}(hk:l[k]? =some a)(hj:j<6)(hu:a.cells.toList[j]? =some u):∃g,p=some ⟨g,0,none⟩∧w.cell? ⟨g,k*6+j,none⟩=some u:=
 h.cell ((flat6 l k j a hj hk).trans hu)
set_option maxRecDepth 100000 in
theorem back_good(cf:Cf)(more:Int)(p q:Option Addr)(cap qc:Nat)(data behind:List UInt8)(w:World)(hT:Tabs w)(hM:Moves w)(hrd:Rd w (.slice p data.length cap) data)(hrb:Rd w (.slice q behind.length qc) behind)(hb:data.length≤4194304)(hb2:behind.length≤4194304)
 (hq:cf.lc+cf.lp≤4∧cf.pb≤4)(hd:4096≤cf.dict∧cf.dict≤67108864)(hm:cf.mode≤2):
 Calls Tryz.prog 4 #[.agg #[.slice p data.length cap,.int .i64 cf.a,.int .i64 cf.b,.int .i64 cf.lc,.int .i64 cf.lp,.int .i64 cf.pb,.int .i64 cf.dict,.int .i64 cf.d,.int .i64 cf.mode,.int .i64 more,.slice q behind.length qc]] w fun e w'=>e=.returned (.bool true)∧Fr (fun _=>False) w w':=by
 have hfa:=(Fr.refl (fun _=>False) w).alloc (.cells #[.slice p data.length cap,.int .i64 cf.a,.int .i64 cf.b,.int .i64 cf.lc,.int .i64 cf.lp,.int .i64 cf.pb,.int .i64 cf.dict,.int .i64 cf.d,.int .i64 cf.mode,.int .i64 more,.slice q behind.length qc] 37)
 have hfb:=hfa.alloc (.cells #[.int .i64 cf.a,.int .i64 cf.b,.int .i64 cf.lc,.int .i64 cf.lp,.int .i64 cf.pb,.int .i64 cf.dict,.int .i64 cf.d,.int .i64 cf.mode] 26)
 have hmk:=((Fr.refl (fun _=>False) (w.alloc (.cells #[.slice p data.length cap,.int .i64 cf.a,.int .i64 cf.b,.int .i64 cf.lc,.int .i64 cf.lp,.int .i64 cf.pb,.int .i64 cf.dict,.int .i64 cf.d,.int .i64 cf.mode,.int .i64 more,.slice q behind.length qc] 37))).alloc (.cells #[.int .i64 cf.a,.int .i64 cf.b,.int .i64 cf.lc,.int .i64 cf.lp,.int .i64 cf.pb,.int .i64 cf.dict,.int .i64 cf.d,.int .i64 cf.mode] 26)).keep (heap_alloc_new w (.cells #[.slice p data.length cap,.int .i64 cf.a,.int .i64 cf.b,.int .i64 cf.lc,.int .i64 cf.lp,.int .i64 cf.pb,.int .i64 cf.dict,.int .i64 cf.d,.int .i64 cf.mode,.int .i64 more,.slice q behind.length qc] 37)) (fun h=>h)
 have hcf:=heap_alloc_new (w.alloc (.cells #[.slice p data.length cap,.int .i64 cf.a,.int .i64 cf.b,.int .i64 cf.lc,.int .i64 cf.lp,.int .i64 cf.pb,.int .i64 cf.dict,.int .i64 cf.d,.int .i64 cf.mode,.int .i64 more,.slice q behind.length qc] 37)) (.cells #[.int .i64 cf.a,.int .i64 cf.b,.int .i64 cf.lc,.int .i64 cf.lp,.int .i64 cf.pb,.int .i64 cf.dict,.int .i64 cf.d,.int .i64 cf.mode] 26)
 rw[World.size_alloc] at hcf
 have HFB:=Hd hfb
 have HMK:=Hd hmk
 have HCF:=Hd hcf
 have HRD:=Hd hrd
 have HRB:=Hd hrb
 have HT:=Hd hT
 have HM:=Hd hM
 clear hfa hfb hmk hcf hrd hrb hT hM
 go_enter Tryz.func4,Tryz.ntmps4
 go_upto_region 4 with fail
 obtain⟨W0,hW0⟩:∃W0,(w.alloc (.cells #[.slice p data.length cap,.int .i64 cf.a,.int .i64 cf.b,.int .i64 cf.lc,.int .i64 cf.lp,.int .i64 cf.pb,.int .i64 cf.dict,.int .i64 cf.d,.int .i64 cf.mode,.int .i64 more,.slice q behind.length qc] 37)).alloc (.cells #[.int .i64 cf.a,.int .i64 cf.b,.int .i64 cf.lc,.int .i64 cf.lp,.int .i64 cf.pb,.int .i64 cf.dict,.int .i64 cf.d,.int .i64 cf.mode] 26)=W0:=⟨_,rfl⟩
 rw[hW0] at HFB HMK HCF ⊢
 clear hW0
 have HEN:=Hd (show∀(pj:Option Addr)(cj:Nat)(W:World),Fr (fun _=>False) W0 W→Rd W (.slice pj data.length cj) data→Calls Tryz.prog 9 #[.slice pj data.length cj,.agg #[.int .i64 cf.a,.int .i64 cf.b,.int .i64 cf.lc,.int .i64 cf.lp,.int .i64 cf.pb,.int .i64 cf.dict,.int .i64 cf.d,.int .i64 cf.mode]] W (EncPost cf data W) from fun pj cj W hf hr=>encodeX_calls cf pj cj data W (HT.out.keep (HFB.out.trans hf)) hr (by omega) hq hd hm)
 go_cut [6,7] (fun s6 s7 wx=>∃(t:Pst)(B:List UInt8)(p6:Option Addr)(c6:Nat),s6=.slice p6 B.length c6∧s7=.int .i64 0∧t.Whole data cf.dict cf.pr (decide (cf.mode=0))∧t.out cf.dict++[0]=B∧Mine W0 wx (.slice p6 B.length c6) B∧Fr (fun _=>False) W0 wx)
 case first=>
  have HS:=Hd (show∀w':World,Fr (fun _=>False) W0 w'→w'.cell? ⟨w.heap.size+1,0,none⟩=some (.int .i64 cf.a)∧w'.cell? ⟨w.heap.size+1,1,none⟩=some (.int .i64 cf.b)∧w'.cell? ⟨w.heap.size+1,2,none⟩=some (.int .i64 cf.lc)∧w'.cell? ⟨w.heap.size+1,3,none⟩=some (.int .i64 cf.lp)∧w'.cell? ⟨w.heap.size+1,4,none⟩=some (.int .i64 cf.pb)∧w'.cell? ⟨w.heap.size+1,5,none⟩=some (.int .i64 cf.dict)∧w'.cell? ⟨w.heap.size+1,6,none⟩=some (.int .i64 cf.d)∧w'.cell? ⟨w.heap.size+1,7,none⟩=some (.int .i64 cf.mode) from fun w' hf=>
   have h:=hf.keep HCF.out (fun h=>h)
   ⟨cell_in (i:=0) h rfl,cell_in (i:=1) h rfl,cell_in (i:=2) h rfl,cell_in (i:=3) h rfl,cell_in (i:=4) h rfl,cell_in (i:=5) h rfl,cell_in (i:=6) h rfl,cell_in (i:=7) h rfl⟩)
  have FC:=Hd (Fr.refl (fun _=>False) W0).drew
  have HSC:=Hd (HS.out _ FC.out)
  obtain⟨e0,e1,e2,e3,e4,e5,e6,e7⟩:=HSC.out
  go_region_held3 (fun w'=>w'.cell? ⟨w.heap.size+1,0,none⟩=some (.int .i64 cf.a)∧w'.cell? ⟨w.heap.size+1,1,none⟩=some (.int .i64 cf.b)∧w'.cell? ⟨w.heap.size+1,2,none⟩=some (.int .i64 cf.lc)∧w'.cell? ⟨w.heap.size+1,3,none⟩=some (.int .i64 cf.lp)∧w'.cell? ⟨w.heap.size+1,4,none⟩=some (.int .i64 cf.pb)∧w'.cell? ⟨w.heap.size+1,5,none⟩=some (.int .i64 cf.dict)∧w'.cell? ⟨w.heap.size+1,6,none⟩=some (.int .i64 cf.d)∧w'.cell? ⟨w.heap.size+1,7,none⟩=some (.int .i64 cf.mode)) (first|with_reducible exact HSC.out) ((first
   | (go_at_call 13
      refine(joined_calls (.slice p data.length cap) (.slice none 0 0) data [] _ (HRD.out.keep (HFB.out.trans FC.out)) (rd_nil _) (by omega) (by decide)).mono ?_
      rintro e wc ⟨hfc,v,rfl,hmv⟩
      rw[List.append_nil] at hmv
      obtain⟨pj,cj,rfl⟩:=hmv.slice
      have FC:=Hd (FC.out.trans hfc)
      have HSC:=Hd (HS.out _ FC.out)
      obtain⟨e0,e1,e2,e3,e4,e5,e6,e7⟩:=HSC.out
      have HMJ:=Hd hmv
      clear hfc hmv)
   | (go_at_call 9
      refine(HEN.out pj cj _ FC.out HMJ.out.rd).mono ?_
      rintro e we ⟨hfe,t,v,rfl,hwh,hme⟩
      obtain⟨B,hB⟩:∃B,t.out cf.dict++[0]=B:=⟨_,rfl⟩
      rw[hB] at hme
      obtain⟨p6,c6,rfl⟩:=hme.slice
      have hw0:=FC.out.size
      have HMN:=Hd (show Mine W0 we (.slice p6 B.length c6) B from⟨hme.own,fun k hk=>Nat.le_trans hw0 (hme.new k hk)⟩)
      have HB:=Hd hB
      clear hB
      have HWH:=Hd hwh
      have FC:=Hd (FC.out.trans hfe)
      have HSC:=Hd (HS.out _ FC.out)
      obtain⟨e0,e1,e2,e3,e4,e5,e6,e7⟩:=HSC.out
      clear hfe hwh hme)))
  all_goals go_wp2_with fail
  all_goals go_meet
  all_goals exact⟨t,B,p6,c6,rfl,rfl,HWH.out,HB.out,HMN.out,FC.out⟩
 case rest=>
  obtain⟨t,B,p6,c6,rfl,rfl,hwh,hB,hmb,hfr⟩:=hcut
  obtain⟨A,m,hA,hm2,_,hm1⟩:=more_of more
  obtain⟨hm4,hm5,hm6,hm7,hm8⟩:=sum_of cf.dict m hd.2 hm1
  have HMO:=Hd (And.intro hA (And.intro hm2 (And.intro hm4 (And.intro hm5 (And.intro hm6 hm7)))))
  clear hA hm2 hm4 hm5 hm6 hm7
  have hl:=fun g hg1 hg2=>hwh.law (g:=g) (by omega) hg1 hg2 behind
  obtain⟨hlen1,hheads⟩:=hwh.heads
  have hll:=(hl (cf.dict+m) (Nat.le_add_right _ _) hm8)
  have e1:t.out cf.dict++0::behind=B++behind:=by rw[←hB];simp
  have e2:(t.out cf.dict).length+1=B.length:=by rw[←hB];simp
  rw[e1,e2] at hll
  obtain⟨hl1,hl2,hl3⟩:=hll
  obtain⟨BB,hBB⟩:∃BB,B++behind=BB:=⟨_,rfl⟩
  have hBBl:BB.length=B.length+behind.length:=by rw[←hBB,List.length_append]
  rw[hBB] at hl1 hl2
  have HBB:=Hd hBB
  have HBBL:=Hd hBBl
  clear hBB hBBl
  obtain⟨P,hP⟩:∃P,P=(data.length+65535)/65536:=⟨_,rfl⟩
  rw[←hP] at hl3 hlen1
  have hBl:B.length≤8388608:=by omega
  have HWH:=Hd hwh
  have HMB:=Hd hmb
  have HFR:=Hd hfr
  have HL1:=Hd hl1
  have HL2:=Hd hl2
  have HP:=Hd hP
  have HLEN1:=Hd hlen1
  have HHEADS:=Hd hheads
  have HM1:=Hd hm1
  have HB:=Hd hB
  obtain⟨c0,c1,c2,c3,c4,c5⟩:=cs6 (hfr.keep HCF.out (fun h=>h)) rfl rfl rfl rfl rfl rfl
  have c6':=cell_in (i:=6) (hfr.keep HCF.out (fun h=>h)) rfl
  have c7:=cell_in (i:=7) (hfr.keep HCF.out (fun h=>h)) rfl
  have t1:decide ((B.length:Int)>(data.length:Int)+3*(P:Int)+1)=false:=decide_eq_false (by omega)
  have t2:decide ((data.length:Int)+3*(P:Int)+1<(B.length:Int))=false:=decide_eq_false (by omega)
  have hPb:P≤65:=by omega
  have z1:((data.length:Int)+65535)/65536=(P:Int):=by omega
  have z2:((data.length:Int)+65535).tdiv 65536=(P:Int):=by rw[hP];rfl
  clear hwh hl e1 e2 hl1 hl2 hl3 hlen1 hheads hmb hfr hP hm1 hm8 hB
  have HG:=Hd (goodC_of hq hd hm)
  go_wp2_with fail
  refine(right_calls cf.a cf.b cf.lc cf.lp cf.pb cf.dict cf.d cf.mode wc (by omega) (by omega) (by omega)).mono ?_
  rw[HG.out]
  rintro e w5 ⟨rfl,hf5⟩
  have HF5:=Hd (HFR.out.trans hf5)
  have HMB5:=Hd (HMB.out.keep hf5)
  clear hf5 c0 c1 c2 c3 c4 c5 c6' c7
  go_wp2_with fail
  refine(fixed_calls _ (HT.out.keep (HFB.out.trans HF5.out)) (HM.out.step (HFB.out.trans HF5.out) (fun _ h=>h.elim))).mono ?_
  rintro e w6 ⟨rfl,hf6⟩
  have HF6:=Hd (HF5.out.trans hf6)
  have HMB6:=Hd (HMB5.out.keep hf6)
  have hmk:=HF6.out.keep HMK.out (fun h=>h)
  have hcf:=HF6.out.keep HCF.out (fun h=>h)
  have m9:=cell_in (i:=9) hmk rfl
  have c5:=cell_in (i:=5) hcf rfl
  clear hf6 hmk hcf
  obtain⟨hA,hm2,hm4,hm5,hm6,hm7⟩:=HMO.out
  go_wp2_with fail
  clear hA hm2 hm4 hm5 hm6 hm7 z1 z2 t1 t2 m9 c5
  refine(joined_calls (.slice p6 B.length c6) (.slice q behind.length qc) B behind w6 HMB6.out.rd (HRB.out.keep (HFB.out.trans HF6.out)) (by omega) (by omega)).mono ?_
  rintro e w7 ⟨hf7,v7,rfl,hM7⟩
  rw[HBB.out] at hM7
  have hbl:BB.length≤16777216:=by rw[HBBL.out];omega
  have HBL:=Hd hbl
  have HF7:=Hd (HF6.out.trans hf7)
  have HMB7:=Hd (HMB6.out.keep hf7)
  have HDC:=Hd (decode_calls BB ((cf.dict:Int)+(m:Int)) (-1) (-1) w7 v7 (HT.out.keep (HFB.out.trans HF7.out)) hM7.rd (HM.out.step (HFB.out.trans HF7.out) (fun _ h=>h.elim)) hbl)
  have hl1:=HL1.out
  rw[Int.natCast_add] at hl1
  rw[hl1] at HDC
  obtain⟨p7,c7,rfl⟩:=hM7.slice
  clear hf7 hM7 hbl hl1
  go_wp2_with fail
  refine HDC.out.mono ?_
  rintro e w8 ⟨hf8,v8,rfl,hM8⟩
  obtain⟨p8,c8,rfl⟩:=hM8.slice
  have HF8:=Hd (HF7.out.trans hf8)
  have HMB8:=Hd (HMB7.out.keep hf8)
  have hcv1:(convert 22 9 (.slice p8 data.length c8)).run Tryz.prog w8=.ok (.string (str data)) w8:=conv_str hM8.rd
  have hcv2:(convert 22 9 (.slice p data.length cap)).run Tryz.prog w8=.ok (.string (str data)) w8:=conv_str (HRD.out.keep (HFB.out.trans HF8.out))
  have hnn:((B.length:Int) !=(B.length:Int))=false:=by simp
  have hss:((str data).toList !=(str data).toList)=false:=by simp
  clear hf8 hM8
  go_wp2_with fail
  clear hcv1 hcv2 hss
  refine(joined_calls (.slice p6 B.length c6) (.slice q behind.length qc) B behind w8 HMB8.out.rd (HRB.out.keep (HFB.out.trans HF8.out)) (by omega) (by omega)).mono ?_
  rintro e w9 ⟨hf9,v9,rfl,hM9⟩
  rw[HBB.out] at hM9
  have HF9:=Hd (HF8.out.trans hf9)
  have HCC:=Hd (Cc.chunks_calls BB w9 v9 hM9.rd (HM.out.step (HFB.out.trans HF9.out) (fun _ h=>h.elim)) ((HT.out.keep (HFB.out.trans HF9.out)).size) HBL.out)
  rw[HL2.out] at HCC
  obtain⟨p9,c9,rfl⟩:=hM9.slice
  clear hf9 hM9
  go_wp2_with fail
  refine HCC.out.mono ?_
  rintro e w10 ⟨hf10,v10,rfl,hH⟩
  have HF10:=Hd (HF9.out.trans hf10)
  obtain⟨L,hL⟩:∃L,(t.row cf.dict).map (·.1)++[Head.none]=L:=⟨_,rfl⟩
  rw[hL] at hH
  have hLn:L.length=P+1:=by rw[←hL,List.length_append,List.length_map,HLEN1.out];rfl
  have hLk:∀k,k<P→∃h:Head,L[k]? =some h∧h.size=min (data.length-65536*k) 65536∧h.kind≠0:=fun k hk=>by
   have hk2:k<(t.row cf.dict).length:=by rw[HLEN1.out];exact hk
   obtain⟨a1,a2⟩:=HHEADS.out k (t.row cf.dict)[k] (by simp[hk2])
   refine⟨(t.row cf.dict)[k].1,?_,a1,a2⟩
   rw[←hL,List.getElem?_append_left (by rw[List.length_map];exact hk2),List.getElem?_map,List.getElem?_eq_getElem hk2]
   rfl
  have hLe:L[P]? =some Head.none:=by
   rw[←hL,List.getElem?_append_right (by rw[List.length_map,HLEN1.out];exact Nat.le_refl _),List.length_map,HLEN1.out,Nat.sub_self]
   rfl
  rw[Cc.Heads,hLn] at hH
  obtain⟨pl,cl,rfl⟩:=hH.slice
  have hcell:=fun k h j u(hk:L[k]? =some h)(hj:j<6)(hu:h.cells.toList[j]? =some u)=>head_cellN hH hk hj hu
  have HLK:=Hd hLk
  have HLE:=Hd hLe
  have HCELL:=Hd hcell
  have hPP:(((P:Int)+1) !=((P:Int)+1))=false:=by simp
  clear hf10 hH hL hLn hLk hLe hcell HCC HDC
  go_wp2_with fail
  go_loopw [17,18](fun s17 s18 wr=>∃k:Nat,k≤P∧s18=.int .i64 k∧s17=.int .i64 ((data.length-65536*k:Nat):Int)∧wr=w10) (fun _ s18 _=>P-(intOf s18).toNat)
  case atStart=>exact⟨0,Nat.zero_le _,rfl,by simp,rfl⟩
  case round=>
   obtain⟨k,hk,rfl,rfl,rfl⟩:=hrel
   obtain⟨lf,hlf⟩:∃lf,data.length-65536*k=lf:=⟨_,rfl⟩
   rw[hlf]
   have HLF:=Hd hlf
   have hlf0:lf≤4194304:=by omega
   by_cases hlt:k<P
   ·have hd1:decide ((k:Int)<(P:Int))=true:=decide_eq_true (by omega)
    obtain⟨h,hh1,hh2,hh3⟩:=HLK.out k hlt
    obtain⟨g,rfl,q0⟩:=HCELL.out k h 0 (.int .i64 h.kind) hh1 (by decide) rfl
    obtain⟨g',hg',q1⟩:=HCELL.out k h 1 (.int .i64 h.size) hh1 (by decide) rfl
    simp only[Option.some.injEq,Addr.mk.injEq,and_true] at hg'
    subst hg'
    rw[hlf] at hh2
    rw[Nat.add_zero] at q0
    obtain⟨kd,hkd⟩:∃kd,h.kind=kd:=⟨_,rfl⟩
    rw[hkd] at q0 hh3
    have hk0:((kd:Int)==0)=false:=by simp;omega
    clear hkd hh1 hlf
    by_cases h6:65536<lf
    ·have d1:decide ((lf:Int)>65536)=true:=decide_eq_true (by omega)
     have d2:decide ((65536:Int)<lf)=true:=decide_eq_true (by omega)
     have hsz:h.size=65536:=by omega
     rw[hsz] at q1
     clear hh2 hsz hh3
     go_wp2_with fail
     go_roundw
     case rel=>exact⟨k+1,by omega,by go_num,by rw[show data.length-65536*(k+1)=lf-65536 by have:=HLF.out;omega,Int.ofNat_sub (by omega)];rfl,by first|rfl|trivial⟩
     case measure=>simp[intOf];omega
    ·have d1:decide ((lf:Int)>65536)=false:=decide_eq_false (by omega)
     have d2:decide ((65536:Int)<lf)=false:=decide_eq_false (by omega)
     have hsz:h.size=lf:=by omega
     rw[hsz] at q1
     have hee:((lf:Int) !=(lf:Int))=false:=by simp
     clear hh2 hsz hh3
     go_wp2_with fail
     go_roundw
     case rel=>exact⟨k+1,by omega,by go_num,by rw[show data.length-65536*(k+1)=0 by have:=HLF.out;omega];simp,by first|rfl|trivial⟩
     case measure=>simp[intOf];omega
   ·have hd1:decide ((k:Int)<(P:Int))=false:=decide_eq_false (by omega)
    obtain rfl:k=P:=by omega
    have hl0:lf=0:=by have:=HP.out;omega
    subst hl0
    obtain⟨g,rfl,q0⟩:=HCELL.out k Head.none 0 (.int .i64 0) HLE.out (by decide) rfl
    obtain⟨g1,hg1,q1⟩:=HCELL.out k Head.none 1 (.int .i64 0) HLE.out (by decide) rfl
    obtain⟨g2,hg2,q2⟩:=HCELL.out k Head.none 2 (.int .i64 0) HLE.out (by decide) rfl
    obtain⟨g3,hg3,q3⟩:=HCELL.out k Head.none 3 (.int .i64 0) HLE.out (by decide) rfl
    obtain⟨g4,hg4,q4⟩:=HCELL.out k Head.none 4 (.int .i64 0) HLE.out (by decide) rfl
    obtain⟨g5,hg5,q5⟩:=HCELL.out k Head.none 5 (.int .i64 0) HLE.out (by decide) rfl
    rw[Nat.add_zero] at q0
    simp only[Option.some.injEq,Addr.mk.injEq,and_true] at hg1 hg2 hg3 hg4 hg5
    subst hg1 hg2 hg3 hg4 hg5
    clear hlf
    go_wp2_with fail
    go_ret
    exact⟨rfl,HFB.out.trans HF10.out⟩
end Bk
namespace Bk
open Mem Rc St Lz En Win Ck Pk
set_option maxRecDepth 100000 in
theorem back_bad(a b lc lp pb dict d mode more:Int)(p q:Option Addr)(cap qc:Nat)(data behind:List UInt8)(w:World)(hT:Tabs w)(hM:Moves w)(hrd:Rd w (.slice p data.length cap) data)(hb:data.length≤4194304)
 (b_lc:-9223372036854775808≤lc∧lc≤9223372036854775807)(b_lp:-9223372036854775808≤lp∧lp≤9223372036854775807)(b_pb:-9223372036854775808≤pb∧pb≤9223372036854775807)(hbad:goodC lc lp pb dict mode=false):
 Calls Tryz.prog 4 #[.agg #[.slice p data.length cap,.int .i64 a,.int .i64 b,.int .i64 lc,.int .i64 lp,.int .i64 pb,.int .i64 dict,.int .i64 d,.int .i64 mode,.int .i64 more,.slice q behind.length qc]] w fun e w'=>e=.returned (.bool true)∧Fr (fun _=>False) w w':=by
 have hfa:=(Fr.refl (fun _=>False) w).alloc (.cells #[.slice p data.length cap,.int .i64 a,.int .i64 b,.int .i64 lc,.int .i64 lp,.int .i64 pb,.int .i64 dict,.int .i64 d,.int .i64 mode,.int .i64 more,.slice q behind.length qc] 37)
 have hfb:=hfa.alloc (.cells #[.int .i64 a,.int .i64 b,.int .i64 lc,.int .i64 lp,.int .i64 pb,.int .i64 dict,.int .i64 d,.int .i64 mode] 26)
 have hcf:=heap_alloc_new (w.alloc (.cells #[.slice p data.length cap,.int .i64 a,.int .i64 b,.int .i64 lc,.int .i64 lp,.int .i64 pb,.int .i64 dict,.int .i64 d,.int .i64 mode,.int .i64 more,.slice q behind.length qc] 37)) (.cells #[.int .i64 a,.int .i64 b,.int .i64 lc,.int .i64 lp,.int .i64 pb,.int .i64 dict,.int .i64 d,.int .i64 mode] 26)
 rw[World.size_alloc] at hcf
 have HFB:=Hd hfb
 have HCF:=Hd hcf
 have HRD:=Hd hrd
 have HT:=Hd hT
 have HM:=Hd hM
 have HEN:=Hd (fun(dv:Value)(W:World)=>encode_bad a b lc lp pb dict d mode dv W b_lc b_lp b_pb hbad)
 have HRI:=Hd (fun(W:World)=>right_calls a b lc lp pb dict d mode W b_lc b_lp b_pb)
 rw[hbad] at HRI
 clear hfa hfb hcf hrd hT hM b_lc b_lp b_pb hbad
 go_enter Tryz.func4,Tryz.ntmps4
 go_upto_region 4 with fail
 obtain⟨W0,hW0⟩:∃W0,(w.alloc (.cells #[.slice p data.length cap,.int .i64 a,.int .i64 b,.int .i64 lc,.int .i64 lp,.int .i64 pb,.int .i64 dict,.int .i64 d,.int .i64 mode,.int .i64 more,.slice q behind.length qc] 37)).alloc (.cells #[.int .i64 a,.int .i64 b,.int .i64 lc,.int .i64 lp,.int .i64 pb,.int .i64 dict,.int .i64 d,.int .i64 mode] 26)=W0:=⟨_,rfl⟩
 rw[hW0] at HFB HCF ⊢
 clear hW0
 have HS:=Hd (show∀w':World,Fr (fun _=>False) W0 w'→w'.cell? ⟨w.heap.size+1,0,none⟩=some (.int .i64 a)∧w'.cell? ⟨w.heap.size+1,1,none⟩=some (.int .i64 b)∧w'.cell? ⟨w.heap.size+1,2,none⟩=some (.int .i64 lc)∧w'.cell? ⟨w.heap.size+1,3,none⟩=some (.int .i64 lp)∧w'.cell? ⟨w.heap.size+1,4,none⟩=some (.int .i64 pb)∧w'.cell? ⟨w.heap.size+1,5,none⟩=some (.int .i64 dict)∧w'.cell? ⟨w.heap.size+1,6,none⟩=some (.int .i64 d)∧w'.cell? ⟨w.heap.size+1,7,none⟩=some (.int .i64 mode) from fun w' hf=>
  have h:=hf.keep HCF.out (fun h=>h)
  ⟨cell_in (i:=0) h rfl,cell_in (i:=1) h rfl,cell_in (i:=2) h rfl,cell_in (i:=3) h rfl,cell_in (i:=4) h rfl,cell_in (i:=5) h rfl,cell_in (i:=6) h rfl,cell_in (i:=7) h rfl⟩)
 go_cut [6,7] (fun s6 s7 wx=>s6=.slice none 0 0∧s7=.int .i64 6∧Fr (fun _=>False) W0 wx)
 case first=>
  have FC:=Hd (Fr.refl (fun _=>False) W0).drew
  have HSC:=Hd (HS.out _ FC.out)
  obtain⟨e0,e1,e2,e3,e4,e5,e6,e7⟩:=HSC.out
  go_region_held3 (fun w'=>w'.cell? ⟨w.heap.size+1,0,none⟩=some (.int .i64 a)∧w'.cell? ⟨w.heap.size+1,1,none⟩=some (.int .i64 b)∧w'.cell? ⟨w.heap.size+1,2,none⟩=some (.int .i64 lc)∧w'.cell? ⟨w.heap.size+1,3,none⟩=some (.int .i64 lp)∧w'.cell? ⟨w.heap.size+1,4,none⟩=some (.int .i64 pb)∧w'.cell? ⟨w.heap.size+1,5,none⟩=some (.int .i64 dict)∧w'.cell? ⟨w.heap.size+1,6,none⟩=some (.int .i64 d)∧w'.cell? ⟨w.heap.size+1,7,none⟩=some (.int .i64 mode)) (first|with_reducible exact HSC.out) ((first
   | (go_at_call 13
      refine(joined_calls (.slice p data.length cap) (.slice none 0 0) data [] _ (HRD.out.keep (HFB.out.trans FC.out)) (rd_nil _) (by omega) (by decide)).mono ?_
      rintro e wc ⟨hfc,v,rfl,hmv⟩
      have FC:=Hd (FC.out.trans hfc)
      have HSC:=Hd (HS.out _ FC.out)
      obtain⟨e0,e1,e2,e3,e4,e5,e6,e7⟩:=HSC.out
      clear hfc hmv)
   | (go_at_call 9
      refine(HEN.out v _).mono ?_
      rintro e we ⟨hfe,rfl⟩
      have FC:=Hd (FC.out.trans hfe)
      have HSC:=Hd (HS.out _ FC.out)
      obtain⟨e0,e1,e2,e3,e4,e5,e6,e7⟩:=HSC.out
      clear hfe)))
  all_goals go_wp2_with fail
  all_goals go_meet
  all_goals exact⟨rfl,rfl,FC.out⟩
 case rest=>
  obtain⟨rfl,rfl,hfr⟩:=hcut
  have HFR:=Hd hfr
  obtain⟨e0,e1,e2,e3,e4,e5,e6,e7⟩:=HS.out _ hfr
  clear hfr
  go_wp2_with fail
  refine(HRI.out wc).mono ?_
  rintro e w5 ⟨rfl,hf5⟩
  have HF5:=Hd (HFR.out.trans hf5)
  clear hf5 e0 e1 e2 e3 e4 e5 e6 e7
  go_wp2_with fail
  refine(fixed_calls _ (HT.out.keep (HFB.out.trans HF5.out)) (HM.out.step (HFB.out.trans HF5.out) (fun _ h=>h.elim))).mono ?_
  rintro e w6 ⟨rfl,hf6⟩
  have HF6:=Hd (HF5.out.trans hf6)
  clear hf6
  go_wp2_with fail
  go_ret
  exact⟨rfl,HFB.out.trans HF6.out⟩
theorem good_cf{lc lp pb dict mode:Int}(h:goodC lc lp pb dict mode=true)(a b d:Int):∃cf:Cf,cf.a=a∧cf.b=b∧cf.lc=lc∧cf.lp=lp∧cf.pb=pb∧cf.dict=dict∧cf.d=d∧cf.mode=mode∧(cf.lc+cf.lp≤4∧cf.pb≤4)∧(4096≤cf.dict∧cf.dict≤67108864)∧cf.mode≤2:=by
 unfold goodC propsBad at h
 simp only[Bool.and_eq_true,Bool.not_eq_true',decide_eq_false_iff_not,decide_eq_true_eq] at h
 obtain⟨h1,h2,h3,h4,h5⟩:=h
 refine⟨⟨a,b,lc.toNat,lp.toNat,pb.toNat,dict.toNat,d,mode.toNat⟩,rfl,rfl,?_,?_,?_,?_,rfl,?_,?_,?_,?_⟩
 all_goals(simp only;omega)
theorem back_calls(a b lc lp pb dict d mode more:Int)(dv hv:Value)(data behind:List UInt8)(w:World)(hT:Tabs w)(hM:Moves w)(hrd:Rd w dv data)(hrb:Rd w hv behind)(hb:data.length≤4194304)(hb2:behind.length≤4194304)
 (b_lc:-9223372036854775808≤lc∧lc≤9223372036854775807)(b_lp:-9223372036854775808≤lp∧lp≤9223372036854775807)(b_pb:-9223372036854775808≤pb∧pb≤9223372036854775807):
 Calls Tryz.prog 4 #[.agg #[dv,.int .i64 a,.int .i64 b,.int .i64 lc,.int .i64 lp,.int .i64 pb,.int .i64 dict,.int .i64 d,.int .i64 mode,.int .i64 more,hv]] w fun e w'=>e=.returned (.bool true)∧Fr (fun _=>False) w w':=by
 obtain⟨p,cap,rfl,_⟩:=id hrd
 obtain⟨q,qc,rfl,_⟩:=id hrb
 cases hg:goodC lc lp pb dict mode with
 |false=>exact back_bad a b lc lp pb dict d mode more p q cap qc data behind w hT hM hrd hb b_lc b_lp b_pb hg
 |true=>
   obtain⟨cf,rfl,rfl,rfl,rfl,rfl,rfl,rfl,rfl,h1,h2,h3⟩:=good_cf hg a b d
   exact back_good cf more p q cap qc data behind w hT hM hrd hrb hb hb2 h1 h2 h3
end Bk
end Go.Proofs.YtffoddpjfgjelaaGreatDoor
