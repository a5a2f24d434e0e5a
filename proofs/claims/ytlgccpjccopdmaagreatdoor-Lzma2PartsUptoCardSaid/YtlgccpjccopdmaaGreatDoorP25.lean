/- Part 25 of 55: lemmas of the last part, each under the conditions that it names. -/
import Derived.Test.YtlgccpjccopdmaaGreatDoorP15
import Derived.Test.YtlgccpjccopdmaaGreatDoorP24
set_option linter.unusedVariables false
set_option linter.unusedSimpArgs false
set_option maxRecDepth 1500
set_option maxHeartbeats 4000000
namespace Go.Proofs.YtlgccpjccopdmaaGreatDoor
open Go.RowKit
namespace Ck
open Mem Wire
theorem G.fin3{w0 wk:World}{z2 z8 B n:Nat}{v2:Value}{xs:List UInt8}{c:Array Value}(h:G w0 wk z2 z8 B n v2 xs c){a b d a0 a1 a2 a3 a4 a5:Value}:Fr (fun _=>False) w0 (((((((((wk.setCell ⟨z8,3,none⟩ a).setCell ⟨z8,4,none⟩ b).setCell ⟨z8,5,none⟩ d).setCell ⟨z2,0,none⟩ a0).setCell ⟨z2,1,none⟩ a1).setCell ⟨z2,2,none⟩ a2).setCell ⟨z2,3,none⟩ a3).setCell ⟨z2,4,none⟩ a4).setCell ⟨z2,5,none⟩ a5):=
 (((h.set 3 a).set 4 b).set 5 d).fin Ck.set6
theorem byteProps_bad(b p q r:Nat)(hb:b<256)(hp:p=b%9)(hq:q=b/9%5)(hr:r=b/45)(w:World)(hbad:St.propsBad p q r=true):
 Calls Tryz.prog 199 #[.int .i64 b] w fun e w'=>e=.returned (.tuple #[.agg #[.int .i64 0,.int .i64 0,.int .i64 0],.int .i64 2])∧Fr (fun _=>False) w w':=St.byteProps_in b p q r hb hp hq hr w true hbad
theorem byteProps_good(b p q r:Nat)(hb:b<256)(hp:p=b%9)(hq:q=b/9%5)(hr:r=b/45)(w:World)(hbad:St.propsBad p q r=false):
 Calls Tryz.prog 199 #[.int .i64 b] w fun e w'=>e=.returned (.tuple #[.agg #[.int .i64 p,.int .i64 q,.int .i64 r],.int .i64 0])∧Fr (fun _=>False) w w':=St.byteProps_in b p q r hb hp hq hr w false hbad
set_option maxRecDepth 100000 in
theorem get_bad(v:Value)(ys:List UInt8)(w:World)(hr:Rd w v ys)(h0:0<ys.length)(hl:ys.length≤1099511627776)(xs:List UInt8)(hxs:xs=ys.take 6)(hx3:128≤(xs.getD 0 0).toNat)(hlen:xs.length=6)(hq2:¬((xs.getD 0 0).toNat-128)/32<2)(hok:St.bytePropsOk (xs.getD 5 0).toNat=false):
 Calls Tryz.prog 145 #[v] w fun e w'=>e=.returned (.tuple #[.agg Head.none.cells,.int .i64 0,.int .i64 2])∧Fr (fun _=>False) w w':=by
 obtain⟨p,cap,rfl,hc1,hc2,h3⟩:=hr
 have hr:Rd w (.slice p ys.length cap) ys:=⟨p,cap,rfl,hc1,hc2,h3⟩
 have hxl:xs.length=min ys.length 6:=by rw[hxs,List.length_take];omega
 have hx1:0<xs.length:=by omega
 have hel:=el_at hx1
 have hxb:=UInt8.toNat_lt (xs.getD 0 0)
 have hf0:=(Fr.refl (fun _=>False) w).alloc (.cells zeros 47)
 have hz:=heap_alloc_new w (.cells zeros 47)
 have hall:∃M:Nat,Rd w (.slice p M cap) xs∧M=xs.length∧M≤6∧((ys.length≤6∧M=ys.length)∨(6<ys.length∧M=6)):=by
  by_cases h6:ys.length≤6
  ·have e:xs=ys:=by rw[hxs,List.take_of_length_le h6]
   exact⟨ys.length,e ▸ hr,by rw[e],h6,.inl ⟨h6,rfl⟩⟩
  ·have h1:=rd_take (m:=6) hr (by omega)
   exact⟨6,hxs ▸ h1,by omega,by omega,.inr ⟨by omega,rfl⟩⟩
 obtain⟨M,hrx,hM,hM6,hcase⟩:=hall
 have HNR:=Hd (newReader_calls (.slice p M cap) xs _ (hrx.keep hf0) hx1 (by omega))
 have HZ:=Hd hz
 have HF:=Hd hf0
 have HEL:=Hd hel
 have HXL:=Hd hxl
 clear hr hrx hf0 hz hel hxl h3 hxs hM
 generalize hx:(xs.getD 0 0).toNat=x at*
 have HXX:=Hd hx
 clear hx
 have hsl:=Win.slice_hbI p ys.length cap M (M:Int) rfl (by omega)
 generalize ys.length=yl at*
 have hq:((x:Int)-128)/32=((x-128)/32:Nat):=by omega
 have hq3:(x-128)/32≤3:=by omega
 generalize(x-128)/32=q at*
 have h31:=and_31 x hxb
 have h31l:x%32<32:=Nat.mod_lt _ (by omega)
 generalize x%32=m at*
 have hbn1:=beV2_lt (xs.drop 1)
 generalize hn1:beV (xs.drop 1) 2=n1 at*
 have Hn1:=Hd hn1
 clear hn1
 have hbn2:=beV2_lt (xs.drop 3)
 generalize hn2:beV (xs.drop 3) 2=n2 at*
 have Hn2:=Hd hn2
 clear hn2
 have HEL5:=Hd (el_at (show 5<xs.length by omega))
 have hyb:=UInt8.toNat_lt (xs.getD 5 0)
 generalize hy:(xs.getD 5 0).toNat=yb at*
 have HYY:=Hd hy
 clear hy
 obtain⟨p9,hp9⟩:∃p9,p9=yb%9:=⟨_,rfl⟩
 obtain⟨p5,hp5⟩:∃p5,p5=yb/9%5:=⟨_,rfl⟩
 obtain⟨p45,hp45⟩:∃p45,p45=yb/45:=⟨_,rfl⟩
 have HBP:=fun W=>Hd (byteProps_bad yb p9 p5 p45 hyb hp9 hp5 hp45 W (by unfold St.bytePropsOk at hok;unfold St.propsBad;simp at hok ⊢;omega))
 clear hp9 hp5 hp45 hok
 obtain⟨h6,rfl⟩|⟨h6,rfl⟩:=hcase
 all_goals go_enter Tryz.func145,Tryz.ntmps145
 all_goals
  go_wp2_with fail
  refine HNR.out.mono ?_
  rintro e w1 ⟨hfr1,B,v2,rfl,hR1,hB1,hv2⟩
  have HU:=Hd (u8_calls B 0 v2 xs _ w1 hR1 HEL.out)
  rw[HXX.out] at HU
  have HR1:=Hd hR1
  have HF1:=Hd hfr1
  have HV2:=Hd hv2
  clear hfr1 hR1 hv2
  go_wp2_with fail
  refine HU.out.mono ?_
  rintro e w2 ⟨rfl,hfr2,hR2⟩
  have hf3:=(Fr.refl (fun _=>False) w2).alloc (.cells zeros 47)
  have hz3:=heap_alloc_new w2 (.cells zeros 47)
  have HG:=Hd (show G w (w2.alloc (.cells zeros 47)) w.heap.size w2.heap.size B 1 v2 xs zeros from by
   have s1:=HF1.out.size
   have s2:=hfr2.size
   simp only[World.size_alloc] at s1 hB1
   have e1:=hfr2.keep (HF1.out.keep HZ.out (fun h=>h)) (fun(e:w.heap.size=B)=>by omega)
   refine⟨((HF.out.trans HF1.out).trans' hfr2 (fun i hi(e:i=B)=>by omega)).trans hf3,hf3.keep e1 (fun h=>h),hz3,rdr_keep0 hR2 hf3,Nat.le_refl _,by omega,by omega,by omega,fun k hk=> ?_⟩
   have h1:=HV2.out k hk
   have h2:=rd_lt hR2.rd (by have:=HXL.out;omega) k hk
   simp only[World.size_alloc] at h1
   omega)
  clear hfr2 hR2 hf3 hz3 HR1 HF1 HV2 HZ HF HNR HU
  have e0:((x:Int)==0)=false:=by simp;omega
  have q8:=HG.out.b8
  have c0:=cell_in (i:=0) q8 rfl
  have cf:=fun i=>frozen_in q8 i
  clear q8
  go_wp2_with fail
  replace HG:=Hd (show G w (w2.alloc (.cells #[.int .i64 (3+(q:Int)),.int .i64 0,.int .i64 0,.int .i64 0,.int .i64 0,.int .i64 0] 47)) w.heap.size w2.heap.size B 1 v2 xs #[.int .i64 (3+(q:Int)),.int .i64 0,.int .i64 0,.int .i64 0,.int .i64 0,.int .i64 0] from HG.out.lay _)
  generalize w.heap.size=z2 at*
  generalize w2.heap.size=z8 at*
  generalize w2.alloc (.cells #[.int .i64 (3+(q:Int)),.int .i64 0,.int .i64 0,.int .i64 0,.int .i64 0,.int .i64 0] 47)=wk at*
  clear c0 cf
  have HH:=Hd (high_calls B 1 v2 xs wk HG.out.rdr (by have:=HXL.out;omega))
  rw[Hn1.out] at HH
  refine HH.out.mono ?_
  rintro e w4 ⟨rfl,hfr,hR⟩
  replace HG:=Hd (HG.out.call hfr hR)
  clear hfr hR HH wk
  obtain⟨wk,rfl⟩:∃wk,wk=w4:=⟨_,rfl⟩
  go_wp2_with fail
  have HH:=Hd (high_calls B 3 v2 xs wk HG.out.rdr (by have:=HXL.out;omega))
  rw[Hn2.out] at HH
  refine HH.out.mono ?_
  rintro e w5 ⟨rfl,hfr,hR⟩
  replace HG:=Hd (HG.out.call hfr hR)
  clear hfr hR HH wk
  obtain⟨wk,rfl⟩:∃wk,wk=w5:=⟨_,rfl⟩
  have q8:=HG.out.b8
  obtain⟨c0,c1,c2,c3,c4,c5,cf⟩:=cf6 q8 rfl rfl rfl rfl rfl rfl
  clear q8
  go_wp2_with fail
  replace HG:=Hd (show G w ((wk.setCell ⟨z8,1,none⟩ (.int .i64 ((m:Int)*65536+n1+1))).setCell ⟨z8,2,none⟩ (.int .i64 ((n2:Int)+1))) z2 z8 B 5 v2 xs #[.int .i64 (3+(q:Int)),.int .i64 ((m:Int)*65536+n1+1),.int .i64 ((n2:Int)+1),.int .i64 0,.int .i64 0,.int .i64 0] from(HG.out.set 1 _).set 2 _)
  generalize(wk.setCell ⟨z8,1,none⟩ (.int .i64 ((m:Int)*65536+n1+1))).setCell ⟨z8,2,none⟩ (.int .i64 ((n2:Int)+1))=w6 at*
  clear c0 c1 c2 c3 c4 c5 cf
  have HU:=Hd (u8_calls B 5 v2 xs _ w6 HG.out.rdr HEL5.out)
  rw[HYY.out] at HU
  refine HU.out.mono ?_
  rintro e w7 ⟨rfl,hfr,hR⟩
  replace HG:=Hd (HG.out.call hfr hR)
  clear hfr hR HU
  go_wp2_with fail
  refine(HBP w7).out.mono ?_
  rintro e w8 ⟨rfl,hfr⟩
  replace HG:=Hd (HG.out.keep hfr)
  clear hfr HBP
  have q8:=HG.out.b8
  obtain⟨c0,c1,c2,c3,c4,c5,cf⟩:=cf6 q8 rfl rfl rfl rfl rfl rfl
  clear q8
  have q2:=HG.out.b2
  obtain⟨a0,a1,a2,a3,a4,a5,af⟩:=cf6 q2 rfl rfl rfl rfl rfl rfl
  clear q2
  have ne1:=HG.out.ne
  have ne2:=HG.out.ne.symm
  go_wp2_with fail
  refine bodyPost_ret (v:=.tuple #[.agg #[.int .i64 0,.int .i64 0,.int .i64 0,.int .i64 0,.int .i64 0,.int .i64 0],.int .i64 0,.int .i64 2]) (by simp[results,Tryz.results145,go_sem,a0,a1,a2,a3,a4,a5]) rfl ?_
  exact⟨rfl,HG.out.fin3⟩
set_option maxRecDepth 100000 in
theorem get_props(v:Value)(ys:List UInt8)(w:World)(hr:Rd w v ys)(h0:0<ys.length)(hl:ys.length≤1099511627776)(xs:List UInt8)(hxs:xs=ys.take 6)(hx3:128≤(xs.getD 0 0).toNat)(hlen:xs.length=6)(hq2:¬((xs.getD 0 0).toNat-128)/32<2)(hok:St.bytePropsOk (xs.getD 5 0).toNat=true):
 Calls Tryz.prog 145 #[v] w fun e w'=>e=.returned (.tuple #[.agg (Head.mk (3+((xs.getD 0 0).toNat-128)/32) ((xs.getD 0 0).toNat%32*65536+beV (xs.drop 1) 2+1) (beV (xs.drop 3) 2+1) ((xs.getD 5 0).toNat%9) ((xs.getD 5 0).toNat/9%5) ((xs.getD 5 0).toNat/45)).cells,.int .i64 6,.int .i64 0])∧Fr (fun _=>False) w w':=by
 obtain⟨p,cap,rfl,hc1,hc2,h3⟩:=hr
 have hr:Rd w (.slice p ys.length cap) ys:=⟨p,cap,rfl,hc1,hc2,h3⟩
 have hxl:xs.length=min ys.length 6:=by rw[hxs,List.length_take];omega
 have hx1:0<xs.length:=by omega
 have hel:=el_at hx1
 have hxb:=UInt8.toNat_lt (xs.getD 0 0)
 have hf0:=(Fr.refl (fun _=>False) w).alloc (.cells zeros 47)
 have hz:=heap_alloc_new w (.cells zeros 47)
 have hall:∃M:Nat,Rd w (.slice p M cap) xs∧M=xs.length∧M≤6∧((ys.length≤6∧M=ys.length)∨(6<ys.length∧M=6)):=by
  by_cases h6:ys.length≤6
  ·have e:xs=ys:=by rw[hxs,List.take_of_length_le h6]
   exact⟨ys.length,e ▸ hr,by rw[e],h6,.inl ⟨h6,rfl⟩⟩
  ·have h1:=rd_take (m:=6) hr (by omega)
   exact⟨6,hxs ▸ h1,by omega,by omega,.inr ⟨by omega,rfl⟩⟩
 obtain⟨M,hrx,hM,hM6,hcase⟩:=hall
 have HNR:=Hd (newReader_calls (.slice p M cap) xs _ (hrx.keep hf0) hx1 (by omega))
 have HZ:=Hd hz
 have HF:=Hd hf0
 have HEL:=Hd hel
 have HXL:=Hd hxl
 clear hr hrx hf0 hz hel hxl h3 hxs hM
 generalize hx:(xs.getD 0 0).toNat=x at*
 have HXX:=Hd hx
 clear hx
 have hsl:=Win.slice_hbI p ys.length cap M (M:Int) rfl (by omega)
 generalize ys.length=yl at*
 have hq:((x:Int)-128)/32=((x-128)/32:Nat):=by omega
 have hq3:(x-128)/32≤3:=by omega
 generalize(x-128)/32=q at*
 have h31:=and_31 x hxb
 have h31l:x%32<32:=Nat.mod_lt _ (by omega)
 generalize x%32=m at*
 have hbn1:=beV2_lt (xs.drop 1)
 generalize hn1:beV (xs.drop 1) 2=n1 at*
 have Hn1:=Hd hn1
 clear hn1
 have hbn2:=beV2_lt (xs.drop 3)
 generalize hn2:beV (xs.drop 3) 2=n2 at*
 have Hn2:=Hd hn2
 clear hn2
 have HEL5:=Hd (el_at (show 5<xs.length by omega))
 have hyb:=UInt8.toNat_lt (xs.getD 5 0)
 generalize hy:(xs.getD 5 0).toNat=yb at*
 have HYY:=Hd hy
 clear hy
 obtain⟨p9,hp9⟩:∃p9,p9=yb%9:=⟨_,rfl⟩
 obtain⟨p5,hp5⟩:∃p5,p5=yb/9%5:=⟨_,rfl⟩
 obtain⟨p45,hp45⟩:∃p45,p45=yb/45:=⟨_,rfl⟩
 have HBP:=fun W=>Hd (byteProps_good yb p9 p5 p45 hyb hp9 hp5 hp45 W (by unfold St.bytePropsOk at hok;unfold St.propsBad;simp at hok ⊢;omega))
 rw[←hp9,←hp5,←hp45]
 clear hp9 hp5 hp45 hok
 obtain⟨h6,rfl⟩|⟨h6,rfl⟩:=hcase
 all_goals go_enter Tryz.func145,Tryz.ntmps145
 all_goals
  go_wp2_with fail
  refine HNR.out.mono ?_
  rintro e w1 ⟨hfr1,B,v2,rfl,hR1,hB1,hv2⟩
  have HU:=Hd (u8_calls B 0 v2 xs _ w1 hR1 HEL.out)
  rw[HXX.out] at HU
  have HR1:=Hd hR1
  have HF1:=Hd hfr1
  have HV2:=Hd hv2
  clear hfr1 hR1 hv2
  go_wp2_with fail
  refine HU.out.mono ?_
  rintro e w2 ⟨rfl,hfr2,hR2⟩
  have hf3:=(Fr.refl (fun _=>False) w2).alloc (.cells zeros 47)
  have hz3:=heap_alloc_new w2 (.cells zeros 47)
  have HG:=Hd (show G w (w2.alloc (.cells zeros 47)) w.heap.size w2.heap.size B 1 v2 xs zeros from by
   have s1:=HF1.out.size
   have s2:=hfr2.size
   simp only[World.size_alloc] at s1 hB1
   have e1:=hfr2.keep (HF1.out.keep HZ.out (fun h=>h)) (fun(e:w.heap.size=B)=>by omega)
   refine⟨((HF.out.trans HF1.out).trans' hfr2 (fun i hi(e:i=B)=>by omega)).trans hf3,hf3.keep e1 (fun h=>h),hz3,rdr_keep0 hR2 hf3,Nat.le_refl _,by omega,by omega,by omega,fun k hk=> ?_⟩
   have h1:=HV2.out k hk
   have h2:=rd_lt hR2.rd (by have:=HXL.out;omega) k hk
   simp only[World.size_alloc] at h1
   omega)
  clear hfr2 hR2 hf3 hz3 HR1 HF1 HV2 HZ HF HNR HU
  have e0:((x:Int)==0)=false:=by simp;omega
  have q8:=HG.out.b8
  have c0:=cell_in (i:=0) q8 rfl
  have cf:=fun i=>frozen_in q8 i
  clear q8
  go_wp2_with fail
  replace HG:=Hd (show G w (w2.alloc (.cells #[.int .i64 (3+(q:Int)),.int .i64 0,.int .i64 0,.int .i64 0,.int .i64 0,.int .i64 0] 47)) w.heap.size w2.heap.size B 1 v2 xs #[.int .i64 (3+(q:Int)),.int .i64 0,.int .i64 0,.int .i64 0,.int .i64 0,.int .i64 0] from HG.out.lay _)
  generalize w.heap.size=z2 at*
  generalize w2.heap.size=z8 at*
  generalize w2.alloc (.cells #[.int .i64 (3+(q:Int)),.int .i64 0,.int .i64 0,.int .i64 0,.int .i64 0,.int .i64 0] 47)=wk at*
  clear c0 cf
  have HH:=Hd (high_calls B 1 v2 xs wk HG.out.rdr (by have:=HXL.out;omega))
  rw[Hn1.out] at HH
  refine HH.out.mono ?_
  rintro e w4 ⟨rfl,hfr,hR⟩
  replace HG:=Hd (HG.out.call hfr hR)
  clear hfr hR HH wk
  obtain⟨wk,rfl⟩:∃wk,wk=w4:=⟨_,rfl⟩
  go_wp2_with fail
  have HH:=Hd (high_calls B 3 v2 xs wk HG.out.rdr (by have:=HXL.out;omega))
  rw[Hn2.out] at HH
  refine HH.out.mono ?_
  rintro e w5 ⟨rfl,hfr,hR⟩
  replace HG:=Hd (HG.out.call hfr hR)
  clear hfr hR HH wk
  obtain⟨wk,rfl⟩:∃wk,wk=w5:=⟨_,rfl⟩
  have q8:=HG.out.b8
  obtain⟨c0,c1,c2,c3,c4,c5,cf⟩:=cf6 q8 rfl rfl rfl rfl rfl rfl
  clear q8
  go_wp2_with fail
  replace HG:=Hd (show G w ((wk.setCell ⟨z8,1,none⟩ (.int .i64 ((m:Int)*65536+n1+1))).setCell ⟨z8,2,none⟩ (.int .i64 ((n2:Int)+1))) z2 z8 B 5 v2 xs #[.int .i64 (3+(q:Int)),.int .i64 ((m:Int)*65536+n1+1),.int .i64 ((n2:Int)+1),.int .i64 0,.int .i64 0,.int .i64 0] from(HG.out.set 1 _).set 2 _)
  generalize(wk.setCell ⟨z8,1,none⟩ (.int .i64 ((m:Int)*65536+n1+1))).setCell ⟨z8,2,none⟩ (.int .i64 ((n2:Int)+1))=w6 at*
  clear c0 c1 c2 c3 c4 c5 cf
  have HU:=Hd (u8_calls B 5 v2 xs _ w6 HG.out.rdr HEL5.out)
  rw[HYY.out] at HU
  refine HU.out.mono ?_
  rintro e w7 ⟨rfl,hfr,hR⟩
  replace HG:=Hd (HG.out.call hfr hR)
  clear hfr hR HU
  go_wp2_with fail
  refine(HBP w7).out.mono ?_
  rintro e w8 ⟨rfl,hfr⟩
  replace HG:=Hd (HG.out.keep hfr)
  clear hfr HBP
  have q8:=HG.out.b8
  obtain⟨c0,c1,c2,c3,c4,c5,cf⟩:=cf6 q8 rfl rfl rfl rfl rfl rfl
  clear q8
  go_wp2_with fail
  replace HG:=Hd (show G w (((w8.setCell ⟨z8,3,none⟩ (.int .i64 p9)).setCell ⟨z8,4,none⟩ (.int .i64 p5)).setCell ⟨z8,5,none⟩ (.int .i64 p45)) z2 z8 B 6 v2 xs #[.int .i64 (3+(q:Int)),.int .i64 ((m:Int)*65536+n1+1),.int .i64 ((n2:Int)+1),.int .i64 p9,.int .i64 p5,.int .i64 p45] from((HG.out.set 3 _).set 4 _).set 5 _)
  generalize((w8.setCell ⟨z8,3,none⟩ (.int .i64 p9)).setCell ⟨z8,4,none⟩ (.int .i64 p5)).setCell ⟨z8,5,none⟩ (.int .i64 p45)=w9 at*
  clear c0 c1 c2 c3 c4 c5 cf
  have q2:=HG.out.b2
  obtain⟨a0,a1,a2,a3,a4,a5,af⟩:=cf6 q2 rfl rfl rfl rfl rfl rfl
  clear q2
  have HSC:=Hd (HG.out.cells' (w':=w9.drew) (Fr.refl _ _).drew)
  have ss:=HSC.out
  obtain⟨c0,c1,c2,c3,c4,c5⟩:=ss
  go_region_held3 (fun w'=>w'.cell? ⟨z8,0,none⟩=some (.int .i64 (3+(q:Int)))∧w'.cell? ⟨z8,1,none⟩=some (.int .i64 ((m:Int)*65536+n1+1))∧w'.cell? ⟨z8,2,none⟩=some (.int .i64 ((n2:Int)+1))∧w'.cell? ⟨z8,3,none⟩=some (.int .i64 p9)∧w'.cell? ⟨z8,4,none⟩=some (.int .i64 p5)∧w'.cell? ⟨z8,5,none⟩=some (.int .i64 p45))
   (first|with_reducible exact HSC.out|(refine HG.out.cells' ?_;((try refine Fr.drew ?_);(repeat refine Fr.setCell ?_ (.inl (by simp)) _);first|exact Fr.refl _ _|exact(Fr.refl _ _).drew))) ((first
   | (go_at_call 198
      refine(HG.out.off' (by((try refine Fr.drew ?_);(repeat refine Fr.setCell ?_ (.inl (by simp)) _);first|exact Fr.refl _ _|exact(Fr.refl _ _).drew))).mono ?_
      rintro e wc ⟨rfl,rfl⟩)))
  all_goals
   go_wp2_with fail
   refine bodyPost_ret (v:=.tuple #[.agg #[.int .i64 (3+(q:Int)),.int .i64 ((m:Int)*65536+n1+1),.int .i64 ((n2:Int)+1),.int .i64 p9,.int .i64 p5,.int .i64 p45],.int .i64 6,.int .i64 0]) (by simp[results,Tryz.results145,go_sem,a0,a1,a2,a3,a4,a5]) rfl ?_
   exact⟨rfl,HG.out.fin (by((try refine Fr.drew ?_);(repeat refine Fr.setCell ?_ (.inl (by simp)) _);first|exact Fr.refl _ _|exact(Fr.refl _ _).drew))⟩
theorem get_calls(v:Value)(ys:List UInt8)(w:World)(hr:Rd w v ys)(h0:0<ys.length)(hl:ys.length≤1099511627776):
 Calls Tryz.prog 145 #[v] w fun e w'=>e=.returned (.tuple #[.agg (get (ys.take 6)).1.cells,.int .i64 (get (ys.take 6)).2.1,.int .i64 (get (ys.take 6)).2.2])∧Fr (fun _=>False) w w':=by
 obtain⟨xs,hxs⟩:∃xs,xs=ys.take 6:=⟨_,rfl⟩
 rw[←hxs]
 have hxl:xs.length=min ys.length 6:=by rw[hxs,List.length_take];omega
 unfold get
 simp only
 rw[if_neg (show¬xs.length=0 by omega)]
 by_cases h1:(xs.getD 0 0).toNat=0
 ·rw[if_pos h1]
  exact get_end v ys w hr h0 hl xs hxs h1
 ·rw[if_neg h1]
  by_cases h2:(xs.getD 0 0).toNat≤2
  ·rw[if_pos h2]
   by_cases h3:xs.length<3
   ·rw[if_pos h3]
    exact get_raw_short v ys w hr h0 hl xs hxs (by omega) h2 h3
   ·rw[if_neg h3]
    exact get_raw v ys w hr h0 hl xs hxs (by omega) h2 (by omega)
  ·rw[if_neg h2]
   by_cases h3:(xs.getD 0 0).toNat<128
   ·rw[if_pos h3]
    exact get_mid v ys w hr h0 hl xs hxs (by omega) h3
   ·rw[if_neg h3]
    by_cases h4:xs.length<5
    ·rw[if_pos h4]
     by_cases h5:xs.length<3
     ·exact get_short1 v ys w hr h0 hl xs hxs (by omega) h5
     ·exact get_short2 v ys w hr h0 hl xs hxs (by omega) (by omega) h4
    ·rw[if_neg h4]
     by_cases h5:((xs.getD 0 0).toNat-128)/32<2
     ·rw[if_pos h5]
      exact get_packed v ys w hr h0 hl xs hxs (by omega) (by omega) h5
     ·rw[if_neg h5]
      by_cases h6:xs.length<6
      ·rw[if_pos h6]
       exact get_short3 v ys w hr h0 hl xs hxs (by omega) (by omega) h5
      ·rw[if_neg h6]
       cases h7:St.bytePropsOk (xs.getD 5 0).toNat with
       |true=>
         rw[if_pos rfl]
         exact get_props v ys w hr h0 hl xs hxs (by omega) (by omega) h5 h7
       |false=>
         rw[if_neg (by decide)]
         exact get_bad v ys w hr h0 hl xs hxs (by omega) (by omega) h5 h7
end Ck
namespace Lz
open Mem Rc St Win
theorem infoSym:(Tryz.prog.info? 96).map (fun i=>(i.zero,i.size,i.bytes))=some (some (.agg #[.int .i64 0,.int .u8 0,.int .i64 0,.int .i64 0]),4,32):=by kernel_rfl
theorem src_sym{w:World}{B:Nat}{sy:Sy}(hB:w.heap[B]? =some (.cells sy.cells 96 (0,0))):Src Tryz.prog 4 63 (.slice (some ⟨B,0,none⟩) 1 1) 1 sy.cells.toList w:=by
 refine Src.ofSlice w Tryz.underlying63 ⟨B,0,none⟩ 1 1 sy.cells.toList rfl (fun j u hu=> ?_) (fun u hu=> ?_)
 ·rw[add_mid,Nat.zero_add]
  exact cell_in hB (by simpa using hu)
 ·simp only[Sy.cells,List.mem_cons,List.not_mem_nil,or_false] at hu
  rcases hu with rfl|rfl|rfl|rfl<;>rfl
theorem append_sym{ops:Array Oper}{rest:List Oper}{o:Oper}{a:Act}{Q:Exit→Act→World→Prop}(hgd:o.guard=none)(s y:Operand)
 (ho:o.op=.call {callee:=.builtin .append,args:=#[s,y],argTypes:=#[63,63]}){w0 w:World}(v:Value)(ls:List Sy)(sy:Sy)(B:Nat)(hv:a.eval s=v)(hx:a.eval y=.slice (some ⟨B,0,none⟩) 1 1)(hm:Syms w0 w v ls)(hle:w0.heap.size≤w.heap.size)
 (hB:w.heap[B]? =some (.cells sy.cells 96 (0,0)))(hb:ls.length≤1099511627776)
 (h:∀v' w',Syms w0 w' v' (ls++[sy])→Fr (fun k=>v.ownBlock=some k) w w'→(∀k,v'.ownBlock=some k→v.ownBlock=some k∨w.heap.size≤k)→wpList Tryz.prog ops Q rest (a.put o.dst v') w'):
 wpList Tryz.prog ops Q (o::rest) a w:=by
 obtain⟨i0,hi,hz0,hz1,hz2⟩:=info_parts infoSym
 refine wpList_append_any w hgd s y 63 63 ho 96 i0 _ 4 32 Tryz.underlying63 hi hz0 hz1 hz2 rfl (by decide) v ls.length (syCells ls) hv hm.own _ 1 sy.cells.toList hx (src_sym hB) (by simp only[maxLen];omega) (by omega) ?_
 intro v' w' hown hfr hnew _
 refine h v' w' ⟨by rw[List.length_append,syCells_snoc];exact hown,fun k hk=> ?_⟩ hfr hnew
 rcases hnew k hk with h|h
 ·exact hm.new k h
 ·omega
end Lz
end Go.Proofs.YtlgccpjccopdmaaGreatDoor
