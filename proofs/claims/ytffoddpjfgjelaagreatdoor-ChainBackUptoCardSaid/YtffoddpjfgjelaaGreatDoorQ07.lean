/- Part 7 of 48: lemmas of the last part, each under the conditions that it names. -/
import Derived.LoopN
import Derived.WalkLawsBesides
import Derived.Deep.QuietTactic
import Derived.BigQuiet
import Derived.IntWalk
import Derived.Test.YtffoddpjfgjelaaGreatDoorRows
import Derived.WalkKit
import Derived.WalkSpells
import Derived.Lib.Hide
import Derived.Deep.RegionWith
import Derived.Test.YtffoddpjfgjelaaGreatDoorQ01
import Derived.Test.YtffoddpjfgjelaaGreatDoorQ02
import Derived.Test.YtffoddpjfgjelaaGreatDoorQ04
import Derived.Test.YtffoddpjfgjelaaGreatDoorQ06
set_option linter.unusedVariables false
set_option linter.unusedSimpArgs false
set_option maxRecDepth 1500
set_option maxHeartbeats 4000000
namespace Go.Proofs.YtffoddpjfgjelaaGreatDoor
open Go.RowKit
namespace Ck
open Mem Wire
theorem G.fin3{w0 wk:World}{z2 z8 B n:Nat}{v2:Value}{xs:List UInt8}{c:Array Value}(h:G w0 wk z2 z8 B n v2 xs c){a b d a0 a1 a2 a3 a4 a5:Value}:Fr (fun _=>False) w0 (((((((((wk.setCell ⟨z8,3,none⟩ a).setCell ⟨z8,4,none⟩ b).setCell ⟨z8,5,none⟩ d).setCell ⟨z2,0,none⟩ a0).setCell ⟨z2,1,none⟩ a1).setCell ⟨z2,2,none⟩ a2).setCell ⟨z2,3,none⟩ a3).setCell ⟨z2,4,none⟩ a4).setCell ⟨z2,5,none⟩ a5):=
 (((h.set 3 a).set 4 b).set 5 d).fin Ck.set6
theorem byteProps_bad(b p q r:Nat)(hb:b<256)(hp:p=b%9)(hq:q=b/9%5)(hr:r=b/45)(w:World)(hbad:St.propsBad p q r=true):
 Calls Tryz.prog 227 #[.int .i64 b] w fun e w'=>e=.returned (.tuple #[.agg #[.int .i64 0,.int .i64 0,.int .i64 0],.int .i64 2])∧Fr (fun _=>False) w w':=St.byteProps_in b p q r hb hp hq hr w true hbad
theorem byteProps_good(b p q r:Nat)(hb:b<256)(hp:p=b%9)(hq:q=b/9%5)(hr:r=b/45)(w:World)(hbad:St.propsBad p q r=false):
 Calls Tryz.prog 227 #[.int .i64 b] w fun e w'=>e=.returned (.tuple #[.agg #[.int .i64 p,.int .i64 q,.int .i64 r],.int .i64 0])∧Fr (fun _=>False) w w':=St.byteProps_in b p q r hb hp hq hr w false hbad
set_option maxRecDepth 100000 in
theorem get_bad(v:Value)(ys:List UInt8)(w:World)(hr:Rd w v ys)(h0:0<ys.length)(hl:ys.length≤1099511627776)(xs:List UInt8)(hxs:xs=ys.take 6)(hx3:128≤(xs.getD 0 0).toNat)(hlen:xs.length=6)(hq2:¬((xs.getD 0 0).toNat-128)/32<2)(hok:St.bytePropsOk (xs.getD 5 0).toNat=false):
 Calls Tryz.prog 164 #[v] w fun e w'=>e=.returned (.tuple #[.agg Head.none.cells,.int .i64 0,.int .i64 2])∧Fr (fun _=>False) w w':=by
 obtain⟨p,cap,rfl,hc1,hc2,h3⟩:=hr
 have hr:Rd w (.slice p ys.length cap) ys:=⟨p,cap,rfl,hc1,hc2,h3⟩
 have hxl:xs.length=min ys.length 6:=by rw[hxs,List.length_take];omega
 have hx1:0<xs.length:=by omega
 have hel:=el_at hx1
 have hxb:=UInt8.toNat_lt (xs.getD 0 0)
 have hf0:=(R0 w).alloc (.cells zeros 47)
 have hz:=heap_alloc_new w (.cells zeros 47)
 have hall:∃M:Nat,Rd w (.slice p M cap) xs∧M=xs.length∧M≤6∧((ys.length≤6∧M=ys.length)∨(6<ys.length∧M=6)):=by
  by_cases h6:ys.length≤6
  ·have e:xs=ys:=by rw[hxs,List.take_of_length_le h6]
   exact⟨ys.length,e ▸ hr,by rw[e],h6,.inl ⟨h6,rfl⟩⟩
  ·have h1:=rd_take (m:=6) hr (by omega)
   exact⟨6,hxs ▸ h1,by omega,by omega,.inr ⟨by omega,rfl⟩⟩
 obtain⟨M,hrx,hM,hM6,hcase⟩:=hall
 have HNR:=Hd (newReader_calls (.slice p M cap) xs _ (hrx.keep hf0) hx1 (by omega))
 have HZ:=Hd hz
 have HF:=Hd hf0
 have HEL:=Hd hel
 have HXL:=Hd hxl
 clear hr hrx hf0 hz hel hxl h3 hxs hM
 generalize hx:(xs.getD 0 0).toNat=x at*
 have HXX:=Hd hx
 clear hx
 have hsl:=Win.slice_hbI p ys.length cap M (M:Int) rfl (by omega)
 generalize ys.length=yl at*
 have hq:((x:Int)-128)/32=((x-128)/32:Nat):=by omega
 have hq3:(x-128)/32≤3:=by omega
 generalize(x-128)/32=q at*
 have h31:=and_31 x hxb
 have h31l:x%32<32:=Nat.mod_lt _ (by omega)
 generalize x%32=m at*
 have hbn1:=beV2_lt (xs.drop 1)
 generalize hn1:beV (xs.drop 1) 2=n1 at*
 have Hn1:=Hd hn1
 clear hn1
 have hbn2:=beV2_lt (xs.drop 3)
 generalize hn2:beV (xs.drop 3) 2=n2 at*
 have Hn2:=Hd hn2
 clear hn2
 have HEL5:=Hd (el_at (show 5<xs.length by omega))
 have hyb:=UInt8.toNat_lt (xs.getD 5 0)
 generalize hy:(xs.getD 5 0).toNat=yb at*
 have HYY:=Hd hy
 clear hy
 obtain⟨p9,hp9⟩:∃p9,p9=yb%9:=⟨_,rfl⟩
 obtain⟨p5,hp5⟩:∃p5,p5=yb/9%5:=⟨_,rfl⟩
 obtain⟨p45,hp45⟩:∃p45,p45=yb/45:=⟨_,rfl⟩
 have HBP:=fun W=>Hd (byteProps_bad yb p9 p5 p45 hyb hp9 hp5 hp45 W (by unfold St.bytePropsOk at hok;unfold St.propsBad;simp at hok ⊢;omega))
 clear hp9 hp5 hp45 hok
 obtain⟨h6,rfl⟩|⟨h6,rfl⟩:=hcase
 all_goals go_enter Tryz.func164,Tryz.ntmps164
 all_goals
  go_wp2_with fail
  refine HNR.out.mono ?_
  rintro e w1 ⟨hfr1,B,v2,rfl,hR1,hB1,hv2⟩
  have HU:=Hd (u8_calls B 0 v2 xs _ w1 hR1 HEL.out)
  rw[HXX.out] at HU
  have HR1:=Hd hR1
  have HF1:=Hd hfr1
  have HV2:=Hd hv2
  clear hfr1 hR1 hv2
  go_wp2_with fail
  refine HU.out.mono ?_
  rintro e w2 ⟨rfl,hfr2,hR2⟩
  have hf3:=(R0 w2).alloc (.cells zeros 47)
  have hz3:=heap_alloc_new w2 (.cells zeros 47)
  have HG:=Hd (show G w (w2.alloc (.cells zeros 47)) w.heap.size w2.heap.size B 1 v2 xs zeros from by
   have s1:=HF1.out.size
   have s2:=hfr2.size
   simp only[World.size_alloc] at s1 hB1
   have e1:=hfr2.keep (HF1.out.keep HZ.out (fun h=>h)) (fun(e:w.heap.size=B)=>by omega)
   refine⟨((HF.out.trans HF1.out).trans' hfr2 (fun i hi(e:i=B)=>by omega)).trans hf3,hf3.keep e1 (fun h=>h),hz3,rdr_keep0 hR2 hf3,Nat.le_refl _,by omega,by omega,by omega,fun k hk=> ?_⟩
   have h1:=HV2.out k hk
   have h2:=rd_lt hR2.rd (by have:=HXL.out;omega) k hk
   simp only[World.size_alloc] at h1
   omega)
  clear hfr2 hR2 hf3 hz3 HR1 HF1 HV2 HZ HF HNR HU
  have e0:((x:Int)==0)=false:=by simp;omega
  have q8:=HG.out.b8
  have c0:=cell_in (i:=0) q8 rfl
  have cf:=fun i=>frozen_in q8 i
  clear q8
  go_wp2_with fail
  replace HG:=Hd (show G w (w2.alloc (.cells #[.int .i64 (3+(q:Int)),.int .i64 0,.int .i64 0,.int .i64 0,.int .i64 0,.int .i64 0] 47)) w.heap.size w2.heap.size B 1 v2 xs #[.int .i64 (3+(q:Int)),.int .i64 0,.int .i64 0,.int .i64 0,.int .i64 0,.int .i64 0] from HG.out.lay _)
  generalize w.heap.size=z2 at*
  generalize w2.heap.size=z8 at*
  generalize w2.alloc (.cells #[.int .i64 (3+(q:Int)),.int .i64 0,.int .i64 0,.int .i64 0,.int .i64 0,.int .i64 0] 47)=wk at*
  clear c0 cf
  have HH:=Hd (high_calls B 1 v2 xs wk HG.out.rdr (by have:=HXL.out;omega))
  rw[Hn1.out] at HH
  refine HH.out.mono ?_
  rintro e w4 ⟨rfl,hfr,hR⟩
  replace HG:=Hd (HG.out.call hfr hR)
  clear hfr hR HH wk
  obtain⟨wk,rfl⟩:∃wk,wk=w4:=⟨_,rfl⟩
  go_wp2_with fail
  have HH:=Hd (high_calls B 3 v2 xs wk HG.out.rdr (by have:=HXL.out;omega))
  rw[Hn2.out] at HH
  refine HH.out.mono ?_
  rintro e w5 ⟨rfl,hfr,hR⟩
  replace HG:=Hd (HG.out.call hfr hR)
  clear hfr hR HH wk
  obtain⟨wk,rfl⟩:∃wk,wk=w5:=⟨_,rfl⟩
  have q8:=HG.out.b8
  obtain⟨c0,c1,c2,c3,c4,c5,cf⟩:=cf6 q8 rfl rfl rfl rfl rfl rfl
  clear q8
  go_wp2_with fail
  replace HG:=Hd (show G w ((wk.setCell ⟨z8,1,none⟩ (.int .i64 ((m:Int)*65536+n1+1))).setCell ⟨z8,2,none⟩ (.int .i64 ((n2:Int)+1))) z2 z8 B 5 v2 xs #[.int .i64 (3+(q:Int)),.int .i64 ((m:Int)*65536+n1+1),.int .i64 ((n2:Int)+1),.int .i64 0,.int .i64 0,.int .i64 0] from(HG.out.set 1 _).set 2 _)
  generalize(wk.setCell ⟨z8,1,none⟩ (.int .i64 ((m:Int)*65536+n1+1))).setCell ⟨z8,2,none⟩ (.int .i64 ((n2:Int)+1))=w6 at*
  clear c0 c1 c2 c3 c4 c5 cf
  have HU:=Hd (u8_calls B 5 v2 xs _ w6 HG.out.rdr HEL5.out)
  rw[HYY.out] at HU
  refine HU.out.mono ?_
  rintro e w7 ⟨rfl,hfr,hR⟩
  replace HG:=Hd (HG.out.call hfr hR)
  clear hfr hR HU
  go_wp2_with fail
  refine(HBP w7).out.mono ?_
  rintro e w8 ⟨rfl,hfr⟩
  replace HG:=Hd (HG.out.keep hfr)
  clear hfr HBP
  have q8:=HG.out.b8
  obtain⟨c0,c1,c2,c3,c4,c5,cf⟩:=cf6 q8 rfl rfl rfl rfl rfl rfl
  clear q8
  have q2:=HG.out.b2
  obtain⟨a0,a1,a2,a3,a4,a5,af⟩:=cf6 q2 rfl rfl rfl rfl rfl rfl
  clear q2
  have ne1:=HG.out.ne
  have ne2:=HG.out.ne.symm
  go_wp2_with fail
  refine bodyPost_ret (v:=.tuple #[.agg #[.int .i64 0,.int .i64 0,.int .i64 0,.int .i64 0,.int .i64 0,.int .i64 0],.int .i64 0,.int .i64 2]) (by simp[results,Tryz.results164,go_sem,a0,a1,a2,a3,a4,a5]) rfl ?_
  exact⟨rfl,HG.out.fin3⟩
set_option maxRecDepth 100000 in
theorem get_props(v:Value)(ys:List UInt8)(w:World)(hr:Rd w v ys)(h0:0<ys.length)(hl:ys.length≤1099511627776)(xs:List UInt8)(hxs:xs=ys.take 6)(hx3:128≤(xs.getD 0 0).toNat)(hlen:xs.length=6)(hq2:¬((xs.getD 0 0).toNat-128)/32<2)(hok:St.bytePropsOk (xs.getD 5 0).toNat=true):
 Calls Tryz.prog 164 #[v] w fun e w'=>e=.returned (.tuple #[.agg (Head.mk (3+((xs.getD 0 0).toNat-128)/32) ((xs.getD 0 0).toNat%32*65536+beV (xs.drop 1) 2+1) (beV (xs.drop 3) 2+1) ((xs.getD 5 0).toNat%9) ((xs.getD 5 0).toNat/9%5) ((xs.getD 5 0).toNat/45)).cells,.int .i64 6,.int .i64 0])∧Fr (fun _=>False) w w':=by
 obtain⟨p,cap,rfl,hc1,hc2,h3⟩:=hr
 have hr:Rd w (.slice p ys.length cap) ys:=⟨p,cap,rfl,hc1,hc2,h3⟩
 have hxl:xs.length=min ys.length 6:=by rw[hxs,List.length_take];omega
 have hx1:0<xs.length:=by omega
 have hel:=el_at hx1
 have hxb:=UInt8.toNat_lt (xs.getD 0 0)
 have hf0:=(R0 w).alloc (.cells zeros 47)
 have hz:=heap_alloc_new w (.cells zeros 47)
 have hall:∃M:Nat,Rd w (.slice p M cap) xs∧M=xs.length∧M≤6∧((ys.length≤6∧M=ys.length)∨(6<ys.length∧M=6)):=by
  by_cases h6:ys.length≤6
  ·have e:xs=ys:=by rw[hxs,List.take_of_length_le h6]
   exact⟨ys.length,e ▸ hr,by rw[e],h6,.inl ⟨h6,rfl⟩⟩
  ·have h1:=rd_take (m:=6) hr (by omega)
   exact⟨6,hxs ▸ h1,by omega,by omega,.inr ⟨by omega,rfl⟩⟩
 obtain⟨M,hrx,hM,hM6,hcase⟩:=hall
 have HNR:=Hd (newReader_calls (.slice p M cap) xs _ (hrx.keep hf0) hx1 (by omega))
 have HZ:=Hd hz
 have HF:=Hd hf0
 have HEL:=Hd hel
 have HXL:=Hd hxl
 clear hr hrx hf0 hz hel hxl h3 hxs hM
 generalize hx:(xs.getD 0 0).toNat=x at*
 have HXX:=Hd hx
 clear hx
 have hsl:=Win.slice_hbI p ys.length cap M (M:Int) rfl (by omega)
 generalize ys.length=yl at*
 have hq:((x:Int)-128)/32=((x-128)/32:Nat):=by omega
 have hq3:(x-128)/32≤3:=by omega
 generalize(x-128)/32=q at*
 have h31:=and_31 x hxb
 have h31l:x%32<32:=Nat.mod_lt _ (by omega)
 generalize x%32=m at*
 have hbn1:=beV2_lt (xs.drop 1)
 generalize hn1:beV (xs.drop 1) 2=n1 at*
 have Hn1:=Hd hn1
 clear hn1
 have hbn2:=beV2_lt (xs.drop 3)
 generalize hn2:beV (xs.drop 3) 2=n2 at*
 have Hn2:=Hd hn2
 clear hn2
 have HEL5:=Hd (el_at (show 5<xs.length by omega))
 have hyb:=UInt8.toNat_lt (xs.getD 5 0)
 generalize hy:(xs.getD 5 0).toNat=yb at*
 have HYY:=Hd hy
 clear hy
 obtain⟨p9,hp9⟩:∃p9,p9=yb%9:=⟨_,rfl⟩
 obtain⟨p5,hp5⟩:∃p5,p5=yb/9%5:=⟨_,rfl⟩
 obtain⟨p45,hp45⟩:∃p45,p45=yb/45:=⟨_,rfl⟩
 have HBP:=fun W=>Hd (byteProps_good yb p9 p5 p45 hyb hp9 hp5 hp45 W (by unfold St.bytePropsOk at hok;unfold St.propsBad;simp at hok ⊢;omega))
 rw[←hp9,←hp5,←hp45]
 clear hp9 hp5 hp45 hok
 obtain⟨h6,rfl⟩|⟨h6,rfl⟩:=hcase
 all_goals go_enter Tryz.func164,Tryz.ntmps164
 all_goals
  go_wp2_with fail
  refine HNR.out.mono ?_
  rintro e w1 ⟨hfr1,B,v2,rfl,hR1,hB1,hv2⟩
  have HU:=Hd (u8_calls B 0 v2 xs _ w1 hR1 HEL.out)
  rw[HXX.out] at HU
  have HR1:=Hd hR1
  have HF1:=Hd hfr1
  have HV2:=Hd hv2
  clear hfr1 hR1 hv2
  go_wp2_with fail
  refine HU.out.mono ?_
  rintro e w2 ⟨rfl,hfr2,hR2⟩
  have hf3:=(R0 w2).alloc (.cells zeros 47)
  have hz3:=heap_alloc_new w2 (.cells zeros 47)
  have HG:=Hd (show G w (w2.alloc (.cells zeros 47)) w.heap.size w2.heap.size B 1 v2 xs zeros from by
   have s1:=HF1.out.size
   have s2:=hfr2.size
   simp only[World.size_alloc] at s1 hB1
   have e1:=hfr2.keep (HF1.out.keep HZ.out (fun h=>h)) (fun(e:w.heap.size=B)=>by omega)
   refine⟨((HF.out.trans HF1.out).trans' hfr2 (fun i hi(e:i=B)=>by omega)).trans hf3,hf3.keep e1 (fun h=>h),hz3,rdr_keep0 hR2 hf3,Nat.le_refl _,by omega,by omega,by omega,fun k hk=> ?_⟩
   have h1:=HV2.out k hk
   have h2:=rd_lt hR2.rd (by have:=HXL.out;omega) k hk
   simp only[World.size_alloc] at h1
   omega)
  clear hfr2 hR2 hf3 hz3 HR1 HF1 HV2 HZ HF HNR HU
  have e0:((x:Int)==0)=false:=by simp;omega
  have q8:=HG.out.b8
  have c0:=cell_in (i:=0) q8 rfl
  have cf:=fun i=>frozen_in q8 i
  clear q8
  go_wp2_with fail
  replace HG:=Hd (show G w (w2.alloc (.cells #[.int .i64 (3+(q:Int)),.int .i64 0,.int .i64 0,.int .i64 0,.int .i64 0,.int .i64 0] 47)) w.heap.size w2.heap.size B 1 v2 xs #[.int .i64 (3+(q:Int)),.int .i64 0,.int .i64 0,.int .i64 0,.int .i64 0,.int .i64 0] from HG.out.lay _)
  generalize w.heap.size=z2 at*
  generalize w2.heap.size=z8 at*
  generalize w2.alloc (.cells #[.int .i64 (3+(q:Int)),.int .i64 0,.int .i64 0,.int .i64 0,.int .i64 0,.int .i64 0] 47)=wk at*
  clear c0 cf
  have HH:=Hd (high_calls B 1 v2 xs wk HG.out.rdr (by have:=HXL.out;omega))
  rw[Hn1.out] at HH
  refine HH.out.mono ?_
  rintro e w4 ⟨rfl,hfr,hR⟩
  replace HG:=Hd (HG.out.call hfr hR)
  clear hfr hR HH wk
  obtain⟨wk,rfl⟩:∃wk,wk=w4:=⟨_,rfl⟩
  go_wp2_with fail
  have HH:=Hd (high_calls B 3 v2 xs wk HG.out.rdr (by have:=HXL.out;omega))
  rw[Hn2.out] at HH
  refine HH.out.mono ?_
  rintro e w5 ⟨rfl,hfr,hR⟩
  replace HG:=Hd (HG.out.call hfr hR)
  clear hfr hR HH wk
  obtain⟨wk,rfl⟩:∃wk,wk=w5:=⟨_,rfl⟩
  have q8:=HG.out.b8
  obtain⟨c0,c1,c2,c3,c4,c5,cf⟩:=cf6 q8 rfl rfl rfl rfl rfl rfl
  clear q8
  go_wp2_with fail
  replace HG:=Hd (show G w ((wk.setCell ⟨z8,1,none⟩ (.int .i64 ((m:Int)*65536+n1+1))).setCell ⟨z8,2,none⟩ (.int .i64 ((n2:Int)+1))) z2 z8 B 5 v2 xs #[.int .i64 (3+(q:Int)),.int .i64 ((m:Int)*65536+n1+1),.int .i64 ((n2:Int)+1),.int .i64 0,.int .i64 0,.int .i64 0] from(HG.out.set 1 _).set 2 _)
  generalize(wk.setCell ⟨z8,1,none⟩ (.int .i64 ((m:Int)*65536+n1+1))).setCell ⟨z8,2,none⟩ (.int .i64 ((n2:Int)+1))=w6 at*
  clear c0 c1 c2 c3 c4 c5 cf
  have HU:=Hd (u8_calls B 5 v2 xs _ w6 HG.out.rdr HEL5.out)
  rw[HYY.out] at HU
  refine HU.out.mono ?_
  rintro e w7 ⟨rfl,hfr,hR⟩
  replace HG:=Hd (HG.out.call hfr hR)
  clear hfr hR HU
  go_wp2_with fail
  refine(HBP w7).out.mono ?_
  rintro e w8 ⟨rfl,hfr⟩
  replace HG:=Hd (HG.out.keep hfr)
  clear hfr HBP
  have q8:=HG.out.b8
  obtain⟨c0,c1,c2,c3,c4,c5,cf⟩:=cf6 q8 rfl rfl rfl rfl rfl rfl
  clear q8
  go_wp2_with fail
  replace HG:=Hd (show G w (((w8.setCell ⟨z8,3,none⟩ (.int .i64 p9)).setCell ⟨z8,4,none⟩ (.int .i64 p5)).setCell ⟨z8,5,none⟩ (.int .i64 p45)) z2 z8 B 6 v2 xs #[.int .i64 (3+(q:Int)),.int .i64 ((m:Int)*65536+n1+1),.int .i64 ((n2:Int)+1),.int .i64 p9,.int .i64 p5,.int .i64 p45] from((HG.out.set 3 _).set 4 _).set 5 _)
  generalize((w8.setCell ⟨z8,3,none⟩ (.int .i64 p9)).setCell ⟨z8,4,none⟩ (.int .i64 p5)).setCell ⟨z8,5,none⟩ (.int .i64 p45)=w9 at*
  clear c0 c1 c2 c3 c4 c5 cf
  have q2:=HG.out.b2
  obtain⟨a0,a1,a2,a3,a4,a5,af⟩:=cf6 q2 rfl rfl rfl rfl rfl rfl
  clear q2
  have HSC:=Hd (HG.out.cells' (w':=w9.drew) (Fr.refl _ _).drew)
  have ss:=HSC.out
  obtain⟨c0,c1,c2,c3,c4,c5⟩:=ss
  go_region_held3 (fun w'=>w'.cell? ⟨z8,0,none⟩=some (.int .i64 (3+(q:Int)))∧w'.cell? ⟨z8,1,none⟩=some (.int .i64 ((m:Int)*65536+n1+1))∧w'.cell? ⟨z8,2,none⟩=some (.int .i64 ((n2:Int)+1))∧w'.cell? ⟨z8,3,none⟩=some (.int .i64 p9)∧w'.cell? ⟨z8,4,none⟩=some (.int .i64 p5)∧w'.cell? ⟨z8,5,none⟩=some (.int .i64 p45))
   (first|with_reducible exact HSC.out|(refine HG.out.cells' ?_;((try refine Fr.drew ?_);(repeat refine Fr.setCell ?_ (.inl (by simp)) _);first|exact Fr.refl _ _|exact(Fr.refl _ _).drew))) ((first
   | (go_at_call 226
      refine(HG.out.off' (by((try refine Fr.drew ?_);(repeat refine Fr.setCell ?_ (.inl (by simp)) _);first|exact Fr.refl _ _|exact(Fr.refl _ _).drew))).mono ?_
      rintro e wc ⟨rfl,rfl⟩)))
  all_goals
   go_wp2_with fail
   refine bodyPost_ret (v:=.tuple #[.agg #[.int .i64 (3+(q:Int)),.int .i64 ((m:Int)*65536+n1+1),.int .i64 ((n2:Int)+1),.int .i64 p9,.int .i64 p5,.int .i64 p45],.int .i64 6,.int .i64 0]) (by simp[results,Tryz.results164,go_sem,a0,a1,a2,a3,a4,a5]) rfl ?_
   exact⟨rfl,HG.out.fin (by((try refine Fr.drew ?_);(repeat refine Fr.setCell ?_ (.inl (by simp)) _);first|exact Fr.refl _ _|exact(Fr.refl _ _).drew))⟩
theorem get_calls(v:Value)(ys:List UInt8)(w:World)(hr:Rd w v ys)(h0:0<ys.length)(hl:ys.length≤1099511627776):
 Calls Tryz.prog 164 #[v] w fun e w'=>e=.returned (.tuple #[.agg (get (ys.take 6)).1.cells,.int .i64 (get (ys.take 6)).2.1,.int .i64 (get (ys.take 6)).2.2])∧Fr (fun _=>False) w w':=by
 obtain⟨xs,hxs⟩:∃xs,xs=ys.take 6:=⟨_,rfl⟩
 rw[←hxs]
 have hxl:xs.length=min ys.length 6:=by rw[hxs,List.length_take];omega
 unfold get
 simp only
 rw[if_neg (show¬xs.length=0 by omega)]
 by_cases h1:(xs.getD 0 0).toNat=0
 ·rw[if_pos h1]
  exact get_end v ys w hr h0 hl xs hxs h1
 ·rw[if_neg h1]
  by_cases h2:(xs.getD 0 0).toNat≤2
  ·rw[if_pos h2]
   by_cases h3:xs.length<3
   ·rw[if_pos h3]
    exact get_raw_short v ys w hr h0 hl xs hxs (by omega) h2 h3
   ·rw[if_neg h3]
    exact get_raw v ys w hr h0 hl xs hxs (by omega) h2 (by omega)
  ·rw[if_neg h2]
   by_cases h3:(xs.getD 0 0).toNat<128
   ·rw[if_pos h3]
    exact get_mid v ys w hr h0 hl xs hxs (by omega) h3
   ·rw[if_neg h3]
    by_cases h4:xs.length<5
    ·rw[if_pos h4]
     by_cases h5:xs.length<3
     ·exact get_short1 v ys w hr h0 hl xs hxs (by omega) h5
     ·exact get_short2 v ys w hr h0 hl xs hxs (by omega) (by omega) h4
    ·rw[if_neg h4]
     by_cases h5:((xs.getD 0 0).toNat-128)/32<2
     ·rw[if_pos h5]
      exact get_packed v ys w hr h0 hl xs hxs (by omega) (by omega) h5
     ·rw[if_neg h5]
      by_cases h6:xs.length<6
      ·rw[if_pos h6]
       exact get_short3 v ys w hr h0 hl xs hxs (by omega) (by omega) h5
      ·rw[if_neg h6]
       cases h7:St.bytePropsOk (xs.getD 5 0).toNat with
       |true=>
         rw[if_pos rfl]
         exact get_props v ys w hr h0 hl xs hxs (by omega) (by omega) h5 h7
       |false=>
         rw[if_neg (by decide)]
         exact get_bad v ys w hr h0 hl xs hxs (by omega) (by omega) h5 h7
end Ck
namespace Lz
open Mem St
def rowLen(lc lp j:Nat):Nat:=
 if j=0∨j=1 then 192 else if j≤5 then 12 else if j=6 then 768*2^(lc+lp) else if j=7∨j=11 then 2 else if j=10∨j=14∨j=15 then 256 else if j=17 then 16 else 128
def sumFrom:Nat→Nat→Nat
 |_,0=>0
 |s,k+1=>2^(range s).2+sumFrom (s+1) k
def restAt(slot:Nat):Nat:=sumFrom 4 (slot-4)
theorem range_le:∀s:Fin 64,(range s).1+2^(range s).2≤4294967297∧(range s).2≤30∧1≤(range s).1∧(14≤s.val→4≤(range s).2)∧(4≤s.val→s.val<14→(range s).2≤5∧1≤(range s).2):=by decide+kernel
theorem and_low(a k:Nat)(ha:a<9223372036854775808)(hk:k≤62):bits BinOp.and IntKind.i64 (a:Int) (2^k-1)=((a%2^k:Nat):Int):=by
 have hp:(2:Nat)^k≤4611686018427387904:=Nat.le_trans (Nat.pow_le_pow_right (by omega) hk) (by decide)
 have h0:=Nat.two_pow_pos k
 have e:((2:Int)^k-1)=((2^k-1:Nat):Int):=by
  have:((2^k:Nat):Int)=(2:Int)^k:=by simp
  omega
 rw[e]
 have k1:(BitVec.ofInt 64 (a:Int)).toNat=a:=by
  rw[BitVec.ofInt_natCast,BitVec.toNat_ofNat];exact Nat.mod_eq_of_lt (by omega)
 have k2:(BitVec.ofInt 64 ((2^k-1:Nat):Int)).toNat=2^k-1:=by
  rw[BitVec.ofInt_natCast,BitVec.toNat_ofNat];exact Nat.mod_eq_of_lt (by omega)
 show IntKind.i64.wrap ((BitVec.ofInt 64 (a:Int)&&&BitVec.ofInt 64 ((2^k-1:Nat):Int)).toNat:Int)=_
 rw[BitVec.toNat_and,k1,k2,Nat.and_two_pow_sub_one_eq_mod]
 have:=Nat.mod_lt a h0
 exact IntWalk.i64_in _ (by omega)
theorem place_calls(T place pb:Nat)(w:World)(hc:w.cell? ⟨T,2,none⟩=some (.int .i64 pb))(hpb:pb≤4)(hp:place<9223372036854775808):
 Calls Tryz.prog 240 #[.pointer (some ⟨T,0,none⟩),.int .i64 place] w fun e w'=>e=.returned (.int .i64 (place%2^pb:Nat))∧w=w':=by
 have ha:=and_low place pb hp (by omega)
 obtain rfl|rfl|rfl|rfl|rfl:pb=0∨pb=1∨pb=2∨pb=3∨pb=4:=by omega
 all_goals
  simp only[Int.reducePow,Int.reduceSub,Nat.reducePow] at ha ⊢
  go_enter Tryz.func240,Tryz.ntmps240
  go_wp2_with fail
  go_ret
  first
   |exact⟨rfl,rfl⟩
   |exact⟨ret_int (by simp[Nat.mod_one]),rfl⟩
theorem at_calls(T place pb num:Nat)(w:World)(hc:w.cell? ⟨T,2,none⟩=some (.int .i64 pb))(hn:w.cell? ⟨T,3,none⟩=some (.int .i64 num))(hpb:pb≤4)(hp:place<9223372036854775808)(hnum:num<12):
 Calls Tryz.prog 192 #[.pointer (some ⟨T,0,none⟩),.int .i64 place] w fun e w'=>e=.returned (.int .i64 ((num*16+place%2^pb:Nat):Int))∧∃m,w'=w.drewN m:=by
 have HP:=Hd (fun m=>place_calls T place pb (w.drewN m) (by simpa using hc) hpb hp)
 have hl:place%2^pb<16:=Nat.lt_of_lt_of_le (Nat.mod_lt _ (Nat.two_pow_pos pb)) (Nat.pow_le_pow_right (by omega) hpb)
 generalize place%2^pb=x at*
 have h1:IntKind.i64.wrap ((num:Int)*16)=(num:Int)*16:=IntWalk.i64_in _ (by omega)
 have h2:IntKind.i64.wrap ((num:Int)*16+x)=(num:Int)*16+x:=IntWalk.i64_in _ (by omega)
 clear hc
 go_enter Tryz.func192,Tryz.ntmps192
 go_wp2_with fail
 go_quiet (exact quiet_left (HP.out _))
 go_wp2_with fail
 go_ret
 exact⟨ret_int (by omega),_,rfl⟩
theorem context_calls(T place lc lp before:Nat)(w:World)(h0:w.cell? ⟨T,0,none⟩=some (.int .i64 lc))(h1:w.cell? ⟨T,1,none⟩=some (.int .i64 lp))(hl:lc+lp≤4)(hp:place<9223372036854775808)(hb:before<256):
 Calls Tryz.prog 241 #[.pointer (some ⟨T,0,none⟩),.int .i64 place,.int .u8 before] w fun e w'=>e=.returned (.int .i64 ((768*(place%2^lp*2^lc+before/2^(8-lc)):Nat):Int))∧∃m,w'=w.drewN m:=by
 have ha:=and_low place lp hp (by omega)
 have hc1:lc=0∨lc=1∨lc=2∨lc=3∨lc=4:=by omega
 have hc2:lp=0∨lp=1∨lp=2∨lp=3∨lp=4:=by omega
 rcases hc1 with rfl|rfl|rfl|rfl|rfl
 all_goals
  rcases hc2 with rfl|rfl|rfl|rfl|rfl
 all_goals first|(exfalso;omega)|skip
 all_goals
  simp only[Int.reducePow,Int.reduceSub,Nat.reducePow,Nat.reduceSub] at ha ⊢
  go_enter Tryz.func241,Tryz.ntmps241
  go_wp2_with fail
  go_quiet (fail)
  go_wp2_with fail
  go_ret
  exact⟨ret_int (by omega),_,rfl⟩
theorem late_calls(s:Nat)(w:World):Calls Tryz.prog 245 #[.int .i64 s] w fun e w'=>e=.returned (.bool (decide (14≤s)))∧w=w':=by
 by_cases h:14≤s
 all_goals
  have e:decide (14≤s)=decide (14≤s):=rfl
  go_enter Tryz.func245,Tryz.ntmps245
  go_wp2_with fail
  go_ret
  refine⟨?_,rfl⟩
  simp[h]
  try omega
theorem sumFrom_snoc:∀(k s:Nat),sumFrom s (k+1)=sumFrom s k+2^(range (s+k)).2
 |0,s=>by simp[sumFrom]
 |k+1,s=>by rw[sumFrom,sumFrom_snoc k (s+1),sumFrom,show s+1+k=s+(k+1) by omega];omega
theorem sumFrom_le:∀k:Fin 11,sumFrom 4 k≤128:=by decide+kernel
theorem restAt_calls(slot:Nat)(w:World)(h:slot≤14):Calls Tryz.prog 246 #[.int .i64 slot] w fun e w'=>e=.returned (.int .i64 (restAt slot))∧w=w':=by
 go_enter Tryz.func246,Tryz.ntmps246
 go_wp2_with fail
 go_loop [3,4](fun t i=>∃k:Nat,4+k≤max slot 4∧i=.int .i64 ((4+k:Nat):Int)∧t=.int .i64 (sumFrom 4 k)) (fun _ i=>slot-(intOf i).toNat)
 case atStart=>exact⟨0,by omega,rfl,rfl⟩
 case round=>
  obtain⟨k,hk,rfl,rfl⟩:=hrel
  by_cases hlt:4+k<slot
  ·have hr:=range_le ⟨4+k,by omega⟩
   have hs:=sumFrom_le ⟨k,by omega⟩
   simp only at hr hs
   have hb:=(hr.2.2.2.2 (by omega) (by omega)).1
   have hp:2^(range (4+k)).2≤32:=Nat.pow_le_pow_right (n:=2) (by omega) hb
   have HS:=Hd (sumFrom_snoc k 4)
   have HC:=Hd (range_calls (4+k) (by omega) w)
   clear hr
   generalize range (4+k)=r at*
   obtain⟨r1,r2⟩:=r
   simp only at hb hp HS HC
   generalize sumFrom 4 k=s0 at*
   go_wp2_with fail
   refine HC.out.mono ?_
   rintro e w' ⟨rfl,rfl⟩
   obtain rfl|rfl|rfl|rfl|rfl|rfl:r2=0∨r2=1∨r2=2∨r2=3∨r2=4∨r2=5:=by omega
   all_goals
    simp only[Nat.reducePow] at HS hp
    go_wp2_with fail
    go_round
    case rel=>exact⟨k+1,by omega,by go_num,by rw[HS.out];go_num⟩
    case measure=>simp[intOf];omega
  ·go_wp2_with fail
   go_ret
   refine⟨ret_int ?_,rfl⟩
   unfold restAt
   congr 2
   omega
end Lz
end Go.Proofs.YtffoddpjfgjelaaGreatDoor
namespace Go.Proofs.YtffoddpjfgjelaaGreatDoor
namespace Prob
def taken(p:Int):Int:=if p<0 then 0 else if 2047<p then 2047 else p
def next(p bit:Int):Int:=if bit=0 then taken p+(2048-taken p)/32 else taken p-taken p/32
def bnd(r p:Int):Int:=(r/2048)*taken p
theorem taken_lo(p:Int):0≤taken p:=by unfold taken;split<;>(try split)<;>omega
theorem taken_hi(p:Int):taken p≤2047:=by unfold taken;split<;>(try split)<;>omega
theorem taken_id(p:Int)(h:0≤p)(h2:p≤2047):taken p=p:=by unfold taken;rw[if_neg (by omega),if_neg (by omega)]
end Prob
end Go.Proofs.YtffoddpjfgjelaaGreatDoor
namespace Go.Proofs.YtffoddpjfgjelaaGreatDoor
open Go.RowKit
namespace Prob
theorem bnd_in(r p:Int)(h0:0≤r)(h1:r≤4294967295):r/2048*taken p%4294967296=bnd r p:=by
 have h2:=taken_lo p
 have h3:=taken_hi p
 unfold bnd
 have hm:0≤r/2048*taken p:=Int.mul_nonneg (by omega) h2
 have hM:r/2048*taken p≤2097151*2047:=Int.mul_le_mul (by omega) h3 h2 (by omega)
 exact Int.emod_eq_of_lt hm (by omega)
theorem ret_int{k:IntKind}{a b:Int}(h:a=b):Ending.returned (.int k a)=.returned (.int k b):=by rw[h]
theorem taken_calls(p:Int)(w:World):
 Calls Tryz.prog 308 #[.int .i64 p] w fun e w'=>e=.returned (.int .i64 (taken p))∧w=w':=by
 go_enter Tryz.func308,Tryz.ntmps308
 go_wp2
 all_goals go_ret
 all_goals refine⟨ret_int ?_,rfl⟩
 all_goals(unfold taken;repeat' split)
 all_goals omega
theorem next_calls(p b:Int)(w:World):
 Calls Tryz.prog 307 #[.int .i64 p,.int .i64 b] w fun e w'=>e=.returned (.int .i64 (next p b))∧w=w':=by
 have h0:=taken_lo p
 have h1:=taken_hi p
 go_enter Tryz.func307,Tryz.ntmps307
 go_wp2_with ((with_reducible refine(taken_calls _ _).mono ?_);rintro e w' ⟨rfl,rfl⟩)
 all_goals go_ret
 all_goals refine⟨ret_int ?_,rfl⟩
 all_goals simp only[beq_iff_eq,beq_eq_false_iff_ne] at*
 all_goals(unfold next;first|rw[if_pos (by assumption)]|rw[if_neg (by assumption)])
theorem boundR_calls(r p:Int)(w:World)(h0:0≤r)(h1:r≤4294967295):
 Calls Tryz.prog 293 #[.int .u32 r,.int .i64 p] w fun e w'=>e=.returned (.int .u32 (bnd r p))∧w=w':=by
 have h2:=taken_lo p
 have h3:=taken_hi p
 go_enter Tryz.func293,Tryz.ntmps293
 go_wp2_with ((with_reducible refine(taken_calls _ _).mono ?_);rintro e w' ⟨rfl,rfl⟩)
 all_goals go_ret
 all_goals refine⟨ret_int ?_,rfl⟩
 all_goals exact bnd_in r p h0 h1
end Prob
namespace Prob
open Mem
theorem rep_at(cs:Array Value)(k:Nat)(h:k<cs.size)(v:Value):((List.replicate k v).toArray++cs.extract k cs.size)[k]? =cs[k]? :=by
 rw[Array.getElem?_append]
 simp[Array.getElem?_extract]
 omega
theorem rep_set(cs:Array Value)(k:Nat)(h:k<cs.size)(v:Value):
 ((List.replicate k v).toArray++cs.extract k cs.size).setIfInBounds k v=(List.replicate (k+1) v).toArray++cs.extract (k+1) cs.size:=by
 apply Array.ext_getElem?
 intro i
 rw[Array.getElem?_setIfInBounds,Array.getElem?_append,Array.getElem?_append]
 by_cases h1:k=i
 ·subst h1;simp[h];omega
 ·rw[if_neg h1]
  by_cases h2:i<k
  ·simp[h2,show i<k+1 by omega]
  ·simp[show¬i<k by omega,show¬i<k+1 by omega,Array.getElem?_extract]
   rw[show k+1+(i-(k+1))=k+(i-k) by omega]
   by_cases h3:i<cs.size
   ·rw[if_pos (by omega),if_pos (by omega)]
   ·rw[if_neg (by omega),if_neg (by omega)]
theorem len_calls(b g n cap:Nat)(w:World)(hb:w.cell? ⟨b,0,none⟩=some (.slice (some ⟨g,0,none⟩) n cap)):
 Calls Tryz.prog 319 #[.pointer (some ⟨b,0,none⟩)] w fun e w'=>e=.returned (.int .i64 n)∧w=w':=by
 go_enter Tryz.func319,Tryz.ntmps319
 go_wp2
 go_ret
 exact⟨rfl,rfl⟩
theorem has_calls(b:Nat)(p:Option Addr)(n cap:Nat)(i:Int)(w:World)(hb:w.cell? ⟨b,0,none⟩=some (.slice p n cap)):
 Calls Tryz.prog 306 #[.pointer (some ⟨b,0,none⟩),.int .i64 i] w fun e w'=>e=.returned (.int .i64 (if 0≤i∧i<n then 0 else 7))∧w=w':=by
 by_cases h0:i<0
 ·go_enter Tryz.func306,Tryz.ntmps306
  go_wp2
  go_ret
  exact⟨rfl,rfl⟩
 ·have h1:0≤i:=by omega
  have hd:decide (i<0)=false:=by simp;omega
  by_cases h2:(n:Int)≤i
  all_goals
   go_enter Tryz.func306,Tryz.ntmps306
   go_wp2
   go_ret
   exact⟨rfl,rfl⟩
theorem turn_in(b g n cap i:Nat)(cs:Array Value)(p bit:Int)(w:World)(hb:w.heap[b]? =some (.cells #[.slice (some ⟨g,0,none⟩) n cap] 360 (0,0)))
 (hg:w.heap[g]? =some (.cells cs 3 (0,0)))(hi:i<n)(hn:n≤maxLen)(hp:cs[i]? =some (.int .i64 p))(hbg:b≠g):
 Calls Tryz.prog 291 #[.pointer (some ⟨b,0,none⟩),.int .i64 i,.int .i64 bit] w fun e w'=>e=.returned (.int .i64 0)∧
  Fr (fun k=>k=g) w w'∧w'.heap[g]? =some (.cells (cs.setIfInBounds i (.int .i64 (next p bit))) 3 (0,0))∧w'.heap.size=w.heap.size:=by
 have hcb:=cell_in (i:=0) hb rfl
 have hcg:=cell_in hg hp
 have hf:=frozen_in hg i
 have Hb:=Hd hb
 have Hg:=Hd hg
 have Hp:=Hd hp
 clear hb hg hp
 unfold maxLen at hn
 go_enter Tryz.func291,Tryz.ntmps291
 go_wp2_with ((with_reducible refine(has_calls _ _ _ _ _ _ hcb).mono ?_);rintro e w' ⟨rfl,rfl⟩)
 go_region_with ((with_reducible refine(next_calls _ _ _).mono ?_);rintro e w' ⟨rfl,rfl⟩)
 all_goals go_wp2
 all_goals go_ret
 all_goals exact⟨rfl,(Fr.one _ _ _ _).drew,set_in Hg.out _ _,by simp⟩
theorem reset_calls(b g n cap:Nat)(cs:Array Value)(w:World)(hb:w.heap[b]? =some (.cells #[.slice (some ⟨g,0,none⟩) n cap] 360 (0,0)))
 (hg:w.heap[g]? =some (.cells cs 3 (0,0)))(hn:n≤maxLen)(hc:n≤cs.size)(hbg:b≠g):
 Calls Tryz.prog 233 #[.pointer (some ⟨b,0,none⟩)] w fun e w'=>e=.returned (.tuple #[])∧
  Fr (fun k=>k=g) w w'∧w'.heap[g]? =some (.cells ((List.replicate n (.int .i64 1024)).toArray++cs.extract n cs.size) 3 (0,0))∧w'.heap.size=w.heap.size:=by
 have hcb:=cell_in (i:=0) hb rfl
 have Hb:=Hd hb
 have Hg:=Hd hg
 clear hb hg
 unfold maxLen at hn
 go_enter Tryz.func233,Tryz.ntmps233
 go_wp2
 go_loopw [8](fun i wr=>∃k:Nat,k≤n∧i=.int .i64 k∧Fr (fun k=>k=g) w wr∧wr.heap.size=w.heap.size∧
  wr.heap[g]? =some (.cells ((List.replicate k (.int .i64 1024)).toArray++cs.extract k cs.size) 3 (0,0))) (fun i _=>n-(intOf i).toNat)
 case atStart=>exact⟨0,by omega,rfl,Fr.refl _ _,rfl,by rw[Hg.out];simp⟩
 case round=>
  obtain⟨k,hk,rfl,hfr,hsz,hgr⟩:=hrel
  have hcb1:=cell_in (i:=0) (hfr.keep Hb.out hbg) rfl
  have hf1:=frozen_in hgr k
  have Hgr:=Hd hgr
  clear hgr
  by_cases hlt:k<n
  ·have hcg1:wr.cell? ⟨g,k,none⟩=cs[k]? :=by
    rw[cell_of_row _ _ _ _ _ _ Hgr.out]
    exact rep_at cs k (by omega) _
   obtain⟨v,hv⟩:∃v,cs[k]? =some v:=⟨cs[k]'(by omega),by simp⟩
   rw[hv] at hcg1
   clear hv
   go_wp2
   go_roundw
   case rel=>exact⟨k+1,by omega,by go_num,hfr.trans (Fr.one _ _ _ _),by simpa using hsz,by rw[set_in Hgr.out,rep_set cs k (by omega)]⟩
   case measure=>simp[intOf];omega
  ·obtain rfl:k=n:=by omega
   go_wp2
   go_end0
   exact⟨rfl,hfr,Hgr.out,hsz⟩
theorem at_in(b g n cap i:Nat)(p:Int)(w:World)(hb:w.cell? ⟨b,0,none⟩=some (.slice (some ⟨g,0,none⟩) n cap))
 (hg:w.cell? ⟨g,i,none⟩=some (.int .i64 p))(hi:i<n)(hn:n≤maxLen):
 Calls Tryz.prog 288 #[.pointer (some ⟨b,0,none⟩),.int .i64 i] w fun e w'=>e=.returned (.tuple #[.int .i64 p,.int .i64 0])∧w=w':=by
 unfold maxLen at hn
 go_enter Tryz.func288,Tryz.ntmps288
 go_wp2_with ((with_reducible refine(has_calls _ _ _ _ _ _ hb).mono ?_);rintro e w' ⟨rfl,rfl⟩)
 go_ret2
 exact⟨rfl,rfl⟩
theorem at_out(b:Nat)(p:Option Addr)(n cap:Nat)(i:Int)(w:World)(hb:w.cell? ⟨b,0,none⟩=some (.slice p n cap))(hi:i<0∨n≤i):
 Calls Tryz.prog 288 #[.pointer (some ⟨b,0,none⟩),.int .i64 i] w fun e w'=>e=.returned (.tuple #[.int .i64 0,.int .i64 7])∧w=w':=by
 have h7:(if 0≤i∧i<(n:Int) then(0:Int) else 7)=7:=by rw[if_neg (by omega)]
 have H7:=Hd h7
 clear h7
 go_enter Tryz.func288,Tryz.ntmps288
 go_wp2_with ((with_reducible refine(has_calls _ _ _ _ _ _ hb).mono ?_);rw[H7.out];rintro e w' ⟨rfl,rfl⟩)
 go_ret2
 exact⟨rfl,rfl⟩
end Prob
namespace Prob
open Mem
theorem infoInt:(Tryz.prog.info? 3).map (fun i=>(i.zero,i.size,i.bytes))=some (some (.int .i64 0),1,8):=by kernel_rfl
theorem make_ints(n:Nat)(h:n≤35184372088832)(W:World):
 (Instr.makeSlice 94 (.int .i64 n) (.int .i64 n)).run Tryz.prog W=.ok (.slice (some ⟨W.heap.size,0,none⟩) n n) (W.alloc (.cells (Array.replicate n (.int .i64 0)) 3)):=by
 obtain⟨i,hi,hz,hs,hb⟩:=info_parts infoInt
 have:=run_make (P:=Tryz.prog) W 94 3 i (.int .i64 0) Tryz.underlying94 hi hz .i64 .i64 n n (by omega) (by omega) (by rw[hb];omega) (by omega)
 rw[this,hs,Int.toNat_natCast,Nat.mul_one]
 have e:madeCells (Value.int .i64 0).cells n=Array.replicate n (Value.int .i64 0):=by
  apply Array.ext
  ·simp[madeCells]
  ·intro k h1 h2
   simp[madeCells,Value.cells,Nat.mod_one]
 rw[e]
theorem new_in(n:Nat)(w:World)(hn:n≤1048576):
 Calls Tryz.prog 174 #[.int .i64 n] w fun e w'=>e=.returned (.tuple #[.pointer (some ⟨w.heap.size+1,0,none⟩),.int .i64 0])∧
  Fr (fun _=>False) w w'∧w'.heap[w.heap.size+1]? =some (.cells #[.slice (some ⟨w.heap.size,0,none⟩) n n] 360 (0,0))∧
  w'.heap[w.heap.size]? =some (.cells (List.replicate n (.int .i64 1024)).toArray 3 (0,0))∧w'.heap.size=w.heap.size+2:=by
 go_enter Tryz.func174,Tryz.ntmps174
 have hmk:=make_ints n (by omega)
 go_wp2_with fail
 refine(reset_calls (w.heap.size+1) w.heap.size n n (Array.replicate n (.int .i64 0)) _ (heap_alloc2_new w _ _) (heap_alloc2_old w _ _) (by simp only[maxLen];omega) (by simp) (by omega)).mono ?_
 rintro e w1 ⟨rfl,hfr,hg,hsz⟩
 have hfr0:Fr (fun _=>False) w w1:=(((R0 w).alloc _).alloc _).trans' hfr (fun i hi(h:i=_)=>by omega)
 have hb:=hfr.keep (heap_alloc2_new w _ _) (by simp)
 simp only[World.size_alloc] at hsz
 have HG:=Hd hg
 have HB:=Hd hb
 have HS:=Hd hsz
 clear hg hb hfr hsz
 go_wp2
 go_ret2
 exact⟨rfl,hfr0,HB.out,by rw[HG.out];simp,HS.out⟩
end Prob
end Go.Proofs.YtffoddpjfgjelaaGreatDoor
