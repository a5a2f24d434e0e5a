/- Part 6 of 48: lemmas of the last part, each under the conditions that it names. -/
import Derived.Deep.RegionHeld3
import Derived.Test.YtffoddpjfgjelaaGreatDoorQ05
set_option linter.unusedVariables false
set_option linter.unusedSimpArgs false
set_option maxRecDepth 1500
set_option maxHeartbeats 4000000
namespace Go.Proofs.YtffoddpjfgjelaaGreatDoor
open Go.RowKit
namespace Ck
open Mem Wire
def get(xs:List UInt8):Head×Nat×Nat:=
 let x:=(xs.getD 0 0).toNat
 if xs.length=0 then(Head.none,0,1)
 else if x=0 then(Head.none,1,0)
 else if x≤2 then if xs.length<3 then(Head.none,0,1) else(⟨x,beV (xs.drop 1) 2+1,beV (xs.drop 1) 2+1,0,0,0⟩,3,0)
 else if x<128 then(Head.none,0,2)
 else if xs.length<5 then(Head.none,0,1)
 else if(x-128)/32<2 then(⟨3+(x-128)/32,x%32*65536+beV (xs.drop 1) 2+1,beV (xs.drop 3) 2+1,0,0,0⟩,5,0)
 else if xs.length<6 then(Head.none,0,1)
 else if St.bytePropsOk (xs.getD 5 0).toNat then(⟨3+(x-128)/32,x%32*65536+beV (xs.drop 1) 2+1,beV (xs.drop 3) 2+1,(xs.getD 5 0).toNat%9,(xs.getD 5 0).toNat/9%5,(xs.getD 5 0).toNat/45⟩,6,0)
 else(Head.none,0,2)
theorem get_le(xs:List UInt8):(get xs).2.1≤6:=by
 unfold get
 simp only
 repeat' split
 all_goals simp
theorem and_31(x:Nat)(hx:x<256):bits BinOp.and IntKind.i64 (x:Int) 31=((x%32:Nat):Int):=by
 have h1:∀n:Fin 256,bits BinOp.and IntKind.i64 (n.val:Int) 31=((n.val%32:Nat):Int):=by decide+kernel
 exact h1 ⟨x,hx⟩
theorem el_at{xs:List UInt8}{n:Nat}(h:n<xs.length):xs[n]? =some (xs.getD n 0):=by
 rw[List.getD_eq_getElem?_getD,List.getElem?_eq_getElem h]
 rfl
theorem beV2_lt(xs:List UInt8):beV xs 2<65536:=beV_lt xs 2
theorem rdr_keep0{w w':World}{B n:Nat}{v:Value}{xs:List UInt8}(h:Rdr w B n v xs)(hfr:Fr (fun _=>False) w w'):Rdr w' B n v xs:=h.keep hfr (fun h=>h) (fun _ _ h=>h)
theorem rd_lt{w:World}{v:Value}{xs:List UInt8}(h:Rd w v xs)(h0:0<xs.length):∀k,v.ownBlock=some k→k<w.heap.size:=by
 obtain⟨p,cap,rfl,_,_,h3⟩:=h
 obtain⟨b,o,rfl,hc⟩:=h3 h0
 intro k hk
 simp only[Value.ownBlock,Option.some.injEq] at hk
 subst hk
 exact block_lt_of_cell (hc 0 xs[0] (by simp[h0]))
structure G(w0 wk:World)(z2 z8 B n:Nat)(v2:Value)(xs:List UInt8)(c:Array Value):Prop where
 fr:Fr (fun _=>False) w0 wk
 b2:wk.heap[z2]? =some (.cells #[.int .i64 0,.int .i64 0,.int .i64 0,.int .i64 0,.int .i64 0,.int .i64 0] 47 (0,0))
 b8:wk.heap[z8]? =some (.cells c 47 (0,0))
 rdr:Rdr wk B n v2 xs
 o2:w0.heap.size≤z2
 o8:w0.heap.size≤z8
 oB:w0.heap.size≤B
 ne:z2≠z8
 off:∀k,v2.ownBlock=some k→k≠z2∧k≠z8
theorem G.B2{w0 wk:World}{z2 z8 B n:Nat}{v2:Value}{xs:List UInt8}{c:Array Value}(h:G w0 wk z2 z8 B n v2 xs c):B≠z2∧B≠z8:=by
 constructor
 ·intro e
  have h1:=h.rdr.box
  rw[e,h.b2] at h1
  simp at h1
 ·intro e
  have h1:=h.rdr.box
  rw[e,h.b8] at h1
  simp at h1
theorem G.call{w0 wk wk':World}{z2 z8 B n n':Nat}{v2:Value}{xs:List UInt8}{c:Array Value}(h:G w0 wk z2 z8 B n v2 xs c)(hfr:Fr (fun k=>k=B) wk wk')(hR:Rdr wk' B n' v2 xs):G w0 wk' z2 z8 B n' v2 xs c:=
 ⟨h.fr.trans' hfr (fun i hi(e:i=B)=>by have:=h.oB;omega),hfr.keep h.b2 (fun(e:z2=B)=>h.B2.1 e.symm),hfr.keep h.b8 (fun(e:z8=B)=>h.B2.2 e.symm),hR,h.o2,h.o8,h.oB,h.ne,h.off⟩
theorem G.keep{w0 wk wk':World}{z2 z8 B n:Nat}{v2:Value}{xs:List UInt8}{c:Array Value}(h:G w0 wk z2 z8 B n v2 xs c)(hfr:Fr (fun _=>False) wk wk'):G w0 wk' z2 z8 B n v2 xs c:=
 ⟨h.fr.trans hfr,hfr.keep h.b2 (fun h=>h),hfr.keep h.b8 (fun h=>h),rdr_keep0 h.rdr hfr,h.o2,h.o8,h.oB,h.ne,h.off⟩
theorem G.set{w0 wk:World}{z2 z8 B n:Nat}{v2:Value}{xs:List UInt8}{c:Array Value}(h:G w0 wk z2 z8 B n v2 xs c)(i:Nat)(u:Value):G w0 (wk.setCell ⟨z8,i,none⟩ u) z2 z8 B n v2 xs (c.setIfInBounds i u):=by
 have hfr:Fr (fun k=>k=z8) wk (wk.setCell ⟨z8,i,none⟩ u):=Fr.one _ _ _ _
 exact⟨h.fr.trans' hfr (fun i hi(e:i=z8)=>by have:=h.o8;omega),hfr.keep h.b2 h.ne,set_in h.b8 i u,h.rdr.keep hfr h.B2.2 (fun k hk e=>(h.off k hk).2 e),h.o2,h.o8,h.oB,h.ne,h.off⟩
theorem G.set6{w0 wk:World}{z2 z8 B n:Nat}{v2:Value}{xs:List UInt8}(h:G w0 wk z2 z8 B n v2 xs #[.int .i64 0,.int .i64 0,.int .i64 0,.int .i64 0,.int .i64 0,.int .i64 0])(a b c d e f:Value):G w0 ((((((wk.setCell ⟨z8,0,none⟩ a).setCell ⟨z8,1,none⟩ b).setCell ⟨z8,2,none⟩ c).setCell ⟨z8,3,none⟩ d).setCell ⟨z8,4,none⟩ e).setCell ⟨z8,5,none⟩ f) z2 z8 B n v2 xs #[a,b,c,d,e,f]:=
 (((((h.set 0 a).set 1 b).set 2 c).set 3 d).set 4 e).set 5 f
theorem G.off'{w0 wk:World}{z2 z8 B n:Nat}{v2:Value}{xs:List UInt8}{c:Array Value}(h:G w0 wk z2 z8 B n v2 xs c){w':World}(hfr:Fr (fun k=>k=z2) wk w'):Calls Tryz.prog 226 #[.pointer (some ⟨B,0,none⟩)] w' fun e w''=>e=.returned (.int .i64 n)∧w'=w'':=
 off_calls B n v2 xs w' (h.rdr.keep hfr h.B2.1 (fun k hk e=>(h.off k hk).1 e))
theorem G.cells'{w0 wk:World}{z2 z8 B n:Nat}{v2:Value}{xs:List UInt8}{a b c d e f:Value}(h:G w0 wk z2 z8 B n v2 xs #[a,b,c,d,e,f]){w':World}(hfr:Fr (fun k=>k=z2) wk w'):
 w'.cell? ⟨z8,0,none⟩=some a∧w'.cell? ⟨z8,1,none⟩=some b∧w'.cell? ⟨z8,2,none⟩=some c∧w'.cell? ⟨z8,3,none⟩=some d∧w'.cell? ⟨z8,4,none⟩=some e∧w'.cell? ⟨z8,5,none⟩=some f:=by
 have h1:=hfr.keep h.b8 (fun(e:z8=z2)=>h.ne e.symm)
 exact⟨cell_in h1 rfl,cell_in h1 rfl,cell_in h1 rfl,cell_in h1 rfl,cell_in h1 rfl,cell_in h1 rfl⟩
theorem G.lay{w0 wk:World}{z2 B n:Nat}{v2:Value}{xs:List UInt8}{c:Array Value}(h:G w0 (wk.alloc (.cells c 47)) z2 wk.heap.size B n v2 xs c)(c2:Array Value):G w0 (wk.alloc (.cells c2 47)) z2 wk.heap.size B n v2 xs c2:=by
 have h2:=lt_of_block h.b2
 have hB:=lt_of_block h.rdr.box
 have n1:=h.ne
 have n2:=h.B2.2
 have hs:(wk.alloc (.cells c 47)).heap.size=wk.heap.size+1:=World.size_alloc _ _
 have low:∀(c:Array Value) k,k<wk.heap.size→(wk.alloc (.cells c 47)).heap[k]? =wk.heap[k]? :=fun c k hk=>Below.heap_alloc wk _ k hk
 have hfr:Fr (fun k=>k=wk.heap.size) (wk.alloc (.cells c 47)) (wk.alloc (.cells c2 47)):=⟨rfl,rfl,rfl,by simp,fun k hk hn=>by rw[low c k (by omega),low c2 k (by omega)]⟩
 exact⟨h.fr.trans' hfr (fun i hi(e:i=wk.heap.size)=>by have:=h.o8;omega),hfr.keep h.b2 n1,heap_alloc_new wk _,h.rdr.keep hfr n2 (fun k hk e=>(h.off k hk).2 e),h.o2,h.o8,h.oB,h.ne,h.off⟩
theorem G.fin{w0 wk:World}{z2 z8 B n:Nat}{v2:Value}{xs:List UInt8}{c:Array Value}(h:G w0 wk z2 z8 B n v2 xs c){w':World}(hfr:Fr (fun k=>k=z2) wk w'):Fr (fun _=>False) w0 w':=
 h.fr.trans' hfr (fun i hi(e:i=z2)=>by have:=h.o2;omega)
theorem set6{wk:World}{z2:Nat}{a b c d e f:Value}:Fr (fun k=>k=z2) wk ((((((wk.setCell ⟨z2,0,none⟩ a).setCell ⟨z2,1,none⟩ b).setCell ⟨z2,2,none⟩ c).setCell ⟨z2,3,none⟩ d).setCell ⟨z2,4,none⟩ e).setCell ⟨z2,5,none⟩ f):=
 (((((Fr.one _ _ _ _).trans (Fr.one _ _ _ _)).trans (Fr.one _ _ _ _)).trans (Fr.one _ _ _ _)).trans (Fr.one _ _ _ _)).trans (Fr.one _ _ _ _)
abbrev zeros:Array Value:=#[.int .i64 0,.int .i64 0,.int .i64 0,.int .i64 0,.int .i64 0,.int .i64 0]
set_option maxRecDepth 100000 in
theorem get_end(v:Value)(ys:List UInt8)(w:World)(hr:Rd w v ys)(h0:0<ys.length)(hl:ys.length≤1099511627776)(xs:List UInt8)(hxs:xs=ys.take 6)(hx0:(xs.getD 0 0).toNat=0):
 Calls Tryz.prog 164 #[v] w fun e w'=>e=.returned (.tuple #[.agg Head.none.cells,.int .i64 1,.int .i64 0])∧Fr (fun _=>False) w w':=by
 obtain⟨p,cap,rfl,hc1,hc2,h3⟩:=hr
 have hr:Rd w (.slice p ys.length cap) ys:=⟨p,cap,rfl,hc1,hc2,h3⟩
 have hxl:xs.length=min ys.length 6:=by rw[hxs,List.length_take];omega
 have hx1:0<xs.length:=by omega
 have hel:=el_at hx1
 have hxb:=UInt8.toNat_lt (xs.getD 0 0)
 have hf0:=(R0 w).alloc (.cells zeros 47)
 have hz:=heap_alloc_new w (.cells zeros 47)
 have hall:∃M:Nat,Rd w (.slice p M cap) xs∧M=xs.length∧M≤6∧((ys.length≤6∧M=ys.length)∨(6<ys.length∧M=6)):=by
  by_cases h6:ys.length≤6
  ·have e:xs=ys:=by rw[hxs,List.take_of_length_le h6]
   exact⟨ys.length,e ▸ hr,by rw[e],h6,.inl ⟨h6,rfl⟩⟩
  ·have h1:=rd_take (m:=6) hr (by omega)
   exact⟨6,hxs ▸ h1,by omega,by omega,.inr ⟨by omega,rfl⟩⟩
 obtain⟨M,hrx,hM,hM6,hcase⟩:=hall
 have HNR:=Hd (newReader_calls (.slice p M cap) xs _ (hrx.keep hf0) hx1 (by omega))
 have HZ:=Hd hz
 have HF:=Hd hf0
 have HEL:=Hd hel
 have HXL:=Hd hxl
 clear hr hrx hf0 hz hel hxl h3 hxs hM
 generalize hx:(xs.getD 0 0).toNat=x at*
 have HXX:=Hd hx
 clear hx
 have hsl:=Win.slice_hbI p ys.length cap M (M:Int) rfl (by omega)
 generalize ys.length=yl at*
 obtain⟨h6,rfl⟩|⟨h6,rfl⟩:=hcase
 all_goals go_enter Tryz.func164,Tryz.ntmps164
 all_goals
  go_wp2_with fail
  refine HNR.out.mono ?_
  rintro e w1 ⟨hfr1,B,v2,rfl,hR1,hB1,hv2⟩
  have HU:=Hd (u8_calls B 0 v2 xs _ w1 hR1 HEL.out)
  rw[HXX.out] at HU
  have HR1:=Hd hR1
  have HF1:=Hd hfr1
  have HV2:=Hd hv2
  clear hfr1 hR1 hv2
  go_wp2_with fail
  refine HU.out.mono ?_
  rintro e w2 ⟨rfl,hfr2,hR2⟩
  have hf3:=(R0 w2).alloc (.cells zeros 47)
  have hz3:=heap_alloc_new w2 (.cells zeros 47)
  have HG:=Hd (show G w (w2.alloc (.cells zeros 47)) w.heap.size w2.heap.size B 1 v2 xs zeros from by
   have s1:=HF1.out.size
   have s2:=hfr2.size
   simp only[World.size_alloc] at s1 hB1
   have e1:=hfr2.keep (HF1.out.keep HZ.out (fun h=>h)) (fun(e:w.heap.size=B)=>by omega)
   refine⟨((HF.out.trans HF1.out).trans' hfr2 (fun i hi(e:i=B)=>by omega)).trans hf3,hf3.keep e1 (fun h=>h),hz3,rdr_keep0 hR2 hf3,Nat.le_refl _,by omega,by omega,by omega,fun k hk=> ?_⟩
   have h1:=HV2.out k hk
   have h2:=rd_lt hR2.rd (by have:=HXL.out;omega) k hk
   simp only[World.size_alloc] at h1
   omega)
  clear hfr2 hR2 hf3 hz3 HR1 HF1 HV2 HZ HF HNR HU
  subst hx0
  have q2:=HG.out.b2
  have q8:=HG.out.b8
  obtain⟨a0,a1,a2,a3,a4,a5,af⟩:=cf6 q2 rfl rfl rfl rfl rfl rfl
  obtain⟨c0,c1,c2,c3,c4,c5,cf⟩:=cf6 q8 rfl rfl rfl rfl rfl rfl
  clear q2 q8
  go_wp2_with fail
  refine bodyPost_ret (v:=.tuple #[.agg #[.int .i64 0,.int .i64 0,.int .i64 0,.int .i64 0,.int .i64 0,.int .i64 0],.int .i64 1,.int .i64 0]) (by simp[results,Tryz.results164,go_sem,a0,a1,a2,a3,a4,a5]) rfl ?_
  exact⟨rfl,HG.out.fin set6⟩
set_option maxRecDepth 100000 in
theorem get_mid(v:Value)(ys:List UInt8)(w:World)(hr:Rd w v ys)(h0:0<ys.length)(hl:ys.length≤1099511627776)(xs:List UInt8)(hxs:xs=ys.take 6)(hx3:2<(xs.getD 0 0).toNat)(hx4:(xs.getD 0 0).toNat<128):
 Calls Tryz.prog 164 #[v] w fun e w'=>e=.returned (.tuple #[.agg Head.none.cells,.int .i64 0,.int .i64 2])∧Fr (fun _=>False) w w':=by
 obtain⟨p,cap,rfl,hc1,hc2,h3⟩:=hr
 have hr:Rd w (.slice p ys.length cap) ys:=⟨p,cap,rfl,hc1,hc2,h3⟩
 have hxl:xs.length=min ys.length 6:=by rw[hxs,List.length_take];omega
 have hx1:0<xs.length:=by omega
 have hel:=el_at hx1
 have hxb:=UInt8.toNat_lt (xs.getD 0 0)
 have hf0:=(R0 w).alloc (.cells zeros 47)
 have hz:=heap_alloc_new w (.cells zeros 47)
 have hall:∃M:Nat,Rd w (.slice p M cap) xs∧M=xs.length∧M≤6∧((ys.length≤6∧M=ys.length)∨(6<ys.length∧M=6)):=by
  by_cases h6:ys.length≤6
  ·have e:xs=ys:=by rw[hxs,List.take_of_length_le h6]
   exact⟨ys.length,e ▸ hr,by rw[e],h6,.inl ⟨h6,rfl⟩⟩
  ·have h1:=rd_take (m:=6) hr (by omega)
   exact⟨6,hxs ▸ h1,by omega,by omega,.inr ⟨by omega,rfl⟩⟩
 obtain⟨M,hrx,hM,hM6,hcase⟩:=hall
 have HNR:=Hd (newReader_calls (.slice p M cap) xs _ (hrx.keep hf0) hx1 (by omega))
 have HZ:=Hd hz
 have HF:=Hd hf0
 have HEL:=Hd hel
 have HXL:=Hd hxl
 clear hr hrx hf0 hz hel hxl h3 hxs hM
 generalize hx:(xs.getD 0 0).toNat=x at*
 have HXX:=Hd hx
 clear hx
 have hsl:=Win.slice_hbI p ys.length cap M (M:Int) rfl (by omega)
 generalize ys.length=yl at*
 obtain⟨h6,rfl⟩|⟨h6,rfl⟩:=hcase
 all_goals go_enter Tryz.func164,Tryz.ntmps164
 all_goals
  go_wp2_with fail
  refine HNR.out.mono ?_
  rintro e w1 ⟨hfr1,B,v2,rfl,hR1,hB1,hv2⟩
  have HU:=Hd (u8_calls B 0 v2 xs _ w1 hR1 HEL.out)
  rw[HXX.out] at HU
  have HR1:=Hd hR1
  have HF1:=Hd hfr1
  have HV2:=Hd hv2
  clear hfr1 hR1 hv2
  go_wp2_with fail
  refine HU.out.mono ?_
  rintro e w2 ⟨rfl,hfr2,hR2⟩
  have hf3:=(R0 w2).alloc (.cells zeros 47)
  have hz3:=heap_alloc_new w2 (.cells zeros 47)
  have HG:=Hd (show G w (w2.alloc (.cells zeros 47)) w.heap.size w2.heap.size B 1 v2 xs zeros from by
   have s1:=HF1.out.size
   have s2:=hfr2.size
   simp only[World.size_alloc] at s1 hB1
   have e1:=hfr2.keep (HF1.out.keep HZ.out (fun h=>h)) (fun(e:w.heap.size=B)=>by omega)
   refine⟨((HF.out.trans HF1.out).trans' hfr2 (fun i hi(e:i=B)=>by omega)).trans hf3,hf3.keep e1 (fun h=>h),hz3,rdr_keep0 hR2 hf3,Nat.le_refl _,by omega,by omega,by omega,fun k hk=> ?_⟩
   have h1:=HV2.out k hk
   have h2:=rd_lt hR2.rd (by have:=HXL.out;omega) k hk
   simp only[World.size_alloc] at h1
   omega)
  clear hfr2 hR2 hf3 hz3 HR1 HF1 HV2 HZ HF HNR HU
  have e0:((x:Int)==0)=false:=by simp;omega
  have q2:=HG.out.b2
  have q8:=HG.out.b8
  obtain⟨a0,a1,a2,a3,a4,a5,af⟩:=cf6 q2 rfl rfl rfl rfl rfl rfl
  obtain⟨c0,c1,c2,c3,c4,c5,cf⟩:=cf6 q8 rfl rfl rfl rfl rfl rfl
  clear q2 q8
  go_wp2_with fail
  refine bodyPost_ret (v:=.tuple #[.agg #[.int .i64 0,.int .i64 0,.int .i64 0,.int .i64 0,.int .i64 0,.int .i64 0],.int .i64 0,.int .i64 2]) (by simp[results,Tryz.results164,go_sem,a0,a1,a2,a3,a4,a5]) rfl ?_
  exact⟨rfl,HG.out.fin set6⟩
set_option maxRecDepth 100000 in
theorem get_raw_short(v:Value)(ys:List UInt8)(w:World)(hr:Rd w v ys)(h0:0<ys.length)(hl:ys.length≤1099511627776)(xs:List UInt8)(hxs:xs=ys.take 6)(hx1:1≤(xs.getD 0 0).toNat)(hx2:(xs.getD 0 0).toNat≤2)(hlen:xs.length<3):
 Calls Tryz.prog 164 #[v] w fun e w'=>e=.returned (.tuple #[.agg Head.none.cells,.int .i64 0,.int .i64 1])∧Fr (fun _=>False) w w':=by
 obtain⟨p,cap,rfl,hc1,hc2,h3⟩:=hr
 have hr:Rd w (.slice p ys.length cap) ys:=⟨p,cap,rfl,hc1,hc2,h3⟩
 have hxl:xs.length=min ys.length 6:=by rw[hxs,List.length_take];omega
 have hx1:0<xs.length:=by omega
 have hel:=el_at hx1
 have hxb:=UInt8.toNat_lt (xs.getD 0 0)
 have hf0:=(R0 w).alloc (.cells zeros 47)
 have hz:=heap_alloc_new w (.cells zeros 47)
 have hall:∃M:Nat,Rd w (.slice p M cap) xs∧M=xs.length∧M≤6∧((ys.length≤6∧M=ys.length)∨(6<ys.length∧M=6)):=by
  by_cases h6:ys.length≤6
  ·have e:xs=ys:=by rw[hxs,List.take_of_length_le h6]
   exact⟨ys.length,e ▸ hr,by rw[e],h6,.inl ⟨h6,rfl⟩⟩
  ·have h1:=rd_take (m:=6) hr (by omega)
   exact⟨6,hxs ▸ h1,by omega,by omega,.inr ⟨by omega,rfl⟩⟩
 obtain⟨M,hrx,hM,hM6,hcase⟩:=hall
 have HNR:=Hd (newReader_calls (.slice p M cap) xs _ (hrx.keep hf0) hx1 (by omega))
 have HZ:=Hd hz
 have HF:=Hd hf0
 have HEL:=Hd hel
 have HXL:=Hd hxl
 clear hr hrx hf0 hz hel hxl h3 hxs hM
 generalize hx:(xs.getD 0 0).toNat=x at*
 have HXX:=Hd hx
 clear hx
 have hsl:=Win.slice_hbI p ys.length cap M (M:Int) rfl (by omega)
 generalize ys.length=yl at*
 obtain⟨h6,rfl⟩|⟨h6,rfl⟩:=hcase
 all_goals go_enter Tryz.func164,Tryz.ntmps164
 all_goals
  go_wp2_with fail
  refine HNR.out.mono ?_
  rintro e w1 ⟨hfr1,B,v2,rfl,hR1,hB1,hv2⟩
  have HU:=Hd (u8_calls B 0 v2 xs _ w1 hR1 HEL.out)
  rw[HXX.out] at HU
  have HR1:=Hd hR1
  have HF1:=Hd hfr1
  have HV2:=Hd hv2
  clear hfr1 hR1 hv2
  go_wp2_with fail
  refine HU.out.mono ?_
  rintro e w2 ⟨rfl,hfr2,hR2⟩
  have hf3:=(R0 w2).alloc (.cells zeros 47)
  have hz3:=heap_alloc_new w2 (.cells zeros 47)
  have HG:=Hd (show G w (w2.alloc (.cells zeros 47)) w.heap.size w2.heap.size B 1 v2 xs zeros from by
   have s1:=HF1.out.size
   have s2:=hfr2.size
   simp only[World.size_alloc] at s1 hB1
   have e1:=hfr2.keep (HF1.out.keep HZ.out (fun h=>h)) (fun(e:w.heap.size=B)=>by omega)
   refine⟨((HF.out.trans HF1.out).trans' hfr2 (fun i hi(e:i=B)=>by omega)).trans hf3,hf3.keep e1 (fun h=>h),hz3,rdr_keep0 hR2 hf3,Nat.le_refl _,by omega,by omega,by omega,fun k hk=> ?_⟩
   have h1:=HV2.out k hk
   have h2:=rd_lt hR2.rd (by have:=HXL.out;omega) k hk
   simp only[World.size_alloc] at h1
   omega)
  clear hfr2 hR2 hf3 hz3 HR1 HF1 HV2 HZ HF HNR HU
  have e0:((x:Int)==0)=false:=by simp;omega
  go_wp2_with fail
  generalize w.heap.size=z2 at*
  generalize w2.heap.size=z8 at*
  generalize w2.alloc (.cells zeros 47)=wk at*
  have HH:=Hd (high_none B 1 v2 xs wk HG.out.rdr (by have:=HXL.out;omega))
  refine HH.out.mono ?_
  rintro e w4 ⟨rfl,hfr⟩
  replace HG:=Hd (HG.out.keep hfr)
  clear hfr HH
  have q2:=HG.out.b2
  obtain⟨a0,a1,a2,a3,a4,a5,af⟩:=cf6 q2 rfl rfl rfl rfl rfl rfl
  clear q2
  go_wp2_with fail
  refine bodyPost_ret (v:=.tuple #[.agg #[.int .i64 0,.int .i64 0,.int .i64 0,.int .i64 0,.int .i64 0,.int .i64 0],.int .i64 0,.int .i64 1]) (by simp[results,Tryz.results164,go_sem,a0,a1,a2,a3,a4,a5]) rfl ?_
  exact⟨rfl,HG.out.fin set6⟩
set_option maxRecDepth 100000 in
theorem get_raw(v:Value)(ys:List UInt8)(w:World)(hr:Rd w v ys)(h0:0<ys.length)(hl:ys.length≤1099511627776)(xs:List UInt8)(hxs:xs=ys.take 6)(hx1:1≤(xs.getD 0 0).toNat)(hx2:(xs.getD 0 0).toNat≤2)(hlen:3≤xs.length):
 Calls Tryz.prog 164 #[v] w fun e w'=>e=.returned (.tuple #[.agg (Head.mk (xs.getD 0 0).toNat (beV (xs.drop 1) 2+1) (beV (xs.drop 1) 2+1) 0 0 0).cells,.int .i64 3,.int .i64 0])∧Fr (fun _=>False) w w':=by
 obtain⟨p,cap,rfl,hc1,hc2,h3⟩:=hr
 have hr:Rd w (.slice p ys.length cap) ys:=⟨p,cap,rfl,hc1,hc2,h3⟩
 have hxl:xs.length=min ys.length 6:=by rw[hxs,List.length_take];omega
 have hx1:0<xs.length:=by omega
 have hel:=el_at hx1
 have hxb:=UInt8.toNat_lt (xs.getD 0 0)
 have hf0:=(R0 w).alloc (.cells zeros 47)
 have hz:=heap_alloc_new w (.cells zeros 47)
 have hall:∃M:Nat,Rd w (.slice p M cap) xs∧M=xs.length∧M≤6∧((ys.length≤6∧M=ys.length)∨(6<ys.length∧M=6)):=by
  by_cases h6:ys.length≤6
  ·have e:xs=ys:=by rw[hxs,List.take_of_length_le h6]
   exact⟨ys.length,e ▸ hr,by rw[e],h6,.inl ⟨h6,rfl⟩⟩
  ·have h1:=rd_take (m:=6) hr (by omega)
   exact⟨6,hxs ▸ h1,by omega,by omega,.inr ⟨by omega,rfl⟩⟩
 obtain⟨M,hrx,hM,hM6,hcase⟩:=hall
 have HNR:=Hd (newReader_calls (.slice p M cap) xs _ (hrx.keep hf0) hx1 (by omega))
 have HZ:=Hd hz
 have HF:=Hd hf0
 have HEL:=Hd hel
 have HXL:=Hd hxl
 clear hr hrx hf0 hz hel hxl h3 hxs hM
 generalize hx:(xs.getD 0 0).toNat=x at*
 have HXX:=Hd hx
 clear hx
 have hsl:=Win.slice_hbI p ys.length cap M (M:Int) rfl (by omega)
 generalize ys.length=yl at*
 have hbn1:=beV2_lt (xs.drop 1)
 generalize hn1:beV (xs.drop 1) 2=n1 at*
 have Hn1:=Hd hn1
 clear hn1
 obtain⟨h6,rfl⟩|⟨h6,rfl⟩:=hcase
 all_goals go_enter Tryz.func164,Tryz.ntmps164
 all_goals
  go_wp2_with fail
  refine HNR.out.mono ?_
  rintro e w1 ⟨hfr1,B,v2,rfl,hR1,hB1,hv2⟩
  have HU:=Hd (u8_calls B 0 v2 xs _ w1 hR1 HEL.out)
  rw[HXX.out] at HU
  have HR1:=Hd hR1
  have HF1:=Hd hfr1
  have HV2:=Hd hv2
  clear hfr1 hR1 hv2
  go_wp2_with fail
  refine HU.out.mono ?_
  rintro e w2 ⟨rfl,hfr2,hR2⟩
  have hf3:=(R0 w2).alloc (.cells zeros 47)
  have hz3:=heap_alloc_new w2 (.cells zeros 47)
  have HG:=Hd (show G w (w2.alloc (.cells zeros 47)) w.heap.size w2.heap.size B 1 v2 xs zeros from by
   have s1:=HF1.out.size
   have s2:=hfr2.size
   simp only[World.size_alloc] at s1 hB1
   have e1:=hfr2.keep (HF1.out.keep HZ.out (fun h=>h)) (fun(e:w.heap.size=B)=>by omega)
   refine⟨((HF.out.trans HF1.out).trans' hfr2 (fun i hi(e:i=B)=>by omega)).trans hf3,hf3.keep e1 (fun h=>h),hz3,rdr_keep0 hR2 hf3,Nat.le_refl _,by omega,by omega,by omega,fun k hk=> ?_⟩
   have h1:=HV2.out k hk
   have h2:=rd_lt hR2.rd (by have:=HXL.out;omega) k hk
   simp only[World.size_alloc] at h1
   omega)
  clear hfr2 hR2 hf3 hz3 HR1 HF1 HV2 HZ HF HNR HU
  have e0:((x:Int)==0)=false:=by simp;omega
  go_wp2_with fail
  generalize w.heap.size=z2 at*
  generalize w2.heap.size=z8 at*
  generalize w2.alloc (.cells zeros 47)=wk at*
  have HH:=Hd (high_calls B 1 v2 xs wk HG.out.rdr (by have:=HXL.out;omega))
  rw[Hn1.out] at HH
  refine HH.out.mono ?_
  rintro e w4 ⟨rfl,hfr,hR⟩
  replace HG:=Hd (HG.out.call hfr hR)
  clear hfr hR HH wk
  obtain⟨wk,rfl⟩:∃wk,wk=w4:=⟨_,rfl⟩
  have q8:=HG.out.b8
  obtain⟨c0,c1,c2,c3,c4,c5,cf⟩:=cf6 q8 rfl rfl rfl rfl rfl rfl
  clear q8
  go_wp2_with fail
  replace HG:=Hd (HG.out.set6 (.int .i64 x) (.int .i64 ((n1:Int)+1)) (.int .i64 ((n1:Int)+1)) (.int .i64 0) (.int .i64 0) (.int .i64 0))
  generalize((((((wk.setCell ⟨z8,0,none⟩ (.int .i64 x)).setCell ⟨z8,1,none⟩ (.int .i64 ((n1:Int)+1))).setCell ⟨z8,2,none⟩ (.int .i64 ((n1:Int)+1))).setCell ⟨z8,3,none⟩ (.int .i64 0)).setCell ⟨z8,4,none⟩ (.int .i64 0)).setCell ⟨z8,5,none⟩ (.int .i64 0))=w5 at*
  have _tt:=True.intro
  clear c0 c1 c2 c3 c4 c5 cf
  have q2:=HG.out.b2
  obtain⟨a0,a1,a2,a3,a4,a5,af⟩:=cf6 q2 rfl rfl rfl rfl rfl rfl
  clear q2
  have HSC:=Hd (HG.out.cells' (w':=w5.drew) (Fr.refl _ _).drew)
  have ss:=HSC.out
  obtain⟨c0,c1,c2,c3,c4,c5⟩:=ss
  go_region_held3 (fun w'=>w'.cell? ⟨z8,0,none⟩=some (.int .i64 x)∧w'.cell? ⟨z8,1,none⟩=some (.int .i64 ((n1:Int)+1))∧w'.cell? ⟨z8,2,none⟩=some (.int .i64 ((n1:Int)+1))∧w'.cell? ⟨z8,3,none⟩=some (.int .i64 0)∧w'.cell? ⟨z8,4,none⟩=some (.int .i64 0)∧w'.cell? ⟨z8,5,none⟩=some (.int .i64 0))
   (first|with_reducible exact HSC.out|(refine HG.out.cells' ?_;((try refine Fr.drew ?_);(repeat refine Fr.setCell ?_ (.inl (by simp)) _);first|exact Fr.refl _ _|exact(Fr.refl _ _).drew))) ((first
   | (go_at_call 226
      refine(HG.out.off' (by((try refine Fr.drew ?_);(repeat refine Fr.setCell ?_ (.inl (by simp)) _);first|exact Fr.refl _ _|exact(Fr.refl _ _).drew))).mono ?_
      rintro e wc ⟨rfl,rfl⟩)))
  all_goals
   go_wp2_with fail
   refine bodyPost_ret (v:=.tuple #[.agg #[.int .i64 x,.int .i64 ((n1:Int)+1),.int .i64 ((n1:Int)+1),.int .i64 0,.int .i64 0,.int .i64 0],.int .i64 3,.int .i64 0]) (by simp[results,Tryz.results164,go_sem,a0,a1,a2,a3,a4,a5]) rfl ?_
   exact⟨rfl,HG.out.fin (by((try refine Fr.drew ?_);(repeat refine Fr.setCell ?_ (.inl (by simp)) _);first|exact Fr.refl _ _|exact(Fr.refl _ _).drew))⟩
set_option maxRecDepth 100000 in
theorem get_short1(v:Value)(ys:List UInt8)(w:World)(hr:Rd w v ys)(h0:0<ys.length)(hl:ys.length≤1099511627776)(xs:List UInt8)(hxs:xs=ys.take 6)(hx3:128≤(xs.getD 0 0).toNat)(hlen:xs.length<3):
 Calls Tryz.prog 164 #[v] w fun e w'=>e=.returned (.tuple #[.agg Head.none.cells,.int .i64 0,.int .i64 1])∧Fr (fun _=>False) w w':=by
 obtain⟨p,cap,rfl,hc1,hc2,h3⟩:=hr
 have hr:Rd w (.slice p ys.length cap) ys:=⟨p,cap,rfl,hc1,hc2,h3⟩
 have hxl:xs.length=min ys.length 6:=by rw[hxs,List.length_take];omega
 have hx1:0<xs.length:=by omega
 have hel:=el_at hx1
 have hxb:=UInt8.toNat_lt (xs.getD 0 0)
 have hf0:=(R0 w).alloc (.cells zeros 47)
 have hz:=heap_alloc_new w (.cells zeros 47)
 have hall:∃M:Nat,Rd w (.slice p M cap) xs∧M=xs.length∧M≤6∧((ys.length≤6∧M=ys.length)∨(6<ys.length∧M=6)):=by
  by_cases h6:ys.length≤6
  ·have e:xs=ys:=by rw[hxs,List.take_of_length_le h6]
   exact⟨ys.length,e ▸ hr,by rw[e],h6,.inl ⟨h6,rfl⟩⟩
  ·have h1:=rd_take (m:=6) hr (by omega)
   exact⟨6,hxs ▸ h1,by omega,by omega,.inr ⟨by omega,rfl⟩⟩
 obtain⟨M,hrx,hM,hM6,hcase⟩:=hall
 have HNR:=Hd (newReader_calls (.slice p M cap) xs _ (hrx.keep hf0) hx1 (by omega))
 have HZ:=Hd hz
 have HF:=Hd hf0
 have HEL:=Hd hel
 have HXL:=Hd hxl
 clear hr hrx hf0 hz hel hxl h3 hxs hM
 generalize hx:(xs.getD 0 0).toNat=x at*
 have HXX:=Hd hx
 clear hx
 have hsl:=Win.slice_hbI p ys.length cap M (M:Int) rfl (by omega)
 generalize ys.length=yl at*
 have hq:((x:Int)-128)/32=((x-128)/32:Nat):=by omega
 have hq3:(x-128)/32≤3:=by omega
 generalize(x-128)/32=q at*
 have h31:=and_31 x hxb
 have h31l:x%32<32:=Nat.mod_lt _ (by omega)
 generalize x%32=m at*
 obtain⟨h6,rfl⟩|⟨h6,rfl⟩:=hcase
 all_goals go_enter Tryz.func164,Tryz.ntmps164
 all_goals
  go_wp2_with fail
  refine HNR.out.mono ?_
  rintro e w1 ⟨hfr1,B,v2,rfl,hR1,hB1,hv2⟩
  have HU:=Hd (u8_calls B 0 v2 xs _ w1 hR1 HEL.out)
  rw[HXX.out] at HU
  have HR1:=Hd hR1
  have HF1:=Hd hfr1
  have HV2:=Hd hv2
  clear hfr1 hR1 hv2
  go_wp2_with fail
  refine HU.out.mono ?_
  rintro e w2 ⟨rfl,hfr2,hR2⟩
  have hf3:=(R0 w2).alloc (.cells zeros 47)
  have hz3:=heap_alloc_new w2 (.cells zeros 47)
  have HG:=Hd (show G w (w2.alloc (.cells zeros 47)) w.heap.size w2.heap.size B 1 v2 xs zeros from by
   have s1:=HF1.out.size
   have s2:=hfr2.size
   simp only[World.size_alloc] at s1 hB1
   have e1:=hfr2.keep (HF1.out.keep HZ.out (fun h=>h)) (fun(e:w.heap.size=B)=>by omega)
   refine⟨((HF.out.trans HF1.out).trans' hfr2 (fun i hi(e:i=B)=>by omega)).trans hf3,hf3.keep e1 (fun h=>h),hz3,rdr_keep0 hR2 hf3,Nat.le_refl _,by omega,by omega,by omega,fun k hk=> ?_⟩
   have h1:=HV2.out k hk
   have h2:=rd_lt hR2.rd (by have:=HXL.out;omega) k hk
   simp only[World.size_alloc] at h1
   omega)
  clear hfr2 hR2 hf3 hz3 HR1 HF1 HV2 HZ HF HNR HU
  have e0:((x:Int)==0)=false:=by simp;omega
  have q8:=HG.out.b8
  have c0:=cell_in (i:=0) q8 rfl
  have cf:=fun i=>frozen_in q8 i
  clear q8
  go_wp2_with fail
  replace HG:=Hd (show G w (w2.alloc (.cells #[.int .i64 (3+(q:Int)),.int .i64 0,.int .i64 0,.int .i64 0,.int .i64 0,.int .i64 0] 47)) w.heap.size w2.heap.size B 1 v2 xs #[.int .i64 (3+(q:Int)),.int .i64 0,.int .i64 0,.int .i64 0,.int .i64 0,.int .i64 0] from HG.out.lay _)
  generalize w.heap.size=z2 at*
  generalize w2.heap.size=z8 at*
  generalize w2.alloc (.cells #[.int .i64 (3+(q:Int)),.int .i64 0,.int .i64 0,.int .i64 0,.int .i64 0,.int .i64 0] 47)=wk at*
  clear c0 cf
  have HH:=Hd (high_none B 1 v2 xs wk HG.out.rdr (by have:=HXL.out;omega))
  refine HH.out.mono ?_
  rintro e w4 ⟨rfl,hfr⟩
  replace HG:=Hd (HG.out.keep hfr)
  clear hfr HH
  go_wp2_with fail
  obtain⟨wk,rfl⟩:∃wk,wk=w4:=⟨_,rfl⟩
  have HH:=Hd (high_none B 1 v2 xs wk HG.out.rdr (by have:=HXL.out;omega))
  refine HH.out.mono ?_
  rintro e w5 ⟨rfl,hfr⟩
  replace HG:=Hd (HG.out.keep hfr)
  clear hfr HH
  have q2:=HG.out.b2
  obtain⟨a0,a1,a2,a3,a4,a5,af⟩:=cf6 q2 rfl rfl rfl rfl rfl rfl
  clear q2
  go_wp2_with fail
  refine bodyPost_ret (v:=.tuple #[.agg #[.int .i64 0,.int .i64 0,.int .i64 0,.int .i64 0,.int .i64 0,.int .i64 0],.int .i64 0,.int .i64 1]) (by simp[results,Tryz.results164,go_sem,a0,a1,a2,a3,a4,a5]) rfl ?_
  exact⟨rfl,HG.out.fin set6⟩
set_option maxRecDepth 100000 in
theorem get_short2(v:Value)(ys:List UInt8)(w:World)(hr:Rd w v ys)(h0:0<ys.length)(hl:ys.length≤1099511627776)(xs:List UInt8)(hxs:xs=ys.take 6)(hx3:128≤(xs.getD 0 0).toNat)(hlen:3≤xs.length)(hlen2:xs.length<5):
 Calls Tryz.prog 164 #[v] w fun e w'=>e=.returned (.tuple #[.agg Head.none.cells,.int .i64 0,.int .i64 1])∧Fr (fun _=>False) w w':=by
 obtain⟨p,cap,rfl,hc1,hc2,h3⟩:=hr
 have hr:Rd w (.slice p ys.length cap) ys:=⟨p,cap,rfl,hc1,hc2,h3⟩
 have hxl:xs.length=min ys.length 6:=by rw[hxs,List.length_take];omega
 have hx1:0<xs.length:=by omega
 have hel:=el_at hx1
 have hxb:=UInt8.toNat_lt (xs.getD 0 0)
 have hf0:=(R0 w).alloc (.cells zeros 47)
 have hz:=heap_alloc_new w (.cells zeros 47)
 have hall:∃M:Nat,Rd w (.slice p M cap) xs∧M=xs.length∧M≤6∧((ys.length≤6∧M=ys.length)∨(6<ys.length∧M=6)):=by
  by_cases h6:ys.length≤6
  ·have e:xs=ys:=by rw[hxs,List.take_of_length_le h6]
   exact⟨ys.length,e ▸ hr,by rw[e],h6,.inl ⟨h6,rfl⟩⟩
  ·have h1:=rd_take (m:=6) hr (by omega)
   exact⟨6,hxs ▸ h1,by omega,by omega,.inr ⟨by omega,rfl⟩⟩
 obtain⟨M,hrx,hM,hM6,hcase⟩:=hall
 have HNR:=Hd (newReader_calls (.slice p M cap) xs _ (hrx.keep hf0) hx1 (by omega))
 have HZ:=Hd hz
 have HF:=Hd hf0
 have HEL:=Hd hel
 have HXL:=Hd hxl
 clear hr hrx hf0 hz hel hxl h3 hxs hM
 generalize hx:(xs.getD 0 0).toNat=x at*
 have HXX:=Hd hx
 clear hx
 have hsl:=Win.slice_hbI p ys.length cap M (M:Int) rfl (by omega)
 generalize ys.length=yl at*
 have hq:((x:Int)-128)/32=((x-128)/32:Nat):=by omega
 have hq3:(x-128)/32≤3:=by omega
 generalize(x-128)/32=q at*
 have h31:=and_31 x hxb
 have h31l:x%32<32:=Nat.mod_lt _ (by omega)
 generalize x%32=m at*
 have hbn1:=beV2_lt (xs.drop 1)
 generalize hn1:beV (xs.drop 1) 2=n1 at*
 have Hn1:=Hd hn1
 clear hn1
 obtain⟨h6,rfl⟩|⟨h6,rfl⟩:=hcase
 all_goals go_enter Tryz.func164,Tryz.ntmps164
 all_goals
  go_wp2_with fail
  refine HNR.out.mono ?_
  rintro e w1 ⟨hfr1,B,v2,rfl,hR1,hB1,hv2⟩
  have HU:=Hd (u8_calls B 0 v2 xs _ w1 hR1 HEL.out)
  rw[HXX.out] at HU
  have HR1:=Hd hR1
  have HF1:=Hd hfr1
  have HV2:=Hd hv2
  clear hfr1 hR1 hv2
  go_wp2_with fail
  refine HU.out.mono ?_
  rintro e w2 ⟨rfl,hfr2,hR2⟩
  have hf3:=(R0 w2).alloc (.cells zeros 47)
  have hz3:=heap_alloc_new w2 (.cells zeros 47)
  have HG:=Hd (show G w (w2.alloc (.cells zeros 47)) w.heap.size w2.heap.size B 1 v2 xs zeros from by
   have s1:=HF1.out.size
   have s2:=hfr2.size
   simp only[World.size_alloc] at s1 hB1
   have e1:=hfr2.keep (HF1.out.keep HZ.out (fun h=>h)) (fun(e:w.heap.size=B)=>by omega)
   refine⟨((HF.out.trans HF1.out).trans' hfr2 (fun i hi(e:i=B)=>by omega)).trans hf3,hf3.keep e1 (fun h=>h),hz3,rdr_keep0 hR2 hf3,Nat.le_refl _,by omega,by omega,by omega,fun k hk=> ?_⟩
   have h1:=HV2.out k hk
   have h2:=rd_lt hR2.rd (by have:=HXL.out;omega) k hk
   simp only[World.size_alloc] at h1
   omega)
  clear hfr2 hR2 hf3 hz3 HR1 HF1 HV2 HZ HF HNR HU
  have e0:((x:Int)==0)=false:=by simp;omega
  have q8:=HG.out.b8
  have c0:=cell_in (i:=0) q8 rfl
  have cf:=fun i=>frozen_in q8 i
  clear q8
  go_wp2_with fail
  replace HG:=Hd (show G w (w2.alloc (.cells #[.int .i64 (3+(q:Int)),.int .i64 0,.int .i64 0,.int .i64 0,.int .i64 0,.int .i64 0] 47)) w.heap.size w2.heap.size B 1 v2 xs #[.int .i64 (3+(q:Int)),.int .i64 0,.int .i64 0,.int .i64 0,.int .i64 0,.int .i64 0] from HG.out.lay _)
  generalize w.heap.size=z2 at*
  generalize w2.heap.size=z8 at*
  generalize w2.alloc (.cells #[.int .i64 (3+(q:Int)),.int .i64 0,.int .i64 0,.int .i64 0,.int .i64 0,.int .i64 0] 47)=wk at*
  clear c0 cf
  have HH:=Hd (high_calls B 1 v2 xs wk HG.out.rdr (by have:=HXL.out;omega))
  rw[Hn1.out] at HH
  refine HH.out.mono ?_
  rintro e w4 ⟨rfl,hfr,hR⟩
  replace HG:=Hd (HG.out.call hfr hR)
  clear hfr hR HH wk
  obtain⟨wk,rfl⟩:∃wk,wk=w4:=⟨_,rfl⟩
  go_wp2_with fail
  have HH:=Hd (high_none B 3 v2 xs wk HG.out.rdr (by have:=HXL.out;omega))
  refine HH.out.mono ?_
  rintro e w5 ⟨rfl,hfr⟩
  replace HG:=Hd (HG.out.keep hfr)
  clear hfr HH
  have q2:=HG.out.b2
  obtain⟨a0,a1,a2,a3,a4,a5,af⟩:=cf6 q2 rfl rfl rfl rfl rfl rfl
  clear q2
  go_wp2_with fail
  refine bodyPost_ret (v:=.tuple #[.agg #[.int .i64 0,.int .i64 0,.int .i64 0,.int .i64 0,.int .i64 0,.int .i64 0],.int .i64 0,.int .i64 1]) (by simp[results,Tryz.results164,go_sem,a0,a1,a2,a3,a4,a5]) rfl ?_
  exact⟨rfl,HG.out.fin set6⟩
set_option maxRecDepth 100000 in
theorem get_packed(v:Value)(ys:List UInt8)(w:World)(hr:Rd w v ys)(h0:0<ys.length)(hl:ys.length≤1099511627776)(xs:List UInt8)(hxs:xs=ys.take 6)(hx3:128≤(xs.getD 0 0).toNat)(hlen:5≤xs.length)(hq2:((xs.getD 0 0).toNat-128)/32<2):
 Calls Tryz.prog 164 #[v] w fun e w'=>e=.returned (.tuple #[.agg (Head.mk (3+((xs.getD 0 0).toNat-128)/32) ((xs.getD 0 0).toNat%32*65536+beV (xs.drop 1) 2+1) (beV (xs.drop 3) 2+1) 0 0 0).cells,.int .i64 5,.int .i64 0])∧Fr (fun _=>False) w w':=by
 obtain⟨p,cap,rfl,hc1,hc2,h3⟩:=hr
 have hr:Rd w (.slice p ys.length cap) ys:=⟨p,cap,rfl,hc1,hc2,h3⟩
 have hxl:xs.length=min ys.length 6:=by rw[hxs,List.length_take];omega
 have hx1:0<xs.length:=by omega
 have hel:=el_at hx1
 have hxb:=UInt8.toNat_lt (xs.getD 0 0)
 have hf0:=(R0 w).alloc (.cells zeros 47)
 have hz:=heap_alloc_new w (.cells zeros 47)
 have hall:∃M:Nat,Rd w (.slice p M cap) xs∧M=xs.length∧M≤6∧((ys.length≤6∧M=ys.length)∨(6<ys.length∧M=6)):=by
  by_cases h6:ys.length≤6
  ·have e:xs=ys:=by rw[hxs,List.take_of_length_le h6]
   exact⟨ys.length,e ▸ hr,by rw[e],h6,.inl ⟨h6,rfl⟩⟩
  ·have h1:=rd_take (m:=6) hr (by omega)
   exact⟨6,hxs ▸ h1,by omega,by omega,.inr ⟨by omega,rfl⟩⟩
 obtain⟨M,hrx,hM,hM6,hcase⟩:=hall
 have HNR:=Hd (newReader_calls (.slice p M cap) xs _ (hrx.keep hf0) hx1 (by omega))
 have HZ:=Hd hz
 have HF:=Hd hf0
 have HEL:=Hd hel
 have HXL:=Hd hxl
 clear hr hrx hf0 hz hel hxl h3 hxs hM
 generalize hx:(xs.getD 0 0).toNat=x at*
 have HXX:=Hd hx
 clear hx
 have hsl:=Win.slice_hbI p ys.length cap M (M:Int) rfl (by omega)
 generalize ys.length=yl at*
 have hq:((x:Int)-128)/32=((x-128)/32:Nat):=by omega
 have hq3:(x-128)/32≤3:=by omega
 generalize(x-128)/32=q at*
 have h31:=and_31 x hxb
 have h31l:x%32<32:=Nat.mod_lt _ (by omega)
 generalize x%32=m at*
 have hbn1:=beV2_lt (xs.drop 1)
 generalize hn1:beV (xs.drop 1) 2=n1 at*
 have Hn1:=Hd hn1
 clear hn1
 have hbn2:=beV2_lt (xs.drop 3)
 generalize hn2:beV (xs.drop 3) 2=n2 at*
 have Hn2:=Hd hn2
 clear hn2
 obtain⟨h6,rfl⟩|⟨h6,rfl⟩:=hcase
 all_goals go_enter Tryz.func164,Tryz.ntmps164
 all_goals
  go_wp2_with fail
  refine HNR.out.mono ?_
  rintro e w1 ⟨hfr1,B,v2,rfl,hR1,hB1,hv2⟩
  have HU:=Hd (u8_calls B 0 v2 xs _ w1 hR1 HEL.out)
  rw[HXX.out] at HU
  have HR1:=Hd hR1
  have HF1:=Hd hfr1
  have HV2:=Hd hv2
  clear hfr1 hR1 hv2
  go_wp2_with fail
  refine HU.out.mono ?_
  rintro e w2 ⟨rfl,hfr2,hR2⟩
  have hf3:=(R0 w2).alloc (.cells zeros 47)
  have hz3:=heap_alloc_new w2 (.cells zeros 47)
  have HG:=Hd (show G w (w2.alloc (.cells zeros 47)) w.heap.size w2.heap.size B 1 v2 xs zeros from by
   have s1:=HF1.out.size
   have s2:=hfr2.size
   simp only[World.size_alloc] at s1 hB1
   have e1:=hfr2.keep (HF1.out.keep HZ.out (fun h=>h)) (fun(e:w.heap.size=B)=>by omega)
   refine⟨((HF.out.trans HF1.out).trans' hfr2 (fun i hi(e:i=B)=>by omega)).trans hf3,hf3.keep e1 (fun h=>h),hz3,rdr_keep0 hR2 hf3,Nat.le_refl _,by omega,by omega,by omega,fun k hk=> ?_⟩
   have h1:=HV2.out k hk
   have h2:=rd_lt hR2.rd (by have:=HXL.out;omega) k hk
   simp only[World.size_alloc] at h1
   omega)
  clear hfr2 hR2 hf3 hz3 HR1 HF1 HV2 HZ HF HNR HU
  have e0:((x:Int)==0)=false:=by simp;omega
  have q8:=HG.out.b8
  have c0:=cell_in (i:=0) q8 rfl
  have cf:=fun i=>frozen_in q8 i
  clear q8
  go_wp2_with fail
  replace HG:=Hd (show G w (w2.alloc (.cells #[.int .i64 (3+(q:Int)),.int .i64 0,.int .i64 0,.int .i64 0,.int .i64 0,.int .i64 0] 47)) w.heap.size w2.heap.size B 1 v2 xs #[.int .i64 (3+(q:Int)),.int .i64 0,.int .i64 0,.int .i64 0,.int .i64 0,.int .i64 0] from HG.out.lay _)
  generalize w.heap.size=z2 at*
  generalize w2.heap.size=z8 at*
  generalize w2.alloc (.cells #[.int .i64 (3+(q:Int)),.int .i64 0,.int .i64 0,.int .i64 0,.int .i64 0,.int .i64 0] 47)=wk at*
  clear c0 cf
  have HH:=Hd (high_calls B 1 v2 xs wk HG.out.rdr (by have:=HXL.out;omega))
  rw[Hn1.out] at HH
  refine HH.out.mono ?_
  rintro e w4 ⟨rfl,hfr,hR⟩
  replace HG:=Hd (HG.out.call hfr hR)
  clear hfr hR HH wk
  obtain⟨wk,rfl⟩:∃wk,wk=w4:=⟨_,rfl⟩
  go_wp2_with fail
  have HH:=Hd (high_calls B 3 v2 xs wk HG.out.rdr (by have:=HXL.out;omega))
  rw[Hn2.out] at HH
  refine HH.out.mono ?_
  rintro e w5 ⟨rfl,hfr,hR⟩
  replace HG:=Hd (HG.out.call hfr hR)
  clear hfr hR HH wk
  obtain⟨wk,rfl⟩:∃wk,wk=w5:=⟨_,rfl⟩
  have q8:=HG.out.b8
  obtain⟨c0,c1,c2,c3,c4,c5,cf⟩:=cf6 q8 rfl rfl rfl rfl rfl rfl
  clear q8
  go_wp2_with fail
  replace HG:=Hd (show G w ((wk.setCell ⟨z8,1,none⟩ (.int .i64 ((m:Int)*65536+n1+1))).setCell ⟨z8,2,none⟩ (.int .i64 ((n2:Int)+1))) z2 z8 B 5 v2 xs #[.int .i64 (3+(q:Int)),.int .i64 ((m:Int)*65536+n1+1),.int .i64 ((n2:Int)+1),.int .i64 0,.int .i64 0,.int .i64 0] from(HG.out.set 1 _).set 2 _)
  generalize(wk.setCell ⟨z8,1,none⟩ (.int .i64 ((m:Int)*65536+n1+1))).setCell ⟨z8,2,none⟩ (.int .i64 ((n2:Int)+1))=w6 at*
  clear c0 c1 c2 c3 c4 c5 cf
  have q2:=HG.out.b2
  obtain⟨a0,a1,a2,a3,a4,a5,af⟩:=cf6 q2 rfl rfl rfl rfl rfl rfl
  clear q2
  have HSC:=Hd (HG.out.cells' (w':=w6.drew) (Fr.refl _ _).drew)
  have ss:=HSC.out
  obtain⟨c0,c1,c2,c3,c4,c5⟩:=ss
  go_region_held3 (fun w'=>w'.cell? ⟨z8,0,none⟩=some (.int .i64 (3+(q:Int)))∧w'.cell? ⟨z8,1,none⟩=some (.int .i64 ((m:Int)*65536+n1+1))∧w'.cell? ⟨z8,2,none⟩=some (.int .i64 ((n2:Int)+1))∧w'.cell? ⟨z8,3,none⟩=some (.int .i64 0)∧w'.cell? ⟨z8,4,none⟩=some (.int .i64 0)∧w'.cell? ⟨z8,5,none⟩=some (.int .i64 0))
   (first|with_reducible exact HSC.out|(refine HG.out.cells' ?_;((try refine Fr.drew ?_);(repeat refine Fr.setCell ?_ (.inl (by simp)) _);first|exact Fr.refl _ _|exact(Fr.refl _ _).drew))) ((first
   | (go_at_call 226
      refine(HG.out.off' (by((try refine Fr.drew ?_);(repeat refine Fr.setCell ?_ (.inl (by simp)) _);first|exact Fr.refl _ _|exact(Fr.refl _ _).drew))).mono ?_
      rintro e wc ⟨rfl,rfl⟩)))
  all_goals
   go_wp2_with fail
   refine bodyPost_ret (v:=.tuple #[.agg #[.int .i64 (3+(q:Int)),.int .i64 ((m:Int)*65536+n1+1),.int .i64 ((n2:Int)+1),.int .i64 0,.int .i64 0,.int .i64 0],.int .i64 5,.int .i64 0]) (by simp[results,Tryz.results164,go_sem,a0,a1,a2,a3,a4,a5]) rfl ?_
   exact⟨rfl,HG.out.fin (by((try refine Fr.drew ?_);(repeat refine Fr.setCell ?_ (.inl (by simp)) _);first|exact Fr.refl _ _|exact(Fr.refl _ _).drew))⟩
set_option maxRecDepth 100000 in
theorem get_short3(v:Value)(ys:List UInt8)(w:World)(hr:Rd w v ys)(h0:0<ys.length)(hl:ys.length≤1099511627776)(xs:List UInt8)(hxs:xs=ys.take 6)(hx3:128≤(xs.getD 0 0).toNat)(hlen:xs.length=5)(hq2:¬((xs.getD 0 0).toNat-128)/32<2):
 Calls Tryz.prog 164 #[v] w fun e w'=>e=.returned (.tuple #[.agg Head.none.cells,.int .i64 0,.int .i64 1])∧Fr (fun _=>False) w w':=by
 obtain⟨p,cap,rfl,hc1,hc2,h3⟩:=hr
 have hr:Rd w (.slice p ys.length cap) ys:=⟨p,cap,rfl,hc1,hc2,h3⟩
 have hxl:xs.length=min ys.length 6:=by rw[hxs,List.length_take];omega
 have hx1:0<xs.length:=by omega
 have hel:=el_at hx1
 have hxb:=UInt8.toNat_lt (xs.getD 0 0)
 have hf0:=(R0 w).alloc (.cells zeros 47)
 have hz:=heap_alloc_new w (.cells zeros 47)
 have hall:∃M:Nat,Rd w (.slice p M cap) xs∧M=xs.length∧M≤6∧((ys.length≤6∧M=ys.length)∨(6<ys.length∧M=6)):=by
  by_cases h6:ys.length≤6
  ·have e:xs=ys:=by rw[hxs,List.take_of_length_le h6]
   exact⟨ys.length,e ▸ hr,by rw[e],h6,.inl ⟨h6,rfl⟩⟩
  ·have h1:=rd_take (m:=6) hr (by omega)
   exact⟨6,hxs ▸ h1,by omega,by omega,.inr ⟨by omega,rfl⟩⟩
 obtain⟨M,hrx,hM,hM6,hcase⟩:=hall
 have HNR:=Hd (newReader_calls (.slice p M cap) xs _ (hrx.keep hf0) hx1 (by omega))
 have HZ:=Hd hz
 have HF:=Hd hf0
 have HEL:=Hd hel
 have HXL:=Hd hxl
 clear hr hrx hf0 hz hel hxl h3 hxs hM
 generalize hx:(xs.getD 0 0).toNat=x at*
 have HXX:=Hd hx
 clear hx
 have hsl:=Win.slice_hbI p ys.length cap M (M:Int) rfl (by omega)
 generalize ys.length=yl at*
 have hq:((x:Int)-128)/32=((x-128)/32:Nat):=by omega
 have hq3:(x-128)/32≤3:=by omega
 generalize(x-128)/32=q at*
 have h31:=and_31 x hxb
 have h31l:x%32<32:=Nat.mod_lt _ (by omega)
 generalize x%32=m at*
 have hbn1:=beV2_lt (xs.drop 1)
 generalize hn1:beV (xs.drop 1) 2=n1 at*
 have Hn1:=Hd hn1
 clear hn1
 have hbn2:=beV2_lt (xs.drop 3)
 generalize hn2:beV (xs.drop 3) 2=n2 at*
 have Hn2:=Hd hn2
 clear hn2
 obtain⟨h6,rfl⟩|⟨h6,rfl⟩:=hcase
 all_goals go_enter Tryz.func164,Tryz.ntmps164
 all_goals
  go_wp2_with fail
  refine HNR.out.mono ?_
  rintro e w1 ⟨hfr1,B,v2,rfl,hR1,hB1,hv2⟩
  have HU:=Hd (u8_calls B 0 v2 xs _ w1 hR1 HEL.out)
  rw[HXX.out] at HU
  have HR1:=Hd hR1
  have HF1:=Hd hfr1
  have HV2:=Hd hv2
  clear hfr1 hR1 hv2
  go_wp2_with fail
  refine HU.out.mono ?_
  rintro e w2 ⟨rfl,hfr2,hR2⟩
  have hf3:=(R0 w2).alloc (.cells zeros 47)
  have hz3:=heap_alloc_new w2 (.cells zeros 47)
  have HG:=Hd (show G w (w2.alloc (.cells zeros 47)) w.heap.size w2.heap.size B 1 v2 xs zeros from by
   have s1:=HF1.out.size
   have s2:=hfr2.size
   simp only[World.size_alloc] at s1 hB1
   have e1:=hfr2.keep (HF1.out.keep HZ.out (fun h=>h)) (fun(e:w.heap.size=B)=>by omega)
   refine⟨((HF.out.trans HF1.out).trans' hfr2 (fun i hi(e:i=B)=>by omega)).trans hf3,hf3.keep e1 (fun h=>h),hz3,rdr_keep0 hR2 hf3,Nat.le_refl _,by omega,by omega,by omega,fun k hk=> ?_⟩
   have h1:=HV2.out k hk
   have h2:=rd_lt hR2.rd (by have:=HXL.out;omega) k hk
   simp only[World.size_alloc] at h1
   omega)
  clear hfr2 hR2 hf3 hz3 HR1 HF1 HV2 HZ HF HNR HU
  have e0:((x:Int)==0)=false:=by simp;omega
  have q8:=HG.out.b8
  have c0:=cell_in (i:=0) q8 rfl
  have cf:=fun i=>frozen_in q8 i
  clear q8
  go_wp2_with fail
  replace HG:=Hd (show G w (w2.alloc (.cells #[.int .i64 (3+(q:Int)),.int .i64 0,.int .i64 0,.int .i64 0,.int .i64 0,.int .i64 0] 47)) w.heap.size w2.heap.size B 1 v2 xs #[.int .i64 (3+(q:Int)),.int .i64 0,.int .i64 0,.int .i64 0,.int .i64 0,.int .i64 0] from HG.out.lay _)
  generalize w.heap.size=z2 at*
  generalize w2.heap.size=z8 at*
  generalize w2.alloc (.cells #[.int .i64 (3+(q:Int)),.int .i64 0,.int .i64 0,.int .i64 0,.int .i64 0,.int .i64 0] 47)=wk at*
  clear c0 cf
  have HH:=Hd (high_calls B 1 v2 xs wk HG.out.rdr (by have:=HXL.out;omega))
  rw[Hn1.out] at HH
  refine HH.out.mono ?_
  rintro e w4 ⟨rfl,hfr,hR⟩
  replace HG:=Hd (HG.out.call hfr hR)
  clear hfr hR HH wk
  obtain⟨wk,rfl⟩:∃wk,wk=w4:=⟨_,rfl⟩
  go_wp2_with fail
  have HH:=Hd (high_calls B 3 v2 xs wk HG.out.rdr (by have:=HXL.out;omega))
  rw[Hn2.out] at HH
  refine HH.out.mono ?_
  rintro e w5 ⟨rfl,hfr,hR⟩
  replace HG:=Hd (HG.out.call hfr hR)
  clear hfr hR HH wk
  obtain⟨wk,rfl⟩:∃wk,wk=w5:=⟨_,rfl⟩
  have q8:=HG.out.b8
  obtain⟨c0,c1,c2,c3,c4,c5,cf⟩:=cf6 q8 rfl rfl rfl rfl rfl rfl
  clear q8
  go_wp2_with fail
  replace HG:=Hd (show G w ((wk.setCell ⟨z8,1,none⟩ (.int .i64 ((m:Int)*65536+n1+1))).setCell ⟨z8,2,none⟩ (.int .i64 ((n2:Int)+1))) z2 z8 B 5 v2 xs #[.int .i64 (3+(q:Int)),.int .i64 ((m:Int)*65536+n1+1),.int .i64 ((n2:Int)+1),.int .i64 0,.int .i64 0,.int .i64 0] from(HG.out.set 1 _).set 2 _)
  generalize(wk.setCell ⟨z8,1,none⟩ (.int .i64 ((m:Int)*65536+n1+1))).setCell ⟨z8,2,none⟩ (.int .i64 ((n2:Int)+1))=w6 at*
  clear c0 c1 c2 c3 c4 c5 cf
  have HU:=Hd (u8_none B 5 v2 xs w6 HG.out.rdr (by omega))
  refine HU.out.mono ?_
  rintro e w7 ⟨rfl,hfr⟩
  replace HG:=Hd (HG.out.keep hfr)
  clear hfr HU
  have q2:=HG.out.b2
  obtain⟨a0,a1,a2,a3,a4,a5,af⟩:=cf6 q2 rfl rfl rfl rfl rfl rfl
  clear q2
  go_wp2_with fail
  refine bodyPost_ret (v:=.tuple #[.agg #[.int .i64 0,.int .i64 0,.int .i64 0,.int .i64 0,.int .i64 0,.int .i64 0],.int .i64 0,.int .i64 1]) (by simp[results,Tryz.results164,go_sem,a0,a1,a2,a3,a4,a5]) rfl ?_
  exact⟨rfl,HG.out.fin set6⟩
end Ck
end Go.Proofs.YtffoddpjfgjelaaGreatDoor
