/- Part 15 of 48: lemmas of the last part, each under the conditions that it names. -/
import Derived.Test.YtffoddpjfgjelaaGreatDoorQ04
import Derived.Test.YtffoddpjfgjelaaGreatDoorQ13
import Derived.Test.YtffoddpjfgjelaaGreatDoorQ14
set_option linter.unusedVariables false
set_option linter.unusedSimpArgs false
set_option maxRecDepth 1500
set_option maxHeartbeats 8000000
namespace Go.Proofs.YtffoddpjfgjelaaGreatDoor
open Go.RowKit
namespace Lz
open Mem Rc St
theorem rd_lt{w:World}{v:Value}{xs:List UInt8}(h:Rd w v xs)(h0:0<xs.length):∀k,v.ownBlock=some k→k<w.heap.size:=by
 obtain⟨p,cap,rfl,_,_,h3⟩:=h
 obtain⟨b,o,rfl,hc⟩:=h3 h0
 intro k hk
 simp only[Value.ownBlock,Option.some.injEq] at hk
 subst hk
 exact block_lt_of_cell (hc 0 xs[0] (by simp[h0]))
theorem At.keepNew{w0 w w':World}{l:L}{c:C}{y0 y:Y}(h0:At w0 l c y0)(h:At w l c y)(hfr:Fr (fun k=>w0.heap.size≤k) w w'):At w' l c y:=by
 have x1:=lt_of_block h0.x
 have x2:=lt_of_block h0.d
 have x3:=lt_of_block h0.tab.box
 have x4:=lt_of_block h0.win.box
 have x5:=lt_of_block h0.rc.1
 refine⟨hfr.keep h.x (by omega),hfr.keep h.d (by omega),⟨hfr.keep h.tab.box (by omega),fun j hj=> ?_,h.tab.inj⟩,h.win.keep hfr (by omega) (fun k hk=> ?_),h.rc.keep hfr (by omega) (fun k hk=> ?_),h.ok,h.c,h.bvoff,h.rvoff⟩
 ·have:=(h0.tab.set j hj).lt
  exact(h.tab.set j hj).step hfr (by omega) (by omega)
 ·have:=(World.ownsRow.lt h0.win.own k hk).2
  omega
 ·have:=rd_lt h0.rc.2 h0.ok.d.2.2.2.2 k hk
  omega
theorem fin4{w wk:World}{l:L}{a b c d:Value}(h:Fr l.S w wk):Fr l.S w ((((wk.setCell ⟨w.heap.size,0,none⟩ a).setCell ⟨w.heap.size,1,none⟩ b).setCell ⟨w.heap.size,2,none⟩ c).setCell ⟨w.heap.size,3,none⟩ d):=
 Fr.setCell (Fr.setCell (Fr.setCell (Fr.setCell h (.inr (Nat.le_refl _)) _) (.inr (Nat.le_refl _)) _) (.inr (Nat.le_refl _)) _) (.inr (Nat.le_refl _)) _
theorem set1{z i:Nat}{a b:World}{v:Value}(h:Fr (fun k=>z≤k) a b):Fr (fun k=>z≤k) a (b.setCell ⟨z,i,none⟩ v):=h.setCell (p:=⟨z,i,none⟩) (.inl (Nat.le_refl z)) v
theorem fin5{w wk:World}{l:L}{c:C}{y0 y:Y}{a b d e:Value}(h0:At w l c y0)(h:At wk l c y):At ((((wk.setCell ⟨w.heap.size,0,none⟩ a).setCell ⟨w.heap.size,1,none⟩ b).setCell ⟨w.heap.size,2,none⟩ d).setCell ⟨w.heap.size,3,none⟩ e) l c y:=
 h0.keepNew h (set1 (set1 (set1 (set1 (Fr.refl _ _)))))
def PostS(l:L)(c:C)(w:World)(r:Sy×Y)(e:Ending)(w':World):Prop:=e=.returned (.agg r.1.cells)∧Fr l.S w w'∧At w' l c r.2
theorem At.atC{w:World}{l:L}{c:C}{y:Y}(h:At w l c y)(m:Nat):Calls Tryz.prog 192 #[ptr l.T,.int .i64 c.all.length] (w.drewN m) fun e w'=>e=.returned (.int .i64 c.at)∧∃n,w'=w.drewN n:=by
 refine(at_calls l.T c.all.length c.pb c.s.num _ (h.drewN m).cells.t2 (h.drewN m).cells.t3 h.c.pb (by have:=h.win.much;omega) h.c.s.num).mono ?_
 rintro e w' ⟨rfl,n,rfl⟩
 exact⟨rfl,m+n,by simp⟩
set_option maxRecDepth 100000 in
theorem symbol_calls{l:L}{c:C}{y:Y}{w:World}(h:At w l c y):
 Calls Tryz.prog 220 #[ptr l.X] w (PostS l c w (y.symbol c)):=by
 obtain⟨res,hres⟩:∃res,res=y.symbol c:=⟨_,rfl⟩
 rw[←hres]
 unfold Y.symbol at hres
 have HR:=Hd hres
 have hf0:=(R0 w).alloc (.cells #[.int .i64 0,.int .u8 0,.int .i64 0,.int .i64 0] 110)
 have hz:=heap_alloc_new w (.cells #[.int .i64 0,.int .u8 0,.int .i64 0,.int .i64 0] 110)
 have HN:=Hd (h.newOff (Nat.le_refl _))
 have H0:=Hd h
 have hA:=h.keep hf0
 have k0:=hA.cells.x0
 have k1:=hA.cells.d0
 have k2:=hA.cells.d1
 have k3:=hA.cells.t3
 have HALL:=Hd (fun n=>hA.drewN n)
 have HFN:=Hd (fun n=>hf0.drewN n)
 have HZN:=Hd (fun n=>((R0 _).drewN n).keep hz (fun h=>h))
 have HPOS:=Hd hA.pos
 have HAT:=Hd hA.atC
 clear hres h hA hf0 hz
 generalize hca:c.at=ca at*
 have HCA:=Hd hca
 clear hca
 go_enter Tryz.func220,Tryz.ntmps220
 go_wp2_with fail
 generalize w.alloc (.cells #[.int .i64 0,.int .u8 0,.int .i64 0,.int .i64 0] 110)=W at*
 go_quiet (first|exact quiet_left (HPOS.out _)|exact HAT.out _)
 have hA:=HALL.out nq
 have HF:=Hd (lift (S:=l.S) (HFN.out nq))
 have HZ:=Hd (HZN.out nq)
 generalize W.drewN nq=W1 at*
 clear HALL HFN HZN HPOS HAT k0 k1 k2 k3
 have m0:=hA.cells.x0
 have m1:=hA.cells.d0
 have m2:W1.cell? ⟨l.T,8,none⟩=some (ptr (l.b 0)):=hA.cells.row 0 (by omega)
 have hb:=(Y.bit_ok hA.ok (by omega:0<18) ca).2
 have HBC:=Hd (bit_calls hA 0 ca (by omega))
 clear hA
 generalize y.bit 0 ca=r at*
 obtain⟨v,y1⟩:=r
 simp only at hb HR
 go_wp2_with fail
 refine HBC.out.mono ?_
 rintro e w1 ⟨rfl,hfr,hA⟩
 simp only at hA
 replace HZ:=Hd (hfr.keep HZ.out HN.out)
 replace HF:=Hd (HF.out.trans hfr)
 clear hfr
 clear HBC m0 m1 m2
 obtain rfl|rfl:v=0∨v=1:=by omega
 ·clear hb
  replace HR:=Hd (show res=y1.lit c from HR.out.trans (if_pos (show(0:Nat)=0 from rfl)))
  have HBC:=Hd (literal_calls hA)
  have hb:=(Y.literal_ok (c:=c) hA.ok).2
  clear hA
  unfold Y.lit at HR
  generalize y1.literal c=r at*
  obtain⟨v2,y2⟩:=r
  simp only at hb HR
  have hw:IntKind.u8.wrap (v2:Int)=(v2:Int):=by rw[IntKind.wrap_u8];omega
  go_wp2_with fail
  refine HBC.out.mono ?_
  rintro e w2 ⟨rfl,hfr,hA⟩
  simp only at hA
  replace HZ:=Hd (hfr.keep HZ.out HN.out)
  replace HF:=Hd (HF.out.trans hfr)
  clear hfr
  clear HBC
  have HA:=Hd hA
  obtain⟨z0,z1,z2,z3,zf⟩:=cf4 HZ.out rfl rfl rfl rfl
  clear hA
  go_wp2_with fail
  refine bodyPost_ret (v:=.agg #[.int .i64 1,.int .u8 v2,.int .i64 0,.int .i64 0]) (by simp[results,Tryz.results220,go_sem,z0,z1,z2,z3]) rfl ?_
  rw[show res=(⟨1,v2,0,0⟩,y2) from HR.out]
  exact⟨rfl,fin4 HF.out,fin5 H0.out HA.out⟩
 ·clear hb
  replace HR:=Hd (show res=y1.symbol1 c from HR.out.trans (if_neg (show¬(1:Nat)=0 by decide)))
  unfold Y.symbol1 at HR
  have m0:=hA.cells.x0
  have m1:=hA.cells.d0
  have m2:w1.cell? ⟨l.T,10,none⟩=some (ptr (l.b 2)):=hA.cells.row 2 (by omega)
  have hb:=(Y.bit_ok hA.ok (by omega:2<18) c.s.num).2
  have HBC:=Hd (bit_calls hA 2 c.s.num (by omega))
  clear hA
  generalize y1.bit 2 c.s.num=r at*
  obtain⟨v,y3⟩:=r
  simp only at hb HR
  go_wp2_with fail
  refine HBC.out.mono ?_
  rintro e w3 ⟨rfl,hfr,hA⟩
  simp only at hA
  replace HZ:=Hd (hfr.keep HZ.out HN.out)
  replace HF:=Hd (HF.out.trans hfr)
  clear hfr
  clear HBC m0 m1 m2
  obtain rfl|rfl:v=0∨v=1:=by omega
  ·clear hb
   replace HR:=Hd (show res=y3.match c from HR.out.trans (if_pos (show(0:Nat)=0 from rfl)))
   unfold Y.match at HR
   have m0:=hA.cells.x0
   have m1:=hA.cells.d0
   have l0:w3.cell? ⟨l.T,15,none⟩=some (ptr (l.b 7)):=hA.cells.row 7 (by omega)
   have l1:w3.cell? ⟨l.T,16,none⟩=some (ptr (l.b 8)):=hA.cells.row 8 (by omega)
   have l2:w3.cell? ⟨l.T,17,none⟩=some (ptr (l.b 9)):=hA.cells.row 9 (by omega)
   have l3:w3.cell? ⟨l.T,18,none⟩=some (ptr (l.b 10)):=hA.cells.row 10 (by omega)
   have hb:=(Y.length_ok (c:=c) hA.ok (by omega:7=7∨7=11)).2
   have HBC:=Hd (length_calls hA 7 (by omega))
   clear hA
   generalize y3.length c 7=r at*
   obtain⟨v4,y4⟩:=r
   simp only at hb HR
   go_wp2_with fail
   refine HBC.out.mono ?_
   rintro e w4 ⟨rfl,hfr,hA⟩
   simp only at hA
   replace HZ:=Hd (hfr.keep HZ.out HN.out)
   replace HF:=Hd (HF.out.trans hfr)
   clear hfr
   clear HBC m0 m1 l0 l1 l2 l3
   have HBC:=Hd (dist_calls hA v4 hb)
   clear hA
   generalize y4.dist v4=r at*
   obtain⟨v5,y5⟩:=r
   simp only at HR
   go_wp2_with fail
   refine HBC.out.mono ?_
   rintro e w5 ⟨rfl,hfr,hA⟩
   simp only at hA
   replace HZ:=Hd (hfr.keep HZ.out HN.out)
   replace HF:=Hd (HF.out.trans hfr)
   clear hfr
   clear HBC
   have HA:=Hd hA
   obtain⟨z0,z1,z2,z3,zf⟩:=cf4 HZ.out rfl rfl rfl rfl
   clear hA
   go_wp2_with fail
   refine bodyPost_ret (v:=.agg #[.int .i64 2,.int .u8 0,.int .i64 v4,.int .i64 v5]) (by simp[results,Tryz.results220,go_sem,z0,z1,z2,z3]) rfl ?_
   rw[show res=(⟨2,0,v4,v5⟩,y5) from HR.out]
   exact⟨rfl,fin4 HF.out,fin5 H0.out HA.out⟩
  ·clear hb
   replace HR:=Hd (show res=y3.symbol2 c from HR.out.trans (if_neg (show¬(1:Nat)=0 by decide)))
   unfold Y.symbol2 at HR
   have m0:=hA.cells.x0
   have m1:=hA.cells.d0
   have m2:w3.cell? ⟨l.T,11,none⟩=some (ptr (l.b 3)):=hA.cells.row 3 (by omega)
   have hb:=(Y.bit_ok hA.ok (by omega:3<18) c.s.num).2
   have HBC:=Hd (bit_calls hA 3 c.s.num (by omega))
   clear hA
   generalize y3.bit 3 c.s.num=r at*
   obtain⟨v,y6⟩:=r
   simp only at hb HR
   go_wp2_with fail
   refine HBC.out.mono ?_
   rintro e w6 ⟨rfl,hfr,hA⟩
   simp only at hA
   replace HZ:=Hd (hfr.keep HZ.out HN.out)
   replace HF:=Hd (HF.out.trans hfr)
   clear hfr
   clear HBC m0 m1 m2
   obtain rfl|rfl:v=0∨v=1:=by omega
   ·clear hb
    replace HR:=Hd (show res=y6.short c from HR.out.trans (if_pos (show(0:Nat)=0 from rfl)))
    unfold Y.short at HR
    rw[HCA.out] at HR
    have m0:=hA.cells.x0
    have m1:=hA.cells.d0
    have m2:w6.cell? ⟨l.T,9,none⟩=some (ptr (l.b 1)):=hA.cells.row 1 (by omega)
    have hb:=(Y.bit_ok hA.ok (by omega:1<18) ca).2
    have HBC:=Hd (bit_calls hA 1 ca (by omega))
    clear hA
    generalize y6.bit 1 ca=r at*
    obtain⟨v,y7⟩:=r
    simp only at hb HR
    go_wp2_with fail
    refine HBC.out.mono ?_
    rintro e w7 ⟨rfl,hfr,hA⟩
    simp only at hA
    replace HZ:=Hd (hfr.keep HZ.out HN.out)
    replace HF:=Hd (HF.out.trans hfr)
    clear hfr
    clear HBC m0 m1 m2
    obtain rfl|rfl:v=0∨v=1:=by omega
    ·clear hb
     replace HR:=Hd (show res=(⟨4,0,0,0⟩,y7) from HR.out.trans (if_pos (show(0:Nat)=0 from rfl)))
     have HA:=Hd hA
     obtain⟨z0,z1,z2,z3,zf⟩:=cf4 HZ.out rfl rfl rfl rfl
     clear hA
     go_wp2_with fail
     refine bodyPost_ret (v:=.agg #[.int .i64 4,.int .u8 0,.int .i64 0,.int .i64 0]) (by simp[results,Tryz.results220,go_sem,z0,z1,z2,z3]) rfl ?_
     rw[show res=(⟨4,0,0,0⟩,y7) from HR.out]
     exact⟨rfl,fin4 HF.out,fin5 H0.out HA.out⟩
    ·clear hb
     replace HR:=Hd (show res=y7.repeat c 0 from HR.out.trans (if_neg (show¬(1:Nat)=0 by decide)))
     unfold Y.repeat at HR
     have m0:=hA.cells.x0
     have m1:=hA.cells.d0
     have l0:w7.cell? ⟨l.T,19,none⟩=some (ptr (l.b 11)):=hA.cells.row 11 (by omega)
     have l1:w7.cell? ⟨l.T,20,none⟩=some (ptr (l.b 12)):=hA.cells.row 12 (by omega)
     have l2:w7.cell? ⟨l.T,21,none⟩=some (ptr (l.b 13)):=hA.cells.row 13 (by omega)
     have l3:w7.cell? ⟨l.T,22,none⟩=some (ptr (l.b 14)):=hA.cells.row 14 (by omega)
     have hb:=(Y.length_ok (c:=c) hA.ok (by omega:11=7∨11=11)).2
     have HBC:=Hd (length_calls hA 11 (by omega))
     clear hA
     generalize y7.length c 11=r at*
     obtain⟨v8,y8⟩:=r
     simp only at hb HR
     go_wp2_with fail
     refine HBC.out.mono ?_
     rintro e w8 ⟨rfl,hfr,hA⟩
     simp only at hA
     replace HZ:=Hd (hfr.keep HZ.out HN.out)
     replace HF:=Hd (HF.out.trans hfr)
     clear hfr
     clear HBC m0 m1 l0 l1 l2 l3
     have HA:=Hd hA
     obtain⟨z0,z1,z2,z3,zf⟩:=cf4 HZ.out rfl rfl rfl rfl
     clear hA
     go_wp2_with fail
     refine bodyPost_ret (v:=.agg #[.int .i64 3,.int .u8 0,.int .i64 v8,.int .i64 0]) (by simp[results,Tryz.results220,go_sem,z0,z1,z2,z3]) rfl ?_
     rw[show res=(⟨3,0,v8,0⟩,y8) from HR.out]
     exact⟨rfl,fin4 HF.out,fin5 H0.out HA.out⟩
   ·clear hb
    replace HR:=Hd (show res=y6.older c from HR.out.trans (if_neg (show¬(1:Nat)=0 by decide)))
    unfold Y.older at HR
    have m0:=hA.cells.x0
    have m1:=hA.cells.d0
    have m2:w6.cell? ⟨l.T,12,none⟩=some (ptr (l.b 4)):=hA.cells.row 4 (by omega)
    have hb:=(Y.bit_ok hA.ok (by omega:4<18) c.s.num).2
    have HBC:=Hd (bit_calls hA 4 c.s.num (by omega))
    clear hA
    generalize y6.bit 4 c.s.num=r at*
    obtain⟨v,y9⟩:=r
    simp only at hb HR
    go_wp2_with fail
    refine HBC.out.mono ?_
    rintro e w9 ⟨rfl,hfr,hA⟩
    simp only at hA
    replace HZ:=Hd (hfr.keep HZ.out HN.out)
    replace HF:=Hd (HF.out.trans hfr)
    clear hfr
    clear HBC m0 m1 m2
    obtain rfl|rfl:v=0∨v=1:=by omega
    ·clear hb
     replace HR:=Hd (show res=y9.repeat c 1 from HR.out.trans (if_neg (show¬(0:Nat)=1 by decide)))
     unfold Y.repeat at HR
     have m0:=hA.cells.x0
     have m1:=hA.cells.d0
     have l0:w9.cell? ⟨l.T,19,none⟩=some (ptr (l.b 11)):=hA.cells.row 11 (by omega)
     have l1:w9.cell? ⟨l.T,20,none⟩=some (ptr (l.b 12)):=hA.cells.row 12 (by omega)
     have l2:w9.cell? ⟨l.T,21,none⟩=some (ptr (l.b 13)):=hA.cells.row 13 (by omega)
     have l3:w9.cell? ⟨l.T,22,none⟩=some (ptr (l.b 14)):=hA.cells.row 14 (by omega)
     have hb:=(Y.length_ok (c:=c) hA.ok (by omega:11=7∨11=11)).2
     have HBC:=Hd (length_calls hA 11 (by omega))
     clear hA
     generalize y9.length c 11=r at*
     obtain⟨v10,y10⟩:=r
     simp only at hb HR
     go_wp2_with fail
     refine HBC.out.mono ?_
     rintro e w10 ⟨rfl,hfr,hA⟩
     simp only at hA
     replace HZ:=Hd (hfr.keep HZ.out HN.out)
     replace HF:=Hd (HF.out.trans hfr)
     clear hfr
     clear HBC m0 m1 l0 l1 l2 l3
     have HA:=Hd hA
     obtain⟨z0,z1,z2,z3,zf⟩:=cf4 HZ.out rfl rfl rfl rfl
     clear hA
     go_wp2_with fail
     refine bodyPost_ret (v:=.agg #[.int .i64 3,.int .u8 0,.int .i64 v10,.int .i64 1]) (by simp[results,Tryz.results220,go_sem,z0,z1,z2,z3]) rfl ?_
     rw[show res=(⟨3,0,v10,1⟩,y10) from HR.out]
     exact⟨rfl,fin4 HF.out,fin5 H0.out HA.out⟩
    ·clear hb
     replace HR:=Hd (show res=(y9.bit 5 c.s.num).2.repeat c (2+(y9.bit 5 c.s.num).1) from HR.out.trans (if_pos (show(1:Nat)=1 from rfl)))
     have m0:=hA.cells.x0
     have m1:=hA.cells.d0
     have m2:w9.cell? ⟨l.T,13,none⟩=some (ptr (l.b 5)):=hA.cells.row 5 (by omega)
     have hb:=(Y.bit_ok hA.ok (by omega:5<18) c.s.num).2
     have HBC:=Hd (bit_calls hA 5 c.s.num (by omega))
     clear hA
     generalize y9.bit 5 c.s.num=r at*
     obtain⟨v,y11⟩:=r
     simp only at hb HR
     go_wp2_with fail
     refine HBC.out.mono ?_
     rintro e w11 ⟨rfl,hfr,hA⟩
     simp only at hA
     replace HZ:=Hd (hfr.keep HZ.out HN.out)
     replace HF:=Hd (HF.out.trans hfr)
     clear hfr
     clear HBC m0 m1 m2
     obtain rfl|rfl:v=0∨v=1:=by omega
     ·clear hb
      replace HR:=Hd (show res=y11.repeat c 2 from HR.out)
      unfold Y.repeat at HR
      have m0:=hA.cells.x0
      have m1:=hA.cells.d0
      have l0:w11.cell? ⟨l.T,19,none⟩=some (ptr (l.b 11)):=hA.cells.row 11 (by omega)
      have l1:w11.cell? ⟨l.T,20,none⟩=some (ptr (l.b 12)):=hA.cells.row 12 (by omega)
      have l2:w11.cell? ⟨l.T,21,none⟩=some (ptr (l.b 13)):=hA.cells.row 13 (by omega)
      have l3:w11.cell? ⟨l.T,22,none⟩=some (ptr (l.b 14)):=hA.cells.row 14 (by omega)
      have hb:=(Y.length_ok (c:=c) hA.ok (by omega:11=7∨11=11)).2
      have HBC:=Hd (length_calls hA 11 (by omega))
      clear hA
      generalize y11.length c 11=r at*
      obtain⟨v12,y12⟩:=r
      simp only at hb HR
      go_wp2_with fail
      refine HBC.out.mono ?_
      rintro e w12 ⟨rfl,hfr,hA⟩
      simp only at hA
      replace HZ:=Hd (hfr.keep HZ.out HN.out)
      replace HF:=Hd (HF.out.trans hfr)
      clear hfr
      clear HBC m0 m1 l0 l1 l2 l3
      have HA:=Hd hA
      obtain⟨z0,z1,z2,z3,zf⟩:=cf4 HZ.out rfl rfl rfl rfl
      clear hA
      go_wp2_with fail
      refine bodyPost_ret (v:=.agg #[.int .i64 3,.int .u8 0,.int .i64 v12,.int .i64 2]) (by simp[results,Tryz.results220,go_sem,z0,z1,z2,z3]) rfl ?_
      rw[show res=(⟨3,0,v12,2⟩,y12) from HR.out]
      exact⟨rfl,fin4 HF.out,fin5 H0.out HA.out⟩
     ·clear hb
      replace HR:=Hd (show res=y11.repeat c 3 from HR.out)
      unfold Y.repeat at HR
      have m0:=hA.cells.x0
      have m1:=hA.cells.d0
      have l0:w11.cell? ⟨l.T,19,none⟩=some (ptr (l.b 11)):=hA.cells.row 11 (by omega)
      have l1:w11.cell? ⟨l.T,20,none⟩=some (ptr (l.b 12)):=hA.cells.row 12 (by omega)
      have l2:w11.cell? ⟨l.T,21,none⟩=some (ptr (l.b 13)):=hA.cells.row 13 (by omega)
      have l3:w11.cell? ⟨l.T,22,none⟩=some (ptr (l.b 14)):=hA.cells.row 14 (by omega)
      have hb:=(Y.length_ok (c:=c) hA.ok (by omega:11=7∨11=11)).2
      have HBC:=Hd (length_calls hA 11 (by omega))
      clear hA
      generalize y11.length c 11=r at*
      obtain⟨v13,y13⟩:=r
      simp only at hb HR
      go_wp2_with fail
      refine HBC.out.mono ?_
      rintro e w13 ⟨rfl,hfr,hA⟩
      simp only at hA
      replace HZ:=Hd (hfr.keep HZ.out HN.out)
      replace HF:=Hd (HF.out.trans hfr)
      clear hfr
      clear HBC m0 m1 l0 l1 l2 l3
      have HA:=Hd hA
      obtain⟨z0,z1,z2,z3,zf⟩:=cf4 HZ.out rfl rfl rfl rfl
      clear hA
      go_wp2_with fail
      refine bodyPost_ret (v:=.agg #[.int .i64 3,.int .u8 0,.int .i64 v13,.int .i64 3]) (by simp[results,Tryz.results220,go_sem,z0,z1,z2,z3]) rfl ?_
      rw[show res=(⟨3,0,v13,3⟩,y13) from HR.out]
      exact⟨rfl,fin4 HF.out,fin5 H0.out HA.out⟩
end Lz
namespace Lz
open Mem Rc St
def L.F(l:L)(k:Nat):Prop:=k=l.D∨k=l.T∨k=l.W∨l.rv.ownBlock=some k∨∃j,j<18∧(k=l.g j∨k=l.b j)
structure Dec(w:World)(l:L)(c:C)(ps:Nat→List Nat)(sp:Bool):Prop where
 d:w.heap[l.D]? =some (.cells #[ptr l.T,ptr l.W,.bool sp] 272 (0,0))
 tab:Tab w l.T l.b l.g c.lc c.lp c.pb c.s ps
 win:Win.At w l.W l.rv c.size c.all l.ring l.t
 okc:c.Ok
 len:∀j,j<18→(ps j).length=rowLen c.lc c.lp j
theorem Dec.old{w:World}{l:L}{c:C}{ps:Nat→List Nat}{sp:Bool}(h:Dec w l c ps sp):∀k,l.F k→k<w.heap.size:=by
 rintro k (rfl|rfl|rfl|hk|⟨j,hj,rfl|rfl⟩)
 ·exact lt_of_block h.d
 ·exact lt_of_block h.tab.box
 ·exact lt_of_block h.win.box
 ·exact(World.ownsRow.lt h.win.own k hk).2
 ·exact(h.tab.set j hj).lt.2
 ·exact(h.tab.set j hj).lt.1
theorem Dec.keep{S:Nat→Prop}{w w':World}{l:L}{c:C}{ps:Nat→List Nat}{sp:Bool}(h:Dec w l c ps sp)(hfr:Fr S w w')(hS:∀k,l.F k→¬S k):Dec w' l c ps sp:=
 ⟨hfr.keep h.d (hS _ (.inl rfl)),⟨hfr.keep h.tab.box (hS _ (.inr (.inl rfl))),fun j hj=>(h.tab.set j hj).step hfr (hS _ (.inr (.inr (.inr (.inr ⟨j,hj,.inr rfl⟩))))) (hS _ (.inr (.inr (.inr (.inr ⟨j,hj,.inl rfl⟩))))),h.tab.inj⟩,
  h.win.keep hfr (hS _ (.inr (.inr (.inl rfl)))) (fun k hk=>hS k (.inr (.inr (.inr (.inl hk))))),h.okc,h.len⟩
theorem Dec.keep0{w w':World}{l:L}{c:C}{ps:Nat→List Nat}{sp:Bool}(h:Dec w l c ps sp)(hfr:Fr (fun _=>False) w w'):Dec w' l c ps sp:=h.keep hfr (fun _ _ h=>h)
structure Nx(w:World)(l l':L):Prop where
 D:l'.D=l.D
 F:∀k,l'.F k→l.F k∨w.heap.size≤k
theorem newReader_calls{l:L}{c:C}{ps:Nat→List Nat}{w:World}(h:Dec w l c ps false)(v:Value)(xs:List UInt8)(hr:Rd w v xs)(hl:xs.length≤1099511627776):
 Calls Tryz.prog 219 #[ptr l.D,v] w fun e w'=>Fr (fun _=>False) w w'∧match init xs with
  |.error _=>e=.returned (.pointer none)
  |.ok d=>∃X R bv,e=.returned (ptr X)∧At w' {l with X:=X,R:=R,bv:=bv} c ⟨d,false,ps⟩∧w.heap.size≤X∧w.heap.size≤R∧∀k,bv.ownBlock=some k→w.heap.size≤k:=by
 have HN:=Hd (Rc.new_calls v xs w hr hl)
 unfold Rc.NewPost at HN
 have H:=Hd h
 clear h hr
 cases hi:init xs with
 |error x=>
   rw[hi] at HN
   have hx0:x≠0:=by
    unfold init at hi
    split at hi
    ·cases hi
     decide
    ·split at hi
     ·cases hi
      decide
     ·cases hi
   have hne:((x:Int) !=0)=true:=by simp[hx0]
   clear hi hx0
   go_enter Tryz.func219,Tryz.ntmps219
   go_wp2_with fail
   refine HN.out.mono ?_
   rintro e w1 ⟨hfr,rfl⟩
   have HF:=Hd hfr
   clear hfr
   go_wp2_with fail
   go_ret
   exact⟨HF.out,rfl⟩
 |ok d=>
   rw[hi] at HN
   have hok:=init_ok hi hl
   have HOK:=Hd hok.1
   clear hi hok
   go_enter Tryz.func219,Tryz.ntmps219
   go_wp2_with fail
   refine HN.out.mono ?_
   rintro e w1 ⟨hfr,B,bv,rfl,hB,hA,hbv⟩
   have hf2:=(R0 w1).alloc (.cells #[ptr l.D,ptr B,.bool false] 341)
   have HX:=Hd (heap_alloc_new w1 (.cells #[ptr l.D,ptr B,.bool false] 341))
   have HF:=Hd hfr
   have HF2:=Hd hf2
   have HA:=Hd hA
   have HBV:=Hd hbv
   clear hfr hf2 hA hbv
   go_wp2_with fail
   go_ret
   refine⟨HF.out.trans HF2.out,w1.heap.size,B,bv,rfl,?_,HF.out.size,hB,HBV.out⟩
   have h:=(H.out.keep0 HF.out).keep0 HF2.out
   have h0:=H.out
   have hA2:=HA.out.keep HF2.out (fun h=>h) (fun _ _ h=>h)
   have hlt:=rd_lt HA.out.2 HOK.out.2.2.2.2
   have hsz:=HF.out.size
   have hne:=HA.out.apart HOK.out.2.2.2.2
   refine⟨HX.out,h.d,h.tab,h.win,hA2,⟨HOK.out,fun j hj=>setAt_ok (h.tab.set j hj),h.len⟩,h.okc,fun k hk hS=> ?_,fun k hk hS=> ?_⟩
   ·have h1:=hlt k hk
    have h2:=HBV.out k hk
    rcases hS with hS|hS|⟨j,hj,hS⟩
    ·simp only at hS
     omega
    ·exact hne k hk hS
    ·have:=h0.old k (.inr (.inr (.inr (.inr ⟨j,hj,.inl hS⟩))))
     omega
   ·have h1:=h0.old k (.inr (.inr (.inr (.inl hk))))
    rcases hS with hS|hS|⟨j,hj,hS⟩
    ·simp only at hS
     omega
    ·simp only at hS
     omega
    ·obtain⟨_,_,_,hg,_⟩:=h0.tab.set j hj
     have hS2:k=l.g j:=hS
     subst hS2
     rcases h0.win.own.2 with⟨hn,_⟩|⟨g,cap,cur,hgv,_,hg2,_⟩
     ·rw[hn] at hk
      simp[Value.ownBlock] at hk
     ·rw[hgv] at hk
      simp only[Value.ownBlock,Option.some.injEq] at hk
      rw[hk,hg] at hg2
      simp at hg2
theorem raw_calls{l:L}{c:C}{ps:Nat→List Nat}{sp:Bool}{w:World}(h:Dec w l c ps sp)(v:Value)(xs:List UInt8)(hr:Rd w v xs)(hoff:0<xs.length→∀k,v.ownBlock=some k→¬l.F k)(hm:c.all.length+xs.length≤1152921504606846976):
 Calls Tryz.prog 96 #[ptr l.D,v] w fun e w'=>e=.returned (.tuple #[])∧Fr l.F w w'∧∃l',Nx w l l'∧Dec w' l' {c with all:=c.all++xs} ps sp:=by
 have HP:=Hd (Win.put_calls l.W c.size l.t l.rv v c.all l.ring xs w h.win hr (fun h0 k hk he=>hoff h0 k hk (.inr (.inr (.inr (.inl he))))) hm)
 have hd:w.cell? ⟨l.D,1,none⟩=some (ptr l.W):=cell_in h.d rfl
 have H:=Hd h
 clear h hr
 go_enter Tryz.func96,Tryz.ntmps96
 go_wp2_with fail
 refine HP.out.mono ?_
 rintro e w1 ⟨rfl,rv2,ring2,t2,hfr,hA,hN⟩
 have h:=H.out
 have hWn:∀k,l.F k→k≠l.W→l.rv.ownBlock≠some k→¬(k=l.W∨l.rv.ownBlock=some k):=fun k _ h1 h2 h3=>h3.elim h1 h2
 have KEY:Fr l.F w w1∧∃l',Nx w l l'∧Dec w1 l' {c with all:=c.all++xs} ps sp:=by
  refine⟨hfr.mono (fun k _ hk=>by rcases hk with hk|hk;exact .inr (.inr (.inl hk));exact .inr (.inr (.inr (.inl hk)))),{l with rv:=rv2,ring:=ring2,t:=t2},⟨rfl,fun k hk=> ?_⟩,?_⟩
  ·rcases hk with hk|hk|hk|hk|hk
   ·exact .inl (.inl hk)
   ·exact .inl (.inr (.inl hk))
   ·exact .inl (.inr (.inr (.inl hk)))
   ·exact(hN k hk).imp (fun h=>.inr (.inr (.inr (.inl h)))) id
   ·exact .inl (.inr (.inr (.inr (.inr hk))))
  ·have hown:∀{k:Nat}{cs:Array Value}{t:TypeId}{fr:Nat×Nat},w.heap[k]? =some (.cells cs t fr)→t≠210→t≠5→¬(k=l.W∨l.rv.ownBlock=some k):=by
    intro k cs t fr hk h1 h2 h3
    rcases h3 with h3|h3
    ·rw[h3,h.win.box] at hk
     simp only[Option.some.injEq,Obj.cells.injEq] at hk
     exact h1 hk.2.1.symm
    ·rcases h.win.own.2 with⟨hn,_⟩|⟨g,cap,cur,hgv,_,hg2,_⟩
     ·rw[hn] at h3
      simp[Value.ownBlock] at h3
     ·rw[hgv] at h3
      simp only[Value.ownBlock,Option.some.injEq] at h3
      rw[←h3,hg2] at hk
      simp only[Option.some.injEq,Obj.cells.injEq] at hk
      exact h2 hk.2.1.symm
   refine⟨hfr.keep h.d (hown h.d (by decide) (by decide)),⟨hfr.keep h.tab.box (hown h.tab.box (by decide) (by decide)),fun j hj=> ?_,h.tab.inj⟩,hA,⟨h.okc.l,h.okc.pb,h.okc.s⟩,h.len⟩
   have hs:=h.tab.set j hj
   obtain⟨_,_,hb,hg,_⟩:=h.tab.set j hj
   exact hs.step hfr (hown hb (by decide) (by decide)) (hown hg (by decide) (by decide))
 have KEY:=Hd KEY
 clear hfr hA hN h hWn
 go_wp2_with fail
 go_end0
 exact⟨rfl,KEY.out⟩
end Lz
namespace Lz
open Mem Rc St
def C.fresh(c:C)(lc lp pb:Nat):C:={c with lc:=lc,lp:=lp,pb:=pb,s:=S.new}
theorem fresh_len(lc lp j:Nat):(fresh lc lp j).length=rowLen lc lp j:=by simp[fresh]
theorem Dec.tabs{w w1:World}{l:L}{c:C}{ps:Nat→List Nat}{sp:Bool}(h:Dec w l c ps sp){T lc lp pb:Nat}{b g:Nat→Nat}(hfr:Fr (fun _=>False) w w1)(hT:Tab w1 T b g lc lp pb S.new (fresh lc lp))
 (hT0:w.heap.size≤T)(hn:∀j,j<18→w.heap.size≤b j∧w.heap.size≤g j)(hl:lc+lp≤4)(hp:pb≤4):
 Fr l.F w (w1.setCell ⟨l.D,0,none⟩ (ptr T))∧Nx w l {l with T:=T,b:=b,g:=g}∧Dec (w1.setCell ⟨l.D,0,none⟩ (ptr T)) {l with T:=T,b:=b,g:=g} (c.fresh lc lp pb) (fresh lc lp) sp:=by
 have hd:=hfr.keep h.d (fun h=>h)
 have hD:=lt_of_block h.d
 have hs:Fr (fun k=>k=l.D) w1 (w1.setCell ⟨l.D,0,none⟩ (ptr T)):=Fr.one _ _ _ _
 refine⟨(lift hfr).trans (hs.mono (fun i _(e:i=l.D)=>.inl e)),⟨rfl,fun k hk=> ?_⟩,⟨set_in hd 0 _,⟨hs.keep hT.box (show¬T=l.D by omega),fun j hj=> ?_,hT.inj⟩,?_,⟨hl,hp,S.new_ok⟩,fun j _=>fresh_len lc lp j⟩⟩
 ·rcases hk with hk|hk|hk|hk|⟨j,hj,hk|hk⟩
  ·exact .inl (.inl hk)
  ·exact .inr (by simp only at hk;omega)
  ·exact .inl (.inr (.inr (.inl hk)))
  ·exact .inl (.inr (.inr (.inr (.inl hk))))
  ·have:=hn j hj
   exact .inr (by simp only at hk;omega)
  ·have:=hn j hj
   exact .inr (by simp only at hk;omega)
 ·have:=hn j hj
  exact(hT.set j hj).step hs (fun(e:b j=l.D)=>by omega) (fun(e:g j=l.D)=>by omega)
 ·refine(h.win.keep hfr (fun h=>h) (fun _ _ h=>h)).keep hs (fun(e:l.W=l.D)=> ?_) (fun k hk(e:k=l.D)=> ?_)
  ·have h1:=h.win.box
   rw[e,h.d] at h1
   simp at h1
  ·rcases h.win.own.2 with⟨hnil,_⟩|⟨g2,cap,cur,hgv,_,hg2,_⟩
   ·rw[hnil] at hk
    simp[Value.ownBlock] at hk
   ·rw[hgv] at hk
    simp only[Value.ownBlock,Option.some.injEq] at hk
    rw[hk,e,h.d] at hg2
    simp at hg2
theorem reset_calls{l:L}{c:C}{ps:Nat→List Nat}{sp:Bool}{w:World}(h:Dec w l c ps sp)(lc lp pb:Nat)(hl:lc+lp≤4)(hp:pb≤4):
 Calls Tryz.prog 95 #[ptr l.D,.agg #[.int .i64 lc,.int .i64 lp,.int .i64 pb]] w fun e w'=>e=.returned (.int .i64 0)∧Fr l.F w w'∧∃l',Nx w l l'∧Dec w' l' (c.fresh lc lp pb) (fresh lc lp) sp:=by
 have hx:=heap_alloc_new w (.cells #[.int .i64 lc,.int .i64 lp,.int .i64 pb] 24)
 have hf0:=(R0 w).alloc (.cells #[.int .i64 lc,.int .i64 lp,.int .i64 pb] 24)
 have HP:=fun W=>Hd (props_ok lc lp pb hl hp W)
 have HT:=fun W=>Hd (tables_calls lc lp pb W hl)
 unfold NewPost at HT
 have H0:=Hd h
 have HX:=Hd hx
 have HF:=Hd hf0
 clear h hx hf0
 go_enter Tryz.func95,Tryz.ntmps95
 go_wp2_with fail
 refine(HP _).out.mono ?_
 rintro e w1 ⟨⟨x,rfl⟩,hfr1⟩
 have hx1:=hfr1.keep HX.out (fun h=>h)
 obtain⟨z0,z1,z2⟩:=cs3 hx1 rfl rfl rfl
 have HF1:=Hd (HF.out.trans hfr1)
 clear hfr1 hx1
 go_wp2_with fail
 refine(HT _).out.mono ?_
 rintro e w2 ⟨T,b,g,rfl,hfr2,hTab,hT0,hn⟩
 have h2:=H0.out.keep0 (HF1.out.trans hfr2)
 have hsz:=HF1.out.size
 have KEY:=Hd (H0.out.tabs (HF1.out.trans hfr2) hTab (Nat.le_trans hsz hT0) (fun j hj=>⟨Nat.le_trans hsz (hn j hj).1,Nat.le_trans hsz (hn j hj).2⟩) hl hp)
 have y0:w2.cell? ⟨l.D,0,none⟩=some (ptr l.T):=cell_in h2.d rfl
 have yf:=frozen_in h2.d 0
 clear hfr2 hTab hn h2
 go_wp2_with fail
 go_ret
 exact⟨rfl,KEY.out.1,_,KEY.out.2.1,KEY.out.2.2⟩
theorem clear_calls{l:L}{c:C}{ps:Nat→List Nat}{sp:Bool}{w:World}(h:Dec w l c ps sp):
 Calls Tryz.prog 94 #[ptr l.D] w fun e w'=>e=.returned (.tuple #[])∧Fr l.F w w'∧∃l',Nx w l l'∧Dec w' l' {c.fresh c.lc c.lp c.pb with all:=[]} (fresh c.lc c.lp) false:=by
 have HT:=fun W=>Hd (tables_calls c.lc c.lp c.pb W h.okc.l)
 unfold NewPost at HT
 have x0:w.cell? ⟨l.D,0,none⟩=some (ptr l.T):=cell_in h.d rfl
 have x1:w.cell? ⟨l.T,0,none⟩=some (.int .i64 c.lc):=cell_in h.tab.box rfl
 have x2:w.cell? ⟨l.T,1,none⟩=some (.int .i64 c.lp):=cell_in h.tab.box rfl
 have x3:w.cell? ⟨l.T,2,none⟩=some (.int .i64 c.pb):=cell_in h.tab.box rfl
 have H0:=Hd h
 clear h
 go_enter Tryz.func94,Tryz.ntmps94
 go_wp2_with fail
 refine(HT _).out.mono ?_
 rintro e w2 ⟨T,b,g,rfl,hfr2,hTab,hT0,hn⟩
 have h2:=H0.out.keep0 hfr2
 have KEY:=Hd (H0.out.tabs hfr2 hTab hT0 hn H0.out.okc.l H0.out.okc.pb)
 have y0:w2.cell? ⟨l.D,0,none⟩=some (ptr l.T):=cell_in h2.d rfl
 have y1:w2.cell? ⟨l.D,1,none⟩=some (ptr l.W):=cell_in h2.d rfl
 have yf:=frozen_in h2.d 0
 have HC:=Hd (Win.clear_calls l.W c.size l.t l.rv c.all l.ring _ KEY.out.2.2.win)
 clear hfr2 hTab hn h2 x0 x1 x2 x3
 go_wp2_with fail
 refine HC.out.mono ?_
 rintro e w3 ⟨rfl,hfr3,hW3⟩
 have k:=KEY.out.2.2
 have hd3:=hfr3.keep k.d (fun(e:l.D=l.W)=>by
  have h1:=k.win.box
  simp only[←e] at h1
  rw[k.d] at h1
  simp at h1)
 have z0:w3.cell? ⟨l.D,2,none⟩=some (.bool sp):=cell_in hd3 rfl
 have zf:=frozen_in hd3 2
 have FIN:Fr l.F w (w3.setCell ⟨l.D,2,none⟩ (.bool false))∧∃l',Nx w l l'∧Dec (w3.setCell ⟨l.D,2,none⟩ (.bool false)) l' {c.fresh c.lc c.lp c.pb with all:=[]} (fresh c.lc c.lp) false:=by
  have hs:Fr (fun k=>k=l.D) w3 (w3.setCell ⟨l.D,2,none⟩ (.bool false)):=Fr.one _ _ _ _
  have hne:∀{k:Nat}{cs:Array Value}{t:TypeId}{fr:Nat×Nat},w3.heap[k]? =some (.cells cs t fr)→t≠272→¬k=l.D:=by
   intro k cs t fr hk h1 e
   rw[e,hd3] at hk
   simp only[Option.some.injEq,Obj.cells.injEq] at hk
   exact h1 hk.2.1.symm
  have hne2:∀{k:Nat}{cs:Array Value}{t:TypeId}{fr:Nat×Nat},(w2.setCell ⟨l.D,0,none⟩ (ptr T)).heap[k]? =some (.cells cs t fr)→t≠210→¬k=l.W:=by
   intro k' cs t fr hk h1 e
   have h4:=k.win.box
   simp only at h4
   rw[e,h4] at hk
   simp only[Option.some.injEq,Obj.cells.injEq] at hk
   exact h1 hk.2.1.symm
  refine⟨(KEY.out.1.trans (hfr3.mono (fun i _(e:i=l.W)=>.inr (.inr (.inl e))))).trans (hs.mono (fun i _(e:i=l.D)=>.inl e)),{l with T:=T,b:=b,g:=g,rv:=.slice none 0 0,ring:=[],t:=0},⟨rfl,fun k' hk=> ?_⟩,?_⟩
  ·refine KEY.out.2.1.F k' ?_
   rcases hk with hk|hk|hk|hk|hk
   ·exact .inl hk
   ·exact .inr (.inl hk)
   ·exact .inr (.inr (.inl hk))
   ·simp[Value.ownBlock] at hk
   ·exact .inr (.inr (.inr (.inr hk)))
  ·have htb:=k.tab.box
   refine⟨set_in hd3 2 _,⟨hs.keep (hfr3.keep k.tab.box (hne2 k.tab.box (by decide))) (hne (hfr3.keep k.tab.box (hne2 k.tab.box (by decide))) (by decide)),fun j hj=> ?_,k.tab.inj⟩,hW3.keep hs (hne hW3.box (by decide)) (fun k hk=>by simp[Value.ownBlock] at hk),⟨k.okc.l,k.okc.pb,S.new_ok⟩,k.len⟩
   have hj2:=k.tab.set j hj
   obtain⟨_,_,hb,hg,_⟩:=k.tab.set j hj
   have hj3:=hj2.step hfr3 (hne2 hb (by decide)) (hne2 hg (by decide))
   obtain⟨_,_,hb3,hg3,_⟩:=hj2.step hfr3 (hne2 hb (by decide)) (hne2 hg (by decide))
   exact hj3.step hs (hne hb3 (by decide)) (hne hg3 (by decide))
 have FIN:=Hd FIN
 clear hfr3 hW3 k hd3
 go_wp2_with fail
 go_end0
 exact⟨rfl,FIN.out⟩
theorem zero_props(w:World):Calls Tryz.prog 49 #[.agg #[.int .i64 0,.int .i64 0,.int .i64 0]] w fun e w'=>(∃x,e=.returned (.tuple #[.int .i64 x,.int .i64 0]))∧Fr (fun _=>False) w w':=props_ok 0 0 0 (by omega) (by omega) w
theorem zero_tables(w:World):Calls Tryz.prog 65 #[.agg #[.int .i64 0,.int .i64 0,.int .i64 0]] w (NewPost 0 0 0 w):=tables_calls 0 0 0 w (by omega)
theorem dnew_in(n:Nat)(w:World)(h1:1≤n)(h2:n≤4294967295):
 Calls Tryz.prog 92 #[.agg #[.int .i64 0,.int .i64 0,.int .i64 0],.int .i64 n] w fun e w'=>Fr (fun _=>False) w w'∧∃l:L,e=.returned (.tuple #[ptr l.D,.int .i64 0])∧Dec w' l ⟨0,0,0,S.new,n,[]⟩ (fresh 0 0) false∧∀k,l.F k→w.heap.size≤k:=by
 have hx:=heap_alloc_new w (.cells #[.int .i64 0,.int .i64 0,.int .i64 0] 24)
 have hf0:=(R0 w).alloc (.cells #[.int .i64 0,.int .i64 0,.int .i64 0] 24)
 have HT:=fun W=>Hd (zero_tables W)
 unfold NewPost at HT
 have HX:=Hd hx
 have HF:=Hd hf0
 clear hx hf0
 go_enter Tryz.func92,Tryz.ntmps92
 go_wp2_with fail
 refine(zero_props _).mono ?_
 rintro e w1 ⟨⟨x,rfl⟩,hfr1⟩
 have hx1:=hfr1.keep HX.out (fun h=>h)
 have HX1:=Hd hx1
 have HF1:=Hd (HF.out.trans hfr1)
 clear hfr1 hx1
 go_wp2_with fail
 refine(Win.new_in n _ (by omega) h2).mono ?_
 rintro e w2 ⟨rfl,hfr2,hW2⟩
 have hx2:=hfr2.keep HX1.out (fun h=>h)
 obtain⟨z0,z1,z2⟩:=cs3 hx2 rfl rfl rfl
 have HF2:=Hd hfr2
 have HW2:=Hd hW2
 clear hfr2 hW2 hx2
 go_wp2_with fail
 refine(HT _).out.mono ?_
 rintro e w3 ⟨T,b,g,rfl,hfr3,hTab,hT0,hn⟩
 have hb:=heap_alloc_new w3 (.cells #[ptr T,ptr w1.heap.size,.bool false] 272)
 have hf4:=(R0 w3).alloc (.cells #[ptr T,ptr w1.heap.size,.bool false] 272)
 have FIN:=Hd (show Fr (fun _=>False) w (w3.alloc (.cells #[ptr T,ptr w1.heap.size,.bool false] 272))∧Dec (w3.alloc (.cells #[ptr T,ptr w1.heap.size,.bool false] 272)) ⟨0,w3.heap.size,0,T,w1.heap.size,.slice none 0 0,.slice none 0 0,[],0,b,g⟩ ⟨0,0,0,S.new,n,[]⟩ (fresh 0 0) false∧∀k,L.F ⟨0,w3.heap.size,0,T,w1.heap.size,.slice none 0 0,.slice none 0 0,[],0,b,g⟩ k→w.heap.size≤k from by
  have hs1:=HF1.out.size
  have hs2:=HF2.out.size
  have hs3:=hfr3.size
  refine⟨((HF1.out.trans HF2.out).trans hfr3).trans hf4,⟨hb,⟨hf4.keep hTab.box (fun h=>h),fun j hj=>(hTab.set j hj).keep hf4,hTab.inj⟩,(HW2.out.keep hfr3 (fun h=>h) (fun _ _ h=>h)).keep hf4 (fun h=>h) (fun _ _ h=>h),⟨by simp,by simp,S.new_ok⟩,fun j _=>fresh_len 0 0 j⟩,fun k hk=> ?_⟩
  rcases hk with hk|hk|hk|hk|⟨j,hj,hk|hk⟩
  ·simp only at hk
   omega
  ·simp only at hk
   omega
  ·simp only at hk
   omega
  ·simp[Value.ownBlock] at hk
  ·have:=hn j hj
   simp only at hk
   omega
  ·have:=hn j hj
   simp only at hk
   omega)
 clear hfr3 hTab hn hb hf4
 go_wp2_with fail
 go_ret2
 exact⟨FIN.out.1,_,rfl,FIN.out.2⟩
theorem dnew_out(n:Int)(w:World)(h:n<1∨4294967295<n):
 Calls Tryz.prog 92 #[.agg #[.int .i64 0,.int .i64 0,.int .i64 0],.int .i64 n] w fun e w'=>Fr (fun _=>False) w w'∧e=.returned (.tuple #[.pointer none,.int .i64 7]):=by
 have HF:=Hd ((R0 w).alloc (.cells #[.int .i64 0,.int .i64 0,.int .i64 0] 24))
 have HW:=fun W=>Hd (Win.new_out n W h)
 clear h
 go_enter Tryz.func92,Tryz.ntmps92
 go_wp2_with fail
 refine(zero_props _).mono ?_
 rintro e w1 ⟨⟨x,rfl⟩,hfr1⟩
 have HF1:=Hd (HF.out.trans hfr1)
 clear hfr1
 go_wp2_with fail
 refine(HW _).out.mono ?_
 rintro e w2 ⟨rfl,rfl⟩
 go_wp2_with fail
 go_ret2
 exact⟨HF1.out,rfl⟩
end Lz
end Go.Proofs.YtffoddpjfgjelaaGreatDoor
