/- Part 51 of 53: lemmas of the last part, each under the conditions that it names. -/
import Derived.Test.YtilegoadokmcdaaGreatDoorP50
set_option linter.unusedVariables false
set_option linter.unusedSimpArgs false
set_option maxRecDepth 1500
set_option maxHeartbeats 8000000
namespace Go.Proofs.YtilegoadokmcdaaGreatDoor
open Go.RowKit
namespace Ap
open Mem Win Ck Ga Wire Lz St La Re
theorem four_one(m:Int):∀u ∈ (#[.int .i64 m,.int .u8 0,.int .i64 0,.int .i64 0]:Array Value).toList,u.oneCell'=true:=by
 intro u hu
 simp only[List.mem_cons,List.not_mem_nil,or_false] at hu
 rcases hu with rfl|rfl|rfl|rfl<;>rfl
theorem row_one(p:Option Addr)(n cap:Nat):∀u ∈ (#[.slice p n cap]:Array Value).toList,u.oneCell'=true:=by
 intro u hu
 simp only[List.mem_cons,List.not_mem_nil,or_false] at hu
 rw[hu]
 rfl
theorem byte_one(m:Int):∀u ∈ (#[.int .u8 m]:Array Value).toList,u.oneCell'=true:=by
 intro u hu
 simp only[List.mem_cons,List.not_mem_nil,or_false] at hu
 rw[hu]
 rfl
theorem six_one(m:Int):∀u ∈ (#[.int .i64 m,.int .i64 0,.int .i64 0,.int .i64 0,.int .i64 0,.int .i64 0]:Array Value).toList,u.oneCell'=true:=by
 intro u hu
 simp only[List.mem_cons,List.not_mem_nil,or_false] at hu
 rcases hu with rfl|rfl|rfl|rfl|rfl|rfl<;>rfl
section
variable {w wb wr w':World}{dv cv sv mv ov:Value}{nd nc n:Nat}{vs ms:List Value}{ns:List Nat}{Pd Pc Q:Nat→Prop}{Ps:Nat→Nat→Prop}{zb:Nat}{bx:Array Value}
theorem more_d(h:A w wr dv cv sv nd nc vs ns Pd Pc Ps zb bx)(hm:More w wb wr vs ns mv ns.length ms)(hf:Fr (fun k=>dv.ownBlock=some k) wr w'):More w wb w' vs ns mv ns.length ms:=
 hm.step (Nat.le_refl _) hf (fun k hk e=>by
  obtain⟨cur,hc⟩:=h.d.block e
  exact hm.own.off hc (by decide) hk) (fun i y k hi hk e=>by
  obtain⟨cur,hc⟩:=hm.blk (Nat.le_refl _) hi hk
  exact h.d.off hc (by decide) e)
theorem more_c(h:A w wr dv cv sv nd nc vs ns Pd Pc Ps zb bx)(hm:More w wb wr vs ns mv ns.length ms)(hf:Fr (fun k=>cv.ownBlock=some k) wr w'):More w wb w' vs ns mv ns.length ms:=
 hm.step (Nat.le_refl _) hf (fun k hk e=>by
  obtain⟨cur,hc⟩:=h.c.block e
  exact hm.own.off hc (by decide) hk) (fun i y k hi hk e=>by
  obtain⟨cur,hc⟩:=hm.blk (Nat.le_refl _) hi hk
  exact h.c.off hc (by decide) e)
theorem on_c{mark:Value}(h:A w wr dv cv sv nd nc vs ns Pd Pc Ps zb bx)(ho:Mk 5 1 mark w wr ov n Q)(hf:Fr (fun k=>cv.ownBlock=some k) wr w'):Mk 5 1 mark w w' ov n Q:=
 ho.step hf (fun k hk e=>by
  obtain⟨cur,hc⟩:=h.c.block e
  exact ho.off hc (by decide) hk)
end
theorem sep_new{w wr:World}{dv cv sv x y:Value}{nd nc I:Nat}{vs:List Value}{ns:List Nat}{Pd Pc:Nat→Prop}{Ps:Nat→Nat→Prop}{zb:Nat}{bx:Array Value}(h:A w wr dv cv sv nd nc vs ns Pd Pc Ps zb bx)(hx:vs[I]? =some x)(hn:∀k,y.ownBlock=some k→x.ownBlock=some k∨wr.heap.size≤k):
 ∀(j:Nat)(z:Value)(k:Nat),vs[j]? =some z→I≠j→y.ownBlock=some k→z.ownBlock≠some k:=by
 intro j z k hz hij hk hk'
 rcases hn k hk with h1|h1
 ·exact h.s.apart I j x z k hij hx hz h1 hk'
 ·have hj:j<ns.length:=by rw[←h.s.len];exact(List.getElem?_eq_some_iff.1 hz).1
  have:=(h.s.each j z _ hz (List.getElem?_eq_getElem hj)).lt k hk'
  omega
theorem base{T:TypeId}{z n:Nat}{w0 w1 w:World}{v:Value}{xs:List Value}(h:Own T z w1 w v n xs)(hs:w0.heap.size≤w1.heap.size):Own T z w0 w v n xs:=⟨h.own,fun k hk=>Nat.le_trans hs (h.new k hk)⟩
theorem rebase{w0 w1 w:World}{v:Value}{vs:List Value}{ns:List Nat}{P:Nat→Nat→Prop}(h:RowsK w1 w v vs ns P)(hs:w0.heap.size≤w1.heap.size):RowsK w0 w v vs ns P:=
 ⟨base h.own hs,h.len,fun i x n hx hn=>by
  obtain⟨xs,h1,h2⟩:=(h.each i x n hx hn).ex
  exact⟨xs,base h1 hs,h2⟩,h.apart⟩
theorem _root_.Go.Proofs.YtilegoadokmcdaaGreatDoor.Mem.Fr.one'(w:World)(g i:Nat)(u:Value){p:Nat}{c:Nat}:Fr (fun k=>(Value.slice (some ⟨g,0,none⟩) p c).ownBlock=some k) w (w.setCell ⟨g,i,none⟩ u):=
 (Fr.one w g i u).mono (fun k _ e=>by rw[e];rfl)
set_option maxRecDepth 100000 in
theorem apart_calls(b:List UInt8)(p pa:Option Addr)(cap ca:Nat)(dict packed size:Int)(wv cwv swv:Value)(w0 w:World)(hT:St.Tabs w)(hM:Moves w)(hR:Mine w0 w (.slice p (b.length+1) cap) (b++[77]))(hcap:b.length<cap)(hra:Rd w (.slice pa b.length ca) b)(hb:b.length≤4194304)
    (hw:Mine w0 w wv (dR b dict packed size).2.2)(hc:Cc.Heads w0 w cwv (cR b).2.2)(hs:RowsY w0 w swv (sR b dict).2):
    Calls Tryz.prog 15 #[.slice p b.length cap,.agg #[.slice pa b.length ca,.int .i64 dict,.int .i64 packed,.int .i64 size],wv,cwv,swv] w fun e w'=>e=.returned (.bool true)∧Fr (fun _=>False) w w':=by
  have h5:=hT.size
  have hdl:=dR_le b dict packed size
  have hcl:=cR_le b
  have hsl:=(sR_le b dict).1
  have hse:=(sR_le b dict).2
  have hf1:=(Fr.refl (fun _=>False) w).alloc (.cells #[.slice pa b.length ca,.int .i64 dict,.int .i64 packed,.int .i64 size] 24)
  have hx1:=heap_alloc_new w (.cells #[.slice pa b.length ca,.int .i64 dict,.int .i64 packed,.int .i64 size] 24)
  have HD:=fun W(hf:Fr (fun _=>False) w W)=>Hd (dec_calls b dict packed size W (.slice p b.length cap) (hT.keep hf) ((room_rd hR).keep hf) (hM.step hf (fun _ h=>h.elim)) hb)
  have HC:=fun W(hf:Fr (fun _=>False) w W)=>Hd (chu_calls b W (.slice p b.length cap) ((room_rd hR).keep hf) (hM.step hf (fun _ h=>h.elim)) (Nat.le_trans h5 hf.size) hb)
  have HS:=fun W(hf:Fr (fun _=>False) w W)=>Hd (sym_calls b dict W (.slice p b.length cap) (hT.keep hf) ((room_rd hR).keep hf) (hM.step hf (fun _ h=>h.elim)) hb)
  have HHELD:=fun W(hf:Fr (fun _=>False) w W)=>Hd (held_calls p cap b (.slice pa b.length ca) w0 W (hR.keep hf) hcap (hra.keep hf) hb)
  have HW:=Hd hw
  have HCW:=Hd hc
  have HSW:=Hd hs
  have HSE:=Hd hse
  have HX1:=Hd hx1
  have HF1:=Hd hf1
  obtain⟨pw,kw,hwe⟩:=hw.slice
  have HWE:=Hd hwe
  clear hT hM hR hra hw hc hs hse hx1 hf1 hwe
  unfold DP at HD
  unfold CP at HC
  unfold SP at HS
  generalize dR b dict packed size=dr at*
  generalize cR b=cr at*
  generalize sR b dict=sr at*
  obtain⟨dn,de,dl⟩:=dr
  obtain⟨cn,ce,cl⟩:=cr
  obtain⟨se,sl⟩:=sr
  simp only at HD HC HS hdl hcl hsl HW HCW HSW HSE
  have hx1:=HX1.out
  obtain⟨a0,a1,a2,a3⟩:=cs4 hx1 rfl rfl rfl rfl
  clear hx1
  go_enter Tryz.func15,Tryz.ntmps15
  go_upto_region 1 with fail
  generalize w.heap.size=zb at*
  generalize World.alloc w _=w1 at*
  go_wp2_with fail
  refine(HD _ HF1.out).out.mono ?_
  rintro e w2 ⟨hf2,dv,rfl,hd2⟩
  have HF2:=Hd (HF1.out.trans hf2)
  have hx2:=hf2.keep HX1.out (fun h=>h)
  have HX2:=Hd hx2
  have HD2:=Hd (Own.of_mine hd2)
  obtain⟨pd,kd,rfl⟩:=hd2.slice
  clear a0 a1 a2 a3
  have a1:=cell_in (i:=1) hx2 rfl
  clear hf2 hx2 hd2
  go_wp2_with fail
  refine(HC _ HF2.out).out.mono ?_
  rintro e w3 ⟨hf3,cv,rfl,hc3⟩
  have HF3:=Hd (HF2.out.trans hf3)
  have hx3:=hf3.keep HX2.out (fun h=>h)
  have HX3:=Hd hx3
  have HD3:=Hd (HD2.out.keep hf3)
  have HC3:=Hd hc3
  obtain⟨pc,kc,rfl⟩:=Own.slice hc3
  clear a1
  have a1:=cell_in (i:=1) hx3 rfl
  clear hf3 hx3 hc3
  go_wp2_with fail
  refine(HS _ HF3.out).out.mono ?_
  rintro e w4 ⟨hf4,sv,rfl,hs4⟩
  obtain⟨vs,hk4⟩:=RowsK.of hs4
  have hsl2:=hk4.own
  rw[List.length_map] at hsl2
  obtain⟨ps,ks,rfl⟩:=hsl2.slice
  have hX4:=hf4.keep HX3.out (fun h=>h)
  have HX4:=Hd hX4
  have HA4:=Hd (show A w w4 (.slice pd dl.length kd) (.slice pc cl.length kc) (.slice ps sl.length ks) dl.length cl.length vs (sl.map List.length) (fun i=>i<0) (fun i=>i<0) (fun i j=>i<0∨i=0∧j<0) zb #[.slice pa b.length ca,.int .i64 dict,.int .i64 packed,.int .i64 size] from
    ⟨HF3.out.trans hf4,hX4,(Mk.of (base (Own.keep HD3.out hf4) HF1.out.size)).mono (fun i _ h=>by omega),(Mk.of (base (Own.keep HC3.out hf4) HF2.out.size)).mono (fun i _ h=>by omega),(rebase hk4 HF3.out.size).mono (fun i n j _ _ h=>by omega)⟩)
  have HNS:=Hd (show∀(i n:Nat),(sl.map List.length)[i]? =some n→n≤2097152 from fun i n h=>by
    rw[List.getElem?_map] at h
    cases hr:sl[i]? with
    |none=>rw[hr] at h;cases h
    |some l=>
      rw[hr] at h
      simp only[Option.map_some,Option.some.injEq] at h
      subst h
      exact HSE.out l (List.mem_of_getElem? hr))
  have HLEN:=Hd (show cl.length≤1099511627776∧sl.length≤1099511627776∧∀l ∈ sl,l.length≤1099511627776 from⟨by omega,by omega,fun l hl=>by have:=HSE.out l hl;omega⟩)
  have HDL:=Hd (show dl.length≤8796093022208 by omega)
  have hnl:(sl.map List.length).length=sl.length:=List.length_map _
  generalize sl.map List.length=ns at*
  rw[←hnl] at HA4 hsl ⊢
  have HNL:=Hd hnl
  clear hnl
  generalize dl.length=nd at*
  generalize hncl:cl.length=nc at*
  have HNC:=Hd hncl
  clear hncl
  clear a1 hf4 hs4 hk4 hsl2 hX4 HSE
  go_wp2_with fail
  go_loopw [19](fun i wr=>∃k:Nat,k≤nd∧i=.int .i64 k∧A w wr (.slice pd nd kd) (.slice pc nc kc) (.slice ps ns.length ks) nd nc vs ns (fun i=>i<k) (fun i=>i<0) (fun i j=>i<0∨i=0∧j<0) zb #[.slice pa b.length ca,.int .i64 dict,.int .i64 packed,.int .i64 size]) (fun i _=>nd-(intOf i).toNat)
  case atStart=>exact⟨0,Nat.zero_le _,rfl,HA4.out⟩
  obtain⟨k,hkn,rfl,hA⟩:=hrel
  have HA:=Hd hA
  by_cases hlt:k<nd
  · obtain⟨g,cur,hg,hgc,hgs⟩:=hA.d.at hlt (by decide)
    subst hg
    have hcell:∃u,wr.cell? ⟨g,k,none⟩=some u:=⟨cur[k]'(by omega),cell_in hgc (Array.getElem?_eq_getElem _)⟩
    obtain⟨u,hu⟩:=hcell
    have huf:=frozen_in hgc k
    have hidx:(k:Int)<nd:=by omega
    clear hA hgc hgs
    go_wp2_with fail
    go_roundw
    case rel=>
      have hm:=(HA.out.d.put (k:=k) hlt (by decide))
      rw[Nat.mul_one] at hm
      refine⟨k+1,by omega,by go_num,HA.out.onD (Fr.one' _ _ _ _) (hm.mono (fun i _ h=>by omega))⟩
    case measure=>simp[intOf];omega
  have hk2:nd=k:=by omega
  subst hk2
  clear hA hlt
  go_wp2_with fail
  go_loopw [20](fun i wr=>∃k:Nat,k≤nc∧i=.int .i64 k∧A w wr (.slice pd nd kd) (.slice pc nc kc) (.slice ps ns.length ks) nd nc vs ns (fun i=>i<nd) (fun i=>i<k) (fun i j=>i<0∨i=0∧j<0) zb #[.slice pa b.length ca,.int .i64 dict,.int .i64 packed,.int .i64 size]) (fun i _=>nc-(intOf i).toNat)
  case atStart=>exact⟨0,Nat.zero_le _,rfl,HA.out⟩
  clear HA
  obtain⟨k,hkn,rfl,hA⟩:=hrel
  have HA:=Hd hA
  by_cases hlt:k<nc
  · obtain⟨g,cur,hg,hgc,hgs⟩:=hA.c.at hlt (by decide)
    subst hg
    obtain⟨u0,hu0⟩:∃u,wr.cell? ⟨g,k*6,none⟩=some u:=⟨cur[k*6]'(by omega),cell_in hgc (Array.getElem?_eq_getElem _)⟩
    obtain⟨u1,hu1⟩:∃u,wr.cell? ⟨g,k*6+1,none⟩=some u:=⟨cur[k*6+1]'(by omega),cell_in hgc (Array.getElem?_eq_getElem _)⟩
    obtain⟨u2,hu2⟩:∃u,wr.cell? ⟨g,k*6+2,none⟩=some u:=⟨cur[k*6+2]'(by omega),cell_in hgc (Array.getElem?_eq_getElem _)⟩
    obtain⟨u3,hu3⟩:∃u,wr.cell? ⟨g,k*6+3,none⟩=some u:=⟨cur[k*6+3]'(by omega),cell_in hgc (Array.getElem?_eq_getElem _)⟩
    obtain⟨u4,hu4⟩:∃u,wr.cell? ⟨g,k*6+4,none⟩=some u:=⟨cur[k*6+4]'(by omega),cell_in hgc (Array.getElem?_eq_getElem _)⟩
    obtain⟨u5,hu5⟩:∃u,wr.cell? ⟨g,k*6+5,none⟩=some u:=⟨cur[k*6+5]'(by omega),cell_in hgc (Array.getElem?_eq_getElem _)⟩
    have huf:=fun i=>frozen_in hgc i
    have hidx:(k:Int)<nc:=by omega
    clear hA hgc hgs
    go_wp2_with fail
    go_roundw
    case rel=>
      have hm:=(((((HA.out.c.put (k:=k) hlt (by decide)).cell (by omega) (.int .i64 0) (j:=k*6+1) (fun i _ _=>by omega)).cell (by omega) (.int .i64 0) (j:=k*6+2) (fun i _ _=>by omega)).cell (by omega) (.int .i64 0) (j:=k*6+3) (fun i _ _=>by omega)).cell (by omega) (.int .i64 0) (j:=k*6+4) (fun i _ _=>by omega)).cell (by omega) (.int .i64 0) (j:=k*6+5) (fun i _ _=>by omega)
      refine⟨k+1,by omega,by go_num,HA.out.onC ((((((Fr.one' _ _ _ _).trans (Fr.one' _ _ _ _)).trans (Fr.one' _ _ _ _)).trans (Fr.one' _ _ _ _)).trans (Fr.one' _ _ _ _)).trans (Fr.one' _ _ _ _)) (hm.mono (fun i _ h=>by omega))⟩
    case measure=>simp[intOf];omega
  have hk2:nc=k:=by omega
  subst hk2
  clear hA hlt
  go_wp2_with fail
  go_loopw [21,22](fun i _ wr=>∃I:Nat,I≤ns.length∧i=.int .i64 I∧A w wr (.slice pd nd kd) (.slice pc nc kc) (.slice ps ns.length ks) nd nc vs ns (fun i=>i<nd) (fun i=>i<nc) (fun i j=>i<I∨i=I∧j<0) zb #[.slice pa b.length ca,.int .i64 dict,.int .i64 packed,.int .i64 size]) (fun i _ _=>ns.length-(intOf i).toNat)
  case atStart=>exact⟨0,Nat.zero_le _,rfl,HA.out⟩
  clear HA
  obtain⟨I,hIn,rfl,hA⟩:=hrel
  have HA:=Hd hA
  by_cases hlt:I<ns.length
  · obtain⟨x,n,hx,hn⟩:=hA.s.get hlt
    obtain⟨gs,hgs,es⟩:=hA.s.own.cell hx
    subst hgs
    have hMx:=hA.s.each I x n hx hn
    obtain⟨px,kx,rfl⟩:=hMx.slice
    have HXN:=Hd (And.intro hx hn)
    have hn2:=HNS.out I n hn
    have hidx:(I:Int)<ns.length:=by omega
    clear hMx hx hn hA es
    go_wp2_with fail
    go_loopw [22](fun j wr=>∃k:Nat,k≤n∧j=.int .i64 k∧A w wr (.slice pd nd kd) (.slice pc nc kc) (.slice (some ⟨gs,0,none⟩) ns.length ks) nd nc vs ns (fun i=>i<nd) (fun i=>i<nc) (fun i j=>i<I∨i=I∧j<k) zb #[.slice pa b.length ca,.int .i64 dict,.int .i64 packed,.int .i64 size]) (fun j _=>n-(intOf j).toNat)
    case atStart=>exact⟨0,Nat.zero_le _,rfl,HA.out⟩
    clear HA
    obtain⟨k,hkn,rfl,hA⟩:=hrel
    have HA:=Hd hA
    obtain⟨hx,hn⟩:=HXN.out
    obtain⟨gs',hgs',es⟩:=hA.s.own.cell hx
    simp only[Option.some.injEq,Addr.mk.injEq,and_true] at hgs'
    subst hgs'
    by_cases hlk:k<n
    · have hMx:=hA.s.each I _ n hx hn
      obtain⟨g,cur,hg,hgc,hgsz⟩:=hMx.at hlk (by decide)
      subst hg
      obtain⟨u0,hu0⟩:∃u,wr.cell? ⟨g,k*4,none⟩=some u:=⟨cur[k*4]'(by omega),cell_in hgc (Array.getElem?_eq_getElem _)⟩
      obtain⟨u1,hu1⟩:∃u,wr.cell? ⟨g,k*4+1,none⟩=some u:=⟨cur[k*4+1]'(by omega),cell_in hgc (Array.getElem?_eq_getElem _)⟩
      obtain⟨u2,hu2⟩:∃u,wr.cell? ⟨g,k*4+2,none⟩=some u:=⟨cur[k*4+2]'(by omega),cell_in hgc (Array.getElem?_eq_getElem _)⟩
      obtain⟨u3,hu3⟩:∃u,wr.cell? ⟨g,k*4+3,none⟩=some u:=⟨cur[k*4+3]'(by omega),cell_in hgc (Array.getElem?_eq_getElem _)⟩
      have huf:=fun i=>frozen_in hgc i
      have hne:g≠gs:=fun e=>by
        obtain⟨cur2,hc2⟩:=hA.s.own.block (k:=gs) rfl
        exact blk_ne hgc hc2 (by decide) e
      have hidk:(k:Int)<n:=by omega
      clear hA hgc hgsz hMx hx hn
      go_wp2_with fail
      go_roundw
      case rel=>
        obtain⟨hx,hn⟩:=HXN.out
        have hm:=((((HA.out.s.each I _ n hx hn).put (k:=k) hlk (by decide)).cell (by omega) (.int .u8 0) (j:=k*4+1) (fun i _ _=>by omega)).cell (by omega) (.int .i64 0) (j:=k*4+2) (fun i _ _=>by omega)).cell (by omega) (.int .i64 0) (j:=k*4+3) (fun i _ _=>by omega)
        have hA2:=HA.out.onS hx hn ((((Fr.one' _ _ _ _).trans (Fr.one' _ _ _ _)).trans (Fr.one' _ _ _ _)).trans (Fr.one' _ _ _ _)) hm
        refine⟨k+1,by omega,by go_num,⟨hA2.fr,hA2.box,hA2.d,hA2.c,hA2.s.mono (fun i m j _ _ h=> ?_)⟩⟩
        by_cases hi:i=I
        · rw[if_pos hi]
          rcases h with h|h
          · omega
          · have:j<k∨j=k:=by omega
            exact this.imp (fun h=>.inr ⟨rfl,h⟩) id
        · rw[if_neg hi]
          omega
      case measure=>simp[intOf];omega
    · have hkn2:k=n:=by omega
      clear hA
      go_wp2_with fail
      go_roundw
      case rel=>
        obtain⟨hx,hn⟩:=HXN.out
        refine⟨I+1,by omega,by go_num,⟨HA.out.fr,HA.out.box,HA.out.d,HA.out.c,HA.out.s.mono (fun i m j hm hj h=> ?_)⟩⟩
        by_cases hi:i=I
        · subst hi
          rw[hn] at hm
          simp only[Option.some.injEq] at hm
          omega
        · omega
      case measure=>simp[intOf];omega
  clear hA
  have HA:=Hd (show A w wr (.slice pd nd kd) (.slice pc nc kc) (.slice ps ns.length ks) nd nc vs ns (fun i=>i<nd) (fun i=>i<nc) (fun i j=>True) zb #[.slice pa b.length ca,.int .i64 dict,.int .i64 packed,.int .i64 size] from⟨HA.out.fr,HA.out.box,HA.out.d,HA.out.c,HA.out.s.mono (fun i m j hm hj _=>by have:=(List.getElem?_eq_some_iff.1 hm).1;omega)⟩)
  go_wp2_with fail
  clear hlt hIn
  have HSB:=Hd (show∀k,(Value.slice ps ns.length ks).ownBlock=some k→k<wr.heap.size from fun k hk=>HA.out.s.own.lt k hk)
  have HWB:=Hd HA.out.fr.size
  obtain⟨wb,rfl⟩:∃x,x=wr:=⟨_,rfl⟩
  go_loopw [23,24] (fun mv i wr=>∃(I:Nat)(ms:List Value),I≤ns.length∧i=.int .i64 I∧A w wr (.slice pd nd kd) (.slice pc nc kc) (.slice ps ns.length ks) nd nc vs ns (fun i=>i<nd) (fun i=>i<nc) (fun i j=>True) zb #[.slice pa b.length ca,.int .i64 dict,.int .i64 packed,.int .i64 size]∧More w wb wr vs ns mv I ms∧wb.heap.size≤wr.heap.size) (fun _ i _=>ns.length-(intOf i).toNat)
  case atStart=>exact⟨0,[],Nat.zero_le _,rfl,HA.out,More.nil _ _ _ _ _,Nat.le_refl _⟩
  clear HA
  obtain⟨I,ms,hIn,rfl,hA,hMo,hwr⟩:=hrel
  have HWR:=Hd hwr
  have HA:=Hd hA
  have HMO:=Hd hMo
  by_cases hlt:I<ns.length
  · obtain⟨x,n,hx,hn⟩:=hA.s.get hlt
    obtain⟨gs,hgs,es⟩:=hA.s.own.cell hx
    subst hgs
    have hMx:=hA.s.each I x n hx hn
    obtain⟨px,kx,rfl⟩:=hMx.slice
    have hn2:=HNS.out I n hn
    have hidx:(I:Int)<ns.length:=by omega
    obtain⟨xs,hOx,hmx⟩:=hMx.ex
    have hal:=(Fr.refl (fun _=>False) wr).alloc (.cells #[.int .i64 30,.int .u8 0,.int .i64 0,.int .i64 0] 68)
    have hnew:=heap_alloc_new wr (.cells #[.int .i64 30,.int .u8 0,.int .i64 0,.int .i64 0] 68)
    have HN1:=Hd hnew
    have HAL:=Hd hal.size
    have HOX:=Hd (hOx.keep hal)
    have HA1:=Hd (hA.keep hal)
    have HMO1:=Hd (hMo.keep hIn hal)
    have HXN:=Hd (And.intro hx (And.intro hn (And.intro hmx hOx.own.1)))
    have HS1:=Hd (four_one 30)
    clear hA hMo hMx hx hn hOx hmx hal hnew HA HMO
    have tok1:True:=trivial
    go_wp2_with (first
      | (at_builtin
         have _t:=tok1
         refine append_own2 rfl _ _ rfl Tryz.underlying53 infoSym rfl (by decide) (by omega) (w0:=w) (.slice px n kx) xs _ _ rfl rfl HOX.out HA1.out.fr.size HN1.out rfl HS1.out (by omega) ?_
         intro v6 w6 hO6 hf6 hn6 hst6
         obtain⟨p6,k6,rfl⟩:=hO6.slice
         have HY6:=Hd (Mk.longer (n:=n) hO6 HXN.out.2.2.2 (by decide) (fun i hi=>HXN.out.2.2.1 i hi trivial))
         have HA6:=Hd (HA1.out.onS (Q:=fun _=>True) HXN.out.1 HXN.out.2.1 hf6 ⟨xs,hst6,fun i hi _=>HXN.out.2.2.1 i hi trivial⟩)
         have HM6:=Hd (HMO1.out.app1 hlt HXN.out.1 (fun k hk=>(HA1.out.s.each I _ n HXN.out.1 HXN.out.2.1).block hk) hf6)
         have HS6:=Hd (Nat.le_trans HAL.out hf6.size)
         have HSE6:=Hd (sep_new HA1.out HXN.out.1 hn6)
         have HX7:=Hd (heap_alloc_new w6 (.cells #[.slice p6 (n+1) k6] 53))
         have HF7:=Hd ((Fr.refl (fun _=>False) w6).alloc (.cells #[.slice p6 (n+1) k6] 53))
         have HONE:=Hd (row_one p6 (n+1) k6)
         clear hO6 hf6 hn6 hst6 tok1
         have tok2:True:=trivial)
      | (at_builtin
         have _t:=tok2
         refine append_own rfl _ _ rfl Tryz.underlying39 infoRow rfl (by decide) (by decide) (w0:=wb) u23 ms _ _ rfl rfl (HM6.out.keep hIn HF7.out).own (Nat.le_trans HWR.out (Nat.le_trans HS6.out HF7.out.size)) HX7.out rfl HONE.out (by omega) ?_
         intro v8 w8 hO8 hf8 hn8
         have HA8:=Hd ((HA6.out.keep HF7.out).onM (HM6.out.keep hIn HF7.out).own HSB.out HWB.out hf8)
         have HM8:=Hd ((HM6.out.keep hIn HF7.out).app2 hlt HXN.out.2.1 HXN.out.1 hO8 hf8 (HY6.out.keep HF7.out) HSE6.out)
         have HS8:=Hd (Nat.le_trans HWR.out (Nat.le_trans HS6.out (Nat.le_trans HF7.out.size hf8.size)))
         clear hO8 hf8 hn8 tok2))
    go_roundw
    case rel=>
      have hA9:A w w8 (.slice pd nd kd) (.slice pc nc kc) (.slice (some ⟨gs,0,none⟩) ns.length ks) nd nc vs ns (fun i=>i<nd) (fun i=>i<nc) (fun i j=>True) zb #[.slice pa b.length ca,.int .i64 dict,.int .i64 packed,.int .i64 size]:=⟨HA8.out.fr,HA8.out.box,HA8.out.d,HA8.out.c,HA8.out.s.mono (fun i m j _ _ _=>by
        by_cases h:i=I
        · rw[if_pos h];trivial
        · rw[if_neg h];trivial)⟩
      exact⟨I+1,_,by omega,by go_num,hA9,HM8.out,HS8.out⟩
    case measure=>simp[intOf];omega
  have hk2:ns.length=I:=by omega
  subst hk2
  clear hA hMo hlt
  go_upto_region 24 with fail
  have HMOA:=Hd HMO.out
  have hal9:=(Fr.refl (fun _=>False) wr).alloc (.cells #[.int .u8 2] 5)
  have hn9:=heap_alloc_new wr (.cells #[.int .u8 2] 5)
  obtain⟨xd,hxd,hmd⟩:=(HA.out.keep hal9).d.ex
  have HXD:=Hd (And.intro hxd hmd)
  have HA9:=Hd (HA.out.keep hal9)
  have HM9:=Hd (HMO.out.keep (Nat.le_refl _) hal9)
  have HN9:=Hd hn9
  clear hxd hmd hal9 hn9 HA HMO HMOA
  go_upto_region 25 with (at_builtin
                          refine append_own2 rfl _ _ rfl Tryz.underlying22 infoU8 rfl (by decide) (by have:=HDL.out;omega) (w0:=w) (.slice pd nd kd) xd _ _ rfl rfl HXD.out.1 HA9.out.fr.size HN9.out rfl (byte_one 2) (by have:=HDL.out;omega) ?_
                          intro v10 w10 hO10 hf10 hn10 hst10
                          obtain⟨p10,k10,rfl⟩:=hO10.slice
                          have HA10:=Hd (HA9.out.onD (Q:=fun i=>i<nd) hf10 ⟨xd,hst10,HXD.out.2⟩)
                          have HON:=Hd (Mk.longer (n:=nd) hO10 HXD.out.1.own.1 (by decide) (fun i hi=>HXD.out.2 i hi hi))
                          have HM10:=Hd (more_d HA9.out HM9.out hf10)
                          clear hO10 hf10 hn10 hst10)
  have hal11:=(Fr.refl (fun _=>False) w10).alloc (.cells #[.int .i64 51,.int .i64 0,.int .i64 0,.int .i64 0,.int .i64 0,.int .i64 0] 52)
  have hn11:=heap_alloc_new w10 (.cells #[.int .i64 51,.int .i64 0,.int .i64 0,.int .i64 0,.int .i64 0,.int .i64 0] 52)
  obtain⟨xc,hxc,hmc⟩:=(HA10.out.keep hal11).c.ex
  have HXC:=Hd (And.intro hxc hmc)
  have HA11:=Hd (HA10.out.keep hal11)
  have HM11:=Hd (HM10.out.keep (Nat.le_refl _) hal11)
  have HON11:=Hd (HON.out.keep hal11)
  have HN11:=Hd hn11
  clear hxc hmc hal11 hn11 HA9 HM9 HN9 HXD HA10 HM10 HON
  go_upto_region 26 with (at_builtin
                          refine append_own2 rfl _ _ rfl Tryz.underlying33 infoChunk rfl (by decide) (by omega) (w0:=w) (.slice pc nc kc) xc _ _ rfl rfl HXC.out.1 HA11.out.fr.size HN11.out rfl (six_one 51) (by omega) ?_
                          intro v12 w12 hO12 hf12 hn12 hst12
                          obtain⟨p12,k12,rfl⟩:=hO12.slice
                          have HA12:=Hd (HA11.out.onC (Q:=fun i=>i<nc) hf12 ⟨xc,hst12,HXC.out.2⟩)
                          have HBE:=Hd (Mk.longer (n:=nc) hO12 HXC.out.1.own.1 (by decide) (fun i hi=>HXC.out.2 i hi hi))
                          have HM12:=Hd (more_c HA11.out HM11.out hf12)
                          have HON12:=Hd (on_c HA11.out HON11.out hf12)
                          clear hO12 hf12 hn12 hst12)
  have hx12:=HA12.out.box
  have a1:=cell_in (i:=1) hx12 rfl
  have a2:=cell_in (i:=2) hx12 rfl
  have a3:=cell_in (i:=3) hx12 rfl
  clear hx12 HA11 HM11 HON11 HN11 HXC
  go_wp2_with fail
  refine(HD _ HA12.out.fr).out.mono ?_
  rintro e w13 ⟨hf13,xv,rfl,hd13⟩
  have HF13:=Hd hf13
  have HXV:=Hd hd13
  obtain⟨px,kx,rfl⟩:=hd13.slice
  clear hf13 hd13 a1 a2 a3
  go_wp2_with fail
  refine(HC _ (HA12.out.fr.trans HF13.out)).out.mono ?_
  rintro e w14 ⟨hf14,yv,rfl,hc14⟩
  have HF14:=Hd (HF13.out.trans hf14)
  have HXV14:=Hd (HXV.out.keep hf14)
  have HYV:=Hd hc14
  obtain⟨py,ky,rfl⟩:=Own.slice hc14
  have hx14:=(HA12.out.keep HF14.out).box
  have a1:=cell_in (i:=1) hx14 rfl
  clear hf14 hc14 hx14
  go_wp2_with fail
  refine(HS _ (HA12.out.fr.trans HF14.out)).out.mono ?_
  rintro e w15 ⟨hf15,zv,rfl,hs15⟩
  have HF15:=Hd (HF14.out.trans hf15)
  have HXV15:=Hd (HXV14.out.keep hf15)
  have HYV15:=Hd (Own.keep HYV.out hf15)
  have HZV:=Hd hs15
  obtain⟨pz,kz,rfl⟩:=hs15.slice
  have HA:=Hd (HA12.out.keep HF15.out)
  have HMO:=Hd (HM12.out.keep (Nat.le_refl _) HF15.out)
  have HON:=Hd (HON12.out.keep HF15.out)
  have HBE2:=Hd (HBE.out.keep HF15.out)
  clear hf15 hs15 a1 HA12 HM12 HON12 HBE HD HC HS
  go_wp2_with fail
  go_loopw [35,36](fun i _ wr=>∃I:Nat,I≤ns.length∧i=.int .i64 I∧wr=w15) (fun i _ _=>ns.length-(intOf i).toNat)
  case atStart=>exact⟨0,Nat.zero_le _,rfl,rfl⟩
  obtain⟨I,hIn,rfl,rfl⟩:=hrel
  by_cases hlt:I<ns.length
  · obtain⟨x,n,hx,hn⟩:=HA.out.s.get hlt
    obtain⟨gs,hgs,es⟩:=HA.out.s.own.cell hx
    subst hgs
    have hMx:=HA.out.s.each I x n hx hn
    obtain⟨pq,kq,rfl⟩:=hMx.slice
    obtain⟨pm,km,hmv⟩:=HMO.out.own.slice
    subst hmv
    obtain⟨y,hy⟩:∃y,ms[I]? =some y:=⟨ms[I]'(by rw[HMO.out.len];exact hlt),List.getElem?_eq_getElem _⟩
    obtain⟨gm,hgm,em⟩:=HMO.out.own.cell hy
    subst hgm
    have hMy:=HMO.out.each I y n hy hn
    obtain⟨pr,kr,rfl⟩:=hMy.slice
    have hn2:=HNS.out I n hn
    have hidx:(I:Int)<ns.length:=by omega
    have HMXX:=Hd (And.intro hMx hMy)
    clear hMx hMy hx hn hy
    go_wp2_with fail
    go_loopw [36](fun j w'=>∃k:Nat,k≤n∧j=.int .i64 k∧w'=wr) (fun j _=>n-(intOf j).toNat)
    case atStart=>exact⟨0,Nat.zero_le _,rfl,rfl⟩
    obtain⟨k,hkn,rfl,rfl⟩:=hrel
    by_cases hlk:k<n
    · obtain⟨g,hg,eg⟩:=HMXX.out.1.read hlk trivial
      subst hg
      obtain⟨g2,hg2,eg2⟩:=HMXX.out.2.read (i:=k) (by omega) hlk
      subst hg2
      have hidk:(k:Int)<n:=by omega
      have hidk2:(k:Int)<(n:Int)+1:=by omega
      go_wp2_with fail
      go_roundw
      case rel=>exact⟨k+1,by omega,by go_num,by first|rfl|trivial⟩
      case measure=>simp[intOf];omega
    · have hkn2:k=n:=by omega
      go_wp2_with fail
      go_roundw
      case rel=>exact⟨I+1,by omega,by go_num,by first|rfl|trivial⟩
      case measure=>simp[intOf];omega
  go_wp2_with fail
  clear hlt hIn
  go_loopw [37](fun i wr'=>∃k:Nat,k≤nd∧i=.int .i64 k∧wr'=wr) (fun i _=>nd-(intOf i).toNat)
  case atStart=>exact⟨0,Nat.zero_le _,rfl,rfl⟩
  obtain⟨k,hkn,rfl,rfl⟩:=hrel
  by_cases hlt:k<nd
  · obtain⟨g,hg,eg⟩:=HA.out.d.read hlt hlt
    subst hg
    obtain⟨g2,hg2,eg2⟩:=HON.out.read (i:=k) (by omega) hlt
    subst hg2
    rw[Nat.mul_one] at eg eg2
    have hidk:(k:Int)<nd:=by omega
    have hidk2:(k:Int)<(nd:Int)+1:=by omega
    go_wp2_with fail
    go_roundw
    case rel=>exact⟨k+1,by omega,by go_num,by first|rfl|trivial⟩
    case measure=>simp[intOf];omega
  go_wp2_with fail
  clear hlt hkn
  go_loopw [38](fun i wr'=>∃k:Nat,k≤nc∧i=.int .i64 k∧wr'=wr) (fun i _=>nc-(intOf i).toNat)
  case atStart=>exact⟨0,Nat.zero_le _,rfl,rfl⟩
  obtain⟨k2,hkn2,rfl,rfl⟩:=hrel
  by_cases hlt:k2<nc
  · obtain⟨g,hg,eg⟩:=HA.out.c.read hlt hlt
    subst hg
    obtain⟨g2,hg2,eg2⟩:=HBE2.out.read (i:=k2) (by omega) hlt
    subst hg2
    have hidk:(k2:Int)<nc:=by omega
    have hidk2:(k2:Int)<(nc:Int)+1:=by omega
    go_wp2_with fail
    go_roundw
    case rel=>exact⟨k2+1,by omega,by go_num,by first|rfl|trivial⟩
    case measure=>simp[intOf];omega
  go_upto_region 47 with fail
  clear hlt hkn2
  obtain hwe:=HWE.out
  subst hwe
  have hcv1:=conv_str HXV15.out.rd
  have hcv2:=conv_str (HW.out.keep HA.out.fr).rd
  have hss:((str dl).toList==(str dl).toList)=true:=by simp
  have HHC:=Hd (heads_calls (.slice py cl.length ky) cwv cl _ _ wr HYV15.out (Own.keep HCW.out HA.out.fr) (by rw[HNC.out];exact HLEN.out.1))
  have HRC:=Hd (fun m=>rows_calls (.slice pz sl.length kz) swv sl _ _ (wr.drewN m) (HZV.out.keep ((Fr.refl _ _).drewN m)) ((HSW.out.keep HA.out.fr).keep ((Fr.refl _ _).drewN m)) HLEN.out.2.1 HLEN.out.2.2)
  have HHE:=Hd (fun m=>HHELD (wr.drewN m) (HA.out.fr.drewN m))
  have HFW:=Hd HA.out.fr
  have hx16:=HA.out.box
  have a0:=cell_in (i:=0) hx16 rfl
  clear hx16
  unfold Yes at HHC HRC HHE
  clear HA HMO HON HBE2 HXV HXV14 HYV HYV15 HZV HXV15 HHELD
  go_wp2_with fail
  refine HHC.out.mono ?_
  rintro e w16 ⟨rfl,m1,rfl⟩
  go_wp2_with fail
  refine(HRC.out m1).mono ?_
  rintro e w17 ⟨rfl,m2,rfl⟩
  go_wp2_with fail
  refine((HHE.out (m1+m2)).out).mono ?_
  rintro e w18 ⟨rfl,m3,rfl⟩
  go_wp2_with fail
  go_ret
  first
    |exact⟨rfl,HFW.out.drewN _⟩
    |exact⟨rfl,(HFW.out.drewN _).drewN _⟩
end Ap
end Go.Proofs.YtilegoadokmcdaaGreatDoor
