/- Part 24 of 54: lemmas of the last part, each under the conditions that it names. -/
import Derived.Deep.RegionHeld3
import Derived.Test.YtlgccpjccopdmaaGreatDoorP03
import Derived.Test.YtlgccpjccopdmaaGreatDoorP05
import Derived.Test.YtlgccpjccopdmaaGreatDoorP09
import Derived.Test.YtlgccpjccopdmaaGreatDoorP18
import Derived.Test.YtlgccpjccopdmaaGreatDoorP23
set_option linter.unusedVariables false
set_option linter.unusedSimpArgs false
set_option maxRecDepth 1500
set_option maxHeartbeats 4000000
namespace Go.Proofs.YtlgccpjccopdmaaGreatDoor
open Go.RowKit
namespace Ck
open Mem Wire Win
theorem unpack1_raw(w0 w:World)(dB prB fB Vb:Nat)(l:Lz.L)(ov:Value)(u:US)(hU:UAt w0 w dB prB fB Vb l ov u)(h:Head)(hk:h.kind≤2)(part:List UInt8)(pv:Value)(hr:Rd w pv part)(hpv:0<part.length→∀k,pv.ownBlock=some k→k<w0.heap.size)(hok:h.lc+h.lp≤4∧h.pb≤4)(hs:3≤h.kind→1≤h.size∧h.size≤2097152)
 (hp:part.length≤1099511627776)(hm:u.c.all.length+part.length+h.size≤1152921504606840000)(ho:u.out.length+part.length+h.size≤70368744177664):
 Calls Tryz.prog 86 #[.agg h.cells,pv,Lz.ptr dB,Lz.ptr prB,Lz.ptr fB] w (UPost w0 w dB prB fB Vb l ov (u.step h part)):=by
 obtain h0|h0|h0:h.kind=0∨h.kind=1∨h.kind=2:=by omega
 ·exact unpack1_k0 w0 w dB prB fB Vb l ov u hU h h0 part pv hr hpv hok hs hp hm ho
 ·exact unpack1_k1 w0 w dB prB fB Vb l ov u hU h h0 part pv hr hpv hok hs hp hm ho
 ·exact unpack1_k2 w0 w dB prB fB Vb l ov u hU h h0 part pv hr hpv hok hs hp hm ho
theorem step_growR{w0 w:World}{dB prB fB Vb:Nat}{l:Lz.L}{ov:Value}{u u2:US}(hU:UAt w0 w dB prB fB Vb l ov u){h:Head}{part:List UInt8}(hk:h.kind≤2)(hp:part.length≤65536)(e:u.step h part=some u2):
 u2.out.length≤u.out.length+2097152∧u2.c.all.length≤u.c.all.length+2097152:=by
 unfold US.step at e
 split at e
 ·simp only[Option.some.injEq] at e
  subst e
  simp only[US.raw,Lz.C.on,List.length_append]
  omega
 ·split at e
  ·simp only[Option.some.injEq] at e
   subst e
   simp only[US.raw,US.clear,Lz.C.on,List.length_append,List.length_nil]
   omega
  ·omega
def RawRun(b:List UInt8)(packed size:Int):Nat→Sr→Prop
 |0,_=>True
 |f+1,s=>s.now=3∨(Raw b packed size s∧∀h part fr s2,nextP b packed size s=.ok (h,part,fr,s2)→h.kind≤2∧RawRun b packed size f s2)
def RdRelW(b:List UInt8)(packed size:Int)(w0 w:World)(dB prB fB Vb Rb Ob:Nat)(bv:Value)(f0:Nat)(u0:US)(f:Nat)(wr:World):Prop:=∃s u l ov,RdL b packed size w0 w dB prB fB Vb Rb Ob bv f0 u0 f wr s u l ov∧RawRun b packed size f s
set_option maxRecDepth 100000 in
theorem read_raw(b:List UInt8)(packed size:Int)(w0 w:World)(dB prB fB Vb:Nat)(l:Lz.L)(ov bv:Value)(u:US)(hU:UAt w0 w dB prB fB Vb l ov u)(hr:Rd w bv b)(hbv:0<b.length→∀k,bv.ownBlock=some k→k<w0.heap.size)(hM:Moves w)(hb:b.length≤16777216)(ha0:u.c.all.length=0)(ho0:u.out.length=0)(hrw:RawRun b packed size (b.length+2) ⟨0,0,0⟩):
 Calls Tryz.prog 43 #[bv,.int .i64 packed,.int .i64 size,.func (.func 86) #[] #[Lz.ptr dB,Lz.ptr prB,Lz.ptr fB]] w (ReadPost w0 w dB prB fB Vb (readP b packed size (b.length+2) ⟨0,0,0⟩ u)):=by
 obtain⟨bp,bc,rfl,hbc1,hbc2,hbc3⟩:=hr
 have hr:Rd w (.slice bp b.length bc) b:=⟨bp,bc,rfl,hbc1,hbc2,hbc3⟩
 clear hbc1 hbc2 hbc3
 obtain⟨res,hres⟩:∃res,res=readP b packed size (b.length+2) ⟨0,0,0⟩ u:=⟨_,rfl⟩
 rw[←hres]
 have HRES:=Hd hres
 have HU:=Hd hU
 have HR:=Hd hr
 have HMV:=Hd hM
 have HBV:=Hd hbv
 have HRW0:=Hd hrw
 have hsz:=hU.size
 have h5:=hU.five
 clear hres hU hr hM hbv hrw
 go_enter Tryz.func43,Tryz.ntmps43
 go_wp2_with fail
 refine(newOrder_calls _).mono ?_
 rintro e w1 ⟨rfl,hfr1,hO1⟩
 have hf2:=(Fr.refl (fun _=>False) w1).alloc (.cells #[.slice bp b.length bc,.int .i64 0,.int .i64 0,.int .i64 packed,.int .i64 size,.pointer (some ⟨w.heap.size,0,none⟩)] 170)
 have hx2:=heap_alloc_new w1 (.cells #[.slice bp b.length bc,.int .i64 0,.int .i64 0,.int .i64 packed,.int .i64 size,.pointer (some ⟨w.heap.size,0,none⟩)] 170)
 have hs1:=hfr1.size
 have H0:=Hd (show RdRelW b packed size w0 w dB prB fB Vb w1.heap.size w.heap.size (.slice bp b.length bc) (b.length+2) u (b.length+2) (w1.alloc (.cells #[.slice bp b.length bc,.int .i64 0,.int .i64 0,.int .i64 packed,.int .i64 size,.pointer (some ⟨w.heap.size,0,none⟩)] 170)) from
  ⟨⟨0,0,0⟩,u,l,ov,⟨rfl,by simp only;omega,Nat.zero_le _,by decide,hx2,hf2.keep hO1 (fun h=>h),(HU.out.keep hfr1).keep hf2,(hfr1.trans hf2).mono (fun _ _ h=>h.elim),HR.out.keep (hfr1.trans hf2),HMV.out.step (hfr1.trans hf2) (fun _ h=>h.elim),by simp,by omega,by omega⟩,HRW0.out⟩)
 have hRb:w0.heap.size≤w1.heap.size:=by omega
 have hOb:w0.heap.size≤w.heap.size:=hsz
 clear hfr1 hO1 hf2 hx2
 go_wp2_with fail
 generalize w1.heap.size=Rb at*
 generalize w.heap.size=Ob at*
 go_loopg [11] (b.length+2) (fun f _ wr=>RdRelW b packed size w0 w dB prB fB Vb Rb Ob (.slice bp b.length bc) (b.length+2) u f wr)
 case atStart=>exact H0.out
 case round=>
  obtain⟨s,u1,l1,ov1,hL,hRW⟩:=hrel
  have HL:=Hd hL
  have c5:wr.cell? ⟨Rb,5,none⟩=some (.pointer (some ⟨Ob,0,none⟩)):=cell_in hL.row rfl
  have c1:wr.cell? ⟨Rb,1,none⟩=some (.int .i64 s.at'):=cell_in hL.row rfl
  have hle:=hL.le
  have hfu:=hL.fuel
  have hnow:=hL.now
  have hbp:=hL.bp
  have hba:=hL.ba
  have hbo:=hL.bo
  obtain⟨f,rfl⟩:∃f,gk=f+1:=⟨gk-1,by omega⟩
  have HEN:=Hd (ended_calls Ob s.now wr hL.ord)
  have HGO:=Hd (hL.go.trans (readP_succ b packed size f s u1))
  have HRW:=Hd (show s.now=3∨(Raw b packed size s∧∀h part fr s2,nextP b packed size s=.ok (h,part,fr,s2)→h.kind≤2∧RawRun b packed size f s2) from hRW)
  clear hRW
  clear hL
  by_cases h3:s.now=3
  ·rw[decide_eq_true h3] at HEN
   have HG2:=Hd (HGO.out.trans (if_pos h3))
   clear h3
   go_wp2_with fail
   refine HEN.out.mono ?_
   rintro e w2 ⟨rfl,rfl⟩
   go_wp2_with fail
   go_ret2
   rw[HRES.out,HG2.out]
   exact⟨HL.out.fr,rfl,l1,ov1,HL.out.U⟩
  ·rw[decide_eq_false h3] at HEN
   have HG2:=Hd (HGO.out.trans (if_neg h3))
   have HRW2:=Hd (HRW.out.resolve_left h3)
   clear h3
   have HNX:=Hd (next_raw Rb Ob (.slice bp b.length bc) b packed size s wr HL.out.row HL.out.ord HL.out.rd HL.out.mv ⟨by omega,by omega⟩ hnow hle (by omega) (by omega) HRW2.out.1)
   unfold NextPost at HNX
   have hnerr:=fun p er=>nextP_err (b:=b) (packed:=packed) (size:=size) (s:=s) (p:=p) (er:=er)
   have hnok:=fun h part fr s2=>nextP_ok (b:=b) (packed:=packed) (size:=size) (s:=s) (s2:=s2) (h:=h) (part:=part) (fr:=fr) hnow hle
   cases hnx:nextP b packed size s with
   |error x=>
     obtain⟨p,er⟩:=x
     have her:=hnerr p er hnx
     rw[hnx] at HNX HG2
     simp only at HNX
     have hne:((er:Int) !=0)=true:=by simp[her]
     have hne2:((er:Int)==0)=false:=by simp[her]
     have HER:=Hd her
     clear hnerr hnok hnx her
     go_wp2_with fail
     refine HEN.out.mono ?_
     rintro e w2 ⟨rfl,rfl⟩
     go_wp2_with fail
     refine HNX.out.mono ?_
     rintro e w2 ⟨hfr2,rfl⟩
     have HF:=Hd (HL.out.fr.trans (hfr2.mono (T:=fun k=>w0.heap.size≤k) (fun i _ hi=>by rcases hi with hi|hi<;>omega)))
     clear hfr2
     unfold Head.none Head.cells
     go_wp2_with fail
     go_ret2
     rw[HRES.out,HG2.out]
     exact⟨HF.out.alloc _,HER.out,rfl⟩
   |ok x=>
     obtain⟨h,part,fr,s2⟩:=x
     have hok:=hnok h part fr s2 hnx
     have HKN:=Hd (HRW2.out.2 h part fr s2 hnx)
     rw[hnx] at HNX HG2
     simp only at HNX HG2
     have HOK:=Hd hok
     clear hnerr hnok hnx hok
     go_wp2_with fail
     refine HEN.out.mono ?_
     rintro e w2 ⟨rfl,rfl⟩
     go_wp2_with fail
     refine HNX.out.mono ?_
     rintro e w2 ⟨hfr2,q,c,rfl,hrd2,hqb,hrow2,hord2⟩
     have hU2:=HL.out.U.other hfr2 (fun k cs t fr hk ht hS=>by
      rcases hS with hS|hS
      ·have h1:=HL.out.row
       unfold RowAt at h1
       rw[hS,h1] at hk
       simp only[Option.some.injEq,Obj.cells.injEq] at hk
       exact absurd (hk.2.1 ▸ ht) (by decide)
      ·have h1:=HL.out.ord
       unfold OrdAt at h1
       rw[hS,h1] at hk
       simp only[Option.some.injEq,Obj.cells.injEq] at hk
       exact absurd (hk.2.1 ▸ ht) (by decide)) (fun k hS=>by rcases hS with hS|hS<;>omega)
     have hf3:=(Fr.refl (fun _=>False) w2).alloc (.cells h.cells 47)
     have hx3:=heap_alloc_new w2 (.cells h.cells 47)
     have hpl:part.length≤65536:=by have h1:=HOK.out.plen;have h2:=HOK.out.packed;omega
     have hat2:=HOK.out.more
     have hle2:=HOK.out.le
     have hat3:=HOK.out.at2
     have hsz2:=HOK.out.size
     have HU1:=Hd (unpack1_raw w0 _ dB prB fB Vb l1 ov1 u1 (hU2.keep hf3) h HKN.out.1 part (.slice q part.length c) (hrd2.keep hf3) (fun h0 k hk=>by
      have h1:=hqb k hk
      refine HBV.out (by omega) k h1) HOK.out.props (fun h3=>⟨HOK.out.one h3,HOK.out.size⟩) (by omega) (by omega) (by omega))
     have HGROW:=Hd (fun u2 e=>step_growR hU2 (u2:=u2) HKN.out.1 hpl e)
     have HF3:=Hd ((HL.out.fr.trans (hfr2.mono (T:=fun k=>w0.heap.size≤k) (fun i _ hi=>by rcases hi with hi|hi<;>omega))).trans (hf3.mono (fun _ _ h=>h.elim)))
     have HROW:=Hd (show RowAt (w2.alloc (.cells h.cells 47)) Rb (.slice bp b.length bc) s2.at' s2.plain packed size Ob from hf3.keep hrow2 (fun h=>h))
     have HORD:=Hd (show OrdAt (w2.alloc (.cells h.cells 47)) Ob s2.now from hf3.keep hord2 (fun h=>h))
     have HU3:=Hd (hU2.keep hf3)
     have hxx:∀i v,h.cells[i]? =some v→(w2.alloc (.cells h.cells 47)).cell? ⟨w2.heap.size,i,none⟩=some v:=fun i v hv=>cell_in hx3 hv
     have x0:=hxx 0 (.int .i64 h.kind) rfl
     have x1:=hxx 1 (.int .i64 h.size) rfl
     have x2:=hxx 2 (.int .i64 h.packed) rfl
     have x3:=hxx 3 (.int .i64 h.lc) rfl
     have x4:=hxx 4 (.int .i64 h.lp) rfl
     have x5:=hxx 5 (.int .i64 h.pb) rfl
     have HPL:=Hd hpl
     clear hfr2 hrd2 hrow2 hord2 hU2 hf3 hx3 hxx hpl
     unfold UPost at HU1
     cases hst:u1.step h part with
     |none=>
       rw[hst] at HU1 HG2
       simp only at HU1 HG2
       clear hst HGROW
       unfold Head.cells at*
       go_wp2_with fail
       refine HU1.out.mono ?_
       rintro e w4 ⟨hfr4,rfl⟩
       have HF4:=Hd (HF3.out.trans (hfr4.mono (fun i _ hi=>UG_low HU3.out i hi)))
       clear hfr4
       go_wp2_with fail
       go_ret2
       rw[HRES.out,HG2.out]
       exact⟨HF4.out,by decide,rfl⟩
     |some u2=>
       have hgr:=HGROW.out u2 hst
       rw[hst] at HU1 HG2
       simp only at HU1 HG2
       clear hst HGROW
       unfold Head.cells at*
       go_wp2_with fail
       refine HU1.out.mono ?_
       rintro e w4 ⟨hfr4,rfl,l4,ov4,hU4,_,_⟩
       have HF4:=Hd (HF3.out.trans (hfr4.mono (fun i _ hi=>UG_low HU3.out i hi)))
       have HR4:=Hd (hfr4.keep HROW.out (ug_off HU3.out HROW.out (by decide)))
       have HO4:=Hd (hfr4.keep HORD.out (ug_off HU3.out HORD.out (by decide)))
       have HU4:=Hd hU4
       clear hfr4 hU4 x0 x1 x2 x3 x4 x5
       go_wp2_with fail
       go_roundg f
       case rel=>
        refine⟨s2,u2,l4,ov4,⟨HG2.out,by omega,by omega,HOK.out.now,HR4.out,HO4.out,HU4.out,HF4.out,rd_step1 HR.out HF4.out (fun h0 k hk hge=> ?_),HMV.out.step HF4.out (fun k hk=>by omega),?_,by omega,by omega⟩,HKN.out.2⟩
        ·have:=HBV.out h0 k hk
         omega
        ·have:=HOK.out.plain
         omega
       case measure=>omega
set_option maxRecDepth 100000 in
theorem unpack_raw(b:List UInt8)(dict packed size:Int)(w0 w:World)(Vb:Nat)(bv:Value)(hO:OutAt w Vb (.slice none 0 0))(hV:w0.heap.size≤Vb)(h0:w0.heap.size≤w.heap.size)(hT:St.Tabs w)(hT0:5≤w0.heap.size)(hr:Rd w bv b)(hbv:0<b.length→∀k,bv.ownBlock=some k→k<w0.heap.size)(hM:Moves w)(hb:b.length≤16777216)(hrw:RawRun b packed size (b.length+2) ⟨0,0,0⟩):
 Calls Tryz.prog 41 #[bv,.int .i64 dict,.int .i64 packed,.int .i64 size,.func (.func 42) #[] #[Lz.ptr Vb]] w (UnpackPost w0 w Vb (unpackP b dict packed size)):=by
 have hmf:∀(fn:Fn)(first cap:Array Value)(w:World),(Instr.makeFunc fn first cap).run Tryz.prog w=.ok (.func fn first cap) w:=fun _ _ _ _=>rfl
 obtain⟨res,hres⟩:∃res,res=unpackP b dict packed size:=⟨_,rfl⟩
 rw[←hres]
 unfold unpackP at hres
 obtain⟨bp,bc,rfl,hbc1,hbc2,hbc3⟩:=hr
 have hr:Rd w (.slice bp b.length bc) b:=⟨bp,bc,rfl,hbc1,hbc2,hbc3⟩
 clear hbc1 hbc2 hbc3
 have hf1:=(Fr.refl (fun _=>False) w).alloc (.cells #[.func (.func 42) #[] #[Lz.ptr Vb]] 104)
 have hx1:=heap_alloc_new w (.cells #[.func (.func 42) #[] #[Lz.ptr Vb]] 104)
 have HF1:=Hd hf1
 have HX1:=Hd hx1
 have HR:=Hd hr
 have HO:=Hd hO
 have HT:=Hd hT
 have HM:=Hd hM
 have HRES:=Hd hres
 have HBV:=Hd hbv
 clear hf1 hx1 hr hO hT hM hres hbv
 by_cases hd:dict<1∨4294967295<dict
 ·have HN:=fun W=>Hd (Lz.dnew_out dict W hd)
  have HRE:=Hd (HRES.out.trans (if_pos (by rcases hd with h|h;exact .inl h;exact .inr (.inl h))))
  clear hd
  go_enter Tryz.func41,Tryz.ntmps41
  go_wp2_with fail
  refine(HN _).out.mono ?_
  rintro e w2 ⟨hfr,rfl⟩
  have HF:=Hd (HF1.out.trans hfr)
  clear hfr
  go_wp2_with fail
  go_ret2
  rw[HRE.out]
  exact⟨(HF.out.alloc _).mono (fun _ _ h=>h.elim),by decide,rfl⟩
 ·obtain⟨dn,rfl⟩:∃dn:Nat,dict=dn:=⟨dict.toNat,by omega⟩
  have HN:=fun W=>Hd (Lz.dnew_in dn W (by omega) (by omega))
  go_enter Tryz.func41,Tryz.ntmps41
  go_wp2_with fail
  refine(HN _).out.mono ?_
  rintro e w2 ⟨hfr,l,rfl,hdec,hlow⟩
  have hf3:=(Fr.refl (fun _=>False) w2).alloc (.cells #[Lz.ptr l.D] 163)
  have hx3:=heap_alloc_new w2 (.cells #[Lz.ptr l.D] 163)
  have hs1:=HF1.out.size
  have hs2:=hfr.size
  have HF:=Hd ((HF1.out.trans hfr).trans hf3)
  by_cases hpk:packed< -1
  ·have HRE:=Hd (HRES.out.trans (if_pos (.inr (.inr (.inl hpk)))))
   clear hfr hdec hlow hf3 hx3
   go_wp2_with fail
   go_ret2
   rw[HRE.out]
   exact⟨HF.out.mono (fun _ _ h=>h.elim),by decide,rfl⟩
  ·by_cases hsz:size< -1
   ·have HRE:=Hd (HRES.out.trans (if_pos (.inr (.inr (.inr hsz)))))
    clear hfr hdec hlow hf3 hx3
    go_wp2_with fail
    go_ret2
    rw[HRE.out]
    exact⟨HF.out.mono (fun _ _ h=>h.elim),by decide,rfl⟩
   ·have HRE:=Hd (HRES.out.trans (if_neg (show¬((dn:Int)<1∨4294967295<(dn:Int)∨packed< -1∨size< -1) from fun h=>by
     rcases h with h|h|h|h
     ·exact hd (.inl h)
     ·exact hd (.inr h)
     ·exact hpk h
     ·exact hsz h)))
    rw[Int.toNat_natCast] at HRE
    have hf4:=(Fr.refl (fun _=>False) (w2.alloc (.cells #[Lz.ptr l.D] 163))).alloc (.cells #[.int .i64 0,.int .i64 0,.int .i64 0] 24)
    have hx4:=heap_alloc_new (w2.alloc (.cells #[Lz.ptr l.D] 163)) (.cells #[.int .i64 0,.int .i64 0,.int .i64 0] 24)
    simp only[World.size_alloc] at hx4 hs1 hs2 hlow
    have hf14:=(HF.out).trans hf4
    have hU:UAt w0 ((w2.alloc (.cells #[Lz.ptr l.D] 163)).alloc (.cells #[.int .i64 0,.int .i64 0,.int .i64 0] 24)) w2.heap.size (w2.heap.size+1) w.heap.size Vb l (.slice none 0 0) (US.start dn):=by
     refine⟨hf4.keep hx3 (fun h=>h),hx4,hf4.keep (hf3.keep (hfr.keep HX1.out (fun h=>h)) (fun h=>h)) (fun h=>h),(hdec.keep0 hf3).keep0 hf4,hf14.keep HO.out (fun h=>h),Mine.nil _ _,HT.out.keep hf14,fun k hk=> ?_,hT0,⟨by omega,by omega,h0,hV⟩,fun k hk=>by simp[Value.ownBlock] at hk,by simp[US.start],Nat.le_trans h0 hf14.size⟩
     have:=hlow k hk
     omega
    have HRC:=Hd (read_raw b packed size w0 _ w2.heap.size (w2.heap.size+1) w.heap.size Vb l (.slice none 0 0) (.slice bp b.length bc) (US.start dn) hU (HR.out.keep hf14) HBV.out (HM.out.step hf14 (fun _ h=>h.elim)) hb rfl rfl hrw)
    have HF14:=Hd hf14
    clear hfr hdec hlow hf3 hx3 hf4 hx4 hf14 hU
    unfold ReadPost at HRC
    cases hrp:readP b packed size (b.length+2) ⟨0,0,0⟩ (US.start dn) with
    |error x=>
      obtain⟨p,er⟩:=x
      rw[hrp] at HRC HRE
      simp only at HRC HRE
      clear hrp
      go_wp2_with fail
      refine HRC.out.mono ?_
      rintro e w5 ⟨hfr5,her,rfl⟩
      have HF5:=Hd ((HF14.out.mono (T:=fun k=>w0.heap.size≤k) (fun _ _ h=>h.elim)).trans hfr5)
      have HER:=Hd her
      clear hfr5 her
      go_wp2_with fail
      go_ret2
      rw[HRE.out]
      exact⟨HF5.out,HER.out,rfl⟩
    |ok x=>
      obtain⟨n,u2⟩:=x
      rw[hrp] at HRC HRE
      simp only at HRC HRE
      clear hrp
      go_wp2_with fail
      refine HRC.out.mono ?_
      rintro e w5 ⟨hfr5,rfl,l2,ov2,hU2⟩
      have HF5:=Hd ((HF14.out.mono (T:=fun k=>w0.heap.size≤k) (fun _ _ h=>h.elim)).trans hfr5)
      have HU2:=Hd hU2
      clear hfr5 hU2
      go_wp2_with fail
      go_ret2
      rw[HRE.out]
      exact⟨HF5.out,rfl,ov2,HU2.out.out,HU2.out.mine⟩
set_option maxRecDepth 100000 in
theorem decode_raw(b:List UInt8)(dict packed size:Int)(w:World)(bv:Value)(hT:St.Tabs w)(hr:Rd w bv b)(hM:Moves w)(hb:b.length≤16777216)(hrw:RawRun b packed size (b.length+2) ⟨0,0,0⟩):
 Calls Tryz.prog 14 #[bv,.int .i64 dict,.int .i64 packed,.int .i64 size] w (DecodePost w (unpackP b dict packed size)):=by
 have hmf:∀(fn:Fn)(first cap:Array Value)(w:World),(Instr.makeFunc fn first cap).run Tryz.prog w=.ok (.func fn first cap) w:=fun _ _ _ _=>rfl
 obtain⟨bp,bc,rfl,hbc1,hbc2,hbc3⟩:=hr
 have hr:Rd w (.slice bp b.length bc) b:=⟨bp,bc,rfl,hbc1,hbc2,hbc3⟩
 clear hbc1 hbc2 hbc3
 have hf1:=(Fr.refl (fun _=>False) w).alloc (.cells #[.slice none 0 0] 22)
 have hx1:=heap_alloc_new w (.cells #[.slice none 0 0] 22)
 have HUC:=Hd (unpack_raw b dict packed size w _ w.heap.size (.slice bp b.length bc) hx1 (Nat.le_refl _) hf1.size (hT.keep hf1) hT.size (hr.keep hf1) (fun h0 k hk=>rd_lt hr h0 k hk) (hM.step hf1 (fun _ h=>h.elim)) hb hrw)
 have HF1:=Hd hf1
 clear hf1 hx1 hT hr hM
 unfold UnpackPost at HUC
 unfold DecodePost
 cases hup:unpackP b dict packed size with
 |error x=>
   obtain⟨p,er⟩:=x
   rw[hup] at HUC
   simp only at HUC
   clear hup
   go_enter Tryz.func14,Tryz.ntmps14
   go_wp2_with fail
   refine HUC.out.mono ?_
   rintro e w2 ⟨hfr,her,rfl⟩
   have HF:=Hd (HF1.out.trans' hfr (fun i hi(h:w.heap.size≤i)=>by omega))
   have hne:((er:Int) !=0)=true:=by simp[her]
   have HER:=Hd her
   clear hfr her
   go_wp2_with fail
   go_ret3
   exact⟨HF.out,HER.out,rfl⟩
 |ok x=>
   obtain⟨n,out⟩:=x
   rw[hup] at HUC
   simp only at HUC
   clear hup
   go_enter Tryz.func14,Tryz.ntmps14
   go_wp2_with fail
   refine HUC.out.mono ?_
   rintro e w2 ⟨hfr,rfl,ov,hO,hM⟩
   have HF:=Hd (HF1.out.trans' hfr (fun i hi(h:w.heap.size≤i)=>by omega))
   have c0:=cell_in (i:=0) hO rfl
   have HM:=Hd hM
   clear hfr hO hM
   go_wp2_with fail
   go_ret3
   exact⟨HF.out,_,rfl,HM.out⟩
end Ck
namespace Enc
open Mem Win Lz
abbrev four(wc:World)(z q0 q1 q2 q3:Nat):World:=(((wc.setCell ⟨z,0,none⟩ (.pointer (some ⟨q0,0,none⟩))).setCell ⟨z,1,none⟩ (.pointer (some ⟨q1,0,none⟩))).setCell ⟨z,2,none⟩ (.pointer (some ⟨q2,0,none⟩))).setCell ⟨z,3,none⟩ (.pointer (some ⟨q3,0,none⟩))
theorem len_ret{P:Program}{fn:Func}{a:Act}{w0 wc:World}{z q0 q1 q2 q3:Nat}(hr:(results fn a.tmps).run P (four wc z q0 q1 q2 q3)=.ok (.agg #[ptr q0,ptr q1,ptr q2,ptr q3]) (four wc z q0 q1 q2 q3))(hd:a.defers=[])
 (hfr:Fr (fun _=>False) w0 (four wc z q0 q1 q2 q3)):bodyPost P fn (fun e w'=>∃c0 c1 c2 c3,e=.returned (.agg #[ptr c0,ptr c1,ptr c2,ptr c3])∧Fr (fun _=>False) w0 w') .ret a (four wc z q0 q1 q2 q3):=
 bodyPost_ret hr hd ⟨q0,q1,q2,q3,rfl,hfr⟩
set_option maxRecDepth 100000 in
theorem lenFork_calls(b0 b1 b2 b3:Nat)(w:World)(H:∀x,x=b0∨x=b1∨x=b2∨x=b3→∃g ps,Prob.SetAt w x g ps∧ps.length≤1048576):
 Calls Tryz.prog 157 #[.agg #[ptr b0,ptr b1,ptr b2,ptr b3]] w fun e w'=>∃c0 c1 c2 c3,e=.returned (.agg #[ptr c0,ptr c1,ptr c2,ptr c3])∧Fr (fun _=>False) w w':=by
 have hf0:=((Fr.refl (fun _=>False) w).alloc (.cells #[ptr b0,ptr b1,ptr b2,ptr b3] 185)).alloc (.cells #[.pointer none,.pointer none,.pointer none,.pointer none] 185)
 have hx:=((Fr.refl (fun _=>False) (w.alloc (.cells #[ptr b0,ptr b1,ptr b2,ptr b3] 185))).alloc (.cells #[.pointer none,.pointer none,.pointer none,.pointer none] 185)).keep (heap_alloc_new w (.cells #[ptr b0,ptr b1,ptr b2,ptr b3] 185)) (fun h=>h)
 have hy:=heap_alloc_new (w.alloc (.cells #[ptr b0,ptr b1,ptr b2,ptr b3] 185)) (.cells #[.pointer none,.pointer none,.pointer none,.pointer none] 185)
 rw[World.size_alloc] at hy
 have HF0:=Hd hf0
 have HX:=Hd hx
 have HY:=Hd hy
 have HH:=Hd H
 clear hf0 hx hy H
 go_enter Tryz.func157,Tryz.ntmps157
 go_wp2_with fail
 generalize hW:(w.alloc (.cells #[ptr b0,ptr b1,ptr b2,ptr b3] 185)).alloc (.cells #[.pointer none,.pointer none,.pointer none,.pointer none] 185)=W at*
 clear hW
 have HS:=Hd (show∀w':World,Fr (fun k=>k=w.heap.size+1) W w'→w'.cell? ⟨w.heap.size,0,none⟩=some (ptr b0)∧w'.cell? ⟨w.heap.size,1,none⟩=some (ptr b1)∧w'.cell? ⟨w.heap.size,2,none⟩=some (ptr b2)∧w'.cell? ⟨w.heap.size,3,none⟩=some (ptr b3) from fun w' h=>
  ⟨cell_in (i:=0) (h.keep HX.out (by omega)) rfl,cell_in (i:=1) (h.keep HX.out (by omega)) rfl,cell_in (i:=2) (h.keep HX.out (by omega)) rfl,cell_in (i:=3) (h.keep HX.out (by omega)) rfl⟩)
 have HK:=Hd (show∀(x:Nat)(w':World),(x=b0∨x=b1∨x=b2∨x=b3)→Fr (fun k=>k=w.heap.size+1) W w'→Calls Tryz.prog 156 #[ptr x] w' (NewP w') from fun x w' hx h=>by
  obtain⟨g,ps,h1,h2⟩:=HH.out x hx
  exact setFork_calls x g ps w' (h1.keep (HF0.out.trans' h (fun i hi(e:i=w.heap.size+1)=>by omega))) h2)
 have HR:=Hd ((Fr.refl (fun k=>k=w.heap.size+1) W).drew)
 have HSC:=Hd (HS.out W.drew HR.out)
 obtain⟨c0,c1,c2,c3⟩:=HSC.out
 have HY:=Hd ((Fr.refl (fun _=>False) W).drew.keep HY.out (fun h=>h))
 go_region_held3 (fun w'=>w'.cell? ⟨w.heap.size,0,none⟩=some (ptr b0)∧w'.cell? ⟨w.heap.size,1,none⟩=some (ptr b1)∧w'.cell? ⟨w.heap.size,2,none⟩=some (ptr b2)∧w'.cell? ⟨w.heap.size,3,none⟩=some (ptr b3)) (first|with_reducible exact HSC.out|exact HS.out _ HR.out|exact HS.out _ ((((HR.out.setCell (.inl rfl) _).setCell (.inl rfl) _).setCell (.inl rfl) _).setCell (.inl rfl) _)) ((first
  | (go_at_call 156
     first
      |(with_reducible refine(HK.out b0 _ (.inl rfl) HR.out).mono ?_)
      |(with_reducible refine(HK.out b1 _ (.inr (.inl rfl)) HR.out).mono ?_)
      |(with_reducible refine(HK.out b2 _ (.inr (.inr (.inl rfl))) HR.out).mono ?_)
      |(with_reducible refine(HK.out b3 _ (.inr (.inr (.inr rfl))) HR.out).mono ?_)
     rintro e wc ⟨b,rfl,hfrc,_⟩
     have HR:=Hd (HR.out.trans (hfrc.mono (fun _ _ h=>h.elim)))
     have HSC:=Hd (HS.out _ HR.out)
     obtain⟨c0,c1,c2,c3⟩:=HSC.out
     have hy1:=hfrc.keep HY.out (fun h=>h)
     have HY:=Hd hy1
     obtain⟨y0,y1,y2,y3,yf⟩:=cf4 hy1 rfl rfl rfl rfl
     clear hfrc hy1)))
 all_goals go_wp2_with fail
 all_goals
  refine len_ret ?_ rfl ?_
  ·simp[four,results,Tryz.results157,go_sem,y0,y1,y2,y3,yf]
  ·exact(HF0.out.trans' HR.out (fun i hi(e:i=w.heap.size+1)=>by omega)).trans' ((((Fr.refl (fun k=>k=w.heap.size+1) wc).setCell (.inl rfl) _).setCell (.inl rfl) _).setCell (.inl rfl) _|>.setCell (.inl rfl) _) (fun i hi(e:i=w.heap.size+1)=>by omega)
end Enc
namespace Enc
open Mem Win Lz St
abbrev conf3:Array Value:=#[.int .i64 0,.int .i64 0,.int .i64 3,.int .i64 0,.int .i64 2,.int .i64 4096,.int .i64 0,.int .i64 0]
theorem props3(w:World):Calls Tryz.prog 40 #[.agg #[.int .i64 3,.int .i64 0,.int .i64 2]] w fun e w'=>(∃x,e=.returned (.tuple #[.int .i64 x,.int .i64 0]))∧Fr (fun _=>False) w w':=props_ok 3 0 2 (by omega) (by omega) w
theorem tables3(w:World):Calls Tryz.prog 58 #[.agg #[.int .i64 3,.int .i64 0,.int .i64 2]] w (NewPost 3 0 2 w):=tables_calls 3 0 2 w (by omega)
theorem good_calls(w:World):Calls Tryz.prog 23 #[.agg conf3] w fun e w'=>e=.returned (.bool true)∧Fr (fun _=>False) w w':=by
 have HF:=Hd ((Fr.refl (fun _=>False) w).alloc (.cells conf3 26))
 have HX:=Hd (heap_alloc_new w (.cells conf3 26))
 go_enter Tryz.func23,Tryz.ntmps23
 go_wp2_with fail
 refine(props3 _).mono ?_
 rintro e w1 ⟨⟨x,rfl⟩,hfr⟩
 have hx1:=hfr.keep HX.out (fun h=>h)
 have c5:=cell_in (i:=5) hx1 rfl
 have c7:=cell_in (i:=7) hx1 rfl
 have HF1:=Hd (HF.out.trans hfr)
 clear hfr hx1
 go_wp2_with fail
 go_ret
 exact⟨rfl,HF1.out⟩
structure EncAt(w:World)(D T W E:Nat)(b g:Nat→Nat):Prop where
 d:w.heap[D]? =some (.cells #[ptr T,ptr W,ptr E] 128 (0,0))
 tab:Tab w T b g 3 0 2 S.new (fresh 3 0)
 win:At w W (.slice none 0 0) 4096 [] [] 0
 rc:w.heap[E]? =some (.cells #[.int .u64 0,.int .u32 4294967295,.int .u8 0,.int .i64 0,.slice none 0 0] 191 (0,0))
theorem enew_calls(w:World):Calls Tryz.prog 24 #[.agg #[.int .i64 3,.int .i64 0,.int .i64 2],.int .i64 4096] w fun e w'=>Fr (fun _=>False) w w'∧∃D T W E b g,e=.returned (.tuple #[ptr D,.int .i64 0])∧w.heap.size≤D∧EncAt w' D T W E b g:=by
 have hx:=heap_alloc_new w (.cells #[.int .i64 3,.int .i64 0,.int .i64 2] 24)
 have hf0:=(Fr.refl (fun _=>False) w).alloc (.cells #[.int .i64 3,.int .i64 0,.int .i64 2] 24)
 have HT:=fun W=>Hd (tables3 W)
 unfold NewPost at HT
 have HX:=Hd hx
 have HF:=Hd hf0
 clear hx hf0
 go_enter Tryz.func24,Tryz.ntmps24
 go_wp2_with fail
 refine(props3 _).mono ?_
 rintro e w1 ⟨⟨x,rfl⟩,hfr1⟩
 have hx1:=hfr1.keep HX.out (fun h=>h)
 have HX1:=Hd hx1
 have HF1:=Hd (HF.out.trans hfr1)
 clear hfr1 hx1
 go_wp2_with fail
 refine(Win.new_in 4096 _ (by omega) (by omega)).mono ?_
 rintro e w2 ⟨rfl,hfr2,hW2⟩
 have hx2:=hfr2.keep HX1.out (fun h=>h)
 obtain⟨z0,z1,z2⟩:=cs3 hx2 rfl rfl rfl
 have HF2:=Hd hfr2
 have HW2:=Hd hW2
 clear hfr2 hW2 hx2
 go_wp2_with fail
 refine(HT _).out.mono ?_
 rintro e w3 ⟨T,b,g,rfl,hfr3,hTab,hT0,hn⟩
 have HF3:=Hd hfr3
 have HTab:=Hd hTab
 clear hfr3 hTab hn
 go_wp2_with fail
 refine(encNew_calls _).mono ?_
 rintro e w4 ⟨rfl,hfr4,hE⟩
 have HF4:=Hd hfr4
 have HE:=Hd hE
 clear hfr4 hE
 have FIN:=Hd (show Fr (fun _=>False) w (w4.alloc (.cells #[ptr T,ptr w1.heap.size,ptr w3.heap.size] 128))∧EncAt (w4.alloc (.cells #[ptr T,ptr w1.heap.size,ptr w3.heap.size] 128)) w4.heap.size T w1.heap.size w3.heap.size b g∧w.heap.size≤w4.heap.size from by
  have hf5:=(Fr.refl (fun _=>False) w4).alloc (.cells #[ptr T,ptr w1.heap.size,ptr w3.heap.size] 128)
  have h45:=HF4.out.trans hf5
  have h35:=HF3.out.trans h45
  have hs:=((HF1.out.trans HF2.out).trans HF3.out).trans HF4.out
  refine⟨hs.trans hf5,⟨heap_alloc_new _ _,⟨h45.keep HTab.out.box (fun h=>h),fun j hj=>(HTab.out.set j hj).keep h45,HTab.out.inj⟩,HW2.out.keep h35 (fun h=>h) (fun _ _ h=>h),hf5.keep HE.out (fun h=>h)⟩,hs.size⟩)
 go_wp2_with fail
 go_ret2
 exact⟨FIN.out.1,_,_,_,_,_,_,rfl,FIN.out.2.2,FIN.out.2.1⟩
end Enc
namespace Enc
open Mem Win Lz St
def TabForks:Prop:=∀(T lc lp pb:Nat)(b g:Nat→Nat)(s:S)(ps:Nat→List Nat)(w:World),Tab w T b g lc lp pb s ps→(∀j,j<18→(ps j).length≤1048576)→Calls Tryz.prog 106 #[ptr T] w (NewP w)
theorem fresh_small(j:Nat)(h:j<18):(fresh 3 0 j).length≤1048576:=by
 have h2:∀j,j<18→(fresh 3 0 j).length≤1048576:=by
  unfold fresh
  simp only[List.length_replicate]
  decide
 exact h2 j h
def Forked(w:World)(e:Ending)(w':World):Prop:=∃D T W E rv,e=.returned (ptr D)∧Fr (fun _=>False) w w'∧w.heap.size≤D∧w'.heap[D]? =some (.cells #[ptr T,ptr W,ptr E] 128 (0,0))∧At w' W rv 4096 [] [] 0∧w.heap.size≤W∧∀k,rv.ownBlock=some k→w.heap.size≤k
set_option maxRecDepth 100000 in
theorem efork_calls(TF:TabForks){w:World}{D T W E:Nat}{b g:Nat→Nat}(h:EncAt w D T W E b g):Calls Tryz.prog 61 #[ptr D] w (Forked w):=by
 have HH:=Hd h
 have HR:=Hd ((Fr.refl (fun _=>False) w).drew)
 have HS:=Hd (show∀w':World,Fr (fun _=>False) w w'→w'.cell? ⟨D,0,none⟩=some (ptr T)∧w'.cell? ⟨D,1,none⟩=some (ptr W)∧w'.cell? ⟨D,2,none⟩=some (ptr E) from fun w' hf=>
  ⟨cell_in (i:=0) (hf.keep h.d (fun h=>h)) rfl,cell_in (i:=1) (hf.keep h.d (fun h=>h)) rfl,cell_in (i:=2) (hf.keep h.d (fun h=>h)) rfl⟩)
 have HK0:=Hd (show∀w':World,Fr (fun _=>False) w w'→Calls Tryz.prog 106 #[ptr T] w' (NewP w') from fun w' hf=>
  TF T 3 0 2 b g S.new (fresh 3 0) w' ⟨hf.keep h.tab.box (fun h=>h),fun j hj=>(h.tab.set j hj).keep hf,h.tab.inj⟩ fresh_small)
 have HK1:=Hd (show∀w':World,Fr (fun _=>False) w w'→Calls Tryz.prog 107 #[ptr W] w' (fun e w''=>∃b' rv',e=.returned (.pointer (some ⟨b',0,none⟩))∧Fr (fun _=>False) w' w''∧w'.heap.size≤b'∧At w'' b' rv' 4096 [] [] 0∧(∀k,rv'.ownBlock=some k→w'.heap.size≤k)) from fun w' hf=>
  winFork_calls W 4096 0 (.slice none 0 0) [] [] w' (h.win.keep hf (fun h=>h) (fun _ _ h=>h)) (by decide))
 have HK2:=Hd (show∀w':World,Fr (fun _=>False) w w'→Calls Tryz.prog 108 #[ptr E] w' (NewP w') from fun w' hf=>encFork_calls E w' (hf.keep h.rc (fun h=>h)))
 have HSC:=Hd (HS.out w.drew HR.out)
 obtain⟨c0,c1,c2⟩:=HS.out w (Fr.refl _ _)
 clear h
 go_enter Tryz.func61,Tryz.ntmps61
 go_wp2_with fail
 have HWN:=Hd (show∀w':World,Fr (fun _=>False) w.drew w'→True from fun _ _=>trivial)
 go_region_held3 (fun w'=>w'.cell? ⟨D,0,none⟩=some (ptr T)∧w'.cell? ⟨D,1,none⟩=some (ptr W)∧w'.cell? ⟨D,2,none⟩=some (ptr E)) (first|with_reducible exact HSC.out|with_reducible exact HS.out _ HR.out|with_reducible exact HS.out _ (HR.out.alloc _)) ((first
  | (go_at_call 106
     with_reducible refine(HK0.out _ HR.out).mono ?_
     rintro e wc ⟨bT,rfl,hfrc,_⟩
     have HR:=Hd (HR.out.trans hfrc)
     have HSC:=Hd (HS.out _ HR.out)
     obtain⟨c0,c1,c2⟩:=HSC.out
     have HWN:=Hd (fun(w':World)(hf:Fr (fun _=>False) wc w')=>HWN.out w' (hfrc.trans hf))
     clear hfrc)
  | (go_at_call 108
     with_reducible refine(HK2.out _ HR.out).mono ?_
     rintro e wc ⟨bE,rfl,hfrc,_⟩
     have HR:=Hd (HR.out.trans hfrc)
     have HSC:=Hd (HS.out _ HR.out)
     obtain⟨c0,c1,c2⟩:=HSC.out
     have HWN:=Hd (fun(w':World)(hf:Fr (fun _=>False) wc w')=>HWN.out w' (hfrc.trans hf))
     clear hfrc)
  | (go_at_call 107
     with_reducible refine(HK1.out _ HR.out).mono ?_
     rintro e wc ⟨bW,rvW,rfl,hfrc,hbW,hAt,hrvW⟩
     have hw0:=HR.out.size
     have HR:=Hd (HR.out.trans hfrc)
     have HSC:=Hd (HS.out _ HR.out)
     obtain⟨c0,c1,c2⟩:=HSC.out
     have HWN:=Hd (show∀w':World,Fr (fun _=>False) wc w'→At w' bW rvW 4096 [] [] 0∧w.heap.size≤bW∧∀k,rvW.ownBlock=some k→w.heap.size≤k from fun w' hf=>⟨hAt.keep hf (fun h=>h) (fun _ _ h=>h),Nat.le_trans hw0 hbW,fun k hk=>Nat.le_trans hw0 (hrvW k hk)⟩)
     clear hfrc hbW hAt hrvW hw0)))
 all_goals go_wp2_with fail
 all_goals go_ret
 all_goals
  have hfa:=(Fr.refl (fun _=>False) wc).alloc (.cells #[ptr bT,ptr bW,ptr bE] 128)
  exact⟨_,_,_,_,rvW,rfl,HR.out.trans hfa,HR.out.size,heap_alloc_new _ _,(HWN.out _ hfa).1,(HWN.out wc (Fr.refl _ _)).2⟩
theorem eraw_calls(D T W E:Nat)(rv v:Value)(b:List UInt8)(w:World)(hd:w.heap[D]? =some (.cells #[ptr T,ptr W,ptr E] 128 (0,0)))(hw:At w W rv 4096 [] [] 0)(hb:Rd w v b)(hap:0<b.length→∀k,v.ownBlock=some k→rv.ownBlock≠some k)(hl:b.length≤1048576):
 Calls Tryz.prog 62 #[ptr D,v] w fun e w'=>e=.returned (.tuple #[])∧Fr (fun k=>k=W∨rv.ownBlock=some k) w w':=by
 have c1:w.cell? ⟨D,1,none⟩=some (ptr W):=cell_in hd rfl
 have HP:=Hd (put_calls W 4096 0 rv v [] [] b w hw hb hap (by simp only[List.length_nil];omega))
 clear hd hw hb hap hl
 go_enter Tryz.func62,Tryz.ntmps62
 go_wp2_with fail
 refine HP.out.mono ?_
 rintro e w2 ⟨rfl,rv',ring',t',hfr,_⟩
 have HF:=Hd hfr
 clear hfr
 go_wp2_with fail
 go_end0
 exact⟨rfl,HF.out⟩
end Enc
end Go.Proofs.YtlgccpjccopdmaaGreatDoor
