/- Part 22 of 48: lemmas of the last part, each under the conditions that it names. -/
import Derived.Deep.LoopGhost
import Derived.IntWalk
import Derived.Test.YtffoddpjfgjelaaGreatDoorRows
import Derived.LoopN
import Derived.Test.YtffoddpjfgjelaaGreatDoorQ01
import Derived.Test.YtffoddpjfgjelaaGreatDoorQ20
import Derived.Test.YtffoddpjfgjelaaGreatDoorQ21
set_option linter.unusedVariables false
set_option linter.unusedSimpArgs false
set_option maxRecDepth 1500
set_option maxHeartbeats 4000000
namespace Go.Proofs.YtffoddpjfgjelaaGreatDoor
open Go.RowKit
namespace Ck
open Mem Wire Win
def ownedU(t:TypeId):Prop:=t=185∨t=24∨t=118∨Lz.owned t∨t=22∨t=5
instance (t:TypeId):Decidable (ownedU t):=by unfold ownedU;infer_instance
theorem UAt.other{S:Nat→Prop}{w0 w w':World}{dB prB fB Vb:Nat}{l:Lz.L}{ov:Value}{u:US}(h:UAt w0 w dB prB fB Vb l ov u)(hfr:Fr S w w')(hS:∀k cs t fr,w.heap[k]? =some (.cells cs t fr)→ownedU t→¬S k)(h5:∀k,S k→6≤k):UAt w0 w' dB prB fB Vb l ov u:=by
 refine⟨hfr.keep h.d (hS _ _ _ _ h.d (by decide)),hfr.keep h.pr (hS _ _ _ _ h.pr (by decide)),hfr.keep h.f (hS _ _ _ _ h.f (by decide)),h.dec.keep hfr (fun k hk=> ?_),hfr.keep h.out (hS _ _ _ _ h.out (by decide)),h.mine.step hfr (fun k hk=> ?_),h.tabs.step hfr h5,h.low,h.five,h.lows,h.ofs,h.prok,Nat.le_trans h.size hfr.size⟩
 ·rcases hk with rfl|rfl|rfl|hF|⟨j,hj,rfl|rfl⟩
  ·exact hS _ _ _ _ h.dec.d (by decide)
  ·exact hS _ _ _ _ h.dec.tab.box (by decide)
  ·exact hS _ _ _ _ h.dec.win.box (by decide)
  ·obtain⟨cur,hc⟩:=Lz.own_block h.dec.win.own hF
   exact hS _ _ _ _ hc (by decide)
  ·obtain⟨_,_,_,hg,_⟩:=h.dec.tab.set j hj
   exact hS _ _ _ _ hg (by decide)
  ·obtain⟨_,_,hb,_⟩:=h.dec.tab.set j hj
   exact hS _ _ _ _ hb (by decide)
 ·obtain⟨cur,hc⟩:=Lz.own_block h.mine.own hk
  exact hS _ _ _ _ hc (by decide)
theorem ug_off{w0 w:World}{dB prB fB Vb:Nat}{l:Lz.L}{ov:Value}{u:US}(h:UAt w0 w dB prB fB Vb l ov u){k:Nat}{cs:Array Value}{t:TypeId}{fr:Nat×Nat}(hk:w.heap[k]? =some (.cells cs t fr))(ht:¬ownedU t):¬UG prB Vb l ov k:=by
 have h1:¬Lz.owned t:=fun e=>ht (.inr (.inr (.inr (.inl e))))
 have h2:t≠5:=fun e=>ht (.inr (.inr (.inr (.inr (.inr e)))))
 rintro(e|e|e|e)
 ·rw[e,h.pr] at hk
  simp only[Option.some.injEq,Obj.cells.injEq] at hk
  exact ht (.inr (.inl hk.2.1.symm))
 ·have h3:=h.out
  unfold OutAt at h3
  rw[e,h3] at hk
  simp only[Option.some.injEq,Obj.cells.injEq] at hk
  exact ht (.inr (.inr (.inr (.inr (.inl hk.2.1.symm)))))
 ·exact dec_off h.dec hk h1 h2 e
 ·obtain⟨cur,hc⟩:=Lz.own_block h.mine.own e
  rw[hc] at hk
  simp only[Option.some.injEq,Obj.cells.injEq] at hk
  exact h2 hk.2.1.symm
theorem step_grow{w0 w:World}{dB prB fB Vb:Nat}{l:Lz.L}{ov:Value}{u u2:US}(hU:UAt w0 w dB prB fB Vb l ov u){h:Head}{part:List UInt8}(hp:part.length≤65536)(hs:h.size≤2097152)(hok:h.lc+h.lp≤4∧h.pb≤4)(e:u.step h part=some u2):
 u2.out.length≤u.out.length+2097152∧u2.c.all.length≤u.c.all.length+2097152:=by
 have fresh_ok:∀(a b:Nat)(d:Rc.D),Rc.init part=.ok d→(⟨d,false,Lz.fresh a b⟩:Lz.Y).Ok a b:=fun a b d hd=>
  ⟨(Rc.init_ok hd (by omega)).1,fun j hj p hpm=>by
   simp only[Lz.fresh] at hpm
   rw[List.eq_of_mem_replicate hpm]
   decide,fun j _=>Lz.fresh_len a b j⟩
 have take_case:∀(v:US),(∀d,Rc.init part=.ok d→(⟨d,false,v.ps⟩:Lz.Y).Ok v.c.lc v.c.lp)→v.out=u.out→v.c.all.length≤u.c.all.length→v.take part h.size=some u2→u2.out.length≤u.out.length+2097152∧u2.c.all.length≤u.c.all.length+2097152:=by
  intro v hv h1 h2 ht
  unfold US.take at ht
  cases hta:Lz.takeAll v.c v.ps part h.size with
  |none=>rw[hta] at ht;cases ht
  |some r=>
    obtain⟨ls,outs,c2,ps2⟩:=r
    rw[hta] at ht
    simp only[Option.map_some,Option.some.injEq] at ht
    subst ht
    have:=take_len hta hv
    simp only[List.length_append]
    rw[h1]
    omega
 unfold US.step at e
 split at e
 ·simp only[Option.some.injEq] at e
  subst e
  simp only[US.raw,Lz.C.on,List.length_append]
  omega
 ·split at e
  ·simp only[Option.some.injEq] at e
   subst e
   simp only[US.raw,US.clear,Lz.C.on,List.length_append,List.length_nil]
   omega
  ·split at e
   ·exact take_case u (fun d hd=>⟨(Rc.init_ok hd (by omega)).1,fun j hj=>Rc.setAt_ok (hU.dec.tab.set j hj),hU.dec.len⟩) rfl (Nat.le_refl _) e
   ·split at e
    ·exact take_case u.reset (fun d hd=>fresh_ok _ _ d hd) rfl (Nat.le_refl _) e
    ·split at e
     ·exact take_case (u.props h).reset (fun d hd=>fresh_ok _ _ d hd) rfl (Nat.le_refl _) e
     ·exact take_case ((u.clear.props h).reset) (fun d hd=>fresh_ok _ _ d hd) rfl (Nat.zero_le _) e
theorem readP_succ(b:List UInt8)(packed size:Int)(f:Nat)(s:Sr)(u:US):readP b packed size (f+1) s u=
 if s.now=3 then .ok (s.at',u)
 else match nextP b packed size s with
  |.error x=>.error x
  |.ok (h,part,fr,s2)=>match u.step h part with
    |none=>.error (fr,2)
    |some u2=>readP b packed size f s2 u2:=rfl
def ReadPost(w0 w:World)(dB prB fB Vb:Nat)(res:Except (Nat×Nat) (Nat×US))(e:Ending)(w':World):Prop:=
 Fr (fun k=>w0.heap.size≤k) w w'∧match res with
  |.error (p,er)=>er≠0∧e=.returned (.tuple #[.int .i64 p,.int .i64 er])
  |.ok (n,u2)=>e=.returned (.tuple #[.int .i64 n,.int .i64 0])∧∃l2 ov2,UAt w0 w' dB prB fB Vb l2 ov2 u2
structure RdL(b:List UInt8)(packed size:Int)(w0 w:World)(dB prB fB Vb Rb Ob:Nat)(bv:Value)(f0:Nat)(u0:US)(f:Nat)(wr:World)(s:Sr)(u:US)(l:Lz.L)(ov:Value):Prop where
 go:readP b packed size f0 ⟨0,0,0⟩ u0=readP b packed size f s u
 fuel:b.length-s.at'<f
 le:s.at'≤b.length
 now:s.now<4
 row:RowAt wr Rb bv s.at' s.plain packed size Ob
 ord:OrdAt wr Ob s.now
 U:UAt w0 wr dB prB fB Vb l ov u
 fr:Fr (fun k=>w0.heap.size≤k) w wr
 rd:Rd wr bv b
 mv:Moves wr
 bp:s.plain≤2097152*s.at'
 ba:u.c.all.length≤2097152*s.at'
 bo:u.out.length≤2097152*s.at'
def RdRel(b:List UInt8)(packed size:Int)(w0 w:World)(dB prB fB Vb Rb Ob:Nat)(bv:Value)(f0:Nat)(u0:US)(f:Nat)(wr:World):Prop:=∃s u l ov,RdL b packed size w0 w dB prB fB Vb Rb Ob bv f0 u0 f wr s u l ov
set_option maxRecDepth 100000 in
theorem read_calls(b:List UInt8)(packed size:Int)(w0 w:World)(dB prB fB Vb:Nat)(l:Lz.L)(ov bv:Value)(u:US)(hU:UAt w0 w dB prB fB Vb l ov u)(hr:Rd w bv b)(hbv:0<b.length→∀k,bv.ownBlock=some k→k<w0.heap.size)(hM:Moves w)(hb:b.length≤16777216)(ha0:u.c.all.length=0)(ho0:u.out.length=0):
 Calls Tryz.prog 52 #[bv,.int .i64 packed,.int .i64 size,.func (.func 93) #[] #[Lz.ptr dB,Lz.ptr prB,Lz.ptr fB]] w (ReadPost w0 w dB prB fB Vb (readP b packed size (b.length+2) ⟨0,0,0⟩ u)):=by
 obtain⟨bp,bc,rfl,hbc1,hbc2,hbc3⟩:=hr
 have hr:Rd w (.slice bp b.length bc) b:=⟨bp,bc,rfl,hbc1,hbc2,hbc3⟩
 clear hbc1 hbc2 hbc3
 obtain⟨res,hres⟩:∃res,res=readP b packed size (b.length+2) ⟨0,0,0⟩ u:=⟨_,rfl⟩
 rw[←hres]
 have HRES:=Hd hres
 have HU:=Hd hU
 have HR:=Hd hr
 have HMV:=Hd hM
 have HBV:=Hd hbv
 have hsz:=hU.size
 have h5:=hU.five
 clear hres hU hr hM hbv
 go_enter Tryz.func52,Tryz.ntmps52
 go_wp2_with fail
 refine(newOrder_calls _).mono ?_
 rintro e w1 ⟨rfl,hfr1,hO1⟩
 have hf2:=(R0 w1).alloc (.cells #[.slice bp b.length bc,.int .i64 0,.int .i64 0,.int .i64 packed,.int .i64 size,.pointer (some ⟨w.heap.size,0,none⟩)] 194)
 have hx2:=heap_alloc_new w1 (.cells #[.slice bp b.length bc,.int .i64 0,.int .i64 0,.int .i64 packed,.int .i64 size,.pointer (some ⟨w.heap.size,0,none⟩)] 194)
 have hs1:=hfr1.size
 have H0:=Hd (show RdRel b packed size w0 w dB prB fB Vb w1.heap.size w.heap.size (.slice bp b.length bc) (b.length+2) u (b.length+2) (w1.alloc (.cells #[.slice bp b.length bc,.int .i64 0,.int .i64 0,.int .i64 packed,.int .i64 size,.pointer (some ⟨w.heap.size,0,none⟩)] 194)) from
  ⟨⟨0,0,0⟩,u,l,ov,⟨rfl,by simp only;omega,Nat.zero_le _,by decide,hx2,hf2.keep hO1 (fun h=>h),(HU.out.keep hfr1).keep hf2,(hfr1.trans hf2).mono (fun _ _ h=>h.elim),HR.out.keep (hfr1.trans hf2),HMV.out.step (hfr1.trans hf2) (fun _ h=>h.elim),by simp,by omega,by omega⟩⟩)
 have hRb:w0.heap.size≤w1.heap.size:=by omega
 have hOb:w0.heap.size≤w.heap.size:=hsz
 clear hfr1 hO1 hf2 hx2
 go_wp2_with fail
 generalize w1.heap.size=Rb at*
 generalize w.heap.size=Ob at*
 go_loopg [11] (b.length+2) (fun f _ wr=>RdRel b packed size w0 w dB prB fB Vb Rb Ob (.slice bp b.length bc) (b.length+2) u f wr)
 case atStart=>exact H0.out
 case round=>
  obtain⟨s,u1,l1,ov1,hL⟩:=hrel
  have HL:=Hd hL
  have c5:wr.cell? ⟨Rb,5,none⟩=some (.pointer (some ⟨Ob,0,none⟩)):=cell_in hL.row rfl
  have c1:wr.cell? ⟨Rb,1,none⟩=some (.int .i64 s.at'):=cell_in hL.row rfl
  have hle:=hL.le
  have hfu:=hL.fuel
  have hnow:=hL.now
  have hbp:=hL.bp
  have hba:=hL.ba
  have hbo:=hL.bo
  obtain⟨f,rfl⟩:∃f,gk=f+1:=⟨gk-1,by omega⟩
  have HEN:=Hd (ended_calls Ob s.now wr hL.ord)
  have HGO:=Hd (hL.go.trans (readP_succ b packed size f s u1))
  have HNX:=Hd (next_calls Rb Ob (.slice bp b.length bc) b packed size s wr hL.row hL.ord hL.rd hL.mv ⟨by omega,by omega⟩ hnow hle (by omega) (by omega))
  clear hL
  by_cases h3:s.now=3
  ·rw[decide_eq_true h3] at HEN
   have HG2:=Hd (HGO.out.trans (if_pos h3))
   clear h3
   go_wp2_with fail
   refine HEN.out.mono ?_
   rintro e w2 ⟨rfl,rfl⟩
   go_wp2_with fail
   go_ret2
   rw[HRES.out,HG2.out]
   exact⟨HL.out.fr,rfl,l1,ov1,HL.out.U⟩
  ·rw[decide_eq_false h3] at HEN
   have HG2:=Hd (HGO.out.trans (if_neg h3))
   clear h3
   unfold NextPost at HNX
   have hnerr:=fun p er=>nextP_err (b:=b) (packed:=packed) (size:=size) (s:=s) (p:=p) (er:=er)
   have hnok:=fun h part fr s2=>nextP_ok (b:=b) (packed:=packed) (size:=size) (s:=s) (s2:=s2) (h:=h) (part:=part) (fr:=fr) hnow hle
   cases hnx:nextP b packed size s with
   |error x=>
     obtain⟨p,er⟩:=x
     have her:=hnerr p er hnx
     rw[hnx] at HNX HG2
     simp only at HNX
     have hne:((er:Int) !=0)=true:=by simp[her]
     have hne2:((er:Int)==0)=false:=by simp[her]
     have HER:=Hd her
     clear hnerr hnok hnx her
     go_wp2_with fail
     refine HEN.out.mono ?_
     rintro e w2 ⟨rfl,rfl⟩
     go_wp2_with fail
     refine HNX.out.mono ?_
     rintro e w2 ⟨hfr2,rfl⟩
     have HF:=Hd (HL.out.fr.trans (hfr2.mono (T:=fun k=>w0.heap.size≤k) (fun i _ hi=>by rcases hi with hi|hi<;>omega)))
     clear hfr2
     unfold Head.none Head.cells
     go_wp2_with fail
     go_ret2
     rw[HRES.out,HG2.out]
     exact⟨HF.out.alloc _,HER.out,rfl⟩
   |ok x=>
     obtain⟨h,part,fr,s2⟩:=x
     have hok:=hnok h part fr s2 hnx
     rw[hnx] at HNX HG2
     simp only at HNX HG2
     have HOK:=Hd hok
     clear hnerr hnok hnx hok
     go_wp2_with fail
     refine HEN.out.mono ?_
     rintro e w2 ⟨rfl,rfl⟩
     go_wp2_with fail
     refine HNX.out.mono ?_
     rintro e w2 ⟨hfr2,q,c,rfl,hrd2,hqb,hrow2,hord2⟩
     have hU2:=HL.out.U.other hfr2 (fun k cs t fr hk ht hS=>by
      rcases hS with hS|hS
      ·have h1:=HL.out.row
       unfold RowAt at h1
       rw[hS,h1] at hk
       simp only[Option.some.injEq,Obj.cells.injEq] at hk
       exact absurd (hk.2.1 ▸ ht) (by decide)
      ·have h1:=HL.out.ord
       unfold OrdAt at h1
       rw[hS,h1] at hk
       simp only[Option.some.injEq,Obj.cells.injEq] at hk
       exact absurd (hk.2.1 ▸ ht) (by decide)) (fun k hS=>by rcases hS with hS|hS<;>omega)
     have hf3:=(R0 w2).alloc (.cells h.cells 47)
     have hx3:=heap_alloc_new w2 (.cells h.cells 47)
     have hpl:part.length≤65536:=by have h1:=HOK.out.plen;have h2:=HOK.out.packed;omega
     have hat2:=HOK.out.more
     have hle2:=HOK.out.le
     have hat3:=HOK.out.at2
     have hsz2:=HOK.out.size
     have HU1:=Hd (unpack1_calls w0 _ dB prB fB Vb l1 ov1 u1 (hU2.keep hf3) h HOK.out.kind part (.slice q part.length c) (hrd2.keep hf3) (fun h0 k hk=>by
      have h1:=hqb k hk
      refine HBV.out (by omega) k h1) HOK.out.props (fun h3=>⟨HOK.out.one h3,HOK.out.size⟩) (by omega) (by omega) (by omega))
     have HGROW:=Hd (fun u2 e=>step_grow hU2 (u2:=u2) hpl hsz2 HOK.out.props e)
     have HF3:=Hd ((HL.out.fr.trans (hfr2.mono (T:=fun k=>w0.heap.size≤k) (fun i _ hi=>by rcases hi with hi|hi<;>omega))).trans (hf3.mono (fun _ _ h=>h.elim)))
     have HROW:=Hd (show RowAt (w2.alloc (.cells h.cells 47)) Rb (.slice bp b.length bc) s2.at' s2.plain packed size Ob from hf3.keep hrow2 (fun h=>h))
     have HORD:=Hd (show OrdAt (w2.alloc (.cells h.cells 47)) Ob s2.now from hf3.keep hord2 (fun h=>h))
     have HU3:=Hd (hU2.keep hf3)
     have hxx:∀i v,h.cells[i]? =some v→(w2.alloc (.cells h.cells 47)).cell? ⟨w2.heap.size,i,none⟩=some v:=fun i v hv=>cell_in hx3 hv
     have x0:=hxx 0 (.int .i64 h.kind) rfl
     have x1:=hxx 1 (.int .i64 h.size) rfl
     have x2:=hxx 2 (.int .i64 h.packed) rfl
     have x3:=hxx 3 (.int .i64 h.lc) rfl
     have x4:=hxx 4 (.int .i64 h.lp) rfl
     have x5:=hxx 5 (.int .i64 h.pb) rfl
     have HPL:=Hd hpl
     clear hfr2 hrd2 hrow2 hord2 hU2 hf3 hx3 hxx hpl
     unfold UPost at HU1
     cases hst:u1.step h part with
     |none=>
       rw[hst] at HU1 HG2
       simp only at HU1 HG2
       clear hst HGROW
       unfold Head.cells at*
       go_wp2_with fail
       refine HU1.out.mono ?_
       rintro e w4 ⟨hfr4,rfl⟩
       have HF4:=Hd (HF3.out.trans (hfr4.mono (fun i _ hi=>UG_low HU3.out i hi)))
       clear hfr4
       go_wp2_with fail
       go_ret2
       rw[HRES.out,HG2.out]
       exact⟨HF4.out,by decide,rfl⟩
     |some u2=>
       have hgr:=HGROW.out u2 hst
       rw[hst] at HU1 HG2
       simp only at HU1 HG2
       clear hst HGROW
       unfold Head.cells at*
       go_wp2_with fail
       refine HU1.out.mono ?_
       rintro e w4 ⟨hfr4,rfl,l4,ov4,hU4,_,_⟩
       have HF4:=Hd (HF3.out.trans (hfr4.mono (fun i _ hi=>UG_low HU3.out i hi)))
       have HR4:=Hd (hfr4.keep HROW.out (ug_off HU3.out HROW.out (by decide)))
       have HO4:=Hd (hfr4.keep HORD.out (ug_off HU3.out HORD.out (by decide)))
       have HU4:=Hd hU4
       clear hfr4 hU4 x0 x1 x2 x3 x4 x5
       go_wp2_with fail
       go_roundg f
       case rel=>
        refine⟨s2,u2,l4,ov4,⟨HG2.out,by omega,by omega,HOK.out.now,HR4.out,HO4.out,HU4.out,HF4.out,rd_step1 HR.out HF4.out (fun h0 k hk hge=> ?_),HMV.out.step HF4.out (fun k hk=>by omega),?_,by omega,by omega⟩⟩
        ·have:=HBV.out h0 k hk
         omega
        ·have:=HOK.out.plain
         omega
       case measure=>omega
end Ck
namespace Ck
open Mem Wire Win
def US.start(dict:Nat):US:=⟨⟨0,0,0,St.S.new,dict,[]⟩,Lz.fresh 0 0,(0,0,0),[]⟩
def unpackP(b:List UInt8)(dict packed size:Int):Except (Nat×Nat) (Nat×List UInt8):=
 if dict<1∨4294967295<dict∨packed< -1∨size< -1 then .error (0,7)
 else match readP b packed size (b.length+2) ⟨0,0,0⟩ (US.start dict.toNat) with
  |.error x=>.error x
  |.ok (n,u)=>.ok (n,u.out)
def UnpackPost(w0 w:World)(Vb:Nat)(res:Except (Nat×Nat) (Nat×List UInt8))(e:Ending)(w':World):Prop:=
 Fr (fun k=>w0.heap.size≤k) w w'∧match res with
  |.error (p,er)=>er≠0∧e=.returned (.tuple #[.int .i64 p,.int .i64 er])
  |.ok (n,out)=>e=.returned (.tuple #[.int .i64 n,.int .i64 0])∧∃ov,OutAt w' Vb ov∧Mine w0 w' ov out
set_option maxRecDepth 100000 in
theorem unpack_calls(b:List UInt8)(dict packed size:Int)(w0 w:World)(Vb:Nat)(bv:Value)(hO:OutAt w Vb (.slice none 0 0))(hV:w0.heap.size≤Vb)(h0:w0.heap.size≤w.heap.size)(hT:St.Tabs w)(hT0:6≤w0.heap.size)(hr:Rd w bv b)(hbv:0<b.length→∀k,bv.ownBlock=some k→k<w0.heap.size)(hM:Moves w)(hb:b.length≤16777216):
 Calls Tryz.prog 50 #[bv,.int .i64 dict,.int .i64 packed,.int .i64 size,.func (.func 51) #[] #[Lz.ptr Vb]] w (UnpackPost w0 w Vb (unpackP b dict packed size)):=by
 have hmf:∀(fn:Fn)(first cap:Array Value)(w:World),(Instr.makeFunc fn first cap).run Tryz.prog w=.ok (.func fn first cap) w:=fun _ _ _ _=>rfl
 obtain⟨res,hres⟩:∃res,res=unpackP b dict packed size:=⟨_,rfl⟩
 rw[←hres]
 unfold unpackP at hres
 obtain⟨bp,bc,rfl,hbc1,hbc2,hbc3⟩:=hr
 have hr:Rd w (.slice bp b.length bc) b:=⟨bp,bc,rfl,hbc1,hbc2,hbc3⟩
 clear hbc1 hbc2 hbc3
 have hf1:=(R0 w).alloc (.cells #[.func (.func 51) #[] #[Lz.ptr Vb]] 118)
 have hx1:=heap_alloc_new w (.cells #[.func (.func 51) #[] #[Lz.ptr Vb]] 118)
 have HF1:=Hd hf1
 have HX1:=Hd hx1
 have HR:=Hd hr
 have HO:=Hd hO
 have HT:=Hd hT
 have HM:=Hd hM
 have HRES:=Hd hres
 have HBV:=Hd hbv
 clear hf1 hx1 hr hO hT hM hres hbv
 by_cases hd:dict<1∨4294967295<dict
 ·have HN:=fun W=>Hd (Lz.dnew_out dict W hd)
  have HRE:=Hd (HRES.out.trans (if_pos (by rcases hd with h|h;exact .inl h;exact .inr (.inl h))))
  clear hd
  go_enter Tryz.func50,Tryz.ntmps50
  go_wp2_with fail
  refine(HN _).out.mono ?_
  rintro e w2 ⟨hfr,rfl⟩
  have HF:=Hd (HF1.out.trans hfr)
  clear hfr
  go_wp2_with fail
  go_ret2
  rw[HRE.out]
  exact⟨(HF.out.alloc _).mono (fun _ _ h=>h.elim),by decide,rfl⟩
 ·obtain⟨dn,rfl⟩:∃dn:Nat,dict=dn:=⟨dict.toNat,by omega⟩
  have HN:=fun W=>Hd (Lz.dnew_in dn W (by omega) (by omega))
  go_enter Tryz.func50,Tryz.ntmps50
  go_wp2_with fail
  refine(HN _).out.mono ?_
  rintro e w2 ⟨hfr,l,rfl,hdec,hlow⟩
  have hf3:=(R0 w2).alloc (.cells #[Lz.ptr l.D] 185)
  have hx3:=heap_alloc_new w2 (.cells #[Lz.ptr l.D] 185)
  have hs1:=HF1.out.size
  have hs2:=hfr.size
  have HF:=Hd ((HF1.out.trans hfr).trans hf3)
  by_cases hpk:packed< -1
  ·have HRE:=Hd (HRES.out.trans (if_pos (.inr (.inr (.inl hpk)))))
   clear hfr hdec hlow hf3 hx3
   go_wp2_with fail
   go_ret2
   rw[HRE.out]
   exact⟨HF.out.mono (fun _ _ h=>h.elim),by decide,rfl⟩
  ·by_cases hsz:size< -1
   ·have HRE:=Hd (HRES.out.trans (if_pos (.inr (.inr (.inr hsz)))))
    clear hfr hdec hlow hf3 hx3
    go_wp2_with fail
    go_ret2
    rw[HRE.out]
    exact⟨HF.out.mono (fun _ _ h=>h.elim),by decide,rfl⟩
   ·have HRE:=Hd (HRES.out.trans (if_neg (show¬((dn:Int)<1∨4294967295<(dn:Int)∨packed< -1∨size< -1) from fun h=>by
     rcases h with h|h|h|h
     ·exact hd (.inl h)
     ·exact hd (.inr h)
     ·exact hpk h
     ·exact hsz h)))
    rw[Int.toNat_natCast] at HRE
    have hf4:=(R0 (w2.alloc (.cells #[Lz.ptr l.D] 185))).alloc (.cells #[.int .i64 0,.int .i64 0,.int .i64 0] 24)
    have hx4:=heap_alloc_new (w2.alloc (.cells #[Lz.ptr l.D] 185)) (.cells #[.int .i64 0,.int .i64 0,.int .i64 0] 24)
    simp only[World.size_alloc] at hx4 hs1 hs2 hlow
    have hf14:=(HF.out).trans hf4
    have hU:UAt w0 ((w2.alloc (.cells #[Lz.ptr l.D] 185)).alloc (.cells #[.int .i64 0,.int .i64 0,.int .i64 0] 24)) w2.heap.size (w2.heap.size+1) w.heap.size Vb l (.slice none 0 0) (US.start dn):=by
     refine⟨hf4.keep hx3 (fun h=>h),hx4,hf4.keep (hf3.keep (hfr.keep HX1.out (fun h=>h)) (fun h=>h)) (fun h=>h),(hdec.keep0 hf3).keep0 hf4,hf14.keep HO.out (fun h=>h),Mine.nil _ _,HT.out.keep hf14,fun k hk=> ?_,hT0,⟨by omega,by omega,h0,hV⟩,fun k hk=>by simp[Value.ownBlock] at hk,by simp[US.start],Nat.le_trans h0 hf14.size⟩
     have:=hlow k hk
     omega
    have HRC:=Hd (read_calls b packed size w0 _ w2.heap.size (w2.heap.size+1) w.heap.size Vb l (.slice none 0 0) (.slice bp b.length bc) (US.start dn) hU (HR.out.keep hf14) HBV.out (HM.out.step hf14 (fun _ h=>h.elim)) hb rfl rfl)
    have HF14:=Hd hf14
    clear hfr hdec hlow hf3 hx3 hf4 hx4 hf14 hU
    unfold ReadPost at HRC
    cases hrp:readP b packed size (b.length+2) ⟨0,0,0⟩ (US.start dn) with
    |error x=>
      obtain⟨p,er⟩:=x
      rw[hrp] at HRC HRE
      simp only at HRC HRE
      clear hrp
      go_wp2_with fail
      refine HRC.out.mono ?_
      rintro e w5 ⟨hfr5,her,rfl⟩
      have HF5:=Hd ((HF14.out.mono (T:=fun k=>w0.heap.size≤k) (fun _ _ h=>h.elim)).trans hfr5)
      have HER:=Hd her
      clear hfr5 her
      go_wp2_with fail
      go_ret2
      rw[HRE.out]
      exact⟨HF5.out,HER.out,rfl⟩
    |ok x=>
      obtain⟨n,u2⟩:=x
      rw[hrp] at HRC HRE
      simp only at HRC HRE
      clear hrp
      go_wp2_with fail
      refine HRC.out.mono ?_
      rintro e w5 ⟨hfr5,rfl,l2,ov2,hU2⟩
      have HF5:=Hd ((HF14.out.mono (T:=fun k=>w0.heap.size≤k) (fun _ _ h=>h.elim)).trans hfr5)
      have HU2:=Hd hU2
      clear hfr5 hU2
      go_wp2_with fail
      go_ret2
      rw[HRE.out]
      exact⟨HF5.out,rfl,ov2,HU2.out.out,HU2.out.mine⟩
def DecodePost(w:World)(res:Except (Nat×Nat) (Nat×List UInt8))(e:Ending)(w':World):Prop:=
 Fr (fun _=>False) w w'∧match res with
  |.error (p,er)=>er≠0∧e=.returned (.tuple #[.slice none 0 0,.int .i64 p,.int .i64 er])
  |.ok (n,out)=>∃v,e=.returned (.tuple #[v,.int .i64 n,.int .i64 0])∧Mine w w' v out
set_option maxRecDepth 100000 in
theorem decode_calls(b:List UInt8)(dict packed size:Int)(w:World)(bv:Value)(hT:St.Tabs w)(hr:Rd w bv b)(hM:Moves w)(hb:b.length≤16777216):
 Calls Tryz.prog 15 #[bv,.int .i64 dict,.int .i64 packed,.int .i64 size] w (DecodePost w (unpackP b dict packed size)):=by
 have hmf:∀(fn:Fn)(first cap:Array Value)(w:World),(Instr.makeFunc fn first cap).run Tryz.prog w=.ok (.func fn first cap) w:=fun _ _ _ _=>rfl
 obtain⟨bp,bc,rfl,hbc1,hbc2,hbc3⟩:=hr
 have hr:Rd w (.slice bp b.length bc) b:=⟨bp,bc,rfl,hbc1,hbc2,hbc3⟩
 clear hbc1 hbc2 hbc3
 have hf1:=(R0 w).alloc (.cells #[.slice none 0 0] 22)
 have hx1:=heap_alloc_new w (.cells #[.slice none 0 0] 22)
 have HUC:=Hd (unpack_calls b dict packed size w _ w.heap.size (.slice bp b.length bc) hx1 (Nat.le_refl _) hf1.size (hT.keep hf1) hT.size (hr.keep hf1) (fun h0 k hk=>rd_lt hr h0 k hk) (hM.step hf1 (fun _ h=>h.elim)) hb)
 have HF1:=Hd hf1
 clear hf1 hx1 hT hr hM
 unfold UnpackPost at HUC
 unfold DecodePost
 cases hup:unpackP b dict packed size with
 |error x=>
   obtain⟨p,er⟩:=x
   rw[hup] at HUC
   simp only at HUC
   clear hup
   go_enter Tryz.func15,Tryz.ntmps15
   go_wp2_with fail
   refine HUC.out.mono ?_
   rintro e w2 ⟨hfr,her,rfl⟩
   have HF:=Hd (HF1.out.trans' hfr (fun i hi(h:w.heap.size≤i)=>by omega))
   have hne:((er:Int) !=0)=true:=by simp[her]
   have HER:=Hd her
   clear hfr her
   go_wp2_with fail
   go_ret3
   exact⟨HF.out,HER.out,rfl⟩
 |ok x=>
   obtain⟨n,out⟩:=x
   rw[hup] at HUC
   simp only at HUC
   clear hup
   go_enter Tryz.func15,Tryz.ntmps15
   go_wp2_with fail
   refine HUC.out.mono ?_
   rintro e w2 ⟨hfr,rfl,ov,hO,hM⟩
   have HF:=Hd (HF1.out.trans' hfr (fun i hi(h:w.heap.size≤i)=>by omega))
   have c0:=cell_in (i:=0) hO rfl
   have HM:=Hd hM
   clear hfr hO hM
   go_wp2_with fail
   go_ret3
   exact⟨HF.out,_,rfl,HM.out⟩
end Ck
end Go.Proofs.YtffoddpjfgjelaaGreatDoor
namespace Go.Proofs.YtffoddpjfgjelaaGreatDoor
namespace Vi
def vsize(v:Nat):Nat:=
 if v<128 then 1 else if v<16384 then 2 else if v<2097152 then 3 else if v<268435456 then 4 else if v<34359738368 then 5 else if v<4398046511104 then 6
 else if v<562949953421312 then 7 else if v<72057594037927936 then 8 else if v<9223372036854775808 then 9 else 0
theorem p128:(128:Nat)^0=1∧(128:Nat)^1=128∧(128:Nat)^2=16384∧(128:Nat)^3=2097152∧(128:Nat)^4=268435456∧(128:Nat)^5=34359738368∧(128:Nat)^6=4398046511104∧
 (128:Nat)^7=562949953421312∧(128:Nat)^8=72057594037927936∧(128:Nat)^9=9223372036854775808:=by decide
theorem vsize_spec(v:Nat)(h:v<9223372036854775808):∃k,vsize v=k+1∧k≤8∧(k=0∨128^k≤v)∧v<128^(k+1):=by
 unfold vsize
 obtain⟨_,h1,h2,h3,h4,h5,h6,h7,h8,h9⟩:=p128
 split
 ·exact⟨0,rfl,by omega,.inl rfl,by omega⟩
 split
 ·exact⟨1,rfl,by omega,.inr (by omega),by omega⟩
 split
 ·exact⟨2,rfl,by omega,.inr (by omega),by omega⟩
 split
 ·exact⟨3,rfl,by omega,.inr (by omega),by omega⟩
 split
 ·exact⟨4,rfl,by omega,.inr (by omega),by omega⟩
 split
 ·exact⟨5,rfl,by omega,.inr (by omega),by omega⟩
 split
 ·exact⟨6,rfl,by omega,.inr (by omega),by omega⟩
 split
 ·exact⟨7,rfl,by omega,.inr (by omega),by omega⟩
 exact⟨8,rfl,by omega,.inr (by omega),by omega⟩
def vb(n v j:Nat):UInt8:=UInt8.ofNat (if j+1<n then v/128^j%128+128 else v/128^j%128)
def vput(v:Nat):List UInt8:=(List.range (vsize v)).map (vb (vsize v) v)
theorem vput_length(v:Nat):(vput v).length=vsize v:=by simp[vput]
theorem toNat_ofNat(n:Nat)(h:n<256):(UInt8.ofNat n).toNat=n:=by
 rw[UInt8.toNat_ofNat'];exact Nat.mod_eq_of_lt h
end Vi
end Go.Proofs.YtffoddpjfgjelaaGreatDoor
namespace Go.Proofs.YtffoddpjfgjelaaGreatDoor
open Go.RowKit
namespace Vi
open Mem
def boundsRow:Array Value:=#[.int .u64 128,.int .u64 16384,.int .u64 2097152,.int .u64 268435456,.int .u64 34359738368,.int .u64 4398046511104,.int .u64 562949953421312,.int .u64 72057594037927936,.int .u64 9223372036854775808]
def Tab(w:World):Prop:=∃T fr,w.heap[0]? =some (.cells boundsRow T fr)
set_option maxRecDepth 100000 in
theorem table_at(b0 b1 b2 b3 b4 b5 b6 b7 b8:Int):(∀w,(Instr.index 294 (.agg #[.int .u64 b0,.int .u64 b1,.int .u64 b2,.int .u64 b3,.int .u64 b4,.int .u64 b5,.int .u64 b6,.int .u64 b7,.int .u64 b8]) (.int .i64 0)).run Tryz.prog w=.ok (.int .u64 b0) w)∧(∀w,(Instr.index 294 (.agg #[.int .u64 b0,.int .u64 b1,.int .u64 b2,.int .u64 b3,.int .u64 b4,.int .u64 b5,.int .u64 b6,.int .u64 b7,.int .u64 b8]) (.int .i64 1)).run Tryz.prog w=.ok (.int .u64 b1) w)∧(∀w,(Instr.index 294 (.agg #[.int .u64 b0,.int .u64 b1,.int .u64 b2,.int .u64 b3,.int .u64 b4,.int .u64 b5,.int .u64 b6,.int .u64 b7,.int .u64 b8]) (.int .i64 2)).run Tryz.prog w=.ok (.int .u64 b2) w)∧(∀w,(Instr.index 294 (.agg #[.int .u64 b0,.int .u64 b1,.int .u64 b2,.int .u64 b3,.int .u64 b4,.int .u64 b5,.int .u64 b6,.int .u64 b7,.int .u64 b8]) (.int .i64 3)).run Tryz.prog w=.ok (.int .u64 b3) w)∧(∀w,(Instr.index 294 (.agg #[.int .u64 b0,.int .u64 b1,.int .u64 b2,.int .u64 b3,.int .u64 b4,.int .u64 b5,.int .u64 b6,.int .u64 b7,.int .u64 b8]) (.int .i64 4)).run Tryz.prog w=.ok (.int .u64 b4) w)∧(∀w,(Instr.index 294 (.agg #[.int .u64 b0,.int .u64 b1,.int .u64 b2,.int .u64 b3,.int .u64 b4,.int .u64 b5,.int .u64 b6,.int .u64 b7,.int .u64 b8]) (.int .i64 5)).run Tryz.prog w=.ok (.int .u64 b5) w)∧(∀w,(Instr.index 294 (.agg #[.int .u64 b0,.int .u64 b1,.int .u64 b2,.int .u64 b3,.int .u64 b4,.int .u64 b5,.int .u64 b6,.int .u64 b7,.int .u64 b8]) (.int .i64 6)).run Tryz.prog w=.ok (.int .u64 b6) w)∧(∀w,(Instr.index 294 (.agg #[.int .u64 b0,.int .u64 b1,.int .u64 b2,.int .u64 b3,.int .u64 b4,.int .u64 b5,.int .u64 b6,.int .u64 b7,.int .u64 b8]) (.int .i64 7)).run Tryz.prog w=.ok (.int .u64 b7) w)∧(∀w,(Instr.index 294 (.agg #[.int .u64 b0,.int .u64 b1,.int .u64 b2,.int .u64 b3,.int .u64 b4,.int .u64 b5,.int .u64 b6,.int .u64 b7,.int .u64 b8]) (.int .i64 8)).run Tryz.prog w=.ok (.int .u64 b8) w):=by
 refine⟨?_,?_,?_,?_,?_,?_,?_,?_,?_⟩
 all_goals exact fun _=>by kernel_rfl
def sizeBy(v b0 b1 b2 b3 b4 b5 b6 b7 b8:Int):Int:=if v<b0 then 1 else if v<b1 then 2 else if v<b2 then 3 else if v<b3 then 4 else if v<b4 then 5 else if v<b5 then 6 else if v<b6 then 7 else if v<b7 then 8 else if v<b8 then 9 else 0
set_option maxRecDepth 100000 in
theorem size_by(v b0 b1 b2 b3 b4 b5 b6 b7 b8:Int)(w:World)(c0:w.cell? ⟨0,0,none⟩=some (.int .u64 b0))(c1:w.cell? ⟨0,1,none⟩=some (.int .u64 b1))(c2:w.cell? ⟨0,2,none⟩=some (.int .u64 b2))(c3:w.cell? ⟨0,3,none⟩=some (.int .u64 b3))(c4:w.cell? ⟨0,4,none⟩=some (.int .u64 b4))(c5:w.cell? ⟨0,5,none⟩=some (.int .u64 b5))(c6:w.cell? ⟨0,6,none⟩=some (.int .u64 b6))(c7:w.cell? ⟨0,7,none⟩=some (.int .u64 b7))(c8:w.cell? ⟨0,8,none⟩=some (.int .u64 b8)):
 Calls Tryz.prog 111 #[.int .u64 v] w fun e w'=>e=.returned (.int .i64 (sizeBy v b0 b1 b2 b3 b4 b5 b6 b7 b8))∧w=w':=by
 obtain⟨x0,x1,x2,x3,x4,x5,x6,x7,x8⟩:=table_at b0 b1 b2 b3 b4 b5 b6 b7 b8
 go_enter Tryz.func111,Tryz.ntmps111
 go_wp2_with fail
 refine wp_loop_rounds 10 ?_
 repeat any_goals(rw[rounds_succ];go_wp2)
 all_goals go_ret
 all_goals refine⟨ret_int ?_,rfl⟩
 all_goals unfold sizeBy
 all_goals repeat(first|rw[if_pos (by omega)]|rw[if_neg (by omega)])
def natBy(v b0 b1 b2 b3 b4 b5 b6 b7 b8:Nat):Nat:=if v<b0 then 1 else if v<b1 then 2 else if v<b2 then 3 else if v<b3 then 4 else if v<b4 then 5 else if v<b5 then 6 else if v<b6 then 7 else if v<b7 then 8 else if v<b8 then 9 else 0
theorem ite_cast(v b k y:Nat)(x:Int)(h:x=y):(if(v:Int)<b then(k:Int) else x)=((if v<b then k else y:Nat):Int):=by
 subst h
 split<;>split<;>omega
theorem natBy_eq(v b0 b1 b2 b3 b4 b5 b6 b7 b8:Nat):sizeBy v b0 b1 b2 b3 b4 b5 b6 b7 b8=natBy v b0 b1 b2 b3 b4 b5 b6 b7 b8:=by
 unfold sizeBy natBy
 exact(ite_cast _ _ 1 _ _ (ite_cast _ _ 2 _ _ (ite_cast _ _ 3 _ _ (ite_cast _ _ 4 _ _ (ite_cast _ _ 5 _ _ (ite_cast _ _ 6 _ _ (ite_cast _ _ 7 _ _ (ite_cast _ _ 8 _ _ (ite_cast _ _ 9 _ _ rfl)))))))))
theorem vsize_by(v:Nat):sizeBy v 128 16384 2097152 268435456 34359738368 4398046511104 562949953421312 72057594037927936 9223372036854775808=vsize v:=by
 have:=natBy_eq v 128 16384 2097152 268435456 34359738368 4398046511104 562949953421312 72057594037927936 9223372036854775808
 simp only[Int.cast_ofNat_Int] at this
 exact this
theorem size_calls(v:Nat)(w:World)(hT:Tab w):
 Calls Tryz.prog 111 #[.int .u64 v] w fun e w'=>e=.returned (.int .i64 (vsize v))∧w=w':=by
 obtain⟨T,fr,hT⟩:=hT
 rw[←vsize_by]
 exact size_by v _ _ _ _ _ _ _ _ _ w (cell_in (i:=0) hT rfl) (cell_in (i:=1) hT rfl) (cell_in (i:=2) hT rfl) (cell_in (i:=3) hT rfl) (cell_in (i:=4) hT rfl) (cell_in (i:=5) hT rfl) (cell_in (i:=6) hT rfl) (cell_in (i:=7) hT rfl) (cell_in (i:=8) hT rfl)
end Vi
namespace Vi
open Mem
theorem infoByte:(Tryz.prog.info? 5).map (fun i=>(i.zero,i.size,i.bytes))=some (some (.int .u8 0),1,1):=by kernel_rfl
theorem make_bytes(n:Nat)(h:n≤281474976710656)(W:World):
 (Instr.makeSlice 22 (.int .i64 n) (.int .i64 n)).run Tryz.prog W=.ok (.slice (some ⟨W.heap.size,0,none⟩) n n) (W.alloc (.cells (Array.replicate n (.int .u8 0)) 5)):=by
 obtain⟨i,hi,hz,hs,hb⟩:=info_parts infoByte
 have:=run_make (P:=Tryz.prog) W 22 5 i (.int .u8 0) Tryz.underlying22 hi hz .i64 .i64 n n (by omega) (by omega) (by rw[hb];omega) (by omega)
 rw[this,hs,Int.toNat_natCast,Nat.mul_one]
 have e:madeCells (Value.int .u8 0).cells n=Array.replicate n (Value.int .u8 0):=by
  apply Array.ext
  ·simp[madeCells]
  ·intro k h1 h2
   simp[madeCells,Value.cells,Nat.mod_one]
 rw[e]
def putCell(V k j:Nat):Value:=if j<k then .int .u8 ((V/128^j%128+128:Nat):Int) else .int .u8 0
def putRow(V n k:Nat):Array Value:=((List.range n).map (putCell V k)).toArray
theorem putRow_zero(V n:Nat):Array.replicate n (.int .u8 0)=putRow V n 0:=by
 rw[range_zero];unfold putRow;congr 1
theorem putRow_step(V n k:Nat):(putRow V n k).setIfInBounds k (.int .u8 ((V/128^k%128+128:Nat):Int))=putRow V n (k+1):=by
 unfold putRow
 rw[set_range]
 congr 2
 funext j
 unfold putCell
 by_cases h:j=k
 ·subst h;rw[if_pos rfl,if_pos (by omega)]
 ·rw[if_neg h]
  by_cases h2:j<k
  ·rw[if_pos h2,if_pos (by omega)]
  ·rw[if_neg h2,if_neg (by omega)]
theorem putRow_last(V m:Nat):(putRow V (m+1) (m+1)).setIfInBounds m (.int .u8 ((V/128^m%128:Nat):Int))=(bvs ((List.range (m+1)).map (vb (m+1) V))).toArray:=by
 unfold putRow bvs
 rw[set_range,List.map_map]
 congr 1
 apply List.map_congr_left
 intro j hj
 have hj':=List.mem_range.1 hj
 have hlt:V/128^j%128<128:=Nat.mod_lt _ (by omega)
 simp only[Function.comp]
 unfold putCell bv vb
 by_cases h:j=m
 ·subst h;rw[if_pos rfl,if_neg (by omega),toNat_ofNat _ (by omega)]
 ·rw[if_neg h,if_pos hj',if_pos (by omega),toNat_ofNat _ (by omega)]
theorem byte_or(x:Nat):bits BinOp.or IntKind.u8 ((x:Int)%256) 128=((x%128+128:Nat):Int):=by
 have h:=or_128 (x%256) (Nat.mod_lt _ (by omega))
 rw[show((x%256:Nat):Int)=(x:Int)%256 by omega] at h
 rw[h]
 omega
set_option maxRecDepth 100000 in
theorem put_in(V:Nat)(w:World)(hT:Tab w)(hv:V<9223372036854775808):
 Calls Tryz.prog 62 #[.int .u64 V] w fun e w'=>∃v,e=.returned (.tuple #[v,.int .i64 0])∧Fr (fun _=>False) w w'∧NewB 5 w w' v (vput V):=by
 obtain⟨m,hm,hm8,_,hm2⟩:=vsize_spec V hv
 have hmk:=make_bytes (m+1) (by omega)
 have hs:=size_calls V w hT
 rw[hm] at hs
 have hvput:vput V=(List.range (m+1)).map (vb (m+1) V):=by unfold vput;rw[hm]
 have HS:=Hd hs
 have HV:=Hd hvput
 have hz:(((m+1:Nat):Int)==0)=false:=by simp;omega
 clear hm hm2 hs hvput hT
 generalize hn:m+1=n at*
 have HN:=Hd hn
 have hn1:1≤n:=by omega
 have hn9:n≤9:=by omega
 clear hn
 go_enter Tryz.func62,Tryz.ntmps62
 go_wp2_with fail
 refine HS.out.mono ?_
 rintro e w' ⟨rfl,rfl⟩
 go_wp2_with fail
 go_loopw [0,6,15](fun x _ i wr=>∃k:Nat,k≤n∧i=.int .i64 k∧x=.int .u64 ((V/128^k:Nat):Int)∧Fr (fun _=>False) w wr∧wr.heap[w.heap.size]? =some (.cells (putRow V n k) 5 (0,0))) (fun _ _ i _=>n-(intOf i).toNat)
 case atStart=>exact⟨0,by omega,rfl,by simp,(Fr.refl _ _).alloc _,by rw[heap_alloc_new,putRow_zero V n]⟩
 case round=>
  obtain⟨k,hk,rfl,rfl,hfr,hg⟩:=hrel
  have hf:=frozen_in hg k
  have HG:=Hd hg
  clear hg
  by_cases hlt:k<n
  ·have hc:=cell_in HG.out (range_at n k (putCell V k) hlt)
   have hdiv:V/128^k/128=V/128^(k+1):=by rw[Nat.div_div_eq_div_mul,Nat.pow_succ]
   have hor:=byte_or (V/128^k)
   have HD:=Hd hdiv
   have HO:=Hd hor
   have hbd:V/128^k≤V:=Nat.div_le_self _ _
   clear hdiv hor
   have hstep:=putRow_step V n k
   have HST:=Hd hstep
   clear hstep
   have hfx:V/128^k<18446744073709551616:=by omega
   generalize V/128^k=x at*
   generalize putCell V k k=y at*
   clear hv hbd
   go_wp2_with fail
   go_roundw
   case rel=>exact⟨k+1,by omega,by go_num,congrArg (Value.int .u64) (by rw[←HD.out];omega),hfr.setCell (.inr (Nat.le_refl _)) _,by rw[HO.out,set_in HG.out,HST.out]⟩
   case measure=>simp[intOf];omega
  ·obtain rfl:k=n:=by omega
   have hidx:((k:Int)-1).toNat=k-1:=by omega
   have hb:V/128^(k-1)%128<128:=Nat.mod_lt _ (by omega)
   have hc:=cell_in HG.out (range_at k (k-1) (putCell V k) (by omega))
   have hpc:putCell V k (k-1)=.int .u8 ((V/128^(k-1)%128+128:Nat):Int):=by unfold putCell;rw[if_pos (by omega)]
   rw[hpc] at hc
   have hf2:=frozen_in HG.out (k-1)
   have han:=andNot_128 (V/128^(k-1)%128+128) (by omega)
   rw[show(V/128^(k-1)%128+128)%128=V/128^(k-1)%128 by omega] at han
   have hlast:=putRow_last V (k-1)
   rw[show k-1+1=k by omega] at hlast
   have HA:=Hd han
   have HL:=Hd hlast
   clear hpc han hlast hf hidx hv
   generalize V/128^(k-1)%128=y at*
   go_wp2_with fail
   go_ret2
   have e1:bits BinOp.andNot IntKind.u8 ((y:Int)+128) 128=(y:Int):=by have:=HA.out;simpa using this
   have hg2:=set_in HG.out (k-1) (.int .u8 (y:Int))
   rw[HL.out,←HV.out] at hg2
   refine⟨_,rfl,hfr.setCell (.inr (Nat.le_refl _)) _,⟨?_,fun j hj=>by simp[Value.ownBlock] at hj;omega⟩⟩
   have hlen:(bvs (vput V)).length=k:=by rw[bvs_length,HV.out];simp
   rw[bvs_length] at hlen
   rw[hlen,e1]
   exact own_row hg2 (by rw[bvs_length];exact hlen) (by simp only[maxLen];omega)
end Vi
namespace Vi
open Mem
end Vi
end Go.Proofs.YtffoddpjfgjelaaGreatDoor
