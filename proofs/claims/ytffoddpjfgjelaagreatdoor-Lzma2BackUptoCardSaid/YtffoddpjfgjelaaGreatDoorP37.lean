/- Part 37 of 52: lemmas of the last part, each under the conditions that it names. -/
import Derived.Test.YtffoddpjfgjelaaGreatDoorRows
import Derived.Lib.LaidTab
import Derived.Stop.LaidErr
import Derived.Deep.Slices
import Derived.Deep.Fields
import Derived.ChangeSame
import Derived.Test.YtffoddpjfgjelaaGreatDoorP01
import Derived.Test.YtffoddpjfgjelaaGreatDoorP05
import Derived.Test.YtffoddpjfgjelaaGreatDoorP23
import Derived.Test.YtffoddpjfgjelaaGreatDoorP30
import Derived.Test.YtffoddpjfgjelaaGreatDoorP32
set_option linter.unusedVariables false
set_option linter.unusedSimpArgs false
set_option maxRecDepth 1500
set_option maxHeartbeats 4000000
namespace Go.Proofs.YtffoddpjfgjelaaGreatDoor
open Go.RowKit
namespace Cc
open Mem Wire Win Ck Ga
def hcs(l:List Head):List Value:=l.flatMap fun h=>h.cells.toList
theorem hcs_snoc(l:List Head)(h:Head):hcs (l++[h])=hcs l++h.cells.toList:=by simp[hcs]
def Heads(w0 w:World)(v:Value)(l:List Head):Prop:=Own 47 6 w0 w v l.length (hcs l)
theorem head_one(h:Head):∀u ∈ h.cells.toList,u.oneCell'=true:=by
 intro u hu
 simp only[Head.cells,List.mem_cons,List.not_mem_nil,or_false] at hu
 rcases hu with rfl|rfl|rfl|rfl|rfl|rfl<;>rfl
def OutAt(w:World)(Vb:Nat)(v:Value):Prop:=w.heap[Vb]? =some (.cells #[v] 43 (0,0))
structure CAt(w0 w:World)(Vb:Nat)(ov:Value)(hs:List Head):Prop where
 out:OutAt w Vb ov
 own:Heads w0 w ov hs
 low:w0.heap.size≤Vb
 size:w0.heap.size≤w.heap.size
theorem CAt.step{S:Nat→Prop}{w0 w w':World}{Vb:Nat}{ov:Value}{hs:List Head}(h:CAt w0 w Vb ov hs)(hfr:Fr S w w')(hS:∀k cs t fr,w.heap[k]? =some (.cells cs t fr)→(t=43∨t=47)→¬S k):CAt w0 w' Vb ov hs:=by
 refine⟨hfr.keep h.out (hS _ _ _ _ h.out (.inl rfl)),h.own.step hfr (fun k hk=> ?_),h.low,Nat.le_trans h.size hfr.size⟩
 obtain⟨cur,hc⟩:=h.own.block hk
 exact hS _ _ _ _ hc (.inr rfl)
theorem CAt.keep{w0 w w':World}{Vb:Nat}{ov:Value}{hs:List Head}(h:CAt w0 w Vb ov hs)(hfr:Fr (fun _=>False) w w'):CAt w0 w' Vb ov hs:=h.step hfr (fun _ _ _ _ _ _ h=>h)
theorem CAt.fr{w0 w:World}{Vb:Nat}{ov:Value}{hs:List Head}(h:CAt w0 w Vb ov hs):∀k,(k=Vb∨ov.ownBlock=some k)→w0.heap.size≤k:=by
 rintro k (rfl|hk)
 ·exact h.low
 ·exact h.own.new k hk
theorem CAt.off{w0 w:World}{Vb:Nat}{ov:Value}{hs:List Head}(h:CAt w0 w Vb ov hs){k:Nat}{cs:Array Value}{t:TypeId}{fr:Nat×Nat}(hk:w.heap[k]? =some (.cells cs t fr))(h1:t≠43)(h2:t≠47):¬(k=Vb∨ov.ownBlock=some k):=by
 rintro(rfl|h3)
 ·have h4:=h.out
  unfold OutAt at h4
  rw[h4] at hk
  simp only[Option.some.injEq,Obj.cells.injEq] at hk
  exact h1 hk.2.1.symm
 ·exact h.own.off hk h2 h3
theorem chunk1_calls(w0 w:World)(Vb:Nat)(ov pv:Value)(h:Head)(hs:List Head)(hC:CAt w0 w Vb ov hs)(hb:hs.length≤1099511627776):
    Calls Tryz.prog 53 #[.agg h.cells,pv,Lz.ptr Vb] w fun e w'=>e=.returned (.int .i64 0)∧Fr (fun k=>k=Vb∨ov.ownBlock=some k) w w'∧∃ov',CAt w0 w' Vb ov' (hs++[h]):=by
  have hf1:=(Fr.refl (fun _=>False) w).alloc (.cells h.cells 47)
  have hx1:=heap_alloc_new w (.cells h.cells 47)
  have hC1:=hC.keep hf1
  have c0:(w.alloc (.cells h.cells 47)).cell? ⟨Vb,0,none⟩=some ov:=cell_in hC1.out rfl
  have x0:(w.alloc (.cells h.cells 47)).cell? ⟨w.heap.size,0,none⟩=some (.int .i64 h.kind):=cell_in hx1 rfl
  have x1:(w.alloc (.cells h.cells 47)).cell? ⟨w.heap.size,1,none⟩=some (.int .i64 h.size):=cell_in hx1 rfl
  have x2:(w.alloc (.cells h.cells 47)).cell? ⟨w.heap.size,2,none⟩=some (.int .i64 h.packed):=cell_in hx1 rfl
  have x3:(w.alloc (.cells h.cells 47)).cell? ⟨w.heap.size,3,none⟩=some (.int .i64 h.lc):=cell_in hx1 rfl
  have x4:(w.alloc (.cells h.cells 47)).cell? ⟨w.heap.size,4,none⟩=some (.int .i64 h.lp):=cell_in hx1 rfl
  have x5:(w.alloc (.cells h.cells 47)).cell? ⟨w.heap.size,5,none⟩=some (.int .i64 h.pb):=cell_in hx1 rfl
  have hf2:=(Fr.refl (fun _=>False) (w.alloc (.cells h.cells 47))).alloc (.cells h.cells 47)
  have hx2:=heap_alloc_new (w.alloc (.cells h.cells 47)) (.cells h.cells 47)
  rw[World.size_alloc] at hx2
  have HC:=Hd (hC1.keep hf2)
  have HF:=Hd (hf1.trans hf2)
  have HX2:=Hd hx2
  have HONE:=Hd (head_one h)
  have HS:=Hd (hcs_snoc hs h)
  clear hC hf1 hx1 hC1 hf2 hx2
  unfold Head.cells at*
  go_enter Tryz.func53,Tryz.ntmps53
  go_wp2_with (at_builtin
               refine append_own rfl _ _ rfl Tryz.underlying43 infoChunk rfl (by decide) (by decide) (w0:=w0) ov (hcs hs) _ _ rfl rfl HC.out.own HC.out.size HX2.out rfl HONE.out hb ?_
               intro v5 w5 hO5 hfr5 hnew5
               obtain⟨p5,cap5,rfl⟩:=hO5.slice
               have hV5:=hfr5.keep HC.out.out (fun(e:ov.ownBlock=some Vb)=>HC.out.own.off HC.out.out (by decide) e)
               have d0:=cell_in (i:=0) hV5 rfl
               have df:=fun i=>frozen_in hV5 i
               have HV5:=Hd hV5
               have HO5:=Hd hO5
               have HF5:=Hd hfr5
               clear hO5 hfr5 hnew5 hV5)
  go_ret
  have f6:=Fr.one w5 Vb 0 (.slice p5 (hs.length+1) cap5)
  have hsz:=HC.out.size
  refine⟨rfl,((Lz.lift HF.out).trans (HF5.out.mono (fun _ _ h=>.inr h))).trans (f6.mono (fun _ _ h=>.inl h)),.slice p5 (hs.length+1) cap5,⟨set_in HV5.out 0 _,?_,HC.out.low,?_⟩⟩
  · unfold Heads
    rw[HS.out,List.length_append]
    exact HO5.out.step f6 (fun k hk(e:k=Vb)=>HO5.out.off HV5.out (by decide) (e ▸ hk))
  · have:=HF5.out.size
    simp
    omega
theorem readG_succ{σ:Type}(step:σ→Head→List UInt8→Option σ)(b:List UInt8)(packed size:Int)(f:Nat)(s:Sr)(u:σ):readG step b packed size (f+1) s u=
 if s.now=3 then .ok (s.at',u)
 else match nextP b packed size s with
  |.error x=>.error x
  |.ok (h,part,fr,s2)=>match step u h part with
    |none=>.error (fr,2)
    |some u2=>readG step b packed size f s2 u2:=rfl
def ReadPost(w0 w:World)(Vb:Nat)(res:Except (Nat×Nat) (Nat×List Head))(e:Ending)(w':World):Prop:=
 Fr (fun k=>w0.heap.size≤k) w w'∧match res with
  |.error (p,er)=>er≠0∧e=.returned (.tuple #[.int .i64 p,.int .i64 er])
  |.ok (n,u2)=>e=.returned (.tuple #[.int .i64 n,.int .i64 0])∧∃ov2,CAt w0 w' Vb ov2 u2
structure RdL(b:List UInt8)(packed size:Int)(w0 w:World)(Vb Rb Ob:Nat)(bv:Value)(f0:Nat)(u0:List Head)(f:Nat)(wr:World)(s:Sr)(u:List Head)(ov:Value):Prop where
 go:readG hStep b packed size f0 ⟨0,0,0⟩ u0=readG hStep b packed size f s u
 fuel:b.length-s.at'<f
 le:s.at'≤b.length
 now:s.now<4
 row:RowAt wr Rb bv s.at' s.plain packed size Ob
 ord:OrdAt wr Ob s.now
 U:CAt w0 wr Vb ov u
 fr:Fr (fun k=>w0.heap.size≤k) w wr
 rd:Rd wr bv b
 mv:Moves wr
 bp:s.plain≤2097152*s.at'
 bo:u.length≤s.at'
def RdRel(b:List UInt8)(packed size:Int)(w0 w:World)(Vb Rb Ob:Nat)(bv:Value)(f0:Nat)(u0:List Head)(f:Nat)(wr:World):Prop:=∃s u ov,RdL b packed size w0 w Vb Rb Ob bv f0 u0 f wr s u ov
set_option maxRecDepth 100000 in
theorem read_calls(b:List UInt8)(packed size:Int)(w0 w:World)(Vb:Nat)(ov bv:Value)(u:List Head)(hU:CAt w0 w Vb ov u)(hr:Rd w bv b)(hbv:0<b.length→∀k,bv.ownBlock=some k→k<w0.heap.size)(hM:Moves w)(hb:b.length≤16777216)(h5:6≤w0.heap.size)(ho0:u.length=0):
 Calls Tryz.prog 52 #[bv,.int .i64 packed,.int .i64 size,.func (.func 53) #[] #[Lz.ptr Vb]] w (ReadPost w0 w Vb (readG hStep b packed size (b.length+2) ⟨0,0,0⟩ u)):=by
 obtain⟨bp,bc,rfl,hbc1,hbc2,hbc3⟩:=hr
 have hr:Rd w (.slice bp b.length bc) b:=⟨bp,bc,rfl,hbc1,hbc2,hbc3⟩
 clear hbc1 hbc2 hbc3
 obtain⟨res,hres⟩:∃res,res=readG hStep b packed size (b.length+2) ⟨0,0,0⟩ u:=⟨_,rfl⟩
 rw[←hres]
 have HRES:=Hd hres
 have HU:=Hd hU
 have HR:=Hd hr
 have HMV:=Hd hM
 have HBV:=Hd hbv
 have hsz:=hU.size
 clear hres hU hr hM hbv
 go_enter Tryz.func52,Tryz.ntmps52
 go_wp2_with fail
 refine(newOrder_calls _).mono ?_
 rintro e w1 ⟨rfl,hfr1,hO1⟩
 have hf2:=(Fr.refl (fun _=>False) w1).alloc (.cells #[.slice bp b.length bc,.int .i64 0,.int .i64 0,.int .i64 packed,.int .i64 size,.pointer (some ⟨w.heap.size,0,none⟩)] 194)
 have hx2:=heap_alloc_new w1 (.cells #[.slice bp b.length bc,.int .i64 0,.int .i64 0,.int .i64 packed,.int .i64 size,.pointer (some ⟨w.heap.size,0,none⟩)] 194)
 have hs1:=hfr1.size
 have H0:=Hd (show RdRel b packed size w0 w Vb w1.heap.size w.heap.size (.slice bp b.length bc) (b.length+2) u (b.length+2) (w1.alloc (.cells #[.slice bp b.length bc,.int .i64 0,.int .i64 0,.int .i64 packed,.int .i64 size,.pointer (some ⟨w.heap.size,0,none⟩)] 194)) from
  ⟨⟨0,0,0⟩,u,ov,⟨rfl,by simp only;omega,Nat.zero_le _,by decide,hx2,hf2.keep hO1 (fun h=>h),(HU.out.keep hfr1).keep hf2,(hfr1.trans hf2).mono (fun _ _ h=>h.elim),HR.out.keep (hfr1.trans hf2),HMV.out.step (hfr1.trans hf2) (fun _ h=>h.elim),by simp,by omega⟩⟩)
 have hRb:w0.heap.size≤w1.heap.size:=by omega
 have hOb:w0.heap.size≤w.heap.size:=hsz
 clear hfr1 hO1 hf2 hx2
 go_wp2_with fail
 generalize w1.heap.size=Rb at*
 generalize w.heap.size=Ob at*
 go_loopg [11] (b.length+2) (fun f _ wr=>RdRel b packed size w0 w Vb Rb Ob (.slice bp b.length bc) (b.length+2) u f wr)
 case atStart=>exact H0.out
 case round=>
  obtain⟨s,u1,ov1,hL⟩:=hrel
  have HL:=Hd hL
  have c5:wr.cell? ⟨Rb,5,none⟩=some (.pointer (some ⟨Ob,0,none⟩)):=cell_in hL.row rfl
  have c1:wr.cell? ⟨Rb,1,none⟩=some (.int .i64 s.at'):=cell_in hL.row rfl
  have hle:=hL.le
  have hfu:=hL.fuel
  have hnow:=hL.now
  have hbp:=hL.bp
  have hbo:=hL.bo
  obtain⟨f,rfl⟩:∃f,gk=f+1:=⟨gk-1,by omega⟩
  have HEN:=Hd (ended_calls Ob s.now wr hL.ord)
  have HGO:=Hd (hL.go.trans (readG_succ hStep b packed size f s u1))
  have HNX:=Hd (next_calls Rb Ob (.slice bp b.length bc) b packed size s wr hL.row hL.ord hL.rd hL.mv ⟨by omega,by omega⟩ hnow hle (by omega) (by omega))
  clear hL
  by_cases h3:s.now=3
  ·rw[decide_eq_true h3] at HEN
   have HG2:=Hd (HGO.out.trans (if_pos h3))
   clear h3
   go_wp2_with fail
   refine HEN.out.mono ?_
   rintro e w2 ⟨rfl,rfl⟩
   go_wp2_with fail
   go_ret2
   rw[HRES.out,HG2.out]
   exact⟨HL.out.fr,rfl,ov1,HL.out.U⟩
  ·rw[decide_eq_false h3] at HEN
   have HG2:=Hd (HGO.out.trans (if_neg h3))
   clear h3
   unfold NextPost at HNX
   have hnerr:=fun p er=>nextP_err (b:=b) (packed:=packed) (size:=size) (s:=s) (p:=p) (er:=er)
   have hnok:=fun h part fr s2=>nextP_ok (b:=b) (packed:=packed) (size:=size) (s:=s) (s2:=s2) (h:=h) (part:=part) (fr:=fr) hnow hle
   cases hnx:nextP b packed size s with
   |error x=>
     obtain⟨p,er⟩:=x
     have her:=hnerr p er hnx
     rw[hnx] at HNX HG2
     simp only at HNX
     have hne:((er:Int) !=0)=true:=by simp[her]
     have hne2:((er:Int)==0)=false:=by simp[her]
     have HER:=Hd her
     clear hnerr hnok hnx her
     go_wp2_with fail
     refine HEN.out.mono ?_
     rintro e w2 ⟨rfl,rfl⟩
     go_wp2_with fail
     refine HNX.out.mono ?_
     rintro e w2 ⟨hfr2,rfl⟩
     have HF:=Hd (HL.out.fr.trans (hfr2.mono (T:=fun k=>w0.heap.size≤k) (fun i _ hi=>by rcases hi with hi|hi<;>omega)))
     clear hfr2
     unfold Head.none Head.cells
     go_wp2_with fail
     go_ret2
     rw[HRES.out,HG2.out]
     exact⟨HF.out.alloc _,HER.out,rfl⟩
   |ok x=>
     obtain⟨h,part,fr,s2⟩:=x
     have hok:=hnok h part fr s2 hnx
     rw[hnx] at HNX HG2
     simp only at HNX HG2
     have HOK:=Hd hok
     clear hnerr hnok hnx hok
     go_wp2_with fail
     refine HEN.out.mono ?_
     rintro e w2 ⟨rfl,rfl⟩
     go_wp2_with fail
     refine HNX.out.mono ?_
     rintro e w2 ⟨hfr2,q,c,rfl,hrd2,hqb,hrow2,hord2⟩
     have hU2:=HL.out.U.step hfr2 (fun k cs t fr hk ht hS=>by
      rcases hS with hS|hS
      ·have h1:=HL.out.row
       unfold RowAt at h1
       rw[hS,h1] at hk
       simp only[Option.some.injEq,Obj.cells.injEq] at hk
       exact absurd (hk.2.1 ▸ ht) (by decide)
      ·have h1:=HL.out.ord
       unfold OrdAt at h1
       rw[hS,h1] at hk
       simp only[Option.some.injEq,Obj.cells.injEq] at hk
       exact absurd (hk.2.1 ▸ ht) (by decide))
     have hf3:=(Fr.refl (fun _=>False) w2).alloc (.cells h.cells 47)
     have hx3:=heap_alloc_new w2 (.cells h.cells 47)
     have hpl:part.length≤65536:=by have h1:=HOK.out.plen;have h2:=HOK.out.packed;omega
     have hat2:=HOK.out.more
     have hle2:=HOK.out.le
     have hat3:=HOK.out.at2
     have hsz2:=HOK.out.size
     have HU1:=Hd (chunk1_calls w0 (w2.alloc (.cells h.cells 47)) Vb ov1 (.slice q part.length c) h u1 (hU2.keep hf3) (by omega))
     have HF3:=Hd ((HL.out.fr.trans (hfr2.mono (T:=fun k=>w0.heap.size≤k) (fun i _ hi=>by rcases hi with hi|hi<;>omega))).trans (hf3.mono (fun _ _ h=>h.elim)))
     have HROW:=Hd (show RowAt (w2.alloc (.cells h.cells 47)) Rb (.slice bp b.length bc) s2.at' s2.plain packed size Ob from hf3.keep hrow2 (fun h=>h))
     have HORD:=Hd (show OrdAt (w2.alloc (.cells h.cells 47)) Ob s2.now from hf3.keep hord2 (fun h=>h))
     have HU3:=Hd (hU2.keep hf3)
     have hxx:∀i v,h.cells[i]? =some v→(w2.alloc (.cells h.cells 47)).cell? ⟨w2.heap.size,i,none⟩=some v:=fun i v hv=>cell_in hx3 hv
     have x0:=hxx 0 (.int .i64 h.kind) rfl
     have x1:=hxx 1 (.int .i64 h.size) rfl
     have x2:=hxx 2 (.int .i64 h.packed) rfl
     have x3:=hxx 3 (.int .i64 h.lc) rfl
     have x4:=hxx 4 (.int .i64 h.lp) rfl
     have x5:=hxx 5 (.int .i64 h.pb) rfl
     have HPL:=Hd hpl
     clear hfr2 hrd2 hrow2 hord2 hU2 hf3 hx3 hxx hpl
     have HG2:Hid (_=readG hStep b packed size f s2 (u1++[h])):=HG2
     unfold Head.cells at*
     go_wp2_with fail
     refine HU1.out.mono ?_
     rintro e w4 ⟨rfl,hfr4,ov4,hU4⟩
     have HF4:=Hd (HF3.out.trans (hfr4.mono (fun i _ hi=>HU3.out.fr i hi)))
     have HR4:=Hd (hfr4.keep HROW.out (HU3.out.off HROW.out (by decide) (by decide)))
     have HO4:=Hd (hfr4.keep HORD.out (HU3.out.off HORD.out (by decide) (by decide)))
     have HU4:=Hd hU4
     clear hfr4 hU4 x0 x1 x2 x3 x4 x5
     go_wp2_with fail
     go_roundg f
     case rel=>
      refine⟨s2,_,ov4,⟨HG2.out,by omega,by omega,HOK.out.now,HR4.out,HO4.out,HU4.out,HF4.out,rd_step1 HR.out HF4.out (fun h0 k hk hge=> ?_),HMV.out.step HF4.out (fun k hk=>by omega),?_,by rw[List.length_append,List.length_singleton];omega⟩⟩
      ·have:=HBV.out h0 k hk
       omega
      ·have:=HOK.out.plain
       omega
     case measure=>omega
def ChunksPost(w:World)(res:Except (Nat×Nat) (Nat×List Head))(e:Ending)(w':World):Prop:=
 Fr (fun _=>False) w w'∧match res with
  |.error (p,er)=>er≠0∧e=.returned (.tuple #[.slice none 0 0,.int .i64 0,.int .i64 er])
  |.ok (n,hs)=>∃v,e=.returned (.tuple #[v,.int .i64 n,.int .i64 0])∧Heads w w' v hs
theorem chunks_calls(b:List UInt8)(w:World)(bv:Value)(hr:Rd w bv b)(hM:Moves w)(h5:6≤w.heap.size)(hb:b.length≤16777216):
 Calls Tryz.prog 16 #[bv] w (ChunksPost w (readG hStep b (-1) (-1) (b.length+2) ⟨0,0,0⟩ [])):=by
 have hmf:∀(fn:Fn)(first cap:Array Value)(w:World),(Instr.makeFunc fn first cap).run Tryz.prog w=.ok (.func fn first cap) w:=fun _ _ _ _=>rfl
 obtain⟨bp,bc,rfl,hbc1,hbc2,hbc3⟩:=hr
 have hr:Rd w (.slice bp b.length bc) b:=⟨bp,bc,rfl,hbc1,hbc2,hbc3⟩
 clear hbc1 hbc2 hbc3
 have hf1:=(Fr.refl (fun _=>False) w).alloc (.cells #[.slice none 0 0] 43)
 have hx1:=heap_alloc_new w (.cells #[.slice none 0 0] 43)
 have HUC:=Hd (read_calls b (-1) (-1) w _ w.heap.size (.slice none 0 0) (.slice bp b.length bc) [] ⟨hx1,Own.nil _ _ _ _,Nat.le_refl _,hf1.size⟩ (hr.keep hf1) (fun h0 k hk=>rd_lt hr h0 k hk) (hM.step hf1 (fun _ h=>h.elim)) hb h5 rfl)
 have HF1:=Hd hf1
 clear hf1 hx1 hr hM
 unfold ReadPost at HUC
 unfold ChunksPost
 cases hup:readG hStep b (-1) (-1) (b.length+2) ⟨0,0,0⟩ [] with
 |error x=>
   obtain⟨p,er⟩:=x
   rw[hup] at HUC
   simp only at HUC
   clear hup
   go_enter Tryz.func16,Tryz.ntmps16
   go_wp2_with fail
   refine HUC.out.mono ?_
   rintro e w2 ⟨hfr,her,rfl⟩
   have HF:=Hd (HF1.out.trans' hfr (fun i hi(h:w.heap.size≤i)=>by omega))
   have hne:((er:Int) !=0)=true:=by simp[her]
   have HER:=Hd her
   clear hfr her
   go_wp2_with fail
   go_ret3
   exact⟨HF.out,HER.out,rfl⟩
 |ok x=>
   obtain⟨n,hs⟩:=x
   rw[hup] at HUC
   simp only at HUC
   clear hup
   go_enter Tryz.func16,Tryz.ntmps16
   go_wp2_with fail
   refine HUC.out.mono ?_
   rintro e w2 ⟨hfr,rfl,ov,hC⟩
   have HF:=Hd (HF1.out.trans' hfr (fun i hi(h:w.heap.size≤i)=>by omega))
   have c0:=cell_in (i:=0) hC.out rfl
   have HC:=Hd hC
   clear hfr hC
   go_wp2_with fail
   go_ret3
   exact⟨HF.out,_,rfl,HC.out.own⟩
end Cc
namespace Laid
theorem cells_of_grid{H:Type}{enc:TypeId×Value→H}{P:Program}{w:World}{base:Nat}{sp:Nat→Bool}{held:Bool}{fuel:Nat}{t e i:TypeId}{k:IntKind}{cs:List Value}{z0 z1 z2 z3:List Int}{p:List MemPlace}
 (ht:P.underlying t=some (.array 4 e))(he:P.underlying e=some (.array 7 i))(hi:P.underlying i=some (.int k))(hci:P.cellsOf i=1)(hce:P.cellsOf e=7)(hct:P.cellsOf t=28)
 (h:DataW.trod enc P w base sp held fuel t cs=some (.agg [Lib.tabData k z0,Lib.tabData k z1,Lib.tabData k z2,Lib.tabData k z3],p)):cs=(z0++(z1++(z2++z3))).map fun z=>Value.int k z:=by
 cases fuel with
 |zero=>simp[DataW.trod] at h
 |succ fuel=>
   simp only[DataW.trod,ht,hce,hct] at h
   split at h
   ·rename_i hl
    obtain⟨xs,hm,hx⟩:=Option.map_eq_some_iff.1 h
    have hxs:xs.map (·.1)=[Lib.tabData k z0,Lib.tabData k z1,Lib.tabData k z2,Lib.tabData k z3]:=by
     have:=congrArg Prod.fst hx
     simpa using this
    have key:∀j z,[z0,z1,z2,z3][j]? =some z→(cs.drop (j*7)).take 7=z.map fun z=>Value.int k z:=fun j z hz=>by
     have hj:j<4:=by have:=(List.getElem?_eq_some_iff.1 hz).1;simpa using this
     obtain⟨b,hb,hf⟩:=Lib.mapM_at hm j j (by simp[hj])
     have h2:(xs.map (·.1))[j]? =some b.1:=by simp[hb]
     have h3:[Lib.tabData (H:=H) k z0,Lib.tabData k z1,Lib.tabData k z2,Lib.tabData k z3][j]? =some (Lib.tabData k z):=by
      have:[Lib.tabData (H:=H) k z0,Lib.tabData k z1,Lib.tabData k z2,Lib.tabData k z3]=[z0,z1,z2,z3].map (Lib.tabData (H:=H) k):=rfl
      rw[this,List.getElem?_map,hz]
      rfl
     rw[hxs,h3] at h2
     have h4:=Option.some.inj h2
     obtain⟨b1,b2⟩:=b
     simp only at h4
     subst h4
     exact Lib.cells_of_tab he hi hci hce hf
    have k0:=key 0 z0 rfl
    have k1:=key 1 z1 rfl
    have k2:=key 2 z2 rfl
    have k3:=key 3 z3 rfl
    rw[List.map_append,List.map_append,List.map_append,←k0,←k1,←k2,←k3]
    apply List.ext_getElem?
    intro x
    simp only[List.getElem?_append,List.getElem?_take,List.getElem?_drop,List.length_take,List.length_drop,hl]
    repeat' split
    all_goals first|(congr 1;omega)|(rw[List.getElem?_eq_none (by omega)])|omega
   ·cases h
end Laid
end Go.Proofs.YtffoddpjfgjelaaGreatDoor
namespace Go.Proofs.YtffoddpjfgjelaaGreatDoor
namespace Bulk
theorem one_le{H:Type}(d:DataW H):1≤Rows.uptoBulk d:=by
 cases d with
 |lit l=>cases l<;>simp[Rows.uptoBulk]
 |nil=>simp[Rows.uptoBulk]
 |ptr d=>simp[Rows.uptoBulk]
 |slice elems spare=>simp[Rows.uptoBulk]
 |agg parts=>simp[Rows.uptoBulk]
 |iface t d=>simp[Rows.uptoBulk]
 |map es=>simp[Rows.uptoBulk]
 |held h=>simp[Rows.uptoBulk]
theorem part_le{H:Type}{d:DataW H}{l:List (DataW H)}(h:d ∈ l):Rows.uptoBulk d≤Rows.uptoBulkAll l:=by
 induction l with
 |nil=>cases h
 |cons x r ih=>
   simp only[Rows.uptoBulkAll]
   cases List.mem_cons.1 h with
   |inl e=>subst e;omega
   |inr e=>have:=ih e;omega
theorem length_le{H:Type}(l:List (DataW H)):l.length≤Rows.uptoBulkAll l:=by
 induction l with
 |nil=>simp[Rows.uptoBulkAll]
 |cons x r ih=>have:=one_le x;simp only[Rows.uptoBulkAll,List.length_cons];omega
theorem slice_le{H:Type}(elems spare:List (DataW H)):elems.length+spare.length+1≤Rows.uptoBulk (.slice elems spare):=by
 have h1:=length_le elems
 have h2:=length_le spare
 simp only[Rows.uptoBulk]
 omega
theorem bound{H:Type}{l:List (DataW H)}(hk:Rows.uptoSmall H l=true):Rows.uptoBulkAll l≤1048576:=of_decide_eq_true hk
end Bulk
end Go.Proofs.YtffoddpjfgjelaaGreatDoor
namespace Go.Proofs.YtffoddpjfgjelaaGreatDoor
open Go.ChangeShapes Go.WideShapes Go.Deep Go.RowKit
namespace Opened
open Mem
section
variable {H:Type}{enc:TypeId×Value→H}{P:Program}{w:World}{base:Nat}{spare:Nat→Bool}{held:Bool}
theorem trod_int_cell{fuel:Nat}{t:TypeId}{k:IntKind}{v:Value}{x:DataW H×List MemPlace}(ht:P.underlying t=some (.int k))(h:DataW.trod enc P w base spare held fuel t [v]=some x):
 ∃n:Int,v=.int k n∧(Lit.int k n).wf=true:=by
 obtain⟨n,h1,h2,h3⟩:=DataW.trod_int ht h
 exact⟨n,by simpa using h1,h3⟩
end
end Opened
namespace Opened
open Mem
section
variable {H:Type}{enc:TypeId×Value→H}{P:Program}{w:World}{base:Nat}{held:Bool}
theorem open_bytes{t e:TypeId}{fuel:Nat}{v:Value}{x:DataW H×List MemPlace}(ht:P.underlying t=some (.slice e))(he:P.underlying e=some (.int .u8))(hc:P.cellsOf e=1)
 (h:DataW.trod enc P w base (fun _=>true) held fuel t [v]=some x):∃xs:List UInt8,Rd w v xs∧xs.length<Rows.uptoBulk x.1:=by
 rcases open_ints ht he hc h with⟨h0,rfl⟩|⟨a,len,cap,zs,hcs,_,hl,hm,hz,rfl,hcell,hwf⟩
 ·simp only[List.cons.injEq,and_true] at h0
  subst h0
  exact⟨[],Rd.nil w,Bulk.one_le (H:=H) .nil⟩
 ·simp only[List.cons.injEq,and_true] at hcs
  subst hcs
  rw[if_pos rfl] at hz
  have hxl:((zs.take len).map fun z=>UInt8.ofNat z.toNat).length=len:=by rw[List.length_map,List.length_take];omega
  refine⟨(zs.take len).map fun z=>UInt8.ofNat z.toNat,⟨some a,cap,by rw[hxl],by omega,hm,fun h0=> ?_⟩,?_⟩
  ·rw[hxl] at h0
   have hpl:=row_plain (V:=fun i=>.int .u8 (zs.getD i 0)) hcell (by omega)
   refine⟨a.block,a.off,by rw[←hpl],fun i y hy=> ?_⟩
   have hi:i<len:=by have:=(List.getElem?_eq_some_iff.1 hy).1;omega
   have hcc:=hcell i (by omega)
   rw[hpl,add_mid] at hcc
   rw[hcc]
   have hzi:zs[i]? =some (zs[i]'(by omega)):=List.getElem?_eq_getElem (by omega)
   rw[List.getElem?_map,List.getElem?_take,if_pos hi,hzi] at hy
   simp only[Option.map_some,Option.some.injEq] at hy
   have hw:=hwf (zs[i]'(by omega)) (List.getElem_mem _)
   have hb:0≤zs[i]'(by omega)∧zs[i]'(by omega)≤255:=by simpa [Lit.wf,IntKind.min,IntKind.max,IntKind.signed,IntKind.bits] using hw
   subst hy
   simp only[bv,List.getD,hzi,Option.getD_some]
   congr 2
   rw[UInt8.toNat_ofNat']
   omega
  ·rw[hxl]
   have:=Bulk.slice_le (H:=H) (lits .u8 (zs.take len)) (lits .u8 (zs.drop len))
   have hll:(lits (H:=H) .u8 (zs.take len)).length=len:=by simp[lits];omega
   show len<Rows.uptoBulk (DataW.slice (lits (H:=H) .u8 (zs.take len)) (lits .u8 (zs.drop len)))
   omega
end
end Opened
end Go.Proofs.YtffoddpjfgjelaaGreatDoor
