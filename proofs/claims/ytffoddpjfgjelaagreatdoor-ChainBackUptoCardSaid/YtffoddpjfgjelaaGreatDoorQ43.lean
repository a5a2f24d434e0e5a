/- Part 43 of 48: lemmas of the last part, each under the conditions that it names. -/
import Derived.Deep.RegionHeld3
import Derived.StillTailTactics
import Derived.Test.YtffoddpjfgjelaaGreatDoorQ04
import Derived.Test.YtffoddpjfgjelaaGreatDoorQ15
import Derived.Test.YtffoddpjfgjelaaGreatDoorQ28
import Derived.Test.YtffoddpjfgjelaaGreatDoorQ32
import Derived.Test.YtffoddpjfgjelaaGreatDoorQ33
import Derived.Test.YtffoddpjfgjelaaGreatDoorQ42
set_option linter.unusedVariables false
set_option linter.unusedSimpArgs false
set_option maxRecDepth 1500
set_option maxHeartbeats 8000000
namespace Go.Proofs.YtffoddpjfgjelaaGreatDoor
open Go.RowKit
namespace En
open Mem Rc Win Lz St
structure XLow(l:XL):Prop where
 T:6≤l.T
 W:6≤l.W
 E:6≤l.E
 g:∀j,j<18→6≤l.g j
 v:∀k,l.v.ownBlock=some k→6≤k
 rv:∀k,l.rv.ownBlock=some k→6≤k
def XG(l:XL)(k:Nat):Prop:=XF l k∨k=l.W∨l.rv.ownBlock=some k∨k=l.T
theorem XLow.g5{l:XL}(h:XLow l):∀k,XG l k→6≤k:=by
 rintro k (((rfl|e)|⟨j,hj,rfl⟩)|rfl|e|rfl)
 ·exact h.E
 ·exact h.v k e
 ·exact h.g j hj
 ·exact h.W
 ·exact h.rv k e
 ·exact h.T
structure XPut(l:XL)(w:World)(x:Xe)(w':World):Prop where
 fr:Fr (XG l) w w'
 at':∃v' rv' ring' t',XAt w' {l with v:=v',rv:=rv',ring:=ring',t:=t'} x∧XSep {l with v:=v',rv:=rv',ring:=ring',t:=t'}∧(∀k,v'.ownBlock=some k→l.v.ownBlock=some k∨w.heap.size≤k)∧(∀k,rv'.ownBlock=some k→l.rv.ownBlock=some k∨w.heap.size≤k)
theorem done_new{w W2 wx wy:World}{B size g:Nat}{rv v:Value}{all bytes:List UInt8}(hF:Fr (fun _=>False) w W2)(h:Done W2 B size rv all bytes v wx)(hch:Fr (fun k=>k=g) wx wy)(hg0:w.heap.size≤g)(hg1:g<W2.heap.size∨wx.heap.size≤g)(hB:B<w.heap.size)(hrv:∀k,rv.ownBlock=some k→k<w.heap.size):Done w B size rv all bytes v wy:=by
 rcases hg1 with hg1|hg1
 ·exact h.fin hF hch hg0 hg1 hB hrv
 ·obtain⟨h1,h2,rv',ring',t',h3,h4,h5⟩:=h
  have hs:=hF.size
  refine⟨((hF.mono (fun _ _ h=>h.elim)).trans h1).trans' hch (fun i hi(e:i=g)=>by omega),⟨(h2.step hch (fun k hk(e:k=g)=>by have:=(World.ownsRow.lt h2.own k hk).2;omega)).own,fun k hk=>Nat.le_trans hs (h2.new k hk)⟩,rv',ring',t',h3.keep hch (fun(e:B=g)=>by omega) (fun k hk(e:k=g)=> ?_),fun k hk=>(h4 k hk).imp id (Nat.le_trans hs),h5⟩
  have:=(World.ownsRow.lt h3.own k hk).2
  omega
theorem lif{S:Nat→Prop}{w w':World}(h:Fr (fun _=>False) w w'):Fr S w w':=h.mono (fun _ _ h=>h.elim)
set_option maxRecDepth 100000 in
theorem eput_calls{w:World}{l:XL}{x:Xe}(h:XAt w l x)(hp:XSep l)(hlow:XLow l)(hT:Tabs w)(z:Sz)(hb:z.byte<256)(hz:z.Fine)(hs:x.e.k.s≤1099511610000)(hm:x.c.all.length≤1152921504606846000):
 Calls Tryz.prog 74 #[ptr l.D,.agg z.cells] w fun e w'=>e=.returned (.int .i64 (applyZ x.c.size x.c.all x.c.s z).1)∧(if(applyZ x.c.size x.c.all x.c.s z).1=0 then XPut l w (x.put z.sy) w' else Fr (fun _=>False) w w'):=by
 have hbx:=heap_alloc_new w (.cells z.cells 110)
 have hf0:=(R0 w).alloc (.cells z.cells 110)
 have hMAY:=fun W(hW:Fr (fun _=>False) w W)=>may_calls (h.keep hW) (hT.keep hW) z hb hz
 have hCODE:=fun(hz:z.bad=0) W(hW:Fr (fun _=>False) w W)=>code_calls (h.keep hW) hp z hz hb hs
 have hAP:=fun W v'(hA:XAt W {l with v:=v'} (x.ops (symOps x.c z.sy)))(hTW:Tabs W)=>apply_any l.W x.c.size l.t l.rv x.c.all l.ring x.c.s h.ok.c.s z hb hz W hTW hA.win hm
 have hbad:(applyZ x.c.size x.c.all x.c.s z).1=0→z.bad=0:=by
  intro h0
  unfold applyZ at h0
  by_cases hz:z.bad=0
  ·exact hz
  ·rw[if_neg hz] at h0
   exact h0
 have hput:z.bad=0→x.put z.sy=⟨(x.c.on (applyZ x.c.size x.c.all x.c.s z).2.1).to (applyZ x.c.size x.c.all x.c.s z).2.2,x.e.run (symOps x.c z.sy)⟩:=by
  intro hz
  unfold applyZ
  rw[if_pos hz]
  rfl
 have hsok:(applyZ x.c.size x.c.all x.c.s z).1=0→(applyZ x.c.size x.c.all x.c.s z).2.2.Ok:=by
  intro h0
  have hz:=hbad h0
  unfold applyZ at h0 ⊢
  rw[if_pos hz] at h0 ⊢
  exact apply_ok h0 h.ok.c.s
 generalize hyy:x.put z.sy=xp at*
 generalize applyZ x.c.size x.c.all x.c.s z=ap at*
 obtain⟨er,bytes,st⟩:=ap
 obtain⟨sn,sr0,sr1,sr2,sr3⟩:=st
 obtain⟨kind,byte,len,dist,hzc⟩:∃(k:Int)(b:Nat)(n d:Int),z.cells=#[.int .i64 k,.int .u8 b,.int .i64 n,.int .i64 d]:=⟨_,_,_,_,rfl⟩
 simp only[hzc,S.cells] at hMAY hCODE hAP hbx hf0 hput hbad hsok ⊢
 have HMAY:=fun W hW=>Hd (hMAY W hW)
 have HCODE:=fun hz W hW=>Hd (hCODE hz W hW)
 have HAP:=fun W v' hA hTW=>Hd (hAP W v' hA hTW)
 have HBAD:=Hd hbad
 have HPUT:=Hd hput
 have HSOK:=Hd hsok
 have HX:=Hd hbx
 have HF0:=Hd hf0
 have HA0:=Hd h
 have HT:=Hd hT
 have HLOW:=Hd hlow
 clear hMAY hCODE hAP hbad hput hsok hbx hf0 h hT hlow hzc
 go_enter Tryz.func74,Tryz.ntmps74
 go_wp2_with fail
 generalize w.alloc (.cells #[.int .i64 kind,.int .u8 byte,.int .i64 len,.int .i64 dist] 110)=wb at*
 generalize hb0:w.heap.size=b0 at*
 have HB0:=Hd hb0
 clear hb0
 obtain⟨z0,z1,z2,z3⟩:=cs4 HX.out rfl rfl rfl rfl
 go_wp2_with fail
 refine(HMAY _ HF0.out).out.mono ?_
 rintro e w1 ⟨rfl,hfr⟩
 have HX1:=Hd (hfr.keep HX.out (fun h=>h))
 have HF1:=Hd (HF0.out.trans hfr)
 clear hfr z0 z1 z2 z3 HX HF0 HMAY
 by_cases her:er=0
 ·subst her
  have hz:=HBAD.out rfl
  have HA1:=Hd (HA0.out.keep HF1.out)
  obtain⟨z0,z1,z2,z3⟩:=cs4 HX1.out rfl rfl rfl rfl
  have k2:=cell_in (i:=2) HA1.out.d rfl
  go_wp2_with fail
  go_still_tail 8,(by kernel_rfl)
  go_wp2_with fail
  refine(HCODE hz _ HF1.out.drew).out.mono ?_
  rintro e w2 ⟨rfl,hq⟩
  have hx2:=(HA1.out.keep (R0 w1).drew).off ((R0 w1).drew.keep HX1.out (fun h=>h)) (by decide) (by decide) (by decide)
  obtain⟨f2,v2,a2,s2,n2⟩:=hq
  have HX2:=Hd (f2.keep ((R0 w1).drew.keep HX1.out (fun h=>h)) hx2)
  have HF2:=Hd ((lif (S:=XF l) HF1.out.drew).trans f2)
  have HA2:=Hd a2
  have HS2:=Hd s2
  have HN2:=Hd (show∀k,v2.ownBlock=some k→l.v.ownBlock=some k∨w.heap.size≤k from fun k hk=>(n2 k hk).imp id (fun h=>Nat.le_trans HF1.out.drew.size h))
  have HT2:=Hd (HT.out.step HF2.out (fun k hk=>HLOW.out.g5 k (.inl hk)))
  clear hx2 f2 a2 s2 n2 z0 z1 z2 z3 k2 HCODE HA1 HX1
  have hoff:∀{k:Nat}{cs:Array Value}{t:TypeId}{fr:Nat×Nat},w2.heap[k]? =some (.cells cs t fr)→t≠210→t≠5→¬(k=l.W∨l.rv.ownBlock=some k∨w2.heap.size≤k):=by
   intro k cs t fr hk h1 h2 h3
   rcases h3 with h3|h3|h3
   ·have hb:=HA2.out.win.box
    simp only at hb
    rw[h3,hb] at hk
    simp only[Option.some.injEq,Obj.cells.injEq] at hk
    exact h1 hk.2.1.symm
   ·obtain⟨cur,hc⟩:=own_block HA2.out.win.own h3
    rw[hc] at hk
    simp only[Option.some.injEq,Obj.cells.injEq] at hk
    exact h2 hk.2.1.symm
   ·have:=lt_of_block hk
    omega
  have HKEEP:=Hd (show∀w':World,Fr (fun k=>k=l.W∨l.rv.ownBlock=some k∨w2.heap.size≤k) w2 w'→w'.cell? ⟨l.D,0,none⟩=some (ptr l.T)∧w'.cell? ⟨l.D,1,none⟩=some (ptr l.W)∧w'.cell? ⟨l.T,3,none⟩=some (.int .i64 x.c.s.num)∧w'.cell? ⟨l.T,4,none⟩=some (.int .i64 x.c.s.r0)∧w'.cell? ⟨l.T,5,none⟩=some (.int .i64 x.c.s.r1)∧w'.cell? ⟨l.T,6,none⟩=some (.int .i64 x.c.s.r2)∧w'.cell? ⟨l.T,7,none⟩=some (.int .i64 x.c.s.r3)∧
   w'.cell? ⟨b0,0,none⟩=some (.int .i64 kind)∧w'.cell? ⟨b0,1,none⟩=some (.int .u8 byte)∧w'.cell? ⟨b0,2,none⟩=some (.int .i64 len)∧w'.cell? ⟨b0,3,none⟩=some (.int .i64 dist) from fun w' hf=>by
   have hd:=hf.keep HA2.out.d (hoff HA2.out.d (by decide) (by decide))
   have ht:=hf.keep HA2.out.tab.box (hoff HA2.out.tab.box (by decide) (by decide))
   have hz:=hf.keep HX2.out (hoff HX2.out (by decide) (by decide))
   exact⟨cell_in hd rfl,cell_in hd rfl,cell_in ht rfl,cell_in ht rfl,cell_in ht rfl,cell_in ht rfl,cell_in ht rfl,cell_in hz rfl,cell_in hz rfl,cell_in hz rfl,cell_in hz rfl⟩)
  have HNEW:=Hd (show∀k,w2.heap.size≤k→¬(k=l.W∨l.rv.ownBlock=some k) from fun k hk h3=>by
   rcases h3 with h3|h3
   ·have h4:=lt_of_block HA2.out.win.box
    simp only at h4
    omega
   ·have:=(World.ownsRow.lt HA2.out.win.own k h3).2
    omega)
  clear hoff
  have HAP2:=fun W(hW:Fr (fun _=>False) w2 W)=>HAP W v2 (HA2.out.keep hW) (HT2.out.keep hW)
  clear HAP
  have FC:=Hd (Fr.refl (fun k=>k=l.W∨l.rv.ownBlock=some k∨w2.heap.size≤k) w2).drew
  have HSC:=Hd (HKEEP.out _ FC.out)
  have tt:=HSC.out
  obtain⟨t0,t1,t2,t3,t4,t5,t6,t7,t8,t9,t10⟩:=tt
  go_wp2_with fail
  go_cut [7,8] (fun s7 s8 wx=>∃zs v wc,s7=.pointer (some ⟨zs,0,none⟩)∧s8=.int .i64 0∧w2.heap.size≤zs∧wx.heap[zs]? =some (.cells #[.int .i64 sn,.int .i64 sr0,.int .i64 sr1,.int .i64 sr2,.int .i64 sr3] 84 (0,0))∧(∃wa,Fr (fun _=>False) w2 wa∧Done wa l.W x.c.size l.rv x.c.all bytes v wc∧(zs<wa.heap.size∨wc.heap.size≤zs))∧Fr (fun k=>k=zs) wc wx)
  case first=>
   go_region_held3 (fun w'=>w'.cell? ⟨l.D,0,none⟩=some (ptr l.T)∧w'.cell? ⟨l.D,1,none⟩=some (ptr l.W)∧w'.cell? ⟨l.T,3,none⟩=some (.int .i64 x.c.s.num)∧w'.cell? ⟨l.T,4,none⟩=some (.int .i64 x.c.s.r0)∧w'.cell? ⟨l.T,5,none⟩=some (.int .i64 x.c.s.r1)∧w'.cell? ⟨l.T,6,none⟩=some (.int .i64 x.c.s.r2)∧w'.cell? ⟨l.T,7,none⟩=some (.int .i64 x.c.s.r3)∧
    w'.cell? ⟨b0,0,none⟩=some (.int .i64 kind)∧w'.cell? ⟨b0,1,none⟩=some (.int .u8 byte)∧w'.cell? ⟨b0,2,none⟩=some (.int .i64 len)∧w'.cell? ⟨b0,3,none⟩=some (.int .i64 dist))
    (first|with_reducible exact HSC.out|(refine HKEEP.out _ ?_;(repeat refine Fr.setCell ?_ (.inl (.inr (.inr (by first|exact FC.out.size|exact HY.out)))) _);first|exact FC.out|exact FC.out.alloc _)) ((first
    | (go_at_call 133
       first
        | (refine (HAP2 _ (Fr.refl _ _).drew).out.mono ?_
           rintro e wc ⟨v,rfl,hdone⟩
           have FC:=Hd (FC.out.trans (hdone.fr.mono (fun i _ hi=>by rcases hi with hi|hi;exact .inl hi;exact .inr (.inl hi))))
           have HSC:=Hd (HKEEP.out _ FC.out)
           have tt:=HSC.out
           obtain⟨t0,t1,t2,t3,t4,t5,t6,t7,t8,t9,t10⟩:=tt
           have HDONE:=Hd hdone
           clear hdone)
        | (refine (HAP2 _ ((Fr.refl _ _).drew.alloc _)).out.mono ?_
           rintro e wc ⟨v,rfl,hdone⟩
           have HY:=Hd FC.out.size
           have FC:=Hd ((FC.out.alloc _).trans (hdone.fr.mono (fun i _ hi=>by rcases hi with hi|hi;exact .inl hi;exact .inr (.inl hi))))
           have HSC:=Hd (HKEEP.out _ FC.out)
           have tt:=HSC.out
           obtain⟨t0,t1,t2,t3,t4,t5,t6,t7,t8,t9,t10⟩:=tt
           have hz:=hdone.fr.keep (heap_alloc_new _ _) (HNEW.out _ (by simp))
           try simp only[World.size_drew] at hz
           obtain⟨s0,s1,s2,s3,s4,sf⟩:=cf5 hz rfl rfl rfl rfl rfl
           have HSZ:=Hd hz
           clear hz
           have HDONE:=Hd hdone
           clear hdone))))
   ·go_wp2_with fail
    go_meet
    exact⟨_,v,wc,rfl,rfl,FC.out.size,heap_alloc_new wc _,⟨_,(Fr.refl _ _).drew,HDONE.out,.inr (Nat.le_refl _)⟩,(Fr.refl _ _).alloc _⟩
   ·go_wp2_with fail
    go_meet
    exact⟨_,v,wc,rfl,rfl,by simp,set_in (set_in (set_in (set_in (set_in HSZ.out 0 (.int .i64 sn)) 1 (.int .i64 sr0)) 2 (.int .i64 sr1)) 3 (.int .i64 sr2)) 4 (.int .i64 sr3),⟨_,(Fr.refl _ _).drew.alloc _,HDONE.out,.inl (by simp)⟩,((((Fr.one _ _ _ _).trans (Fr.one _ _ _ _)).trans (Fr.one _ _ _ _)).trans (Fr.one _ _ _ _)).trans (Fr.one _ _ _ _)⟩
  case rest=>
   obtain⟨zs,v3,wd,rfl,rfl,hzs,hzx,⟨wa,hwa,hdo,hor⟩,hfx⟩:=hcut
   have hdone:=done_new hwa hdo hfx hzs hor (lt_of_block HA2.out.win.box) (fun k hk=>(World.ownsRow.lt HA2.out.win.own k hk).2)
   obtain⟨rv',ring',t',a3,s3,n3⟩:=HA2.out.applied HS2.out hdone
   have HF3:=Hd hdone.fr
   have HA3:=Hd a3
   have HS3:=Hd s3
   have HN3:=Hd n3
   have HZX:=Hd hzx
   have hTz:zs≠l.T:=by
    rintro rfl
    have h1:=HA3.out.tab.box
    simp only at h1
    rw[HZX.out] at h1
    simp at h1
   have hTD:l.D≠l.T:=by
    intro e
    have h1:=HA3.out.tab.box
    have h2:=HA3.out.d
    simp only at h1 h2
    rw[e,h1] at h2
    simp at h2
   have HK2:=Hd (show∀w':World,Fr (fun k=>k=l.T) wc w'→w'.cell? ⟨l.D,0,none⟩=some (ptr l.T)∧w'.cell? ⟨zs,0,none⟩=some (.int .i64 sn)∧w'.cell? ⟨zs,1,none⟩=some (.int .i64 sr0)∧w'.cell? ⟨zs,2,none⟩=some (.int .i64 sr1)∧w'.cell? ⟨zs,3,none⟩=some (.int .i64 sr2)∧w'.cell? ⟨zs,4,none⟩=some (.int .i64 sr3) from fun w' hf=>by
    have hd:=hf.keep HA3.out.d hTD
    have hz:=hf.keep HZX.out hTz
    exact⟨cell_in hd rfl,cell_in hz rfl,cell_in hz rfl,cell_in hz rfl,cell_in hz rfl,cell_in hz rfl⟩)
   clear hdo hwa hor hfx hdone a3 s3 n3 hzx t0 t1 t2 t3 t4 t5 t6 t7 t8 t9 t10 HSC FC HAP2 HKEEP HNEW
   have HSC:=Hd (HK2.out wc.drew (lif (R0 wc).drew))
   have ss:=HSC.out
   obtain⟨s0,s1,s2,s3,s4,s5⟩:=ss
   have tb:=HA3.out.tab.box
   simp only at tb
   have q3:=cell_in (i:=3) tb rfl
   have q4:=cell_in (i:=4) tb rfl
   have q5:=cell_in (i:=5) tb rfl
   have q6:=cell_in (i:=6) tb rfl
   have q7:=cell_in (i:=7) tb rfl
   have qf:=fun i=>frozen_in tb i
   have HTB:=Hd tb
   clear tb
   go_wp2_with fail
   go_region_held3 (fun w'=>w'.cell? ⟨l.D,0,none⟩=some (ptr l.T)∧w'.cell? ⟨zs,0,none⟩=some (.int .i64 sn)∧w'.cell? ⟨zs,1,none⟩=some (.int .i64 sr0)∧w'.cell? ⟨zs,2,none⟩=some (.int .i64 sr1)∧w'.cell? ⟨zs,3,none⟩=some (.int .i64 sr2)∧w'.cell? ⟨zs,4,none⟩=some (.int .i64 sr3))
    (first|with_reducible exact HSC.out|(refine HK2.out _ ?_;refine Fr.drew ?_;(repeat refine Fr.setCell ?_ (.inl (by simp)) _);exact Fr.refl _ _)) (fail)
   have hb7:=set_in (set_in (set_in (set_in (set_in HTB.out 3 (.int .i64 sn)) 4 (.int .i64 sr0)) 5 (.int .i64 sr1)) 6 (.int .i64 sr2)) 7 (.int .i64 sr3)
   have hf7:Fr (fun k=>k=l.T) wc (((((wc.setCell ⟨l.T,3,none⟩ (.int .i64 sn)).setCell ⟨l.T,4,none⟩ (.int .i64 sr0)).setCell ⟨l.T,5,none⟩ (.int .i64 sr1)).setCell ⟨l.T,6,none⟩ (.int .i64 sr2)).setCell ⟨l.T,7,none⟩ (.int .i64 sr3)).drew:=(((((Fr.one _ _ _ _).trans (Fr.one _ _ _ _)).trans (Fr.one _ _ _ _)).trans (Fr.one _ _ _ _)).trans (Fr.one _ _ _ _)).drew
   have HB7:=Hd (show(((((wc.setCell ⟨l.T,3,none⟩ (.int .i64 sn)).setCell ⟨l.T,4,none⟩ (.int .i64 sr0)).setCell ⟨l.T,5,none⟩ (.int .i64 sr1)).setCell ⟨l.T,6,none⟩ (.int .i64 sr2)).setCell ⟨l.T,7,none⟩ (.int .i64 sr3)).drew.heap[l.T]? =some (.cells (tabV x.c.lc x.c.lp x.c.pb ⟨sn,sr0,sr1,sr2,sr3⟩ l.b) 217 (0,0)) from hb7)
   have HF7:=Hd hf7
   clear hb7 hf7 s0 s1 s2 s3 s4 s5 q3 q4 q5 q6 q7 qf HSC HTB
   generalize(((((wc.setCell ⟨l.T,3,none⟩ (.int .i64 sn)).setCell ⟨l.T,4,none⟩ (.int .i64 sr0)).setCell ⟨l.T,5,none⟩ (.int .i64 sr1)).setCell ⟨l.T,6,none⟩ (.int .i64 sr2)).setCell ⟨l.T,7,none⟩ (.int .i64 sr3)).drew=w7 at*
   go_wp2_with fail
   go_ret
   refine⟨rfl,⟨((HF2.out.mono (fun k _ h=>.inl h)).trans (HF3.out.mono (fun k _ h=>.inr (h.elim .inl (fun h=>.inr (.inl h)))))).trans (HF7.out.mono (fun k _ h=>.inr (.inr (.inr h)))),v2,rv',ring',t',?_,HS3.out,HN2.out,fun k hk=>(HN3.out k hk).imp id (fun h=>Nat.le_trans HF2.out.size h)⟩⟩
   rw[HPUT.out hz]
   exact HA3.out.stated ⟨sn,sr0,sr1,sr2,sr3⟩ (HSOK.out trivial) HF7.out HB7.out
 ·have e1:((er:Int)==0)=false:=by simp;omega
  have e2:((er:Int) !=0)=true:=by simp;omega
  go_wp2_with fail
  go_ret
  exact⟨rfl,HF1.out⟩
end En
namespace En
open Mem Rc Win Lz St
def XFoot(l:XL)(k:Nat):Prop:=k=l.D∨XG l k
structure XE(w:World)(l:XL)(x:Xe):Prop where
 at':XAt w l x
 sep:XSep l
 low:∀k,XFoot l k→6≤k
structure XNx(w:World)(l l':XL):Prop where
 D:l'.D=l.D
 F:∀k,XFoot l' k→XFoot l k∨w.heap.size≤k
def EPst(l:XL)(w:World)(x:Xe)(w':World):Prop:=Fr (XFoot l) w w'∧∃l',XNx w l l'∧XE w' l' x
theorem XE.five{w:World}{l:XL}{x:Xe}(h:XE w l x):6≤w.heap.size:=by
 have:=lt_of_block h.at'.d
 have:=h.low _ (.inl rfl)
 omega
theorem XE.xlow{w:World}{l:XL}{x:Xe}(h:XE w l x):XLow l:=
 ⟨h.low _ (.inr (.inr (.inr (.inr rfl)))),h.low _ (.inr (.inr (.inl rfl))),h.low _ (.inr (.inl (.inl (.inl rfl)))),fun j hj=>h.low _ (.inr (.inl (.inr ⟨j,hj,rfl⟩))),fun k hk=>h.low _ (.inr (.inl (.inl (.inr hk)))),fun k hk=>h.low _ (.inr (.inr (.inr (.inl hk))))⟩
theorem XE.keep{w w':World}{l:XL}{x:Xe}(h:XE w l x)(hfr:Fr (fun _=>False) w w'):XE w' l x:=⟨h.at'.keep hfr,h.sep,h.low⟩
theorem XE.post{w w':World}{l l':XL}{x x':Xe}(h:XE w l x)(hf:Fr (XFoot l) w w')(ha:XAt w' l' x')(hs:XSep l')(hn:XNx w l l'):EPst l w x' w':=
 ⟨hf,l',hn,ha,hs,fun k hk=>(hn.F k hk).elim (h.low k) (fun e=>Nat.le_trans h.five e)⟩
theorem xput_calls{w:World}{l:XL}{x:Xe}(h:XE w l x)(hT:Tabs w)(z:Sz)(hb:z.byte<256)(hz:z.Fine)(hs:x.e.k.s≤1099511610000)(hm:x.c.all.length≤1152921504606846000):
 Calls Tryz.prog 74 #[ptr l.D,.agg z.cells] w fun e w'=>e=.returned (.int .i64 (applyZ x.c.size x.c.all x.c.s z).1)∧(if(applyZ x.c.size x.c.all x.c.s z).1=0 then EPst l w (x.put z.sy) w' else Fr (fun _=>False) w w'):=by
 refine(eput_calls h.at' h.sep h.xlow hT z hb hz hs hm).mono ?_
 rintro e w' ⟨rfl,hq⟩
 refine⟨rfl,?_⟩
 split
 ·rename_i h0
  rw[if_pos h0] at hq
  obtain⟨f,v',rv',ring',t',a,s,n1,n2⟩:=hq
  refine h.post (f.mono (fun k _ e=>.inr e)) a s ⟨rfl,fun k hk=> ?_⟩
  rcases hk with e|((e|e)|e)|e|e|e
  ·exact .inl (.inl e)
  ·exact .inl (.inr (.inl (.inl (.inl e))))
  ·exact(n1 k e).imp (fun e=>.inr (.inl (.inl (.inr e)))) id
  ·exact .inl (.inr (.inl (.inr e)))
  ·exact .inl (.inr (.inr (.inl e)))
  ·exact(n2 k e).imp (fun e=>.inr (.inr (.inr (.inl e)))) id
  ·exact .inl (.inr (.inr (.inr (.inr e))))
 ·rename_i h0
  rw[if_neg h0] at hq
  exact hq
theorem XAt.ne{w:World}{l:XL}{x:Xe}(h:XAt w l x){k:Nat}{cs:Array Value}{t:TypeId}{fr:Nat×Nat}(hk:w.heap[k]? =some (.cells cs t fr))(ht:t≠149):¬k=l.D:=by
 intro e
 rw[e,h.d] at hk
 simp only[Option.some.injEq,Obj.cells.injEq] at hk
 exact ht hk.2.1.symm
theorem fresh_es(k:K)(hk:k.Ok)(lc lp:Nat):Es.Ok lc lp ⟨k,fresh lc lp⟩:=
 ⟨hk,fun j _ p hp=>by
  have:=List.eq_of_mem_replicate hp
  omega,fun j _=>fresh_len lc lp j⟩
theorem XE.tabs{w w1:World}{l:XL}{x:Xe}(h:XE w l x){T lc lp pb:Nat}{b g:Nat→Nat}(hfr:Fr (fun _=>False) w w1)(hT:Tab w1 T b g lc lp pb S.new (fresh lc lp))
 (hT0:w.heap.size≤T)(hn:∀j,j<18→w.heap.size≤b j∧w.heap.size≤g j)(hl:lc+lp≤4)(hp:pb≤4):
 EPst l w ⟨x.c.fresh lc lp pb,⟨x.e.k,fresh lc lp⟩⟩ (w1.setCell ⟨l.D,0,none⟩ (ptr T)):=by
 have h1:=h.at'.keep hfr
 have hD:=lt_of_block h.at'.d
 have hs:Fr (fun k=>k=l.D) w1 (w1.setCell ⟨l.D,0,none⟩ (ptr T)):=Fr.one _ _ _ _
 obtain⟨gg,a,hg⟩:=h1.rc
 refine h.post (l':={l with T:=T,b:=b,g:=g}) ((lif hfr).trans (hs.mono (fun i _(e:i=l.D)=>.inl e))) ⟨set_in h1.d 0 _,⟨hs.keep hT.box (show¬T=l.D by omega),fun j hj=> ?_,hT.inj⟩,h1.win.keep hs (h1.ne h1.win.box (by decide)) (fun k hk=> ?_),⟨gg,a.keep hs (h1.ne a.box (by decide)) (fun k hk=> ?_),hg⟩,⟨⟨hl,hp,S.new_ok⟩,fresh_es _ h.at'.ok.e.k _ _⟩⟩ ⟨h.sep.rv⟩ ⟨rfl,fun k hk=> ?_⟩
 ·have:=hn j hj
  exact(hT.set j hj).step hs (fun(e:b j=l.D)=>by omega) (fun(e:g j=l.D)=>by omega)
 ·obtain⟨cur,hc⟩:=own_block h1.win.own hk
  exact h1.ne hc (by decide)
 ·obtain⟨cur,hc⟩:=own_block a.own hk
  exact h1.ne hc (by decide)
 ·rcases hk with e|((e|e)|⟨j,hj,e⟩)|e|e|e
  ·exact .inl (.inl e)
  ·exact .inl (.inr (.inl (.inl (.inl e))))
  ·exact .inl (.inr (.inl (.inl (.inr e))))
  ·have:=hn j hj
   simp only at e
   exact .inr (by omega)
  ·exact .inl (.inr (.inr (.inl e)))
  ·exact .inl (.inr (.inr (.inr (.inl e))))
  ·simp only at e
   exact .inr (by omega)
theorem xcut_calls{w:World}{l:XL}{x:Xe}(h:XE w l x)(hs:x.e.k.s≤1099511627000):
 Calls Tryz.prog 75 #[ptr l.D] w fun e w'=>∃v,e=.returned v∧Mine w w' v x.e.k.bytes∧EPst l w ⟨x.c,⟨K.new,x.e.ps⟩⟩ w':=by
 obtain⟨g,a,hg⟩:=h.at'.rc
 have c2:w.cell? ⟨l.D,2,none⟩=some (ptr l.E):=cell_in h.at'.d rfl
 have HB:=Hd (bytes_calls a hg hs)
 have H0:=Hd h
 clear h a hg
 go_enter Tryz.func75,Tryz.ntmps75
 go_wp2_with fail
 refine HB.out.mono ?_
 rintro e w1 ⟨v,rfl,hf1,hm⟩
 have HF1:=Hd hf1
 have HM:=Hd hm
 clear hf1 hm HB c2
 go_wp2_with fail
 refine(En.new_calls w1).mono ?_
 rintro e w2 ⟨rfl,hf2,a2⟩
 have h2:=(H0.out.keep (HF1.out.trans hf2)).at'
 have y2:w2.cell? ⟨l.D,2,none⟩=some (ptr l.E):=cell_in h2.d rfl
 have yf:=frozen_in h2.d 2
 have hD:=lt_of_block H0.out.at'.d
 have hsz:=HF1.out.size
 have hss:Fr (fun k=>k=l.D) w2 (w2.setCell ⟨l.D,2,none⟩ (ptr w1.heap.size)):=Fr.one _ _ _ _
 have KEY:=Hd (show Mine w (w2.setCell ⟨l.D,2,none⟩ (ptr w1.heap.size)) v x.e.k.bytes∧EPst l w ⟨x.c,⟨K.new,x.e.ps⟩⟩ (w2.setCell ⟨l.D,2,none⟩ (ptr w1.heap.size)) from by
  refine⟨(HM.out.step hf2 (fun _ _ h=>h)).step hss (fun k hk(e:k=l.D)=>by have:=HM.out.new k hk;omega),H0.out.post (l':={l with E:=w1.heap.size,v:=.slice none 0 0}) ((lif (HF1.out.trans hf2)).trans (hss.mono (fun i _(e:i=l.D)=>.inl e))) ⟨set_in h2.d 2 _,⟨hss.keep h2.tab.box (h2.ne h2.tab.box (by decide)),fun j hj=> ?_,h2.tab.inj⟩,h2.win.keep hss (h2.ne h2.win.box (by decide)) (fun k hk=> ?_),⟨G.new,a2.keep hss (fun(e:w1.heap.size=l.D)=>by omega) (fun k hk=>by simp[Value.ownBlock] at hk),is_new⟩,⟨h2.ok.c,⟨is_new.ok,h2.ok.e.q,h2.ok.e.len⟩⟩⟩ ⟨fun k _ e=>by simp[Value.ownBlock] at e⟩ ⟨rfl,fun k hk=> ?_⟩⟩
  ·obtain⟨_,_,hb,hg,_⟩:=h2.tab.set j hj
   exact(h2.tab.set j hj).step hss (h2.ne hb (by decide)) (h2.ne hg (by decide))
  ·obtain⟨cur,hc⟩:=own_block h2.win.own hk
   exact h2.ne hc (by decide)
  ·rcases hk with e|((e|e)|e)|e|e|e
   ·exact .inl (.inl e)
   ·simp only at e
    exact .inr (by omega)
   ·simp[Value.ownBlock] at e
   ·exact .inl (.inr (.inl (.inr e)))
   ·exact .inl (.inr (.inr (.inl e)))
   ·exact .inl (.inr (.inr (.inr (.inl e))))
   ·exact .inl (.inr (.inr (.inr (.inr e)))))
 clear hf2 a2 h2 hss
 go_wp2_with fail
 go_ret
 exact⟨_,rfl,KEY.out⟩
theorem xreset_calls{w:World}{l:XL}{x:Xe}(h:XE w l x)(lc lp pb:Nat)(hl:lc+lp≤4)(hp:pb≤4):
 Calls Tryz.prog 71 #[ptr l.D,.agg #[.int .i64 lc,.int .i64 lp,.int .i64 pb]] w fun e w'=>e=.returned (.int .i64 0)∧EPst l w ⟨x.c.fresh lc lp pb,⟨x.e.k,fresh lc lp⟩⟩ w':=by
 have hx:=heap_alloc_new w (.cells #[.int .i64 lc,.int .i64 lp,.int .i64 pb] 24)
 have hf0:=(R0 w).alloc (.cells #[.int .i64 lc,.int .i64 lp,.int .i64 pb] 24)
 have HP:=fun W=>Hd (props_ok lc lp pb hl hp W)
 have HT:=fun W=>Hd (tables_calls lc lp pb W hl)
 unfold Lz.NewPost at HT
 have H0:=Hd h
 have HX:=Hd hx
 have HF:=Hd hf0
 clear h hx hf0
 go_enter Tryz.func71,Tryz.ntmps71
 go_wp2_with fail
 refine(HP _).out.mono ?_
 rintro e w1 ⟨⟨xx,rfl⟩,hfr1⟩
 have hx1:=hfr1.keep HX.out (fun h=>h)
 obtain⟨z0,z1,z2⟩:=cs3 hx1 rfl rfl rfl
 have HF1:=Hd (HF.out.trans hfr1)
 clear hfr1 hx1
 go_wp2_with fail
 refine(HT _).out.mono ?_
 rintro e w2 ⟨T,b,g,rfl,hfr2,hTab,hT0,hn⟩
 have h2:=(H0.out.keep (HF1.out.trans hfr2)).at'
 have hsz:=HF1.out.size
 have KEY:=Hd (H0.out.tabs (HF1.out.trans hfr2) hTab (Nat.le_trans hsz hT0) (fun j hj=>⟨Nat.le_trans hsz (hn j hj).1,Nat.le_trans hsz (hn j hj).2⟩) hl hp)
 have y0:w2.cell? ⟨l.D,0,none⟩=some (ptr l.T):=cell_in h2.d rfl
 have yf:=frozen_in h2.d 0
 clear hfr2 hTab hn h2
 go_wp2_with fail
 go_ret
 exact⟨rfl,KEY.out⟩
theorem xraw_calls{w:World}{l:XL}{x:Xe}(h:XE w l x)(v:Value)(b:List UInt8)(hb:Rd w v b)(hap:0<b.length→∀k,v.ownBlock=some k→¬XFoot l k)(hm:x.c.all.length+b.length≤1152921504606846976):
 Calls Tryz.prog 69 #[ptr l.D,v] w fun e w'=>e=.returned (.tuple #[])∧EPst l w ⟨x.c.on b,x.e⟩ w':=by
 have c1:w.cell? ⟨l.D,1,none⟩=some (ptr l.W):=cell_in h.at'.d rfl
 have HP:=Hd (Win.put_calls l.W x.c.size l.t l.rv v x.c.all l.ring b w h.at'.win hb (fun h0 k hk e=>hap h0 k hk (.inr (.inr (.inr (.inl e))))) hm)
 have H0:=Hd h
 clear h hb hap
 go_enter Tryz.func69,Tryz.ntmps69
 go_wp2_with fail
 refine HP.out.mono ?_
 rintro e w2 ⟨rfl,rv',ring',t',hfr,hW,hn⟩
 have KEY:=Hd (show EPst l w ⟨x.c.on b,x.e⟩ w2 from by
  obtain⟨rv2,ring2,t2,a3,s3,n3⟩:=H0.out.at'.wrote H0.out.sep hfr hW hn
  refine H0.out.post (hfr.mono (fun k _ e=>.inr (.inr (e.elim .inl (fun e=>.inr (.inl e)))))) a3 s3 ⟨rfl,fun k hk=> ?_⟩
  rcases hk with e|((e|e)|e)|e|e|e
  ·exact .inl (.inl e)
  ·exact .inl (.inr (.inl (.inl (.inl e))))
  ·exact .inl (.inr (.inl (.inl (.inr e))))
  ·exact .inl (.inr (.inl (.inr e)))
  ·exact .inl (.inr (.inr (.inl e)))
  ·exact(n3 k e).imp (fun e=>.inr (.inr (.inr (.inl e)))) id
  ·exact .inl (.inr (.inr (.inr (.inr e)))))
 clear hfr hW hn
 go_wp2_with fail
 go_end0
 exact⟨rfl,KEY.out⟩
end En
namespace En
open Mem Rc Win Lz St
end En
namespace En
open Mem Rc Win Lz St
theorem rowLen_bd(lc lp:Nat)(h:lc+lp≤4)(j:Nat)(hj:j<18):0<Lz.rowLen lc lp j∧Lz.rowLen lc lp j≤1048576:=by
 have key:∀a:Fin 5,∀b:Fin 5,∀j:Fin 18,a.val+b.val≤4→0<Lz.rowLen a.val b.val j.val∧Lz.rowLen a.val b.val j.val≤1048576:=by decide+kernel
 exact key ⟨lc,by omega⟩ ⟨lp,by omega⟩ ⟨j,hj⟩ h
def XForked(w:World)(x:Xe)(e:Ending)(w':World):Prop:=∃l':XL,e=.returned (ptr l'.D)∧Fr (fun _=>False) w w'∧XE w' l' x∧∀k,XFoot l' k→w.heap.size≤k
set_option maxRecDepth 100000 in
theorem xfork_calls{w:World}{l:XL}{x:Xe}(h:XE w l x)(hs:x.e.k.s≤1099511627000):Calls Tryz.prog 68 #[ptr l.D] w (XForked w x):=by
 obtain⟨gg,a,hg⟩:=h.at'.rc
 have h5:=h.five
 have hr:l.ring.length≤70368744177664:=by have h1:=h.at'.win.of.len;have h2:=h.at'.win.top;omega
 have hok:=h.at'.ok
 have HR:=Hd ((R0 w).drew)
 have HS:=Hd (show∀w':World,Fr (fun _=>False) w w'→w'.cell? ⟨l.D,0,none⟩=some (ptr l.T)∧w'.cell? ⟨l.D,1,none⟩=some (ptr l.W)∧w'.cell? ⟨l.D,2,none⟩=some (ptr l.E) from fun w' hf=>
  ⟨cell_in (i:=0) (hf.keep h.at'.d (fun h=>h)) rfl,cell_in (i:=1) (hf.keep h.at'.d (fun h=>h)) rfl,cell_in (i:=2) (hf.keep h.at'.d (fun h=>h)) rfl⟩)
 have HK0:=Hd (show∀w':World,Fr (fun _=>False) w w'→Calls Tryz.prog 119 #[ptr l.T] w' (Enc.NewTab w' x.c.lc x.c.lp x.c.pb x.c.s x.e.ps) from fun w' hf=>
  Enc.tabForkP_calls l.T x.c.lc x.c.lp x.c.pb l.b l.g x.c.s x.e.ps w' ⟨hf.keep h.at'.tab.box (fun h=>h),fun j hj=>(h.at'.tab.set j hj).keep hf,h.at'.tab.inj⟩ (fun j hj=>by rw[hok.e.len j hj];exact rowLen_bd _ _ hok.c.l j hj))
 have HK1:=Hd (show∀w':World,Fr (fun _=>False) w w'→Calls Tryz.prog 120 #[ptr l.W] w' (fun e w''=>∃b' rv',e=.returned (.pointer (some ⟨b',0,none⟩))∧Fr (fun _=>False) w' w''∧w'.heap.size≤b'∧Win.At w'' b' rv' x.c.size x.c.all l.ring l.t∧(∀k,rv'.ownBlock=some k→w'.heap.size≤k)) from fun w' hf=>
  Enc.winFork_calls l.W x.c.size l.t l.rv x.c.all l.ring w' (h.at'.win.keep hf (fun h=>h) (fun _ _ h=>h)) hr)
 have HK2:=Hd (show∀w':World,Fr (fun _=>False) w w'→Calls Tryz.prog 121 #[ptr l.E] w' (fun e w''=>∃B',e=.returned (ptr B')∧w'.heap.size≤B'∧Fr (fun _=>False) w' w''∧∃v',EAt w'' B' v' gg∧∀k,v'.ownBlock=some k→w'.heap.size≤k) from fun w' hf=>
  fork_calls (a.keep hf (fun h=>h) (fun _ _ h=>h)) (by have:=hg.ab.s;omega))
 have HSC:=Hd (HS.out w.drew HR.out)
 obtain⟨c0,c1,c2⟩:=HS.out w (Fr.refl _ _)
 have HG:=Hd hg
 have HOK:=Hd hok
 have H5:=Hd h5
 clear h a hg hok h5
 go_enter Tryz.func68,Tryz.ntmps68
 go_wp2_with fail
 go_region_held3 (fun w'=>w'.cell? ⟨l.D,0,none⟩=some (ptr l.T)∧w'.cell? ⟨l.D,1,none⟩=some (ptr l.W)∧w'.cell? ⟨l.D,2,none⟩=some (ptr l.E)) (first|with_reducible exact HSC.out|with_reducible exact HS.out _ HR.out|with_reducible exact HS.out _ (HR.out.alloc _)) ((first
  | (go_at_call 119
     with_reducible refine(HK0.out _ HR.out).mono ?_
     rintro e wc ⟨bT,c,h',rfl,hfrc,hT0,hT,hTn⟩
     have hw0:=HR.out.size
     have HR:=Hd (HR.out.trans hfrc)
     have HSC:=Hd (HS.out _ HR.out)
     obtain⟨c0,c1,c2⟩:=HSC.out
     have HTT:=Hd (show∀w':World,Fr (fun _=>False) wc w'→Tab w' bT c h' x.c.lc x.c.lp x.c.pb x.c.s x.e.ps∧w.heap.size≤bT∧bT<w'.heap.size∧∀j,j<18→(w.heap.size≤c j∧w.heap.size≤h' j) from fun w' hf=>⟨⟨hf.keep hT.box (fun h=>h),fun j hj=>(hT.set j hj).keep hf,hT.inj⟩,Nat.le_trans hw0 hT0,Nat.lt_of_lt_of_le (lt_of_block hT.box) hf.size,fun j hj=>⟨Nat.le_trans hw0 (hTn j hj).1,Nat.le_trans hw0 (hTn j hj).2⟩⟩)
     try(have HWN:=Hd (fun(w':World)(hf:Fr (fun _=>False) wc w')=>HWN.out w' (hfrc.trans hf)))
     try(have HEN:=Hd (fun(w':World)(hf:Fr (fun _=>False) wc w')=>HEN.out w' (hfrc.trans hf)))
     clear hfrc hT0 hT hTn hw0)
  | (go_at_call 121
     with_reducible refine(HK2.out _ HR.out).mono ?_
     rintro e wc ⟨bE,rfl,hE0,hfrc,vE,hEA,hEn⟩
     have hw0:=HR.out.size
     have HR:=Hd (HR.out.trans hfrc)
     have HSC:=Hd (HS.out _ HR.out)
     obtain⟨c0,c1,c2⟩:=HSC.out
     have HEN:=Hd (show∀w':World,Fr (fun _=>False) wc w'→EAt w' bE vE gg∧w.heap.size≤bE∧(∀k,vE.ownBlock=some k→w.heap.size≤k) from fun w' hf=>⟨hEA.keep hf (fun h=>h) (fun _ _ h=>h),Nat.le_trans hw0 hE0,fun k hk=>Nat.le_trans hw0 (hEn k hk)⟩)
     try(have HVN:=Hd (show∀k,rvW.ownBlock=some k→vE.ownBlock≠some k from fun k hk e=>by
      have h1:=(World.ownsRow.lt (HWL.out) k hk).2
      have h2:=hEn k e
      omega))
     try(have HWN:=Hd (fun(w':World)(hf:Fr (fun _=>False) wc w')=>HWN.out w' (hfrc.trans hf)))
     try(have HTT:=Hd (fun(w':World)(hf:Fr (fun _=>False) wc w')=>HTT.out w' (hfrc.trans hf)))
     clear hfrc hE0 hEA hEn hw0)
  | (go_at_call 120
     with_reducible refine(HK1.out _ HR.out).mono ?_
     rintro e wc ⟨bW,rvW,rfl,hfrc,hbW,hAt,hrvW⟩
     have hw0:=HR.out.size
     have HR:=Hd (HR.out.trans hfrc)
     have HSC:=Hd (HS.out _ HR.out)
     obtain⟨c0,c1,c2⟩:=HSC.out
     have HWN:=Hd (show∀w':World,Fr (fun _=>False) wc w'→Win.At w' bW rvW x.c.size x.c.all l.ring l.t∧w.heap.size≤bW∧(∀k,rvW.ownBlock=some k→w.heap.size≤k) from fun w' hf=>⟨hAt.keep hf (fun h=>h) (fun _ _ h=>h),Nat.le_trans hw0 hbW,fun k hk=>Nat.le_trans hw0 (hrvW k hk)⟩)
     have HWL:=Hd hAt.own
     try(have HTT:=Hd (fun(w':World)(hf:Fr (fun _=>False) wc w')=>HTT.out w' (hfrc.trans hf)))
     clear hfrc hbW hAt hrvW hw0)))
 all_goals go_wp2_with fail
 all_goals go_ret
 all_goals
  have hfa:=(R0 wc).alloc (.cells #[ptr bT,ptr bW,ptr bE] 149)
  have hT:=HTT.out _ hfa
  have hW:=HWN.out _ hfa
  have hE:=HEN.out _ hfa
  have hD:=HR.out.size
  refine⟨⟨wc.heap.size,bE,bT,bW,vE,rvW,l.ring,l.t,c,h'⟩,rfl,HR.out.trans hfa,⟨⟨heap_alloc_new _ _,hT.1,hW.1,⟨gg,hE.1,HG.out⟩,HOK.out⟩,⟨HVN.out⟩,fun k hk=> ?_⟩,fun k hk=> ?_⟩
  ·have h5:=H5.out
   rcases hk with e|((e|e)|⟨j,hj,e⟩)|e|e|e
   ·simp only at e;omega
   ·simp only at e;have:=hE.2.1;omega
   ·have:=hE.2.2 k e;omega
   ·simp only at e;have:=(hT.2.2.2 j hj).2;omega
   ·simp only at e;have:=hW.2.1;omega
   ·have:=hW.2.2 k e;omega
   ·simp only at e;have:=hT.2.1;omega
  ·rcases hk with e|((e|e)|⟨j,hj,e⟩)|e|e|e
   ·simp only at e;omega
   ·simp only at e;have:=hE.2.1;omega
   ·exact hE.2.2 k e
   ·simp only at e;have:=(hT.2.2.2 j hj).2;omega
   ·simp only at e;have:=hW.2.1;omega
   ·exact hW.2.2 k e
   ·simp only at e;have:=hT.2.1;omega
end En
end Go.Proofs.YtffoddpjfgjelaaGreatDoor
