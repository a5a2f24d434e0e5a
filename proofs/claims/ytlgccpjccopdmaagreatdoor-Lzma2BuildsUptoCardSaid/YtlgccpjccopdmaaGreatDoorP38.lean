/- Part 38 of 54: lemmas of the last part, each under the conditions that it names. -/
import Derived.Test.YtlgccpjccopdmaaGreatDoorP16
import Derived.Test.YtlgccpjccopdmaaGreatDoorP36
import Derived.Test.YtlgccpjccopdmaaGreatDoorP37
set_option linter.unusedVariables false
set_option linter.unusedSimpArgs false
set_option maxRecDepth 1500
set_option maxHeartbeats 8000000
namespace Go.Proofs.YtlgccpjccopdmaaGreatDoor
open Go.RowKit
namespace En
open Mem Rc Win Lz St
set_option maxRecDepth 100000 in
theorem part_bad{w0 w:World}{l:XL}{x:Xe}(k:Nat)(hk:k=5∨k=6)(lc lp pb qc qp qb:Int)(b_lc:-9223372036854775808≤qc∧qc≤9223372036854775807)(b_lp:-9223372036854775808≤qp∧qp≤9223372036854775807)(b_pb:-9223372036854775808≤qb∧qb≤9223372036854775807)(sv rv:Value)(h:XE w l x)(hbad:propsBad qc qp qb=true):
 Calls Tryz.prog 48 #[ptr l.D,.agg #[.int .i64 k,.int .i64 lc,.int .i64 lp,.int .i64 pb,sv,rv],.agg #[.int .i64 qc,.int .i64 qp,.int .i64 qb]] w (PartPost l w0 w (.error 6)):=by
 have HH:=Hd h
 have HXB:=fun W=>Hd (xreset_bad l.D qc qp qb W b_lc b_lp b_pb hbad)
 rcases hk with rfl|rfl
 ·have HF3:=Hd ((((Fr.refl (fun _=>False) w).alloc (.cells #[.int .i64 5,.int .i64 lc,.int .i64 lp,.int .i64 pb,sv,rv] 108)).alloc (.cells #[.int .i64 qc,.int .i64 qp,.int .i64 qb] 24)).alloc (.cells #[.int .i64 5,.int .i64 0,.int .i64 0,.int .i64 qc,.int .i64 qp,.int .i64 qb] 47))
  go_enter Tryz.func48,Tryz.ntmps48
  go_wp2_with fail
  refine(HXB _).out.mono ?_
  rintro e w3 ⟨rfl,hf⟩
  have HP:=Hd (show PartPost l w0 w (.error 6) (.returned (.tuple #[.slice none 0 0,.slice none 0 0,.int .i64 6])) w3 from⟨by decide,lif (HF3.out.trans hf),_,_,rfl⟩)
  clear hf
  go_wp2_with fail
  go_ret3
  exact HP.out
 ·have hf3:=((((Fr.refl (fun _=>False) w).alloc (.cells #[.int .i64 6,.int .i64 lc,.int .i64 lp,.int .i64 pb,sv,rv] 108)).alloc (.cells #[.int .i64 qc,.int .i64 qp,.int .i64 qb] 24)).alloc (.cells #[.int .i64 6,.int .i64 0,.int .i64 0,.int .i64 qc,.int .i64 qp,.int .i64 qb] 47))
  have hxp:=alloc_cells (alloc_cells (heap_alloc_new w (.cells #[.int .i64 6,.int .i64 lc,.int .i64 lp,.int .i64 pb,sv,rv] 108)) (.cells #[.int .i64 qc,.int .i64 qp,.int .i64 qb] 24)) (.cells #[.int .i64 6,.int .i64 0,.int .i64 0,.int .i64 qc,.int .i64 qp,.int .i64 qb] 47)
  have hxq:=alloc_cells (heap_alloc_new (w.alloc (.cells #[.int .i64 6,.int .i64 lc,.int .i64 lp,.int .i64 pb,sv,rv] 108)) (.cells #[.int .i64 qc,.int .i64 qp,.int .i64 qb] 24)) (.cells #[.int .i64 6,.int .i64 0,.int .i64 0,.int .i64 qc,.int .i64 qp,.int .i64 qb] 47)
  simp only[World.size_alloc] at hxp hxq
  have HF3:=Hd hf3
  have HXP:=Hd hxp
  have HXQ:=Hd hxq
  have HE3:=Hd (HH.out.keep hf3)
  clear hf3 hxp hxq
  go_enter Tryz.func48,Tryz.ntmps48
  go_wp2_with fail
  refine(xclear_calls HE3.out).mono ?_
  rintro e w2 ⟨rfl,hp2⟩
  have hxp2:=hp2.1.keep HXP.out (fun e=>by have:=HH.out.lt _ e;omega)
  have hxq2:=hp2.1.keep HXQ.out (fun e=>by have:=HH.out.lt _ e;omega)
  have b0:=cell_in (i:=0) hxp2 rfl
  obtain⟨d0,d1,d2⟩:=cs3 hxq2 rfl rfl rfl
  have HF2:=Hd hp2.1
  clear hp2 hxp2 hxq2
  go_wp2_with fail
  refine(HXB _).out.mono ?_
  rintro e w3 ⟨rfl,hf⟩
  have HP:=Hd (show PartPost l w0 w (.error 6) (.returned (.tuple #[.slice none 0 0,.slice none 0 0,.int .i64 6])) w3 from⟨by decide,(lif HF3.out).trans (HF2.out.trans (lif hf)),_,_,rfl⟩)
  clear hf
  go_wp2_with fail
  go_ret3
  exact HP.out
theorem part_calls{w0 w:World}{l:XL}{x:Xe}(p:Pz)(pr:Pi3)(sv rv:Value)(h:XE w l x)(hT:Tabs w0)(hwf:p.Wf)(hk:1≤p.kind∧p.kind≤6)(hgood:p.kind<5→pr.bad=false)(b_lc:-9223372036854775808≤pr.1∧pr.1≤9223372036854775807)(b_lp:-9223372036854775808≤pr.2.1∧pr.2.1≤9223372036854775807)(b_pb:-9223372036854775808≤pr.2.2∧pr.2.2≤9223372036854775807)
 (hk0:x.e.k=K.new)(hf0:Fr (fun _=>False) w0 w)(hfoot:∀k,XFoot l k→w0.heap.size≤k)(hsv:RdZ w0 sv p.ys)(hrv:Rd w0 rv p.raw)(hyl:p.ys.length≤1048576)(hrl:p.raw.length≤16777216)(ha:x.c.all.length≤1099511627776):
 Calls Tryz.prog 48 #[ptr l.D,.agg #[.int .i64 p.kind,.int .i64 p.lc,.int .i64 p.lp,.int .i64 p.pb,sv,rv],.agg #[.int .i64 pr.1,.int .i64 pr.2.1,.int .i64 pr.2.2]] w (PartPost l w0 w (partP x p pr)):=by
 obtain⟨kind,lc,lp,pb,raw,ys⟩:=p
 obtain⟨a,b,c⟩:=pr
 simp only at hk hgood b_lc b_lp b_pb hsv hrv hyl hrl
 have hby:=hwf.byte
 simp only at hby
 obtain⟨k,rfl⟩:=Int.eq_ofNat_of_zero_le (show 0≤kind by omega)
 by_cases hbad:Pi3.bad (a,b,c)=true
 ·have h5:5≤k:=by
   by_cases h5:(k:Int)<5
   ·rw[hgood h5] at hbad
    exact absurd hbad (by simp)
   ·omega
  have hP:partP x ⟨k,lc,lp,pb,raw,ys⟩ (a,b,c)=.error 6:=by
   unfold partP
   simp only
   rw[if_neg (by omega),if_pos ⟨by omega,hbad⟩]
  rw[hP]
  exact part_bad k (by omega) lc lp pb a b c b_lc b_lp b_pb sv rv h hbad
 ·have hg:Pi3.bad (a,b,c)=false:=by simpa using hbad
  have hq:0≤a∧0≤b∧0≤c∧a+b≤4∧c≤4:=by
   unfold Pi3.bad propsBad at hg
   simp only[decide_eq_false_iff_not] at hg
   omega
  obtain⟨qc,rfl⟩:=Int.eq_ofNat_of_zero_le hq.1
  obtain⟨qp,rfl⟩:=Int.eq_ofNat_of_zero_le hq.2.1
  obtain⟨qb,rfl⟩:=Int.eq_ofNat_of_zero_le hq.2.2.1
  have hq2:qc+qp≤4∧qb≤4:=by omega
  have hk6:k=1∨k=2∨k=3∨k=4∨k=5∨k=6:=by omega
  rcases hk6 with h1|h1|h1|h1|h1|h1
  ·exact part_raw k (.inl h1) lc lp pb qc qp qb raw ys sv rv h hq2 hk0 hf0 hfoot hrv hrl ha
  ·exact part_raw k (.inr h1) lc lp pb qc qp qb raw ys sv rv h hq2 hk0 hf0 hfoot hrv hrl ha
  ·exact part_k3 k h1 lc lp pb qc qp qb raw ys sv rv h hT hq2 hk0 hby hf0 hfoot hsv hrv hyl ha
  ·exact part_k4 k h1 lc lp pb qc qp qb raw ys sv rv h hT hq2 hk0 hby hf0 hfoot hsv hrv hyl ha
  ·exact part_k5 k h1 lc lp pb qc qp qb raw ys sv rv h hT hq2 hk0 hby hf0 hfoot hsv hrv hyl ha
  ·exact part_k6 k h1 lc lp pb qc qp qb raw ys sv rv h hT hq2 hk0 hby hf0 hfoot hsv hrv hyl ha
end En
namespace En
open Mem Rc Win Lz St Ck
def BuildPost(w:World)(res:Except Nat (List UInt8))(e:Ending)(w':World):Prop:=
 Fr (fun _=>False) w w'∧match res with
  |.ok b=>∃v,e=.returned (.tuple #[v,.int .i64 0])∧Mine w w' v b
  |.error n=>n≠0∧e=.returned (.tuple #[.slice none 0 0,.int .i64 n])
def after':Except Nat (List UInt8)→Except Nat (List UInt8)
 |.ok t=>.ok (t++[0])
 |.error n=>.error n
def after(bs:List UInt8):Except Nat (List UInt8)→Except Nat (List UInt8)
 |.ok t=>.ok (bs++t)
 |.error n=>.error n
structure BI(w wr:World)(D Bo Bp:Nat)(l':XL)(x:Xe)(now:Nat)(pr:Pi3)(ov:Value)(bs:List UInt8):Prop where
 fr:Fr (fun _=>False) w wr
 e:XE wr l' x
 D:l'.D=D
 foot:∀k,XFoot l' k→w.heap.size≤k
 k:x.e.k=K.new
 ord:OrdAt wr Bo now
 lt:now<4
 bo:w.heap.size≤Bo∧¬XFoot l' Bo
 box:wr.heap[Bp]? =some (.cells #[.int .i64 pr.1,.int .i64 pr.2.1,.int .i64 pr.2.2] 24 (0,0))
 bp:w.heap.size≤Bp∧¬XFoot l' Bp
 good:pr.bad=false
 out:Mine w wr ov bs
 off:∀k,ov.ownBlock=some k→¬XFoot l' k
def BRel(w:World)(l:List Pz)(n D Bo Bp:Nat)(ov i:Value)(wr:World):Prop:=
 ∃(k:Nat)(l':XL)(x:Xe)(now:Nat)(pr:Pi3)(bs:List UInt8)(C:Nat),k≤l.length∧i=.int .i64 (k:Nat)∧BI w wr D Bo Bp l' x now pr ov bs∧buildGo l 0 (Xe.start n) (0,0,0)=after bs (buildGo (l.drop k) now x pr)∧C+costs (l.drop k)=costs l∧bs.length≤C∧x.c.all.length≤6*C
theorem ne_of'{w:World}{k j:Nat}{cs cs':Array Value}{t t':TypeId}{fr fr':Nat×Nat}(hk:w.heap[k]? =some (.cells cs t fr))(hj:w.heap[j]? =some (.cells cs' t' fr'))(h:t≠t'):¬k=j:=by
 intro e
 rw[e,hj] at hk
 simp only[Option.some.injEq,Obj.cells.injEq] at hk
 exact h hk.2.1.symm
theorem XE.asideT{w w':World}{l:XL}{x:Xe}{B:Nat}{cs:Array Value}{t:TypeId}{fr:Nat×Nat}(h:XE w l x)(hB:w.heap[B]? =some (.cells cs t fr))(hfr:Fr (fun k=>k=B) w w')(h1:128≠t)(h2:188≠t)(h3:178≠t)(h4:191≠t)(h5:305≠t)(h6:3≠t)(h7:5≠t):XE w' l x:=by
 obtain⟨g,a,hg⟩:=h.at'.rc
 refine⟨⟨hfr.keep h.at'.d (ne_of' h.at'.d hB h1),⟨hfr.keep h.at'.tab.box (ne_of' h.at'.tab.box hB h2),fun j hj=> ?_,h.at'.tab.inj⟩,h.at'.win.keep hfr (ne_of' h.at'.win.box hB h3) (fun k hk=> ?_),⟨g,a.keep hfr (ne_of' a.box hB h4) (fun k hk=> ?_),hg⟩,h.at'.ok⟩,h.sep,h.low⟩
 ·obtain⟨_,_,hb,hg,_⟩:=h.at'.tab.set j hj
  exact(h.at'.tab.set j hj).step hfr (ne_of' hb hB h5) (ne_of' hg hB h6)
 ·obtain⟨cur,hc⟩:=own_block h.at'.win.own hk
  exact ne_of' hc hB h7
 ·obtain⟨cur,hc⟩:=own_block a.own hk
  exact ne_of' hc hB h7
theorem XE.beside{w w':World}{l:XL}{x:Xe}{v:Value}{bs:List UInt8}{w0:World}(h:XE w l x)(hm:Mine w0 w v bs)(hoff:∀k,v.ownBlock=some k→¬XFoot l k)(hfr:Fr (fun k=>v.ownBlock=some k) w w'):XE w' l x:=by
 obtain⟨g,a,hg⟩:=h.at'.rc
 have hne:∀{k:Nat}{cs:Array Value}{t:TypeId}{fr:Nat×Nat},w.heap[k]? =some (.cells cs t fr)→t≠5→¬v.ownBlock=some k:=by
  intro k cs t fr hk ht e
  obtain⟨cur,hc⟩:=own_block hm.own e
  exact ne_of' hk hc ht rfl
 refine⟨⟨hfr.keep h.at'.d (hne h.at'.d (by decide)),⟨hfr.keep h.at'.tab.box (hne h.at'.tab.box (by decide)),fun j hj=> ?_,h.at'.tab.inj⟩,h.at'.win.keep hfr (hne h.at'.win.box (by decide)) (fun k hk e=>hoff k e (.inr (.inr (.inr (.inl hk))))),⟨g,a.keep hfr (hne a.box (by decide)) (fun k hk e=>hoff k e (.inr (.inl (.inl (.inr hk))))),hg⟩,h.at'.ok⟩,h.sep,h.low⟩
 obtain⟨_,_,hb,hg,_⟩:=h.at'.tab.set j hj
 exact(h.at'.tab.set j hj).step hfr (hne hb (by decide)) (hne hg (by decide))
theorem BI.keep{w wr wr':World}{D Bo Bp:Nat}{l':XL}{x:Xe}{now:Nat}{pr:Pi3}{ov:Value}{bs:List UInt8}(h:BI w wr D Bo Bp l' x now pr ov bs)(hf:Fr (fun _=>False) wr wr'):BI w wr' D Bo Bp l' x now pr ov bs:=
 ⟨h.fr.trans hf,h.e.keep hf,h.D,h.foot,h.k,hf.keep h.ord (fun h=>h),h.lt,h.bo,hf.keep h.box (fun h=>h),h.bp,h.good,h.out.keep hf,h.off⟩
theorem BI.moved{w wr wr':World}{D Bo Bp:Nat}{l':XL}{x:Xe}{now now':Nat}{pr:Pi3}{ov:Value}{bs:List UInt8}(h:BI w wr D Bo Bp l' x now pr ov bs)(hf:Fr (fun k=>k=Bo) wr wr')(ho:OrdAt wr' Bo now')(hl:now'<4):BI w wr' D Bo Bp l' x now' pr ov bs:=by
 have hb:wr.heap[Bo]? =some (.cells #[.int .i64 now] 174 (0,0)):=h.ord
 refine⟨h.fr.trans' hf (fun k hk(e:k=Bo)=>by have:=h.bo.1;omega),h.e.asideT hb hf (by decide) (by decide) (by decide) (by decide) (by decide) (by decide) (by decide),h.D,h.foot,h.k,ho,hl,h.bo,hf.keep h.box (ne_of' h.box hb (by decide)),h.bp,h.good,h.out.step hf (fun k hk=> ?_),h.off⟩
 obtain⟨cur,hc⟩:=own_block h.out.own hk
 exact ne_of' hc hb (by decide)
theorem BI.propped{w wr wr':World}{D Bo Bp:Nat}{l':XL}{x:Xe}{now:Nat}{pr:Pi3}{ov:Value}{bs:List UInt8}(h:BI w wr D Bo Bp l' x now pr ov bs)(hf:Fr (fun k=>k=Bp) wr wr'):Fr (fun _=>False) w wr'∧XE wr' l' x∧OrdAt wr' Bo now∧Mine w wr' ov bs:=by
 have ho:wr.heap[Bo]? =some (.cells #[.int .i64 now] 174 (0,0)):=h.ord
 refine⟨h.fr.trans' hf (fun k hk(e:k=Bp)=>by have:=h.bp.1;omega),h.e.asideT h.box hf (by decide) (by decide) (by decide) (by decide) (by decide) (by decide) (by decide),hf.keep ho (ne_of' ho h.box (by decide)),h.out.step hf (fun k hk=> ?_)⟩
 obtain⟨cur,hc⟩:=own_block h.out.own hk
 exact ne_of' hc h.box (by decide)
theorem drop_cons2{α:Type}{l:List α}{k:Nat}{a:α}(h:l[k]? =some a):l.drop k=a::l.drop (k+1):=by
 obtain⟨hk,rfl⟩:=List.getElem?_eq_some_iff.1 h
 exact List.drop_eq_getElem_cons hk
theorem move_le'(now k:Nat)(h1:now<4)(h2:k<7)(h3:Ck.move now k≠4):Ck.move now k<4:=by
 have:∀a:Fin 4,∀k:Fin 7,Ck.move a k≠4→Ck.move a k<4:=by decide
 exact this ⟨now,h1⟩ ⟨k,h2⟩ h3
set_option maxRecDepth 100000 in
theorem build_in(n:Nat)(l:List Pz)(lv:Value)(w:World)(h1:1≤n)(h2:n≤4294967295)(hT:Tabs w)(hM:Moves w)(hr:RdP w lv l)(hwf:∀p ∈ l,p.Wf)(hl:l.length≤1048576)(hc:costs l≤16777216):
    Calls Tryz.prog 17 #[.int .i64 n,lv] w (BuildPost w (buildP n l)):=by
  obtain⟨RS,hRS⟩:∃RS,RS=buildGo l 0 (Xe.start n) (0,0,0):=⟨_,rfl⟩
  have hBP:buildP n l=after' RS:=by
    rw[hRS]
    unfold buildP
    rw[if_neg (by omega),Int.toNat_natCast]
    cases buildGo l 0 (Xe.start n) (0,0,0)<;>rfl
  rw[hBP]
  obtain⟨p0,cap0,rfl,_,_⟩:=hr.slice
  obtain⟨m,hm⟩:∃m,m=l.length:=⟨_,rfl⟩
  have HT:=Hd hT
  have HMV:=Hd hM
  have HR:=Hd hr
  have HWF:=Hd hwf
  have HL:=Hd hl
  have HC:=Hd hc
  have HN:=Hd hm
  have HRS:=Hd hRS
  have HNW:=Hd (enew_in n w h1 h2)
  rw[←hm] at HR ⊢
  clear hT hM hr hwf hl hc hm hRS hBP h1 h2
  go_enter Tryz.func17,Tryz.ntmps17
  go_wp2_with fail
  refine HNW.out.mono ?_
  rintro e w1 ⟨hf1,l0,rfl,hA1,hS1,hF1⟩
  have HF1:=Hd hf1
  have HE1:=Hd (show XE w1 l0 (Xe.start n) from⟨hA1,hS1,fun k hk=>Nat.le_trans HT.out.size (hF1 k hk)⟩)
  have HFT:=Hd hF1
  clear hf1 hA1 hS1 hF1
  go_wp2_with fail
  refine(newOrder_calls w1).mono ?_
  rintro e w2 ⟨rfl,hf2,hO2⟩
  have hfa:=(Fr.refl (fun _=>False) w2).alloc (.cells #[.int .i64 0,.int .i64 0,.int .i64 0] 24)
  have HB0:=Hd (show BI w (w2.alloc (.cells #[.int .i64 0,.int .i64 0,.int .i64 0] 24)) l0.D w1.heap.size w2.heap.size l0 (Xe.start n) 0 (0,0,0) (.slice none 0 0) [] from
    ⟨(HF1.out.trans hf2).trans hfa,HE1.out.keep (hf2.trans hfa),rfl,HFT.out,rfl,hfa.keep hO2 (fun h=>h),by decide,⟨HF1.out.size,fun e=>by have:=HE1.out.lt _ e;omega⟩,heap_alloc_new _ _,⟨Nat.le_trans HF1.out.size hf2.size,fun e=>by have:=HE1.out.lt _ e;have:=hf2.size;omega⟩,by decide,Mine.nil _ _,fun k hk=>by simp[Value.ownBlock] at hk⟩)
  clear hf2 hO2 hfa
  go_wp2_with fail
  generalize hBo:w1.heap.size=Bo at*
  generalize hBp:w2.heap.size=Bp at*
  generalize hD:l0.D=D at*
  clear hBo hBp hD
  go_loopw [10,30] (fun ov i wr=>BRel w l n D Bo Bp ov i wr) (fun _ i _=>m-(intOf i).toNat)
  case atStart=>
    exact⟨0,l0,Xe.start n,0,(0,0,0),[],0,Nat.zero_le _,rfl,HB0.out,by rw[List.drop_zero];cases buildGo l 0 (Xe.start n) (0,0,0)<;>rfl,by rw[List.drop_zero,Nat.zero_add],Nat.le_refl _,Nat.le_refl _⟩
  case round=>
    obtain⟨k,l',x,now,pr,bs,C,hkm,rfl,hI,hgo,hC,hbl,hal⟩:=hrel
    have hmb:(m:Int)≤1048576:=by have:=HN.out;have:=HL.out;omega
    by_cases hlt:k<m
    · obtain⟨q,hq⟩:∃q,l[k]? =some q:=⟨l[k]'(HN.out ▸ hlt),List.getElem?_eq_getElem (HN.out ▸ hlt)⟩
      rw[drop_cons2 hq,costs] at hC
      rw[drop_cons2 hq,buildGo] at hgo
      have hwq:=HWF.out q (List.mem_of_getElem? hq)
      obtain⟨b,o,rfl,c0,c1,c2,c3,sv,rvv,c4,c5,hz,hrd⟩:=(HR.out).at hq
      have c0:=cell_keep c0 hI.fr
      have c1:=cell_keep c1 hI.fr
      have c2:=cell_keep c2 hI.fr
      have c3:=cell_keep c3 hI.fr
      have c4:=cell_keep c4 hI.fr
      have c5:=cell_keep c5 hI.fr
      have hidx:(k:Int)<m:=by omega
      have hcost:=hC
      unfold Pz.cost at hcost
      have hcl:=HC.out
      have hyl:q.ys.length≤1048576:=by omega
      have hrl:q.raw.length≤16777216:=by omega
      have hab:x.c.all.length≤1099511627776:=by omega
      obtain⟨sp,sc,rfl,_,_⟩:=hz.slice
      have hrd0:=hrd
      obtain⟨rp,rc,rfl,_⟩:=hrd0
      have HWQ:=Hd hwq
      have HZ:=Hd hz
      have HRD:=Hd hrd
      have HYL:=Hd hyl
      have HRL:=Hd hrl
      have HAB:=Hd hab
      have HI:=Hd hI
      have HGO:=Hd hgo
      have HCC:=Hd hC
      have HBL:=Hd hbl
      have HAL:=Hd hal
      clear hwq hz hrd hyl hrl hab hI hgo hC hbl hal hcost hcl hq
      obtain⟨kind,lc,lp,pb,raw,ys⟩:=q
      simp only at c0 c1 c2 c3 c4 c5 HGO HCC HZ HRD HYL HRL
      have hfq:=(Fr.refl (fun _=>False) wr).alloc (.cells #[.int .i64 kind,.int .i64 lc,.int .i64 lp,.int .i64 pb,.slice sp ys.length sc,.slice rp raw.length rc] 108)
      have HBQ:=Hd (heap_alloc_new wr (.cells #[.int .i64 kind,.int .i64 lc,.int .i64 lp,.int .i64 pb,.slice sp ys.length sc,.slice rp raw.length rc] 108))
      have HIQ:=Hd (HI.out.keep hfq)
      clear hfq
      by_cases hk16:kind<1∨6<kind
      · have hrs:RS=.error 6:=by rw[HRS.out,HGO.out,if_pos hk16];rfl
        have HP:=Hd (show BuildPost w (after' RS) (.returned (.tuple #[.slice none 0 0,.int .i64 6])) (wr.alloc (.cells #[.int .i64 kind,.int .i64 lc,.int .i64 lp,.int .i64 pb,.slice sp ys.length sc,.slice rp raw.length rc] 108)) from by
          rw[hrs]
          exact⟨HIQ.out.fr,by decide,rfl⟩)
        clear hrs
        rcases hk16 with hk1|hk6
        · have t1:decide (kind<1)=true:=decide_eq_true hk1
          go_wp2_with fail
          go_ret2
          exact HP.out
        · have t1:decide (kind<1)=false:=decide_eq_false (by omega)
          have t2:decide (kind>6)=true:=decide_eq_true hk6
          have t3:decide (6<kind)=true:=decide_eq_true hk6
          go_wp2_with fail
          go_ret2
          exact HP.out
      · have t1:decide (kind<1)=false:=decide_eq_false (by omega)
        have t2:decide (kind>6)=false:=decide_eq_false (by omega)
        have t3:decide (6<kind)=false:=decide_eq_false (by omega)
        have hgo:=HGO.out
        rw[if_neg hk16] at hgo
        obtain⟨kd,rfl⟩:=Int.eq_ofNat_of_zero_le (show 0≤kind by omega)
        simp only[Int.toNat_natCast] at hgo
        have hkd:1≤kd∧kd≤6:=by omega
        have HKD:=Hd hkd
        have HGO:=Hd hgo
        have HORD:=Hd (order_calls Bo now kd _ HIQ.out.ord (HMV.out.step HIQ.out.fr (fun _ h=>h.elim)) HIQ.out.lt (by omega))
        clear hgo hk16
        go_wp2_with fail
        refine HORD.out.mono ?_
        rintro e w3 ⟨rfl,hf3,hO3⟩
        by_cases hmv:Ck.move now kd=4
        · rw[if_pos hmv]
          have hrs:RS=.error 2:=by rw[HRS.out,HGO.out,if_pos hmv];rfl
          have HP:=Hd (show BuildPost w (after' RS) (.returned (.tuple #[.slice none 0 0,.int .i64 2])) w3 from by
            rw[hrs]
            exact⟨HIQ.out.fr.trans' hf3 (fun k hk(e:k=Bo)=>by have:=HIQ.out.bo.1;omega),by decide,rfl⟩)
          clear hrs hf3 hO3
          go_wp2_with fail
          go_ret2
          exact HP.out
        · rw[if_neg hmv] at hO3
          rw[if_neg hmv]
          have HGO2:=Hd (show RS=_ from HRS.out.trans (HGO.out.trans (by rw[if_neg hmv])))
          have HI3:=Hd (HIQ.out.moved hf3 hO3 (move_le' now kd HIQ.out.lt (by omega) hmv))
          have hbq3:=hf3.keep HBQ.out (ne_of' HBQ.out (show(wr.alloc _).heap[Bo]? =some (.cells #[.int .i64 now] 174 (0,0)) from HIQ.out.ord) (by decide))
          have HBQ3:=Hd hbq3
          obtain⟨a0,a1,a2,a3,a4,a5⟩:=cs6 hbq3 rfl rfl rfl rfl rfl rfl
          have hbx:=HI3.out.box
          obtain⟨p0,p1,p2,pf⟩:=cf3 hbx rfl rfl rfl
          have HSZ3:=Hd (show wr.heap.size<w3.heap.size from lt_of_block hbq3)
          clear hf3 hO3 hbq3 HORD HIQ
          generalize wr.heap.size=bq at*
          by_cases h5:5≤kd
          · have t5:decide ((kd:Int)≥5)=true:=decide_eq_true (by omega)
            have t6:decide ((5:Int)≤kd)=true:=decide_eq_true (by omega)
            have hf4:Fr (fun k=>k=Bp) w3 (((w3.setCell ⟨Bp,0,none⟩ (.int .i64 lc)).setCell ⟨Bp,1,none⟩ (.int .i64 lp)).setCell ⟨Bp,2,none⟩ (.int .i64 pb)):=((Fr.one _ _ _ _).trans (Fr.one _ _ _ _)).trans (Fr.one _ _ _ _)
            have hbx4:=set_in (set_in (set_in hbx 0 (.int .i64 lc)) 1 (.int .i64 lp)) 2 (.int .i64 pb)
            have hpp:=HI3.out.propped hf4
            have hbq4:=hf4.keep HBQ3.out (ne_of' HBQ3.out hbx (by decide))
            have HX4:=Hd (show _∧_∧_∧_ from hpp)
            obtain⟨z0,z1,z2,z3,z4,z5⟩:=cs6 hbq4 rfl rfl rfl rfl rfl rfl
            have HBX4:=Hd (show(((w3.setCell ⟨Bp,0,none⟩ (.int .i64 lc)).setCell ⟨Bp,1,none⟩ (.int .i64 lp)).setCell ⟨Bp,2,none⟩ (.int .i64 pb)).heap[Bp]? =some (.cells #[.int .i64 lc,.int .i64 lp,.int .i64 pb] 24 (0,0)) from hbx4)
            obtain⟨y0,y1,y2⟩:=cs3 HBX4.out rfl rfl rfl
            have HPR:=Hd (show prOf ⟨kd,lc,lp,pb,raw,ys⟩ pr=(lc,lp,pb) from by unfold prOf;rw[if_pos (by simp only;omega)])
            have HSZ4:=Hd hf4.size
            have HG:=Hd (show(kd:Int)<5→Pi3.bad (lc,lp,pb)=false from fun h=>absurd h (by omega))
            have HPC:=Hd (part_calls (w0:=w) ⟨kd,lc,lp,pb,raw,ys⟩ (lc,lp,pb) (.slice sp ys.length sc) (.slice rp raw.length rc) HX4.out.2.1 HT.out HWQ.out (by simp only;omega) HG.out HWQ.out.lc HWQ.out.lp HWQ.out.pb HI3.out.k HX4.out.1 HI3.out.foot HZ.out HRD.out HYL.out HRL.out HAB.out)
            rw[HI3.out.D] at HPC
            clear hf4 hbx4 hpp hbq4 hbx
            generalize hw4:((w3.setCell ⟨Bp,0,none⟩ (.int .i64 lc)).setCell ⟨Bp,1,none⟩ (.int .i64 lp)).setCell ⟨Bp,2,none⟩ (.int .i64 pb)=w4 at*
            go_wp2_with fail
            refine HPC.out.mono ?_
            rintro e w5 hpost
            generalize hpp:partP x ⟨kd,lc,lp,pb,raw,ys⟩ (lc,lp,pb)=res at hpost
            cases res with
            |error er=>
              obtain⟨her,hf5,hv,bv,rfl⟩:=hpost
              have hrs:RS=.error er:=by rw[HGO2.out,HPR.out,hpp];rfl
              have hne:((er:Int) !=0)=true:=by simp;omega
              have HP:=Hd (show BuildPost w (after' RS) (.returned (.tuple #[.slice none 0 0,.int .i64 er])) w5 from by
                rw[hrs]
                exact⟨HX4.out.1.trans' hf5 (fun k hk e=>by have:=HI3.out.foot k e;omega),her,rfl⟩)
              clear hf5 hrs hpp
              go_wp2_with fail
              go_ret2
              exact HP.out
            |ok r=>
              obtain⟨b1,x2⟩:=r
              obtain⟨⟨hf5,l5,n5,e5⟩,hb,bb,hv,bv,rfl,rfl,hrh,hrb,hown⟩:=hpost
              obtain⟨g1,g2,g3⟩:=part_bd HWQ.out.byte HI3.out.k hpp
              have hRSn:RS=after (bs++(hb++bb)) (buildGo (l.drop (k+1)) (Ck.move now kd) x2 (lc,lp,pb)):=by
                rw[HGO2.out,HPR.out,hpp]
                simp only
                cases buildGo (l.drop (k+1)) (Ck.move now kd) x2 (lc,lp,pb) with
                |error e=>rfl
                |ok t=>simp[after]
              have hgd:Pi3.bad (lc,lp,pb)=false:=by
                by_cases h45:(kd:Int)<5
                · exact HG.out h45
                · have hq:=hpp
                  unfold partP at hq
                  simp only at hq
                  rw[if_neg (by omega)] at hq
                  by_cases hbd:Pi3.bad (lc,lp,pb)=true
                  · rw[if_pos ⟨by omega,hbd⟩] at hq
                    exact absurd hq (by simp)
                  · simpa using hbd
              have hoff5:∀B,B<w4.heap.size→¬XFoot l' B→¬XFoot l5 B:=fun B hB h=>n5.off hB h
              have hO5:=hf5.keep (show w4.heap[Bo]? =some (.cells #[.int .i64 (Ck.move now kd)] 174 (0,0)) from HX4.out.2.2.1) HI3.out.bo.2
              have hP5:=hf5.keep HBX4.out HI3.out.bp.2
              have hm5:=HX4.out.2.2.2.step hf5 (fun k hk=>HI3.out.off k hk)
              have HB5:=Hd (show BI w w5 D Bo Bp l5 x2 (Ck.move now kd) (lc,lp,pb) u10 bs from
                ⟨HX4.out.1.trans' hf5 (fun k hk e=>by have:=HI3.out.foot k e;omega),e5,n5.D.trans HI3.out.D,fun k hk=>(n5.F k hk).elim (HI3.out.foot k) (fun e=>Nat.le_trans HX4.out.1.size e),g3,hO5,HI3.out.lt,⟨HI3.out.bo.1,hoff5 _ (lt_of_block (show w4.heap[Bo]? =some (.cells #[.int .i64 (Ck.move now kd)] 174 (0,0)) from HX4.out.2.2.1)) HI3.out.bo.2⟩,hP5,⟨HI3.out.bp.1,hoff5 _ (lt_of_block HBX4.out) HI3.out.bp.2⟩,hgd,hm5,fun k hk=>hoff5 k (HX4.out.2.2.2.lt k hk) (HI3.out.off k hk)⟩)
              have HLT:=Hd (show∀k,u10.ownBlock=some k→w.heap.size≤k∧k<w4.heap.size from fun k hk=>⟨HX4.out.2.2.2.new k hk,HX4.out.2.2.2.lt k hk⟩)
              have HRSN:=Hd hRSn
              have HRH:=Hd hrh
              have HRB:=Hd hrb
              have HOWN:=Hd hown
              have hcb:=HCC.out
              unfold Pz.cost at hcb
              simp only at hcb g1 g2
              unfold Pz.cost at g1
              simp only at g1
              rw[List.length_append] at g1
              have hcl:=HC.out
              have hbl:=HBL.out
              have hal:=HAL.out
              have hbA:bs.length+hb.length≤70368744177664:=by omega
              have hbB:(bs++hb).length+bb.length≤70368744177664:=by rw[List.length_append];omega
              have hfinC:(C+(11+raw.length+52*ys.length))+costs (l.drop (k+1))=costs l∧((bs++hb)++bb).length≤C+(11+raw.length+52*ys.length)∧x2.c.all.length≤6*(C+(11+raw.length+52*ys.length)):=by
                rw[List.length_append,List.length_append]
                omega
              have HBA:=Hd hbA
              have HBB:=Hd hbB
              have HFC:=Hd hfinC
              have hz1:((0:Int) !=0)=false:=by decide
              clear hf5 n5 e5 hrh hrb hown g1 g2 g3 hRSn hgd hoff5 hO5 hP5 hm5 hpp hcb hcl hbl hal hbA hbB hfinC
              go_wp2_with (first
                | (at_builtin
                   refine append_mine rfl _ _ rfl (w0:=w) u10 hv bs hb rfl rfl HB5.out.out HB5.out.fr.size HRH.out HBA.out ?_
                   intro p6 cap6 n6 w6 hn6 hM6 hfr6 hnew6
                   have HM6:=Hd hM6
                   have HF6:=Hd hfr6
                   have HNW6:=Hd hnew6
                   have HRB6:=Hd (HRB.out.step hfr6 (fun k hk e=>by
                     have h1:=HLT.out k e
                     rcases HOWN.out k hk with h2|h2<;>omega))
                   have HE6:=Hd (HB5.out.e.beside HB5.out.out HB5.out.off hfr6)
                   clear hn6 hM6 hfr6 hnew6)
                | (at_builtin
                   refine append_mine rfl _ _ rfl (w0:=w) (.slice p6 n6 cap6) bv (bs++hb) bb rfl rfl HM6.out (Nat.le_trans HB5.out.fr.size HF6.out.size) HRB6.out HBB.out ?_
                   intro p7 cap7 n7 w7 hn7 hM7 hfr7 hnew7
                   have hoff6:∀k,(Value.slice p6 n6 cap6).ownBlock=some k→¬XFoot l5 k:=fun k hk=>by
                     rcases HNW6.out k hk with h|h
                     · exact HB5.out.off k h
                     · exact fun e=>by have:=HB5.out.e.lt k e;omega
                   have hO5:w5.heap[Bo]? =some (.cells #[.int .i64 (Ck.move now kd)] 174 (0,0)):=HB5.out.ord
                   have hne1:∀{j:Nat}{cs:Array Value}{t:TypeId}{fr:Nat×Nat},w5.heap[j]? =some (.cells cs t fr)→t≠5→w7.heap[j]? =some (.cells cs t fr):=fun{j cs t fr} hj ht=>by
                     have h6:=HF6.out.keep hj (fun e=>by obtain⟨cur,hc⟩:=own_block HB5.out.out.own e;exact ne_of' hj hc ht rfl)
                     exact hfr7.keep h6 (fun e=>by obtain⟨cur,hc⟩:=own_block HM6.out.own e;exact ne_of' h6 hc ht rfl)
                   have HB7:=Hd (show BI w w7 D Bo Bp l5 x2 (Ck.move now kd) (lc,lp,pb) (.slice p7 n7 cap7) ((bs++hb)++bb) from
                     ⟨(HB5.out.fr.trans' HF6.out (fun k h1 h2=>by have:=HB5.out.out.new k h2;omega)).trans' hfr7 (fun k h1 h2=>by have:=HM6.out.new k h2;omega),HE6.out.beside HM6.out hoff6 hfr7,HB5.out.D,HB5.out.foot,HB5.out.k,hne1 hO5 (by decide),HB5.out.lt,HB5.out.bo,hne1 HB5.out.box (by decide),HB5.out.bp,HB5.out.good,hM7,fun k hk=>by
                       rcases hnew7 k hk with h|h
                       · exact hoff6 k h
                       · exact fun e=>by have:=HE6.out.lt k e;omega⟩)
                   clear hn7 hM7 hfr7 hnew7 hoff6 hO5 hne1))
              go_roundw
              case rel=>exact⟨k+1,l5,x2,_,(lc,lp,pb),_,_,by have:=HN.out;omega,by go_num,HB7.out,by rw[←HRS.out,HRSN.out,←List.append_assoc],HFC.out.1,HFC.out.2.1,HFC.out.2.2⟩
              case measure=>simp[intOf];omega
          · have t5:decide ((kd:Int)≥5)=false:=decide_eq_false (by omega)
            have t6:decide ((5:Int)≤kd)=false:=decide_eq_false (by omega)
            obtain⟨qc,qp,qb⟩:=pr
            simp only at p0 p1 p2
            have HX4:=Hd (show Fr (fun _=>False) w w3∧XE w3 l' x∧OrdAt w3 Bo (Ck.move now kd)∧Mine w w3 u10 bs from⟨HI3.out.fr,HI3.out.e,HI3.out.ord,HI3.out.out⟩)
            have HBX4:=Hd hbx
            have HPR:=Hd (show prOf ⟨kd,lc,lp,pb,raw,ys⟩ (qc,qp,qb)=(qc,qp,qb) from by unfold prOf;rw[if_neg (by simp only;omega)])
            have HG:=Hd (show(kd:Int)<5→Pi3.bad (qc,qp,qb)=false from fun h=>HI3.out.good)
            have hqr:(-9223372036854775808≤qc∧qc≤9223372036854775807)∧(-9223372036854775808≤qp∧qp≤9223372036854775807)∧(-9223372036854775808≤qb∧qb≤9223372036854775807):=by
              have h:=HI3.out.good
              unfold Pi3.bad propsBad at h
              simp only[decide_eq_false_iff_not] at h
              omega
            have HPC:=Hd (part_calls (w0:=w) ⟨kd,lc,lp,pb,raw,ys⟩ (qc,qp,qb) (.slice sp ys.length sc) (.slice rp raw.length rc) HX4.out.2.1 HT.out HWQ.out (by simp only;omega) HG.out hqr.1 hqr.2.1 hqr.2.2 HI3.out.k HX4.out.1 HI3.out.foot HZ.out HRD.out HYL.out HRL.out HAB.out)
            rw[HI3.out.D] at HPC
            have HSZ4:=Hd (Nat.le_refl w3.heap.size)
            clear hbx hqr
            go_wp2_with fail
            refine HPC.out.mono ?_
            rintro e w5 hpost
            generalize hpp:partP x ⟨kd,lc,lp,pb,raw,ys⟩ (qc,qp,qb)=res at hpost
            cases res with
            |error er=>
              obtain⟨her,hf5,hv,bv,rfl⟩:=hpost
              have hrs:RS=.error er:=by rw[HGO2.out,HPR.out,hpp];rfl
              have hne:((er:Int) !=0)=true:=by simp;omega
              have HP:=Hd (show BuildPost w (after' RS) (.returned (.tuple #[.slice none 0 0,.int .i64 er])) w5 from by
                rw[hrs]
                exact⟨HX4.out.1.trans' hf5 (fun k hk e=>by have:=HI3.out.foot k e;omega),her,rfl⟩)
              clear hf5 hrs hpp
              go_wp2_with fail
              go_ret2
              exact HP.out
            |ok r=>
              obtain⟨b1,x2⟩:=r
              obtain⟨⟨hf5,l5,n5,e5⟩,hb,bb,hv,bv,rfl,rfl,hrh,hrb,hown⟩:=hpost
              obtain⟨g1,g2,g3⟩:=part_bd HWQ.out.byte HI3.out.k hpp
              have hRSn:RS=after (bs++(hb++bb)) (buildGo (l.drop (k+1)) (Ck.move now kd) x2 (qc,qp,qb)):=by
                rw[HGO2.out,HPR.out,hpp]
                simp only
                cases buildGo (l.drop (k+1)) (Ck.move now kd) x2 (qc,qp,qb) with
                |error e=>rfl
                |ok t=>simp[after]
              have hgd:Pi3.bad (qc,qp,qb)=false:=by
                by_cases h45:(kd:Int)<5
                · exact HG.out h45
                · have hq:=hpp
                  unfold partP at hq
                  simp only at hq
                  rw[if_neg (by omega)] at hq
                  by_cases hbd:Pi3.bad (qc,qp,qb)=true
                  · rw[if_pos ⟨by omega,hbd⟩] at hq
                    exact absurd hq (by simp)
                  · simpa using hbd
              have hoff5:∀B,B<w3.heap.size→¬XFoot l' B→¬XFoot l5 B:=fun B hB h=>n5.off hB h
              have hO5:=hf5.keep (show w3.heap[Bo]? =some (.cells #[.int .i64 (Ck.move now kd)] 174 (0,0)) from HX4.out.2.2.1) HI3.out.bo.2
              have hP5:=hf5.keep HBX4.out HI3.out.bp.2
              have hm5:=HX4.out.2.2.2.step hf5 (fun k hk=>HI3.out.off k hk)
              have HB5:=Hd (show BI w w5 D Bo Bp l5 x2 (Ck.move now kd) (qc,qp,qb) u10 bs from
                ⟨HX4.out.1.trans' hf5 (fun k hk e=>by have:=HI3.out.foot k e;omega),e5,n5.D.trans HI3.out.D,fun k hk=>(n5.F k hk).elim (HI3.out.foot k) (fun e=>Nat.le_trans HX4.out.1.size e),g3,hO5,HI3.out.lt,⟨HI3.out.bo.1,hoff5 _ (lt_of_block (show w3.heap[Bo]? =some (.cells #[.int .i64 (Ck.move now kd)] 174 (0,0)) from HX4.out.2.2.1)) HI3.out.bo.2⟩,hP5,⟨HI3.out.bp.1,hoff5 _ (lt_of_block HBX4.out) HI3.out.bp.2⟩,hgd,hm5,fun k hk=>hoff5 k (HX4.out.2.2.2.lt k hk) (HI3.out.off k hk)⟩)
              have HLT:=Hd (show∀k,u10.ownBlock=some k→w.heap.size≤k∧k<w3.heap.size from fun k hk=>⟨HX4.out.2.2.2.new k hk,HX4.out.2.2.2.lt k hk⟩)
              have HRSN:=Hd hRSn
              have HRH:=Hd hrh
              have HRB:=Hd hrb
              have HOWN:=Hd hown
              have hcb:=HCC.out
              unfold Pz.cost at hcb
              simp only at hcb g1 g2
              unfold Pz.cost at g1
              simp only at g1
              rw[List.length_append] at g1
              have hcl:=HC.out
              have hbl:=HBL.out
              have hal:=HAL.out
              have hbA:bs.length+hb.length≤70368744177664:=by omega
              have hbB:(bs++hb).length+bb.length≤70368744177664:=by rw[List.length_append];omega
              have hfinC:(C+(11+raw.length+52*ys.length))+costs (l.drop (k+1))=costs l∧((bs++hb)++bb).length≤C+(11+raw.length+52*ys.length)∧x2.c.all.length≤6*(C+(11+raw.length+52*ys.length)):=by
                rw[List.length_append,List.length_append]
                omega
              have HBA:=Hd hbA
              have HBB:=Hd hbB
              have HFC:=Hd hfinC
              have hz1:((0:Int) !=0)=false:=by decide
              clear hf5 n5 e5 hrh hrb hown g1 g2 g3 hRSn hgd hoff5 hO5 hP5 hm5 hpp hcb hcl hbl hal hbA hbB hfinC
              go_wp2_with (first
                | (at_builtin
                   refine append_mine rfl _ _ rfl (w0:=w) u10 hv bs hb rfl rfl HB5.out.out HB5.out.fr.size HRH.out HBA.out ?_
                   intro p6 cap6 n6 w6 hn6 hM6 hfr6 hnew6
                   have HM6:=Hd hM6
                   have HF6:=Hd hfr6
                   have HNW6:=Hd hnew6
                   have HRB6:=Hd (HRB.out.step hfr6 (fun k hk e=>by
                     have h1:=HLT.out k e
                     rcases HOWN.out k hk with h2|h2<;>omega))
                   have HE6:=Hd (HB5.out.e.beside HB5.out.out HB5.out.off hfr6)
                   clear hn6 hM6 hfr6 hnew6)
                | (at_builtin
                   refine append_mine rfl _ _ rfl (w0:=w) (.slice p6 n6 cap6) bv (bs++hb) bb rfl rfl HM6.out (Nat.le_trans HB5.out.fr.size HF6.out.size) HRB6.out HBB.out ?_
                   intro p7 cap7 n7 w7 hn7 hM7 hfr7 hnew7
                   have hoff6:∀k,(Value.slice p6 n6 cap6).ownBlock=some k→¬XFoot l5 k:=fun k hk=>by
                     rcases HNW6.out k hk with h|h
                     · exact HB5.out.off k h
                     · exact fun e=>by have:=HB5.out.e.lt k e;omega
                   have hO5:w5.heap[Bo]? =some (.cells #[.int .i64 (Ck.move now kd)] 174 (0,0)):=HB5.out.ord
                   have hne1:∀{j:Nat}{cs:Array Value}{t:TypeId}{fr:Nat×Nat},w5.heap[j]? =some (.cells cs t fr)→t≠5→w7.heap[j]? =some (.cells cs t fr):=fun{j cs t fr} hj ht=>by
                     have h6:=HF6.out.keep hj (fun e=>by obtain⟨cur,hc⟩:=own_block HB5.out.out.own e;exact ne_of' hj hc ht rfl)
                     exact hfr7.keep h6 (fun e=>by obtain⟨cur,hc⟩:=own_block HM6.out.own e;exact ne_of' h6 hc ht rfl)
                   have HB7:=Hd (show BI w w7 D Bo Bp l5 x2 (Ck.move now kd) (qc,qp,qb) (.slice p7 n7 cap7) ((bs++hb)++bb) from
                     ⟨(HB5.out.fr.trans' HF6.out (fun k h1 h2=>by have:=HB5.out.out.new k h2;omega)).trans' hfr7 (fun k h1 h2=>by have:=HM6.out.new k h2;omega),HE6.out.beside HM6.out hoff6 hfr7,HB5.out.D,HB5.out.foot,HB5.out.k,hne1 hO5 (by decide),HB5.out.lt,HB5.out.bo,hne1 HB5.out.box (by decide),HB5.out.bp,HB5.out.good,hM7,fun k hk=>by
                       rcases hnew7 k hk with h|h
                       · exact hoff6 k h
                       · exact fun e=>by have:=HE6.out.lt k e;omega⟩)
                   clear hn7 hM7 hfr7 hnew7 hoff6 hO5 hne1))
              go_roundw
              case rel=>exact⟨k+1,l5,x2,_,(qc,qp,qb),_,_,by have:=HN.out;omega,by go_num,HB7.out,by rw[←HRS.out,HRSN.out,←List.append_assoc],HFC.out.1,HFC.out.2.1,HFC.out.2.2⟩
              case measure=>simp[intOf];omega
    · obtain rfl:k=m:=by have:=HN.out;omega
      have hd0:l.drop k=[]:=List.drop_eq_nil_of_le (by have:=HN.out;omega)
      rw[hd0,buildGo] at hgo
      have hrs:RS=.ok bs:=by rw[HRS.out,hgo];simp[after]
      have hbb:bs.length≤16777216:=by have:=HC.out;omega
      have HBB:=Hd hbb
      have hf0:=(Fr.refl (fun _=>False) wr).alloc (.cells #[.int .u8 0] 5)
      have HO9:=Hd (hI.out.keep hf0)
      have HF9:=Hd (hI.fr.trans hf0)
      have HRD9:=Hd (rd_one wr wr.heap.size rfl 0 (0:Int) rfl)
      have HRSX:=Hd hrs
      clear hI hgo hC hbl hal hd0 hrs hbb hf0
      go_wp2_with (at_builtin
                   refine append_mine rfl _ _ rfl (w0:=w) u10 (.slice (some ⟨wr.heap.size,0,none⟩) 1 1) bs [0] rfl rfl HO9.out HF9.out.size HRD9.out (by have:=HBB.out;simp only[List.length_singleton];omega) ?_
                   intro p9 cap9 n9 w9 hn9 hM9 hfr9 hnew9
                   have HM9:=Hd hM9
                   have HF10:=Hd (HF9.out.trans' hfr9 (fun k h1 h2=>by have:=HO9.out.new k h2;omega))
                   clear hn9 hM9 hfr9 hnew9)
      go_ret2
      rw[HRSX.out]
      exact⟨HF10.out,_,rfl,HM9.out⟩
end En
end Go.Proofs.YtlgccpjccopdmaaGreatDoor
