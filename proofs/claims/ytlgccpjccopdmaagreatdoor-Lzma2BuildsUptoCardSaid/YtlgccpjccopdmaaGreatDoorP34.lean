/- Part 34 of 54: lemmas of the last part, each under the conditions that it names. -/
import Derived.Deep.RegionHeld3
import Derived.StillTailTactics
import Derived.Test.YtlgccpjccopdmaaGreatDoorP15
import Derived.Test.YtlgccpjccopdmaaGreatDoorP32
import Derived.Test.YtlgccpjccopdmaaGreatDoorP33
set_option linter.unusedVariables false
set_option linter.unusedSimpArgs false
set_option maxRecDepth 1500
set_option maxHeartbeats 8000000
namespace Go.Proofs.YtlgccpjccopdmaaGreatDoor
open Go.RowKit
namespace En
open Mem Rc Win Lz St
theorem XAt.wrote{w w':World}{l:XL}{x:Xe}{bytes:List UInt8}{rv':Value}{ring':List UInt8}{t':Nat}(h:XAt w l x)(hp:XSep l)(hfr:Fr (fun k=>k=l.W∨l.rv.ownBlock=some k) w w')(hW:Win.At w' l.W rv' x.c.size (x.c.all++bytes) ring' t')(hn:∀k,rv'.ownBlock=some k→l.rv.ownBlock=some k∨w.heap.size≤k):
 ∃rv' ring' t',XAt w' {l with rv:=rv',ring:=ring',t:=t'} ⟨x.c.on bytes,x.e⟩∧XSep {l with rv:=rv',ring:=ring',t:=t'}∧(∀k,rv'.ownBlock=some k→l.rv.ownBlock=some k∨w.heap.size≤k):=by
 have hoff:∀{k:Nat}{cs:Array Value}{t:TypeId}{fr:Nat×Nat},w.heap[k]? =some (.cells cs t fr)→t≠178→t≠5→¬(k=l.W∨l.rv.ownBlock=some k):=by
  intro k cs t fr hk h1 h2 h3
  rcases h3 with h3|h3
  ·rw[h3,h.win.box] at hk
   simp only[Option.some.injEq,Obj.cells.injEq] at hk
   exact h1 hk.2.1.symm
  ·obtain⟨cur,hc⟩:=own_block h.win.own h3
   rw[hc] at hk
   simp only[Option.some.injEq,Obj.cells.injEq] at hk
   exact h2 hk.2.1.symm
 obtain⟨g,a,hg⟩:=h.rc
 have hvW:∀k,l.v.ownBlock=some k→¬(k=l.W∨l.rv.ownBlock=some k):=by
  intro k hk h3
  rcases h3 with h3|h3
  ·obtain⟨cur,hc⟩:=own_block a.own hk
   rw[h3,h.win.box] at hc
   simp at hc
  ·exact hp.rv k h3 hk
 refine⟨rv',ring',t',⟨hfr.keep h.d (hoff h.d (by decide) (by decide)),⟨hfr.keep h.tab.box (hoff h.tab.box (by decide) (by decide)),fun j hj=> ?_,h.tab.inj⟩,hW,⟨g,a.keep hfr (hoff a.box (by decide) (by decide)) hvW,hg⟩,⟨⟨h.ok.c.l,h.ok.c.pb,h.ok.c.s⟩,h.ok.e⟩⟩,⟨fun k hk he=> ?_⟩,hn⟩
 ·obtain⟨_,_,hb,hg,_⟩:=h.tab.set j hj
  exact(h.tab.set j hj).step hfr (hoff hb (by decide) (by decide)) (hoff hg (by decide) (by decide))
 ·rcases hn k hk with h1|h1
  ·exact hp.rv k h1 he
  ·have:=(World.ownsRow.lt a.own k he).2
   omega
theorem XAt.applied{w w':World}{l:XL}{x:Xe}{bytes:List UInt8}{v:Value}(h:XAt w l x)(hp:XSep l)(hd:Done w l.W x.c.size l.rv x.c.all bytes v w'):
 ∃rv' ring' t',XAt w' {l with rv:=rv',ring:=ring',t:=t'} ⟨x.c.on bytes,x.e⟩∧XSep {l with rv:=rv',ring:=ring',t:=t'}∧(∀k,rv'.ownBlock=some k→l.rv.ownBlock=some k∨w.heap.size≤k):=by
 obtain⟨hfr,hmine,rv',ring',t',hW,hn,hv⟩:=hd
 exact h.wrote hp hfr hW hn
theorem XAt.stated{w w':World}{l:XL}{x:Xe}(h:XAt w l x)(s:S)(hs:s.Ok)(hfr:Fr (fun k=>k=l.T) w w')(hT:w'.heap[l.T]? =some (.cells (tabV x.c.lc x.c.lp x.c.pb s l.b) 188 (0,0))):XAt w' l ⟨x.c.to s,x.e⟩:=by
 have hoff:∀{k:Nat}{cs:Array Value}{t:TypeId}{fr:Nat×Nat},w.heap[k]? =some (.cells cs t fr)→t≠188→¬k=l.T:=by
  intro k cs t fr hk h1 h2
  rw[h2,h.tab.box] at hk
  simp only[Option.some.injEq,Obj.cells.injEq] at hk
  exact h1 hk.2.1.symm
 obtain⟨g,a,hg⟩:=h.rc
 refine⟨hfr.keep h.d (hoff h.d (by decide)),⟨hT,fun j hj=> ?_,h.tab.inj⟩,h.win.keep hfr (hoff h.win.box (by decide)) (fun k hk=> ?_),⟨g,a.keep hfr (hoff a.box (by decide)) (fun k hk=> ?_),hg⟩,⟨⟨h.ok.c.l,h.ok.c.pb,hs⟩,h.ok.e⟩⟩
 ·obtain⟨_,_,hb,hg,_⟩:=h.tab.set j hj
  exact(h.tab.set j hj).step hfr (hoff hb (by decide)) (hoff hg (by decide))
 ·obtain⟨cur,hc⟩:=own_block h.win.own hk
  exact hoff hc (by decide)
 ·obtain⟨cur,hc⟩:=own_block a.own hk
  exact hoff hc (by decide)
theorem err_of(size:Nat)(all:List UInt8)(s:S)(z:Sz)(hb:z.byte<256):(applyZ size all s z).1=if z.bad=0 then(if z.kind=1 then 0 else(last size all (distOf s z.sy)).2) else z.bad:=by
 unfold applyZ
 by_cases h0:z.bad=0
 ·rw[if_pos h0,if_pos h0]
  obtain⟨hy,hn⟩:=Sz.ok h0 hb
  unfold apply last
  rw[if_pos (hn s)]
  have hk:=hy.kind
  by_cases h1:z.kind=1
  ·rw[if_pos h1,if_pos (by simp[Sz.sy,h1])]
  ·rw[if_neg h1,if_neg (by simp only[Sz.sy] at hk ⊢;omega)]
   split<;>rfl
 ·rw[if_neg h0,if_neg h0]
set_option maxRecDepth 100000 in
theorem may_calls{w:World}{l:XL}{x:Xe}(h:XAt w l x)(hT:Tabs w)(z:Sz)(hb:z.byte<256):
 Calls Tryz.prog 116 #[ptr l.D,.agg z.cells] w fun e w'=>e=.returned (.int .i64 (applyZ x.c.size x.c.all x.c.s z).1)∧Fr (fun _=>False) w w':=by
 rw[err_of _ _ _ z hb]
 have hN0:=fun W(hW:Fr (fun _=>False) w W)=>next_any x.c.s h.ok.c.s z hb W (hT.keep hW)
 have hL:=fun W(hW:Fr (fun _=>False) w W)(d:Nat)=>last_calls l.W x.c.size l.t d l.rv x.c.all l.ring W (h.keep hW).win
 generalize hr:(if z.bad=0 then(x.c.s.next z.sy).2 else S.zero)=r at*
 clear hr
 obtain⟨rn,ra,rb,rc,rd⟩:=r
 have hKD:=fun W(hW:Fr (fun _=>False) w W)=>hW.keep h.d (fun h=>h)
 have hKT:=fun W(hW:Fr (fun _=>False) w W)=>hW.keep h.tab.box (fun h=>h)
 generalize hlast:last x.c.size x.c.all=la at*
 clear hlast h hT
 obtain⟨kind,byte,len,dist⟩:=z
 obtain⟨⟨lc,lp,pb,s,size,all⟩,es⟩:=x
 obtain⟨sn,s0',s1',s2',s3'⟩:=s
 simp only[Sz.cells,S.cells,tabV] at*
 have hbx:=heap_alloc_new w (.cells #[.int .i64 kind,.int .u8 byte,.int .i64 len,.int .i64 dist] 96)
 have hf0:=(Fr.refl (fun _=>False) w).alloc (.cells #[.int .i64 kind,.int .u8 byte,.int .i64 len,.int .i64 dist] 96)
 have HN:=fun W hW=>Hd (hN0 W hW)
 have HL:=Hd hL
 have HD:=Hd (hKD _ hf0)
 have HT:=Hd (hKT _ hf0)
 have HF0:=Hd hf0
 have HX:=Hd hbx
 clear hN0 hL hKD hKT hf0 hbx
 go_enter Tryz.func116,Tryz.ntmps116
 go_wp2_with fail
 generalize w.alloc (.cells #[.int .i64 kind,.int .u8 byte,.int .i64 len,.int .i64 dist] 96)=wb at*
 generalize w.heap.size=b0 at*
 have HS:=Hd (show∀w',Fr (fun _=>False) wb w'→w'.cell? ⟨l.D,0,none⟩=some (ptr l.T)∧w'.cell? ⟨l.D,1,none⟩=some (ptr l.W)∧w'.cell? ⟨l.T,3,none⟩=some (.int .i64 sn)∧w'.cell? ⟨l.T,4,none⟩=some (.int .i64 s0')∧w'.cell? ⟨l.T,5,none⟩=some (.int .i64 s1')∧w'.cell? ⟨l.T,6,none⟩=some (.int .i64 s2')∧w'.cell? ⟨l.T,7,none⟩=some (.int .i64 s3')∧
  w'.cell? ⟨b0,0,none⟩=some (.int .i64 kind)∧w'.cell? ⟨b0,1,none⟩=some (.int .u8 byte)∧w'.cell? ⟨b0,2,none⟩=some (.int .i64 len)∧w'.cell? ⟨b0,3,none⟩=some (.int .i64 dist) from fun w' hf=>by
  have hd:=hf.keep HD.out (fun h=>h)
  have ht:=hf.keep HT.out (fun h=>h)
  have hz:=hf.keep HX.out (fun h=>h)
  exact⟨cell_in hd rfl,cell_in hd rfl,cell_in ht rfl,cell_in ht rfl,cell_in ht rfl,cell_in ht rfl,cell_in ht rfl,cell_in hz rfl,cell_in hz rfl,cell_in hz rfl,cell_in hz rfl⟩)
 clear HD HT HX
 go_cut [6] (fun s6 wx=>s6=.int .i64 (Sz.bad ⟨kind,byte,len,dist⟩:Nat)∧Fr (fun _=>False) wb wx)
 case first=>
  have FC:=Hd (Fr.refl (fun _=>False) wb).drew
  have HSC:=Hd (HS.out _ FC.out)
  have tt:=HSC.out
  obtain⟨t0,t1,t2,t3,t4,t5,t6,t7,t8,t9,t10⟩:=tt
  generalize Sz.bad ⟨kind,byte,len,dist⟩=bad at*
  go_region_held3 (fun w'=>w'.cell? ⟨l.D,0,none⟩=some (ptr l.T)∧w'.cell? ⟨l.D,1,none⟩=some (ptr l.W)∧w'.cell? ⟨l.T,3,none⟩=some (.int .i64 sn)∧w'.cell? ⟨l.T,4,none⟩=some (.int .i64 s0')∧w'.cell? ⟨l.T,5,none⟩=some (.int .i64 s1')∧w'.cell? ⟨l.T,6,none⟩=some (.int .i64 s2')∧w'.cell? ⟨l.T,7,none⟩=some (.int .i64 s3')∧
   w'.cell? ⟨b0,0,none⟩=some (.int .i64 kind)∧w'.cell? ⟨b0,1,none⟩=some (.int .u8 byte)∧w'.cell? ⟨b0,2,none⟩=some (.int .i64 len)∧w'.cell? ⟨b0,3,none⟩=some (.int .i64 dist))
   (first|with_reducible exact HSC.out|(refine HS.out _ ?_;(repeat refine Fr.setCell ?_ (.inr (by first|exact FC.out.size|exact HY.out)) _);first|exact FC.out|exact FC.out.alloc _)) ((first
   | (go_at_call 97
      first
       | (refine (HN _ (HF0.out.trans FC.out)).out.mono ?_
          rintro e wc ⟨rfl,hfrc⟩
          have FC:=Hd (FC.out.trans hfrc)
          have HSC:=Hd (HS.out _ FC.out)
          have tt:=HSC.out
          obtain⟨t0,t1,t2,t3,t4,t5,t6,t7,t8,t9,t10⟩:=tt
          clear hfrc)
       | (refine (HN _ (HF0.out.trans (FC.out.alloc _))).out.mono ?_
          rintro e wc ⟨rfl,hfrc⟩
          have HY:=Hd FC.out.size
          have FC:=Hd ((FC.out.alloc _).trans hfrc)
          have HSC:=Hd (HS.out _ FC.out)
          have tt:=HSC.out
          obtain⟨t0,t1,t2,t3,t4,t5,t6,t7,t8,t9,t10⟩:=tt
          have hz:=hfrc.keep (heap_alloc_new _ _) (fun h=>h)
          try simp only[World.size_drew] at hz
          obtain⟨z0,z1,z2,z3,z4,zf⟩:=cf5 hz rfl rfl rfl rfl rfl
          have HZ:=Hd hz
          clear hz
          clear hfrc))))
  all_goals
   go_wp2_with fail
   go_meet
   refine⟨rfl,?_⟩
   (repeat refine Fr.setCell ?_ (.inr (by first|exact FC.out.size|exact HY.out)) _)
   first|exact FC.out|exact FC.out.alloc _
 case rest=>
  obtain⟨h6,hfr⟩:=hcut
  have HF:=Hd (HF0.out.trans hfr)
  have tt:=HS.out _ hfr
  obtain⟨t0,t1,t2,t3,t4,t5,t6,t7,t8,t9,t10⟩:=tt
  clear HN HS HF0 hfr
  by_cases hbad:Sz.bad ⟨kind,byte,len,dist⟩=0
  ·rw[hbad] at h6
   subst h6
   have HBAD:=Hd hbad
   have hcase:kind=1∨kind=4∨(kind=2∧∃d:Nat,dist=d)∨(kind=3∧(dist=0∨dist=1∨dist=2∨dist=3)):=by
    unfold Sz.bad at hbad
    simp only at hbad
    by_cases h1:kind=1∨kind=4
    ·omega
    ·rw[if_neg h1] at hbad
     by_cases h2:kind=2
     ·rw[if_pos h2] at hbad
      by_cases hc:(2≤len∧len≤273)∧1≤dist∧dist≤4294967295
      ·exact .inr (.inr (.inl ⟨h2,dist.toNat,by omega⟩))
      ·rw[if_neg hc] at hbad
       simp at hbad
     ·rw[if_neg h2] at hbad
      by_cases h3:kind=3
      ·rw[if_pos h3] at hbad
       by_cases hc:(2≤len∧len≤273)∧0≤dist∧dist≤3
       ·exact .inr (.inr (.inr ⟨h3,by omega⟩))
       ·rw[if_neg hc] at hbad
        simp at hbad
      ·rw[if_neg h3] at hbad
       simp at hbad
   clear hbad
   rcases hcase with rfl|rfl|⟨rfl,d,rfl⟩|⟨rfl,rfl|rfl|rfl|rfl⟩
   ·go_wp2_with fail
    go_ret
    exact⟨by simp[HBAD.out],HF.out⟩
   ·go_wp2_with fail
    refine(HL.out _ HF.out s0').mono ?_
    rintro e w2 ⟨rfl,rfl⟩
    go_wp2_with fail
    go_ret
    exact⟨by simp[HBAD.out,distOf,Sz.sy],HF.out⟩
   ·go_wp2_with fail
    refine(HL.out _ HF.out d).mono ?_
    rintro e w2 ⟨rfl,rfl⟩
    go_wp2_with fail
    go_ret
    exact⟨by simp[HBAD.out,distOf,Sz.sy],HF.out⟩
   ·go_wp2_with fail
    go_quiet (fail)
    go_wp2_with fail
    refine(HL.out _ (HF.out.drewN _) s0').mono ?_
    rintro e w2 ⟨rfl,rfl⟩
    go_wp2_with fail
    go_ret
    exact⟨by simp[HBAD.out,distOf,repAt,Sz.sy],HF.out.drewN _⟩
   ·go_wp2_with fail
    go_quiet (fail)
    go_wp2_with fail
    refine(HL.out _ (HF.out.drewN _) s1').mono ?_
    rintro e w2 ⟨rfl,rfl⟩
    go_wp2_with fail
    go_ret
    exact⟨by simp[HBAD.out,distOf,repAt,Sz.sy],HF.out.drewN _⟩
   ·go_wp2_with fail
    go_quiet (fail)
    go_wp2_with fail
    refine(HL.out _ (HF.out.drewN _) s2').mono ?_
    rintro e w2 ⟨rfl,rfl⟩
    go_wp2_with fail
    go_ret
    exact⟨by simp[HBAD.out,distOf,repAt,Sz.sy],HF.out.drewN _⟩
   ·go_wp2_with fail
    go_quiet (fail)
    go_wp2_with fail
    refine(HL.out _ (HF.out.drewN _) s3').mono ?_
    rintro e w2 ⟨rfl,rfl⟩
    go_wp2_with fail
    go_ret
    exact⟨by simp[HBAD.out,distOf,repAt,Sz.sy],HF.out.drewN _⟩
  ·have HBAD:=Hd hbad
   generalize hbd:Sz.bad ⟨kind,byte,len,dist⟩=bad at h6 hbad
   have HBD:=Hd hbd
   subst h6
   have e1:(((bad:Nat):Int)==0)=false:=by simp;omega
   have e2:(((bad:Nat):Int) !=0)=true:=by simp;omega
   clear hbd
   go_wp2_with fail
   go_ret
   exact⟨by rw[HBD.out];rfl,HF.out⟩
end En
namespace En
open Mem Rc Win Lz St
structure XLow(l:XL):Prop where
 T:5≤l.T
 W:5≤l.W
 E:5≤l.E
 g:∀j,j<18→5≤l.g j
 v:∀k,l.v.ownBlock=some k→5≤k
 rv:∀k,l.rv.ownBlock=some k→5≤k
def XG(l:XL)(k:Nat):Prop:=XF l k∨k=l.W∨l.rv.ownBlock=some k∨k=l.T
theorem XLow.g5{l:XL}(h:XLow l):∀k,XG l k→5≤k:=by
 rintro k (((rfl|e)|⟨j,hj,rfl⟩)|rfl|e|rfl)
 ·exact h.E
 ·exact h.v k e
 ·exact h.g j hj
 ·exact h.W
 ·exact h.rv k e
 ·exact h.T
structure XPut(l:XL)(w:World)(x:Xe)(w':World):Prop where
 fr:Fr (XG l) w w'
 at':∃v' rv' ring' t',XAt w' {l with v:=v',rv:=rv',ring:=ring',t:=t'} x∧XSep {l with v:=v',rv:=rv',ring:=ring',t:=t'}∧(∀k,v'.ownBlock=some k→l.v.ownBlock=some k∨w.heap.size≤k)∧(∀k,rv'.ownBlock=some k→l.rv.ownBlock=some k∨w.heap.size≤k)
theorem done_new{w W2 wx wy:World}{B size g:Nat}{rv v:Value}{all bytes:List UInt8}(hF:Fr (fun _=>False) w W2)(h:Done W2 B size rv all bytes v wx)(hch:Fr (fun k=>k=g) wx wy)(hg0:w.heap.size≤g)(hg1:g<W2.heap.size∨wx.heap.size≤g)(hB:B<w.heap.size)(hrv:∀k,rv.ownBlock=some k→k<w.heap.size):Done w B size rv all bytes v wy:=by
 rcases hg1 with hg1|hg1
 ·exact h.fin hF hch hg0 hg1 hB hrv
 ·obtain⟨h1,h2,rv',ring',t',h3,h4,h5⟩:=h
  have hs:=hF.size
  refine⟨((hF.mono (fun _ _ h=>h.elim)).trans h1).trans' hch (fun i hi(e:i=g)=>by omega),⟨(h2.step hch (fun k hk(e:k=g)=>by have:=(World.ownsRow.lt h2.own k hk).2;omega)).own,fun k hk=>Nat.le_trans hs (h2.new k hk)⟩,rv',ring',t',h3.keep hch (fun(e:B=g)=>by omega) (fun k hk(e:k=g)=> ?_),fun k hk=>(h4 k hk).imp id (Nat.le_trans hs),h5⟩
  have:=(World.ownsRow.lt h3.own k hk).2
  omega
theorem lif{S:Nat→Prop}{w w':World}(h:Fr (fun _=>False) w w'):Fr S w w':=h.mono (fun _ _ h=>h.elim)
set_option maxRecDepth 100000 in
theorem eput_calls{w:World}{l:XL}{x:Xe}(h:XAt w l x)(hp:XSep l)(hlow:XLow l)(hT:Tabs w)(z:Sz)(hb:z.byte<256)(hs:x.e.k.s≤1099511610000)(hm:x.c.all.length≤1152921504606846000):
 Calls Tryz.prog 67 #[ptr l.D,.agg z.cells] w fun e w'=>e=.returned (.int .i64 (applyZ x.c.size x.c.all x.c.s z).1)∧(if(applyZ x.c.size x.c.all x.c.s z).1=0 then XPut l w (x.put z.sy) w' else Fr (fun _=>False) w w'):=by
 have hbx:=heap_alloc_new w (.cells z.cells 96)
 have hf0:=(Fr.refl (fun _=>False) w).alloc (.cells z.cells 96)
 have hMAY:=fun W(hW:Fr (fun _=>False) w W)=>may_calls (h.keep hW) (hT.keep hW) z hb
 have hCODE:=fun(hz:z.bad=0) W(hW:Fr (fun _=>False) w W)=>code_calls (h.keep hW) hp z hz hb hs
 have hAP:=fun W v'(hA:XAt W {l with v:=v'} (x.ops (symOps x.c z.sy)))(hTW:Tabs W)=>apply_any l.W x.c.size l.t l.rv x.c.all l.ring x.c.s h.ok.c.s z hb W hTW hA.win hm
 have hbad:(applyZ x.c.size x.c.all x.c.s z).1=0→z.bad=0:=by
  intro h0
  unfold applyZ at h0
  by_cases hz:z.bad=0
  ·exact hz
  ·rw[if_neg hz] at h0
   exact h0
 have hput:z.bad=0→x.put z.sy=⟨(x.c.on (applyZ x.c.size x.c.all x.c.s z).2.1).to (applyZ x.c.size x.c.all x.c.s z).2.2,x.e.run (symOps x.c z.sy)⟩:=by
  intro hz
  unfold applyZ
  rw[if_pos hz]
  rfl
 have hsok:(applyZ x.c.size x.c.all x.c.s z).1=0→(applyZ x.c.size x.c.all x.c.s z).2.2.Ok:=by
  intro h0
  have hz:=hbad h0
  unfold applyZ at h0 ⊢
  rw[if_pos hz] at h0 ⊢
  exact apply_ok h0 h.ok.c.s
 generalize hyy:x.put z.sy=xp at*
 generalize applyZ x.c.size x.c.all x.c.s z=ap at*
 obtain⟨er,bytes,st⟩:=ap
 obtain⟨sn,sr0,sr1,sr2,sr3⟩:=st
 obtain⟨kind,byte,len,dist,hzc⟩:∃(k:Int)(b:Nat)(n d:Int),z.cells=#[.int .i64 k,.int .u8 b,.int .i64 n,.int .i64 d]:=⟨_,_,_,_,rfl⟩
 simp only[hzc,S.cells] at hMAY hCODE hAP hbx hf0 hput hbad hsok ⊢
 have HMAY:=fun W hW=>Hd (hMAY W hW)
 have HCODE:=fun hz W hW=>Hd (hCODE hz W hW)
 have HAP:=fun W v' hA hTW=>Hd (hAP W v' hA hTW)
 have HBAD:=Hd hbad
 have HPUT:=Hd hput
 have HSOK:=Hd hsok
 have HX:=Hd hbx
 have HF0:=Hd hf0
 have HA0:=Hd h
 have HT:=Hd hT
 have HLOW:=Hd hlow
 clear hMAY hCODE hAP hbad hput hsok hbx hf0 h hT hlow hzc
 go_enter Tryz.func67,Tryz.ntmps67
 go_wp2_with fail
 generalize w.alloc (.cells #[.int .i64 kind,.int .u8 byte,.int .i64 len,.int .i64 dist] 96)=wb at*
 generalize hb0:w.heap.size=b0 at*
 have HB0:=Hd hb0
 clear hb0
 obtain⟨z0,z1,z2,z3⟩:=cs4 HX.out rfl rfl rfl rfl
 go_wp2_with fail
 refine(HMAY _ HF0.out).out.mono ?_
 rintro e w1 ⟨rfl,hfr⟩
 have HX1:=Hd (hfr.keep HX.out (fun h=>h))
 have HF1:=Hd (HF0.out.trans hfr)
 clear hfr z0 z1 z2 z3 HX HF0 HMAY
 by_cases her:er=0
 ·subst her
  have hz:=HBAD.out rfl
  have HA1:=Hd (HA0.out.keep HF1.out)
  obtain⟨z0,z1,z2,z3⟩:=cs4 HX1.out rfl rfl rfl rfl
  have k2:=cell_in (i:=2) HA1.out.d rfl
  go_wp2_with fail
  go_still_tail 8,(by kernel_rfl)
  go_wp2_with fail
  refine(HCODE hz _ HF1.out.drew).out.mono ?_
  rintro e w2 ⟨rfl,hq⟩
  have hx2:=(HA1.out.keep (Fr.refl (fun _=>False) w1).drew).off ((Fr.refl (fun _=>False) w1).drew.keep HX1.out (fun h=>h)) (by decide) (by decide) (by decide)
  obtain⟨f2,v2,a2,s2,n2⟩:=hq
  have HX2:=Hd (f2.keep ((Fr.refl (fun _=>False) w1).drew.keep HX1.out (fun h=>h)) hx2)
  have HF2:=Hd ((lif (S:=XF l) HF1.out.drew).trans f2)
  have HA2:=Hd a2
  have HS2:=Hd s2
  have HN2:=Hd (show∀k,v2.ownBlock=some k→l.v.ownBlock=some k∨w.heap.size≤k from fun k hk=>(n2 k hk).imp id (fun h=>Nat.le_trans HF1.out.drew.size h))
  have HT2:=Hd (HT.out.step HF2.out (fun k hk=>HLOW.out.g5 k (.inl hk)))
  clear hx2 f2 a2 s2 n2 z0 z1 z2 z3 k2 HCODE HA1 HX1
  have hoff:∀{k:Nat}{cs:Array Value}{t:TypeId}{fr:Nat×Nat},w2.heap[k]? =some (.cells cs t fr)→t≠178→t≠5→¬(k=l.W∨l.rv.ownBlock=some k∨w2.heap.size≤k):=by
   intro k cs t fr hk h1 h2 h3
   rcases h3 with h3|h3|h3
   ·have hb:=HA2.out.win.box
    simp only at hb
    rw[h3,hb] at hk
    simp only[Option.some.injEq,Obj.cells.injEq] at hk
    exact h1 hk.2.1.symm
   ·obtain⟨cur,hc⟩:=own_block HA2.out.win.own h3
    rw[hc] at hk
    simp only[Option.some.injEq,Obj.cells.injEq] at hk
    exact h2 hk.2.1.symm
   ·have:=lt_of_block hk
    omega
  have HKEEP:=Hd (show∀w':World,Fr (fun k=>k=l.W∨l.rv.ownBlock=some k∨w2.heap.size≤k) w2 w'→w'.cell? ⟨l.D,0,none⟩=some (ptr l.T)∧w'.cell? ⟨l.D,1,none⟩=some (ptr l.W)∧w'.cell? ⟨l.T,3,none⟩=some (.int .i64 x.c.s.num)∧w'.cell? ⟨l.T,4,none⟩=some (.int .i64 x.c.s.r0)∧w'.cell? ⟨l.T,5,none⟩=some (.int .i64 x.c.s.r1)∧w'.cell? ⟨l.T,6,none⟩=some (.int .i64 x.c.s.r2)∧w'.cell? ⟨l.T,7,none⟩=some (.int .i64 x.c.s.r3)∧
   w'.cell? ⟨b0,0,none⟩=some (.int .i64 kind)∧w'.cell? ⟨b0,1,none⟩=some (.int .u8 byte)∧w'.cell? ⟨b0,2,none⟩=some (.int .i64 len)∧w'.cell? ⟨b0,3,none⟩=some (.int .i64 dist) from fun w' hf=>by
   have hd:=hf.keep HA2.out.d (hoff HA2.out.d (by decide) (by decide))
   have ht:=hf.keep HA2.out.tab.box (hoff HA2.out.tab.box (by decide) (by decide))
   have hz:=hf.keep HX2.out (hoff HX2.out (by decide) (by decide))
   exact⟨cell_in hd rfl,cell_in hd rfl,cell_in ht rfl,cell_in ht rfl,cell_in ht rfl,cell_in ht rfl,cell_in ht rfl,cell_in hz rfl,cell_in hz rfl,cell_in hz rfl,cell_in hz rfl⟩)
  have HNEW:=Hd (show∀k,w2.heap.size≤k→¬(k=l.W∨l.rv.ownBlock=some k) from fun k hk h3=>by
   rcases h3 with h3|h3
   ·have h4:=lt_of_block HA2.out.win.box
    simp only at h4
    omega
   ·have:=(World.ownsRow.lt HA2.out.win.own k h3).2
    omega)
  clear hoff
  have HAP2:=fun W(hW:Fr (fun _=>False) w2 W)=>HAP W v2 (HA2.out.keep hW) (HT2.out.keep hW)
  clear HAP
  have FC:=Hd (Fr.refl (fun k=>k=l.W∨l.rv.ownBlock=some k∨w2.heap.size≤k) w2).drew
  have HSC:=Hd (HKEEP.out _ FC.out)
  have tt:=HSC.out
  obtain⟨t0,t1,t2,t3,t4,t5,t6,t7,t8,t9,t10⟩:=tt
  go_wp2_with fail
  go_cut [7,8] (fun s7 s8 wx=>∃zs v wc,s7=.pointer (some ⟨zs,0,none⟩)∧s8=.int .i64 0∧w2.heap.size≤zs∧wx.heap[zs]? =some (.cells #[.int .i64 sn,.int .i64 sr0,.int .i64 sr1,.int .i64 sr2,.int .i64 sr3] 71 (0,0))∧(∃wa,Fr (fun _=>False) w2 wa∧Done wa l.W x.c.size l.rv x.c.all bytes v wc∧(zs<wa.heap.size∨wc.heap.size≤zs))∧Fr (fun k=>k=zs) wc wx)
  case first=>
   go_region_held3 (fun w'=>w'.cell? ⟨l.D,0,none⟩=some (ptr l.T)∧w'.cell? ⟨l.D,1,none⟩=some (ptr l.W)∧w'.cell? ⟨l.T,3,none⟩=some (.int .i64 x.c.s.num)∧w'.cell? ⟨l.T,4,none⟩=some (.int .i64 x.c.s.r0)∧w'.cell? ⟨l.T,5,none⟩=some (.int .i64 x.c.s.r1)∧w'.cell? ⟨l.T,6,none⟩=some (.int .i64 x.c.s.r2)∧w'.cell? ⟨l.T,7,none⟩=some (.int .i64 x.c.s.r3)∧
    w'.cell? ⟨b0,0,none⟩=some (.int .i64 kind)∧w'.cell? ⟨b0,1,none⟩=some (.int .u8 byte)∧w'.cell? ⟨b0,2,none⟩=some (.int .i64 len)∧w'.cell? ⟨b0,3,none⟩=some (.int .i64 dist))
    (first|with_reducible exact HSC.out|(refine HKEEP.out _ ?_;(repeat refine Fr.setCell ?_ (.inl (.inr (.inr (by first|exact FC.out.size|exact HY.out)))) _);first|exact FC.out|exact FC.out.alloc _)) ((first
    | (go_at_call 56
       first
        | (refine (HAP2 _ (Fr.refl _ _).drew).out.mono ?_
           rintro e wc ⟨v,rfl,hdone⟩
           have FC:=Hd (FC.out.trans (hdone.fr.mono (fun i _ hi=>by rcases hi with hi|hi;exact .inl hi;exact .inr (.inl hi))))
           have HSC:=Hd (HKEEP.out _ FC.out)
           have tt:=HSC.out
           obtain⟨t0,t1,t2,t3,t4,t5,t6,t7,t8,t9,t10⟩:=tt
           have HDONE:=Hd hdone
           clear hdone)
        | (refine (HAP2 _ ((Fr.refl _ _).drew.alloc _)).out.mono ?_
           rintro e wc ⟨v,rfl,hdone⟩
           have HY:=Hd FC.out.size
           have FC:=Hd ((FC.out.alloc _).trans (hdone.fr.mono (fun i _ hi=>by rcases hi with hi|hi;exact .inl hi;exact .inr (.inl hi))))
           have HSC:=Hd (HKEEP.out _ FC.out)
           have tt:=HSC.out
           obtain⟨t0,t1,t2,t3,t4,t5,t6,t7,t8,t9,t10⟩:=tt
           have hz:=hdone.fr.keep (heap_alloc_new _ _) (HNEW.out _ (by simp))
           try simp only[World.size_drew] at hz
           obtain⟨s0,s1,s2,s3,s4,sf⟩:=cf5 hz rfl rfl rfl rfl rfl
           have HSZ:=Hd hz
           clear hz
           have HDONE:=Hd hdone
           clear hdone))))
   ·go_wp2_with fail
    go_meet
    exact⟨_,v,wc,rfl,rfl,FC.out.size,heap_alloc_new wc _,⟨_,(Fr.refl _ _).drew,HDONE.out,.inr (Nat.le_refl _)⟩,(Fr.refl _ _).alloc _⟩
   ·go_wp2_with fail
    go_meet
    exact⟨_,v,wc,rfl,rfl,by simp,set_in (set_in (set_in (set_in (set_in HSZ.out 0 (.int .i64 sn)) 1 (.int .i64 sr0)) 2 (.int .i64 sr1)) 3 (.int .i64 sr2)) 4 (.int .i64 sr3),⟨_,(Fr.refl _ _).drew.alloc _,HDONE.out,.inl (by simp)⟩,((((Fr.one _ _ _ _).trans (Fr.one _ _ _ _)).trans (Fr.one _ _ _ _)).trans (Fr.one _ _ _ _)).trans (Fr.one _ _ _ _)⟩
  case rest=>
   obtain⟨zs,v3,wd,rfl,rfl,hzs,hzx,⟨wa,hwa,hdo,hor⟩,hfx⟩:=hcut
   have hdone:=done_new hwa hdo hfx hzs hor (lt_of_block HA2.out.win.box) (fun k hk=>(World.ownsRow.lt HA2.out.win.own k hk).2)
   obtain⟨rv',ring',t',a3,s3,n3⟩:=HA2.out.applied HS2.out hdone
   have HF3:=Hd hdone.fr
   have HA3:=Hd a3
   have HS3:=Hd s3
   have HN3:=Hd n3
   have HZX:=Hd hzx
   have hTz:zs≠l.T:=by
    rintro rfl
    have h1:=HA3.out.tab.box
    simp only at h1
    rw[HZX.out] at h1
    simp at h1
   have hTD:l.D≠l.T:=by
    intro e
    have h1:=HA3.out.tab.box
    have h2:=HA3.out.d
    simp only at h1 h2
    rw[e,h1] at h2
    simp at h2
   have HK2:=Hd (show∀w':World,Fr (fun k=>k=l.T) wc w'→w'.cell? ⟨l.D,0,none⟩=some (ptr l.T)∧w'.cell? ⟨zs,0,none⟩=some (.int .i64 sn)∧w'.cell? ⟨zs,1,none⟩=some (.int .i64 sr0)∧w'.cell? ⟨zs,2,none⟩=some (.int .i64 sr1)∧w'.cell? ⟨zs,3,none⟩=some (.int .i64 sr2)∧w'.cell? ⟨zs,4,none⟩=some (.int .i64 sr3) from fun w' hf=>by
    have hd:=hf.keep HA3.out.d hTD
    have hz:=hf.keep HZX.out hTz
    exact⟨cell_in hd rfl,cell_in hz rfl,cell_in hz rfl,cell_in hz rfl,cell_in hz rfl,cell_in hz rfl⟩)
   clear hdo hwa hor hfx hdone a3 s3 n3 hzx t0 t1 t2 t3 t4 t5 t6 t7 t8 t9 t10 HSC FC HAP2 HKEEP HNEW
   have HSC:=Hd (HK2.out wc.drew (lif (Fr.refl (fun _=>False) wc).drew))
   have ss:=HSC.out
   obtain⟨s0,s1,s2,s3,s4,s5⟩:=ss
   have tb:=HA3.out.tab.box
   simp only at tb
   have q3:=cell_in (i:=3) tb rfl
   have q4:=cell_in (i:=4) tb rfl
   have q5:=cell_in (i:=5) tb rfl
   have q6:=cell_in (i:=6) tb rfl
   have q7:=cell_in (i:=7) tb rfl
   have qf:=fun i=>frozen_in tb i
   have HTB:=Hd tb
   clear tb
   go_wp2_with fail
   go_region_held3 (fun w'=>w'.cell? ⟨l.D,0,none⟩=some (ptr l.T)∧w'.cell? ⟨zs,0,none⟩=some (.int .i64 sn)∧w'.cell? ⟨zs,1,none⟩=some (.int .i64 sr0)∧w'.cell? ⟨zs,2,none⟩=some (.int .i64 sr1)∧w'.cell? ⟨zs,3,none⟩=some (.int .i64 sr2)∧w'.cell? ⟨zs,4,none⟩=some (.int .i64 sr3))
    (first|with_reducible exact HSC.out|(refine HK2.out _ ?_;refine Fr.drew ?_;(repeat refine Fr.setCell ?_ (.inl (by simp)) _);exact Fr.refl _ _)) (fail)
   have hb7:=set_in (set_in (set_in (set_in (set_in HTB.out 3 (.int .i64 sn)) 4 (.int .i64 sr0)) 5 (.int .i64 sr1)) 6 (.int .i64 sr2)) 7 (.int .i64 sr3)
   have hf7:Fr (fun k=>k=l.T) wc (((((wc.setCell ⟨l.T,3,none⟩ (.int .i64 sn)).setCell ⟨l.T,4,none⟩ (.int .i64 sr0)).setCell ⟨l.T,5,none⟩ (.int .i64 sr1)).setCell ⟨l.T,6,none⟩ (.int .i64 sr2)).setCell ⟨l.T,7,none⟩ (.int .i64 sr3)).drew:=(((((Fr.one _ _ _ _).trans (Fr.one _ _ _ _)).trans (Fr.one _ _ _ _)).trans (Fr.one _ _ _ _)).trans (Fr.one _ _ _ _)).drew
   have HB7:=Hd (show(((((wc.setCell ⟨l.T,3,none⟩ (.int .i64 sn)).setCell ⟨l.T,4,none⟩ (.int .i64 sr0)).setCell ⟨l.T,5,none⟩ (.int .i64 sr1)).setCell ⟨l.T,6,none⟩ (.int .i64 sr2)).setCell ⟨l.T,7,none⟩ (.int .i64 sr3)).drew.heap[l.T]? =some (.cells (tabV x.c.lc x.c.lp x.c.pb ⟨sn,sr0,sr1,sr2,sr3⟩ l.b) 188 (0,0)) from hb7)
   have HF7:=Hd hf7
   clear hb7 hf7 s0 s1 s2 s3 s4 s5 q3 q4 q5 q6 q7 qf HSC HTB
   generalize(((((wc.setCell ⟨l.T,3,none⟩ (.int .i64 sn)).setCell ⟨l.T,4,none⟩ (.int .i64 sr0)).setCell ⟨l.T,5,none⟩ (.int .i64 sr1)).setCell ⟨l.T,6,none⟩ (.int .i64 sr2)).setCell ⟨l.T,7,none⟩ (.int .i64 sr3)).drew=w7 at*
   go_wp2_with fail
   go_ret
   refine⟨rfl,⟨((HF2.out.mono (fun k _ h=>.inl h)).trans (HF3.out.mono (fun k _ h=>.inr (h.elim .inl (fun h=>.inr (.inl h)))))).trans (HF7.out.mono (fun k _ h=>.inr (.inr (.inr h)))),v2,rv',ring',t',?_,HS3.out,HN2.out,fun k hk=>(HN3.out k hk).imp id (fun h=>Nat.le_trans HF2.out.size h)⟩⟩
   rw[HPUT.out hz]
   exact HA3.out.stated ⟨sn,sr0,sr1,sr2,sr3⟩ (HSOK.out trivial) HF7.out HB7.out
 ·have e1:((er:Int)==0)=false:=by simp;omega
  have e2:((er:Int) !=0)=true:=by simp;omega
  go_wp2_with fail
  go_ret
  exact⟨rfl,HF1.out⟩
end En
end Go.Proofs.YtlgccpjccopdmaaGreatDoor
