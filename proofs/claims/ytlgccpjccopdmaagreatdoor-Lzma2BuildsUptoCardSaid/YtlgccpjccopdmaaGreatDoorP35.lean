/- Part 35 of 54: lemmas of the last part, each under the conditions that it names. -/
import Derived.Deep.RegionHeld3
import Derived.Test.YtlgccpjccopdmaaGreatDoorP08
import Derived.Test.YtlgccpjccopdmaaGreatDoorP09
import Derived.Test.YtlgccpjccopdmaaGreatDoorP11
import Derived.Test.YtlgccpjccopdmaaGreatDoorP18
import Derived.Test.YtlgccpjccopdmaaGreatDoorP20
import Derived.Test.YtlgccpjccopdmaaGreatDoorP21
import Derived.Test.YtlgccpjccopdmaaGreatDoorP34
set_option linter.unusedVariables false
set_option linter.unusedSimpArgs false
set_option maxRecDepth 1500
set_option maxHeartbeats 4000000
namespace Go.Proofs.YtlgccpjccopdmaaGreatDoor
open Go.RowKit
namespace En
open Mem Rc Win Lz St
def XFoot(l:XL)(k:Nat):Prop:=k=l.D∨XG l k
structure XE(w:World)(l:XL)(x:Xe):Prop where
 at':XAt w l x
 sep:XSep l
 low:∀k,XFoot l k→5≤k
structure XNx(w:World)(l l':XL):Prop where
 D:l'.D=l.D
 F:∀k,XFoot l' k→XFoot l k∨w.heap.size≤k
def EPst(l:XL)(w:World)(x:Xe)(w':World):Prop:=Fr (XFoot l) w w'∧∃l',XNx w l l'∧XE w' l' x
theorem XE.five{w:World}{l:XL}{x:Xe}(h:XE w l x):5≤w.heap.size:=by
 have:=lt_of_block h.at'.d
 have:=h.low _ (.inl rfl)
 omega
theorem XE.xlow{w:World}{l:XL}{x:Xe}(h:XE w l x):XLow l:=
 ⟨h.low _ (.inr (.inr (.inr (.inr rfl)))),h.low _ (.inr (.inr (.inl rfl))),h.low _ (.inr (.inl (.inl (.inl rfl)))),fun j hj=>h.low _ (.inr (.inl (.inr ⟨j,hj,rfl⟩))),fun k hk=>h.low _ (.inr (.inl (.inl (.inr hk)))),fun k hk=>h.low _ (.inr (.inr (.inr (.inl hk))))⟩
theorem XE.keep{w w':World}{l:XL}{x:Xe}(h:XE w l x)(hfr:Fr (fun _=>False) w w'):XE w' l x:=⟨h.at'.keep hfr,h.sep,h.low⟩
theorem XE.post{w w':World}{l l':XL}{x x':Xe}(h:XE w l x)(hf:Fr (XFoot l) w w')(ha:XAt w' l' x')(hs:XSep l')(hn:XNx w l l'):EPst l w x' w':=
 ⟨hf,l',hn,ha,hs,fun k hk=>(hn.F k hk).elim (h.low k) (fun e=>Nat.le_trans h.five e)⟩
theorem EPst.trans{w w1 w2:World}{l l1:XL}{x:Xe}(hf:Fr (XFoot l) w w1)(hn:XNx w l l1)(h:EPst l1 w1 x w2):EPst l w x w2:=by
 obtain⟨f,l2,n,e⟩:=h
 refine⟨hf.trans' f (fun k hk e=> ?_),l2,⟨n.D.trans hn.D,fun k hk=> ?_⟩,e⟩
 ·rcases hn.F k e with e|e
  ·exact e
  ·omega
 ·rcases n.F k hk with e|e
  ·exact hn.F k e
  ·exact .inr (Nat.le_trans hf.size e)
theorem xput_calls{w:World}{l:XL}{x:Xe}(h:XE w l x)(hT:Tabs w)(z:Sz)(hb:z.byte<256)(hs:x.e.k.s≤1099511610000)(hm:x.c.all.length≤1152921504606846000):
 Calls Tryz.prog 67 #[ptr l.D,.agg z.cells] w fun e w'=>e=.returned (.int .i64 (applyZ x.c.size x.c.all x.c.s z).1)∧(if(applyZ x.c.size x.c.all x.c.s z).1=0 then EPst l w (x.put z.sy) w' else Fr (fun _=>False) w w'):=by
 refine(eput_calls h.at' h.sep h.xlow hT z hb hs hm).mono ?_
 rintro e w' ⟨rfl,hq⟩
 refine⟨rfl,?_⟩
 split
 ·rename_i h0
  rw[if_pos h0] at hq
  obtain⟨f,v',rv',ring',t',a,s,n1,n2⟩:=hq
  refine h.post (f.mono (fun k _ e=>.inr e)) a s ⟨rfl,fun k hk=> ?_⟩
  rcases hk with e|((e|e)|e)|e|e|e
  ·exact .inl (.inl e)
  ·exact .inl (.inr (.inl (.inl (.inl e))))
  ·exact(n1 k e).imp (fun e=>.inr (.inl (.inl (.inr e)))) id
  ·exact .inl (.inr (.inl (.inr e)))
  ·exact .inl (.inr (.inr (.inl e)))
  ·exact(n2 k e).imp (fun e=>.inr (.inr (.inr (.inl e)))) id
  ·exact .inl (.inr (.inr (.inr (.inr e))))
 ·rename_i h0
  rw[if_neg h0] at hq
  exact hq
theorem XAt.ne{w:World}{l:XL}{x:Xe}(h:XAt w l x){k:Nat}{cs:Array Value}{t:TypeId}{fr:Nat×Nat}(hk:w.heap[k]? =some (.cells cs t fr))(ht:t≠128):¬k=l.D:=by
 intro e
 rw[e,h.d] at hk
 simp only[Option.some.injEq,Obj.cells.injEq] at hk
 exact ht hk.2.1.symm
theorem fresh_es(k:K)(hk:k.Ok)(lc lp:Nat):Es.Ok lc lp ⟨k,fresh lc lp⟩:=
 ⟨hk,fun j _ p hp=>by
  have:=List.eq_of_mem_replicate hp
  omega,fun j _=>fresh_len lc lp j⟩
theorem XE.tabs{w w1:World}{l:XL}{x:Xe}(h:XE w l x){T lc lp pb:Nat}{b g:Nat→Nat}(hfr:Fr (fun _=>False) w w1)(hT:Tab w1 T b g lc lp pb S.new (fresh lc lp))
 (hT0:w.heap.size≤T)(hn:∀j,j<18→w.heap.size≤b j∧w.heap.size≤g j)(hl:lc+lp≤4)(hp:pb≤4):
 EPst l w ⟨x.c.fresh lc lp pb,⟨x.e.k,fresh lc lp⟩⟩ (w1.setCell ⟨l.D,0,none⟩ (ptr T)):=by
 have h1:=h.at'.keep hfr
 have hD:=lt_of_block h.at'.d
 have hs:Fr (fun k=>k=l.D) w1 (w1.setCell ⟨l.D,0,none⟩ (ptr T)):=Fr.one _ _ _ _
 obtain⟨gg,a,hg⟩:=h1.rc
 refine h.post (l':={l with T:=T,b:=b,g:=g}) ((lif hfr).trans (hs.mono (fun i _(e:i=l.D)=>.inl e))) ⟨set_in h1.d 0 _,⟨hs.keep hT.box (show¬T=l.D by omega),fun j hj=> ?_,hT.inj⟩,h1.win.keep hs (h1.ne h1.win.box (by decide)) (fun k hk=> ?_),⟨gg,a.keep hs (h1.ne a.box (by decide)) (fun k hk=> ?_),hg⟩,⟨⟨hl,hp,S.new_ok⟩,fresh_es _ h.at'.ok.e.k _ _⟩⟩ ⟨h.sep.rv⟩ ⟨rfl,fun k hk=> ?_⟩
 ·have:=hn j hj
  exact(hT.set j hj).step hs (fun(e:b j=l.D)=>by omega) (fun(e:g j=l.D)=>by omega)
 ·obtain⟨cur,hc⟩:=own_block h1.win.own hk
  exact h1.ne hc (by decide)
 ·obtain⟨cur,hc⟩:=own_block a.own hk
  exact h1.ne hc (by decide)
 ·rcases hk with e|((e|e)|⟨j,hj,e⟩)|e|e|e
  ·exact .inl (.inl e)
  ·exact .inl (.inr (.inl (.inl (.inl e))))
  ·exact .inl (.inr (.inl (.inl (.inr e))))
  ·have:=hn j hj
   simp only at e
   exact .inr (by omega)
  ·exact .inl (.inr (.inr (.inl e)))
  ·exact .inl (.inr (.inr (.inr (.inl e))))
  ·simp only at e
   exact .inr (by omega)
theorem xcut_calls{w:World}{l:XL}{x:Xe}(h:XE w l x)(hs:x.e.k.s≤1099511627000):
 Calls Tryz.prog 68 #[ptr l.D] w fun e w'=>∃v,e=.returned v∧Mine w w' v x.e.k.bytes∧EPst l w ⟨x.c,⟨K.new,x.e.ps⟩⟩ w':=by
 obtain⟨g,a,hg⟩:=h.at'.rc
 have c2:w.cell? ⟨l.D,2,none⟩=some (ptr l.E):=cell_in h.at'.d rfl
 have HB:=Hd (bytes_calls a hg hs)
 have H0:=Hd h
 clear h a hg
 go_enter Tryz.func68,Tryz.ntmps68
 go_wp2_with fail
 refine HB.out.mono ?_
 rintro e w1 ⟨v,rfl,hf1,hm⟩
 have HF1:=Hd hf1
 have HM:=Hd hm
 clear hf1 hm HB c2
 go_wp2_with fail
 refine(En.new_calls w1).mono ?_
 rintro e w2 ⟨rfl,hf2,a2⟩
 have h2:=(H0.out.keep (HF1.out.trans hf2)).at'
 have y2:w2.cell? ⟨l.D,2,none⟩=some (ptr l.E):=cell_in h2.d rfl
 have yf:=frozen_in h2.d 2
 have hD:=lt_of_block H0.out.at'.d
 have hsz:=HF1.out.size
 have hss:Fr (fun k=>k=l.D) w2 (w2.setCell ⟨l.D,2,none⟩ (ptr w1.heap.size)):=Fr.one _ _ _ _
 have KEY:=Hd (show Mine w (w2.setCell ⟨l.D,2,none⟩ (ptr w1.heap.size)) v x.e.k.bytes∧EPst l w ⟨x.c,⟨K.new,x.e.ps⟩⟩ (w2.setCell ⟨l.D,2,none⟩ (ptr w1.heap.size)) from by
  refine⟨(HM.out.step hf2 (fun _ _ h=>h)).step hss (fun k hk(e:k=l.D)=>by have:=HM.out.new k hk;omega),H0.out.post (l':={l with E:=w1.heap.size,v:=.slice none 0 0}) ((lif (HF1.out.trans hf2)).trans (hss.mono (fun i _(e:i=l.D)=>.inl e))) ⟨set_in h2.d 2 _,⟨hss.keep h2.tab.box (h2.ne h2.tab.box (by decide)),fun j hj=> ?_,h2.tab.inj⟩,h2.win.keep hss (h2.ne h2.win.box (by decide)) (fun k hk=> ?_),⟨G.new,a2.keep hss (fun(e:w1.heap.size=l.D)=>by omega) (fun k hk=>by simp[Value.ownBlock] at hk),is_new⟩,⟨h2.ok.c,⟨is_new.ok,h2.ok.e.q,h2.ok.e.len⟩⟩⟩ ⟨fun k _ e=>by simp[Value.ownBlock] at e⟩ ⟨rfl,fun k hk=> ?_⟩⟩
  ·obtain⟨_,_,hb,hg,_⟩:=h2.tab.set j hj
   exact(h2.tab.set j hj).step hss (h2.ne hb (by decide)) (h2.ne hg (by decide))
  ·obtain⟨cur,hc⟩:=own_block h2.win.own hk
   exact h2.ne hc (by decide)
  ·rcases hk with e|((e|e)|e)|e|e|e
   ·exact .inl (.inl e)
   ·simp only at e
    exact .inr (by omega)
   ·simp[Value.ownBlock] at e
   ·exact .inl (.inr (.inl (.inr e)))
   ·exact .inl (.inr (.inr (.inl e)))
   ·exact .inl (.inr (.inr (.inr (.inl e))))
   ·exact .inl (.inr (.inr (.inr (.inr e)))))
 clear hf2 a2 h2 hss
 go_wp2_with fail
 go_ret
 exact⟨_,rfl,KEY.out⟩
theorem xreset_calls{w:World}{l:XL}{x:Xe}(h:XE w l x)(lc lp pb:Nat)(hl:lc+lp≤4)(hp:pb≤4):
 Calls Tryz.prog 64 #[ptr l.D,.agg #[.int .i64 lc,.int .i64 lp,.int .i64 pb]] w fun e w'=>e=.returned (.int .i64 0)∧EPst l w ⟨x.c.fresh lc lp pb,⟨x.e.k,fresh lc lp⟩⟩ w':=by
 have hx:=heap_alloc_new w (.cells #[.int .i64 lc,.int .i64 lp,.int .i64 pb] 24)
 have hf0:=(Fr.refl (fun _=>False) w).alloc (.cells #[.int .i64 lc,.int .i64 lp,.int .i64 pb] 24)
 have HP:=fun W=>Hd (props_ok lc lp pb hl hp W)
 have HT:=fun W=>Hd (tables_calls lc lp pb W hl)
 unfold Lz.NewPost at HT
 have H0:=Hd h
 have HX:=Hd hx
 have HF:=Hd hf0
 clear h hx hf0
 go_enter Tryz.func64,Tryz.ntmps64
 go_wp2_with fail
 refine(HP _).out.mono ?_
 rintro e w1 ⟨⟨xx,rfl⟩,hfr1⟩
 have hx1:=hfr1.keep HX.out (fun h=>h)
 obtain⟨z0,z1,z2⟩:=cs3 hx1 rfl rfl rfl
 have HF1:=Hd (HF.out.trans hfr1)
 clear hfr1 hx1
 go_wp2_with fail
 refine(HT _).out.mono ?_
 rintro e w2 ⟨T,b,g,rfl,hfr2,hTab,hT0,hn⟩
 have h2:=(H0.out.keep (HF1.out.trans hfr2)).at'
 have hsz:=HF1.out.size
 have KEY:=Hd (H0.out.tabs (HF1.out.trans hfr2) hTab (Nat.le_trans hsz hT0) (fun j hj=>⟨Nat.le_trans hsz (hn j hj).1,Nat.le_trans hsz (hn j hj).2⟩) hl hp)
 have y0:w2.cell? ⟨l.D,0,none⟩=some (ptr l.T):=cell_in h2.d rfl
 have yf:=frozen_in h2.d 0
 clear hfr2 hTab hn h2
 go_wp2_with fail
 go_ret
 exact⟨rfl,KEY.out⟩
theorem xraw_calls{w:World}{l:XL}{x:Xe}(h:XE w l x)(v:Value)(b:List UInt8)(hb:Rd w v b)(hap:0<b.length→∀k,v.ownBlock=some k→¬XFoot l k)(hm:x.c.all.length+b.length≤1152921504606846976):
 Calls Tryz.prog 62 #[ptr l.D,v] w fun e w'=>e=.returned (.tuple #[])∧EPst l w ⟨x.c.on b,x.e⟩ w':=by
 have c1:w.cell? ⟨l.D,1,none⟩=some (ptr l.W):=cell_in h.at'.d rfl
 have HP:=Hd (Win.put_calls l.W x.c.size l.t l.rv v x.c.all l.ring b w h.at'.win hb (fun h0 k hk e=>hap h0 k hk (.inr (.inr (.inr (.inl e))))) hm)
 have H0:=Hd h
 clear h hb hap
 go_enter Tryz.func62,Tryz.ntmps62
 go_wp2_with fail
 refine HP.out.mono ?_
 rintro e w2 ⟨rfl,rv',ring',t',hfr,hW,hn⟩
 have KEY:=Hd (show EPst l w ⟨x.c.on b,x.e⟩ w2 from by
  obtain⟨rv2,ring2,t2,a3,s3,n3⟩:=H0.out.at'.wrote H0.out.sep hfr hW hn
  refine H0.out.post (hfr.mono (fun k _ e=>.inr (.inr (e.elim .inl (fun e=>.inr (.inl e)))))) a3 s3 ⟨rfl,fun k hk=> ?_⟩
  rcases hk with e|((e|e)|e)|e|e|e
  ·exact .inl (.inl e)
  ·exact .inl (.inr (.inl (.inl (.inl e))))
  ·exact .inl (.inr (.inl (.inl (.inr e))))
  ·exact .inl (.inr (.inl (.inr e)))
  ·exact .inl (.inr (.inr (.inl e)))
  ·exact(n3 k e).imp (fun e=>.inr (.inr (.inr (.inl e)))) id
  ·exact .inl (.inr (.inr (.inr (.inr e)))))
 clear hfr hW hn
 go_wp2_with fail
 go_end0
 exact⟨rfl,KEY.out⟩
end En
namespace En
open Mem Rc Win Lz St
theorem XAt.cleared{w w':World}{l:XL}{x:Xe}(h:XAt w l x)(hfr:Fr (fun k=>k=l.W) w w')(hW:Win.At w' l.W (.slice none 0 0) x.c.size [] [] 0):
 XAt w' {l with rv:=.slice none 0 0,ring:=[],t:=0} ⟨{x.c with all:=[]},x.e⟩∧XSep {l with rv:=.slice none 0 0,ring:=[],t:=0}:=by
 have hoff:∀{k:Nat}{cs:Array Value}{t:TypeId}{fr:Nat×Nat},w.heap[k]? =some (.cells cs t fr)→t≠178→¬(k=l.W):=by
  intro k cs t fr hk h1 h3
  rw[h3,h.win.box] at hk
  simp only[Option.some.injEq,Obj.cells.injEq] at hk
  exact h1 hk.2.1.symm
 obtain⟨g,a,hg⟩:=h.rc
 refine⟨⟨hfr.keep h.d (hoff h.d (by decide)),⟨hfr.keep h.tab.box (hoff h.tab.box (by decide)),fun j hj=> ?_,h.tab.inj⟩,hW,⟨g,a.keep hfr (hoff a.box (by decide)) (fun k hk=> ?_),hg⟩,⟨⟨h.ok.c.l,h.ok.c.pb,h.ok.c.s⟩,h.ok.e⟩⟩,⟨fun k hk he=>by simp[Value.ownBlock] at hk⟩⟩
 ·obtain⟨_,_,hb,hg,_⟩:=h.tab.set j hj
  exact(h.tab.set j hj).step hfr (hoff hb (by decide)) (hoff hg (by decide))
 ·obtain⟨cur,hc⟩:=own_block a.own hk
  exact hoff hc (by decide)
theorem xclear_calls{w:World}{l:XL}{x:Xe}(h:XE w l x):
 Calls Tryz.prog 93 #[ptr l.D] w fun e w'=>e=.returned (.tuple #[])∧EPst l w ⟨{x.c.fresh x.c.lc x.c.lp x.c.pb with all:=[]},⟨x.e.k,fresh x.c.lc x.c.lp⟩⟩ w':=by
 have hl:=h.at'.ok.c.l
 have hp:=h.at'.ok.c.pb
 have HT:=fun W=>Hd (tables_calls x.c.lc x.c.lp x.c.pb W hl)
 unfold Lz.NewPost at HT
 have x0:w.cell? ⟨l.D,0,none⟩=some (ptr l.T):=cell_in h.at'.d rfl
 have x1:w.cell? ⟨l.T,0,none⟩=some (.int .i64 x.c.lc):=cell_in h.at'.tab.box rfl
 have x2:w.cell? ⟨l.T,1,none⟩=some (.int .i64 x.c.lp):=cell_in h.at'.tab.box rfl
 have x3:w.cell? ⟨l.T,2,none⟩=some (.int .i64 x.c.pb):=cell_in h.at'.tab.box rfl
 have H0:=Hd h
 clear h
 go_enter Tryz.func93,Tryz.ntmps93
 go_wp2_with fail
 refine(HT _).out.mono ?_
 rintro e w2 ⟨T,b,g,rfl,hfr2,hTab,hT0,hn⟩
 have h2:=(H0.out.keep hfr2).at'
 obtain⟨f1,l1,n1,e1⟩:=H0.out.tabs hfr2 hTab hT0 hn hl hp
 have y0:w2.cell? ⟨l.D,0,none⟩=some (ptr l.T):=cell_in h2.d rfl
 have yf:=frozen_in h2.d 0
 have hd1:=e1.at'.d
 rw[n1.D] at hd1
 have y1:(w2.setCell ⟨l.D,0,none⟩ (ptr T)).cell? ⟨l.D,1,none⟩=some (ptr l1.W):=cell_in hd1 rfl
 have HC:=Hd (Win.clear_calls l1.W _ l1.t l1.rv _ l1.ring _ e1.at'.win)
 have HF1:=Hd f1
 have HN1:=Hd n1
 have HE1:=Hd e1
 clear hfr2 hTab hn h2 x0 x1 x2 x3 f1 n1 e1 hd1
 go_wp2_with fail
 refine HC.out.mono ?_
 rintro e w3 ⟨rfl,hfr3,hW3⟩
 have KEY:=Hd (show EPst l w ⟨{x.c.fresh x.c.lc x.c.lp x.c.pb with all:=[]},⟨x.e.k,fresh x.c.lc x.c.lp⟩⟩ w3 from by
  obtain⟨a3,s3⟩:=HE1.out.at'.cleared hfr3 hW3
  refine EPst.trans HF1.out HN1.out (HE1.out.post (hfr3.mono (fun k _(e:k=l1.W)=>.inr (.inr (.inl e)))) a3 s3 ⟨rfl,fun k hk=> ?_⟩)
  rcases hk with e|((e|e)|e)|e|e|e
  ·exact .inl (.inl e)
  ·exact .inl (.inr (.inl (.inl (.inl e))))
  ·exact .inl (.inr (.inl (.inl (.inr e))))
  ·exact .inl (.inr (.inl (.inr e)))
  ·exact .inl (.inr (.inr (.inl e)))
  ·simp[Value.ownBlock] at e
  ·exact .inl (.inr (.inr (.inr (.inr e)))))
 clear hfr3 hW3
 go_wp2_with fail
 go_end0
 exact⟨rfl,KEY.out⟩
end En
namespace En
open Mem Rc Win Lz St
theorem enew_in(n:Nat)(w:World)(h1:1≤n)(h2:n≤4294967295):
 Calls Tryz.prog 24 #[.agg #[.int .i64 0,.int .i64 0,.int .i64 0],.int .i64 n] w fun e w'=>Fr (fun _=>False) w w'∧∃l:XL,e=.returned (.tuple #[ptr l.D,.int .i64 0])∧XAt w' l (Xe.start n)∧XSep l∧∀k,XFoot l k→w.heap.size≤k:=by
 have hx:=heap_alloc_new w (.cells #[.int .i64 0,.int .i64 0,.int .i64 0] 24)
 have hf0:=(Fr.refl (fun _=>False) w).alloc (.cells #[.int .i64 0,.int .i64 0,.int .i64 0] 24)
 have HT:=fun W=>Hd (zero_tables W)
 unfold Lz.NewPost at HT
 have HX:=Hd hx
 have HF:=Hd hf0
 clear hx hf0
 go_enter Tryz.func24,Tryz.ntmps24
 go_wp2_with fail
 refine(zero_props _).mono ?_
 rintro e w1 ⟨⟨x,rfl⟩,hfr1⟩
 have hx1:=hfr1.keep HX.out (fun h=>h)
 have HX1:=Hd hx1
 have HF1:=Hd (HF.out.trans hfr1)
 clear hfr1 hx1
 go_wp2_with fail
 refine(Win.new_in n _ (by omega) h2).mono ?_
 rintro e w2 ⟨rfl,hfr2,hW2⟩
 have hx2:=hfr2.keep HX1.out (fun h=>h)
 obtain⟨z0,z1,z2⟩:=cs3 hx2 rfl rfl rfl
 have HF2:=Hd hfr2
 have HW2:=Hd hW2
 clear hfr2 hW2 hx2
 go_wp2_with fail
 refine(HT _).out.mono ?_
 rintro e w3 ⟨T,b,g,rfl,hfr3,hTab,hT0,hn⟩
 have HF3:=Hd hfr3
 have HTab:=Hd hTab
 have HT0:=Hd hT0
 have HN:=Hd hn
 clear hfr3 hTab hT0 hn
 go_wp2_with fail
 refine(En.new_calls w3).mono ?_
 rintro e w4 ⟨rfl,hf4,a4⟩
 have hb:=heap_alloc_new w4 (.cells #[ptr T,ptr w1.heap.size,ptr w3.heap.size] 128)
 have hf5:=(Fr.refl (fun _=>False) w4).alloc (.cells #[ptr T,ptr w1.heap.size,ptr w3.heap.size] 128)
 have FIN:=Hd (show Fr (fun _=>False) w (w4.alloc (.cells #[ptr T,ptr w1.heap.size,ptr w3.heap.size] 128))∧XAt (w4.alloc (.cells #[ptr T,ptr w1.heap.size,ptr w3.heap.size] 128)) ⟨w4.heap.size,w3.heap.size,T,w1.heap.size,.slice none 0 0,.slice none 0 0,[],0,b,g⟩ (Xe.start n)∧XSep ⟨w4.heap.size,w3.heap.size,T,w1.heap.size,.slice none 0 0,.slice none 0 0,[],0,b,g⟩∧∀k,XFoot ⟨w4.heap.size,w3.heap.size,T,w1.heap.size,.slice none 0 0,.slice none 0 0,[],0,b,g⟩ k→w.heap.size≤k from by
  have hs1:=HF1.out.size
  have hs2:=HF2.out.size
  have hs3:=HF3.out.size
  have hs4:=hf4.size
  have hfa:=hf4.trans hf5
  have hT0:=HT0.out
  refine⟨((HF1.out.trans HF2.out).trans HF3.out).trans hfa,⟨hb,⟨hfa.keep HTab.out.box (fun h=>h),fun j hj=>(HTab.out.set j hj).keep hfa,HTab.out.inj⟩,(HW2.out.keep HF3.out (fun h=>h) (fun _ _ h=>h)).keep hfa (fun h=>h) (fun _ _ h=>h),⟨G.new,a4.keep hf5 (fun h=>h) (fun _ _ h=>h),is_new⟩,⟨⟨by simp[Xe.start],by simp[Xe.start],S.new_ok⟩,fresh_ok 0 0⟩⟩,⟨fun k _ e=>by simp[Value.ownBlock] at e⟩,fun k hk=> ?_⟩
  rcases hk with e|((e|e)|⟨j,hj,e⟩)|e|e|e
  ·simp only at e
   omega
  ·simp only at e
   omega
  ·simp[Value.ownBlock] at e
  ·have:=HN.out j hj
   simp only at e
   omega
  ·simp only at e
   omega
  ·simp[Value.ownBlock] at e
  ·simp only at e
   omega)
 clear hf4 a4 hb hf5
 go_wp2_with fail
 go_ret2
 exact⟨FIN.out.1,_,rfl,FIN.out.2⟩
theorem enew_out(n:Int)(w:World)(h:n<1∨4294967295<n):
 Calls Tryz.prog 24 #[.agg #[.int .i64 0,.int .i64 0,.int .i64 0],.int .i64 n] w fun e w'=>Fr (fun _=>False) w w'∧e=.returned (.tuple #[.pointer none,.int .i64 7]):=by
 have HF:=Hd ((Fr.refl (fun _=>False) w).alloc (.cells #[.int .i64 0,.int .i64 0,.int .i64 0] 24))
 have HW:=fun W=>Hd (Win.new_out n W h)
 clear h
 go_enter Tryz.func24,Tryz.ntmps24
 go_wp2_with fail
 refine(zero_props _).mono ?_
 rintro e w1 ⟨⟨x,rfl⟩,hfr1⟩
 have HF1:=Hd (HF.out.trans hfr1)
 clear hfr1
 go_wp2_with fail
 refine(HW _).out.mono ?_
 rintro e w2 ⟨rfl,rfl⟩
 go_wp2_with fail
 go_ret2
 exact⟨HF1.out,rfl⟩
theorem xreset_bad(D:Nat)(lc lp pb:Int)(w:World)(b_lc:-9223372036854775808≤lc∧lc≤9223372036854775807)(b_lp:-9223372036854775808≤lp∧lp≤9223372036854775807)(b_pb:-9223372036854775808≤pb∧pb≤9223372036854775807)(hbad:propsBad lc lp pb=true):
 Calls Tryz.prog 64 #[ptr D,.agg #[.int .i64 lc,.int .i64 lp,.int .i64 pb]] w fun e w'=>e=.returned (.int .i64 6)∧Fr (fun _=>False) w w':=by
 have HF:=Hd ((Fr.refl (fun _=>False) w).alloc (.cells #[.int .i64 lc,.int .i64 lp,.int .i64 pb] 24))
 have hx:=heap_alloc_new w (.cells #[.int .i64 lc,.int .i64 lp,.int .i64 pb] 24)
 have HP:=fun W=>Hd (props_calls lc lp pb W b_lc b_lp b_pb)
 rw[hbad,if_pos rfl] at HP
 obtain⟨z0,z1,z2⟩:=cs3 hx rfl rfl rfl
 clear hx b_lc b_lp b_pb hbad
 go_enter Tryz.func64,Tryz.ntmps64
 go_wp2_with fail
 refine(HP _).out.mono ?_
 rintro e w1 ⟨⟨x,rfl⟩,hfr1⟩
 have HF1:=Hd (HF.out.trans hfr1)
 clear hfr1
 go_wp2_with fail
 go_ret
 exact⟨rfl,HF1.out⟩
end En
namespace En
open Mem Rc Win Lz St
theorem XE.lt{w:World}{l:XL}{x:Xe}(h:XE w l x):∀k,XFoot l k→k<w.heap.size:=by
 rintro k (rfl|((rfl|e)|⟨j,hj,rfl⟩)|rfl|e|rfl)
 ·exact lt_of_block h.at'.d
 ·obtain⟨g,a,_⟩:=h.at'.rc
  exact lt_of_block a.box
 ·obtain⟨g,a,_⟩:=h.at'.rc
  exact(World.ownsRow.lt a.own k e).2
 ·obtain⟨_,_,_,hg,_⟩:=h.at'.tab.set j hj
  exact lt_of_block hg
 ·exact lt_of_block h.at'.win.box
 ·exact(World.ownsRow.lt h.at'.win.own k e).2
 ·exact lt_of_block h.at'.tab.box
theorem XNx.off{w:World}{l l':XL}(hn:XNx w l l'){B:Nat}(hB:B<w.heap.size)(h:¬XFoot l B):¬XFoot l' B:=fun e=>(hn.F B e).elim h (fun e=>by omega)
theorem XNx.same{w:World}{l:XL}:XNx w l l:=⟨rfl,fun _ h=>.inl h⟩
theorem XNx.trans{w w1:World}{l l1 l2:XL}(h:XNx w l l1)(h2:XNx w1 l1 l2)(hs:w.heap.size≤w1.heap.size):XNx w l l2:=
 ⟨h2.D.trans h.D,fun k hk=>by
  rcases h2.F k hk with e|e
  ·exact h.F k e
  ·exact .inr (Nat.le_trans hs e)⟩
theorem XAt.aside{w w':World}{l:XL}{x:Xe}{B:Nat}{cs:Array Value}{fr:Nat×Nat}(h:XAt w l x)(hB:w.heap[B]? =some (.cells cs 47 fr))(hfr:Fr (fun k=>k=B) w w'):XAt w' l x:=by
 have hoff:∀{k:Nat}{cs':Array Value}{t':TypeId}{fr':Nat×Nat},w.heap[k]? =some (.cells cs' t' fr')→t'≠47→¬k=B:=by
  intro k cs' t' fr' hk h1 h2
  rw[h2,hB] at hk
  simp only[Option.some.injEq,Obj.cells.injEq] at hk
  exact h1 hk.2.1.symm
 obtain⟨g,a,hg⟩:=h.rc
 refine⟨hfr.keep h.d (hoff h.d (by decide)),⟨hfr.keep h.tab.box (hoff h.tab.box (by decide)),fun j hj=> ?_,h.tab.inj⟩,h.win.keep hfr (hoff h.win.box (by decide)) (fun k hk=> ?_),⟨g,a.keep hfr (hoff a.box (by decide)) (fun k hk=> ?_),hg⟩,h.ok⟩
 ·obtain⟨_,_,hb,hg,_⟩:=h.tab.set j hj
  exact(h.tab.set j hj).step hfr (hoff hb (by decide)) (hoff hg (by decide))
 ·obtain⟨cur,hc⟩:=own_block h.win.own hk
  exact hoff hc (by decide)
 ·obtain⟨cur,hc⟩:=own_block a.own hk
  exact hoff hc (by decide)
theorem XE.aside{w w':World}{l:XL}{x:Xe}{B:Nat}{cs:Array Value}{fr:Nat×Nat}(h:XE w l x)(hB:w.heap[B]? =some (.cells cs 47 fr))(hfr:Fr (fun k=>k=B) w w'):XE w' l x:=⟨h.at'.aside hB hfr,h.sep,h.low⟩
def EPstB(l:XL)(B:Nat)(w:World)(x:Xe)(w':World):Prop:=Fr (fun k=>XFoot l k∨k=B) w w'∧∃l',XNx w l l'∧XE w' l' x
theorem lif_new{w W2 w':World}{S T:Nat→Prop}(hf:Fr (fun _=>False) w W2)(f:Fr S W2 w')(h:∀k,k<w.heap.size→S k→T k):Fr T w w':=
 (lif (S:=T) hf).trans' f h
theorem EPstB.trans{w w1 w2:World}{l l1:XL}{B:Nat}{x:Xe}(hf:Fr (fun k=>XFoot l k∨k=B) w w1)(hn:XNx w l l1)(h:EPst l1 w1 x w2):EPstB l B w x w2:=by
 obtain⟨f,l2,n,e⟩:=h
 refine⟨hf.trans' f (fun k hk e=> ?_),l2,hn.trans n hf.size,e⟩
 rcases hn.F k e with e|e
 ·exact .inl e
 ·omega
theorem alloc_cells{w:World}{k:Nat}{cs:Array Value}{t:TypeId}{fr:Nat×Nat}(h:w.heap[k]? =some (.cells cs t fr))(o:Obj):(w.alloc o).heap[k]? =some (.cells cs t fr):=((Fr.refl (fun _=>False) w).alloc o).keep h (fun h=>h)
theorem EPstB.out{w W2 w':World}{l:XL}{B:Nat}{x:Xe}(hf:Fr (fun _=>False) w W2)(hB:w.heap.size≤B)(h:EPstB l B W2 x w'):EPst l w x w':=by
 obtain⟨f,l',n,e⟩:=h
 refine⟨lif_new hf f (fun k hk e=> ?_),l',⟨n.D,fun k hk=>(n.F k hk).imp id (Nat.le_trans hf.size)⟩,e⟩
 rcases e with e|e
 ·exact e
 ·omega
def PartPost(l:XL)(w0 w:World)(res:Except Nat (List UInt8×Xe))(e:Ending)(w':World):Prop:=
 match res with
 |.ok (b,x2)=>EPst l w x2 w'∧∃hb bb hv bv,e=.returned (.tuple #[hv,bv,.int .i64 0])∧b=hb++bb∧Rd w' hv hb∧Rd w' bv bb∧∀k,bv.ownBlock=some k→k<w0.heap.size∨w.heap.size≤k
 |.error n=>n≠0∧Fr (XFoot l) w w'∧∃hv bv,e=.returned (.tuple #[hv,bv,.int .i64 n])
set_option maxRecDepth 100000 in
theorem part_raw{w0 w:World}{l:XL}{x:Xe}(k:Nat)(hk:k=1∨k=2)(lc lp pb:Int)(qc qp qb:Nat)(raw:List UInt8)(ys:List Sz)(sv rv:Value)(h:XE w l x)(hq:qc+qp≤4∧qb≤4)(hk0:x.e.k=K.new)
 (hf0:Fr (fun _=>False) w0 w)(hfoot:∀k,XFoot l k→w0.heap.size≤k)(hrv:Rd w0 rv raw)(hrl:raw.length≤16777216)(ha:x.c.all.length≤1099511627776):
 Calls Tryz.prog 48 #[ptr l.D,.agg #[.int .i64 k,.int .i64 lc,.int .i64 lp,.int .i64 pb,sv,rv],.agg #[.int .i64 qc,.int .i64 qp,.int .i64 qb]] w (PartPost l w0 w (partP x ⟨k,lc,lp,pb,raw,ys⟩ (qc,qp,qb))):=by
 obtain⟨rp,rc,rfl,h1,h2,h3⟩:=hrv
 have hrv:Rd w0 (.slice rp raw.length rc) raw:=⟨rp,rc,rfl,h1,h2,h3⟩
 clear h1 h2 h3
 have HH:=Hd h
 have HF0:=Hd hf0
 have HFT:=Hd hfoot
 have HRV:=Hd hrv
 rcases hk with rfl|rfl
 ·go_enter Tryz.func48,Tryz.ntmps48
  go_wp2_with fail
  have hf3:=(((Fr.refl (fun _=>False) w).alloc (.cells #[.int .i64 1,.int .i64 lc,.int .i64 lp,.int .i64 pb,sv,.slice rp raw.length rc] 108)).alloc (.cells #[.int .i64 qc,.int .i64 qp,.int .i64 qb] 24)).alloc (.cells #[.int .i64 1,.int .i64 0,.int .i64 0,.int .i64 qc,.int .i64 qp,.int .i64 qb] 47)
  have hx3:=heap_alloc_new ((w.alloc (.cells #[.int .i64 1,.int .i64 lc,.int .i64 lp,.int .i64 pb,sv,.slice rp raw.length rc] 108)).alloc (.cells #[.int .i64 qc,.int .i64 qp,.int .i64 qb] 24)) (.cells #[.int .i64 1,.int .i64 0,.int .i64 0,.int .i64 qc,.int .i64 qp,.int .i64 qb] 47)
  have hxp:=alloc_cells (alloc_cells (heap_alloc_new w (.cells #[.int .i64 1,.int .i64 lc,.int .i64 lp,.int .i64 pb,sv,.slice rp raw.length rc] 108)) (.cells #[.int .i64 qc,.int .i64 qp,.int .i64 qb] 24)) (.cells #[.int .i64 1,.int .i64 0,.int .i64 0,.int .i64 qc,.int .i64 qp,.int .i64 qb] 47)
  have hxq:=alloc_cells (heap_alloc_new (w.alloc (.cells #[.int .i64 1,.int .i64 lc,.int .i64 lp,.int .i64 pb,sv,.slice rp raw.length rc] 108)) (.cells #[.int .i64 qc,.int .i64 qp,.int .i64 qb] 24)) (.cells #[.int .i64 1,.int .i64 0,.int .i64 0,.int .i64 qc,.int .i64 qp,.int .i64 qb] 47)
  simp only[World.size_alloc] at hx3 hxp hxq
  have HF3:=Hd hf3
  have HE3:=Hd (HH.out.keep hf3)
  have HX3:=Hd hx3
  have HXP:=Hd hxp
  have HXQ:=Hd hxq
  clear hf3 hx3 hxp hxq
  refine(xclear_calls HE3.out).mono ?_
  rintro e w2 ⟨rfl,f2,l2,n2,e2⟩
  have hx2:=f2.keep HX3.out (fun e=>by have:=HH.out.lt _ e;omega)
  have hxp2:=f2.keep HXP.out (fun e=>by have:=HH.out.lt _ e;omega)
  have a0:=cell_in (i:=0) hxp2 rfl
  obtain⟨y0,y1,y2,y3,y4,y5,yf⟩:=cf6 hx2 rfl rfl rfl rfl rfl rfl
  have HX2:=Hd hx2
  have HF2:=Hd f2
  have HN2:=Hd n2
  have HE2:=Hd e2
  clear f2 n2 e2 hx2 hxp2
  go_wp2_with fail
  have HB:=Hd (show w.heap.size≤w.heap.size+1+1 by omega)
  refine(Enc.hput_any 1 raw.length raw.length qc qp qb (by decide) (fun _=>rfl) hq.1 hq.2 _).mono ?_
  rintro e w5 ⟨hf5,hv,rfl,hM5⟩
  have hfs:Fr (fun k=>k=w.heap.size+1+1) w2 w5:=((Fr.one _ _ _ _).trans (Fr.one _ _ _ _)).trans (hf5.mono (fun _ _ h=>h.elim))
  have hE5:=HE2.out.aside HX2.out hfs
  have HF5:=Hd ((HF2.out.mono (T:=fun k=>XFoot l k∨k=w.heap.size+1+1) (fun _ _ h=>.inl h)).trans (hfs.mono (fun _ _ h=>.inr h)))
  have HE5:=Hd hE5
  have HF05:=Hd (HF0.out.trans' ((lif (S:=fun k=>XFoot l k∨k=w.heap.size+1+1) HF3.out).trans HF5.out) (fun k h1 h2=>by
   have:=HF0.out.size
   rcases h2 with h2|h2
   ·have:=HFT.out k h2;omega
   ·omega))
  have HM5:=Hd hM5
  clear hfs hE5 hf5 hM5
  by_cases hok:Enc.okS 1 raw.length raw.length=true
  ·rw[if_pos hok]
   have hM:=HM5.out hok
   have HM:=Hd hM
   have hn:1≤raw.length∧raw.length≤65536:=by
    unfold Enc.okS at hok
    rw[if_pos (by decide),decide_eq_true_eq] at hok
    exact hok
   have HRD5:=HRV.out.keep HF05.out
   have HXR:=Hd (xraw_calls HE5.out (.slice rp raw.length rc) raw HRD5 (fun h0 k hk e=>by
    have h1:=rd_lt HRV.out h0 k hk
    have h2:=HFT.out k
    rcases HN2.out.F k e with e|e
    ·have:=h2 e;omega
    ·have:=HF0.out.size;have:=HF3.out.size;omega) (by show 0+raw.length≤_;omega))
   rw[HN2.out.D] at HXR
   have HNN:=Hd hn
   clear hM hn HM5
   go_wp2_with fail
   refine HXR.out.mono ?_
   rintro e w6 ⟨rfl,hp6⟩
   have hp:EPst l w (x.clear.raw raw) w6:=by
    have h:=(EPstB.trans HF5.out HN2.out hp6).out HF3.out HB.out
    rw[hk0] at h
    exact h
   have hfx:=hp6.1
   have HRES:=Hd (show PartPost l w0 w (partP x ⟨1,lc,lp,pb,raw,ys⟩ (qc,qp,qb)) (.returned (.tuple #[hv,.slice rp raw.length rc,.int .i64 0])) w6 from by
    unfold partP
    simp only
    rw[if_pos (show(1:Int)≤2 by decide),if_pos HNN.out]
    refine⟨hp,_,_,_,_,rfl,rfl,(HM.out.step hfx (fun k hk e=> ?_)).rd,HRV.out.keep (HF05.out.trans' hfx (fun k h1 h2=> ?_)),fun k hk=>.inl (rd_lt HRV.out (by have:=HNN.out;omega) k hk)⟩
    ·have h1:=HM.out.new k hk
     have h2:=HE2.out.lt k e
     try simp only[World.size_setCell] at h1
     omega
    ·rcases HN2.out.F k h2 with e|e
     ·have:=HFT.out k e
      have:=HF0.out.size
      omega
     ·have:=HF0.out.size
      have:=HF3.out.size
      omega)
   clear hp hfx hp6
   go_wp2_with fail
   go_ret3
   exact HRES.out
  ·rw[if_neg hok]
   have HRES:=Hd (show PartPost l w0 w (partP x ⟨1,lc,lp,pb,raw,ys⟩ (qc,qp,qb)) (.returned (.tuple #[hv,.slice rp raw.length rc,.int .i64 7])) w5 from by
    unfold partP
    simp only
    rw[if_pos (show(1:Int)≤2 by decide),if_neg (show¬(1≤raw.length∧raw.length≤65536) from fun h=>hok (by unfold Enc.okS;rw[if_pos (by decide),decide_eq_true_eq];exact h))]
    exact⟨by decide,lif_new HF3.out HF5.out (fun k h1 h2=>h2.elim id (fun e=>by omega)),_,_,rfl⟩)
   go_wp2_with fail
   go_ret3
   exact HRES.out
 ·go_enter Tryz.func48,Tryz.ntmps48
  go_wp2_with fail
  have hf3:=(((Fr.refl (fun _=>False) w).alloc (.cells #[.int .i64 2,.int .i64 lc,.int .i64 lp,.int .i64 pb,sv,.slice rp raw.length rc] 108)).alloc (.cells #[.int .i64 qc,.int .i64 qp,.int .i64 qb] 24)).alloc (.cells #[.int .i64 2,.int .i64 raw.length,.int .i64 raw.length,.int .i64 qc,.int .i64 qp,.int .i64 qb] 47)
  have hx3:=heap_alloc_new ((w.alloc (.cells #[.int .i64 2,.int .i64 lc,.int .i64 lp,.int .i64 pb,sv,.slice rp raw.length rc] 108)).alloc (.cells #[.int .i64 qc,.int .i64 qp,.int .i64 qb] 24)) (.cells #[.int .i64 2,.int .i64 raw.length,.int .i64 raw.length,.int .i64 qc,.int .i64 qp,.int .i64 qb] 47)
  have hxp:=alloc_cells (alloc_cells (heap_alloc_new w (.cells #[.int .i64 2,.int .i64 lc,.int .i64 lp,.int .i64 pb,sv,.slice rp raw.length rc] 108)) (.cells #[.int .i64 qc,.int .i64 qp,.int .i64 qb] 24)) (.cells #[.int .i64 2,.int .i64 raw.length,.int .i64 raw.length,.int .i64 qc,.int .i64 qp,.int .i64 qb] 47)
  have hxq:=alloc_cells (heap_alloc_new (w.alloc (.cells #[.int .i64 2,.int .i64 lc,.int .i64 lp,.int .i64 pb,sv,.slice rp raw.length rc] 108)) (.cells #[.int .i64 qc,.int .i64 qp,.int .i64 qb] 24)) (.cells #[.int .i64 2,.int .i64 raw.length,.int .i64 raw.length,.int .i64 qc,.int .i64 qp,.int .i64 qb] 47)
  simp only[World.size_alloc] at hx3 hxp hxq
  have HF3:=Hd hf3
  have HE2:=Hd (HH.out.keep hf3)
  have HX3:=Hd hx3
  have HXP:=Hd hxp
  have HXQ:=Hd hxq
  clear hf3 hx3 hxp hxq
  generalize hW2:((w.alloc (.cells #[.int .i64 2,.int .i64 lc,.int .i64 lp,.int .i64 pb,sv,.slice rp raw.length rc] 108)).alloc (.cells #[.int .i64 qc,.int .i64 qp,.int .i64 qb] 24)).alloc (.cells #[.int .i64 2,.int .i64 raw.length,.int .i64 raw.length,.int .i64 qc,.int .i64 qp,.int .i64 qb] 47)=w2 at*
  have HX2:=HX3
  have HN2:=Hd (XNx.same (w:=w2) (l:=l))
  have HF2:=Hd (Fr.refl (XFoot l) w2)
  clear hW2
  have HB:=Hd (show w.heap.size≤w.heap.size+1+1 by omega)
  refine(Enc.hput_any 2 raw.length raw.length qc qp qb (by decide) (fun _=>rfl) hq.1 hq.2 _).mono ?_
  rintro e w5 ⟨hf5,hv,rfl,hM5⟩
  have hfs:Fr (fun k=>k=w.heap.size+1+1) w2 w5:=hf5.mono (fun _ _ h=>h.elim)
  have hE5:=HE2.out.aside HX2.out hfs
  have HF5:=Hd ((HF2.out.mono (T:=fun k=>XFoot l k∨k=w.heap.size+1+1) (fun _ _ h=>.inl h)).trans (hfs.mono (fun _ _ h=>.inr h)))
  have HE5:=Hd hE5
  have HF05:=Hd (HF0.out.trans' ((lif (S:=fun k=>XFoot l k∨k=w.heap.size+1+1) HF3.out).trans HF5.out) (fun k h1 h2=>by
   have:=HF0.out.size
   rcases h2 with h2|h2
   ·have:=HFT.out k h2;omega
   ·omega))
  have HM5:=Hd hM5
  clear hfs hE5 hf5 hM5
  by_cases hok:Enc.okS 2 raw.length raw.length=true
  ·rw[if_pos hok]
   have hM:=HM5.out hok
   have HM:=Hd hM
   have hn:1≤raw.length∧raw.length≤65536:=by
    unfold Enc.okS at hok
    rw[if_pos (by decide),decide_eq_true_eq] at hok
    exact hok
   have HRD5:=HRV.out.keep HF05.out
   have HXR:=Hd (xraw_calls HE5.out (.slice rp raw.length rc) raw HRD5 (fun h0 k hk e=>by
    have h1:=rd_lt HRV.out h0 k hk
    have h2:=HFT.out k
    rcases HN2.out.F k e with e|e
    ·have:=h2 e;omega
    ·have:=HF0.out.size;have:=HF3.out.size;omega) (by omega))
   rw[HN2.out.D] at HXR
   have HNN:=Hd hn
   clear hM hn HM5
   go_wp2_with fail
   refine HXR.out.mono ?_
   rintro e w6 ⟨rfl,hp6⟩
   have hp:EPst l w (x.raw raw) w6:=by
    have h:=(EPstB.trans HF5.out HN2.out hp6).out HF3.out HB.out
    skip
    exact h
   have hfx:=hp6.1
   have HRES:=Hd (show PartPost l w0 w (partP x ⟨2,lc,lp,pb,raw,ys⟩ (qc,qp,qb)) (.returned (.tuple #[hv,.slice rp raw.length rc,.int .i64 0])) w6 from by
    unfold partP
    simp only
    rw[if_pos (show(2:Int)≤2 by decide),if_pos HNN.out]
    refine⟨hp,_,_,_,_,rfl,rfl,(HM.out.step hfx (fun k hk e=> ?_)).rd,HRV.out.keep (HF05.out.trans' hfx (fun k h1 h2=> ?_)),fun k hk=>.inl (rd_lt HRV.out (by have:=HNN.out;omega) k hk)⟩
    ·have h1:=HM.out.new k hk
     have h2:=HE2.out.lt k e
     try simp only[World.size_setCell] at h1
     omega
    ·rcases HN2.out.F k h2 with e|e
     ·have:=HFT.out k e
      have:=HF0.out.size
      omega
     ·have:=HF0.out.size
      have:=HF3.out.size
      omega)
   clear hp hfx hp6
   go_wp2_with fail
   go_ret3
   exact HRES.out
  ·rw[if_neg hok]
   have HRES:=Hd (show PartPost l w0 w (partP x ⟨2,lc,lp,pb,raw,ys⟩ (qc,qp,qb)) (.returned (.tuple #[hv,.slice rp raw.length rc,.int .i64 7])) w5 from by
    unfold partP
    simp only
    rw[if_pos (show(2:Int)≤2 by decide),if_neg (show¬(1≤raw.length∧raw.length≤65536) from fun h=>hok (by unfold Enc.okS;rw[if_pos (by decide),decide_eq_true_eq];exact h))]
    exact⟨by decide,lif_new HF3.out HF5.out (fun k h1 h2=>h2.elim id (fun e=>by omega)),_,_,rfl⟩)
   go_wp2_with fail
   go_ret3
   exact HRES.out
theorem good_bad{a b c:Nat}(h:a+b≤4∧c≤4):Pi3.bad ((a:Int),(b:Int),(c:Int))=false:=by
 unfold Pi3.bad propsBad
 simp
 omega
def PtRel(l:XL)(W3:World)(ys:List Sz)(x1:Xe)(kd qc qp qb Bc:Nat)(i:Value)(wr:World):Prop:=
 ∃(k:Nat)(x':Xe)(n:Nat)(l':XL),k≤ys.length∧i=.int .i64 (k:Nat)∧Fr (fun k=>XFoot l k∨k=Bc) W3 wr∧XNx W3 l l'∧XE wr l' x'∧wr.heap[Bc]? =some (.cells #[.int .i64 kd,.int .i64 n,.int .i64 0,.int .i64 qc,.int .i64 qp,.int .i64 qb] 47 (0,0))∧
  putsZ ys x1 0=putsZ (ys.drop k) x' n∧x'.e.k.s≤52*k∧x'.c.all.length≤x1.c.all.length+273*k∧n≤273*k
theorem drop_cons'{α:Type}{l:List α}{k:Nat}{a:α}(h:l[k]? =some a):l.drop k=a::l.drop (k+1):=by
 obtain⟨hk,rfl⟩:=List.getElem?_eq_some_iff.1 h
 exact List.drop_eq_getElem_cons hk
end En
end Go.Proofs.YtlgccpjccopdmaaGreatDoor
