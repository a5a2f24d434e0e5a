/- Part 17 of 48: lemmas of the last part, each under the conditions that it names. -/
import Derived.Deep.RegionHeld3
import Derived.BigRegion
import Derived.Test.YtffoddpjfgjelaaGreatDoorQ16
set_option linter.unusedVariables false
set_option linter.unusedSimpArgs false
set_option maxRecDepth 1500
set_option maxHeartbeats 4000000
namespace Go.Proofs.YtffoddpjfgjelaaGreatDoor
open Go.RowKit
namespace Lz
open Mem Rc St Win
theorem takeGo_succ(n f:Nat)(c:C)(y:Y)(l:List Sy)(out:List UInt8):takeGo n (f+1) c y l out=
 if n≤out.length then some (c,y,l,out)
 else if(y.symbol c).2.bad=true∨St.size (y.symbol c).1<1∨n-out.length<St.size (y.symbol c).1 then none
 else if(apply c.size c.all c.s (y.symbol c).1).1≠0 then none
 else takeGo n f ((c.on (apply c.size c.all c.s (y.symbol c).1).2.1).to (apply c.size c.all c.s (y.symbol c).1).2.2) (y.symbol c).2 (l++[(y.symbol c).1]) (out++(apply c.size c.all c.s (y.symbol c).1).2.1):=rfl
def AllPost(l:L)(c:C)(ps:Nat→List Nat)(xs:List UInt8)(n:Nat)(w:World)(e:Ending)(w':World):Prop:=
 ∃lv pv ok,e=.returned (.tuple #[lv,pv,.bool ok])∧Fr l.F w w'∧w'.heap[l.D]? =w.heap[l.D]? ∧match takeAll c ps xs n with
  |none=>ok=false
  |some (ls,outs,c2,ps2)=>ok=true∧∃l',Nx w l l'∧Dec w' l' c2 ps2 false∧Mine w w' pv outs∧Syms w w' lv ls∧(∀k,pv.ownBlock=some k→¬l'.F k)∧(∀k,lv.ownBlock=some k→¬l'.F k)
structure Stg(l:L)(w wk:World)(lv pv:Value)(ls:List Sy)(outs:List UInt8):Prop where
 fr:Fr l.F w wk
 d:wk.heap[l.D]? =w.heap[l.D]?
 mine:Mine w wk pv outs
 syms:Syms w wk lv ls
 tabs:Tabs wk
structure Base(l:L)(w:World):Prop where
 tabs:Tabs w
 five:∀k,l.F k→6≤k
 d:l.D<w.heap.size
theorem Stg.step{S:Nat→Prop}{l:L}{w wk wk':World}{lv pv:Value}{ls:List Sy}{outs:List UInt8}(h:Stg l w wk lv pv ls outs)(hb:Base l w)(hfr:Fr S wk wk')(hS:∀k,S k→k<w.heap.size→l.F k)(hD:¬S l.D)
 (hp:∀k,pv.ownBlock=some k→¬S k)(hl:∀k,lv.ownBlock=some k→¬S k):Stg l w wk' lv pv ls outs:=by
 have h5:=hb.tabs.size
 refine⟨h.fr.trans' hfr (fun i hi hs=>hS i hs hi),(hfr.block l.D (Nat.lt_of_lt_of_le hb.d h.fr.size) hD).trans h.d,h.mine.step hfr hp,h.syms.step hfr hl,h.tabs.step hfr (fun k hk=> ?_)⟩
 by_cases hlt:k<w.heap.size
 ·exact hb.five k (hS k hk hlt)
 ·omega
theorem Stg.keep{l:L}{w wk wk':World}{lv pv:Value}{ls:List Sy}{outs:List UInt8}(h:Stg l w wk lv pv ls outs)(hb:Base l w)(hfr:Fr (fun _=>False) wk wk'):Stg l w wk' lv pv ls outs:=
 h.step hb hfr (fun _ h=>h.elim) (fun h=>h) (fun _ _ h=>h) (fun _ _ h=>h)
theorem At.offS{w:World}{l:L}{c:C}{y:Y}(h:At w l c y){T:TypeId}{size n:Nat}{v:Value}{zs:List Value}(ho:w.ownsRow 0 T size v n zs)(h1:T≠341)(h2:T≠381)(h3:T≠3):∀k,v.ownBlock=some k→¬l.S k:=by
 intro k hk
 obtain⟨cur,hc⟩:=own_block ho hk
 exact h.off hc h1 h2 h3
structure Loop(l lx:L)(c0:C)(y0:Y)(n:Nat)(w:World)(lv pv:Value)(wr:World)(f:Nat)(c:C)(y:Y)(ls:List Sy)(outs:List UInt8)(rv:Value)(ring:List UInt8)(t:Nat):Prop where
 fuel:n-outs.length<f
 go:takeGo n (n+1) c0 y0 [] []=takeGo n f c y ls outs
 le:outs.length≤n
 all:c.all.length=c0.all.length+outs.length
 size:c.size=c0.size
 at':At wr {lx with rv:=rv,ring:=ring,t:=t} c y
 bad:y.bad=false
 stg:Stg l w wr lv pv ls outs
 lls:ls.length≤outs.length
 rvn:∀k,rv.ownBlock=some k→l.rv.ownBlock=some k∨w.heap.size≤k
 apart:∀k,pv.ownBlock=some k→rv.ownBlock≠some k
 bvr:∀k,lx.bv.ownBlock=some k→rv.ownBlock≠some k
 bvp:∀k,lx.bv.ownBlock=some k→pv.ownBlock≠some k
 bvl:∀k,lx.bv.ownBlock=some k→lv.ownBlock≠some k
def Rel(l lx:L)(c0:C)(y0:Y)(n:Nat)(w:World)(lv pv:Value)(wr:World):Prop:=∃f c y ls outs rv ring t,Loop l lx c0 y0 n w lv pv wr f c y ls outs rv ring t
structure Aft(l lx:L)(w w5 w6:World)(lv pv v:Value)(ls:List Sy)(outs bytes:List UInt8)(c:C)(y:Y)(rv:Value)(ring:List UInt8)(t:Nat):Prop where
 stg:Stg l w w6 lv pv ls outs
 at':At w6 {lx with rv:=rv,ring:=ring,t:=t} (c.on bytes) y
 mine:Mine w w6 v bytes
 rvn:∀k,rv.ownBlock=some k→l.rv.ownBlock=some k∨w.heap.size≤k
 vr:∀k,v.ownBlock=some k→rv.ownBlock≠some k
 pr:∀k,pv.ownBlock=some k→rv.ownBlock≠some k
 br:∀k,lx.bv.ownBlock=some k→rv.ownBlock≠some k
 vp:∀k,v.ownBlock=some k→pv.ownBlock≠some k
theorem after_apply{l lx:L}{w w5 W' wc w6:World}{lv pv v:Value}{ls:List Sy}{outs bytes:List UInt8}{c:C}{y:Y}{rv:Value}{ring:List UInt8}{t zs:Nat}(hb:Base l w)(hs:Stg l w w5 lv pv ls outs)
 (hA:At w5 {lx with rv:=rv,ring:=ring,t:=t} c y)(hxD:lx.D=l.D)(hxW:lx.W=l.W)(hrvn:∀k,rv.ownBlock=some k→l.rv.ownBlock=some k∨w.heap.size≤k)(hpr:∀k,pv.ownBlock=some k→rv.ownBlock≠some k)(hbr:∀k,lx.bv.ownBlock=some k→rv.ownBlock≠some k)
 (hf:Fr (fun _=>False) w5 W')(hd:Done W' l.W c.size rv c.all bytes v wc)(h6:Fr (fun k=>k=zs) wc w6)(hz:w5.heap.size≤zs)(hz2:zs<W'.heap.size∨wc.heap.size≤zs):
 ∃rv2 ring2 t2,Aft l lx w w5 w6 lv pv v ls outs bytes c y rv2 ring2 t2:=by
 have hAW:=hA.keep hf
 have hdl:Done W' lx.W c.size rv c.all bytes v wc:=by rw[hxW];exact hd
 obtain⟨rv2,ring2,t2,hA2,hn2,hv2,hb2⟩:=hAW.applied hdl hbr
 have h5w:=hf.size
 have hwc:=hd.fr.size
 have h0:=hs.fr.size
 have hpl:∀k,pv.ownBlock=some k→k<w5.heap.size:=fun k hk=>(World.ownsRow.lt hs.mine.own k hk).2
 have hll:∀k,lv.ownBlock=some k→k<w5.heap.size:=fun k hk=>(World.ownsRow.lt hs.syms.own k hk).2
 have hD5:l.D<w5.heap.size:=Nat.lt_of_lt_of_le hb.d h0
 have hsc:Stg l w wc lv pv ls outs:=by
  refine(hs.keep hb hf).step hb hd.fr (fun k hk hlt=> ?_) ?_ (fun k hk h3=> ?_) (fun k hk h3=> ?_)
  ·rcases hk with hk|hk
   ·exact .inr (.inr (.inl hk))
   ·rcases hrvn k hk with h1|h1
    ·exact .inr (.inr (.inr (.inl h1)))
    ·omega
  ·rintro(h3|h3)
   ·have h1:=hA.win.box
    have h2:=hA.d
    simp only[hxD,hxW] at h1 h2
    rw[h3,h1] at h2
    simp at h2
   ·obtain⟨cur,hc⟩:=own_block hA.win.own h3
    have h2:=hA.d
    simp only[hxD] at h2
    rw[hc] at h2
    simp at h2
  ·rcases h3 with h3|h3
   ·obtain⟨cur,hc⟩:=own_block hs.mine.own hk
    have h1:=hA.win.box
    simp only[hxW] at h1
    rw[h3,h1] at hc
    simp at hc
   ·exact hpr k hk h3
  ·obtain⟨cur,hc⟩:=own_block hs.syms.own hk
   rcases h3 with h3|h3
   ·have h1:=hA.win.box
    simp only[hxW] at h1
    rw[h3,h1] at hc
    simp at hc
   ·obtain⟨cur2,hc2⟩:=own_block hA.win.own h3
    rw[hc2] at hc
    simp at hc
 have hvn:∀k,v.ownBlock=some k→W'.heap.size≤k∧k<wc.heap.size:=fun k hk=>⟨hd.mine.new k hk,(World.ownsRow.lt hd.mine.own k hk).2⟩
 have hvz:∀k,v.ownBlock=some k→¬k=zs:=fun k hk e=>by have:=hvn k hk;omega
 have hrz:∀k,rv2.ownBlock=some k→¬k=zs:=fun k hk e=>by
  have h1:=(World.ownsRow.lt hA2.win.own k hk).2
  rcases hn2 k hk with h2|h2
  ·have:=(World.ownsRow.lt hA.win.own k h2).2
   omega
  ·omega
 refine⟨rv2,ring2,t2,⟨hsc.step hb h6 (fun k hk hlt=>by omega) (by omega) (fun k hk=>by have:=hpl k hk;omega) (fun k hk=>by have:=hll k hk;omega),?_,⟨(hd.mine.step h6 hvz).own,fun k hk=>by have:=hvn k hk;omega⟩,fun k hk=> ?_,hv2,fun k hk he=> ?_,hb2,fun k hk he=> ?_⟩⟩
 ·have x1:=lt_of_block hA.x
  have x2:=lt_of_block hA.d
  have x3:=lt_of_block hA.tab.box
  have x4:=lt_of_block hA.win.box
  have x5:=lt_of_block hA.rc.1
  simp only at x1 x2 x3 x4 x5
  refine⟨h6.keep hA2.x (show¬lx.X=zs by omega),h6.keep hA2.d (show¬lx.D=zs by omega),⟨h6.keep hA2.tab.box (show¬lx.T=zs by omega),fun j hj=> ?_,hA2.tab.inj⟩,hA2.win.keep h6 (show¬lx.W=zs by omega) hrz,hA2.rc.keep h6 (show¬lx.R=zs by omega) (fun k hk e=> ?_),hA2.ok,hA2.c,hA2.bvoff,hA2.rvoff⟩
  ·have:=(hA.tab.set j hj).lt
   simp only at this
   exact(hA2.tab.set j hj).step h6 (show¬lx.b j=zs by omega) (show¬lx.g j=zs by omega)
  ·have h1:=rd_lt hA.rc.2 hA.ok.d.2.2.2.2 k hk
   omega
 ·rcases hn2 k hk with h2|h2
  ·exact hrvn k h2
  ·exact .inr (by omega)
 ·rcases hn2 k he with h2|h2
  ·exact hpr k hk h2
  ·have:=hpl k hk
   omega
 ·have:=hvn k hk
  have:=hpl k he
  omega
structure Mid(l lx:L)(w wk:World)(lv pv v:Value)(ls:List Sy)(outs bytes:List UInt8)(c:C)(y:Y)(rv:Value)(ring:List UInt8)(t:Nat):Prop where
 stg:Stg l w wk lv pv ls outs
 at':At wk {lx with rv:=rv,ring:=ring,t:=t} c y
 mine:Mine w wk v bytes
theorem Mid.keep{l lx:L}{w wk wk':World}{lv pv v:Value}{ls:List Sy}{outs bytes:List UInt8}{c:C}{y:Y}{rv:Value}{ring:List UInt8}{t:Nat}(h:Mid l lx w wk lv pv v ls outs bytes c y rv ring t)(hb:Base l w)(hfr:Fr (fun _=>False) wk wk'):Mid l lx w wk' lv pv v ls outs bytes c y rv ring t:=
 ⟨h.stg.keep hb hfr,h.at'.keep hfr,h.mine.keep hfr⟩
theorem mid_of{l lx:L}{w w5 w6 w7:World}{lv pv v:Value}{ls:List Sy}{outs bytes:List UInt8}{c:C}{y:Y}{rv:Value}{ring:List UInt8}{t:Nat}{s:S}(hb:Base l w)(h:Aft l lx w w5 w6 lv pv v ls outs bytes c y rv ring t)
 (hxD:lx.D=l.D)(hxT:lx.T=l.T)(hxb:lx.b=l.b)(hs:s.Ok)(hf7:Fr (fun k=>k=l.T) w6 w7)(hb7:w7.heap[l.T]? =some (.cells (tabV c.lc c.lp c.pb s l.b) 217 (0,0))):
 Mid l lx w w7 lv pv v ls outs bytes ((c.on bytes).to s) y rv ring t:=by
 have hbox:=h.at'.tab.box
 simp only[hxT] at hbox
 have hoff:∀{T:TypeId}{size n:Nat}{x:Value}{zs:List Value},w6.ownsRow 0 T size x n zs→T≠217→∀k,x.ownBlock=some k→¬k=l.T:=by
  intro T size n x zs ho h1 k hk e
  obtain⟨cur,hc⟩:=own_block ho hk
  rw[e,hbox] at hc
  simp only[Option.some.injEq,Obj.cells.injEq] at hc
  exact h1 hc.2.1.symm
 refine⟨h.stg.step hb hf7 (fun k hk _=>.inr (.inl hk)) (fun(e:l.D=l.T)=> ?_) (hoff h.stg.mine.own (by decide)) (hoff h.stg.syms.own (by decide)),?_,h.mine.step hf7 (hoff h.mine.own (by decide))⟩
 ·have h2:=h.at'.d
  simp only[hxD] at h2
  rw[e,hbox] at h2
  simp at h2
 ·refine h.at'.stated s hs ?_ ?_
  ·simp only[hxT]
   exact hf7
  ·simp only[hxT,hxb]
   exact hb7
theorem owned_off{w:World}{T:TypeId}{size n:Nat}{x:Value}{zs:List Value}(ho:w.ownsRow 0 T size x n zs)(hT:¬owned T):∀k cs t fr,w.heap[k]? =some (.cells cs t fr)→owned t→¬x.ownBlock=some k:=by
 intro k cs t fr hk ht he
 obtain⟨cur,hc⟩:=own_block ho he
 rw[hk] at hc
 simp only[Option.some.injEq,Obj.cells.injEq] at hc
 exact hT (hc.2.1 ▸ ht)
theorem type_off{w:World}{T T2:TypeId}{size n size2 n2:Nat}{x x2:Value}{zs zs2:List Value}(ho:w.ownsRow 0 T size x n zs)(ho2:w.ownsRow 0 T2 size2 x2 n2 zs2)(hT:T≠T2):∀k,x.ownBlock=some k→¬x2.ownBlock=some k:=by
 intro k hk he
 obtain⟨cur,hc⟩:=own_block ho hk
 obtain⟨cur2,hc2⟩:=own_block ho2 he
 rw[hc] at hc2
 simp only[Option.some.injEq,Obj.cells.injEq] at hc2
 exact hT hc2.2.1
theorem mid_app1{l lx:L}{w w8 w9:World}{lv lv2 pv v:Value}{ls ls2:List Sy}{outs bytes:List UInt8}{c:C}{y:Y}{rv:Value}{ring:List UInt8}{t:Nat}(hb:Base l w)(h:Mid l lx w w8 lv pv v ls outs bytes c y rv ring t)(hxD:lx.D=l.D)
 (hbl:∀k,lx.bv.ownBlock=some k→lv.ownBlock≠some k)(hs:Syms w w9 lv2 ls2)(hf:Fr (fun k=>lv.ownBlock=some k) w8 w9):Mid l lx w w9 lv2 pv v ls2 outs bytes c y rv ring t:=by
 have hA:=h.at'.keepO hf (owned_off h.stg.syms.own (by decide)) (type_off h.at'.win.own h.stg.syms.own (by decide)) hbl
 have hst:=h.stg
 have h5:=hb.tabs.size
 refine⟨⟨hst.fr.trans' hf (fun k hk(he:lv.ownBlock=some k)=> ?_),?_,hst.mine.step hf (type_off hst.mine.own hst.syms.own (by decide)),hs,hst.tabs.step hf (fun k he=> ?_)⟩,hA,h.mine.step hf (type_off h.mine.own hst.syms.own (by decide))⟩
 ·have:=hst.syms.new k he
  omega
 ·have h2:=h.at'.d
  simp only[hxD] at h2
  exact(hf.block l.D (lt_of_block h2) (owned_off hst.syms.own (by decide) _ _ _ _ h2 (by decide))).trans hst.d
 ·have:=hst.syms.new k he
  omega
theorem mid_app2{l lx:L}{w w9 w10:World}{lv pv pv2 v:Value}{ls:List Sy}{outs outs2 bytes:List UInt8}{c:C}{y:Y}{rv:Value}{ring:List UInt8}{t:Nat}(hb:Base l w)(h:Mid l lx w w9 lv pv v ls outs bytes c y rv ring t)(hxD:lx.D=l.D)
 (hbp:∀k,lx.bv.ownBlock=some k→pv.ownBlock≠some k)(hpr:∀k,pv.ownBlock=some k→rv.ownBlock≠some k)(hm:Mine w w10 pv2 outs2)(hf:Fr (fun k=>pv.ownBlock=some k) w9 w10):Stg l w w10 lv pv2 ls outs2∧At w10 {lx with rv:=rv,ring:=ring,t:=t} c y:=by
 have hA:=h.at'.keepO hf (owned_off h.stg.mine.own (by decide)) (fun k hk he=>hpr k he hk) hbp
 have hst:=h.stg
 have h5:=hb.tabs.size
 refine⟨⟨hst.fr.trans' hf (fun k hk(he:pv.ownBlock=some k)=> ?_),?_,hm,hst.syms.step hf (type_off hst.syms.own hst.mine.own (by decide)),hst.tabs.step hf (fun k he=> ?_)⟩,hA⟩
 ·have:=hst.mine.new k he
  omega
 ·have h2:=h.at'.d
  simp only[hxD] at h2
  exact(hf.block l.D (lt_of_block h2) (owned_off hst.mine.own (by decide) _ _ _ _ h2 (by decide))).trans hst.d
 ·have:=hst.mine.new k he
  omega
theorem Rel.start{l lx:L}{c:C}{ps:Nat→List Nat}{d:D}{n:Nat}{w w1:World}(hA:At w1 lx c ⟨d,false,ps⟩)(hfr:Fr (fun _=>False) w w1)(hd:∃o,w.heap[l.D]? =some o)(hrv:lx.rv=l.rv)(hbr:∀k,lx.bv.ownBlock=some k→lx.rv.ownBlock≠some k)(hT:Tabs w):Rel l lx c ⟨d,false,ps⟩ n w (.slice none 0 0) (.slice none 0 0) w1:=by
 refine⟨n+1,c,_,[],[],lx.rv,lx.ring,lx.t,⟨by simp,rfl,by simp,by simp,rfl,hA,rfl,⟨lift hfr,?_,Mine.nil _ _,⟨World.ownsRow_nil _ _ _ _,fun k hk=>by simp[Value.ownBlock] at hk⟩,hT.keep hfr⟩,by simp,fun k hk=>.inl (hrv ▸ hk),fun k hk=>by simp[Value.ownBlock] at hk,hbr,fun k hk=>by simp[Value.ownBlock],fun k hk=>by simp[Value.ownBlock]⟩⟩
 obtain⟨o,ho⟩:=hd
 rw[hfr.keep ho (fun h=>h),ho]
theorem loop_next{l lx:L}{c0 c c2:C}{y0 y1 y2:Y}{n f:Nat}{w wr w5 w6 w8 w9 w10:World}{lv lv2 pv pv2 v:Value}{ls ls2:List Sy}{outs outs2 bytes:List UInt8}{rv rv6:Value}{ring ring6:List UInt8}{t t6:Nat}{sy:Sy}
 (hL:Loop l lx c0 y0 n w lv pv wr (f+1) c y1 ls outs rv ring t)(haf:Aft l lx w w5 w6 lv pv v ls outs bytes c y2 rv6 ring6 t6)(h8:Mid l lx w w8 lv pv v ls outs bytes c2 y2 rv6 ring6 t6)
 (hn9:∀k,lv2.ownBlock=some k→lv.ownBlock=some k∨w8.heap.size≤k)(h9:Mid l lx w w9 lv2 pv v ls2 outs bytes c2 y2 rv6 ring6 t6)(hn10:∀k,pv2.ownBlock=some k→pv.ownBlock=some k∨w9.heap.size≤k)
 (h10:Stg l w w10 lv2 pv2 ls2 outs2∧At w10 {lx with rv:=rv6,ring:=ring6,t:=t6} c2 y2)(hgo:takeGo n (n+1) c0 y0 [] []=takeGo n f c2 y2 ls2 outs2)(hls2:ls2=ls++[sy])(ho2:outs2=outs++bytes)
 (hb1:1≤bytes.length)(hb2:bytes.length≤n-outs.length)(hlt:outs.length<n)(hbad:y2.bad=false)(hc2:c2.all=c.all++bytes)(hc3:c2.size=c.size):Loop l lx c0 y0 n w lv2 pv2 w10 f c2 y2 ls2 outs2 rv6 ring6 t6:=by
 have hfu:=hL.fuel
 have hall:=hL.all
 have hll:=hL.lls
 subst hls2
 subst ho2
 have hlen:(outs++bytes).length=outs.length+bytes.length:=List.length_append
 have hrl:∀k,rv6.ownBlock=some k→k<w9.heap.size:=fun k hk=>(World.ownsRow.lt h9.at'.win.own k hk).2
 have hbl8:∀k,lx.bv.ownBlock=some k→k<w8.heap.size:=fun k hk=>rd_lt h8.at'.rc.2 h8.at'.ok.d.2.2.2.2 k hk
 have hbl9:∀k,lx.bv.ownBlock=some k→k<w9.heap.size:=fun k hk=>rd_lt h9.at'.rc.2 h9.at'.ok.d.2.2.2.2 k hk
 refine⟨by omega,hgo,by omega,?_,hc3.trans hL.size,h10.2,hbad,h10.1,?_,haf.rvn,fun k hk he=> ?_,haf.br,fun k hk he=> ?_,fun k hk he=> ?_⟩
 ·rw[hc2,List.length_append,List.length_append]
  omega
 ·rw[List.length_append,List.length_append,List.length_singleton]
  omega
 ·rcases hn10 k hk with h|h
  ·exact haf.pr k h he
  ·have:=hrl k he
   omega
 ·rcases hn10 k he with h|h
  ·exact hL.bvp k hk h
  ·have:=hbl9 k hk
   omega
 ·rcases hn9 k he with h|h
  ·exact hL.bvl k hk h
  ·have:=hbl8 k hk
   omega
theorem all_done{l lx:L}{c c1:C}{ps:Nat→List Nat}{d:D}{xs:List UInt8}{n f:Nat}{w wr w2:World}{lv pv:Value}{y1:Y}{ls:List Sy}{outs:List UInt8}{rv:Value}{ring:List UInt8}{t:Nat}
 (hxD:lx.D=l.D)(hxT:lx.T=l.T)(hxW:lx.W=l.W)(hxb:lx.b=l.b)(hxg:lx.g=l.g)(hL:Loop l lx c ⟨d,false,ps⟩ n w lv pv wr (f+1) c1 y1 ls outs rv ring t)(hi:init xs=.ok d)(hle:n≤outs.length)(hs2:Stg l w w2 lv pv ls outs)
 (hA2:At w2 {lx with rv:=rv,ring:=ring,t:=t} c1 y1)(dn:Bool)(hdn:decide (y1.d.read=y1.d.b.length∧y1.d.now=0)=dn):AllPost l c ps xs n w (.returned (.tuple #[lv,pv,.bool dn])) w2:=by
 have hgo:takeGo n (n+1) c ⟨d,false,ps⟩ [] []=some (c1,y1,ls,outs):=(hL.go.trans (takeGo_succ n f c1 y1 ls outs)).trans (if_pos hle)
 refine⟨lv,pv,dn,rfl,hs2.fr,hs2.d,?_⟩
 cases dn with
 |false=>
   have ht:takeAll c ps xs n=none:=by
    unfold takeAll
    rw[hi]
    simp only
    rw[hgo]
    simp only
    rw[if_neg (of_decide_eq_false hdn)]
   rw[ht]
 |true=>
   have ht:takeAll c ps xs n=some (ls,outs,c1,y1.ps):=by
    unfold takeAll
    rw[hi]
    simp only
    rw[hgo]
    simp only
    rw[if_pos (of_decide_eq_true hdn)]
   rw[ht]
   have hd:=hA2.d
   have htab:=hA2.tab
   have hwin:=hA2.win
   simp only[hxD,hxT,hxW,hxb,hxg] at hd htab hwin
   have hdec:Dec w2 {l with rv:=rv,ring:=ring,t:=t} c1 y1.ps false:=⟨hd,htab,hwin,hA2.c,hA2.ok.len⟩
   have hoff:∀{T:TypeId}{size m:Nat}{x:Value}{zs:List Value},w2.ownsRow 0 T size x m zs→¬owned T→∀k,x.ownBlock=some k→rv.ownBlock≠some k→¬L.F {l with rv:=rv,ring:=ring,t:=t} k:=by
    intro T size m x zs ho hT k hk hr hF
    have hown:=fun cs t fr h1 h2=>owned_off ho hT k cs t fr h1 h2 hk
    rcases hF with hF|hF|hF|hF|⟨j,hj,hF|hF⟩
    ·simp only at hF
     subst hF
     exact hown _ _ _ hd (by decide)
    ·simp only at hF
     subst hF
     exact hown _ _ _ htab.box (by decide)
    ·simp only at hF
     subst hF
     exact hown _ _ _ hwin.box (by decide)
    ·exact hr hF
    ·obtain⟨_,_,_,hg,_⟩:=htab.set j hj
     simp only at hF
     subst hF
     exact hown _ _ _ hg (by decide)
    ·obtain⟨_,_,hb,_⟩:=htab.set j hj
     simp only at hF
     subst hF
     exact hown _ _ _ hb (by decide)
   refine⟨rfl,{l with rv:=rv,ring:=ring,t:=t},⟨rfl,fun k hk=> ?_⟩,hdec,hs2.mine,hs2.syms,fun k hk=>hoff hs2.mine.own (by decide) k hk (hL.apart k hk),fun k hk=>hoff hs2.syms.own (by decide) k hk (type_off hs2.syms.own hwin.own (by decide) k hk)⟩
   rcases hk with hk|hk|hk|hk|hk
   ·exact .inl (.inl hk)
   ·exact .inl (.inr (.inl hk))
   ·exact .inl (.inr (.inr (.inl hk)))
   ·exact(hL.rvn k hk).imp (fun h=>.inr (.inr (.inr (.inl h)))) id
   ·exact .inl (.inr (.inr (.inr (.inr hk))))
set_option maxRecDepth 100000 in
theorem all_calls{l:L}{c:C}{ps:Nat→List Nat}{w:World}(h:Dec w l c ps false)(v:Value)(xs:List UInt8)(hr:Rd w v xs)(hxl:xs.length≤1099511627776)(n:Nat)(hn:n≤2097152)(hm:c.all.length+n≤1152921504606840000)(hT:Tabs w)(hF:∀k,l.F k→6≤k):
 Calls Tryz.prog 159 #[ptr l.D,v,.int .i64 n] w (AllPost l c ps xs n w):=by
 have HN:=Hd (newReader_calls h v xs hr hxl)
 have H:=Hd h
 have HTABS:=Hd hT
 have HF5:=Hd hF
 clear h hr hT hF
 cases hi:init xs with
 |error x=>
   rw[hi] at HN
   have ht:takeAll c ps xs n=none:=by unfold takeAll;rw[hi]
   have HTK:=Hd ht
   clear hi ht
   go_enter Tryz.func159,Tryz.ntmps159
   go_wp2_with fail
   refine HN.out.mono ?_
   rintro e w1 ⟨hfr,rfl⟩
   have HF:=Hd hfr
   have HD:=Hd ((hfr.keep H.out.d (fun h=>h)).trans H.out.d.symm)
   clear hfr
   go_wp2_with fail
   go_ret3
   refine⟨_,_,false,rfl,lift HF.out,HD.out,?_⟩
   rw[HTK.out]
 |ok d=>
   rw[hi] at HN
   have HI:=Hd hi
   clear hi
   go_enter Tryz.func159,Tryz.ntmps159
   go_wp2_with fail
   refine HN.out.mono ?_
   rintro e w1 ⟨hfr,X,R,bv,rfl,hA,hX,hR,hbv⟩
   have HR0:=Hd (Rel.start (n:=n) hA hfr ⟨_,H.out.d⟩ rfl (fun k hk he=>by
    have h1:=hbv k hk
    have h2:=H.out.old k (.inr (.inr (.inr (.inl he))))
    omega) HTABS.out)
   have HBASE:=Hd (show Base l w from⟨HTABS.out,HF5.out,lt_of_block H.out.d⟩)
   have HSF:=Hd (show∀i,i<w.heap.size→L.S {l with X:=X,R:=R,bv:=bv} i→l.F i from fun i hi hS=>by
    rcases hS with hS|hS|⟨j,hj,hS⟩
    ·simp only at hS
     omega
    ·simp only at hS
     omega
    ·exact .inr (.inr (.inr (.inr ⟨j,hj,.inl hS⟩))))
   have HBV:=Hd hbv
   clear hfr hA hbv
   go_wp2_with fail
   go_loopw [10,11] (fun lv pv wr=>Rel l {l with X:=X,R:=R,bv:=bv} c ⟨d,false,ps⟩ n w lv pv wr) (fun _ pv _=>n-lenOf pv)
   case atStart=>exact HR0.out
   have FAIL:=Hd (show∀lv pv lv2 pv2 ls outs wk,Stg l w wk lv2 pv2 ls outs→takeGo n (n+1) c ⟨d,false,ps⟩ [] []=none→AllPost l c ps xs n w (.returned (.tuple #[lv,pv,.bool false])) wk from fun lv pv lv2 pv2 ls outs wk hs hg=>by
    refine⟨lv,pv,false,rfl,hs.fr,hs.d,?_⟩
    have ht:takeAll c ps xs n=none:=by
     unfold takeAll
     rw[HI.out]
     simp only
     rw[hg]
    rw[ht])
   case round=>
    obtain⟨f,c1,y1,ls,outs,rv,ring,t,hloop⟩:=hrel
    obtain⟨p,cap,hpv⟩:=hloop.stg.mine.slice
    subst hpv
    have HL:=Hd hloop
    have hle:=hloop.le
    have hfu:=hloop.fuel
    clear hloop
    have hAt:=HL.out.at'
    by_cases hlt:outs.length<n
    ·obtain⟨f,rfl⟩:∃f',f=f'+1:=⟨f-1,by omega⟩
     have HGO:=Hd ((HL.out.go.trans (takeGo_succ n f c1 y1 ls outs)).trans (if_neg (by omega)))
     have HSY:=Hd (symbol_calls hAt)
     have hok:=(Y.symbol_ok (y:=y1) (c:=c1) hAt.ok).2
     unfold PostS at HSY
     clear hAt
     generalize y1.symbol c1=r at*
     obtain⟨sy,y2⟩:=r
     simp only at hok HSY HGO
     have HOK:=Hd hok
     have HSZ:=fun W(h:Tabs W)=>Hd (size_calls sy hok W h)
     clear hok
     obtain⟨kind,byte,len,dist⟩:=sy
     simp only[Sy.cells] at HSY HSZ
     go_wp2_with fail
     refine HSY.out.mono ?_
     rintro e w2 ⟨rfl,hfr2,hA2⟩
     have hf3:=(R0 w2).alloc (.cells #[.int .i64 kind,.int .u8 byte,.int .i64 len,.int .i64 dist] 110)
     have hz:=heap_alloc_new w2 (.cells #[.int .i64 kind,.int .u8 byte,.int .i64 len,.int .i64 dist] 110)
     have hat:=HL.out.at'
     have hs2:=HL.out.stg.step HBASE.out hfr2 (fun k hk hlt=>HSF.out k hlt hk) hat.dOff (hat.offS HL.out.stg.mine.own (by decide) (by decide) (by decide)) (hat.offS HL.out.stg.syms.own (by decide) (by decide) (by decide))
     have HS3:=Hd (hs2.keep HBASE.out hf3)
     have HA3:=Hd (hA2.keep hf3)
     have HF2:=Hd hfr2
     have HF3:=Hd hf3
     have HZ:=Hd hz
     have m0:=(hA2.keep hf3).cells.x2
     obtain⟨z0,z1,z2,z3⟩:=cs4 hz rfl rfl rfl rfl
     clear hfr2 hA2 hf3 hz hs2 hat HSY
     simp only at m0
     cases hbad:y2.bad with
     |true=>
       rw[hbad] at m0
       have HG2:=Hd (HGO.out.trans (if_pos (.inl hbad)))
       go_wp2_with fail
       go_ret3
       exact FAIL.out _ _ _ _ _ _ _ HS3.out HG2.out
     |false=>
       rw[hbad] at m0
       have HBAD:=Hd hbad
       clear hbad
       have HSC:=fun W h=>(HSZ W h)
       clear HSZ
       generalize hsz:St.size ⟨kind,byte,len,dist⟩=sz at*
       have HSE:=Hd hsz
       clear hsz
       go_wp2_with fail
       refine(HSC _ HS3.out.tabs).out.mono ?_
       rintro e w4 ⟨rfl,hfr4⟩
       have HZ4:=Hd (hfr4.keep HZ.out (fun h=>h))
       have HS4:=Hd (HS3.out.keep HBASE.out hfr4)
       have HA4:=Hd (HA3.out.keep hfr4)
       clear hfr4 z0 z1 z2 z3 m0
       obtain⟨z0,z1,z2,z3⟩:=cs4 HZ4.out rfl rfl rfl rfl
       by_cases hsz:sz<1
       ·have HG2:=Hd (HGO.out.trans (if_pos (.inr (.inl hsz))))
        go_wp2_with fail
        go_ret3
        exact FAIL.out _ _ _ _ _ _ _ HS4.out HG2.out
       ·go_wp2_with fail
        refine(HSC _ HS4.out.tabs).out.mono ?_
        rintro e w5 ⟨rfl,hfr5⟩
        have HZ5:=Hd (hfr5.keep HZ4.out (fun h=>h))
        have HS5:=Hd (HS4.out.keep HBASE.out hfr5)
        have HA5:=Hd (HA4.out.keep hfr5)
        clear hfr5 z0 z1 z2 z3
        by_cases hbig:n-outs.length<sz
        ·have HG2:=Hd (HGO.out.trans (if_pos (.inr (.inr hbig))))
         go_wp2_with fail
         go_ret3
         exact FAIL.out _ _ _ _ _ _ _ HS5.out HG2.out
        ·have HG2:=Hd (HGO.out.trans (if_neg (show¬(y2.bad=true∨sz<1∨n-outs.length<sz) from by
          rw[HBAD.out]
          simp
          omega)))
         obtain⟨z0,z1,z2,z3⟩:=cs4 HZ5.out rfl rfl rfl rfl
         have hA:=HA5.out
         have hm2:c1.all.length≤1152921504606846000:=by have:=HL.out.all;omega
         have HAP:=fun(W:World)(hf:Fr (fun _=>False) w5 W)=>Hd (apply_calls l.W c1.size t rv c1.all ring c1.s hA.c.s ⟨kind,byte,len,dist⟩ HOK.out W (HS5.out.tabs.keep hf) (hA.keep hf).win hm2)
         have hapl:=fun h=>apply_len (size:=c1.size) (all:=c1.all) (s:=c1.s) (y:=⟨kind,byte,len,dist⟩) h HOK.out.kind
         have hapo:=fun h=>apply_ok (size:=c1.size) (all:=c1.all) (s:=c1.s) (y:=⟨kind,byte,len,dist⟩) h hA.c.s
         generalize apply c1.size c1.all c1.s ⟨kind,byte,len,dist⟩=ap at*
         obtain⟨er,bytes,⟨sn,sr0,sr1,sr2,sr3⟩⟩:=ap
         simp only[Sy.cells,S.cells] at HAP
         simp only at HG2 hapl hapo
         have HAPL:=Hd hapl
         have HAPO:=Hd hapo
         have hoff:∀{k:Nat}{cs:Array Value}{t:TypeId}{fr:Nat×Nat},w5.heap[k]? =some (.cells cs t fr)→t≠210→t≠5→¬(k=l.W∨rv.ownBlock=some k∨w5.heap.size≤k):=by
          intro k cs t fr hk h1 h2 h3
          rcases h3 with h3|h3|h3
          ·have hb:=hA.win.box
           simp only at hb
           rw[h3,hb] at hk
           simp only[Option.some.injEq,Obj.cells.injEq] at hk
           exact h1 hk.2.1.symm
          ·obtain⟨cur,hc⟩:=own_block hA.win.own h3
           rw[hc] at hk
           simp only[Option.some.injEq,Obj.cells.injEq] at hk
           exact h2 hk.2.1.symm
          ·have:=lt_of_block hk
           omega
         have HZK:=Hd (show∀w':World,Fr (fun k=>k=l.W∨rv.ownBlock=some k∨w5.heap.size≤k) w5 w'→w'.heap[w2.heap.size]? =some (.cells #[.int .i64 kind,.int .u8 byte,.int .i64 len,.int .i64 dist] 110 (0,0)) from fun w' hf=>hf.keep HZ5.out (hoff HZ5.out (by decide) (by decide)))
         have HKEEP:=Hd (show∀w':World,Fr (fun k=>k=l.W∨rv.ownBlock=some k∨w5.heap.size≤k) w5 w'→w'.cell? ⟨l.D,0,none⟩=some (ptr l.T)∧w'.cell? ⟨l.D,1,none⟩=some (ptr l.W)∧w'.cell? ⟨l.T,3,none⟩=some (.int .i64 c1.s.num)∧w'.cell? ⟨l.T,4,none⟩=some (.int .i64 c1.s.r0)∧w'.cell? ⟨l.T,5,none⟩=some (.int .i64 c1.s.r1)∧w'.cell? ⟨l.T,6,none⟩=some (.int .i64 c1.s.r2)∧w'.cell? ⟨l.T,7,none⟩=some (.int .i64 c1.s.r3)∧
          w'.cell? ⟨w2.heap.size,0,none⟩=some (.int .i64 kind)∧w'.cell? ⟨w2.heap.size,1,none⟩=some (.int .u8 byte)∧w'.cell? ⟨w2.heap.size,2,none⟩=some (.int .i64 len)∧w'.cell? ⟨w2.heap.size,3,none⟩=some (.int .i64 dist) from fun w' hf=>by
          have hd:=hf.keep hA.d (hoff hA.d (by decide) (by decide))
          have ht:=hf.keep hA.tab.box (hoff hA.tab.box (by decide) (by decide))
          have hz:=hf.keep HZ5.out (hoff HZ5.out (by decide) (by decide))
          exact⟨cell_in hd rfl,cell_in hd rfl,cell_in ht rfl,cell_in ht rfl,cell_in ht rfl,cell_in ht rfl,cell_in ht rfl,cell_in hz rfl,cell_in hz rfl,cell_in hz rfl,cell_in hz rfl⟩)
         have HNEW:=Hd (show∀k,w5.heap.size≤k→¬(k=l.W∨rv.ownBlock=some k) from fun k hk h3=>by
          rcases h3 with h3|h3
          ·have h4:=lt_of_block hA.win.box
           simp only at h4
           omega
          ·have:=(World.ownsRow.lt hA.win.own k h3).2
           omega)
         have FC:=Hd (Fr.refl (fun k=>k=l.W∨rv.ownBlock=some k∨w5.heap.size≤k) w5).drew
         have HSC:=Hd (HKEEP.out _ FC.out)
         clear hA z0 z1 z2 z3 hapl hapo hoff
         have tt:=HSC.out
         obtain⟨t0,t1,t2,t3,t4,t5,t6,t7,t8,t9,t10⟩:=tt
         go_wp2_with fail
         go_region_held3 (fun w'=>w'.cell? ⟨l.D,0,none⟩=some (ptr l.T)∧w'.cell? ⟨l.D,1,none⟩=some (ptr l.W)∧w'.cell? ⟨l.T,3,none⟩=some (.int .i64 c1.s.num)∧w'.cell? ⟨l.T,4,none⟩=some (.int .i64 c1.s.r0)∧w'.cell? ⟨l.T,5,none⟩=some (.int .i64 c1.s.r1)∧w'.cell? ⟨l.T,6,none⟩=some (.int .i64 c1.s.r2)∧w'.cell? ⟨l.T,7,none⟩=some (.int .i64 c1.s.r3)∧
          w'.cell? ⟨w2.heap.size,0,none⟩=some (.int .i64 kind)∧w'.cell? ⟨w2.heap.size,1,none⟩=some (.int .u8 byte)∧w'.cell? ⟨w2.heap.size,2,none⟩=some (.int .i64 len)∧w'.cell? ⟨w2.heap.size,3,none⟩=some (.int .i64 dist))
          (first|with_reducible exact HSC.out|(refine HKEEP.out _ ?_;(repeat refine Fr.setCell ?_ (.inl (.inr (.inr (by first|exact FC.out.size|exact HY.out)))) _);first|exact FC.out|exact FC.out.alloc _)) ((first
          | (go_at_call 133
             first
              | (refine (HAP _ (Fr.refl _ _).drew).out.mono ?_
                 rintro e wc ⟨v,rfl,hdone⟩
                 have FC:=Hd (FC.out.trans (hdone.fr.mono (fun i _ hi=>by rcases hi with hi|hi;exact .inl hi;exact .inr (.inl hi))))
                 have HSC:=Hd (HKEEP.out _ FC.out)
                 have tt:=HSC.out
                 obtain⟨t0,t1,t2,t3,t4,t5,t6,t7,t8,t9,t10⟩:=tt
                 have HDONE:=Hd hdone
                 clear hdone)
              | (refine (HAP _ ((Fr.refl _ _).drew.alloc _)).out.mono ?_
                 rintro e wc ⟨v,rfl,hdone⟩
                 have HY:=Hd FC.out.size
                 have FC:=Hd ((FC.out.alloc _).trans (hdone.fr.mono (fun i _ hi=>by rcases hi with hi|hi;exact .inl hi;exact .inr (.inl hi))))
                 have HSC:=Hd (HKEEP.out _ FC.out)
                 have tt:=HSC.out
                 obtain⟨t0,t1,t2,t3,t4,t5,t6,t7,t8,t9,t10⟩:=tt
                 have hz:=hdone.fr.keep (heap_alloc_new _ _) (HNEW.out _ (by simp))
                 try simp only[World.size_drew] at hz
                 obtain⟨s0,s1,s2,s3,s4,sf⟩:=cf5 hz rfl rfl rfl rfl rfl
                 have HSZ:=Hd hz
                 clear hz
                 have HDONE:=Hd hdone
                 clear hdone))))
         ·have hz6:=heap_alloc_new wc (.cells #[.int .i64 sn,.int .i64 sr0,.int .i64 sr1,.int .i64 sr2,.int .i64 sr3] 84)
          have hf6:Fr (fun k=>k=wc.heap.size) wc (wc.alloc (.cells #[.int .i64 sn,.int .i64 sr0,.int .i64 sr1,.int .i64 sr2,.int .i64 sr3] 84)):=lift ((R0 wc).alloc _)
          have HAFT:=Hd (after_apply (lx:={l with X:=X,R:=R,bv:=bv}) HBASE.out HS5.out HA5.out rfl rfl HL.out.rvn HL.out.apart HL.out.bvr (Fr.refl _ _).drew HDONE.out hf6 (Nat.le_trans (R0 w5).drew.size HDONE.out.fr.size) (.inr (Nat.le_refl _)))
          have HF6:=Hd (FC.out.trans (lift ((R0 wc).alloc (.cells #[.int .i64 sn,.int .i64 sr0,.int .i64 sr1,.int .i64 sr2,.int .i64 sr3] 84))))
          generalize wc.alloc (.cells #[.int .i64 sn,.int .i64 sr0,.int .i64 sr1,.int .i64 sr2,.int .i64 sr3] 84)=w6 at*
          generalize wc.heap.size=zs at*
          have HZ6:=Hd hz6
          clear hz6 hf6 HDONE t0 t1 t2 t3 t4 t5 t6 t7 t8 t9 t10 HSC FC
          obtain⟨rv6,ring6,t6,haft⟩:=HAFT.out
          have HAF:=Hd haft
          have HZ6s:=Hd (HZK.out _ HF6.out)
          have tt:=HKEEP.out _ HF6.out
          obtain⟨t0,t1,t2,t3,t4,t5,t6',t7,t8,t9,t10⟩:=tt
          have HK2:=Hd (show∀w':World,Fr (fun k=>k=l.T) w6 w'→w'.cell? ⟨l.D,0,none⟩=some (ptr l.T)∧w'.cell? ⟨zs,0,none⟩=some (.int .i64 sn)∧w'.cell? ⟨zs,1,none⟩=some (.int .i64 sr0)∧w'.cell? ⟨zs,2,none⟩=some (.int .i64 sr1)∧w'.cell? ⟨zs,3,none⟩=some (.int .i64 sr2)∧w'.cell? ⟨zs,4,none⟩=some (.int .i64 sr3) from fun w' hf=>by
           have hd:=hf.keep HAF.out.at'.d (fun(e:l.D=l.T)=>by
            have h1:=HAF.out.at'.tab.box
            have h2:=HAF.out.at'.d
            simp only[←e] at h1 h2
            rw[h1] at h2
            simp at h2)
           have hz:=hf.keep HZ6.out (fun(e:zs=l.T)=>by
            have h1:=HAF.out.at'.tab.box
            have h2:=HZ6.out
            simp only[e] at h1 h2
            rw[h1] at h2
            simp at h2)
           exact⟨cell_in hd rfl,cell_in hz rfl,cell_in hz rfl,cell_in hz rfl,cell_in hz rfl,cell_in hz rfl⟩)
          clear haft HAFT HN HR0 HBV HF2 HF3 HZ HZ4 HZ5 HS3 HS4 HA3 HA4 HAP HNEW t0 t1 t2 t3 t4 t5 t6'
          by_cases her:er=0
          ·subst her
           have HG3:=Hd (HG2.out.trans (if_neg (show¬(0:Nat)≠0 by decide)))
           have HSOK:=Hd (HAPO.out rfl)
           have HBL:=Hd (HAPL.out rfl)
           have HSC:=Hd (HK2.out w6.drew (lift (R0 w6).drew))
           have ss:=HSC.out
           obtain⟨s0,s1,s2,s3,s4,s5⟩:=ss
           have tb:=HAF.out.at'.tab.box
           simp only at tb
           have q3:=cell_in (i:=3) tb rfl
           have q4:=cell_in (i:=4) tb rfl
           have q5:=cell_in (i:=5) tb rfl
           have q6:=cell_in (i:=6) tb rfl
           have q7:=cell_in (i:=7) tb rfl
           have qf:=fun i=>frozen_in tb i
           have HTB:=Hd tb
           clear tb
           go_wp2_with fail
           go_region_held3 (fun w'=>w'.cell? ⟨l.D,0,none⟩=some (ptr l.T)∧w'.cell? ⟨zs,0,none⟩=some (.int .i64 sn)∧w'.cell? ⟨zs,1,none⟩=some (.int .i64 sr0)∧w'.cell? ⟨zs,2,none⟩=some (.int .i64 sr1)∧w'.cell? ⟨zs,3,none⟩=some (.int .i64 sr2)∧w'.cell? ⟨zs,4,none⟩=some (.int .i64 sr3))
            (first|with_reducible exact HSC.out|(refine HK2.out _ ?_;refine Fr.drew ?_;(repeat refine Fr.setCell ?_ (.inl (by simp)) _);exact Fr.refl _ _)) (fail)
           have hb7:=set_in (set_in (set_in (set_in (set_in HTB.out 3 (.int .i64 sn)) 4 (.int .i64 sr0)) 5 (.int .i64 sr1)) 6 (.int .i64 sr2)) 7 (.int .i64 sr3)
           have hf7:Fr (fun k=>k=l.T) w6 (((((w6.setCell ⟨l.T,3,none⟩ (.int .i64 sn)).setCell ⟨l.T,4,none⟩ (.int .i64 sr0)).setCell ⟨l.T,5,none⟩ (.int .i64 sr1)).setCell ⟨l.T,6,none⟩ (.int .i64 sr2)).setCell ⟨l.T,7,none⟩ (.int .i64 sr3)).drew:=(((((Fr.one _ _ _ _).trans (Fr.one _ _ _ _)).trans (Fr.one _ _ _ _)).trans (Fr.one _ _ _ _)).trans (Fr.one _ _ _ _)).drew
           have HB7:=Hd (show(((((w6.setCell ⟨l.T,3,none⟩ (.int .i64 sn)).setCell ⟨l.T,4,none⟩ (.int .i64 sr0)).setCell ⟨l.T,5,none⟩ (.int .i64 sr1)).setCell ⟨l.T,6,none⟩ (.int .i64 sr2)).setCell ⟨l.T,7,none⟩ (.int .i64 sr3)).drew.heap[l.T]? =some (.cells (tabV c1.lc c1.lp c1.pb ⟨sn,sr0,sr1,sr2,sr3⟩ l.b) 217 (0,0)) from hb7)
           clear hb7 s0 s1 s2 s3 s4 s5 q3 q4 q5 q6 q7 qf HSC HTB t7 t8 t9 t10
           generalize(((((w6.setCell ⟨l.T,3,none⟩ (.int .i64 sn)).setCell ⟨l.T,4,none⟩ (.int .i64 sr0)).setCell ⟨l.T,5,none⟩ (.int .i64 sr1)).setCell ⟨l.T,6,none⟩ (.int .i64 sr2)).setCell ⟨l.T,7,none⟩ (.int .i64 sr3)).drew=w7 at*
           have HM7:=Hd (mid_of HBASE.out HAF.out rfl rfl rfl HSOK.out hf7 HB7.out)
           have hz7:=hf7.keep HZ6s.out (fun(e:w2.heap.size=l.T)=>by
            have h1:=HAF.out.at'.tab.box
            have h2:=HZ6s.out
            simp only[e] at h1 h2
            rw[h1] at h2
            simp at h2)
           obtain⟨z0,z1,z2,z3⟩:=cs4 hz7 rfl rfl rfl rfl
           have hf8:=(R0 w7).alloc (.cells #[.int .i64 kind,.int .u8 byte,.int .i64 len,.int .i64 dist] 110)
           have hx8:=heap_alloc_new w7 (.cells #[.int .i64 kind,.int .u8 byte,.int .i64 len,.int .i64 dist] 110)
           have HM8:=Hd (HM7.out.keep HBASE.out hf8)
           have HX8:=Hd hx8
           have HLE:=Hd (show ls.length≤2097152 from Nat.le_trans HL.out.lls (by omega))
           have hbl:1≤bytes.length∧bytes.length≤n-outs.length:=by have h1:=HBL.out.trans HSE.out;omega
           clear hz7 hf7 hf8 hx8 HB7 HZ6s HZ6 HF6 HK2 HZK HKEEP HA5 HS5
           have tok1:True:=trivial
           go_wp2_with (first
            | (at_builtin
               have _t:=tok1
               refine append_sym rfl _ _ rfl (w0:=w) u10 ls ⟨kind,byte,len,dist⟩ w7.heap.size rfl rfl HM8.out.stg.syms HM8.out.stg.fr.size HX8.out (by have:=HLE.out;omega) ?_
               intro lv9 w9 hS9 hf9 hn9
               have HM9:=Hd (mid_app1 HBASE.out HM8.out rfl HL.out.bvl hS9 hf9)
               have HN9:=Hd hn9
               have HF9:=Hd hf9
               clear hS9 hf9 hn9 tok1
               have tok2:True:=trivial)
            | (at_builtin
               have _t:=tok2
               refine append_mine rfl _ _ rfl (w0:=w) (.slice p outs.length cap) v outs bytes rfl rfl HM9.out.stg.mine HM9.out.stg.fr.size HM9.out.mine.rd (by omega) ?_
               intro p10 cap10 n10 w10 hn10 hM10 hf10 hnew10
               have HM10:=Hd (mid_app2 HBASE.out HM9.out rfl HL.out.bvp HAF.out.pr hM10 hf10)
               have HN10:=Hd hnew10
               have HL10:=Hd hn10
               clear hM10 hf10 hnew10 hn10 tok2))
           go_roundw
           case rel=>exact⟨f,_,y2,_,_,rv6,ring6,t6,loop_next HL.out HAF.out HM8.out HN9.out HM9.out HN10.out HM10.out HG3.out rfl rfl hbl.1 hbl.2 hlt HBAD.out rfl rfl⟩
           case measure=>
            have h1:=HL10.out
            simp only[lenOf]
            omega
          ·have hne:((er:Int) !=0)=true:=by simp[her]
           have HG3:=Hd (HG2.out.trans (if_pos her))
           clear her
           go_wp2_with fail
           go_ret3
           exact FAIL.out _ _ _ _ _ _ _ HAF.out.stg HG3.out
         ·have hz6:=set_in (set_in (set_in (set_in (set_in HSZ.out 0 (.int .i64 sn)) 1 (.int .i64 sr0)) 2 (.int .i64 sr1)) 3 (.int .i64 sr2)) 4 (.int .i64 sr3)
          have hf6:Fr (fun k=>k=w5.heap.size) wc (((((wc.setCell ⟨w5.heap.size,0,none⟩ (.int .i64 sn)).setCell ⟨w5.heap.size,1,none⟩ (.int .i64 sr0)).setCell ⟨w5.heap.size,2,none⟩ (.int .i64 sr1)).setCell ⟨w5.heap.size,3,none⟩ (.int .i64 sr2)).setCell ⟨w5.heap.size,4,none⟩ (.int .i64 sr3)):=((((Fr.one _ _ _ _).trans (Fr.one _ _ _ _)).trans (Fr.one _ _ _ _)).trans (Fr.one _ _ _ _)).trans (Fr.one _ _ _ _)
          have HAFT:=Hd (after_apply (lx:={l with X:=X,R:=R,bv:=bv}) HBASE.out HS5.out HA5.out rfl rfl HL.out.rvn HL.out.apart HL.out.bvr ((Fr.refl _ _).drew.alloc _) HDONE.out hf6 (Nat.le_refl _) (.inl (by simp)))
          have HF6:=Hd (FC.out.trans (hf6.mono (fun i _(e:i=w5.heap.size)=>.inr (.inr (Nat.le_of_eq e.symm)))))
          generalize((((wc.setCell ⟨w5.heap.size,0,none⟩ (.int .i64 sn)).setCell ⟨w5.heap.size,1,none⟩ (.int .i64 sr0)).setCell ⟨w5.heap.size,2,none⟩ (.int .i64 sr1)).setCell ⟨w5.heap.size,3,none⟩ (.int .i64 sr2)).setCell ⟨w5.heap.size,4,none⟩ (.int .i64 sr3)=w6 at*
          have HZ6:=Hd (show w6.heap[w5.heap.size]? =some (.cells #[.int .i64 sn,.int .i64 sr0,.int .i64 sr1,.int .i64 sr2,.int .i64 sr3] 84 (0,0)) from hz6)
          clear hz6 hf6 HDONE t0 t1 t2 t3 t4 t5 t6 t7 t8 t9 t10 HSC FC s0 s1 s2 s3 s4 sf HSZ
          obtain⟨rv6,ring6,t6,haft⟩:=HAFT.out
          have HAF:=Hd haft
          have HZ6s:=Hd (HZK.out _ HF6.out)
          have tt:=HKEEP.out _ HF6.out
          obtain⟨t0,t1,t2,t3,t4,t5,t6',t7,t8,t9,t10⟩:=tt
          have HK2:=Hd (show∀w':World,Fr (fun k=>k=l.T) w6 w'→w'.cell? ⟨l.D,0,none⟩=some (ptr l.T)∧w'.cell? ⟨w5.heap.size,0,none⟩=some (.int .i64 sn)∧w'.cell? ⟨w5.heap.size,1,none⟩=some (.int .i64 sr0)∧w'.cell? ⟨w5.heap.size,2,none⟩=some (.int .i64 sr1)∧w'.cell? ⟨w5.heap.size,3,none⟩=some (.int .i64 sr2)∧w'.cell? ⟨w5.heap.size,4,none⟩=some (.int .i64 sr3) from fun w' hf=>by
           have hd:=hf.keep HAF.out.at'.d (fun(e:l.D=l.T)=>by
            have h1:=HAF.out.at'.tab.box
            have h2:=HAF.out.at'.d
            simp only[←e] at h1 h2
            rw[h1] at h2
            simp at h2)
           have hz:=hf.keep HZ6.out (fun(e:w5.heap.size=l.T)=>by
            have h1:=HAF.out.at'.tab.box
            have h2:=HZ6.out
            simp only[e] at h1 h2
            rw[h1] at h2
            simp at h2)
           exact⟨cell_in hd rfl,cell_in hz rfl,cell_in hz rfl,cell_in hz rfl,cell_in hz rfl,cell_in hz rfl⟩)
          clear haft HAFT HN HR0 HBV HF2 HF3 HZ HZ4 HZ5 HS3 HS4 HA3 HA4 HAP HNEW t0 t1 t2 t3 t4 t5 t6'
          by_cases her:er=0
          ·subst her
           have HG3:=Hd (HG2.out.trans (if_neg (show¬(0:Nat)≠0 by decide)))
           have HSOK:=Hd (HAPO.out rfl)
           have HBL:=Hd (HAPL.out rfl)
           have HSC:=Hd (HK2.out w6.drew (lift (R0 w6).drew))
           have ss:=HSC.out
           obtain⟨s0,s1,s2,s3,s4,s5⟩:=ss
           have tb:=HAF.out.at'.tab.box
           simp only at tb
           have q3:=cell_in (i:=3) tb rfl
           have q4:=cell_in (i:=4) tb rfl
           have q5:=cell_in (i:=5) tb rfl
           have q6:=cell_in (i:=6) tb rfl
           have q7:=cell_in (i:=7) tb rfl
           have qf:=fun i=>frozen_in tb i
           have HTB:=Hd tb
           clear tb
           go_wp2_with fail
           go_region_held3 (fun w'=>w'.cell? ⟨l.D,0,none⟩=some (ptr l.T)∧w'.cell? ⟨w5.heap.size,0,none⟩=some (.int .i64 sn)∧w'.cell? ⟨w5.heap.size,1,none⟩=some (.int .i64 sr0)∧w'.cell? ⟨w5.heap.size,2,none⟩=some (.int .i64 sr1)∧w'.cell? ⟨w5.heap.size,3,none⟩=some (.int .i64 sr2)∧w'.cell? ⟨w5.heap.size,4,none⟩=some (.int .i64 sr3))
            (first|with_reducible exact HSC.out|(refine HK2.out _ ?_;refine Fr.drew ?_;(repeat refine Fr.setCell ?_ (.inl (by simp)) _);exact Fr.refl _ _)) (fail)
           have hb7:=set_in (set_in (set_in (set_in (set_in HTB.out 3 (.int .i64 sn)) 4 (.int .i64 sr0)) 5 (.int .i64 sr1)) 6 (.int .i64 sr2)) 7 (.int .i64 sr3)
           have hf7:Fr (fun k=>k=l.T) w6 (((((w6.setCell ⟨l.T,3,none⟩ (.int .i64 sn)).setCell ⟨l.T,4,none⟩ (.int .i64 sr0)).setCell ⟨l.T,5,none⟩ (.int .i64 sr1)).setCell ⟨l.T,6,none⟩ (.int .i64 sr2)).setCell ⟨l.T,7,none⟩ (.int .i64 sr3)).drew:=(((((Fr.one _ _ _ _).trans (Fr.one _ _ _ _)).trans (Fr.one _ _ _ _)).trans (Fr.one _ _ _ _)).trans (Fr.one _ _ _ _)).drew
           have HB7:=Hd (show(((((w6.setCell ⟨l.T,3,none⟩ (.int .i64 sn)).setCell ⟨l.T,4,none⟩ (.int .i64 sr0)).setCell ⟨l.T,5,none⟩ (.int .i64 sr1)).setCell ⟨l.T,6,none⟩ (.int .i64 sr2)).setCell ⟨l.T,7,none⟩ (.int .i64 sr3)).drew.heap[l.T]? =some (.cells (tabV c1.lc c1.lp c1.pb ⟨sn,sr0,sr1,sr2,sr3⟩ l.b) 217 (0,0)) from hb7)
           clear hb7 s0 s1 s2 s3 s4 s5 q3 q4 q5 q6 q7 qf HSC HTB t7 t8 t9 t10
           generalize(((((w6.setCell ⟨l.T,3,none⟩ (.int .i64 sn)).setCell ⟨l.T,4,none⟩ (.int .i64 sr0)).setCell ⟨l.T,5,none⟩ (.int .i64 sr1)).setCell ⟨l.T,6,none⟩ (.int .i64 sr2)).setCell ⟨l.T,7,none⟩ (.int .i64 sr3)).drew=w7 at*
           have HM7:=Hd (mid_of HBASE.out HAF.out rfl rfl rfl HSOK.out hf7 HB7.out)
           have hz7:=hf7.keep HZ6s.out (fun(e:w2.heap.size=l.T)=>by
            have h1:=HAF.out.at'.tab.box
            have h2:=HZ6s.out
            simp only[e] at h1 h2
            rw[h1] at h2
            simp at h2)
           obtain⟨z0,z1,z2,z3⟩:=cs4 hz7 rfl rfl rfl rfl
           have hf8:=(R0 w7).alloc (.cells #[.int .i64 kind,.int .u8 byte,.int .i64 len,.int .i64 dist] 110)
           have hx8:=heap_alloc_new w7 (.cells #[.int .i64 kind,.int .u8 byte,.int .i64 len,.int .i64 dist] 110)
           have HM8:=Hd (HM7.out.keep HBASE.out hf8)
           have HX8:=Hd hx8
           have HLE:=Hd (show ls.length≤2097152 from Nat.le_trans HL.out.lls (by omega))
           have hbl:1≤bytes.length∧bytes.length≤n-outs.length:=by have h1:=HBL.out.trans HSE.out;omega
           clear hz7 hf7 hf8 hx8 HB7 HZ6s HZ6 HF6 HK2 HZK HKEEP HA5 HS5
           have tok1:True:=trivial
           go_wp2_with (first
            | (at_builtin
               have _t:=tok1
               refine append_sym rfl _ _ rfl (w0:=w) u10 ls ⟨kind,byte,len,dist⟩ w7.heap.size rfl rfl HM8.out.stg.syms HM8.out.stg.fr.size HX8.out (by have:=HLE.out;omega) ?_
               intro lv9 w9 hS9 hf9 hn9
               have HM9:=Hd (mid_app1 HBASE.out HM8.out rfl HL.out.bvl hS9 hf9)
               have HN9:=Hd hn9
               have HF9:=Hd hf9
               clear hS9 hf9 hn9 tok1
               have tok2:True:=trivial)
            | (at_builtin
               have _t:=tok2
               refine append_mine rfl _ _ rfl (w0:=w) (.slice p outs.length cap) v outs bytes rfl rfl HM9.out.stg.mine HM9.out.stg.fr.size HM9.out.mine.rd (by omega) ?_
               intro p10 cap10 n10 w10 hn10 hM10 hf10 hnew10
               have HM10:=Hd (mid_app2 HBASE.out HM9.out rfl HL.out.bvp HAF.out.pr hM10 hf10)
               have HN10:=Hd hnew10
               have HL10:=Hd hn10
               clear hM10 hf10 hnew10 hn10 tok2))
           go_roundw
           case rel=>exact⟨f,_,y2,_,_,rv6,ring6,t6,loop_next HL.out HAF.out HM8.out HN9.out HM9.out HN10.out HM10.out HG3.out rfl rfl hbl.1 hbl.2 hlt HBAD.out rfl rfl⟩
           case measure=>
            have h1:=HL10.out
            simp only[lenOf]
            omega
          ·have hne:((er:Int) !=0)=true:=by simp[her]
           have HG3:=Hd (HG2.out.trans (if_pos her))
           clear her
           go_wp2_with fail
           go_ret3
           exact FAIL.out _ _ _ _ _ _ _ HAF.out.stg HG3.out
    ·have hle2:n≤outs.length:=by omega
     obtain⟨f,rfl⟩:∃f',f=f'+1:=⟨f-1,by omega⟩
     have HGO:=Hd ((HL.out.go.trans (takeGo_succ n f c1 y1 ls outs)).trans (if_pos hle2))
     have m1:=hAt.cells.x1
     have HDC:=Hd (done_calls R bv y1.d wr hAt.rc)
     clear hAt
     generalize hdn:decide (y1.d.read=y1.d.b.length∧y1.d.now=0)=dn at*
     have HDN:=Hd hdn
     clear hdn
     go_wp2_with fail
     refine HDC.out.mono ?_
     rintro e w2 ⟨rfl,hfr2⟩
     have HS2:=Hd (HL.out.stg.keep HBASE.out hfr2)
     have HA2:=Hd (HL.out.at'.keep hfr2)
     clear hfr2
     go_wp2_with fail
     go_ret3
     exact all_done (l:=l) (lx:={l with X:=X,R:=R,bv:=bv}) rfl rfl rfl rfl rfl HL.out HI.out hle2 HS2.out HA2.out dn HDN.out
end Lz
end Go.Proofs.YtffoddpjfgjelaaGreatDoor
