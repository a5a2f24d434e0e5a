/- Part 16 of 48: lemmas of the last part, each under the conditions that it names. -/
import Derived.Test.YtffoddpjfgjelaaGreatDoorQ09
import Derived.Test.YtffoddpjfgjelaaGreatDoorQ15
set_option linter.unusedVariables false
set_option linter.unusedSimpArgs false
set_option maxRecDepth 1500
namespace Go.Proofs.YtffoddpjfgjelaaGreatDoor
open Go.RowKit
namespace Lz
open Mem Rc St
theorem next_err_same(s t:S)(y:Sy):(s.next y).1=(t.next y).1:=by
 unfold S.next
 repeat' split
 all_goals rfl
theorem apply_len{size:Nat}{all:List UInt8}{s:S}{y:Sy}(h:(apply size all s y).1=0)(hk:y.kind=1∨y.kind=2∨y.kind=3∨y.kind=4):(apply size all s y).2.1.length=St.size y:=by
 unfold apply at*
 unfold St.size
 rw[next_err_same S.new s y]
 by_cases h0:(s.next y).1=0
 ·rw[if_pos h0] at h ⊢
  rw[if_pos h0]
  by_cases h1:y.kind=1
  ·rw[if_pos h1,if_neg (by omega)]
   rfl
  ·rw[if_neg h1] at h ⊢
   by_cases h2:1≤distOf s y∧distOf s y≤min size all.length
   ·rw[if_pos h2]
    simp only[Win.copied_len,lenOfSy]
    by_cases h4:y.kind=4
    ·rw[if_pos h4,if_neg (by omega)]
    ·rw[if_neg h4,if_pos (by omega)]
   ·rw[if_neg h2] at h
    simp at h
 ·rw[if_neg h0] at h
  exact absurd h h0
theorem apply_ok{size:Nat}{all:List UInt8}{s:S}{y:Sy}(h:(apply size all s y).1=0)(hs:s.Ok):(apply size all s y).2.2.Ok:=by
 unfold apply at*
 by_cases h0:(s.next y).1=0
 ·rw[if_pos h0] at h ⊢
  have:=S.next_ok hs h0
  split
  ·exact this
  ·split
   ·exact this
   ·rename_i h1 h2
    rw[if_neg h1,if_neg h2] at h
    simp at h
 ·rw[if_neg h0] at h
  exact absurd h h0
def C.on(c:C)(bytes:List UInt8):C:={c with all:=c.all++bytes}
def C.to(c:C)(s:S):C:={c with s:=s}
def takeGo(n:Nat):Nat→C→Y→List Sy→List UInt8→Option (C×Y×List Sy×List UInt8)
 |0,_,_,_,_=>none
 |f+1,c,y,l,out=>
   if n≤out.length then some (c,y,l,out)
   else if(y.symbol c).2.bad=true∨St.size (y.symbol c).1<1∨n-out.length<St.size (y.symbol c).1 then none
   else if(apply c.size c.all c.s (y.symbol c).1).1≠0 then none
   else takeGo n f ((c.on (apply c.size c.all c.s (y.symbol c).1).2.1).to (apply c.size c.all c.s (y.symbol c).1).2.2) (y.symbol c).2 (l++[(y.symbol c).1]) (out++(apply c.size c.all c.s (y.symbol c).1).2.1)
def takeAll(c:C)(ps:Nat→List Nat)(xs:List UInt8)(n:Nat):Option (List Sy×List UInt8×C×(Nat→List Nat)):=
 match init xs with
 |.error _=>none
 |.ok d=>match takeGo n (n+1) c ⟨d,false,ps⟩ [] [] with
   |none=>none
   |some (c2,y2,l,out)=>if y2.d.read=y2.d.b.length∧y2.d.now=0 then some (l,out,c2,y2.ps) else none
def syCells(l:List Sy):List Value:=l.flatMap (fun y=>y.cells.toList)
theorem syCells_snoc(l:List Sy)(y:Sy):syCells (l++[y])=syCells l++y.cells.toList:=by simp[syCells]
structure Syms(w0 w:World)(v:Value)(l:List Sy):Prop where
 own:w.ownsRow 0 110 4 v l.length (syCells l)
 new:∀k,v.ownBlock=some k→w0.heap.size≤k
theorem own_block{w:World}{T:TypeId}{size n:Nat}{v:Value}{xs:List Value}(h:w.ownsRow 0 T size v n xs){k:Nat}(hk:v.ownBlock=some k):∃cur,w.heap[k]? =some (.cells cur T (0,0)):=by
 rcases h.2 with⟨hn,_⟩|⟨g,cap,cur,hgv,_,hg2,_⟩
 ·rw[hn] at hk
  simp[Value.ownBlock] at hk
 ·rw[hgv] at hk
  simp only[Value.ownBlock,Option.some.injEq] at hk
  exact⟨cur,hk ▸ hg2⟩
theorem own_stepN{S:Nat→Prop}{w w':World}{T:TypeId}{size n:Nat}{v:Value}{xs:List Value}(h:w.ownsRow 0 T size v n xs)(hfr:Fr S w w')(hS:∀k,v.ownBlock=some k→¬S k):w'.ownsRow 0 T size v n xs:=by
 obtain⟨h1,h2⟩:=h
 refine⟨h1,?_⟩
 rcases h2 with h2|⟨g,cap,cur,rfl,h4,hg,hrest⟩
 ·exact .inl h2
 ·exact .inr ⟨g,cap,cur,rfl,h4,hfr.keep hg (hS g rfl),hrest⟩
theorem Syms.step{S:Nat→Prop}{w0 w w':World}{v:Value}{l:List Sy}(h:Syms w0 w v l)(hfr:Fr S w w')(hS:∀k,v.ownBlock=some k→¬S k):Syms w0 w' v l:=⟨own_stepN h.own hfr hS,h.new⟩
def owned(t:TypeId):Prop:=t=341∨t=272∨t=217∨t=210∨t=381∨t=360∨t=3
instance (t:TypeId):Decidable (owned t):=by unfold owned;infer_instance
theorem At.keepO{S:Nat→Prop}{w w':World}{l:L}{c:C}{y:Y}(h:At w l c y)(hfr:Fr S w w')(hx:∀k cs t fr,w.heap[k]? =some (.cells cs t fr)→owned t→¬S k)(hrv:∀k,l.rv.ownBlock=some k→¬S k)(hbv:∀k,l.bv.ownBlock=some k→¬S k):At w' l c y:=by
 refine⟨hfr.keep h.x (hx _ _ _ _ h.x (by decide)),hfr.keep h.d (hx _ _ _ _ h.d (by decide)),⟨hfr.keep h.tab.box (hx _ _ _ _ h.tab.box (by decide)),fun j hj=> ?_,h.tab.inj⟩,h.win.keep hfr (hx _ _ _ _ h.win.box (by decide)) hrv,h.rc.keep hfr (hx _ _ _ _ h.rc.1 (by decide)) hbv,h.ok,h.c,h.bvoff,h.rvoff⟩
 obtain⟨_,_,hb,hg,_⟩:=h.tab.set j hj
 exact(h.tab.set j hj).step hfr (hx _ _ _ _ hb (by decide)) (hx _ _ _ _ hg (by decide))
theorem tabV_nb(lc lp pb:Nat)(s:S)(b:Nat→Nat)(i:Nat)(n:Int):(tabV lc lp pb s b)[i]? ≠some (Value.int .u8 n):=by
 intro h
 have:=Array.mem_of_getElem? h
 simp[tabV] at this
theorem At.applied{w w':World}{l:L}{c:C}{y:Y}{bytes:List UInt8}{v:Value}(h:At w l c y)(hd:Done w l.W c.size l.rv c.all bytes v w')(hbr:∀k,l.bv.ownBlock=some k→l.rv.ownBlock≠some k):
 ∃rv' ring' t',At w' {l with rv:=rv',ring:=ring',t:=t'} (c.on bytes) y∧(∀k,rv'.ownBlock=some k→l.rv.ownBlock=some k∨w.heap.size≤k)∧(∀k,v.ownBlock=some k→rv'.ownBlock≠some k)∧(∀k,l.bv.ownBlock=some k→rv'.ownBlock≠some k):=by
 obtain⟨hfr,hmine,rv',ring',t',hW,hn,hv⟩:=hd
 have hoff:∀{k:Nat}{cs:Array Value}{t:TypeId}{fr:Nat×Nat},w.heap[k]? =some (.cells cs t fr)→t≠210→t≠5→¬(k=l.W∨l.rv.ownBlock=some k):=by
  intro k cs t fr hk h1 h2 h3
  rcases h3 with h3|h3
  ·rw[h3,h.win.box] at hk
   simp only[Option.some.injEq,Obj.cells.injEq] at hk
   exact h1 hk.2.1.symm
  ·obtain⟨cur,hc⟩:=own_block h.win.own h3
   rw[hc] at hk
   simp only[Option.some.injEq,Obj.cells.injEq] at hk
   exact h2 hk.2.1.symm
 have hbvW:∀k,l.bv.ownBlock=some k→¬(k=l.W∨l.rv.ownBlock=some k):=by
  intro k hk h3
  rcases h3 with h3|h3
  ·obtain⟨p2,cp2,hrv⟩:=h.win.slice
   have hbox:=h.win.box
   rw[hrv] at hbox
   exact Win.rd_off h.rc.2 h.ok.d.2.2.2.2 hbox Win.winV_nb k hk h3
  ·exact hbr k hk h3
 refine⟨rv',ring',t',⟨hfr.keep h.x (hoff h.x (by decide) (by decide)),hfr.keep h.d (hoff h.d (by decide) (by decide)),⟨hfr.keep h.tab.box (hoff h.tab.box (by decide) (by decide)),fun j hj=> ?_,h.tab.inj⟩,hW,h.rc.keep hfr (hoff h.rc.1 (by decide) (by decide)) hbvW,h.ok,⟨h.c.l,h.c.pb,h.c.s⟩,h.bvoff,fun k hk=> ?_⟩,hn,hv,fun k hk he=> ?_⟩
 ·obtain⟨_,_,hb,hg,_⟩:=h.tab.set j hj
  exact(h.tab.set j hj).step hfr (hoff hb (by decide) (by decide)) (hoff hg (by decide) (by decide))
 ·rcases hn k hk with h1|h1
  ·exact h.rvoff k h1
  ·exact h.newOff h1
 ·rcases hn k he with h1|h1
  ·exact hbr k hk h1
  ·have:=rd_lt h.rc.2 h.ok.d.2.2.2.2 k hk
   omega
theorem At.stated{w w':World}{l:L}{c:C}{y:Y}(h:At w l c y)(s:S)(hs:s.Ok)(hfr:Fr (fun k=>k=l.T) w w')(hT:w'.heap[l.T]? =some (.cells (tabV c.lc c.lp c.pb s l.b) 217 (0,0))):At w' l (c.to s) y:=by
 have hoff:∀{k:Nat}{cs:Array Value}{t:TypeId}{fr:Nat×Nat},w.heap[k]? =some (.cells cs t fr)→t≠217→¬k=l.T:=by
  intro k cs t fr hk h1 h2
  rw[h2,h.tab.box] at hk
  simp only[Option.some.injEq,Obj.cells.injEq] at hk
  exact h1 hk.2.1.symm
 refine⟨hfr.keep h.x (hoff h.x (by decide)),hfr.keep h.d (hoff h.d (by decide)),⟨hT,fun j hj=> ?_,h.tab.inj⟩,h.win.keep hfr (hoff h.win.box (by decide)) (fun k hk=> ?_),h.rc.keep hfr (hoff h.rc.1 (by decide)) (fun k hk=> ?_),h.ok,⟨h.c.l,h.c.pb,hs⟩,h.bvoff,h.rvoff⟩
 ·obtain⟨_,_,hb,hg,_⟩:=h.tab.set j hj
  exact(h.tab.set j hj).step hfr (hoff hb (by decide)) (hoff hg (by decide))
 ·obtain⟨cur,hc⟩:=own_block h.win.own hk
  exact hoff hc (by decide)
 ·exact Win.rd_off h.rc.2 h.ok.d.2.2.2.2 h.tab.box (tabV_nb _ _ _ _ _) k hk
end Lz
namespace Lz
open Mem Rc St Win
theorem infoSym:(Tryz.prog.info? 110).map (fun i=>(i.zero,i.size,i.bytes))=some (some (.agg #[.int .i64 0,.int .u8 0,.int .i64 0,.int .i64 0]),4,32):=by kernel_rfl
theorem src_sym{w:World}{B:Nat}{sy:Sy}(hB:w.heap[B]? =some (.cells sy.cells 110 (0,0))):Src Tryz.prog 4 98 (.slice (some ⟨B,0,none⟩) 1 1) 1 sy.cells.toList w:=by
 refine Src.ofSlice w Tryz.underlying98 ⟨B,0,none⟩ 1 1 sy.cells.toList rfl (fun j u hu=> ?_) (fun u hu=> ?_)
 ·rw[add_mid,Nat.zero_add]
  exact cell_in hB (by simpa using hu)
 ·simp only[Sy.cells,List.mem_cons,List.not_mem_nil,or_false] at hu
  rcases hu with rfl|rfl|rfl|rfl<;>rfl
theorem append_sym{ops:Array Oper}{rest:List Oper}{o:Oper}{a:Act}{Q:Exit→Act→World→Prop}(hgd:o.guard=none)(s y:Operand)
 (ho:o.op=.call {callee:=.builtin .append,args:=#[s,y],argTypes:=#[98,98]}){w0 w:World}(v:Value)(ls:List Sy)(sy:Sy)(B:Nat)(hv:a.eval s=v)(hx:a.eval y=.slice (some ⟨B,0,none⟩) 1 1)(hm:Syms w0 w v ls)(hle:w0.heap.size≤w.heap.size)
 (hB:w.heap[B]? =some (.cells sy.cells 110 (0,0)))(hb:ls.length≤1099511627776)
 (h:∀v' w',Syms w0 w' v' (ls++[sy])→Fr (fun k=>v.ownBlock=some k) w w'→(∀k,v'.ownBlock=some k→v.ownBlock=some k∨w.heap.size≤k)→wpList Tryz.prog ops Q rest (a.put o.dst v') w'):
 wpList Tryz.prog ops Q (o::rest) a w:=by
 obtain⟨i0,hi,hz0,hz1,hz2⟩:=info_parts infoSym
 refine wpList_append_any w hgd s y 98 98 ho 110 i0 _ 4 32 Tryz.underlying98 hi hz0 hz1 hz2 rfl (by decide) v ls.length (syCells ls) hv hm.own _ 1 sy.cells.toList hx (src_sym hB) (by simp only[maxLen];omega) (by omega) ?_
 intro v' w' hown hfr hnew _
 refine h v' w' ⟨by rw[List.length_append,syCells_snoc];exact hown,fun k hk=> ?_⟩ hfr hnew
 rcases hnew k hk with h|h
 ·exact hm.new k h
 ·omega
end Lz
end Go.Proofs.YtffoddpjfgjelaaGreatDoor
