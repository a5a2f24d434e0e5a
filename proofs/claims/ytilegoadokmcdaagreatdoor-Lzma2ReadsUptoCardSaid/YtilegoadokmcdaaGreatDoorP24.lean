/- Part 24 of 53: lemmas of the last part, each under the conditions that it names. -/
import Derived.Test.YtilegoadokmcdaaGreatDoorP16
import Derived.Test.YtilegoadokmcdaaGreatDoorP22
set_option linter.unusedVariables false
set_option linter.unusedSimpArgs false
set_option maxRecDepth 1500
namespace Go.Proofs.YtilegoadokmcdaaGreatDoor
open Go.RowKit
namespace Ga
open Mem Win
structure Own(T:TypeId)(z:Nat)(w0 w:World)(v:Value)(n:Nat)(xs:List Value):Prop where
 own:w.ownsRow 0 T z v n xs
 new:∀k,v.ownBlock=some k→w0.heap.size≤k
theorem Own.nil(T:TypeId)(z:Nat)(w0 w:World):Own T z w0 w (.slice none 0 0) 0 []:=⟨World.ownsRow_nil _ _ _ _,fun k hk=>by simp[Value.ownBlock] at hk⟩
theorem Own.step{S:Nat→Prop}{T:TypeId}{z n:Nat}{w0 w w':World}{v:Value}{xs:List Value}(h:Own T z w0 w v n xs)(hfr:Fr S w w')(hS:∀k,v.ownBlock=some k→¬S k):Own T z w0 w' v n xs:=⟨Lz.own_stepN h.own hfr hS,h.new⟩
theorem Own.keep{T:TypeId}{z n:Nat}{w0 w w':World}{v:Value}{xs:List Value}(h:Own T z w0 w v n xs)(hfr:Fr (fun _=>False) w w'):Own T z w0 w' v n xs:=h.step hfr (fun _ _ h=>h)
theorem Own.lt{T:TypeId}{z n:Nat}{w0 w:World}{v:Value}{xs:List Value}(h:Own T z w0 w v n xs):∀k,v.ownBlock=some k→k<w.heap.size:=fun k hk=>(World.ownsRow.lt h.own k hk).2
theorem Own.block{T:TypeId}{z n:Nat}{w0 w:World}{v:Value}{xs:List Value}(h:Own T z w0 w v n xs){k:Nat}(hk:v.ownBlock=some k):∃cur,w.heap[k]? =some (.cells cur T (0,0)):=Lz.own_block h.own hk
theorem Own.off{T t:TypeId}{z n i:Nat}{w0 w:World}{v:Value}{xs:List Value}{cs:Array Value}{fr:Nat×Nat}(h:Own T z w0 w v n xs)(hi:w.heap[i]? =some (.cells cs t fr))(ht:t≠T):v.ownBlock≠some i:=by
 intro hk
 obtain⟨cur,hc⟩:=h.block hk
 rw[hi] at hc
 simp only[Option.some.injEq,Obj.cells.injEq] at hc
 exact ht hc.2.1
theorem Own.slice{T:TypeId}{z n:Nat}{w0 w:World}{v:Value}{xs:List Value}(h:Own T z w0 w v n xs):∃p cap,v=.slice p n cap:=by
 rcases h.own.2 with⟨hn,h0⟩|⟨g,cap,cur,hgv,_⟩
 ·exact⟨none,0,by rw[hn,h0]⟩
 ·exact⟨_,cap,hgv⟩
theorem Own.of_mine{w0 w:World}{v:Value}{xs:List UInt8}(h:Mine w0 w v xs):Own 5 1 w0 w v xs.length (bvs xs):=⟨h.own,h.new⟩
theorem Own.of_syms{w0 w:World}{v:Value}{l:List St.Sy}(h:Lz.Syms w0 w v l):Own 68 4 w0 w v l.length (Lz.syCells l):=⟨h.own,h.new⟩
theorem Own.cell{T:TypeId}{z n cap i:Nat}{w0 w:World}{p:Option Addr}{xs:List Value}{u:Value}(h:Own T z w0 w (.slice p n cap) n xs)(hi:xs[i]? =some u):∃g,p=some ⟨g,0,none⟩∧w.cell? ⟨g,i,none⟩=some u:=by
 obtain⟨h1,h2⟩:=h.own
 rcases h2 with⟨hn,h0⟩|⟨g,cap',cur,hgv,_,hg,hle,hm,hcs,ht⟩
 ·subst h0
  rw[Nat.zero_mul] at h1
  rw[List.eq_nil_of_length_eq_zero h1] at hi
  simp at hi
 ·simp only[Value.slice.injEq] at hgv
  refine⟨g,hgv.1,cell_in hg ?_⟩
  have hlt:i<n*z:=by
   rw[←h1]
   exact(List.getElem?_eq_some_iff.1 hi).1
  rw[←ht,List.getElem?_take,if_pos hlt,Array.getElem?_toList] at hi
  exact hi
theorem infoChunk:(Tryz.prog.info? 52).map (fun i=>(i.zero,i.size,i.bytes))=some (some (.agg #[.int .i64 0,.int .i64 0,.int .i64 0,.int .i64 0,.int .i64 0,.int .i64 0]),6,48):=by kernel_rfl
theorem infoInt:(Tryz.prog.info? 3).map (fun i=>(i.zero,i.size,i.bytes))=some (some (.int .i64 0),1,8):=by kernel_rfl
theorem infoRow:(Tryz.prog.info? 53).map (fun i=>(i.zero,i.size,i.bytes))=some (some (.slice none 0 0),1,24):=by kernel_rfl
theorem append_own{ops:Array Oper}{rest:List Oper}{o:Oper}{a:Act}{Q:Exit→Act→World→Prop}(hgd:o.guard=none)(s y:Operand){T t:TypeId}{z bytes n:Nat}{zero:Value}
 (ho:o.op=.call {callee:=.builtin .append,args:=#[s,y],argTypes:=#[t,t]})(hu:Tryz.prog.underlying t=some (.slice T))(hinfo:(Tryz.prog.info? T).map (fun i=>(i.zero,i.size,i.bytes))=some (some zero,z,bytes))(hzs:zero.cells.size=z)(hz0:0<z)(hby:bytes≤64)
 {w0 w:World}(v:Value)(xs:List Value)(cs:Array Value)(B:Nat)(hv:a.eval s=v)(hx:a.eval y=.slice (some ⟨B,0,none⟩) 1 1)(hm:Own T z w0 w v n xs)(hle:w0.heap.size≤w.heap.size)
 (hB:w.heap[B]? =some (.cells cs T (0,0)))(hcz:cs.size=z)(h1:∀u ∈ cs.toList,u.oneCell'=true)(hb:n≤1099511627776)
 (h:∀v' w',Own T z w0 w' v' (n+1) (xs++cs.toList)→Fr (fun k=>v.ownBlock=some k) w w'→(∀k,v'.ownBlock=some k→v.ownBlock=some k∨w.heap.size≤k)→wpList Tryz.prog ops Q rest (a.put o.dst v') w'):
 wpList Tryz.prog ops Q (o::rest) a w:=by
 obtain⟨i0,hi,hz0',hz1,hz2⟩:=info_parts hinfo
 refine wpList_append_any w hgd s y t t ho T i0 _ z bytes hu hi hz0' hz1 hz2 hzs hz0 v n xs hv hm.own _ 1 cs.toList hx (Src.ofSlice w hu ⟨B,0,none⟩ 1 1 cs.toList (by simp[hcz]) (fun j u hu'=> ?_) h1) (by simp only[maxLen];omega) ?_ ?_
 ·rw[add_mid,Nat.zero_add]
  exact cell_in hB (by simpa using hu')
 ·have:(n+1)*bytes≤(n+1)*64:=Nat.mul_le_mul_left _ hby
  omega
 intro v' w' hown hfr hnew _
 refine h v' w' ⟨hown,fun k hk=> ?_⟩ hfr hnew
 rcases hnew k hk with h|h
 ·exact hm.new k h
 ·omega
structure RowsY(w0 w:World)(v:Value)(rs:List (List St.Sy)):Prop where
 ex:∃vs:List Value,Own 53 1 w0 w v rs.length vs∧vs.length=rs.length∧(∀(i:Nat)(x:Value)(l:List St.Sy),vs[i]? =some x→rs[i]? =some l→Lz.Syms w0 w x l)∧∀(i j:Nat)(x y:Value)(k:Nat),i<j→vs[i]? =some x→vs[j]? =some y→x.ownBlock=some k→y.ownBlock≠some k
theorem RowsY.nil(w0 w:World):RowsY w0 w (.slice none 0 0) []:=⟨[],Own.nil _ _ _ _,rfl,fun i x l h=>by simp at h,fun i j x y k _ h=>by simp at h⟩
theorem RowsY.step{S:Nat→Prop}{w0 w w':World}{v:Value}{rs:List (List St.Sy)}(h:RowsY w0 w v rs)(hfr:Fr S w w')(hS:∀k cs t fr,w.heap[k]? =some (.cells cs t fr)→(t=53∧v.ownBlock=some k∨t=68)→¬S k):RowsY w0 w' v rs:=by
 obtain⟨vs,h1,h2,h3,h4⟩:=h.ex
 refine⟨vs,h1.step hfr (fun k hk=> ?_),h2,fun i x l hx hl=>(h3 i x l hx hl).step hfr (fun k hk=> ?_),h4⟩
 ·obtain⟨cur,hc⟩:=h1.block hk
  exact hS k _ _ _ hc (.inl ⟨rfl,hk⟩)
 ·obtain⟨cur,hc⟩:=(Own.of_syms (h3 i x l hx hl)).block hk
  exact hS k _ _ _ hc (.inr rfl)
theorem RowsY.keep{w0 w w':World}{v:Value}{rs:List (List St.Sy)}(h:RowsY w0 w v rs)(hfr:Fr (fun _=>False) w w'):RowsY w0 w' v rs:=h.step hfr (fun _ _ _ _ _ _ h=>h)
theorem RowsY.slice{w0 w:World}{v:Value}{rs:List (List St.Sy)}(h:RowsY w0 w v rs):∃p cap,v=.slice p rs.length cap:=by
 obtain⟨vs,h1,_⟩:=h.ex
 exact h1.slice
theorem RowsY.new{w0 w:World}{v:Value}{rs:List (List St.Sy)}(h:RowsY w0 w v rs):∀k,v.ownBlock=some k→w0.heap.size≤k:=by
 obtain⟨vs,h1,_⟩:=h.ex
 exact h1.new
theorem RowsY.lt{w0 w:World}{v:Value}{rs:List (List St.Sy)}(h:RowsY w0 w v rs):∀k,v.ownBlock=some k→k<w.heap.size:=by
 obtain⟨vs,h1,_⟩:=h.ex
 exact h1.lt
theorem RowsY.block{w0 w:World}{v:Value}{rs:List (List St.Sy)}(h:RowsY w0 w v rs){k:Nat}(hk:v.ownBlock=some k):∃cur,w.heap[k]? =some (.cells cur 53 (0,0)):=by
 obtain⟨vs,h1,_⟩:=h.ex
 exact h1.block hk
theorem RowsY.snoc{w0 w w':World}{v v' x:Value}{rs:List (List St.Sy)}{ls:List St.Sy}{vs:List Value}(h1:Own 53 1 w0 w v rs.length vs)(h2:vs.length=rs.length)
 (h3:∀(i:Nat)(x:Value)(l:List St.Sy),vs[i]? =some x→rs[i]? =some l→Lz.Syms w0 w x l)(h4:∀(i j:Nat)(x y:Value)(k:Nat),i<j→vs[i]? =some x→vs[j]? =some y→x.ownBlock=some k→y.ownBlock≠some k)
 (hx:Lz.Syms w0 w x ls)(hq:∀(i:Nat)(y:Value)(k:Nat),vs[i]? =some y→y.ownBlock=some k→x.ownBlock≠some k)(hown:Own 53 1 w0 w' v' (rs.length+1) (vs++[x]))(hfr:Fr (fun k=>v.ownBlock=some k) w w'):RowsY w0 w' v' (rs++[ls]):=by
 have hoff:∀{y:Value}{l:List St.Sy},Lz.Syms w0 w y l→Lz.Syms w0 w' y l:=fun{y l} hy=>hy.step hfr (fun k hk(e:v.ownBlock=some k)=>by
  obtain⟨cur,hc⟩:=(Own.of_syms hy).block hk
  exact h1.off hc (by decide) e)
 refine⟨vs++[x],by rw[List.length_append];exact hown,by simp[h2],fun i y l hy hl=> ?_,fun i j y y' k hij hy hy' hk hk'=> ?_⟩
 ·by_cases hi:i<vs.length
  ·rw[List.getElem?_append_left hi] at hy
   rw[List.getElem?_append_left (by omega)] at hl
   exact hoff (h3 i y l hy hl)
  ·have hi2:i=vs.length:=by
    have:=(List.getElem?_eq_some_iff.1 hy).1
    simp at this
    omega
   subst hi2
   rw[List.getElem?_append_right (Nat.le_refl _),Nat.sub_self] at hy
   rw[h2,List.getElem?_append_right (Nat.le_refl _),Nat.sub_self] at hl
   simp only[List.getElem?_cons_zero,Option.some.injEq] at hy hl
   subst hy hl
   exact hoff hx
 ·have hj:=(List.getElem?_eq_some_iff.1 hy').1
  simp at hj
  rw[List.getElem?_append_left (by omega)] at hy
  by_cases hj2:j<vs.length
  ·rw[List.getElem?_append_left hj2] at hy'
   exact h4 i j y y' k hij hy hy' hk hk'
  ·rw[show j=vs.length by omega,List.getElem?_append_right (Nat.le_refl _),Nat.sub_self] at hy'
   simp only[List.getElem?_cons_zero,Option.some.injEq] at hy'
   subst hy'
   exact hq i y k hy hk hk'
end Ga
namespace Ck
open Mem Wire Win
structure US where
 c:Lz.C
 ps:Nat→List Nat
 pr:Nat×Nat×Nat
 out:List UInt8
def US.clear(u:US):US:={u with c:={u.c.fresh u.c.lc u.c.lp u.c.pb with all:=[]},ps:=Lz.fresh u.c.lc u.c.lp}
def US.props(u:US)(h:Head):US:={u with pr:=(h.lc,h.lp,h.pb)}
def US.reset(u:US):US:={u with c:=u.c.fresh u.pr.1 u.pr.2.1 u.pr.2.2,ps:=Lz.fresh u.pr.1 u.pr.2.1}
def US.raw(u:US)(part:List UInt8):US:={u with c:=u.c.on part,out:=u.out++part}
def US.take(u:US)(part:List UInt8)(n:Nat):Option US:=(Lz.takeAll u.c u.ps part n).map fun r=>{u with c:=r.2.2.1,ps:=r.2.2.2,out:=u.out++r.2.1}
def US.step(u:US)(h:Head)(part:List UInt8):Option US:=
 if h.kind=0∨h.kind=2 then some (u.raw part)
 else if h.kind=1 then some (u.clear.raw part)
 else if h.kind=3 then u.take part h.size
 else if h.kind=4 then u.reset.take part h.size
 else if h.kind=5 then((u.props h).reset).take part h.size
 else((u.clear.props h).reset).take part h.size
structure UAt(w0 w:World)(dB prB fB Vb:Nat)(l:Lz.L)(ov:Value)(u:US):Prop where
 d:w.heap[dB]? =some (.cells #[Lz.ptr l.D] 69 (0,0))
 pr:w.heap[prB]? =some (.cells #[.int .i64 u.pr.1,.int .i64 u.pr.2.1,.int .i64 u.pr.2.2] 50 (0,0))
 f:w.heap[fB]? =some (.cells #[.func (.func 17) #[] #[Lz.ptr Vb]] 54 (0,0))
 dec:Lz.Dec w l u.c u.ps false
 out:OutAt w Vb ov
 mine:Mine w0 w ov u.out
 tabs:St.Tabs w
 low:∀k,l.F k→w0.heap.size≤k
 five:5≤w0.heap.size
 lows:w0.heap.size≤dB∧w0.heap.size≤prB∧w0.heap.size≤fB∧w0.heap.size≤Vb
 ofs:∀k,ov.ownBlock=some k→¬l.F k
 prok:u.pr.1+u.pr.2.1≤4∧u.pr.2.2≤4
 size:w0.heap.size≤w.heap.size
theorem dec_off{w:World}{l:Lz.L}{c:Lz.C}{ps:Nat→List Nat}{sp:Bool}(h:Lz.Dec w l c ps sp){k:Nat}{cs:Array Value}{t:TypeId}{fr:Nat×Nat}(hk:w.heap[k]? =some (.cells cs t fr))(ht:¬Lz.owned t)(ht2:t≠5):¬l.F k:=by
 rintro(rfl|rfl|rfl|hF|⟨j,hj,rfl|rfl⟩)
 ·rw[h.d] at hk
  simp only[Option.some.injEq,Obj.cells.injEq] at hk
  exact ht (hk.2.1 ▸ by decide)
 ·rw[h.tab.box] at hk
  simp only[Option.some.injEq,Obj.cells.injEq] at hk
  exact ht (hk.2.1 ▸ by decide)
 ·rw[h.win.box] at hk
  simp only[Option.some.injEq,Obj.cells.injEq] at hk
  exact ht (hk.2.1 ▸ by decide)
 ·obtain⟨cur,hc⟩:=Lz.own_block h.win.own hF
  rw[hc] at hk
  simp only[Option.some.injEq,Obj.cells.injEq] at hk
  exact ht2 hk.2.1.symm
 ·obtain⟨_,_,_,hg,_⟩:=h.tab.set j hj
  rw[hg] at hk
  simp only[Option.some.injEq,Obj.cells.injEq] at hk
  exact ht (hk.2.1 ▸ by decide)
 ·obtain⟨_,_,hb,_⟩:=h.tab.set j hj
  rw[hb] at hk
  simp only[Option.some.injEq,Obj.cells.injEq] at hk
  exact ht (hk.2.1 ▸ by decide)
theorem UAt.keep{w0 w w':World}{dB prB fB Vb:Nat}{l:Lz.L}{ov:Value}{u:US}(h:UAt w0 w dB prB fB Vb l ov u)(hfr:Fr (fun _=>False) w w'):UAt w0 w' dB prB fB Vb l ov u:=
 ⟨hfr.keep h.d (fun h=>h),hfr.keep h.pr (fun h=>h),hfr.keep h.f (fun h=>h),h.dec.keep0 hfr,hfr.keep h.out (fun h=>h),h.mine.keep hfr,h.tabs.keep hfr,h.low,h.five,h.lows,h.ofs,h.prok,Nat.le_trans h.size hfr.size⟩
theorem UAt.decd{w0 w w':World}{dB prB fB Vb:Nat}{l l':Lz.L}{ov:Value}{u:US}{c2:Lz.C}{ps2:Nat→List Nat}(h:UAt w0 w dB prB fB Vb l ov u)(hfr:Fr l.F w w')(hn:Lz.Nx w l l')(hd:Lz.Dec w' l' c2 ps2 false):UAt w0 w' dB prB fB Vb l' ov {u with c:=c2,ps:=ps2}:=by
 have hs:=h.size
 refine⟨by rw[hn.D];exact hfr.keep h.d (dec_off h.dec h.d (by decide) (by decide)),hfr.keep h.pr (dec_off h.dec h.pr (by decide) (by decide)),hfr.keep h.f (dec_off h.dec h.f (by decide) (by decide)),hd,hfr.keep h.out (dec_off h.dec h.out (by decide) (by decide)),h.mine.step hfr h.ofs,h.tabs.step hfr (fun k hk=>Nat.le_trans h.five (h.low k hk)),fun k hk=> ?_,h.five,h.lows,fun k hk hF=> ?_,h.prok,Nat.le_trans hs hfr.size⟩
 ·rcases hn.F k hk with h1|h1
  ·exact h.low k h1
  ·omega
 ·rcases hn.F k hF with h1|h1
  ·exact h.ofs k hk h1
  ·have:=h.mine.lt k hk
   omega
theorem UAt.propd{w0 w:World}{dB prB fB Vb:Nat}{l:Lz.L}{ov:Value}{u:US}(h:UAt w0 w dB prB fB Vb l ov u)(hd:Head)(hok:hd.lc+hd.lp≤4∧hd.pb≤4):UAt w0 (((w.setCell ⟨prB,0,none⟩ (.int .i64 hd.lc)).setCell ⟨prB,1,none⟩ (.int .i64 hd.lp)).setCell ⟨prB,2,none⟩ (.int .i64 hd.pb)) dB prB fB Vb l ov (u.props hd):=by
 have hfr:Fr (fun k=>k=prB) w (((w.setCell ⟨prB,0,none⟩ (.int .i64 hd.lc)).setCell ⟨prB,1,none⟩ (.int .i64 hd.lp)).setCell ⟨prB,2,none⟩ (.int .i64 hd.pb)):=((Fr.one _ _ _ _).trans (Fr.one _ _ _ _)).trans (Fr.one _ _ _ _)
 have hne:∀{k:Nat}{cs:Array Value}{t:TypeId}{fr:Nat×Nat},w.heap[k]? =some (.cells cs t fr)→t≠50→¬k=prB:=by
  intro k cs t fr hk h1 e
  rw[e,h.pr] at hk
  simp only[Option.some.injEq,Obj.cells.injEq] at hk
  exact h1 hk.2.1.symm
 have hpr:=set_in (set_in (set_in h.pr 0 (.int .i64 hd.lc)) 1 (.int .i64 hd.lp)) 2 (.int .i64 hd.pb)
 refine⟨hfr.keep h.d (hne h.d (by decide)),hpr,hfr.keep h.f (hne h.f (by decide)),h.dec.keep hfr (fun k hk(e:k=prB)=>dec_off h.dec h.pr (by decide) (by decide) (e ▸ hk)),hfr.keep h.out (hne h.out (by decide)),h.mine.step hfr (fun k hk=> ?_),h.tabs.step hfr (fun k(e:k=prB)=>by have:=h.five;have:=h.lows;omega),h.low,h.five,h.lows,h.ofs,hok,Nat.le_trans h.size hfr.size⟩
 obtain⟨cur,hc⟩:=Lz.own_block h.mine.own hk
 exact hne hc (by decide)
theorem UAt.did{w0 w w':World}{dB prB fB Vb:Nat}{l:Lz.L}{ov ov2:Value}{u:US}{out2:List UInt8}(h:UAt w0 w dB prB fB Vb l ov u)(hO:OutAt w' Vb ov2)(hM:Mine w0 w' ov2 out2)(hfr:Fr (fun k=>k=Vb∨ov.ownBlock=some k) w w')(hn:∀k,ov2.ownBlock=some k→ov.ownBlock=some k∨w.heap.size≤k):UAt w0 w' dB prB fB Vb l ov2 {u with out:=out2}:=by
 have hs:=h.size
 have hne:∀{k:Nat}{cs:Array Value}{t:TypeId}{fr:Nat×Nat},w.heap[k]? =some (.cells cs t fr)→t≠22→t≠5→¬(k=Vb∨ov.ownBlock=some k):=by
  intro k cs t fr hk h1 h2 h3
  rcases h3 with h3|h3
  ·have h4:=h.out
   unfold OutAt at h4
   rw[h3,h4] at hk
   simp only[Option.some.injEq,Obj.cells.injEq] at hk
   exact h1 hk.2.1.symm
  ·obtain⟨cur,hc⟩:=Lz.own_block h.mine.own h3
   rw[hc] at hk
   simp only[Option.some.injEq,Obj.cells.injEq] at hk
   exact h2 hk.2.1.symm
 refine⟨hfr.keep h.d (hne h.d (by decide) (by decide)),hfr.keep h.pr (hne h.pr (by decide) (by decide)),hfr.keep h.f (hne h.f (by decide) (by decide)),h.dec.keep hfr (fun k hk h3=> ?_),hO,hM,h.tabs.step hfr (fun k h3=> ?_),h.low,h.five,h.lows,fun k hk hF=> ?_,h.prok,Nat.le_trans hs hfr.size⟩
 ·rcases h3 with h3|h3
  ·exact dec_off h.dec h.out (by decide) (by decide) (h3 ▸ hk)
  ·exact h.ofs k h3 hk
 ·have:=h.five
  have:=h.lows
  rcases h3 with h3|h3
  ·omega
  ·have:=h.mine.new k h3
   omega
 ·rcases hn k hk with h1|h1
  ·exact h.ofs k h1 hF
  ·have:=h.dec.old k hF
   omega
end Ck
end Go.Proofs.YtilegoadokmcdaaGreatDoor
