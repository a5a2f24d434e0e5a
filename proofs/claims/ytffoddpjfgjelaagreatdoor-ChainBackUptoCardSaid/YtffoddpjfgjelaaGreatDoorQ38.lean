/- Part 38 of 48: lemmas of the last part, each under the conditions that it names. -/
import Derived.OwnWalkIn
import Derived.Shelf.Strconv.Itoa0
import Derived.Lib.ItoaNum
import Derived.Test.YtffoddpjfgjelaaGreatDoorQ04
import Derived.Test.YtffoddpjfgjelaaGreatDoorQ27
import Derived.Test.YtffoddpjfgjelaaGreatDoorQ32
import Derived.Test.YtffoddpjfgjelaaGreatDoorQ37
set_option linter.unusedVariables false
set_option linter.unusedSimpArgs false
set_option maxRecDepth 1500
set_option maxHeartbeats 4000000
namespace Go.Proofs.YtffoddpjfgjelaaGreatDoor
open Go.RowKit Go.Shelf
namespace Ps
open Mem Win St Fi Pk
attribute [local go_sem] Oper.semAt_some
theorem appendIn_own{F:Fence}{nF:Nat}{ops:Array Oper}{rest:List Oper}{o:Oper}{a:Act}{Q:Exit→Act→World→Prop}(hgd:o.guard=none)(s y:Operand){T t:TypeId}{z bytes n:Nat}{zero:Value}
 (ho:o.op=.call {callee:=.builtin .append,args:=#[s,y],argTypes:=#[t,t]})(hu:Tryz.prog.underlying t=some (.slice T))(hinfo:(Tryz.prog.info? T).map (fun i=>(i.zero,i.size,i.bytes))=some (some zero,z,bytes))(hzs:zero.cells.size=z)(hz0:0<z)(hby:bytes≤64)
 {w0 w:World}(v:Value)(xs:List Value)(cs:Array Value)(B:Nat)(hv:a.eval s=v)(hx:a.eval y=.slice (some ⟨B,0,none⟩) 1 1)(hm:Ga.Own T z w0 w v n xs)(hle:w0.heap.size≤w.heap.size)
 (hB:w.heap[B]? =some (.cells cs T (0,0)))(hcz:cs.size=z)(h1:∀u ∈ cs.toList,u.oneCell'=true)(hb:n≤1099511627776)
 (h:∀v' w',Ga.Own T z w0 w' v' (n+1) (xs++cs.toList)→Fr (fun k=>v.ownBlock=some k) w w'→(∀k,v'.ownBlock=some k→v.ownBlock=some k∨w.heap.size≤k)→wpListIn F nF Tryz.prog ops Q rest (a.put o.dst v') w'):
 wpListIn F nF Tryz.prog ops Q (o::rest) a w:=by
 obtain⟨i0,hi,hz0',hz1,hz2⟩:=info_parts hinfo
 refine wpListIn_plain hgd fun K hK=> ?_
 obtain⟨v',w',hr,h2,h3,h4,h5⟩:=run_append_any (P:=Tryz.prog) w t t o.type T i0 _ z bytes hu hi hz0' hz1 hz2 hzs hz0 v n xs hm.own _ 1 cs.toList (Src.ofSlice w hu ⟨B,0,none⟩ 1 1 cs.toList (by simp[hcz]) (fun j u hu'=>by
  rw[add_mid,Nat.zero_add]
  exact cell_in hB (by simpa using hu')) h1) (by simp only[maxLen];omega) (by
  have:(n+1)*bytes≤(n+1)*64:=Nat.mul_le_mul_left _ hby
  omega)
 unfold Oper.wpIn
 refine⟨by simp[Oper.about,ho,resolve,Target.leads,Sem.run_pure],?_⟩
 rw[Oper.semAt_plain F _ _ (by rw[ho];intro c hc';cases hc')]
 simp[execOp,ho,resolve,invoke,builtin,hv,hx,hr,Result.andThen]
 refine hK _ _ (h v' w' ⟨h2,fun k hk=> ?_⟩ h3 h4)
 rcases h4 k hk with h|h
 ·exact hm.new k h
 ·omega
theorem infoMatch:(Tryz.prog.info? 310).map (fun i=>(i.zero,i.size,i.bytes))=some (some (.agg #[.int .i64 0,.int .i64 0]),2,16):=by kernel_rfl
def mtCells(l:List (Nat×Nat)):List Value:=l.flatMap (fun x=>[.int .i64 (x.1:Nat),.int .i64 (x.2:Nat)])
theorem mtCells_snoc(l:List (Nat×Nat))(x:Nat×Nat):mtCells (l++[x])=mtCells l++[.int .i64 (x.1:Nat),.int .i64 (x.2:Nat)]:=by simp[mtCells]
def Mts(w0 w:World)(v:Value)(l:List (Nat×Nat)):Prop:=Ga.Own 310 2 w0 w v l.length (mtCells l)
theorem keepsO{S:Nat→Prop}{W W':World}(hf:Fr S W W')(hS:∀k,S k→∃cs t fr,W.heap[k]? =some (.cells cs t fr)):KeepsOthers W W':=
 ⟨hf.size,fun k o hk ho=>(hf.block k (Array.getElem?_eq_some_iff.1 hk).1 (fun hs=>by
  obtain⟨cs,t,fr,hc⟩:=hS k hs
  rw[hk] at hc
  cases hc
  cases ho)).trans hk⟩
theorem mts_own{B:Nat}{w0:World}{v:Value}{l:List (Nat×Nat)}:OwnFrom B (fun(_:Unit) W=>Mts w0 W v l):=fun s W W' row hs hg hr=>
 hs.step (S:=fun k=>row=some k) ((Fr.refl _ W).grown hg (fun k e=>.inl e)) (fun k hk e=>by
  obtain⟨_,o,ho,hc⟩:=hr k e
  obtain⟨cur,hb⟩:=hs.block hk
  rw[hb] at ho
  cases ho
  cases hc)
set_option maxRecDepth 100000 in
theorem steps_calls(P F tp dict p M B:Nat)(pv dv:Value)(data:List UInt8)(w:World)(hpc:PcAt w P tp dict pv (ptr F) data)(h:FiAt w F data dict p dv M B)(hp:p<tp)(ht:tp≤data.length)(hb:data.length≤1073741824)(hd:dict≤4294967295):
    Calls Tryz.prog 188 #[ptr P,.int .i64 p] w fun e w'=>Fr (fun _=>False) w w'∧∃v l,e=.returned v∧Mts w w' v l∧(∀x ∈ l,MOk data dict p (min 273 (tp-p)) x)∧l.length≤273:=by
  have HH:=Hd h
  have HPC:=Hd hpc
  have c3:=cell_in (i:=3) hpc.box rfl
  clear hpc h
  have hmx:Tryz.prog.follows .mixedOrders=true:=by kernel_rfl
  refine(callsIn_wide (n:=5)).1 ?_
  refine callsIn_of_wp_marks Tryz.func188 rfl trivial ?_ rfl
  simp only[Tryz.ntmps188,List.size_toArray,List.length_cons,List.length_nil,Nat.reduceAdd,Nat.reduceSub,Array.replicate_succ,Array.replicate_zero,List.push_toArray,List.append_toArray,List.nil_append,List.cons_append]
  have f202:Fence.wide.fn 235:=trivial
  have f161:Fence.wide.fn 183:=trivial
  have fdep:Fence.wide.depth=none:=rfl
  gi_wp2_with fail
  have hf0:=((R0 w).alloc (.cells #[.slice none 0 0] 317)).alloc (.cells #[.int .i64 0] 3)
  have hx1:=((R0 (w.alloc (.cells #[.slice none 0 0] 317))).alloc (.cells #[.int .i64 0] 3)).keep (heap_alloc_new w (.cells #[.slice none 0 0] 317)) (fun h=>h)
  have hx2:=heap_alloc_new (w.alloc (.cells #[.slice none 0 0] 317)) (.cells #[.int .i64 0] 3)
  have hsz:((w.alloc (.cells #[.slice none 0 0] 317)).alloc (.cells #[.int .i64 0] 3)).heap.size=w.heap.size+2:=by simp
  rw[World.size_alloc] at hx2
  generalize(w.alloc (.cells #[.slice none 0 0] 317)).alloc (.cells #[.int .i64 0] 3)=W0 at*
  obtain⟨b0,hb0⟩:∃b0,w.heap.size=b0:=⟨_,rfl⟩
  rw[hb0] at hx1 hx2 hsz
  rw[hb0]
  have HB0:=Hd hb0
  have HF0:=Hd hf0
  have HX1:=Hd hx1
  have HX2:=Hd hx2
  have HR:=Hd ((R0 W0).drew)
  have HS:=Hd (show∀w':World,Fr (fun _=>False) W0 w'→w'.cell? ⟨P,3,none⟩=some (ptr F) from fun w' hf=>cell_in (i:=3) ((hf0.trans hf).keep HPC.out.box (fun h=>h)) rfl)
  have HSC:=Hd (HS.out _ HR.out)
  have e3:=HS.out W0 (Fr.refl _ _)
  clear hb0 hf0 hx1 hx2
  refine wpIn_wide.2 ?_
  go_region_held3 (fun w'=>w'.cell? ⟨P,3,none⟩=some (ptr F)) (first|with_reducible exact HSC.out|exact HS.out _ (((Fr.refl _ W0).alloc _).alloc _).drew) ((first
      | (go_at_call 183
         with_reducible refine(most_calls P tp dict p pv (ptr F) data _ (HPC.out.keep (HF0.out.trans HR.out)) (by omega) (by omega)).mono ?_
         rintro e wc ⟨rfl,rfl⟩)
      | (go_at_call 235
         with_reducible refine(matches_calls F (most tp p) _).mono ?_
         rintro e wc ⟨rfl,rfl⟩)))
  gi_wp2_with fail
  have hfa:=((((R0 W0).alloc (.cells #[ptr F] 233)).alloc (.cells #[.int .i64 (most tp p)] 3)).drew)
  have hx1':=hfa.keep HX1.out (fun h=>h)
  have hx2':=hfa.keep HX2.out (fun h=>h)
  have hx3':((((W0.alloc (.cells #[ptr F] 233)).alloc (.cells #[.int .i64 (most tp p)] 3))).drew).heap[b0+2]? =some (.cells #[ptr F] 233 (0,0)):=hsz ▸ ((R0 _).alloc (.cells #[.int .i64 (most tp p)] 3)).keep (heap_alloc_new W0 (.cells #[ptr F] 233)) (fun h=>h)
  have hx4':((((W0.alloc (.cells #[ptr F] 233)).alloc (.cells #[.int .i64 (most tp p)] 3))).drew).heap[b0+2+1]? =some (.cells #[.int .i64 (most tp p)] 3 (0,0)):=by
    have:=heap_alloc_new (W0.alloc (.cells #[ptr F] 233)) (.cells #[.int .i64 (most tp p)] 3)
    rw[World.size_alloc,hsz] at this
    exact this
  have hsz1:((((W0.alloc (.cells #[ptr F] 233)).alloc (.cells #[.int .i64 (most tp p)] 3))).drew).heap.size=b0+4:=by simp[hsz]
  have hfa:=HF0.out.trans hfa
  have hml:=most_le tp p (by omega)
  clear hsz HX1 HX2 HF0 HR HS HSC e3 c3
  generalize(((W0.alloc (.cells #[ptr F] 233)).alloc (.cells #[.int .i64 (most tp p)] 3))).drew=W1 at*
  obtain⟨mo,hmo⟩:∃mo,min 273 (tp-p)=mo:=⟨_,rfl⟩
  have hmo':most tp p=mo:=hmo
  rw[hmo'] at hml hx4' ⊢
  refine wpIn_rangeFunc_ownH rfl (by omega) (gf:=263) (lb:=#[ptr (b0+2),ptr (b0+2+1)]) rfl trivial (enters_of Tryz.func263 (by kernel_rfl) rfl)
    (matches_stops (5-1) F (b0+2) (b0+2+1) M B dict p mo data dv w W1 (fun k=>k=b0∨k=b0+1) HH.out (hfa.mono (fun _ _ h=>h.elim)) (fun k e=>by have:=HB0.out;omega) (by omega) (by omega) (cell_in (i:=0) hx3' rfl) (cell_in (i:=0) hx4' rfl) (by omega) (by omega) (by omega) (by omega))
    kpf_t (fun W l o o' hl=>kpf_b W l o o' hl) (Below.refl _ _) (fun _=>rfl)
    (fun(pre:List (Mt data dict p mo)) W=>(∃(v:Value)(l:List (Nat×Nat))(lg:Nat),W.heap[b0]? =some (.cells #[v] 317 (0,0))∧W.heap[b0+1]? =some (.cells #[.int .i64 lg] 3 (0,0))∧Mts W1 W v l∧(∀x ∈ l,MOk data dict p mo x)∧l.length≤lg∧lg≤273)∧Fr (fun k=>w.heap.size≤k) w W∧W1.heap.size≤W.heap.size)
    (fun _ _ _=>False) ?hI (fun _ _ _ _ _ h _ _=>h) ⟨⟨.slice none 0 0,[],0,hx1',hx2',Ga.Own.nil _ _ _ _,fun x h=>by simp at h,by simp,by omega⟩,hfa.mono (fun _ _ h=>h.elim),Nat.le_refl _⟩
    (fun(x:Mt data dict p mo) a' W=>∃Bx v,W.heap[b0]? =some (.cells #[v] 317 (0,0))∧v.ownBlock≠some Bx∧W1.heap.size≤Bx∧W.heap[Bx]? =some (.cells #[.int .i64 (x.1.1:Nat),.int .i64 (x.1.2:Nat)] 310 (0,0))∧a'={tmps:=#[ptr P,.int .i64 p,undef,undef,.slice none 0 0,ptr b0,ptr (b0+1),ptr Bx,ptr P,ptr P,.pointer (some ⟨P,3,none⟩),ptr F,ptr P,.int .i64 p,.int .i64 mo,.func (.func 263) #[] #[ptr (b0+2),ptr (b0+2+1)],.agg #[.int .i64 (x.1.1:Nat),.int .i64 (x.1.2:Nat)],undef,undef,undef,undef,undef,undef,undef,undef,undef,undef,undef],defers:=[]})
    ?hAx ?assign ?body ?done ?stop
  case hI=>
    intro pre W W' row hs hg hr
    obtain⟨⟨v,l,lg,h1,h2,h3,h4,h5,h6⟩,hf,hw⟩:=hs
    exact⟨⟨v,l,lg,cells_own (B:=W1.heap.size) (b:=b0) (fun(_:Unit)=>#[v]) 317 () W W' row h1 hg hr,cells_own (B:=W1.heap.size) (b:=b0+1) (fun(_:Unit)=>#[Value.int .i64 (lg:Int)]) 3 () W W' row h2 hg hr,mts_own (B:=W1.heap.size) () W W' row h3 hg hr,h4,h5,h6⟩,fr_own (B:=W1.heap.size) (by have:=HB0.out;omega) () W W' row hf hg hr,Nat.le_trans hw hg.size⟩
  case hAx=>
    intro x a' s W W' row hs hg hr
    obtain⟨Bx,v,hv,hn,h1,h2,h3⟩:=hs
    exact⟨Bx,v,cells_own (B:=W1.heap.size) (b:=b0) (fun(_:Unit)=>#[v]) 317 () W W' row hv hg hr,hn,h1,cells_own (B:=W1.heap.size) (b:=Bx) (fun(_:Unit)=>#[Value.int .i64 (x.1.1:Nat),.int .i64 (x.1.2:Nat)]) 310 () W W' row h2 hg hr,h3⟩
  case assign=>
    rintro l pre x W K hi hK
    obtain⟨⟨v,l0,lg,hc1,hc2,hm,hok,hll,hlg⟩,hfr,hWs⟩:=hi
    have HK:=Hd hK
    clear hK
    gi_wp2
    have hfy:=(R0 W).alloc (.cells #[.int .i64 (x.1.1:Nat),.int .i64 (x.1.2:Nat)] 310)
    exact HK.out _ _ ((KeepsOthers.alloc _ _).from _) ((Fr.refl _ W).alloc _) ⟨⟨v,l0,lg,hfy.keep hc1 (fun h=>h),hfy.keep hc2 (fun h=>h),hm.keep hfy,hok,hll,hlg⟩,hfr.alloc _,by rw[World.size_alloc];omega⟩ ⟨W.heap.size,v,hfy.keep hc1 (fun h=>h),(fun e=>Nat.lt_irrefl _ (hm.lt _ e)),hWs,heap_alloc_new _ _,rfl⟩
  case body=>
    rintro l pre x a' W hl ⟨r,hr⟩ ⟨⟨v,l0,lg,hc1,hc2,hm,hok,hll,hlg⟩,hfr,hWs⟩ ⟨Bx,v',hv',hnb,hBx,hx,rfl⟩ hlt
    rw[hc1] at hv'
    simp only[Option.some.injEq,Obj.cells.injEq,Array.mk.injEq,List.cons.injEq,and_true] at hv'
    subst hv'
    have HNB:=Hd hnb
    clear hnb
    obtain⟨x0,x1⟩:=cs2 hx rfl rfl
    have c0:=cell_in (i:=0) hc1 rfl
    have d0:=cell_in (i:=0) hc2 rfl
    have hle:w.heap.size≤b0:=by have:=HB0.out;omega
    by_cases hgt:(lg:Int)<((x.1.1:Nat):Int)
    · have hfy:=(R0 W).alloc (.cells #[.int .i64 (x.1.1:Nat),.int .i64 (x.1.2:Nat)] 310)
      have HM:=Hd (hm.keep hfy)
      have HBN:=Hd (heap_alloc_new W (.cells #[.int .i64 (x.1.1:Nat),.int .i64 (x.1.2:Nat)] 310))
      have HY1:=Hd (hfy.keep hc1 (fun h=>h))
      have HY2:=Hd (hfy.keep hc2 (fun h=>h))
      have HYX:=Hd (hfy.keep hx (fun h=>h))
      clear hfy
      gi_wp2_with (gi_at_builtin
                   refine appendIn_own rfl _ _ rfl Tryz.underlying317 infoMatch rfl (by decide) (by decide) (w0:=W1) v (mtCells l0) #[.int .i64 (x.1.1:Nat),.int .i64 (x.1.2:Nat)] W.heap.size rfl rfl HM.out (by rw[World.size_alloc];omega) HBN.out rfl (by intro u hu;simp only[List.mem_cons,List.not_mem_nil,or_false] at hu;rcases hu with rfl|rfl<;>rfl) (by omega) ?_
                   intro v9 w9 hO9 hf9 hn9
                   have hy1:=hf9.keep HY1.out (HM.out.off HY1.out (by decide))
                   have hy2:=hf9.keep HY2.out (HM.out.off HY2.out (by decide))
                   have hyx:=hf9.keep HYX.out HNB.out
                   have c0:=cell_in (i:=0) hy1 rfl
                   have cf:=fun i=>frozen_in hy1 i
                   have df:=fun i=>frozen_in hy2 i
                   have d0:=cell_in (i:=0) hy2 rfl
                   have x0:=cell_in (i:=0) hyx rfl
                   have HO9:=Hd hO9
                   obtain⟨p9,cap9,rfl⟩:=hO9.slice
                   have HF9:=Hd hf9
                   have HN9:=Hd hn9
                   clear hn9 hO9 hf9)
      have hsb:=HM.out.lt
      have hw9:Fr (fun k=>v.ownBlock=some k) W w9:=((Fr.refl _ W).alloc _).trans HF9.out
      have hS:∀k,v.ownBlock=some k→∃cs t fr,W.heap[k]? =some (.cells cs t fr):=fun k hk=>by
        obtain⟨cur,hc⟩:=hm.block hk
        exact⟨_,_,_,hc⟩
      have hnew:∀k,v.ownBlock=some k→W1.heap.size≤k:=hm.new
      have hS2:∀{y:Value},Fr (fun k=>k=b0∨k=b0+1) w9 ((w9.setCell ⟨b0,0,none⟩ y).setCell ⟨b0+1,0,none⟩ (.int .i64 (x.1.1:Nat))):=((Fr.refl _ w9).setCell (p:=⟨b0,0,none⟩) (.inl (.inl rfl)) _).setCell (p:=⟨b0+1,0,none⟩) (.inl (.inr rfl)) _
      have hoff:∀k,(Value.slice p9 (l0.length+1) cap9).ownBlock=some k→¬(k=b0∨k=b0+1):=fun k hk e=>by
        have:=HO9.out.new k hk
        omega
      have hm2:Mts W1 w9 (.slice p9 (l0.length+1) cap9) (l0++[x.1]):=by
        unfold Mts
        rw[mtCells_snoc,List.length_append,List.length_singleton]
        exact HO9.out
      have hx1:=x.2
      have hsz:=hS2 (y:=.slice p9 (l0.length+1) cap9)
      refine⟨((keepsO hw9 hS).trans ((KeepsOthers.setCell _ _ _).trans (KeepsOthers.setCell _ _ _))).from _,(hw9.mono (fun k _ hk=>.inr (by have:=hnew k hk;omega))).trans (hS2.mono (fun k _ hk=>.inl hk)),⟨_,?_,l0++[x.1],x.1.1,?_,hm2.step hS2 hoff,?_,?_,?_⟩,?_,?_⟩
      · exact(Fr.one _ (b0+1) 0 _).keep (set_in hy1 0 _) (by omega)
      · exact set_in ((Fr.one _ b0 0 _).keep hy2 (by omega)) 0 _
      · intro a b hab
        rcases List.mem_append.1 hab with h|h
        · exact hok _ h
        · rw[List.mem_singleton] at h
          rw[h]
          exact hx1
      · rw[List.length_append,List.length_singleton]
        omega
      · have:=hx1.le
        omega
      · refine((hfr.alloc _).trans' HF9.out (fun k hk hs=> ?_)).trans (hsz.mono (fun k _ hk=>by omega))
        have:=hnew k hs
        omega
      · have h1:=hsz.size
        have h2:=hw9.size
        omega
    · gi_wp2
      exact⟨KeepsFrom.refl _ _,Fr.refl _ _,⟨v,hc1,l0,lg,hc2,hm,fun a b h=>hok _ h,hll,hlg⟩,hfr,by first|exact hWs|omega⟩
  case done=>
    rintro D xs W hD _ ⟨⟨v,l0,lg,hc1,hc2,hm,hok,hll,hlg⟩,hfr,hWs⟩ hK
    have c0:=cell_in (i:=0) hc1 rfl
    gi_wp2
    have hle:w.heap.size≤b0:=by have:=HB0.out;omega
    refine⟨by simp,.inl ⟨_,_,rfl,run_takeDeferred hK,?_⟩⟩
    refine⟨_,by simp[results,Tryz.results188,go_sem],(hfr.grown (grownBy_putObj' _ D _) (fun k e=>by cases e;exact .inl (by have:=HB0.out;omega))).mono (fun k hk h=>by omega),v,l0,rfl,⟨(hm.step (S:=fun k=>k=D) ((Fr.refl _ W).grown (grownBy_putObj' _ D _) (fun k e=>by cases e;exact .inl rfl)) (fun k hk e=> ?_)).own,fun k hk=>by have:=hm.new k hk;have:=hfa.size;omega⟩,?_,by omega⟩
    · subst e
      obtain⟨cur,hc⟩:=hm.block hk
      rw[hc] at hK
      cases hK
    · have hmo:min 273 (tp-p)=mo:=by assumption
      rw[hmo]
      exact hok
  case stop=>
    rintro D c pre W _ _ h _
    exact h.elim
end Ps
end Go.Proofs.YtffoddpjfgjelaaGreatDoor
namespace Go.Proofs.YtffoddpjfgjelaaGreatDoor
open Go.RowKit
namespace En
open Mem Rc Win Lz St
def lenRen:Go.Shelf.Ren:=⟨fun n=>if n=129 then 283 else n,fun n=>if n=3 then 3 else if n=4 then 4 else if n=5 then 5 else if n=9 then 9 else if n=46 then 40 else if n=53 then 67 else n,fun n=>n⟩
theorem len64_calls(x:Int)(w:World)(h0:0≤x)(h1:x≤18446744073709551615):Calls Tryz.prog 283 #[.int .u64 x] w fun e w'=>e=.returned (.int .i64 (Lib.bitLen x.toNat))∧w'=w:=
 Any.bits_Len64 (ρ:=lenRen) ⟨by kernel_rfl,by kernel_rfl,by kernel_rfl,fun _=>by kernel_rfl,fun _=>by kernel_rfl,fun _=>by kernel_rfl,by kernel_rfl,fun _=>by kernel_rfl,fun _=>by kernel_rfl,fun _=>by kernel_rfl,by kernel_rfl,fun _=>by kernel_rfl,fun _=>by kernel_rfl,fun _=>by kernel_rfl,by kernel_rfl,fun _=>by kernel_rfl,fun _=>by kernel_rfl,fun _=>by kernel_rfl,by kernel_rfl,fun _=>by kernel_rfl,fun _=>by kernel_rfl,fun _=>by kernel_rfl,by kernel_rfl,fun _=>by kernel_rfl,fun _=>by kernel_rfl,fun _=>by kernel_rfl⟩ x w h0 h1
theorem len_calls(x:Nat)(w:World)(h:x<18446744073709551616):Calls Tryz.prog 267 #[.int .u64 x] w fun e w'=>e=.returned (.int .i64 (Lib.bitLen x))∧w=w':=by
 have HL:=Hd (len64_calls x w (by omega) (by omega))
 rw[Int.toNat_natCast] at HL
 clear h
 go_enter Tryz.func267,Tryz.ntmps267
 go_wp2_with fail
 refine HL.out.mono ?_
 rintro e w' ⟨rfl,rfl⟩
 go_wp2_with fail
 go_ret
 exact⟨rfl,rfl⟩
theorem bitLen_log(x:Nat)(h0:x≠0)(h:x<18446744073709551616):Lib.bitLen x=Nat.log2 x+1:=by
 obtain⟨h1,h2,h3⟩:=Lib.bitLenAux_bounds 64 x h h0
 have:Nat.log2 x=Lib.bitLenAux 64 x-1:=(Nat.log2_eq_iff h0).2 ⟨h2,by rw[show Lib.bitLenAux 64 x-1+1=Lib.bitLenAux 64 x by omega];exact h3⟩
 unfold Lib.bitLen
 omega
theorem and1_u64(x j:Nat):bits BinOp.and IntKind.u64 ((x:Int)/2^j) 1=((x/2^j%2:Nat):Int):=by
 have e:(x:Int)/2^j=((x/2^j:Nat):Int):=by simp
 rw[e]
 generalize x/2^j=a
 have hx:a%2<2:=Nat.mod_lt _ (by decide)
 have h2:(BitVec.ofInt 64 (1:Int)).toNat=2^1-1:=by decide
 have h1:(BitVec.ofInt 64 (a:Int)).toNat=a%2^64:=by rw[BitVec.ofInt_natCast,BitVec.toNat_ofNat]
 show IntKind.u64.wrap ((BitVec.ofInt 64 (a:Int)&&&BitVec.ofInt 64 (1:Int)).toNat:Int)=_
 rw[BitVec.toNat_and,h1,h2,Nat.and_two_pow_sub_one_eq_mod,Nat.mod_mod_of_dvd _ (by decide)]
 exact IntWalk.u64_in _ (by omega)
theorem slot_calls(d:Nat)(w:World)(h1:1≤d)(h2:d≤4294967295):Calls Tryz.prog 243 #[.int .i64 d] w fun e w'=>e=.returned (.tuple #[.int .i64 (slotOf d),.int .i64 0])∧w=w':=by
 have hw:IntKind.u64.wrap ((d:Int)-1)=((d-1:Nat):Int):=by rw[IntWalk.u64_in _ (by omega)];omega
 have HD:=dist_calls d w
 rw[decide_eq_true (show 1≤d∧d≤4294967295 from⟨h1,h2⟩)] at HD
 have HD:=Hd HD
 by_cases h4:d≤4
 ·have e:((slotOf d:Nat):Int)=((d-1:Nat):Int):=by unfold slotOf;rw[if_pos h4]
  rw[e]
  have t1:decide (((d-1:Nat):Int)<4)=true:=decide_eq_true (by omega)
  have hx:d-1≤3:=by omega
  clear e
  generalize d-1=x at*
  have hwi:IntKind.i64.wrap (x:Int)=(x:Int):=IntWalk.i64_in _ (by omega)
  go_enter Tryz.func243,Tryz.ntmps243
  go_wp2_with fail
  refine HD.out.mono ?_
  rintro e w' ⟨rfl,rfl⟩
  go_wp2_with fail
  go_ret2
  exact⟨rfl,rfl⟩
 ·have hx0:d-1≠0:=by omega
  have k1:=(Nat.le_log2 hx0 (k:=2)).2 (by omega)
  have k2:=(Nat.log2_lt hx0 (k:=32)).2 (by omega)
  have e:slotOf d=2*Nat.log2 (d-1)+(d-1)/2^(Nat.log2 (d-1)-1)%2:=by unfold slotOf;rw[if_neg h4]
  have HL:=len_calls (d-1) w (by omega)
  rw[bitLen_log _ hx0 (by omega)] at HL
  have t1:decide (((d-1:Nat):Int)<4)=false:=decide_eq_false (by omega)
  rw[e]
  have HL:=Hd HL
  clear h4 e hx0
  generalize d-1=x at*
  generalize Nat.log2 x=k at*
  obtain⟨j,rfl⟩:∃j,k=j+1:=⟨k-1,by omega⟩
  have ek:((j+1+1:Nat):Int)-2=(j:Int):=by omega
  have ek2:((j+1+1:Nat):Int)-1=(j:Int)+1:=by omega
  have hmin:min j 64=j:=by omega
  obtain⟨b,hb⟩:∃b,b=x/2^j%2:=⟨_,rfl⟩
  have hbb:bits BinOp.and IntKind.u64 ((x:Int)/2^j) 1=(b:Int):=by rw[hb];exact and1_u64 x j
  have hb1:b≤1:=by omega
  have hwb:IntKind.i64.wrap (b:Int)=(b:Int):=IntWalk.i64_in _ (by omega)
  rw[Nat.add_sub_cancel,←hb]
  clear hb
  go_enter Tryz.func243,Tryz.ntmps243
  go_wp2_with fail
  refine HD.out.mono ?_
  rintro e w' ⟨rfl,rfl⟩
  go_wp2_with fail
  refine HL.out.mono ?_
  rintro e w' ⟨rfl,rfl⟩
  go_wp2_with fail
  go_ret2
  exact⟨by congr 1,rfl⟩
end En
namespace Ps
open Mem Win St Fi Pk
theorem slotOf_le(d:Nat)(h1:1≤d)(h2:d≤4294967295):En.slotOf d≤63:=by
 unfold En.slotOf
 split
 ·omega
 ·rename_i h
  have h3:Nat.log2 (d-1)<32:=(Nat.log2_lt (by omega)).2 (by omega)
  omega
theorem length_calls(n:Int)(w:World):Calls Tryz.prog 266 #[.int .i64 n] w fun e w'=>(∃z:Int,e=.returned (.int .i64 z))∧w=w':=by
 by_cases h1:n≤9
 ·go_enter Tryz.func266,Tryz.ntmps266
  go_wp2_with fail
  go_ret
  exact⟨⟨_,rfl⟩,rfl⟩
 ·by_cases h2:n≤17
  ·go_enter Tryz.func266,Tryz.ntmps266
   go_wp2_with fail
   go_ret
   exact⟨⟨_,rfl⟩,rfl⟩
  ·go_enter Tryz.func266,Tryz.ntmps266
   go_wp2_with fail
   go_ret
   exact⟨⟨_,rfl⟩,rfl⟩
theorem match_calls(n d:Nat)(w:World):Calls Tryz.prog 236 #[.int .i64 n,.int .i64 d] w fun e w'=>e=.returned (.agg (Sy.cells ⟨2,0,n,d⟩))∧Fr (fun _=>False) w w':=by
 have hx:=heap_alloc_new w (.cells #[.int .i64 0,.int .u8 0,.int .i64 0,.int .i64 0] 110)
 have hf:=(R0 w).alloc (.cells #[.int .i64 0,.int .u8 0,.int .i64 0,.int .i64 0] 110)
 obtain⟨y0,y1,y2,y3,yf⟩:=cf4 hx rfl rfl rfl rfl
 go_enter Tryz.func236,Tryz.ntmps236
 go_wp2_with fail
 refine bodyPost_ret (v:=.agg #[.int .i64 2,.int .u8 0,.int .i64 n,.int .i64 d]) (by simp[results,Tryz.results236,go_sem]) rfl ?_
 exact⟨rfl,(R0 w).alloc _⟩
set_option maxRecDepth 100000 in
theorem price_calls(n d:Nat)(w:World)(hT:Tabs w)(h2:2≤n)(h273:n≤273)(hd1:1≤d)(hd2:d≤4294967295):
    Calls Tryz.prog 237 #[.agg (Sy.cells ⟨2,0,n,d⟩)] w fun e w'=>(∃a b:Int,e=.returned (.tuple #[.int .i64 a,.int .i64 b]))∧Fr (fun _=>False) w w':=by
  have hy:Sy.Ok ⟨2,0,n,d⟩:=⟨.inr (.inl rfl),fun h=>absurd h (by simp),by simp⟩
  have hso:S.new.Ok:=S.new_ok
  have HN:=fun W(h:Tabs W)=>Hd (next_calls S.new hso ⟨2,0,n,d⟩ hy W h)
  have herr:=S.next_err S.new ⟨2,0,n,d⟩
  generalize S.new.next ⟨2,0,n,d⟩=r at*
  obtain⟨er,rn,ra,rb,rc,rd⟩:=r
  have hx:=heap_alloc_new w (.cells (Sy.cells ⟨2,0,n,d⟩) 110)
  have hf:=(R0 w).alloc (.cells (Sy.cells ⟨2,0,n,d⟩) 110)
  simp only[Sy.cells,S.cells] at hx hf HN ⊢
  have HN2:∀W,Tabs W→Hid (Calls Tryz.prog 126 #[.agg S.new.cells,.agg #[.int .i64 2,.int .u8 0,.int .i64 n,.int .i64 d]] W fun e w'=>e=.returned (.tuple #[.agg #[.int .i64 rn,.int .i64 ra,.int .i64 rb,.int .i64 rc,.int .i64 rd],.int .i64 er])∧Fr (fun _=>False) W w'):=HN
  clear HN
  have HN:=HN2
  have hS:∀w':World,Fr (fun _=>False) (w.alloc (.cells #[.int .i64 2,.int .u8 0,.int .i64 n,.int .i64 d] 110)) w'→w'.cell? ⟨w.heap.size,0,none⟩=some (.int .i64 2)∧w'.cell? ⟨w.heap.size,1,none⟩=some (.int .u8 0)∧w'.cell? ⟨w.heap.size,2,none⟩=some (.int .i64 n)∧w'.cell? ⟨w.heap.size,3,none⟩=some (.int .i64 d):=fun w' h=>
    ⟨cell_in (i:=0) (h.keep hx (fun h=>h)) rfl,cell_in (i:=1) (h.keep hx (fun h=>h)) rfl,cell_in (i:=2) (h.keep hx (fun h=>h)) rfl,cell_in (i:=3) (h.keep hx (fun h=>h)) rfl⟩
  have HT:=Hd (hT.keep hf)
  have HF0:=Hd hf
  have herr':er=0∨er=7:=herr
  clear hx hf hT HN2 hy hso herr
  go_enter Tryz.func237,Tryz.ntmps237
  go_wp2_with fail
  have hfw:Fr (fun _=>False) w (w.alloc (.cells #[.int .i64 2,.int .u8 0,.int .i64 n,.int .i64 d] 110)):=HF0.out
  have HTw:Hid (Tabs (w.alloc (.cells #[.int .i64 2,.int .u8 0,.int .i64 n,.int .i64 d] 110))):=HT
  generalize hb:w.alloc (.cells #[.int .i64 2,.int .u8 0,.int .i64 n,.int .i64 d] 110)=wb at*
  have HFW:=Hd hfw
  have HT:=HTw
  have HS:=Hd hS
  have FC:=Hd (R0 wb).drew
  have HSC:=Hd (hS wb.drew FC.out)
  obtain⟨e0,e1,e2,e3⟩:=HSC.out
  clear hS hb hfw HTw HF0
  go_cut [5] (fun s5 wx=>s5=.int .i64 er∧Fr (fun _=>False) wb wx)
  case first=>
    go_region_held3 (fun w'=>w'.cell? ⟨w.heap.size,0,none⟩=some (.int .i64 2)∧w'.cell? ⟨w.heap.size,1,none⟩=some (.int .u8 0)∧w'.cell? ⟨w.heap.size,2,none⟩=some (.int .i64 n)∧w'.cell? ⟨w.heap.size,3,none⟩=some (.int .i64 d)) (first|with_reducible exact HSC.out|(refine HS.out _ ?_;(repeat refine Fr.setCell ?_ (.inr (by first|exact FC.out.size|exact HY.out)) _);first|exact FC.out|exact FC.out.alloc _)) ((first
      | (go_at_call 34
         first
           | (refine (new_at wb _ FC.out).mono ?_
              rintro e wc ⟨rfl,hfrc⟩
              have FC:=Hd (FC.out.trans hfrc)
              have HSC:=Hd (HS.out _ FC.out)
              obtain⟨e0,e1,e2,e3⟩:=HSC.out
              try (have hz:=hfrc.keep HZ.out (fun h=>h)
                   obtain⟨z0,z1,z2,z3,z4,zf⟩:=cf5 hz rfl rfl rfl rfl rfl
                   have HZ:=Hd hz
                   clear hz)
              clear hfrc)
           | (refine (new_at wb _ (FC.out.alloc _)).mono ?_
              rintro e wc ⟨rfl,hfrc⟩
              have HY:=Hd FC.out.size
              have FC:=Hd ((FC.out.alloc _).trans hfrc)
              have HSC:=Hd (HS.out _ FC.out)
              obtain⟨e0,e1,e2,e3⟩:=HSC.out
              have hz:=hfrc.keep (heap_alloc_new _ _) (fun h=>h)
              try simp only[World.size_drew] at hz
              obtain⟨z0,z1,z2,z3,z4,zf⟩:=cf5 hz rfl rfl rfl rfl rfl
              have HZ:=Hd hz
              clear hz
              clear hfrc))
      | (go_at_call 126
         first
           | (refine (HN _ (HT.out.keep FC.out)).out.mono ?_
              rintro e wc ⟨rfl,hfrc⟩
              have FC:=Hd (FC.out.trans hfrc)
              have HSC:=Hd (HS.out _ FC.out)
              obtain⟨e0,e1,e2,e3⟩:=HSC.out
              try (have hz:=hfrc.keep HZ.out (fun h=>h)
                   obtain⟨z0,z1,z2,z3,z4,zf⟩:=cf5 hz rfl rfl rfl rfl rfl
                   have HZ:=Hd hz
                   clear hz)
              clear hfrc)
           | (refine (HN _ (HT.out.keep (FC.out.alloc _))).out.mono ?_
              rintro e wc ⟨rfl,hfrc⟩
              have HY:=Hd FC.out.size
              have FC:=Hd ((FC.out.alloc _).trans hfrc)
              have HSC:=Hd (HS.out _ FC.out)
              obtain⟨e0,e1,e2,e3⟩:=HSC.out
              have hz:=hfrc.keep (heap_alloc_new _ _) (fun h=>h)
              try simp only[World.size_drew] at hz
              obtain⟨z0,z1,z2,z3,z4,zf⟩:=cf5 hz rfl rfl rfl rfl rfl
              have HZ:=Hd hz
              clear hz
              clear hfrc))))
    all_goals go_wp2_with fail
    all_goals go_meet
    all_goals
      refine⟨rfl,?_⟩
      (repeat refine Fr.setCell ?_ (.inr (by first|exact FC.out.size|exact HY.out)) _)
      first|exact FC.out|exact FC.out.alloc _
  case rest=>
    obtain⟨rfl,hfx⟩:=hcut
    obtain⟨e0,e1,e2,e3⟩:=HS.out _ hfx
    have HFX:=Hd (HFW.out.trans hfx)
    rcases herr' with rfl|rfl
    · have hsl:=slotOf_le d hd1 hd2
      clear hfx
      go_wp2_with ((first
        | (go_at_call 243
           refine(En.slot_calls d _ hd1 hd2).mono ?_
           rintro e wd ⟨rfl,rfl⟩)
        | (go_at_call 244
           refine(St.range_calls _ hsl _).mono ?_
           rintro e wd ⟨rfl,rfl⟩)
        | (go_at_call 266
           refine(length_calls _ _).mono ?_
           rintro e wd ⟨⟨z,rfl⟩,rfl⟩)))
      go_ret2
      exact⟨⟨_,_,rfl⟩,HFX.out⟩
    · clear hfx
      go_wp2_with fail
      go_ret2
      exact⟨⟨_,_,rfl⟩,HFX.out⟩
end Ps
end Go.Proofs.YtffoddpjfgjelaaGreatDoor
