/- Lzma2Parts, its second form's tied card: for every dictionary, row of parts, greater dictionary and bytes behind, of bulk at most 1048576, where the tables are as the text lays them, the law answers true. -/
import Derived.Test.YtlgccpjccopdmaaGreatDoorRows
import Derived.OpenShut
import Derived.JoinedCond
import Derived.Test.YtlgccpjccopdmaaGreatDoorCards
import Derived.Test.YtlgccpjccopdmaaGreatDoorTie
import Derived.Deep.DeepHandedRow
import Derived.Lib.SmallJoins
import Derived.Test.YtlgccpjccopdmaaGreatDoorP01
import Derived.Test.YtlgccpjccopdmaaGreatDoorP43
import Derived.Test.YtlgccpjccopdmaaGreatDoorP44
import Derived.Test.YtlgccpjccopdmaaGreatDoorP52
set_option linter.unusedVariables false
set_option linter.unusedSimpArgs false
set_option maxRecDepth 1500
namespace Go.Proofs.YtlgccpjccopdmaaGreatDoor
open Go.ChangeShapes Go.WideShapes Go.ChangeAt Go.RowKit
namespace Law
open Mem
theorem own:ownKnob Tryz.prog.godebug=none:=by kernel_rfl
theorem laidOut:laidOutB Tryz.prog=true:=by kernel_rfl
section
variable {H:Type}{enc:TypeId×Value→H}{P:Program}
theorem trodAll_stays(hl:laidOutB P=true){W W':World}{sp:Nat→Bool}(hb:Below W.heap.size W W'):
 ∀(ts:List TypeId)(vs:List Value)(ds:List (DataW H))(ps:List MemPlace),(∀t ∈ ts,P.readableRec t=true∧t<P.types.size)→
  DataW.TrodAll enc P W 0 (fun _=>true) true ts vs ds ps→(∀x ∈ ps,x.block<W.heap.size)→(∀x ∈ ps,sp x.block=true)→DataW.TrodAll enc P W' 0 sp true ts vs ds ps
 |[],[],[],_,_,h,_,_=>h
 |t::ts,v::vs,d::ds,_,hr,⟨p,q,h1,h2,rfl⟩,hlt,hsp=>
   ⟨p,q,WideElems.Trod_stays hl (hr t (by simp)).1 (hr t (by simp)).2 h1 (fun x hx=>hb.same (hlt x (by simp[hx]))) (fun x hx=>hsp x (by simp[hx])),
    trodAll_stays hl hb ts vs ds q (fun u hu=>hr u (by simp[hu])) h2 (fun x hx=>hlt x (by simp[hx])) (fun x hx=>hsp x (by simp[hx])),rfl⟩
theorem post_of_below{f:Func}{s:ChangeSpec}{apart fresh handsOn:Bool}{W W':World}{args:Array Value}{v:Value}{ds gs:List (DataW H)}{before pa pv:List MemPlace}
 (hW:DataW.Whole enc P f.params.toList s.vars apart W args.toList ds gs before)
 (hres:∀(b:Nat)(sp:Nat→Bool)(hd:Bool),DataW.TrodAll enc P W' b sp hd f.resultTypes.toList (v.resultList f.resultTypes.size) (s.fn H (ds++gs)).results [])
 (hargs:∀sp:Nat→Bool,(∀p ∈ before,sp p.block=true)→DataW.TrodAll enc P W' 0 sp true f.params.toList args.toList (s.fn H (ds++gs)).args pa)
 (hvars:∀sp:Nat→Bool,(∀p ∈ before,sp p.block=true)→DataW.TrodVars enc P W' sp s.vars (s.fn H (ds++gs)).vars pv)
 (hps:before=pa++pv)(hb:Below W.heap.size W W')
 (hok:∀(j:Nat)(t:TypeId)(r:Value),f.resultTypes[j]? =some t→(v.resultList f.resultTypes.size)[j]? =some r→Value.okWide P W' .any 0 t r):
 s.post enc P f apart fresh handsOn false W args v W':=by
 have hlt:∀p ∈ before,p.block<W.heap.size:=fun p hp=>hW.lt p hp
 have hold:∀p ∈ before,(fun b=>decide (b<W.heap.size)) p.block=true:=fun p hp=>by simpa using hlt p hp
 refine⟨ds,gs,before,[],pa,pv,hW,hres _ _ _,hargs _ hold,hvars _ hold,World.keptBut_mono (fun p hp=>⟨hp,?_⟩) (hb.frame (·∈ before)),fun h=>by cases h⟩
 rw[hps,List.mem_append] at hp
 exact Or.inr hp
theorem law_post{f:Func}{s:ChangeSpec}{fresh handsOn:Bool}{W W':World}{args:Array Value}{ds gs:List (DataW H)}{before:List MemPlace}{tb:TypeId}
 (hl:laidOutB P=true)(hpar:∀t ∈ f.params.toList,P.readableRec t=true∧t<P.types.size)(hvars:s.vars=[])(hrt:f.resultTypes=#[tb])(htb:P.underlying tb=some .bool)
 (hfn:s.fn H ds={results:=[.lit (.bool true)],args:=ds})
 (hW:DataW.Whole enc P f.params.toList s.vars false W args.toList ds gs before)(hb:Below W.heap.size W W'):
 s.post enc P f false fresh handsOn false W args (.bool true) W':=by
 have hW':=hW
 have hlt:∀p ∈ before,p.block<W.heap.size:=fun p hp=>hW.lt p hp
 obtain⟨p,q,hA,hV,rfl,hfz,hnd⟩:=hW
 rw[hvars] at hV
 obtain⟨rfl,rfl⟩:=trodVars_none hV
 simp only[List.append_nil] at hW' hlt
 refine post_of_below (pa:=p) (pv:=[]) hW' ?_ ?_ ?_ (by simp) hb ?_
 ·intro b sp hd
  rw[hrt]
  simp only[List.append_nil,hfn]
  exact trodAll_mk1 (shut_bool htb true)
 ·intro sp hsp
  simp only[List.append_nil,hfn]
  exact trodAll_stays hl hb _ _ _ _ hpar hA hlt hsp
 ·intro sp _
  rw[hvars]
  simp only[List.append_nil,hfn]
  rfl
 ·exact ok_one hrt rfl (okWide_bool_mk htb true)
end
end Law
end Go.Proofs.YtlgccpjccopdmaaGreatDoor
namespace Go.Proofs.YtlgccpjccopdmaaGreatDoor
open Go.ChangeShapes Go.WideShapes Go.ChangeAt Go.RowKit Go.Deep
namespace Lzma2Parts
open Mem Law Opened
theorem cells12:Tryz.prog.cellsOf 247=12:=by kernel_rfl
theorem cells28:Tryz.prog.cellsOf 176=28:=by kernel_rfl
theorem cells7:Tryz.prog.cellsOf 175=7:=by kernel_rfl
theorem cells1:Tryz.prog.cellsOf 3=1:=by kernel_rfl
theorem of_var{W:World}{name:String}{g:Nat}{cs:Array Value}(hg:Tryz.prog.globalNamed name=some g)(h:W.var? Tryz.prog name=some cs):∃T fr,W.heap[g]? =some (.cells cs T fr):=by
 unfold World.var? at h
 rw[hg] at h
 simp only[Option.bind_some] at h
 split at h
 ·rename_i cs T fr hb
  simp only[Option.some.injEq] at h
  subst h
  exact⟨T,fr,hb⟩
 ·cases h
theorem one_tab{W:World}{name:String}{g:Nat}{zs:List Int}{rest:List (String×DataW Unit)}(hg:Tryz.prog.globalNamed name=some g)(hty:(Tryz.prog.globals[g]?).map (·.type)=some 247)
 (h:laidMet Tryz.prog ((name,Lib.tabData .i64 zs)::rest) W):∃T fr,W.heap[g]? =some (.cells (zs.map fun z=>Value.int .i64 z).toArray T fr):=
 of_var hg (Lib.tabIs_of_head hg hty Tryz.underlying247 Tryz.underlying3 cells1 cells12 h)
theorem grid {W : World} {z0 z1 z2 z3 : List Int} {rest : List (String × DataW Unit)} (h : laidMet Tryz.prog (("pith/chunk.moves", .agg [Lib.tabData .i64 z0, Lib.tabData .i64 z1, Lib.tabData .i64 z2, Lib.tabData .i64 z3]) :: rest) W) :
 ∃T fr,W.heap[0]? =some (.cells ((z0++(z1++(z2++z3))).map fun z=>Value.int .i64 z).toArray T fr):=by
 have hg : Tryz.prog.globalNamed "pith/chunk.moves" = some 0 := by kernel_rfl
 have hty:(Tryz.prog.globals[0]?).map (·.type)=some 176:=by kernel_rfl
 obtain⟨ps,⟨g',t',cs,fuel,p,q,hg',ht',hvar,hd,_,_⟩,_⟩:=h
 obtain rfl:=Option.some.inj (hg.symm.trans hg')
 obtain rfl:=Option.some.inj (hty.symm.trans ht')
 refine of_var hg ?_
 rw[hvar,←Laid.cells_of_grid Tryz.underlying176 Tryz.underlying175 Tryz.underlying3 cells1 cells7 cells28 hd]
theorem tabs{W:World}(h:laidMetH Tryz.prog Rows.lzma2PartsUptoRow.laid W):St.Tabs W∧Ck.Moves W:=by
 have h0:laidMet Tryz.prog Rows.lzma2PartsUptoRow.laid W:=h
 have h1:=laidMet.tail h0
 have h2:=laidMet.tail h1
 have h3:=laidMet.tail h2
 have h4:=laidMet.tail h3
 exact⟨⟨one_tab (zs:=[0,0,0,0,1,2,3,4,5,6,4,5]) (by kernel_rfl) (by kernel_rfl) h0,one_tab (zs:=[9,9,9,9,9,9,9,11,11,11,11,11]) (by kernel_rfl) (by kernel_rfl) h3,
  one_tab (zs:=[7,7,7,7,7,7,7,10,10,10,10,10]) (by kernel_rfl) (by kernel_rfl) h1,one_tab (zs:=[8,8,8,8,8,8,8,11,11,11,11,11]) (by kernel_rfl) (by kernel_rfl) h2⟩,
  grid (z0:=[3,1,4,4,4,4,2]) (z1:=[3,1,1,4,4,2,2]) (z2:=[3,1,2,2,2,2,2]) (z3:=[4,4,4,4,4,4,4]) h4⟩
theorem array4{α:Type}{cs:Array α}(h:cs.size=4):∃c0 c1 c2 c3,cs=#[c0,c1,c2,c3]:=by
 obtain⟨l⟩:=cs
 match l,h with
 |[c0,c1,c2,c3],_=>exact⟨c0,c1,c2,c3,rfl⟩
section
variable {H:Type}{enc:TypeId×Value→H}{P:Program}{w:World}{base:Nat}{spare:Nat→Bool}{held:Bool}
theorem field_of{t:TypeId}{fs:Array Field}{fuel:Nat}{cs:List Value}{x:DataW H×List MemPlace}(ht:P.underlying t=some (.struct fs))(h:DataW.trod enc P w base spare held fuel t cs=some x)
 (i:Nat)(f:Field)(hf:fs[i]? =some f)(hc:P.cellsOf f.type=1):∃n y,DataW.trod enc P w base spare held n f.type ((cs.drop f.offset).take 1)=some y∧Rows.uptoBulk y.1≤Rows.uptoBulk x.1:=by
 obtain⟨ys,n,_,hx,_,hl,hy⟩:=DataW.trod_struct ht h
 have h1:=hy i f hf
 rw[hc] at h1
 have hi:i<ys.length:=by rw[hl];exact(Array.getElem?_eq_some_iff.1 hf).1
 rw[List.getElem?_eq_getElem hi] at h1
 refine⟨n,_,h1,?_⟩
 have hmem:(ys[i]).1 ∈ ys.map (·.1):=List.mem_map_of_mem (List.getElem_mem hi)
 have hle:=Bulk.part_le hmem
 rw[hx]
 simp only[Rows.uptoBulk]
 omega
end
set_option maxRecDepth 100000 in
theorem contract(H:Type)(enc:TypeId×Value→H)(W:World)(base:Nat)(args:Array Value)(ds gs:List (DataW H))(before:List MemPlace)
 (hval:∀(j:Nat) t v,Tryz.f6.params[j]? =some t→args[j]? =some v→Value.okWide Tryz.prog W .any base t v)
 (hW:DataW.Whole enc Tryz.prog Tryz.f6.params.toList Rows.lzma2PartsSpec.vars false W args.toList ds gs before)(hk:Rows.uptoSmall H (ds++gs)=true)(hL:laidMetH Tryz.prog Rows.lzma2PartsUptoRow.laid W):
 Calls Tryz.prog 6 args W fun e W'=>∃v,e=.returned v∧Rows.lzma2PartsSpec.post enc Tryz.prog Tryz.f6 false true false false W args v W':=by
 have hW':=hW
 obtain⟨p,q,hA0,hV,rfl,hfz,hnd⟩:=hW
 have hA:DataW.TrodAll enc Tryz.prog W 0 (fun _=>true) true Tryz.f6.params.toList args.toList ds p:=hA0
 rw[Tryz.params6] at hA hval
 obtain⟨v0,vs0,d0,ds0,p0,q0,hargs,rfl,rfl,h0,r0⟩:=trodAll_cons hA
 obtain⟨rfl,rfl,rfl⟩:=trodAll_nil r0
 obtain rfl:args=#[v0]:=by cases args;simp_all
 obtain⟨cs,rfl,hsz⟩:=okWide_struct Tryz.underlying56 (hval 0 56 v0 rfl rfl)
 obtain⟨e0,e1,e2,e3,rfl⟩:=array4 (hsz.trans (by kernel_rfl))
 obtain⟨fu,t0⟩:=h0
 obtain⟨n0,y0,g0,_⟩:=field_of Tryz.underlying56 t0 0 _ rfl (by kernel_rfl)
 obtain⟨n1,y1,g1,b1⟩:=field_of Tryz.underlying56 t0 1 _ rfl (by kernel_rfl)
 obtain⟨n2,y2,g2,_⟩:=field_of Tryz.underlying56 t0 2 _ rfl (by kernel_rfl)
 obtain⟨n3,y3,g3,b3⟩:=field_of Tryz.underlying56 t0 3 _ rfl (by kernel_rfl)
 obtain⟨dict,rfl,hwd⟩:=trod_int_cell (v:=e0) Tryz.underlying3 g0
 obtain⟨l,hl,hwf,hcost⟩:=open_parts (v:=e1) Tryz.underlying49 Tryz.underlying108 (by kernel_rfl) ⟨rfl,by kernel_rfl⟩ ⟨rfl,by kernel_rfl⟩ ⟨rfl,by kernel_rfl⟩ ⟨rfl,by kernel_rfl⟩ Tryz.underlying3 Tryz.underlying24 ⟨rfl,by kernel_rfl,Tryz.underlying3⟩ ⟨rfl,by kernel_rfl,Tryz.underlying3⟩ ⟨rfl,by kernel_rfl,Tryz.underlying3⟩
  Tryz.underlying63 Tryz.underlying96 (by kernel_rfl) (by kernel_rfl) Tryz.underlying3 Tryz.underlying5 Tryz.underlying3 Tryz.underlying3 Tryz.underlying22 Tryz.underlying5 (by kernel_rfl) g1
 obtain⟨more,rfl,hwm⟩:=trod_int_cell (v:=e2) Tryz.underlying3 g2
 obtain⟨behind,hr,hbl⟩:=open_bytes (v:=e3) Tryz.underlying22 Tryz.underlying5 (by kernel_rfl) g3
 have hbk:=Bulk.bound hk
 simp only[List.cons_append,List.nil_append,Rows.uptoBulkAll] at hbk
 have hc0:En.costs l≤11534336:=by
  have h1:En.costs l<11*Rows.uptoBulk y1.1:=hcost
  have h2:Rows.uptoBulk y1.1≤Rows.uptoBulk d0:=b1
  omega
 have hb0:behind.length≤1048576:=by
  have h1:behind.length<Rows.uptoBulk y3.1:=hbl
  have h2:Rows.uptoBulk y3.1≤Rows.uptoBulk d0:=b3
  omega
 refine(Pa.law_calls e1 e3 dict more l behind W (tabs hL).1 (tabs hL).2 hl hwf hr hc0 hb0).mono fun e W' ⟨he,hfr⟩=> ?_
 exact⟨_,he,law_post (tb:=4) laidOut (by decide+kernel) rfl rfl Tryz.underlying4 rfl hW' (hfr.below (fun _ _ h=>h))⟩
noncomputable def setTab (g:Nat)(row:Array Value)(w:World):World:=
 {w with heap:=w.heap.modify g fun
  |.cells _ t frozen=>.cells row t frozen
  |o=>o}
noncomputable def laidWorld (os:Os):World:=
 setTab 0 (St.rowOf Ck.movesL) (setTab 1 (St.rowOf St.litL) (setTab 2 (St.rowOf St.shortL) (setTab 3 (St.rowOf St.matchL) (setTab 4 (St.rowOf St.repL) (World.holding Tryz.prog os ⟨#[],#[],[]⟩)))))
abbrev arg0:Value:=.agg #[.int .i64 0,.slice none 0 0,.int .i64 0,.slice none 0 0]
theorem laid_met(os:Os):laidMet Tryz.prog Rows.lzma2PartsUptoRow.laid ((laidWorld os).forCall (fun _ _=>0) ⟨#[],#[arg0],[]⟩).memory:=
 laidMet_of_run' 8 (by kernel_rfl) (by kernel_rfl)
theorem reads(os:Os){H:Type}(enc:TypeId×Value→H):∃places,DataW.whole enc Tryz.prog ((laidWorld os).forCall (fun _ _=>0) ⟨#[],#[arg0],[]⟩).memory Tryz.f6.params.toList Rows.lzma2PartsSpec.vars false #[arg0].toList 8=some ([.agg [.lit (.int .i64 0),.nil,.lit (.int .i64 0),.nil]],[],places):=
 ⟨[],by kernel_rfl⟩
set_option maxRecDepth 100000 in
theorem lifted(os:Os)(started:os.Started)(H:Type)(enc:TypeId×Value→H)(F:Stop.Interp):
 ReturnsInHanded {} Tryz.checked os 6 .any ((Rows.OpenSpec.upto Rows.lzma2PartsSpec).preRow enc Tryz.prog Tryz.f6 Rows.lzma2PartsUptoRow.domain false Rows.lzma2PartsUptoRow.laid) (((Rows.OpenSpec.upto Rows.lzma2PartsSpec).at F).post enc Tryz.prog Tryz.f6 false true false false):=by
 obtain⟨places,hx⟩:=reads os enc
 refine returnsInHanded_of_row (C:=Tryz.checked) (s:=Rows.OpenSpec.upto Rows.lzma2PartsSpec) own started (by kernel_rfl) Tryz.func6
  (witness_row_at (enc:=enc) (C:=Tryz.checked) false (laidWorld os) #[arg0] rfl (by kernel_rfl) (by kernel_rfl) (by kernel_rfl)
    (OpenSpec.preRow_of_cond 8 hx (by kernel_rfl) (fun k hk=>by cases hk;kernel_rfl) (by kernel_rfl) (laid_met os))) ?_
 intro W base args ds gs before hval hW a1 hcond a3 hL a5 a6
 exact contract H enc W base args ds gs before hval hW (hcond _ rfl) hL
theorem said:Rows.Lzma2PartsUptoSaid:=
 OpenClaim.holds_of_cond 6 Tryz.f6 rfl rfl rfl rfl rfl rfl rfl ⟨rfl,rfl,rfl,rfl,rfl⟩ rfl rfl rfl rfl rfl (by kernel_rfl) Tryz.func6 (by kernel_rfl)
  (of_decide_eq_true (by kernel_rfl)) (by unfold Func.isWrapper;first|(rw[if_pos (by decide+kernel)];kernel_rfl)|(rw[if_neg (by decide+kernel)];exact⟨rfl,rfl⟩))
  (fun os started H enc _ F=>by rw[OpenClaim.pre_eq_preRow];exact lifted os started H enc F)
theorem plain (f : FuncId) (fn : Func) (hf : Tryz.pinned.checked.prog.funcNamed "pith/pithlaw18.Lzma2Parts" = some f) (hfn : Tryz.pinned.checked.prog.funcs[f]? = some fn) :
 true=Tryz.pinned.checked.prog.looks []∧∀(j:Nat) t,fn.params[j]? =some t→Tryz.pinned.checked.prog.wantsStandIn t=false:=by
 obtain rfl : f = 6 := Option.some.inj ((show Tryz.prog.funcNamed "pith/pithlaw18.Lzma2Parts" = some 6 by kernel_rfl).symm.trans hf) |>.symm
 obtain rfl:fn=Tryz.f6:=(Option.some.inj (Tryz.func6.symm.trans hfn)).symm
 refine⟨by kernel_rfl,fun j t ht=> ?_⟩
 rw[Tryz.params6] at ht
 have hm:=Array.mem_of_getElem? ht
 simp only[List.mem_toArray,List.mem_cons,List.not_mem_nil,or_false] at hm
 rcases hm with rfl
 exact(show Tryz.prog.wantsStandIn 56=false by kernel_rfl)
theorem card:Rows.Lzma2PartsUptoCardSaid:=
 Claim7.holds_tied_plain_at .later [] _ _ _ _ said (fun _ h=>by cases h) (by kernel_rfl) (fun _ h=>by cases h) lzma2PartsUpto_row_tie rfl ⟨rfl,rfl⟩ (by kernel_rfl) rfl plain (by kernel_rfl)
end Lzma2Parts
end Go.Proofs.YtlgccpjccopdmaaGreatDoor
