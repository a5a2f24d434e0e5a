/- Lzma2Builds (printed by gen_bholds.py), its second form's tied card: for every dictionary and row of parts of bulk at most 1048576, where the tables are as the text lays them, the law answers true. -/
import Derived.Test.YtlgccpjccopdmaaGreatDoorRows
import Derived.OpenShut
import Derived.JoinedCond
import Derived.Test.YtlgccpjccopdmaaGreatDoorCards
import Derived.Test.YtlgccpjccopdmaaGreatDoorTie
import Derived.Deep.DeepHandedRow
import Derived.Lib.SmallJoins
import Derived.Test.YtlgccpjccopdmaaGreatDoorP01
import Derived.Test.YtlgccpjccopdmaaGreatDoorP29
import Derived.Test.YtlgccpjccopdmaaGreatDoorP30
import Derived.Test.YtlgccpjccopdmaaGreatDoorP53
set_option linter.unusedVariables false
set_option linter.unusedSimpArgs false
set_option maxRecDepth 1500
namespace Go.Proofs.YtlgccpjccopdmaaGreatDoor
open Go.ChangeShapes Go.WideShapes Go.ChangeAt Go.RowKit
namespace Law
open Mem
theorem own:ownKnob Tryz.prog.godebug=none:=by kernel_rfl
theorem laidOut:laidOutB Tryz.prog=true:=by kernel_rfl
section
variable {H:Type}{enc:TypeId×Value→H}{P:Program}
theorem trodAll_stays(hl:laidOutB P=true){W W':World}{sp:Nat→Bool}(hb:Below W.heap.size W W'):
 ∀(ts:List TypeId)(vs:List Value)(ds:List (DataW H))(ps:List MemPlace),(∀t ∈ ts,P.readableRec t=true∧t<P.types.size)→
  DataW.TrodAll enc P W 0 (fun _=>true) true ts vs ds ps→(∀x ∈ ps,x.block<W.heap.size)→(∀x ∈ ps,sp x.block=true)→DataW.TrodAll enc P W' 0 sp true ts vs ds ps
 |[],[],[],_,_,h,_,_=>h
 |t::ts,v::vs,d::ds,_,hr,⟨p,q,h1,h2,rfl⟩,hlt,hsp=>
   ⟨p,q,WideElems.Trod_stays hl (hr t (by simp)).1 (hr t (by simp)).2 h1 (fun x hx=>hb.same (hlt x (by simp[hx]))) (fun x hx=>hsp x (by simp[hx])),
    trodAll_stays hl hb ts vs ds q (fun u hu=>hr u (by simp[hu])) h2 (fun x hx=>hlt x (by simp[hx])) (fun x hx=>hsp x (by simp[hx])),rfl⟩
theorem post_of_below{f:Func}{s:ChangeSpec}{apart fresh handsOn:Bool}{W W':World}{args:Array Value}{v:Value}{ds gs:List (DataW H)}{before pa pv:List MemPlace}
 (hW:DataW.Whole enc P f.params.toList s.vars apart W args.toList ds gs before)
 (hres:∀(b:Nat)(sp:Nat→Bool)(hd:Bool),DataW.TrodAll enc P W' b sp hd f.resultTypes.toList (v.resultList f.resultTypes.size) (s.fn H (ds++gs)).results [])
 (hargs:∀sp:Nat→Bool,(∀p ∈ before,sp p.block=true)→DataW.TrodAll enc P W' 0 sp true f.params.toList args.toList (s.fn H (ds++gs)).args pa)
 (hvars:∀sp:Nat→Bool,(∀p ∈ before,sp p.block=true)→DataW.TrodVars enc P W' sp s.vars (s.fn H (ds++gs)).vars pv)
 (hps:before=pa++pv)(hb:Below W.heap.size W W')
 (hok:∀(j:Nat)(t:TypeId)(r:Value),f.resultTypes[j]? =some t→(v.resultList f.resultTypes.size)[j]? =some r→Value.okWide P W' .any 0 t r):
 s.post enc P f apart fresh handsOn false W args v W':=by
 have hlt:∀p ∈ before,p.block<W.heap.size:=fun p hp=>hW.lt p hp
 have hold:∀p ∈ before,(fun b=>decide (b<W.heap.size)) p.block=true:=fun p hp=>by simpa using hlt p hp
 refine⟨ds,gs,before,[],pa,pv,hW,hres _ _ _,hargs _ hold,hvars _ hold,World.keptBut_mono (fun p hp=>⟨hp,?_⟩) (hb.frame (·∈ before)),fun h=>by cases h⟩
 rw[hps,List.mem_append] at hp
 exact Or.inr hp
theorem law_post{f:Func}{s:ChangeSpec}{fresh handsOn:Bool}{W W':World}{args:Array Value}{ds gs:List (DataW H)}{before:List MemPlace}{tb:TypeId}
 (hl:laidOutB P=true)(hpar:∀t ∈ f.params.toList,P.readableRec t=true∧t<P.types.size)(hvars:s.vars=[])(hrt:f.resultTypes=#[tb])(htb:P.underlying tb=some .bool)
 (hfn:s.fn H ds={results:=[.lit (.bool true)],args:=ds})
 (hW:DataW.Whole enc P f.params.toList s.vars false W args.toList ds gs before)(hb:Below W.heap.size W W'):
 s.post enc P f false fresh handsOn false W args (.bool true) W':=by
 have hW':=hW
 have hlt:∀p ∈ before,p.block<W.heap.size:=fun p hp=>hW.lt p hp
 obtain⟨p,q,hA,hV,rfl,hfz,hnd⟩:=hW
 rw[hvars] at hV
 obtain⟨rfl,rfl⟩:=trodVars_none hV
 simp only[List.append_nil] at hW' hlt
 refine post_of_below (pa:=p) (pv:=[]) hW' ?_ ?_ ?_ (by simp) hb ?_
 ·intro b sp hd
  rw[hrt]
  simp only[List.append_nil,hfn]
  exact trodAll_mk1 (shut_bool htb true)
 ·intro sp hsp
  simp only[List.append_nil,hfn]
  exact trodAll_stays hl hb _ _ _ _ hpar hA hlt hsp
 ·intro sp _
  rw[hvars]
  simp only[List.append_nil,hfn]
  rfl
 ·exact ok_one hrt rfl (okWide_bool_mk htb true)
end
end Law
end Go.Proofs.YtlgccpjccopdmaaGreatDoor
namespace Go.Proofs.YtlgccpjccopdmaaGreatDoor
open Go.ChangeShapes Go.WideShapes Go.ChangeAt Go.RowKit Go.Deep
namespace Lzma2Builds
open Mem Law Opened
theorem cells12:Tryz.prog.cellsOf 247=12:=by kernel_rfl
theorem cells28:Tryz.prog.cellsOf 176=28:=by kernel_rfl
theorem cells7:Tryz.prog.cellsOf 175=7:=by kernel_rfl
theorem cells1:Tryz.prog.cellsOf 3=1:=by kernel_rfl
theorem of_var{W:World}{name:String}{g:Nat}{cs:Array Value}(hg:Tryz.prog.globalNamed name=some g)(h:W.var? Tryz.prog name=some cs):∃T fr,W.heap[g]? =some (.cells cs T fr):=by
 unfold World.var? at h
 rw[hg] at h
 simp only[Option.bind_some] at h
 split at h
 ·rename_i cs T fr hb
  simp only[Option.some.injEq] at h
  subst h
  exact⟨T,fr,hb⟩
 ·cases h
theorem one_tab{W:World}{name:String}{g:Nat}{zs:List Int}{rest:List (String×DataW Unit)}(hg:Tryz.prog.globalNamed name=some g)(hty:(Tryz.prog.globals[g]?).map (·.type)=some 247)
 (h:laidMet Tryz.prog ((name,Lib.tabData .i64 zs)::rest) W):∃T fr,W.heap[g]? =some (.cells (zs.map fun z=>Value.int .i64 z).toArray T fr):=
 of_var hg (Lib.tabIs_of_head hg hty Tryz.underlying247 Tryz.underlying3 cells1 cells12 h)
theorem grid {W : World} {z0 z1 z2 z3 : List Int} {rest : List (String × DataW Unit)} (h : laidMet Tryz.prog (("pith/chunk.moves", .agg [Lib.tabData .i64 z0, Lib.tabData .i64 z1, Lib.tabData .i64 z2, Lib.tabData .i64 z3]) :: rest) W) :
 ∃T fr,W.heap[0]? =some (.cells ((z0++(z1++(z2++z3))).map fun z=>Value.int .i64 z).toArray T fr):=by
 have hg : Tryz.prog.globalNamed "pith/chunk.moves" = some 0 := by kernel_rfl
 have hty:(Tryz.prog.globals[0]?).map (·.type)=some 176:=by kernel_rfl
 obtain⟨ps,⟨g',t',cs,fuel,p,q,hg',ht',hvar,hd,_,_⟩,_⟩:=h
 obtain rfl:=Option.some.inj (hg.symm.trans hg')
 obtain rfl:=Option.some.inj (hty.symm.trans ht')
 refine of_var hg ?_
 rw[hvar,←Laid.cells_of_grid Tryz.underlying176 Tryz.underlying175 Tryz.underlying3 cells1 cells7 cells28 hd]
theorem tabs{W:World}(h:laidMetH Tryz.prog Rows.lzma2BuildsUptoRow.laid W):St.Tabs W∧Ck.Moves W:=by
 have ha:laidMet Tryz.prog Rows.lzma2BuildsUptoRow.laid W:=h
 have h0:=laidMet.tail (laidMet.tail (laidMet.tail ha))
 have h1:=laidMet.tail h0
 have h2:=laidMet.tail h1
 have h3:=laidMet.tail h2
 have h4:=laidMet.tail h3
 exact⟨⟨one_tab (zs:=[0,0,0,0,1,2,3,4,5,6,4,5]) (by kernel_rfl) (by kernel_rfl) h0,one_tab (zs:=[9,9,9,9,9,9,9,11,11,11,11,11]) (by kernel_rfl) (by kernel_rfl) h3,
  one_tab (zs:=[7,7,7,7,7,7,7,10,10,10,10,10]) (by kernel_rfl) (by kernel_rfl) h1,one_tab (zs:=[8,8,8,8,8,8,8,11,11,11,11,11]) (by kernel_rfl) (by kernel_rfl) h2⟩,
  grid (z0:=[3,1,4,4,4,4,2]) (z1:=[3,1,1,4,4,2,2]) (z2:=[3,1,2,2,2,2,2]) (z3:=[4,4,4,4,4,4,4]) h4⟩
set_option maxRecDepth 100000 in
theorem contract(H:Type)(enc:TypeId×Value→H)(W:World)(base:Nat)(args:Array Value)(ds gs:List (DataW H))(before:List MemPlace)
 (hval:∀(j:Nat) t v,Tryz.f5.params[j]? =some t→args[j]? =some v→Value.okWide Tryz.prog W .any base t v)
 (hW:DataW.Whole enc Tryz.prog Tryz.f5.params.toList Rows.lzma2BuildsSpec.vars false W args.toList ds gs before)(hk:Rows.uptoSmall H (ds++gs)=true)(hL:laidMetH Tryz.prog Rows.lzma2BuildsUptoRow.laid W):
 Calls Tryz.prog 5 args W fun e W'=>∃v,e=.returned v∧Rows.lzma2BuildsSpec.post enc Tryz.prog Tryz.f5 false true false false W args v W':=by
 have hW':=hW
 obtain⟨p,q,hA0,hV,rfl,hfz,hnd⟩:=hW
 have hA:DataW.TrodAll enc Tryz.prog W 0 (fun _=>true) true Tryz.f5.params.toList args.toList ds p:=hA0
 rw[Tryz.params5] at hA hval
 obtain⟨v0,vs0,d0,ds0,p0,q0,hargs,rfl,rfl,h0,r0⟩:=trodAll_cons hA
 obtain⟨v1,vs1,d1,ds1,p1,q1,rfl,rfl,rfl,h1,r1⟩:=trodAll_cons r0
 obtain⟨rfl,rfl,rfl⟩:=trodAll_nil r1
 obtain rfl:args=#[v0,v1]:=by cases args;simp_all
 obtain⟨dict,rfl⟩:=okWide_int Tryz.underlying3 (hval 0 3 v0 rfl rfl)
 obtain⟨a1,l1,c1,rfl⟩:=okWide_slice Tryz.underlying49 (hval 1 49 v1 rfl rfl)
 obtain⟨fu1,t1⟩:=h1
 obtain⟨l,hl,hwf,hcost⟩:=open_parts (v:=.slice a1 l1 c1) Tryz.underlying49 Tryz.underlying108 (by kernel_rfl) ⟨rfl,by kernel_rfl⟩ ⟨rfl,by kernel_rfl⟩ ⟨rfl,by kernel_rfl⟩ ⟨rfl,by kernel_rfl⟩ Tryz.underlying3 Tryz.underlying24 ⟨rfl,by kernel_rfl,Tryz.underlying3⟩ ⟨rfl,by kernel_rfl,Tryz.underlying3⟩ ⟨rfl,by kernel_rfl,Tryz.underlying3⟩
  Tryz.underlying63 Tryz.underlying96 (by kernel_rfl) (by kernel_rfl) Tryz.underlying3 Tryz.underlying5 Tryz.underlying3 Tryz.underlying3 Tryz.underlying22 Tryz.underlying5 (by kernel_rfl) t1
 have hbk:=Bulk.bound hk
 simp only[List.cons_append,List.nil_append,Rows.uptoBulkAll] at hbk
 have hc0:En.costs l≤11534336:=by
  have h1:En.costs l<11*Rows.uptoBulk d1:=hcost
  omega
 refine(Qm.builds_calls dict l _ W (tabs hL).1 (tabs hL).2 hl hwf hc0).mono fun e W' ⟨he,hfr⟩=> ?_
 exact⟨_,he,law_post (tb:=4) laidOut (by decide+kernel) rfl rfl Tryz.underlying4 rfl hW' (hfr.below (fun _ _ h=>h))⟩
noncomputable def setTab (g:Nat)(row:Array Value)(w:World):World:=
 {w with heap:=w.heap.modify g fun
  |.cells _ t frozen=>.cells row t frozen
  |o=>o}
noncomputable def world0 (os:Os):World:=
 setTab 6 #[.int .u8 0,.int .u8 1,.int .u8 28,.int .u8 2,.int .u8 29,.int .u8 14,.int .u8 24,.int .u8 3,.int .u8 30,.int .u8 22,.int .u8 20,.int .u8 15,.int .u8 25,.int .u8 17,.int .u8 4,.int .u8 8,.int .u8 31,.int .u8 27,.int .u8 13,.int .u8 23,.int .u8 21,.int .u8 19,.int .u8 16,.int .u8 7,.int .u8 26,.int .u8 12,.int .u8 18,.int .u8 6,.int .u8 11,.int .u8 5,.int .u8 10,.int .u8 9] (setTab 7 #[.int .u8 0,.int .u8 1,.int .u8 56,.int .u8 2,.int .u8 57,.int .u8 49,.int .u8 28,.int .u8 3,.int .u8 61,.int .u8 58,.int .u8 42,.int .u8 50,.int .u8 38,.int .u8 29,.int .u8 17,.int .u8 4,.int .u8 62,.int .u8 47,.int .u8 59,.int .u8 36,.int .u8 45,.int .u8 43,.int .u8 51,.int .u8 22,.int .u8 53,.int .u8 39,.int .u8 33,.int .u8 30,.int .u8 24,.int .u8 18,.int .u8 12,.int .u8 5,.int .u8 63,.int .u8 55,.int .u8 48,.int .u8 27,.int .u8 60,.int .u8 41,.int .u8 37,.int .u8 16,.int .u8 46,.int .u8 35,.int .u8 44,.int .u8 21,.int .u8 52,.int .u8 32,.int .u8 23,.int .u8 11,.int .u8 54,.int .u8 26,.int .u8 40,.int .u8 15,.int .u8 34,.int .u8 20,.int .u8 31,.int .u8 10,.int .u8 25,.int .u8 14,.int .u8 19,.int .u8 9,.int .u8 13,.int .u8 8,.int .u8 7,.int .u8 6] (setTab 5 #[.int .u64 1,.int .u64 10,.int .u64 100,.int .u64 1000,.int .u64 10000,.int .u64 100000,.int .u64 1000000,.int .u64 10000000,.int .u64 100000000,.int .u64 1000000000,.int .u64 10000000000,.int .u64 100000000000,.int .u64 1000000000000,.int .u64 10000000000000,.int .u64 100000000000000,.int .u64 1000000000000000,.int .u64 10000000000000000,.int .u64 100000000000000000,.int .u64 1000000000000000000,.int .u64 10000000000000000000] (World.holding Tryz.prog os ⟨#[],#[],[]⟩)))
noncomputable def laidWorld (os:Os):World:=
 setTab 0 (St.rowOf Ck.movesL) (setTab 1 (St.rowOf St.litL) (setTab 2 (St.rowOf St.shortL) (setTab 3 (St.rowOf St.matchL) (setTab 4 (St.rowOf St.repL) (world0 os)))))
theorem laid_met(os:Os):laidMet Tryz.prog Rows.lzma2BuildsUptoRow.laid ((laidWorld os).forCall (fun _ _=>0) ⟨#[],#[.int .i64 0,.slice none 0 0],[]⟩).memory:=
 laidMet_of_run' 8 (by kernel_rfl) (by kernel_rfl)
theorem reads(os:Os){H:Type}(enc:TypeId×Value→H):∃places,DataW.whole enc Tryz.prog ((laidWorld os).forCall (fun _ _=>0) ⟨#[],#[.int .i64 0,.slice none 0 0],[]⟩).memory Tryz.f5.params.toList Rows.lzma2BuildsSpec.vars false #[.int .i64 0,.slice none 0 0].toList 8=some ([.lit (.int .i64 0),.nil],[],places):=
 ⟨[],by kernel_rfl⟩
set_option maxRecDepth 100000 in
theorem lifted(os:Os)(started:os.Started)(H:Type)(enc:TypeId×Value→H)(F:Stop.Interp):
 ReturnsInHanded {} Tryz.checked os 5 .any ((Rows.OpenSpec.upto Rows.lzma2BuildsSpec).preRow enc Tryz.prog Tryz.f5 Rows.lzma2BuildsUptoRow.domain false Rows.lzma2BuildsUptoRow.laid) (((Rows.OpenSpec.upto Rows.lzma2BuildsSpec).at F).post enc Tryz.prog Tryz.f5 false true false false):=by
 obtain⟨places,hx⟩:=reads os enc
 refine returnsInHanded_of_row (C:=Tryz.checked) (s:=Rows.OpenSpec.upto Rows.lzma2BuildsSpec) own started (by kernel_rfl) Tryz.func5
  (witness_row_at (enc:=enc) (C:=Tryz.checked) false (laidWorld os) #[.int .i64 0,.slice none 0 0] rfl (by kernel_rfl) (by kernel_rfl) (by kernel_rfl)
    (OpenSpec.preRow_of_cond 8 hx (by kernel_rfl) (fun k hk=>by cases hk;kernel_rfl) (by kernel_rfl) (laid_met os))) ?_
 intro W base args ds gs before hval hW a1 hcond a3 hL a5 a6
 exact contract H enc W base args ds gs before hval hW (hcond _ rfl) hL
theorem said:Rows.Lzma2BuildsUptoSaid:=
 OpenClaim.holds_of_cond 5 Tryz.f5 rfl rfl rfl rfl rfl rfl rfl ⟨rfl,rfl,rfl,rfl,rfl⟩ rfl rfl rfl rfl rfl (by kernel_rfl) Tryz.func5 (by kernel_rfl)
  (of_decide_eq_true (by kernel_rfl)) (by unfold Func.isWrapper;first|(rw[if_pos (by decide+kernel)];kernel_rfl)|(rw[if_neg (by decide+kernel)];exact⟨rfl,rfl⟩))
  (fun os started H enc _ F=>by rw[OpenClaim.pre_eq_preRow];exact lifted os started H enc F)
theorem plain (f : FuncId) (fn : Func) (hf : Tryz.pinned.checked.prog.funcNamed "pith/pithlaw18.Lzma2Builds" = some f) (hfn : Tryz.pinned.checked.prog.funcs[f]? = some fn) :
 true=Tryz.pinned.checked.prog.looks []∧∀(j:Nat) t,fn.params[j]? =some t→Tryz.pinned.checked.prog.wantsStandIn t=false:=by
 obtain rfl : f = 5 := Option.some.inj ((show Tryz.prog.funcNamed "pith/pithlaw18.Lzma2Builds" = some 5 by kernel_rfl).symm.trans hf) |>.symm
 obtain rfl:fn=Tryz.f5:=(Option.some.inj (Tryz.func5.symm.trans hfn)).symm
 refine⟨by kernel_rfl,fun j t ht=> ?_⟩
 rw[Tryz.params5] at ht
 have hm:=Array.mem_of_getElem? ht
 simp only[List.mem_toArray,List.mem_cons,List.not_mem_nil,or_false] at hm
 rcases hm with rfl|rfl
 ·exact(show Tryz.prog.wantsStandIn 3=false by kernel_rfl)
 ·exact(show Tryz.prog.wantsStandIn 49=false by kernel_rfl)
theorem card:Rows.Lzma2BuildsUptoCardSaid:=
 Claim7.holds_tied_plain_at .later [] _ _ _ _ said (fun _ h=>by cases h) (by kernel_rfl) (fun _ h=>by cases h) lzma2BuildsUpto_row_tie rfl ⟨rfl,rfl⟩ (by kernel_rfl) rfl plain (by kernel_rfl)
end Lzma2Builds
end Go.Proofs.YtlgccpjccopdmaaGreatDoor
