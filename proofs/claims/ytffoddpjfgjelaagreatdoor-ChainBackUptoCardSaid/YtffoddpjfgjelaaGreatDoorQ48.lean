/- ChainBack, its second form's tied card: for all data, every configuration and bytes behind of bulk at most 1048576, where the tables are as the text lays them, the law answers true. -/
import Derived.Test.YtffoddpjfgjelaaGreatDoorRows
import Derived.OpenShut
import Derived.JoinedCond
import Derived.Test.YtffoddpjfgjelaaGreatDoorCards
import Derived.Test.YtffoddpjfgjelaaGreatDoorTie
import Derived.Deep.DeepHandedRow
import Derived.Lib.SmallJoins
import Derived.Test.YtffoddpjfgjelaaGreatDoorQ01
import Derived.Test.YtffoddpjfgjelaaGreatDoorQ04
import Derived.Test.YtffoddpjfgjelaaGreatDoorQ05
import Derived.Test.YtffoddpjfgjelaaGreatDoorQ22
import Derived.Test.YtffoddpjfgjelaaGreatDoorQ35
import Derived.Test.YtffoddpjfgjelaaGreatDoorQ47
set_option linter.unusedVariables false
set_option linter.unusedSimpArgs false
set_option maxRecDepth 1500
namespace Go.Proofs.YtffoddpjfgjelaaGreatDoor
open Go.ChangeShapes Go.WideShapes Go.ChangeAt Go.RowKit
namespace Law
open Mem
theorem own:ownKnob Tryz.prog.godebug=none:=by kernel_rfl
theorem laidOut:laidOutB Tryz.prog=true:=by kernel_rfl
section
variable {H:Type}{enc:TypeId×Value→H}{P:Program}
theorem trodAll_stays(hl:laidOutB P=true){W W':World}{sp:Nat→Bool}(hb:Below W.heap.size W W'):
 ∀(ts:List TypeId)(vs:List Value)(ds:List (DataW H))(ps:List MemPlace),(∀t ∈ ts,P.readableRec t=true∧t<P.types.size)→
  DataW.TrodAll enc P W 0 (fun _=>true) true ts vs ds ps→(∀x ∈ ps,x.block<W.heap.size)→(∀x ∈ ps,sp x.block=true)→DataW.TrodAll enc P W' 0 sp true ts vs ds ps
 |[],[],[],_,_,h,_,_=>h
 |t::ts,v::vs,d::ds,_,hr,⟨p,q,h1,h2,rfl⟩,hlt,hsp=>
   ⟨p,q,WideElems.Trod_stays hl (hr t (by simp)).1 (hr t (by simp)).2 h1 (fun x hx=>hb.same (hlt x (by simp[hx]))) (fun x hx=>hsp x (by simp[hx])),
    trodAll_stays hl hb ts vs ds q (fun u hu=>hr u (by simp[hu])) h2 (fun x hx=>hlt x (by simp[hx])) (fun x hx=>hsp x (by simp[hx])),rfl⟩
theorem post_of_below{f:Func}{s:ChangeSpec}{apart fresh handsOn:Bool}{W W':World}{args:Array Value}{v:Value}{ds gs:List (DataW H)}{before pa pv:List MemPlace}
 (hW:DataW.Whole enc P f.params.toList s.vars apart W args.toList ds gs before)
 (hres:∀(b:Nat)(sp:Nat→Bool)(hd:Bool),DataW.TrodAll enc P W' b sp hd f.resultTypes.toList (v.resultList f.resultTypes.size) (s.fn H (ds++gs)).results [])
 (hargs:∀sp:Nat→Bool,(∀p ∈ before,sp p.block=true)→DataW.TrodAll enc P W' 0 sp true f.params.toList args.toList (s.fn H (ds++gs)).args pa)
 (hvars:∀sp:Nat→Bool,(∀p ∈ before,sp p.block=true)→DataW.TrodVars enc P W' sp s.vars (s.fn H (ds++gs)).vars pv)
 (hps:before=pa++pv)(hb:Below W.heap.size W W')
 (hok:∀(j:Nat)(t:TypeId)(r:Value),f.resultTypes[j]? =some t→(v.resultList f.resultTypes.size)[j]? =some r→Value.okWide P W' .any 0 t r):
 s.post enc P f apart fresh handsOn false W args v W':=by
 have hlt:∀p ∈ before,p.block<W.heap.size:=fun p hp=>hW.lt p hp
 have hold:∀p ∈ before,(fun b=>decide (b<W.heap.size)) p.block=true:=fun p hp=>by simpa using hlt p hp
 refine⟨ds,gs,before,[],pa,pv,hW,hres _ _ _,hargs _ hold,hvars _ hold,World.keptBut_mono (fun p hp=>⟨hp,?_⟩) (hb.frame (·∈ before)),fun h=>by cases h⟩
 rw[hps,List.mem_append] at hp
 exact Or.inr hp
theorem law_post{f:Func}{s:ChangeSpec}{fresh handsOn:Bool}{W W':World}{args:Array Value}{ds gs:List (DataW H)}{before:List MemPlace}{tb:TypeId}
 (hl:laidOutB P=true)(hpar:∀t ∈ f.params.toList,P.readableRec t=true∧t<P.types.size)(hvars:s.vars=[])(hrt:f.resultTypes=#[tb])(htb:P.underlying tb=some .bool)
 (hfn:s.fn H ds={results:=[.lit (.bool true)],args:=ds})
 (hW:DataW.Whole enc P f.params.toList s.vars false W args.toList ds gs before)(hb:Below W.heap.size W W'):
 s.post enc P f false fresh handsOn false W args (.bool true) W':=by
 have hW':=hW
 have hlt:∀p ∈ before,p.block<W.heap.size:=fun p hp=>hW.lt p hp
 obtain⟨p,q,hA,hV,rfl,hfz,hnd⟩:=hW
 rw[hvars] at hV
 obtain⟨rfl,rfl⟩:=trodVars_none hV
 simp only[List.append_nil] at hW' hlt
 refine post_of_below (pa:=p) (pv:=[]) hW' ?_ ?_ ?_ (by simp) hb ?_
 ·intro b sp hd
  rw[hrt]
  simp only[List.append_nil,hfn]
  exact trodAll_mk1 (shut_bool htb true)
 ·intro sp hsp
  simp only[List.append_nil,hfn]
  exact trodAll_stays hl hb _ _ _ _ hpar hA hlt hsp
 ·intro sp _
  rw[hvars]
  simp only[List.append_nil,hfn]
  rfl
 ·exact ok_one hrt rfl (okWide_bool_mk htb true)
end
end Law
end Go.Proofs.YtffoddpjfgjelaaGreatDoor
namespace Go.Proofs.YtffoddpjfgjelaaGreatDoor
open Go.ChangeShapes Go.WideShapes Go.ChangeAt Go.RowKit Go.Deep
namespace Hold
open Mem Law Opened
theorem cells12:Tryz.prog.cellsOf 312=12:=by kernel_rfl
theorem cells28:Tryz.prog.cellsOf 343=28:=by kernel_rfl
theorem cells7:Tryz.prog.cellsOf 342=7:=by kernel_rfl
theorem cells1:Tryz.prog.cellsOf 3=1:=by kernel_rfl
theorem of_var{W:World}{name:String}{g:Nat}{cs:Array Value}(hg:Tryz.prog.globalNamed name=some g)(h:W.var? Tryz.prog name=some cs):∃T fr,W.heap[g]? =some (.cells cs T fr):=by
 unfold World.var? at h
 rw[hg] at h
 simp only[Option.bind_some] at h
 split at h
 ·rename_i cs T fr hb
  simp only[Option.some.injEq] at h
  subst h
  exact⟨T,fr,hb⟩
 ·cases h
theorem one_tab{W:World}{name:String}{g:Nat}{zs:List Int}{rest:List (String×DataW Unit)}(hg:Tryz.prog.globalNamed name=some g)(hty:(Tryz.prog.globals[g]?).map (·.type)=some 312)
 (h:laidMet Tryz.prog ((name,Lib.tabData .i64 zs)::rest) W):∃T fr,W.heap[g]? =some (.cells (zs.map fun z=>Value.int .i64 z).toArray T fr):=
 of_var hg (Lib.tabIs_of_head hg hty Tryz.underlying312 Tryz.underlying3 cells1 cells12 h)
theorem grid {W : World} {z0 z1 z2 z3 : List Int} {rest : List (String × DataW Unit)} (h : laidMet Tryz.prog (("pith/chunk.moves", .agg [Lib.tabData .i64 z0, Lib.tabData .i64 z1, Lib.tabData .i64 z2, Lib.tabData .i64 z3]) :: rest) W) :
 ∃T fr,W.heap[5]? =some (.cells ((z0++(z1++(z2++z3))).map fun z=>Value.int .i64 z).toArray T fr):=by
 have hg : Tryz.prog.globalNamed "pith/chunk.moves" = some 5 := by kernel_rfl
 have hty:(Tryz.prog.globals[5]?).map (·.type)=some 343:=by kernel_rfl
 obtain⟨ps,⟨g',t',cs,fuel,p,q,hg',ht',hvar,hd,_,_⟩,_⟩:=h
 obtain rfl:=Option.some.inj (hg.symm.trans hg')
 obtain rfl:=Option.some.inj (hty.symm.trans ht')
 refine of_var hg ?_
 rw[hvar,←Laid.cells_of_grid Tryz.underlying343 Tryz.underlying342 Tryz.underlying3 cells1 cells7 cells28 hd]
theorem tabs5 {W : World} {r0 : List (String × DataW Unit)} (h0 : laidMet Tryz.prog (("pith/state.afterLit", Lib.tabData .i64 [0, 0, 0, 0, 1, 2, 3, 4, 5, 6, 4, 5]) :: ("pith/state.afterMatch", Lib.tabData .i64 [7, 7, 7, 7, 7, 7, 7, 10, 10, 10, 10, 10]) :: ("pith/state.afterRep", Lib.tabData .i64 [8, 8, 8, 8, 8, 8, 8, 11, 11, 11, 11, 11]) :: ("pith/state.afterShort", Lib.tabData .i64 [9, 9, 9, 9, 9, 9, 9, 11, 11, 11, 11, 11]) :: r0) W)
 (h4:∃T fr,W.heap[5]? =some (.cells (St.rowOf Ck.movesL) T fr)):St.Tabs W∧Ck.Moves W:=by
 have h1:=laidMet.tail h0
 have h2:=laidMet.tail h1
 have h3:=laidMet.tail h2
 refine⟨⟨one_tab (zs:=[0,0,0,0,1,2,3,4,5,6,4,5]) (by kernel_rfl) (by kernel_rfl) h0,one_tab (zs:=[9,9,9,9,9,9,9,11,11,11,11,11]) (by kernel_rfl) (by kernel_rfl) h3,
  one_tab (zs:=[7,7,7,7,7,7,7,10,10,10,10,10]) (by kernel_rfl) (by kernel_rfl) h1,one_tab (zs:=[8,8,8,8,8,8,8,11,11,11,11,11]) (by kernel_rfl) (by kernel_rfl) h2,?_⟩,h4⟩
 obtain⟨_,_,h5⟩:=h4
 exact lt_of_block h5
section
variable {H:Type}{enc:TypeId×Value→H}{P:Program}{w:World}{base:Nat}{spare:Nat→Bool}{held:Bool}
theorem field_int{t:TypeId}{fs:Array Field}{fuel:Nat}{cs:List Value}{x:DataW H×List MemPlace}{k:IntKind}(ht:P.underlying t=some (.struct fs))(h:DataW.trod enc P w base spare held fuel t cs=some x)
 (i:Nat)(f:Field)(hf:fs[i]? =some f)(hk:P.underlying f.type=some (.int k))(hc:P.cellsOf f.type=1):∃n:Int,(cs.drop f.offset).take 1=[.int k n]∧(Lit.int k n).wf=true:=by
 obtain⟨ys,n,_,_,_,hl,hy⟩:=DataW.trod_struct ht h
 have h1:=hy i f hf
 rw[hc] at h1
 have hi:i<ys.length:=by rw[hl];exact(Array.getElem?_eq_some_iff.1 hf).1
 rw[List.getElem?_eq_getElem hi] at h1
 obtain⟨z,h2,_,h3⟩:=DataW.trod_int hk h1
 exact⟨z,h2,h3⟩
theorem field_sub{t:TypeId}{fs:Array Field}{fuel:Nat}{cs:List Value}{x:DataW H×List MemPlace}(ht:P.underlying t=some (.struct fs))(h:DataW.trod enc P w base spare held fuel t cs=some x)
 (i:Nat)(f:Field)(hf:fs[i]? =some f):∃n y,DataW.trod enc P w base spare held n f.type ((cs.drop f.offset).take (P.cellsOf f.type))=some y:=by
 obtain⟨ys,n,_,_,_,hl,hy⟩:=DataW.trod_struct ht h
 have hi:i<ys.length:=by rw[hl];exact(Array.getElem?_eq_some_iff.1 hf).1
 exact⟨n,_,(hy i f hf).trans (List.getElem?_eq_getElem hi)⟩
end
theorem i64_of{n:Int}(h:(Lit.int .i64 n).wf=true):-9223372036854775808≤n∧n≤9223372036854775807:=by simpa [Lit.wf,IntKind.min,IntKind.max,IntKind.signed,IntKind.bits] using h
theorem array8{α:Type}{cs:Array α}(h:cs.size=8):∃c0 c1 c2 c3 c4 c5 c6 c7,cs=#[c0,c1,c2,c3,c4,c5,c6,c7]:=by
 obtain⟨l⟩:=cs
 match l,h with
 |[c0,c1,c2,c3,c4,c5,c6,c7],_=>exact⟨c0,c1,c2,c3,c4,c5,c6,c7,rfl⟩
theorem andB{a b:Bool}(ha:a=true)(hb:b=true):(a&&b)=true:=by rw[ha,hb];rfl
theorem k2:laidOutB Tryz.pinned.checked.prog=true:=by kernel_rfl
theorem k3:mapsRowed Tryz.pinned.checked.prog=true:=by kernel_rfl
theorem k7:Tryz.pinned.checked.prog.stopsHeard=true:=by kernel_rfl
theorem k8:Tryz.pinned.checked.prog.mayEnter=true:=by kernel_rfl
end Hold
namespace Hold
open Mem Law Opened
theorem gTab : Tryz.prog.globalNamed "pith/varint.bounds" = some 0 := by kernel_rfl
theorem gTabType:(Tryz.prog.globals[0]?).map (·.type)=some 294:=by kernel_rfl
theorem cellsTab:Tryz.prog.cellsOf 294=9:=by kernel_rfl
theorem cellsU64:Tryz.prog.cellsOf 67=1:=by kernel_rfl
theorem bounds_tab {W : World} {rest : List (String × DataW Unit)} (h : laidMet Tryz.prog (("pith/varint.bounds", Lib.tabData .u64 [128, 16384, 2097152, 268435456, 34359738368, 4398046511104, 562949953421312, 72057594037927936, 9223372036854775808]) :: rest) W) : Vi.Tab W :=
 of_var gTab (Lib.tabIs_of_head gTab gTabType Tryz.underlying294 Tryz.underlying67 cellsU64 cellsTab h)
theorem open_config{H:Type}{enc:TypeId×Value→H}{W:World}{n1:Nat}{f0 f1 f2 f3 f4 f5 f6 f7:Value}{y1:DataW H×List MemPlace}(t2:DataW.trod enc Tryz.prog W 0 (fun _=>true) true n1 26 [f0,f1,f2,f3,f4,f5,f6,f7]=some y1):
 ∃ck dl lc lp pb di bl mo:Int,[f0,f1,f2,f3,f4,f5,f6,f7]=[.int .i64 ck,.int .i64 dl,.int .i64 lc,.int .i64 lp,.int .i64 pb,.int .i64 di,.int .i64 bl,.int .i64 mo]∧(-9223372036854775808≤ck∧ck≤9223372036854775807)∧(-9223372036854775808≤dl∧dl≤9223372036854775807)∧(-9223372036854775808≤lc∧lc≤9223372036854775807)∧(-9223372036854775808≤lp∧lp≤9223372036854775807)∧(-9223372036854775808≤pb∧pb≤9223372036854775807)∧(-9223372036854775808≤di∧di≤9223372036854775807)∧(-9223372036854775808≤bl∧bl≤9223372036854775807)∧(-9223372036854775808≤mo∧mo≤9223372036854775807):=by
 obtain⟨ck,q0,w0⟩:=field_int Tryz.underlying26 t2 0 _ rfl Tryz.underlying3 (by kernel_rfl)
 obtain⟨dl,q1,w1⟩:=field_int Tryz.underlying26 t2 1 _ rfl Tryz.underlying3 (by kernel_rfl)
 obtain⟨fu3,y4,t3⟩:=field_sub Tryz.underlying26 t2 2 _ rfl
 have hcp:Tryz.prog.cellsOf 24=3:=by kernel_rfl
 change DataW.trod enc Tryz.prog W 0 (fun _=>true) true fu3 24 ((List.drop 2 [f0,f1,f2,f3,f4,f5,f6,f7]).take (Tryz.prog.cellsOf 24))=some y4 at t3
 rw[hcp] at t3
 change DataW.trod enc Tryz.prog W 0 (fun _=>true) true fu3 24 [f2,f3,f4]=some y4 at t3
 obtain⟨lc,q2,w2⟩:=field_int Tryz.underlying24 t3 0 _ rfl Tryz.underlying3 (by kernel_rfl)
 obtain⟨lp,q3,w3⟩:=field_int Tryz.underlying24 t3 1 _ rfl Tryz.underlying3 (by kernel_rfl)
 obtain⟨pb,q4,w4⟩:=field_int Tryz.underlying24 t3 2 _ rfl Tryz.underlying3 (by kernel_rfl)
 obtain⟨di,q5,w5⟩:=field_int Tryz.underlying26 t2 3 _ rfl Tryz.underlying3 (by kernel_rfl)
 obtain⟨bl,q6,w6⟩:=field_int Tryz.underlying26 t2 4 _ rfl Tryz.underlying3 (by kernel_rfl)
 obtain⟨mo,q7,w7⟩:=field_int Tryz.underlying26 t2 5 _ rfl Tryz.underlying3 (by kernel_rfl)
 obtain rfl:=(List.cons.inj (show[f0]=_ from q0)).1
 obtain rfl:=(List.cons.inj (show[f1]=_ from q1)).1
 obtain rfl:=(List.cons.inj (show[f2]=_ from q2)).1
 obtain rfl:=(List.cons.inj (show[f3]=_ from q3)).1
 obtain rfl:=(List.cons.inj (show[f4]=_ from q4)).1
 obtain rfl:=(List.cons.inj (show[f5]=_ from q5)).1
 obtain rfl:=(List.cons.inj (show[f6]=_ from q6)).1
 obtain rfl:=(List.cons.inj (show[f7]=_ from q7)).1
 exact⟨ck,dl,lc,lp,pb,di,bl,mo,rfl,i64_of w0,i64_of w1,i64_of w2,i64_of w3,i64_of w4,i64_of w5,i64_of w6,i64_of w7⟩
end Hold
namespace ChainBack
open Mem Law Opened Hold
theorem tabs{W:World}(h:laidMetH Tryz.prog Rows.chainBackUptoRow.laid W):(St.Tabs W∧Ck.Moves W)∧Vi.Tab W:=by
 have h0:laidMet Tryz.prog Rows.chainBackUptoRow.laid W:=h
 have h4:=laidMet.tail (laidMet.tail (laidMet.tail (laidMet.tail h0)))
 exact⟨tabs5 h0 (grid (z0:=[3,1,4,4,4,4,2]) (z1:=[3,1,1,4,4,2,2]) (z2:=[3,1,2,2,2,2,2]) (z3:=[4,4,4,4,4,4,4]) (laidMet.tail h4)),bounds_tab h4⟩
set_option maxRecDepth 100000 in
theorem contract(H:Type)(enc:TypeId×Value→H)(W:World)(base:Nat)(args:Array Value)(ds gs:List (DataW H))(before:List MemPlace)
 (hval:∀(j:Nat) t v,Tryz.f6.params[j]? =some t→args[j]? =some v→Value.okWide Tryz.prog W .any base t v)
 (hW:DataW.Whole enc Tryz.prog Tryz.f6.params.toList Rows.chainBackSpec.vars false W args.toList ds gs before)(hk:Rows.uptoSmall H (ds++gs)=true)(hL:laidMetH Tryz.prog Rows.chainBackUptoRow.laid W):
 Calls Tryz.prog 6 args W fun e W'=>∃v,e=.returned v∧Rows.chainBackSpec.post enc Tryz.prog Tryz.f6 false true false false W args v W':=by
 have hW':=hW
 obtain⟨p,q,hA0,hV,rfl,hfz,hnd⟩:=hW
 have hA:DataW.TrodAll enc Tryz.prog W 0 (fun _=>true) true Tryz.f6.params.toList args.toList ds p:=hA0
 rw[Tryz.params6] at hA hval
 obtain⟨v0,vs0,d0,ds0,p0,q0,hargs,rfl,rfl,h0,r0⟩:=trodAll_cons hA
 obtain⟨v1,vs1,d1,ds1,p1,q1,rfl,rfl,rfl,h1,r1⟩:=trodAll_cons r0
 obtain⟨v2,vs2,d2,ds2,p2,q2,rfl,rfl,rfl,h2,r2⟩:=trodAll_cons r1
 obtain⟨rfl,rfl,rfl⟩:=trodAll_nil r2
 obtain rfl:args=#[v0,v1,v2]:=by cases args;simp_all
 obtain⟨a0,l0,c0,rfl⟩:=okWide_slice Tryz.underlying22 (hval 0 22 v0 rfl rfl)
 obtain⟨a2,l2,c2,rfl⟩:=okWide_slice Tryz.underlying22 (hval 2 22 v2 rfl rfl)
 obtain⟨fu0,t0⟩:=h0
 obtain⟨b,hr,hl⟩:=open_bytes Tryz.underlying22 Tryz.underlying5 (by kernel_rfl) t0
 obtain⟨fu2,t2⟩:=h2
 obtain⟨tl,hr2,hl2⟩:=open_bytes Tryz.underlying22 Tryz.underlying5 (by kernel_rfl) t2
 obtain⟨cs,rfl,hsz⟩:=okWide_struct Tryz.underlying26 (hval 1 26 v1 rfl rfl)
 obtain⟨f0,f1,f2,f3,f4,f5,f6,f7,rfl⟩:=array8 (hsz.trans (by kernel_rfl))
 obtain⟨fu1,t1⟩:=h1
 obtain⟨ck,dl,lc,lp,pb,di,bl,mo,he,w0,w1,w2,w3,w4,w5,w6,w7⟩:=open_config t1
 simp only[List.cons.injEq,and_true] at he
 obtain⟨rfl,rfl,rfl,rfl,rfl,rfl,rfl,rfl⟩:=he
 have hbk:=Bulk.bound hk
 simp only[List.cons_append,List.nil_append,Rows.uptoBulkAll] at hbk
 simp only at hl hl2
 refine(Ch.cback_calls ck dl lc lp pb di bl mo (.slice a0 l0 c0) (.slice a2 l2 c2) b tl W (tabs hL).2 (tabs hL).1.1 (tabs hL).1.2 hr hr2 (by omega) (by omega) w0 w1 w2 w3 w4 w5 w6 w7).mono fun e W' ⟨he,hfr⟩=> ?_
 exact⟨_,he,law_post (tb:=4) laidOut (by decide+kernel) rfl rfl Tryz.underlying4 rfl hW' (hfr.below (fun _ _ h=>h))⟩
noncomputable def setTab (g:Nat)(row:Array Value)(w:World):World:=
 {w with heap:=w.heap.modify g fun
  |.cells _ t frozen=>.cells row t frozen
  |o=>o}
noncomputable def laidWorld (os:Os):World:=
 setTab 5 (St.rowOf Ck.movesL) (setTab 1 (St.rowOf St.litL) (setTab 2 (St.rowOf St.shortL) (setTab 3 (St.rowOf St.matchL) (setTab 4 (St.rowOf St.repL) (setTab 0 Vi.boundsRow (World.holding Tryz.prog os ⟨#[],#[],[]⟩))))))
abbrev args0:Array Value:=#[.slice none 0 0,.agg #[.int .i64 0,.int .i64 0,.int .i64 0,.int .i64 0,.int .i64 0,.int .i64 0,.int .i64 0,.int .i64 0],.slice none 0 0]
theorem laid_met(os:Os):laidMet Tryz.prog Rows.chainBackUptoRow.laid ((laidWorld os).forCall (fun _ _=>0) ⟨#[],args0,[]⟩).memory:=
 laidMet_of_run' 8 (by kernel_rfl) (by kernel_rfl)
theorem reads(os:Os){H:Type}(enc:TypeId×Value→H):∃places,DataW.whole enc Tryz.prog ((laidWorld os).forCall (fun _ _=>0) ⟨#[],args0,[]⟩).memory Tryz.f6.params.toList Rows.chainBackSpec.vars false args0.toList 8=some ([.nil,.agg [.lit (.int .i64 0),.lit (.int .i64 0),.agg [.lit (.int .i64 0),.lit (.int .i64 0),.lit (.int .i64 0)],.lit (.int .i64 0),.lit (.int .i64 0),.lit (.int .i64 0)],.nil],[],places):=
 ⟨[],by kernel_rfl⟩
set_option maxRecDepth 100000 in
theorem lifted(os:Os)(started:os.Started)(H:Type)(enc:TypeId×Value→H)(F:Stop.Interp):
 ReturnsInHanded {} Tryz.checked os 6 .any ((Rows.OpenSpec.upto Rows.chainBackSpec).preRow enc Tryz.prog Tryz.f6 Rows.chainBackUptoRow.domain false Rows.chainBackUptoRow.laid) (((Rows.OpenSpec.upto Rows.chainBackSpec).at F).post enc Tryz.prog Tryz.f6 false true false false):=by
 obtain⟨places,hx⟩:=reads os enc
 refine returnsInHanded_of_row (C:=Tryz.checked) (s:=Rows.OpenSpec.upto Rows.chainBackSpec) own started (by kernel_rfl) Tryz.func6
  (witness_row_at (enc:=enc) (C:=Tryz.checked) false (laidWorld os) args0 rfl (by kernel_rfl) (by kernel_rfl) (by kernel_rfl)
    (OpenSpec.preRow_of_cond 8 hx (by kernel_rfl) (fun k hk=>by cases hk;kernel_rfl) (by kernel_rfl) (laid_met os))) ?_
 intro W base args ds gs before hval hW a1 hcond a3 hL a5 a6
 exact contract H enc W base args ds gs before hval hW (hcond _ rfl) hL
theorem j3:(Rows.chainBackUptoRow.inPlace==Tryz.pinned.checked.prog.inPlace 6)=true:=by kernel_rfl
theorem j4:(Rows.chainBackUptoRow.unfollowed==Tryz.pinned.checked.prog.unfollowed 6)=true:=by kernel_rfl
theorem j5:(Rows.chainBackUptoRow.recurses==Tryz.pinned.checked.prog.recurses 6)=true:=by kernel_rfl
theorem j6:(Rows.chainBackUptoRow.named==Tryz.pinned.checked.prog.varsNamed 6)=true:=by kernel_rfl
theorem c1:(Rows.chainBackUptoRow.plainKeys==Tryz.pinned.checked.prog.plainKeys)=true:=by kernel_rfl
theorem c4:(Rows.chainBackUptoRow.lifted==Tryz.pinned.checked.prog.liftsFinal)=true:=by kernel_rfl
theorem c5:(Tryz.pinned.checked.prog.make==some Rows.chainBackUptoRow.make)=true:=by kernel_rfl
theorem closed:joinedFacts Tryz.pinned.checked.prog 6 Tryz.f6 (Rows.OpenSpec.upto Rows.chainBackSpec).bare Rows.chainBackUptoRow=true:=by
 unfold joinedFacts
 repeat' (with_reducible refine andB ?_ ?_)
 all_goals first|with_reducible exact k2|with_reducible exact k3|with_reducible exact k7|with_reducible exact k8|with_reducible exact j3|with_reducible exact j4|with_reducible exact j5|with_reducible exact j6|with_reducible exact c1|with_reducible exact c4|with_reducible exact c5|kernel_rfl
theorem said:Rows.ChainBackUptoSaid:=
 OpenClaim.holds_of_cond 6 Tryz.f6 rfl rfl rfl rfl rfl rfl rfl ⟨rfl,rfl,rfl,rfl,rfl⟩ rfl rfl rfl rfl rfl (by kernel_rfl) Tryz.func6 closed
  (of_decide_eq_true (by kernel_rfl)) (by unfold Func.isWrapper;first|(rw[if_pos (by decide+kernel)];kernel_rfl)|(rw[if_neg (by decide+kernel)];exact⟨rfl,rfl⟩))
  (fun os started H enc _ F=>by rw[OpenClaim.pre_eq_preRow];exact lifted os started H enc F)
theorem plain (f : FuncId) (fn : Func) (hf : Tryz.pinned.checked.prog.funcNamed "pith/pithlaw20.ChainBack" = some f) (hfn : Tryz.pinned.checked.prog.funcs[f]? = some fn) :
 true=Tryz.pinned.checked.prog.looks []∧∀(j:Nat) t,fn.params[j]? =some t→Tryz.pinned.checked.prog.wantsStandIn t=false:=by
 obtain rfl : f = 6 := Option.some.inj ((show Tryz.prog.funcNamed "pith/pithlaw20.ChainBack" = some 6 by kernel_rfl).symm.trans hf) |>.symm
 obtain rfl:fn=Tryz.f6:=(Option.some.inj (Tryz.func6.symm.trans hfn)).symm
 refine⟨by kernel_rfl,fun j t ht=> ?_⟩
 rw[Tryz.params6] at ht
 have hm:=Array.mem_of_getElem? ht
 simp only[List.mem_toArray,List.mem_cons,List.not_mem_nil,or_false] at hm
 rcases hm with rfl|rfl|rfl
 ·exact(show Tryz.prog.wantsStandIn 22=false by kernel_rfl)
 ·exact(show Tryz.prog.wantsStandIn 26=false by kernel_rfl)
 ·exact(show Tryz.prog.wantsStandIn 22=false by kernel_rfl)
theorem card:Rows.ChainBackUptoCardSaid:=
 Claim7.holds_tied_plain_at .later [] _ _ _ _ said (fun _ h=>by cases h) (by kernel_rfl) (fun _ h=>by cases h) chainBackUpto_row_tie rfl ⟨rfl,rfl⟩ (by kernel_rfl) rfl plain (by kernel_rfl)
end ChainBack
end Go.Proofs.YtffoddpjfgjelaaGreatDoor
