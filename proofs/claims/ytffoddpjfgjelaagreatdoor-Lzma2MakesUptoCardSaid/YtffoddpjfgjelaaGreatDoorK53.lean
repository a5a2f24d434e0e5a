/- Part 53 of 54: lemmas of the last part, each under the conditions that it names. -/
import Derived.Test.YtffoddpjfgjelaaGreatDoorRows
import Derived.OpenShut
import Derived.JoinedCond
import Derived.Test.YtffoddpjfgjelaaGreatDoorCards
import Derived.Test.YtffoddpjfgjelaaGreatDoorTie
import Derived.Deep.DeepHandedRow
import Derived.Lib.SmallJoins
import Derived.Test.YtffoddpjfgjelaaGreatDoorK20
import Derived.Test.YtffoddpjfgjelaaGreatDoorK21
set_option linter.unusedVariables false
set_option linter.unusedSimpArgs false
set_option maxRecDepth 1500
namespace Go.Proofs.YtffoddpjfgjelaaGreatDoor
open Go.ChangeShapes Go.WideShapes Go.ChangeAt Go.RowKit
namespace Law
open Mem
theorem own:ownKnob Tryz.prog.godebug=none:=by kernel_rfl
theorem laidOut:laidOutB Tryz.prog=true:=by kernel_rfl
section
variable {H:Type}{enc:TypeId×Value→H}{P:Program}
theorem trodAll_stays(g:laidOutB P=true){W e:World}{i:Nat→Bool}(f:Below W.heap.size W e):
 ∀(a:List TypeId)(c:List Value)(b:List (DataW H))(ps:List MemPlace),(∀t ∈ a,P.readableRec t=true∧t<P.types.size)→
  DataW.TrodAll enc P W 0 (fun _=>true) true a c b ps→(∀x ∈ ps,x.block<W.heap.size)→(∀x ∈ ps,i x.block=true)→DataW.TrodAll enc P e 0 i true a c b ps
 |[],[],[],_,_,h,_,_=>h
 |t::a,v::c,d::b,_,hr,⟨p,q,h1,h2,rfl⟩,hlt,hsp=>
   ⟨p,q,WideElems.Trod_stays g (hr t (by simp)).1 (hr t (by simp)).2 h1 (fun x hx=>f.same (hlt x (by simp[hx]))) (fun x hx=>hsp x (by simp[hx])),
    trodAll_stays g f a c b q (fun u j=>hr u (by simp[j])) h2 (fun x hx=>hlt x (by simp[hx])) (fun x hx=>hsp x (by simp[hx])),rfl⟩
theorem post_of_below{f:Func}{s:ChangeSpec}{apart fresh c:Bool}{W l:World}{args:Array Value}{v:Value}{m n:List (DataW H)}{a pa pv:List MemPlace}
 (w:DataW.Whole enc P f.params.toList s.vars apart W args.toList m n a)
 (o:∀(b:Nat)(k:Nat→Bool)(y:Bool),DataW.TrodAll enc P l b k y f.resultTypes.toList (v.resultList f.resultTypes.size) (s.fn H (m++n)).results [])
 (e:∀k:Nat→Bool,(∀p ∈ a,k p.block=true)→DataW.TrodAll enc P l 0 k true f.params.toList args.toList (s.fn H (m++n)).args pa)
 (i:∀k:Nat→Bool,(∀p ∈ a,k p.block=true)→DataW.TrodVars enc P l k s.vars (s.fn H (m++n)).vars pv)
 (u:a=pa++pv)(x:Below W.heap.size W l)
 (z:∀(j:Nat)(t:TypeId)(r:Value),f.resultTypes[j]? =some t→(v.resultList f.resultTypes.size)[j]? =some r→Value.okWide P l .any 0 t r):
 s.post enc P f apart fresh c false W args v l:=by
 have q:∀p ∈ a,p.block<W.heap.size:=fun p g=>w.lt p g;have d:∀p ∈ a,(fun b=>decide (b<W.heap.size)) p.block=true:=fun p g=>by simpa using q p g
 refine⟨m,n,a,[],pa,pv,w,o _ _ _,e _ d,i _ d,World.keptBut_mono (fun p g=>⟨g,?_⟩) (x.frame (·∈ a)),fun h=>by cases h⟩;rw[u,List.mem_append] at g;exact Or.inr g
theorem law_post{f:Func}{s:ChangeSpec}{fresh c:Bool}{W n:World}{args:Array Value}{l u:List (DataW H)}{a:List MemPlace}{tb:TypeId}
 (x:laidOutB P=true)(i:∀t ∈ f.params.toList,P.readableRec t=true∧t<P.types.size)(d:s.vars=[])(j:f.resultTypes=#[tb])(k:P.underlying tb=some .bool)
 (e:s.fn H l={results:=[.lit (.bool true)],args:=l})
 (hW:DataW.Whole enc P f.params.toList s.vars false W args.toList l u a)(hb:Below W.heap.size W n):
 s.post enc P f false fresh c false W args (.bool true) n:=by
 have g:=hW;have h:∀p ∈ a,p.block<W.heap.size:=fun p z=>hW.lt p z;obtain⟨p,q,v,o,rfl,w,y⟩:=hW;rw[d] at o;obtain⟨rfl,rfl⟩:=trodVars_none o;simp only[List.append_nil] at g h;refine post_of_below (pa:=p) (pv:=[]) g ?_ ?_ ?_ (by simp) hb ?_
 ·intro b r A
  rw[j];simp only[List.append_nil,e];exact trodAll_mk1 (shut_bool k true)
 ·intro r m
  simp only[List.append_nil,e];exact trodAll_stays x hb _ _ _ _ i v h m
 ·intro r _
  rw[d];simp only[List.append_nil,e];rfl
 ·exact ok_one j rfl (okWide_bool_mk k true)
end
end Law
end Go.Proofs.YtffoddpjfgjelaaGreatDoor
namespace Go.Proofs.YtffoddpjfgjelaaGreatDoor
open Go.ChangeShapes Go.WideShapes Go.ChangeAt Go.RowKit Go.Deep
namespace Hold
open Mem Law Opened
theorem cells12:Tryz.prog.cellsOf 312=12:=by kernel_rfl
theorem cells28:Tryz.prog.cellsOf 343=28:=by kernel_rfl
theorem cells7:Tryz.prog.cellsOf 342=7:=by kernel_rfl
theorem cells1:Tryz.prog.cellsOf 3=1:=by kernel_rfl
theorem of_var{W:World}{a:String}{g:Nat}{b:Array Value}(c:Tryz.prog.globalNamed a=some g)(h:W.var? Tryz.prog a=some b):∃T fr,W.heap[g]? =some (.cells b T fr):=by
 unfold World.var? at h;rw[c] at h;simp only[Option.bind_some] at h;split at h
 ·rename_i b T fr hb
  simp only[Option.some.injEq] at h;subst h;exact⟨T,fr,hb⟩
 ·cases h
theorem one_tab{W:World}{a:String}{g:Nat}{zs:List Int}{rest:List (String×DataW Unit)}(c:Tryz.prog.globalNamed a=some g)(b:(Tryz.prog.globals[g]?).map (·.type)=some 312)
 (h:laidMet Tryz.prog ((a,Lib.tabData .i64 zs)::rest) W):∃T fr,W.heap[g]? =some (.cells (zs.map fun z=>Value.int .i64 z).toArray T fr):=
 of_var c (Lib.tabIs_of_head c b Tryz.underlying312 Tryz.underlying3 cells1 cells12 h)
theorem grid {W : World} {z0 z1 z2 z3 : List Int} {rest : List (String × DataW Unit)} (h : laidMet Tryz.prog (("pith/chunk.moves", .agg [Lib.tabData .i64 z0, Lib.tabData .i64 z1, Lib.tabData .i64 z2, Lib.tabData .i64 z3]) :: rest) W) :
 ∃T fr,W.heap[5]? =some (.cells ((z0++(z1++(z2++z3))).map fun z=>Value.int .i64 z).toArray T fr):=by
 have f : Tryz.prog.globalNamed "pith/chunk.moves" = some 5 := by kernel_rfl
 have d:(Tryz.prog.globals[5]?).map (·.type)=some 343:=by kernel_rfl
 obtain⟨k,⟨j,l,i,e,p,q,b,c,a,g,_,_⟩,_⟩:=h;obtain rfl:=Option.some.inj (f.symm.trans b);obtain rfl:=Option.some.inj (d.symm.trans c);refine of_var f ?_;rw[a,←Laid.cells_of_grid Tryz.underlying343 Tryz.underlying342 Tryz.underlying3 cells1 cells7 cells28 g]
theorem tabs5 {W : World} {g : List (String × DataW Unit)} (a : laidMet Tryz.prog (("pith/state.afterLit", Lib.tabData .i64 [0, 0, 0, 0, 1, 2, 3, 4, 5, 6, 4, 5]) :: ("pith/state.afterMatch", Lib.tabData .i64 [7, 7, 7, 7, 7, 7, 7, 10, 10, 10, 10, 10]) :: ("pith/state.afterRep", Lib.tabData .i64 [8, 8, 8, 8, 8, 8, 8, 11, 11, 11, 11, 11]) :: ("pith/state.afterShort", Lib.tabData .i64 [9, 9, 9, 9, 9, 9, 9, 11, 11, 11, 11, 11]) :: g) W)
 (d:∃T fr,W.heap[5]? =some (.cells (St.rowOf Ck.movesL) T fr)):St.Tabs W∧Ck.Moves W:=by
 have b:=laidMet.tail a;have c:=laidMet.tail b;have e:=laidMet.tail c;refine⟨⟨one_tab (zs:=[0,0,0,0,1,2,3,4,5,6,4,5]) (by kernel_rfl) (by kernel_rfl) a,one_tab (zs:=[9,9,9,9,9,9,9,11,11,11,11,11]) (by kernel_rfl) (by kernel_rfl) e,
  one_tab (zs:=[7,7,7,7,7,7,7,10,10,10,10,10]) (by kernel_rfl) (by kernel_rfl) b,one_tab (zs:=[8,8,8,8,8,8,8,11,11,11,11,11]) (by kernel_rfl) (by kernel_rfl) c,?_⟩,d⟩
 obtain⟨_,_,f⟩:=d;exact lt_of_block f
section
variable {H:Type}{enc:TypeId×Value→H}{P:Program}{w:World}{base:Nat}{spare:Nat→Bool}{held:Bool}
theorem field_int{t:TypeId}{d:Array Field}{a:Nat}{c:List Value}{x:DataW H×List MemPlace}{k:IntKind}(q:P.underlying t=some (.struct d))(h:DataW.trod enc P w base spare held a t c=some x)
 (i:Nat)(f:Field)(e:d[i]? =some f)(o:P.underlying f.type=some (.int k))(l:P.cellsOf f.type=1):∃n:Int,(c.drop f.offset).take 1=[.int k n]∧(Lit.int k n).wf=true:=by
 obtain⟨s,n,_,_,_,p,r⟩:=DataW.trod_struct q h;have b:=r i f e;rw[l] at b;have m:i<s.length:=by rw[p];exact(Array.getElem?_eq_some_iff.1 e).1
 rw[List.getElem?_eq_getElem m] at b;obtain⟨z,g,_,j⟩:=DataW.trod_int o b;exact⟨z,g,j⟩
theorem field_sub{t:TypeId}{c:Array Field}{a:Nat}{b:List Value}{x:DataW H×List MemPlace}(j:P.underlying t=some (.struct c))(h:DataW.trod enc P w base spare held a t b=some x)
 (i:Nat)(f:Field)(d:c[i]? =some f):∃n y,DataW.trod enc P w base spare held n f.type ((b.drop f.offset).take (P.cellsOf f.type))=some y:=by
 obtain⟨l,n,_,_,_,g,k⟩:=DataW.trod_struct j h;have e:i<l.length:=by rw[g];exact(Array.getElem?_eq_some_iff.1 d).1
 exact⟨n,_,(k i f d).trans (List.getElem?_eq_getElem e)⟩
end
theorem i64_of{n:Int}(h:(Lit.int .i64 n).wf=true):-9223372036854775808≤n∧n≤9223372036854775807:=by simpa [Lit.wf,IntKind.min,IntKind.max,IntKind.signed,IntKind.bits] using h
theorem array8{α:Type}{a:Array α}(h:a.size=8):∃c0 c1 c2 c3 c4 c5 c6 c7,a=#[c0,c1,c2,c3,c4,c5,c6,c7]:=by
 obtain⟨l⟩:=a;match l,h with
 |[c0,c1,c2,c3,c4,c5,c6,c7],_=>exact⟨c0,c1,c2,c3,c4,c5,c6,c7,rfl⟩
theorem andB{a b:Bool}(c:a=true)(d:b=true):(a&&b)=true:=by rw[c,d];rfl
theorem k2:laidOutB Tryz.pinned.checked.prog=true:=by kernel_rfl
theorem k3:mapsRowed Tryz.pinned.checked.prog=true:=by kernel_rfl
theorem k7:Tryz.pinned.checked.prog.stopsHeard=true:=by kernel_rfl
theorem k8:Tryz.pinned.checked.prog.mayEnter=true:=by kernel_rfl
end Hold
namespace Hold
open Mem Law Opened
theorem open_config{H:Type}{enc:TypeId×Value→H}{W:World}{v:Nat}{o p g h i q r s:Value}{N:DataW H×List MemPlace}(a:DataW.trod enc Tryz.prog W 0 (fun _=>true) true v 26 [o,p,g,h,i,q,r,s]=some N):
 ∃d f k l n e c m:Int,[o,p,g,h,i,q,r,s]=[.int .i64 d,.int .i64 f,.int .i64 k,.int .i64 l,.int .i64 n,.int .i64 e,.int .i64 c,.int .i64 m]∧(-9223372036854775808≤d∧d≤9223372036854775807)∧(-9223372036854775808≤f∧f≤9223372036854775807)∧(-9223372036854775808≤k∧k≤9223372036854775807)∧(-9223372036854775808≤l∧l≤9223372036854775807)∧(-9223372036854775808≤n∧n≤9223372036854775807)∧(-9223372036854775808≤e∧e≤9223372036854775807)∧(-9223372036854775808≤c∧c≤9223372036854775807)∧(-9223372036854775808≤m∧m≤9223372036854775807):=by
 obtain⟨d,w,E⟩:=field_int Tryz.underlying26 a 0 _ rfl Tryz.underlying3 (by kernel_rfl);obtain⟨f,x,F⟩:=field_int Tryz.underlying26 a 1 _ rfl Tryz.underlying3 (by kernel_rfl);obtain⟨j,u,b⟩:=field_sub Tryz.underlying26 a 2 _ rfl;have t:Tryz.prog.cellsOf 24=3:=by kernel_rfl
 change DataW.trod enc Tryz.prog W 0 (fun _=>true) true j 24 ((List.drop 2 [o,p,g,h,i,q,r,s]).take (Tryz.prog.cellsOf 24))=some u at b;rw[t] at b;change DataW.trod enc Tryz.prog W 0 (fun _=>true) true j 24 [g,h,i]=some u at b;obtain⟨k,y,G⟩:=field_int Tryz.underlying24 b 0 _ rfl Tryz.underlying3 (by kernel_rfl);obtain⟨l,z,I⟩:=field_int Tryz.underlying24 b 1 _ rfl Tryz.underlying3 (by kernel_rfl);obtain⟨n,A,J⟩:=field_int Tryz.underlying24 b 2 _ rfl Tryz.underlying3 (by kernel_rfl);obtain⟨e,B,K⟩:=field_int Tryz.underlying26 a 3 _ rfl Tryz.underlying3 (by kernel_rfl);obtain⟨c,C,L⟩:=field_int Tryz.underlying26 a 4 _ rfl Tryz.underlying3 (by kernel_rfl);obtain⟨m,D,M⟩:=field_int Tryz.underlying26 a 5 _ rfl Tryz.underlying3 (by kernel_rfl);obtain rfl:=(List.cons.inj (show[o]=_ from w)).1;obtain rfl:=(List.cons.inj (show[p]=_ from x)).1;obtain rfl:=(List.cons.inj (show[g]=_ from y)).1;obtain rfl:=(List.cons.inj (show[h]=_ from z)).1;obtain rfl:=(List.cons.inj (show[i]=_ from A)).1;obtain rfl:=(List.cons.inj (show[q]=_ from B)).1;obtain rfl:=(List.cons.inj (show[r]=_ from C)).1;obtain rfl:=(List.cons.inj (show[s]=_ from D)).1;exact⟨d,f,k,l,n,e,c,m,rfl,i64_of E,i64_of F,i64_of G,i64_of I,i64_of J,i64_of K,i64_of L,i64_of M⟩
end Hold
end Go.Proofs.YtffoddpjfgjelaaGreatDoor
