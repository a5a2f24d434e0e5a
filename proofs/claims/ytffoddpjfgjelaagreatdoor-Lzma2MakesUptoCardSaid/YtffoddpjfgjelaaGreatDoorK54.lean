/- Lzma2Makes, its second form's tied card: for all data and every configuration of bulk at most 1048576, where the tables are as the text lays them, the law answers true. -/
import Derived.Test.YtffoddpjfgjelaaGreatDoorCards
import Derived.Test.YtffoddpjfgjelaaGreatDoorTie
import Derived.Deep.DeepHandedRow
import Derived.Lib.SmallJoins
import Derived.Test.YtffoddpjfgjelaaGreatDoorK52
import Derived.Test.YtffoddpjfgjelaaGreatDoorK53
set_option linter.unusedVariables false
set_option linter.unusedSimpArgs false
set_option maxRecDepth 1500
namespace Go.Proofs.YtffoddpjfgjelaaGreatDoor
open Go.ChangeShapes Go.WideShapes Go.ChangeAt Go.RowKit Go.Deep
namespace Lzma2Makes
open Mem Law Opened Hold
theorem tabs{W:World}(h:laidMetH Tryz.prog Rows.lzma2MakesUptoRow.laid W):St.Tabs W∧Ck.Moves W:=by
 have b:laidMet Tryz.prog Rows.lzma2MakesUptoRow.laid W:=h;have a:=laidMet.tail (laidMet.tail (laidMet.tail b));exact tabs5 a (grid (z0:=[3,1,4,4,4,4,2]) (z1:=[3,1,1,4,4,2,2]) (z2:=[3,1,2,2,2,2,2]) (z3:=[4,4,4,4,4,4,4]) (laidMet.tail (laidMet.tail (laidMet.tail (laidMet.tail a)))))
set_option maxRecDepth 100000 in
theorem contract(H:Type)(enc:TypeId×Value→H)(W:World)(base:Nat)(args:Array Value)(f o:List (DataW H))(c:List MemPlace)
 (a:∀(j:Nat) t v,Tryz.f3.params[j]? =some t→args[j]? =some v→Value.okWide Tryz.prog W .any base t v)
 (u:DataW.Whole enc Tryz.prog Tryz.f3.params.toList Rows.lzma2MakesSpec.vars false W args.toList f o c)(M:Rows.uptoSmall H (f++o)=true)(s:laidMetH Tryz.prog Rows.lzma2MakesUptoRow.laid W):
 Calls Tryz.prog 3 args W fun e n=>∃v,e=.returned v∧Rows.lzma2MakesSpec.post enc Tryz.prog Tryz.f3 false true false false W args v n:=by
 have i:=u;obtain⟨p,q,g,hV,rfl,L,O⟩:=u;have r:DataW.TrodAll enc Tryz.prog W 0 (fun _=>true) true Tryz.f3.params.toList args.toList f p:=g;rw[Tryz.params3] at r a;obtain⟨w,a1,d0,E,p0,q0,k,rfl,rfl,J,V⟩:=trodAll_cons r;obtain⟨x,a2,d1,F,p1,q1,rfl,rfl,rfl,K,X⟩:=trodAll_cons V;obtain⟨rfl,rfl,rfl⟩:=trodAll_nil X;obtain rfl:args=#[w,x]:=by cases args;simp_all
 obtain⟨y,Q,A,rfl⟩:=okWide_slice Tryz.underlying22 (a 0 22 w rfl rfl);obtain⟨G,Y⟩:=J;obtain⟨b,P,N⟩:=open_bytes Tryz.underlying22 Tryz.underlying5 (by kernel_rfl) Y;obtain⟨cs,rfl,m⟩:=okWide_struct Tryz.underlying26 (a 1 26 x rfl rfl);obtain⟨f0,f1,f2,f3,f4,f5,f6,f7,rfl⟩:=array8 (m.trans (by kernel_rfl));obtain⟨I,Z⟩:=K;obtain⟨B,D,R,S,U,C,z,T,d,w0,w1,w2,w3,w4,w5,w6,w7⟩:=open_config Z;simp only[List.cons.injEq,and_true] at d;obtain⟨rfl,rfl,rfl,rfl,rfl,rfl,rfl,rfl⟩:=d;have l:=Bulk.bound M;simp only[List.cons_append,List.nil_append,Rows.uptoBulkAll] at l;simp only at N;refine(Qm.makes_calls B D R S U C z T (.slice y Q A) b W (tabs s).1 (tabs s).2 P (by omega) w2 w3 w4).mono fun e n ⟨d,hfr⟩=> ?_;exact⟨_,d,law_post (tb:=4) laidOut (by decide+kernel) rfl rfl Tryz.underlying4 rfl i (hfr.below (fun _ _ h=>h))⟩
noncomputable def setTab (g:Nat)(row:Array Value)(w:World):World:=
 {w with heap:=w.heap.modify g fun
  |.cells _ t frozen=>.cells row t frozen
  |o=>o}
noncomputable def world0 (os:Os):World:=
 setTab 7 #[.int .u8 0,.int .u8 1,.int .u8 28,.int .u8 2,.int .u8 29,.int .u8 14,.int .u8 24,.int .u8 3,.int .u8 30,.int .u8 22,.int .u8 20,.int .u8 15,.int .u8 25,.int .u8 17,.int .u8 4,.int .u8 8,.int .u8 31,.int .u8 27,.int .u8 13,.int .u8 23,.int .u8 21,.int .u8 19,.int .u8 16,.int .u8 7,.int .u8 26,.int .u8 12,.int .u8 18,.int .u8 6,.int .u8 11,.int .u8 5,.int .u8 10,.int .u8 9] (setTab 8 #[.int .u8 0,.int .u8 1,.int .u8 56,.int .u8 2,.int .u8 57,.int .u8 49,.int .u8 28,.int .u8 3,.int .u8 61,.int .u8 58,.int .u8 42,.int .u8 50,.int .u8 38,.int .u8 29,.int .u8 17,.int .u8 4,.int .u8 62,.int .u8 47,.int .u8 59,.int .u8 36,.int .u8 45,.int .u8 43,.int .u8 51,.int .u8 22,.int .u8 53,.int .u8 39,.int .u8 33,.int .u8 30,.int .u8 24,.int .u8 18,.int .u8 12,.int .u8 5,.int .u8 63,.int .u8 55,.int .u8 48,.int .u8 27,.int .u8 60,.int .u8 41,.int .u8 37,.int .u8 16,.int .u8 46,.int .u8 35,.int .u8 44,.int .u8 21,.int .u8 52,.int .u8 32,.int .u8 23,.int .u8 11,.int .u8 54,.int .u8 26,.int .u8 40,.int .u8 15,.int .u8 34,.int .u8 20,.int .u8 31,.int .u8 10,.int .u8 25,.int .u8 14,.int .u8 19,.int .u8 9,.int .u8 13,.int .u8 8,.int .u8 7,.int .u8 6] (setTab 6 #[.int .u64 1,.int .u64 10,.int .u64 100,.int .u64 1000,.int .u64 10000,.int .u64 100000,.int .u64 1000000,.int .u64 10000000,.int .u64 100000000,.int .u64 1000000000,.int .u64 10000000000,.int .u64 100000000000,.int .u64 1000000000000,.int .u64 10000000000000,.int .u64 100000000000000,.int .u64 1000000000000000,.int .u64 10000000000000000,.int .u64 100000000000000000,.int .u64 1000000000000000000,.int .u64 10000000000000000000] (World.holding Tryz.prog os ⟨#[],#[],[]⟩)))
noncomputable def laidWorld (os:Os):World:=
 setTab 5 (St.rowOf Ck.movesL) (setTab 1 (St.rowOf St.litL) (setTab 2 (St.rowOf St.shortL) (setTab 3 (St.rowOf St.matchL) (setTab 4 (St.rowOf St.repL) (world0 os)))))
abbrev args0:Array Value:=#[.slice none 0 0,.agg #[.int .i64 0,.int .i64 0,.int .i64 0,.int .i64 0,.int .i64 0,.int .i64 0,.int .i64 0,.int .i64 0]]
theorem laid_met(a:Os):laidMet Tryz.prog Rows.lzma2MakesUptoRow.laid ((laidWorld a).forCall (fun _ _=>0) ⟨#[],args0,[]⟩).memory:=
 laidMet_of_run' 8 (by kernel_rfl) (by kernel_rfl)
theorem reads(a:Os){H:Type}(enc:TypeId×Value→H):∃places,DataW.whole enc Tryz.prog ((laidWorld a).forCall (fun _ _=>0) ⟨#[],args0,[]⟩).memory Tryz.f3.params.toList Rows.lzma2MakesSpec.vars false args0.toList 8=some ([.nil,.agg [.lit (.int .i64 0),.lit (.int .i64 0),.agg [.lit (.int .i64 0),.lit (.int .i64 0),.lit (.int .i64 0)],.lit (.int .i64 0),.lit (.int .i64 0),.lit (.int .i64 0)]],[],places):=
 ⟨[],by kernel_rfl⟩
set_option maxRecDepth 100000 in
theorem lifted(g:Os)(a:g.Started)(H:Type)(enc:TypeId×Value→H)(F:Stop.Interp):
 ReturnsInHanded {} Tryz.checked g 3 .any ((Rows.OpenSpec.upto Rows.lzma2MakesSpec).preRow enc Tryz.prog Tryz.f3 Rows.lzma2MakesUptoRow.domain false Rows.lzma2MakesUptoRow.laid) (((Rows.OpenSpec.upto Rows.lzma2MakesSpec).at F).post enc Tryz.prog Tryz.f3 false true false false):=by
 obtain⟨h,n⟩:=reads g enc;refine returnsInHanded_of_row (C:=Tryz.checked) (s:=Rows.OpenSpec.upto Rows.lzma2MakesSpec) own a (by kernel_rfl) Tryz.func3
  (witness_row_at (enc:=enc) (C:=Tryz.checked) false (laidWorld g) args0 rfl (by kernel_rfl) (by kernel_rfl) (by kernel_rfl)
    (OpenSpec.preRow_of_cond 8 n (by kernel_rfl) (fun k hk=>by cases hk;kernel_rfl) (by kernel_rfl) (laid_met g))) ?_
 intro W e d i j b f m o c p l q r;exact contract H enc W e d i j b f m (c _ rfl) l
theorem j3:(Rows.lzma2MakesUptoRow.inPlace==Tryz.pinned.checked.prog.inPlace 3)=true:=by kernel_rfl
theorem j4:(Rows.lzma2MakesUptoRow.unfollowed==Tryz.pinned.checked.prog.unfollowed 3)=true:=by kernel_rfl
theorem j5:(Rows.lzma2MakesUptoRow.recurses==Tryz.pinned.checked.prog.recurses 3)=true:=by kernel_rfl
theorem j6:(Rows.lzma2MakesUptoRow.named==Tryz.pinned.checked.prog.varsNamed 3)=true:=by kernel_rfl
theorem c1:(Rows.lzma2MakesUptoRow.plainKeys==Tryz.pinned.checked.prog.plainKeys)=true:=by kernel_rfl
theorem c4:(Rows.lzma2MakesUptoRow.lifted==Tryz.pinned.checked.prog.liftsFinal)=true:=by kernel_rfl
theorem c5:(Tryz.pinned.checked.prog.make==some Rows.lzma2MakesUptoRow.make)=true:=by kernel_rfl
theorem closed:joinedFacts Tryz.pinned.checked.prog 3 Tryz.f3 (Rows.OpenSpec.upto Rows.lzma2MakesSpec).bare Rows.lzma2MakesUptoRow=true:=by
 unfold joinedFacts;repeat' (with_reducible refine andB ?_ ?_)
 all_goals first|with_reducible exact k2|with_reducible exact k3|with_reducible exact k7|with_reducible exact k8|with_reducible exact j3|with_reducible exact j4|with_reducible exact j5|with_reducible exact j6|with_reducible exact c1|with_reducible exact c4|with_reducible exact c5|kernel_rfl
theorem said:Rows.Lzma2MakesUptoSaid:=
 OpenClaim.holds_of_cond 3 Tryz.f3 rfl rfl rfl rfl rfl rfl rfl ⟨rfl,rfl,rfl,rfl,rfl⟩ rfl rfl rfl rfl rfl (by kernel_rfl) Tryz.func3 closed
  (of_decide_eq_true (by kernel_rfl)) (by unfold Func.isWrapper;first|(rw[if_pos (by decide+kernel)];kernel_rfl)|(rw[if_neg (by decide+kernel)];exact⟨rfl,rfl⟩))
  (fun c a H b _ F=>by rw[OpenClaim.pre_eq_preRow];exact lifted c a H b F)
theorem plain (f : FuncId) (a : Func) (e : Tryz.pinned.checked.prog.funcNamed "pith/pithlaw18.Lzma2Makes" = some f) (b : Tryz.pinned.checked.prog.funcs[f]? = some a) :
 true=Tryz.pinned.checked.prog.looks []∧∀(j:Nat) t,a.params[j]? =some t→Tryz.pinned.checked.prog.wantsStandIn t=false:=by
 obtain rfl : f = 3 := Option.some.inj ((show Tryz.prog.funcNamed "pith/pithlaw18.Lzma2Makes" = some 3 by kernel_rfl).symm.trans e) |>.symm;obtain rfl:a=Tryz.f3:=(Option.some.inj (Tryz.func3.symm.trans b)).symm;refine⟨by kernel_rfl,fun j t d=> ?_⟩;rw[Tryz.params3] at d;have c:=Array.mem_of_getElem? d;simp only[List.mem_toArray,List.mem_cons,List.not_mem_nil,or_false] at c;rcases c with rfl|rfl
 ·exact(show Tryz.prog.wantsStandIn 22=false by kernel_rfl)
 ·exact(show Tryz.prog.wantsStandIn 26=false by kernel_rfl)
theorem card:Rows.Lzma2MakesUptoCardSaid:=
 Claim7.holds_tied_plain_at .later [] _ _ _ _ said (fun _ h=>by cases h) (by kernel_rfl) (fun _ h=>by cases h) lzma2MakesUpto_row_tie rfl ⟨rfl,rfl⟩ (by kernel_rfl) rfl plain (by kernel_rfl)
end Lzma2Makes
end Go.Proofs.YtffoddpjfgjelaaGreatDoor
