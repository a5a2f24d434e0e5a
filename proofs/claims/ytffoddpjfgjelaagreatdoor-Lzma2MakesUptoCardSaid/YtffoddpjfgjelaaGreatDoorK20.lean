/- Part 20 of 54: lemmas of the last part, each under the conditions that it names. -/
import Derived.Test.YtffoddpjfgjelaaGreatDoorRows
import Derived.Lib.LaidTab
import Derived.Stop.LaidErr
import Derived.Deep.Slices
import Derived.Deep.Fields
import Derived.ChangeSame
import Derived.Test.YtffoddpjfgjelaaGreatDoorK05
set_option linter.unusedVariables false
set_option linter.unusedSimpArgs false
set_option maxRecDepth 1500
namespace Go.Proofs.YtffoddpjfgjelaaGreatDoor
open Go.RowKit
namespace Laid
theorem cells_of_grid{H:Type}{enc:TypeId×Value→H}{P:Program}{w:World}{base:Nat}{L:Nat→Bool}{f:Bool}{a:Nat}{t e i:TypeId}{k:IntKind}{g:List Value}{z0 z1 z2 z3:List Int}{p:List MemPlace}
 (E:P.underlying t=some (.array 4 e))(y:P.underlying e=some (.array 7 i))(B:P.underlying i=some (.int k))(l:P.cellsOf i=1)(d:P.cellsOf e=7)(m:P.cellsOf t=28)
 (h:DataW.trod enc P w base L f a t g=some (.agg [Lib.tabData k z0,Lib.tabData k z1,Lib.tabData k z2,Lib.tabData k z3],p)):g=(z0++(z1++(z2++z3))).map fun z=>Value.int k z:=by
 cases a with
 |zero=>simp[DataW.trod] at h
 |succ a=>
   simp only[DataW.trod,E,d,m] at h;split at h
   ·rename_i hl
    obtain⟨s,D,F⟩:=Option.map_eq_some_iff.1 h;have n:s.map (·.1)=[Lib.tabData k z0,Lib.tabData k z1,Lib.tabData k z2,Lib.tabData k z3]:=by
     have:=congrArg Prod.fst F;simpa using this
    have c:∀j z,[z0,z1,z2,z3][j]? =some z→(g.drop (j*7)).take 7=z.map fun z=>Value.int k z:=fun j z r=>by
     have C:j<4:=by have:=(List.getElem?_eq_some_iff.1 r).1;simpa using this
     obtain⟨b,v,A⟩:=Lib.mapM_at D j j (by simp[C]);have o:(s.map (·.1))[j]? =some b.1:=by simp[v]
     have u:[Lib.tabData (H:=H) k z0,Lib.tabData k z1,Lib.tabData k z2,Lib.tabData k z3][j]? =some (Lib.tabData k z):=by
      have:[Lib.tabData (H:=H) k z0,Lib.tabData k z1,Lib.tabData k z2,Lib.tabData k z3]=[z0,z1,z2,z3].map (Lib.tabData (H:=H) k):=rfl;rw[this,List.getElem?_map,r];rfl
     rw[n,u] at o;have q:=Option.some.inj o;obtain⟨M,N⟩:=b;simp only at q;subst q;exact Lib.cells_of_tab y B l d A
    have G:=c 0 z0 rfl;have I:=c 1 z1 rfl;have J:=c 2 z2 rfl;have K:=c 3 z3 rfl;rw[List.map_append,List.map_append,List.map_append,←G,←I,←J,←K];apply List.ext_getElem?;intro x;simp only[List.getElem?_append,List.getElem?_take,List.getElem?_drop,List.length_take,List.length_drop,hl];repeat' split
    all_goals first|(congr 1;omega)|(rw[List.getElem?_eq_none (by omega)])|omega
   ·cases h
end Laid
end Go.Proofs.YtffoddpjfgjelaaGreatDoor
namespace Go.Proofs.YtffoddpjfgjelaaGreatDoor
namespace Bulk
theorem one_le{H:Type}(d:DataW H):1≤Rows.uptoBulk d:=by
 cases d with
 |lit l=>cases l<;>simp[Rows.uptoBulk]
 |nil=>simp[Rows.uptoBulk]
 |ptr d=>simp[Rows.uptoBulk]
 |slice elems spare=>simp[Rows.uptoBulk]
 |agg parts=>simp[Rows.uptoBulk]
 |iface t d=>simp[Rows.uptoBulk]
 |map es=>simp[Rows.uptoBulk]
 |held h=>simp[Rows.uptoBulk]
theorem length_le{H:Type}(l:List (DataW H)):l.length≤Rows.uptoBulkAll l:=by
 induction l with
 |nil=>simp[Rows.uptoBulkAll]
 |cons x r ih=>have:=one_le x;simp only[Rows.uptoBulkAll,List.length_cons];omega
theorem slice_le{H:Type}(a b:List (DataW H)):a.length+b.length+1≤Rows.uptoBulk (.slice a b):=by
 have c:=length_le a;have d:=length_le b;simp only[Rows.uptoBulk];omega
theorem bound{H:Type}{l:List (DataW H)}(a:Rows.uptoSmall H l=true):Rows.uptoBulkAll l≤1048576:=of_decide_eq_true a
end Bulk
end Go.Proofs.YtffoddpjfgjelaaGreatDoor
namespace Go.Proofs.YtffoddpjfgjelaaGreatDoor
open Go.ChangeShapes Go.WideShapes Go.Deep Go.RowKit
namespace Opened
open Mem
section
variable {H:Type}{enc:TypeId×Value→H}{P:Program}{w:World}{base:Nat}{spare:Nat→Bool}{held:Bool}
end
end Opened
namespace Opened
open Mem
section
variable {H:Type}{enc:TypeId×Value→H}{P:Program}{w:World}{base:Nat}{held:Bool}
theorem open_bytes{t e:TypeId}{g:Nat}{v:Value}{x:DataW H×List MemPlace}(C:P.underlying t=some (.slice e))(s:P.underlying e=some (.int .u8))(r:P.cellsOf e=1)
 (h:DataW.trod enc P w base (fun _=>true) held g t [v]=some x):∃xs:List UInt8,Rd w v xs∧xs.length<Rows.uptoBulk x.1:=by
 rcases open_ints C s r h with⟨n,rfl⟩|⟨a,b,p,c,k,_,G,B,E,rfl,d,q⟩
 ·simp only[List.cons.injEq,and_true] at n
  subst n;exact⟨[],Rd.nil w,Bulk.one_le (H:=H) .nil⟩
 ·simp only[List.cons.injEq,and_true] at k
  subst k;rw[if_pos rfl] at E;have f:((c.take b).map fun z=>UInt8.ofNat z.toNat).length=b:=by rw[List.length_map,List.length_take];omega
  refine⟨(c.take b).map fun z=>UInt8.ofNat z.toNat,⟨some a,p,by rw[f],by omega,B,fun n=> ?_⟩,?_⟩
  ·rw[f] at n
   have l:=row_plain (V:=fun i=>.int .u8 (c.getD i 0)) d (by omega);refine⟨a.block,a.off,by rw[←l],fun i y o=> ?_⟩;have u:i<b:=by have:=(List.getElem?_eq_some_iff.1 o).1;omega
   have j:=d i (by omega);rw[l,add_mid] at j;rw[j];have m:c[i]? =some (c[i]'(by omega)):=List.getElem?_eq_getElem (by omega);rw[List.getElem?_map,List.getElem?_take,if_pos u,m] at o;simp only[Option.map_some,Option.some.injEq] at o;have D:=q (c[i]'(by omega)) (List.getElem_mem _);have F:0≤c[i]'(by omega)∧c[i]'(by omega)≤255:=by simpa [Lit.wf,IntKind.min,IntKind.max,IntKind.signed,IntKind.bits] using D
   subst o;simp only[bv,List.getD,m,Option.getD_some];congr 2;rw[UInt8.toNat_ofNat'];omega
  ·rw[f]
   have:=Bulk.slice_le (H:=H) (lits .u8 (c.take b)) (lits .u8 (c.drop b));have A:(lits (H:=H) .u8 (c.take b)).length=b:=by simp[lits];omega
   show b<Rows.uptoBulk (DataW.slice (lits (H:=H) .u8 (c.take b)) (lits .u8 (c.drop b)));omega
end
end Opened
end Go.Proofs.YtffoddpjfgjelaaGreatDoor
