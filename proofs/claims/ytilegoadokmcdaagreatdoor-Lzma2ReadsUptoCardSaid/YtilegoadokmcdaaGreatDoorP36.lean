/- Part 36 of 53: lemmas of the last part, each under the conditions that it names. -/
import Derived.Test.YtilegoadokmcdaaGreatDoorRows
import Derived.Lib.LaidTab
import Derived.Stop.LaidErr
import Derived.Deep.Slices
import Derived.Deep.Fields
import Derived.ChangeSame
import Derived.Test.YtilegoadokmcdaaGreatDoorP01
import Derived.Test.YtilegoadokmcdaaGreatDoorP18
import Derived.Test.YtilegoadokmcdaaGreatDoorP35
set_option linter.unusedVariables false
set_option linter.unusedSimpArgs false
set_option maxRecDepth 1500
set_option maxHeartbeats 2000000
namespace Go.Proofs.YtilegoadokmcdaaGreatDoor
open Go.RowKit
namespace La
open Mem Win Ck Ga Wire Lz St
theorem flat_at{α:Type}(f:α→List Value)(z:Nat)(hf:∀a,(f a).length=z):∀(l:List α)(i j:Nat)(a:α),j<z→l[i]? =some a→(l.flatMap f)[i*z+j]? =(f a)[j]?
 |[],i,j,a,hj,h=>by simp at h
 |x::r,0,j,a,hj,h=>by
   simp only[List.getElem?_cons_zero,Option.some.injEq] at h
   subst h
   rw[List.flatMap_cons,Nat.zero_mul,Nat.zero_add,List.getElem?_append_left (by rw[hf];exact hj)]
 |x::r,i+1,j,a,hj,h=>by
   rw[List.getElem?_cons_succ] at h
   have ih:=flat_at f z hf r i j a hj h
   have he:(i+1)*z+j=z+(i*z+j):=by rw[Nat.add_mul,Nat.one_mul];omega
   rw[List.flatMap_cons,List.getElem?_append_right (by rw[hf,he];omega),hf,he,show z+(i*z+j)-z=i*z+j by omega]
   exact ih
theorem sames_calls(v1 v2:Value)(l:List Sy)(w0 w1 w:World)(h1:Syms w0 w v1 l)(h2:Syms w1 w v2 l)(hl:l.length≤1099511627776):Calls Tryz.prog 23 #[v1,v2] w (Yes w):=by
 have o1:Own 68 4 w0 w v1 l.length (syCells l):=Own.of_syms h1
 have o2:Own 68 4 w1 w v2 l.length (syCells l):=Own.of_syms h2
 obtain⟨p1,c1,rfl⟩:=o1.slice
 obtain⟨p2,c2,rfl⟩:=o2.slice
 have HO1:=Hd o1
 have HO2:=Hd o2
 clear h1 h2 o1 o2
 generalize hn:l.length=n at*
 have HN:=Hd hn
 clear hn
 go_enter Tryz.func23,Tryz.ntmps23
 go_wp2_with fail
 go_loopw [5](fun i wr=>∃k m:Nat,k≤n∧i=.int .i64 k∧wr=w.drewN m) (fun i _=>n-(intOf i).toNat)
 case atStart=>exact⟨0,0,Nat.zero_le _,rfl,rfl⟩
 case round=>
  obtain⟨k,m,hkn,rfl,rfl⟩:=hrel
  by_cases hlt:k<n
  ·obtain⟨a,ha⟩:∃a,l[k]? =some a:=⟨l[k]'(HN.out ▸ hlt),List.getElem?_eq_getElem (HN.out ▸ hlt)⟩
   have hfa:=fun j (hj:j<4)=>flat_at (fun a:Sy=>a.cells.toList) 4 (fun a=>by simp[Sy.cells]) l k j a hj ha
   obtain⟨g1,hg1,e10⟩:=HO1.out.cell (i:=k*4+0) (hfa 0 (by decide))
   subst hg1
   have e11:w.cell? ⟨g1,k*4+1,none⟩=some (.int .u8 a.byte):=by
    obtain⟨g',hg',he⟩:=HO1.out.cell (i:=k*4+1) (hfa 1 (by decide))
    simp only[Option.some.injEq,Addr.mk.injEq,and_true] at hg'
    subst hg'
    exact he
   have e12:w.cell? ⟨g1,k*4+2,none⟩=some (.int .i64 a.len):=by
    obtain⟨g',hg',he⟩:=HO1.out.cell (i:=k*4+2) (hfa 2 (by decide))
    simp only[Option.some.injEq,Addr.mk.injEq,and_true] at hg'
    subst hg'
    exact he
   have e13:w.cell? ⟨g1,k*4+3,none⟩=some (.int .i64 a.dist):=by
    obtain⟨g',hg',he⟩:=HO1.out.cell (i:=k*4+3) (hfa 3 (by decide))
    simp only[Option.some.injEq,Addr.mk.injEq,and_true] at hg'
    subst hg'
    exact he
   have e10:w.cell? ⟨g1,k*4,none⟩=some (.int .i64 a.kind):=e10
   obtain⟨g2,hg2,e20⟩:=HO2.out.cell (i:=k*4+0) (hfa 0 (by decide))
   subst hg2
   have e21:w.cell? ⟨g2,k*4+1,none⟩=some (.int .u8 a.byte):=by
    obtain⟨g',hg',he⟩:=HO2.out.cell (i:=k*4+1) (hfa 1 (by decide))
    simp only[Option.some.injEq,Addr.mk.injEq,and_true] at hg'
    subst hg'
    exact he
   have e22:w.cell? ⟨g2,k*4+2,none⟩=some (.int .i64 a.len):=by
    obtain⟨g',hg',he⟩:=HO2.out.cell (i:=k*4+2) (hfa 2 (by decide))
    simp only[Option.some.injEq,Addr.mk.injEq,and_true] at hg'
    subst hg'
    exact he
   have e23:w.cell? ⟨g2,k*4+3,none⟩=some (.int .i64 a.dist):=by
    obtain⟨g',hg',he⟩:=HO2.out.cell (i:=k*4+3) (hfa 3 (by decide))
    simp only[Option.some.injEq,Addr.mk.injEq,and_true] at hg'
    subst hg'
    exact he
   have e20:w.cell? ⟨g2,k*4,none⟩=some (.int .i64 a.kind):=e20
   clear hfa ha
   have hidx:(k:Int)<n:=by omega
   go_wp2_with fail
   go_quiet (fail)
   go_wp2_with fail
   exact⟨⟨k+1,_,by omega,by go_num,rfl⟩,by simp[intOf];omega⟩
  ·have hkn2:k=n:=by omega
   subst hkn2
   go_wp2_with fail
   go_ret
   exact⟨rfl,_,rfl⟩
theorem heads_calls(v1 v2:Value)(l:List Head)(w0 w1 w:World)(h1:Cc.Heads w0 w v1 l)(h2:Cc.Heads w1 w v2 l)(hl:l.length≤1099511627776):Calls Tryz.prog 11 #[v1,v2] w (Yes w):=by
 have o1:Own 52 6 w0 w v1 l.length (Cc.hcs l):=h1
 have o2:Own 52 6 w1 w v2 l.length (Cc.hcs l):=h2
 obtain⟨p1,c1,rfl⟩:=o1.slice
 obtain⟨p2,c2,rfl⟩:=o2.slice
 have HO1:=Hd o1
 have HO2:=Hd o2
 clear h1 h2 o1 o2
 generalize hn:l.length=n at*
 have HN:=Hd hn
 clear hn
 go_enter Tryz.func11,Tryz.ntmps11
 go_wp2_with fail
 go_loopw [5](fun i wr=>∃k m:Nat,k≤n∧i=.int .i64 k∧wr=w.drewN m) (fun i _=>n-(intOf i).toNat)
 case atStart=>exact⟨0,0,Nat.zero_le _,rfl,rfl⟩
 case round=>
  obtain⟨k,m,hkn,rfl,rfl⟩:=hrel
  by_cases hlt:k<n
  ·obtain⟨a,ha⟩:∃a,l[k]? =some a:=⟨l[k]'(HN.out ▸ hlt),List.getElem?_eq_getElem (HN.out ▸ hlt)⟩
   have hfa:=fun j (hj:j<6)=>flat_at (fun a:Head=>a.cells.toList) 6 (fun a=>by simp[Head.cells]) l k j a hj ha
   obtain⟨g1,hg1,e10⟩:=HO1.out.cell (i:=k*6+0) (hfa 0 (by decide))
   subst hg1
   have e11:w.cell? ⟨g1,k*6+1,none⟩=some (.int .i64 a.size):=by
    obtain⟨g',hg',he⟩:=HO1.out.cell (i:=k*6+1) (hfa 1 (by decide))
    simp only[Option.some.injEq,Addr.mk.injEq,and_true] at hg'
    subst hg'
    exact he
   have e12:w.cell? ⟨g1,k*6+2,none⟩=some (.int .i64 a.packed):=by
    obtain⟨g',hg',he⟩:=HO1.out.cell (i:=k*6+2) (hfa 2 (by decide))
    simp only[Option.some.injEq,Addr.mk.injEq,and_true] at hg'
    subst hg'
    exact he
   have e13:w.cell? ⟨g1,k*6+3,none⟩=some (.int .i64 a.lc):=by
    obtain⟨g',hg',he⟩:=HO1.out.cell (i:=k*6+3) (hfa 3 (by decide))
    simp only[Option.some.injEq,Addr.mk.injEq,and_true] at hg'
    subst hg'
    exact he
   have e14:w.cell? ⟨g1,k*6+4,none⟩=some (.int .i64 a.lp):=by
    obtain⟨g',hg',he⟩:=HO1.out.cell (i:=k*6+4) (hfa 4 (by decide))
    simp only[Option.some.injEq,Addr.mk.injEq,and_true] at hg'
    subst hg'
    exact he
   have e15:w.cell? ⟨g1,k*6+5,none⟩=some (.int .i64 a.pb):=by
    obtain⟨g',hg',he⟩:=HO1.out.cell (i:=k*6+5) (hfa 5 (by decide))
    simp only[Option.some.injEq,Addr.mk.injEq,and_true] at hg'
    subst hg'
    exact he
   have e10:w.cell? ⟨g1,k*6,none⟩=some (.int .i64 a.kind):=e10
   obtain⟨g2,hg2,e20⟩:=HO2.out.cell (i:=k*6+0) (hfa 0 (by decide))
   subst hg2
   have e21:w.cell? ⟨g2,k*6+1,none⟩=some (.int .i64 a.size):=by
    obtain⟨g',hg',he⟩:=HO2.out.cell (i:=k*6+1) (hfa 1 (by decide))
    simp only[Option.some.injEq,Addr.mk.injEq,and_true] at hg'
    subst hg'
    exact he
   have e22:w.cell? ⟨g2,k*6+2,none⟩=some (.int .i64 a.packed):=by
    obtain⟨g',hg',he⟩:=HO2.out.cell (i:=k*6+2) (hfa 2 (by decide))
    simp only[Option.some.injEq,Addr.mk.injEq,and_true] at hg'
    subst hg'
    exact he
   have e23:w.cell? ⟨g2,k*6+3,none⟩=some (.int .i64 a.lc):=by
    obtain⟨g',hg',he⟩:=HO2.out.cell (i:=k*6+3) (hfa 3 (by decide))
    simp only[Option.some.injEq,Addr.mk.injEq,and_true] at hg'
    subst hg'
    exact he
   have e24:w.cell? ⟨g2,k*6+4,none⟩=some (.int .i64 a.lp):=by
    obtain⟨g',hg',he⟩:=HO2.out.cell (i:=k*6+4) (hfa 4 (by decide))
    simp only[Option.some.injEq,Addr.mk.injEq,and_true] at hg'
    subst hg'
    exact he
   have e25:w.cell? ⟨g2,k*6+5,none⟩=some (.int .i64 a.pb):=by
    obtain⟨g',hg',he⟩:=HO2.out.cell (i:=k*6+5) (hfa 5 (by decide))
    simp only[Option.some.injEq,Addr.mk.injEq,and_true] at hg'
    subst hg'
    exact he
   have e20:w.cell? ⟨g2,k*6,none⟩=some (.int .i64 a.kind):=e20
   clear hfa ha
   have hidx:(k:Int)<n:=by omega
   go_wp2_with fail
   go_quiet (fail)
   go_wp2_with fail
   exact⟨⟨k+1,_,by omega,by go_num,rfl⟩,by simp[intOf];omega⟩
  ·have hkn2:k=n:=by omega
   subst hkn2
   go_wp2_with fail
   go_ret
   exact⟨rfl,_,rfl⟩
theorem more_quiet{P:Program}{f:FuncId}{args:Array Value}{w:World}{n:Nat}{v:Value}
 (h:Calls P f args (w.drewN n) fun e w'=>e=.returned v∧∃m,w'=(w.drewN n).drewN m):Calls P f args (w.drewN n) fun e w''=>e=.returned v∧∃m,w''=w.drewN m:=
 h.mono fun _ _ ⟨he,m,hm⟩=>⟨he,n+m,by rw[hm,World.drewN_drewN]⟩
theorem rows_calls(v1 v2:Value)(rs:List (List Sy))(w0 w1 w:World)(h1:RowsY w0 w v1 rs)(h2:RowsY w1 w v2 rs)(hl:rs.length≤1099511627776)(hl2:∀l ∈ rs,l.length≤1099511627776):Calls Tryz.prog 14 #[v1,v2] w (Yes w):=by
 obtain⟨vs1,o1,a1,b1,_⟩:=h1.ex
 obtain⟨vs2,o2,a2,b2,_⟩:=h2.ex
 obtain⟨p1,c1,rfl⟩:=o1.slice
 obtain⟨p2,c2,rfl⟩:=o2.slice
 have HO1:=Hd o1
 have HO2:=Hd o2
 have HB1:=Hd b1
 have HB2:=Hd b2
 have HA:=Hd (And.intro a1 (And.intro a2 hl2))
 clear h1 h2 o1 o2 b1 b2 a1 a2 hl2
 generalize hn:rs.length=n at*
 have HN:=Hd hn
 clear hn
 go_enter Tryz.func14,Tryz.ntmps14
 go_wp2_with fail
 go_loopw [5](fun i wr=>∃k m:Nat,k≤n∧i=.int .i64 k∧wr=w.drewN m) (fun i _=>n-(intOf i).toNat)
 case atStart=>exact⟨0,0,Nat.zero_le _,rfl,rfl⟩
 case round=>
  obtain⟨k,m,hkn,rfl,hwr⟩:=hrel
  have HWR:=Hd hwr
  by_cases hlt:k<n
  ·obtain⟨l,ha⟩:∃l,rs[k]? =some l:=⟨rs[k]'(HN.out ▸ hlt),List.getElem?_eq_getElem (HN.out ▸ hlt)⟩
   obtain⟨x1,hx1⟩:∃x,vs1[k]? =some x:=⟨vs1[k]'(by rw[HA.out.1];exact hlt),List.getElem?_eq_getElem _⟩
   obtain⟨x2,hx2⟩:∃x,vs2[k]? =some x:=⟨vs2[k]'(by rw[HA.out.2.1];exact hlt),List.getElem?_eq_getElem _⟩
   have s1:=HB1.out k x1 l hx1 ha
   have s2:=HB2.out k x2 l hx2 ha
   have s1:Syms w0 wr x1 l:=by rw[hwr];exact s1.step ((Fr.refl _ _).drewN m) (fun _ _ h=>h)
   have s2:Syms w1 wr x2 l:=by rw[hwr];exact s2.step ((Fr.refl _ _).drewN m) (fun _ _ h=>h)
   obtain⟨g1,hg1,e1⟩:=(show Own 53 1 w0 wr (.slice p1 n c1) n vs1 by rw[hwr];exact HO1.out.keep ((Fr.refl _ _).drewN m)).cell (i:=k) hx1
   subst hg1
   obtain⟨g2,hg2,e2⟩:=(show Own 53 1 w1 wr (.slice p2 n c2) n vs2 by rw[hwr];exact HO2.out.keep ((Fr.refl _ _).drewN m)).cell (i:=k) hx2
   subst hg2
   have hlm:=HA.out.2.2 l (List.mem_of_getElem? ha)
   have HSM:=fun(j:Nat)=>Hd (sames_calls x1 x2 l w0 w1 (wr.drewN j) (s1.step ((Fr.refl _ _).drewN j) (fun _ _ h=>h)) (s2.step ((Fr.refl _ _).drewN j) (fun _ _ h=>h)) hlm)
   obtain⟨q1,d1,rfl⟩:=(Own.of_syms s1).slice
   obtain⟨q2,d2,rfl⟩:=(Own.of_syms s2).slice
   unfold Yes at HSM
   clear s1 s2 hx1 hx2 ha hwr
   have hidx:(k:Int)<n:=by omega
   go_wp2_with fail
   go_quiet (with_reducible exact more_quiet (HSM _).out)
   go_wp2_with fail
   exact⟨⟨k+1,_,by omega,by go_num,by rw[HWR.out,World.drewN_drewN]⟩,by simp[intOf];omega⟩
  ·have hkn2:k=n:=by omega
   subst hkn2
   go_wp2_with fail
   go_ret
   exact⟨rfl,m,rfl⟩
end La
namespace Laid
theorem cells_of_grid{H:Type}{enc:TypeId×Value→H}{P:Program}{w:World}{base:Nat}{sp:Nat→Bool}{held:Bool}{fuel:Nat}{t e i:TypeId}{k:IntKind}{cs:List Value}{z0 z1 z2 z3:List Int}{p:List MemPlace}
 (ht:P.underlying t=some (.array 4 e))(he:P.underlying e=some (.array 7 i))(hi:P.underlying i=some (.int k))(hci:P.cellsOf i=1)(hce:P.cellsOf e=7)(hct:P.cellsOf t=28)
 (h:DataW.trod enc P w base sp held fuel t cs=some (.agg [Lib.tabData k z0,Lib.tabData k z1,Lib.tabData k z2,Lib.tabData k z3],p)):cs=(z0++(z1++(z2++z3))).map fun z=>Value.int k z:=by
 cases fuel with
 |zero=>simp[DataW.trod] at h
 |succ fuel=>
   simp only[DataW.trod,ht,hce,hct] at h
   split at h
   ·rename_i hl
    obtain⟨xs,hm,hx⟩:=Option.map_eq_some_iff.1 h
    have hxs:xs.map (·.1)=[Lib.tabData k z0,Lib.tabData k z1,Lib.tabData k z2,Lib.tabData k z3]:=by
     have:=congrArg Prod.fst hx
     simpa using this
    have key:∀j z,[z0,z1,z2,z3][j]? =some z→(cs.drop (j*7)).take 7=z.map fun z=>Value.int k z:=fun j z hz=>by
     have hj:j<4:=by have:=(List.getElem?_eq_some_iff.1 hz).1;simpa using this
     obtain⟨b,hb,hf⟩:=Lib.mapM_at hm j j (by simp[hj])
     have h2:(xs.map (·.1))[j]? =some b.1:=by simp[hb]
     have h3:[Lib.tabData (H:=H) k z0,Lib.tabData k z1,Lib.tabData k z2,Lib.tabData k z3][j]? =some (Lib.tabData k z):=by
      have:[Lib.tabData (H:=H) k z0,Lib.tabData k z1,Lib.tabData k z2,Lib.tabData k z3]=[z0,z1,z2,z3].map (Lib.tabData (H:=H) k):=rfl
      rw[this,List.getElem?_map,hz]
      rfl
     rw[hxs,h3] at h2
     have h4:=Option.some.inj h2
     obtain⟨b1,b2⟩:=b
     simp only at h4
     subst h4
     exact Lib.cells_of_tab he hi hci hce hf
    have k0:=key 0 z0 rfl
    have k1:=key 1 z1 rfl
    have k2:=key 2 z2 rfl
    have k3:=key 3 z3 rfl
    rw[List.map_append,List.map_append,List.map_append,←k0,←k1,←k2,←k3]
    apply List.ext_getElem?
    intro x
    simp only[List.getElem?_append,List.getElem?_take,List.getElem?_drop,List.length_take,List.length_drop,hl]
    repeat' split
    all_goals first|(congr 1;omega)|(rw[List.getElem?_eq_none (by omega)])|omega
   ·cases h
end Laid
end Go.Proofs.YtilegoadokmcdaaGreatDoor
namespace Go.Proofs.YtilegoadokmcdaaGreatDoor
namespace Bulk
theorem one_le{H:Type}(d:DataW H):1≤Rows.uptoBulk d:=by
 cases d with
 |lit l=>cases l<;>simp[Rows.uptoBulk]
 |nil=>simp[Rows.uptoBulk]
 |ptr d=>simp[Rows.uptoBulk]
 |slice elems spare=>simp[Rows.uptoBulk]
 |agg parts=>simp[Rows.uptoBulk]
 |iface t d=>simp[Rows.uptoBulk]
 |map es=>simp[Rows.uptoBulk]
 |held h=>simp[Rows.uptoBulk]
theorem part_le{H:Type}{d:DataW H}{l:List (DataW H)}(h:d ∈ l):Rows.uptoBulk d≤Rows.uptoBulkAll l:=by
 induction l with
 |nil=>cases h
 |cons x r ih=>
   simp only[Rows.uptoBulkAll]
   cases List.mem_cons.1 h with
   |inl e=>subst e;omega
   |inr e=>have:=ih e;omega
theorem length_le{H:Type}(l:List (DataW H)):l.length≤Rows.uptoBulkAll l:=by
 induction l with
 |nil=>simp[Rows.uptoBulkAll]
 |cons x r ih=>have:=one_le x;simp only[Rows.uptoBulkAll,List.length_cons];omega
theorem slice_le{H:Type}(elems spare:List (DataW H)):elems.length+spare.length+1≤Rows.uptoBulk (.slice elems spare):=by
 have h1:=length_le elems
 have h2:=length_le spare
 simp only[Rows.uptoBulk]
 omega
theorem bound{H:Type}{l:List (DataW H)}(hk:Rows.uptoSmall H l=true):Rows.uptoBulkAll l≤1048576:=of_decide_eq_true hk
end Bulk
end Go.Proofs.YtilegoadokmcdaaGreatDoor
namespace Go.Proofs.YtilegoadokmcdaaGreatDoor
open Go.ChangeShapes Go.WideShapes Go.Deep Go.RowKit
namespace Opened
open Mem
section
variable {H:Type}{enc:TypeId×Value→H}{P:Program}{w:World}{base:Nat}{spare:Nat→Bool}{held:Bool}
theorem trod_int_cell{fuel:Nat}{t:TypeId}{k:IntKind}{v:Value}{x:DataW H×List MemPlace}(ht:P.underlying t=some (.int k))(h:DataW.trod enc P w base spare held fuel t [v]=some x):
 ∃n:Int,v=.int k n∧(Lit.int k n).wf=true:=by
 obtain⟨n,h1,h2,h3⟩:=DataW.trod_int ht h
 exact⟨n,by simpa using h1,h3⟩
end
end Opened
namespace Opened
open Mem
section
variable {H:Type}{enc:TypeId×Value→H}{P:Program}{w:World}{base:Nat}{held:Bool}
theorem open_bytes{t e:TypeId}{fuel:Nat}{v:Value}{x:DataW H×List MemPlace}(ht:P.underlying t=some (.slice e))(he:P.underlying e=some (.int .u8))(hc:P.cellsOf e=1)
 (h:DataW.trod enc P w base (fun _=>true) held fuel t [v]=some x):∃xs:List UInt8,Rd w v xs∧xs.length<Rows.uptoBulk x.1:=by
 rcases open_ints ht he hc h with⟨h0,rfl⟩|⟨a,len,cap,zs,hcs,_,hl,hm,hz,rfl,hcell,hwf⟩
 ·simp only[List.cons.injEq,and_true] at h0
  subst h0
  exact⟨[],Rd.nil w,Bulk.one_le (H:=H) .nil⟩
 ·simp only[List.cons.injEq,and_true] at hcs
  subst hcs
  rw[if_pos rfl] at hz
  have hxl:((zs.take len).map fun z=>UInt8.ofNat z.toNat).length=len:=by rw[List.length_map,List.length_take];omega
  refine⟨(zs.take len).map fun z=>UInt8.ofNat z.toNat,⟨some a,cap,by rw[hxl],by omega,hm,fun h0=> ?_⟩,?_⟩
  ·rw[hxl] at h0
   have hpl:=row_plain (V:=fun i=>.int .u8 (zs.getD i 0)) hcell (by omega)
   refine⟨a.block,a.off,by rw[←hpl],fun i y hy=> ?_⟩
   have hi:i<len:=by have:=(List.getElem?_eq_some_iff.1 hy).1;omega
   have hcc:=hcell i (by omega)
   rw[hpl,add_mid] at hcc
   rw[hcc]
   have hzi:zs[i]? =some (zs[i]'(by omega)):=List.getElem?_eq_getElem (by omega)
   rw[List.getElem?_map,List.getElem?_take,if_pos hi,hzi] at hy
   simp only[Option.map_some,Option.some.injEq] at hy
   have hw:=hwf (zs[i]'(by omega)) (List.getElem_mem _)
   have hb:0≤zs[i]'(by omega)∧zs[i]'(by omega)≤255:=by simpa [Lit.wf,IntKind.min,IntKind.max,IntKind.signed,IntKind.bits] using hw
   subst hy
   simp only[bv,List.getD,hzi,Option.getD_some]
   congr 2
   rw[UInt8.toNat_ofNat']
   omega
  ·rw[hxl]
   have:=Bulk.slice_le (H:=H) (lits .u8 (zs.take len)) (lits .u8 (zs.drop len))
   have hll:(lits (H:=H) .u8 (zs.take len)).length=len:=by simp[lits];omega
   show len<Rows.uptoBulk (DataW.slice (lits (H:=H) .u8 (zs.take len)) (lits .u8 (zs.drop len)))
   omega
end
end Opened
end Go.Proofs.YtilegoadokmcdaaGreatDoor
