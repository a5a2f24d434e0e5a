/- Part 51 of 54: lemmas of the last part, each under the conditions that it names. -/
import Derived.Test.YtffoddpjfgjelaaGreatDoorK37
set_option linter.unusedVariables false
set_option linter.unusedSimpArgs false
set_option maxRecDepth 1500
set_option maxHeartbeats 1000000
namespace Go.Proofs.YtffoddpjfgjelaaGreatDoor
open Go.RowKit
namespace La
open Mem Win Ck Ga Wire Lz
def Yes(w:World)(e:Ending)(w':World):Prop:=e=.returned (.bool true)∧∃m,w'=w.drewN m
theorem held_calls(p:Option Addr)(a:Nat)(b:List UInt8)(av:Value)(w0 w:World)(l:Mine w0 w (.slice p (b.length+1) a) (b++[77]))(r:b.length<a)(j:Rd w av b)(z:b.length≤16777216):Calls Tryz.prog 11 #[.slice p b.length a,av] w (Yes w):=by
 have f:=room_rd l;obtain⟨q,u,n⟩:∃g,p=some ⟨g,0,none⟩∧w.cell? ⟨g,b.length,none⟩=some (.int .u8 (77:Int)):=by
  have h:=(Own.of_mine l);rw[List.length_append,List.length_singleton] at h;exact h.cell (i:=b.length) (by simp[bvs,bv])
 subst u;obtain⟨o,k,rfl,c,d,e⟩:=j;have j:Rd w (.slice o b.length k) b:=⟨o,k,rfl,c,d,e⟩;have v:=slice_hbI (some ⟨q,0,none⟩) b.length a (b.length+1) ((b.length:Int)+1) (by omega) (by omega);have x:=slice_hbI (some ⟨q,0,none⟩) (b.length+1) a b.length (b.length:Int) rfl (by omega);have s:∀m,(convert 22 9 (.slice (some ⟨q,0,none⟩) b.length a)).run Tryz.prog (w.drewN m)=.ok (.string (str b)) (w.drewN m):=fun m=>conv_str (f.keep ((Fr.refl _ _).drewN m));have t:∀m,(convert 22 9 (.slice o b.length k)).run Tryz.prog (w.drewN m)=.ok (.string (str b)) (w.drewN m):=fun m=>conv_str (j.keep ((Fr.refl _ _).drewN m));have y:((str b).toList==(str b).toList)=true:=by simp
 clear l f j c d e;go_enter Tryz.func11,Tryz.ntmps11;go_wp2_with fail;go_quiet (fail);go_wp2_with fail;go_ret;exact⟨rfl,_,rfl⟩
end La
end Go.Proofs.YtffoddpjfgjelaaGreatDoor
