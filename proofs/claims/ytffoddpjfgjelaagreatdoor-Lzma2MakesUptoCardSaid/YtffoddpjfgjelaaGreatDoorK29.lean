/- Part 29 of 54: lemmas of the last part, each under the conditions that it names. -/
import Derived.StillTailTactics
import Derived.Test.YtffoddpjfgjelaaGreatDoorK28
set_option linter.unusedVariables false
set_option linter.unusedSimpArgs false
set_option maxRecDepth 1500
namespace Go.Proofs.YtffoddpjfgjelaaGreatDoor
open Go.RowKit
namespace En
open Mem Rc Win Lz St
theorem XAt.atC{w:World}{l:XL}{x:Xe}(h:XAt w l x)(m:Nat):Calls Tryz.prog 192 #[ptr l.T,.int .i64 x.c.all.length] (w.drewN m) fun e a=>e=.returned (.int .i64 x.c.at)∧∃n,a=w.drewN n:=by
 refine(at_calls l.T x.c.all.length x.c.pb x.c.s.num _ (h.drewN m).cells.t2 (h.drewN m).cells.t3 h.ok.c.pb (by have:=h.win.much;omega) h.ok.c.s.num).mono ?_;rintro e a ⟨rfl,n,rfl⟩;exact⟨rfl,m+n,by simp⟩
theorem XPost.cells{w W:World}{l:XL}{x:Xe}(h:XPost l w x W):XCells W l x:=by
 obtain⟨_,v,a,_⟩:=h;exact⟨a.cells.1,a.cells.2,a.cells.3,a.cells.4,a.cells.5,a.cells.6,a.cells.7,a.cells.8,a.cells.9,a.cells.10,a.cells.11,a.cells.12⟩
theorem XPost.kept{w W:World}{l:XL}{x e:Xe}(b:XAt w l e)(h:XPost l w x W){k:Nat}{n d:Int}{a by':Nat}(c:w.heap[k]? =some (.cells (syV a by' n d) 110 (0,0))):W.heap[k]? =some (.cells (syV a by' n d) 110 (0,0)):=
 b.box c (by decide) (by decide) (by decide) h.1
theorem XPost.start{w:World}{l:XL}{x:Xe}(h:XAt w l x)(b:XSep l):XPost l w (x.ops []) w:=⟨Fr.refl _ _,l.v,h,b,fun k a=>.inl a⟩
theorem bit_step{w W:World}{l:XL}{x:Xe}{o:List Op}(c:XPost l w (x.ops o) W){j i b:Nat}(h:Op.Ok x.c.lc x.c.lp (.bit j i b))(g:x.e.k.s+o.length≤1099511627000):
 Calls Tryz.prog 339 #[sinkV l.E,ptr (l.b j),.int .i64 i,.int .i64 b] W.drew fun e d=>e=.returned (.tuple #[])∧XPost l w (x.ops (o++[.bit j i b])) d:=by
 obtain⟨f,v,a,s,n⟩:=c;refine(cbit_calls (a.keep (R0 W).drew) s h (Nat.le_trans (run_s o x.e) g)).mono ?_;rintro e d ⟨rfl,c⟩;refine⟨rfl,?_⟩;rw[←ops_ops];exact XPost.trans f n (XPost.box (R0 W).drew c)
theorem len_len(c:C)(q n:Nat):(lenOps c q n).length≤10:=by
 unfold lenOps;split
 ·simp[tree_len]
 ·split<;>simp[tree_len]
theorem row_ok{c:C}(h:c.Ok){j i b:Nat}(f:j=0∧i=c.at∨j=1∧i=c.at∨(2≤j∧j≤5)∧i=c.s.num)(e:b≤1):Op.Ok c.lc c.lp (.bit j i b):=by
 have a:=at_lt c h;have d:=h.s.num;refine⟨by omega,?_,e⟩;unfold Lz.rowLen;rcases f with⟨rfl,rfl⟩|⟨rfl,rfl⟩|⟨g,rfl⟩
 ·exact a
 ·exact a
 ·rw[if_neg (by omega),if_pos (by omega)]
  omega
end En
end Go.Proofs.YtffoddpjfgjelaaGreatDoor
