/- Part 40 of 54: lemmas of the last part, each under the conditions that it names. -/
import Derived.BigQuiet
import Derived.Test.YtffoddpjfgjelaaGreatDoorK39
set_option linter.unusedVariables false
set_option linter.unusedSimpArgs false
set_option maxRecDepth 1500
set_option maxHeartbeats 4000000
namespace Go.Proofs.YtffoddpjfgjelaaGreatDoor
open Go.RowKit
namespace Rf
open Mem Rc Prob St Lz Win En Ga
theorem alloc2(w:World)(o a:Obj):((w.alloc o).alloc a).heap[w.heap.size+1]? =some a:=by
 have:=heap_alloc_new (w.alloc o) a;rwa [World.size_alloc] at this
theorem name2_calls(s:List UInt8)(n p B:Nat)(x:s.length≤900)(h:n<100)(j:p<100)(w:World)(a:w.heap[B]? =some (.cells #[.int .i64 n,.int .i64 p] 3 (0,0))):Calls Tryz.prog 143 #[bstr s,.slice (some ⟨B,0,none⟩) 2 2] w fun e c=>e=.returned (bstr (num (num s n) p))∧w=c:=by
 have d:=Hd (itoa_calls n h w);have f:=Hd (itoa_calls p j w);have b:=num_len s n;have q:(s++[32]).length≤1001:=by simp;omega
 have r:(dig n).length≤2:=by unfold dig;split<;>simp
 have t:(num s n++[32]).length≤1001:=by simp;omega
 have u:(dig p).length≤2:=by unfold dig;split<;>simp
 have y:=run_string_add_lists (P:=Tryz.prog) w s [32] (by omega) (by simp);have k:=run_string_add_lists (P:=Tryz.prog) w (s++[32]) (dig n) (by omega) (by omega);have z:=run_string_add_lists (P:=Tryz.prog) w (num s n) [32] (by omega) (by simp);have l:=run_string_add_lists (P:=Tryz.prog) w (num s n++[32]) (dig p) (by omega) (by omega);have e:s++[32]++dig n=num s n:=by simp[num]
 have g:num s n++[32]++dig p=num (num s n) p:=by rw[num.eq_1 (num s n)];simp
 have m:w.cell? ⟨B,0,none⟩=some (.int .i64 n):=cell_in a rfl;have o:w.cell? ⟨B,1,none⟩=some (.int .i64 p):=cell_in a rfl;rw[e] at k;rw[g] at l;clear a b;go_enter Tryz.func143,Tryz.ntmps143;go_wp2_with fail;go_loopw [0,5] (fun v i wr=>(i=.int .i64 0∧v=bstr s∨i=.int .i64 1∧v=bstr (num s n)∨i=.int .i64 2∧v=bstr (num (num s n) p))∧wr=w) (fun _ i _=>2-(intOf i).toNat);case atStart=>exact⟨.inl ⟨rfl,rfl⟩,rfl⟩
 case round=>
  obtain⟨⟨rfl,rfl⟩|⟨rfl,rfl⟩|⟨rfl,rfl⟩,rfl⟩:=hrel
  ·go_wp2_with fail
   refine d.out.mono ?_;rintro e c ⟨rfl,rfl⟩;go_wp2_with fail;go_roundw;case rel=>exact⟨.inr (.inl ⟨rfl,rfl⟩),by first|rfl|trivial⟩
   case measure=>simp[intOf]
  ·go_wp2_with fail
   refine f.out.mono ?_;rintro e c ⟨rfl,rfl⟩;go_wp2_with fail;go_roundw;case rel=>exact⟨.inr (.inr ⟨rfl,rfl⟩),by first|rfl|trivial⟩
   case measure=>simp[intOf]
  ·go_wp2_with fail
   go_ret;exact⟨rfl,rfl⟩
set_option maxRecDepth 100000 in
theorem rep14_calls{l:RL}{c:C}{ps:Nat→List Nat}{w:World}(h:Cod w l c ps)(i:Nat)(M:i≤3):
 Calls Tryz.prog 147 #[ptr l.K,.int .i64 i] w fun e p=>∃v,e=.returned v∧Fr (fun _=>False) w p∧BL w p v (whichNb c i):=by
 have F:=h.cells.p4;have K:c.s.num<12:=h.okc.s.num;obtain⟨L,q⟩:∃L,L=whichNb c i:=⟨_,rfl⟩;rw[←q];unfold whichNb at q;clear h;generalize c.s.num=n at*;have t:=fun(s:List UInt8)(hs:s.length≤1000)(B:Nat)(W:World)(hB:W.heap[B]? =some (.cells #[.int .i64 n] 3 (0,0)))=>Hd (name_calls s n B hs (by omega) W hB);have D:=t sIsRep (by decide);have x:=t sIsRep0 (by decide);have y:=t sIsRep1 (by decide);have A:=t sIsRep2 (by decide);clear t;have E:=Hd q;clear q K;obtain rfl|rfl|rfl|rfl:i=0∨i=1∨i=2∨i=3:=by omega
 ·have q:L=[.bit (nIsRep n) 0 1]++[.bit (nIsRep0 n) 0 0]:=E.out
  go_enter Tryz.func147,Tryz.ntmps147;go_wp2_with fail;refine(D w.heap.size _ (heap_alloc_new w _)).out.mono ?_;rintro e p ⟨rfl,rfl⟩;have d:=Hd ((R0 w).alloc (.cells #[.int .i64 n] 3));clear F;generalize World.alloc w _=w1 at*;go_wp2_with fail;refine(x (w1.heap.size+1) _ (alloc2 w1 _ _)).out.mono ?_;rintro e p ⟨rfl,rfl⟩;have b:=Hd ((BL.made (w0:=w) (l:=[.bit (nIsRep n) 0 1]) (n:=1) (heap_alloc_new w1 (.cells #[bstr (num sIsRep n),.int .i64 0,.int .i64 1] 178)) rfl d.out.size (by simp)).keep ((R0 _).alloc (.cells #[.int .i64 n] 3)));have a:=Hd ((d.out.alloc (.cells #[bstr (num sIsRep n),.int .i64 0,.int .i64 1] 178)).alloc (.cells #[.int .i64 n] 3));generalize World.alloc (World.alloc w1 _) _=w2 at*;have m:=Hd (BL.made (w0:=w) (l:=[.bit (nIsRep0 n) 0 0]) (n:=1) (heap_alloc_new w2 (.cells #[bstr (num sIsRep0 n),.int .i64 0,.int .i64 0] 178)) rfl a.out.size (by simp));have b:=Hd (b.out.keep ((R0 w2).alloc (.cells #[bstr (num sIsRep0 n),.int .i64 0,.int .i64 0] 178)));have a:=Hd (a.out.alloc (.cells #[bstr (num sIsRep0 n),.int .i64 0,.int .i64 0] 178));go_wp2_with (at_builtin;refine append_bits rfl _ _ rfl (w0:=w) (.slice (some ⟨w1.heap.size,0,none⟩) 1 1) (.slice (some ⟨w2.heap.size,0,none⟩) 1 1) [.bit (nIsRep n) 0 1] [.bit (nIsRep0 n) 0 0] rfl rfl b.out m.out a.out.size (by simp only[List.length_singleton,List.length_cons,List.length_nil];omega) ?_;intro I u H J j f g;have k:=Hd f;have o:=Hd g;have r:=Hd j;clear f g j);go_ret;exact⟨_,rfl,a.out.trans' o.out (fun i G z=>by have:=b.out.new i z;omega),by rw[q];exact k.out⟩
 ·have q:L=[.bit (nIsRep n) 0 1]++[.bit (nIsRep0 n) 0 1,.bit (nIsRep1 n) 0 0]:=E.out
  go_enter Tryz.func147,Tryz.ntmps147;go_wp2_with fail;refine(D w.heap.size _ (heap_alloc_new w _)).out.mono ?_;rintro e p ⟨rfl,rfl⟩;have d:=Hd ((R0 w).alloc (.cells #[.int .i64 n] 3));clear F;generalize World.alloc w _=w1 at*;go_wp2_with fail;refine(x (w1.heap.size+1) _ (alloc2 w1 _ _)).out.mono ?_;rintro e p ⟨rfl,rfl⟩;have b:=Hd ((BL.made (w0:=w) (l:=[.bit (nIsRep n) 0 1]) (n:=1) (heap_alloc_new w1 (.cells #[bstr (num sIsRep n),.int .i64 0,.int .i64 1] 178)) rfl d.out.size (by simp)).keep ((R0 _).alloc (.cells #[.int .i64 n] 3)));have a:=Hd ((d.out.alloc (.cells #[bstr (num sIsRep n),.int .i64 0,.int .i64 1] 178)).alloc (.cells #[.int .i64 n] 3));generalize World.alloc (World.alloc w1 _) _=w2 at*;go_wp2_with fail;refine(y w2.heap.size _ (heap_alloc_new w2 _)).out.mono ?_;rintro e p ⟨rfl,rfl⟩;have b:=Hd (b.out.keep ((R0 w2).alloc (.cells #[.int .i64 n] 3)));have a:=Hd (a.out.alloc (.cells #[.int .i64 n] 3));generalize World.alloc w2 _=w2 at*;have m:=Hd (BL.made (w0:=w) (l:=[.bit (nIsRep0 n) 0 1,.bit (nIsRep1 n) 0 0]) (n:=2) (heap_alloc_new w2 (.cells #[bstr (num sIsRep0 n),.int .i64 0,.int .i64 1,bstr (num sIsRep1 n),.int .i64 0,.int .i64 0] 178)) rfl a.out.size (by simp));have b:=Hd (b.out.keep ((R0 w2).alloc (.cells #[bstr (num sIsRep0 n),.int .i64 0,.int .i64 1,bstr (num sIsRep1 n),.int .i64 0,.int .i64 0] 178)));have a:=Hd (a.out.alloc (.cells #[bstr (num sIsRep0 n),.int .i64 0,.int .i64 1,bstr (num sIsRep1 n),.int .i64 0,.int .i64 0] 178));go_wp2_with (at_builtin;refine append_bits rfl _ _ rfl (w0:=w) (.slice (some ⟨w1.heap.size,0,none⟩) 1 1) (.slice (some ⟨w2.heap.size,0,none⟩) 2 2) [.bit (nIsRep n) 0 1] [.bit (nIsRep0 n) 0 1,.bit (nIsRep1 n) 0 0] rfl rfl b.out m.out a.out.size (by simp only[List.length_singleton,List.length_cons,List.length_nil];omega) ?_;intro I u H J j f g;have k:=Hd f;have o:=Hd g;have r:=Hd j;clear f g j);go_ret;exact⟨_,rfl,a.out.trans' o.out (fun i G z=>by have:=b.out.new i z;omega),by rw[q];exact k.out⟩
 ·have q:L=[.bit (nIsRep n) 0 1]++[.bit (nIsRep0 n) 0 1,.bit (nIsRep1 n) 0 1,.bit (nIsRep2 n) 0 0]:=E.out
  go_enter Tryz.func147,Tryz.ntmps147;go_wp2_with fail;refine(D w.heap.size _ (heap_alloc_new w _)).out.mono ?_;rintro e p ⟨rfl,rfl⟩;have d:=Hd ((R0 w).alloc (.cells #[.int .i64 n] 3));clear F;generalize World.alloc w _=w1 at*;go_wp2_with fail;refine(x (w1.heap.size+1) _ (alloc2 w1 _ _)).out.mono ?_;rintro e p ⟨rfl,rfl⟩;have b:=Hd ((BL.made (w0:=w) (l:=[.bit (nIsRep n) 0 1]) (n:=1) (heap_alloc_new w1 (.cells #[bstr (num sIsRep n),.int .i64 0,.int .i64 1] 178)) rfl d.out.size (by simp)).keep ((R0 _).alloc (.cells #[.int .i64 n] 3)));have a:=Hd ((d.out.alloc (.cells #[bstr (num sIsRep n),.int .i64 0,.int .i64 1] 178)).alloc (.cells #[.int .i64 n] 3));generalize World.alloc (World.alloc w1 _) _=w2 at*;go_wp2_with fail;refine(y w2.heap.size _ (heap_alloc_new w2 _)).out.mono ?_;rintro e p ⟨rfl,rfl⟩;have b:=Hd (b.out.keep ((R0 w2).alloc (.cells #[.int .i64 n] 3)));have a:=Hd (a.out.alloc (.cells #[.int .i64 n] 3));generalize World.alloc w2 _=w2 at*;go_wp2_with fail;refine(A w2.heap.size _ (heap_alloc_new w2 _)).out.mono ?_;rintro e p ⟨rfl,rfl⟩;have b:=Hd (b.out.keep ((R0 w2).alloc (.cells #[.int .i64 n] 3)));have a:=Hd (a.out.alloc (.cells #[.int .i64 n] 3));generalize World.alloc w2 _=w2 at*;have m:=Hd (BL.made (w0:=w) (l:=[.bit (nIsRep0 n) 0 1,.bit (nIsRep1 n) 0 1,.bit (nIsRep2 n) 0 0]) (n:=3) (heap_alloc_new w2 (.cells #[bstr (num sIsRep0 n),.int .i64 0,.int .i64 1,bstr (num sIsRep1 n),.int .i64 0,.int .i64 1,bstr (num sIsRep2 n),.int .i64 0,.int .i64 0] 178)) rfl a.out.size (by simp));have b:=Hd (b.out.keep ((R0 w2).alloc (.cells #[bstr (num sIsRep0 n),.int .i64 0,.int .i64 1,bstr (num sIsRep1 n),.int .i64 0,.int .i64 1,bstr (num sIsRep2 n),.int .i64 0,.int .i64 0] 178)));have a:=Hd (a.out.alloc (.cells #[bstr (num sIsRep0 n),.int .i64 0,.int .i64 1,bstr (num sIsRep1 n),.int .i64 0,.int .i64 1,bstr (num sIsRep2 n),.int .i64 0,.int .i64 0] 178));go_wp2_with (at_builtin;refine append_bits rfl _ _ rfl (w0:=w) (.slice (some ⟨w1.heap.size,0,none⟩) 1 1) (.slice (some ⟨w2.heap.size,0,none⟩) 3 3) [.bit (nIsRep n) 0 1] [.bit (nIsRep0 n) 0 1,.bit (nIsRep1 n) 0 1,.bit (nIsRep2 n) 0 0] rfl rfl b.out m.out a.out.size (by simp only[List.length_singleton,List.length_cons,List.length_nil];omega) ?_;intro I u H J j f g;have k:=Hd f;have o:=Hd g;have r:=Hd j;clear f g j);go_ret;exact⟨_,rfl,a.out.trans' o.out (fun i G z=>by have:=b.out.new i z;omega),by rw[q];exact k.out⟩
 ·have q:L=[.bit (nIsRep n) 0 1]++[.bit (nIsRep0 n) 0 1,.bit (nIsRep1 n) 0 1,.bit (nIsRep2 n) 0 1]:=E.out
  go_enter Tryz.func147,Tryz.ntmps147;go_wp2_with fail;refine(D w.heap.size _ (heap_alloc_new w _)).out.mono ?_;rintro e p ⟨rfl,rfl⟩;have d:=Hd ((R0 w).alloc (.cells #[.int .i64 n] 3));clear F;generalize World.alloc w _=w1 at*;go_wp2_with fail;refine(x (w1.heap.size+1) _ (alloc2 w1 _ _)).out.mono ?_;rintro e p ⟨rfl,rfl⟩;have b:=Hd ((BL.made (w0:=w) (l:=[.bit (nIsRep n) 0 1]) (n:=1) (heap_alloc_new w1 (.cells #[bstr (num sIsRep n),.int .i64 0,.int .i64 1] 178)) rfl d.out.size (by simp)).keep ((R0 _).alloc (.cells #[.int .i64 n] 3)));have a:=Hd ((d.out.alloc (.cells #[bstr (num sIsRep n),.int .i64 0,.int .i64 1] 178)).alloc (.cells #[.int .i64 n] 3));generalize World.alloc (World.alloc w1 _) _=w2 at*;go_wp2_with fail;refine(y w2.heap.size _ (heap_alloc_new w2 _)).out.mono ?_;rintro e p ⟨rfl,rfl⟩;have b:=Hd (b.out.keep ((R0 w2).alloc (.cells #[.int .i64 n] 3)));have a:=Hd (a.out.alloc (.cells #[.int .i64 n] 3));generalize World.alloc w2 _=w2 at*;go_wp2_with fail;refine(A w2.heap.size _ (heap_alloc_new w2 _)).out.mono ?_;rintro e p ⟨rfl,rfl⟩;have b:=Hd (b.out.keep ((R0 w2).alloc (.cells #[.int .i64 n] 3)));have a:=Hd (a.out.alloc (.cells #[.int .i64 n] 3));generalize World.alloc w2 _=w2 at*;have m:=Hd (BL.made (w0:=w) (l:=[.bit (nIsRep0 n) 0 1,.bit (nIsRep1 n) 0 1,.bit (nIsRep2 n) 0 1]) (n:=3) (heap_alloc_new w2 (.cells #[bstr (num sIsRep0 n),.int .i64 0,.int .i64 1,bstr (num sIsRep1 n),.int .i64 0,.int .i64 1,bstr (num sIsRep2 n),.int .i64 0,.int .i64 1] 178)) rfl a.out.size (by simp));have b:=Hd (b.out.keep ((R0 w2).alloc (.cells #[bstr (num sIsRep0 n),.int .i64 0,.int .i64 1,bstr (num sIsRep1 n),.int .i64 0,.int .i64 1,bstr (num sIsRep2 n),.int .i64 0,.int .i64 1] 178)));have a:=Hd (a.out.alloc (.cells #[bstr (num sIsRep0 n),.int .i64 0,.int .i64 1,bstr (num sIsRep1 n),.int .i64 0,.int .i64 1,bstr (num sIsRep2 n),.int .i64 0,.int .i64 1] 178));go_wp2_with (at_builtin;refine append_bits rfl _ _ rfl (w0:=w) (.slice (some ⟨w1.heap.size,0,none⟩) 1 1) (.slice (some ⟨w2.heap.size,0,none⟩) 3 3) [.bit (nIsRep n) 0 1] [.bit (nIsRep0 n) 0 1,.bit (nIsRep1 n) 0 1,.bit (nIsRep2 n) 0 1] rfl rfl b.out m.out a.out.size (by simp only[List.length_singleton,List.length_cons,List.length_nil];omega) ?_;intro I u H J j f g;have k:=Hd f;have o:=Hd g;have r:=Hd j;clear f g j);go_ret;exact⟨_,rfl,a.out.trans' o.out (fun i G z=>by have:=b.out.new i z;omega),by rw[q];exact k.out⟩
end Rf
namespace Rf
open Mem Rc Prob St Lz Win En Ga
theorem coder_len14(q:Nat):(coder q).length≤5:=by unfold coder;split<;>decide
set_option maxRecDepth 100000 in
theorem length14_calls{l:RL}{c:C}{ps:Nat→List Nat}{w:World}(h:Cod w l c ps)(q:Nat)(hq:q=7∨q=11)(n:Nat)(a0:2≤n)(a6:n≤273):
 Calls Tryz.prog 145 #[ptr l.K,bstr (coder q),.int .i64 n] w fun e y=>∃v,e=.returned v∧Fr (fun _=>False) w y∧BL w y v (lenNb c q n):=by
 have Y:=coder_len14 q;have a7:=h.okc.place;have O:=Hd (Rf.place_calls h);obtain⟨L,u⟩:∃L,L=lenNb c q n:=⟨_,rfl⟩;rw[←u];unfold lenNb at u;clear h;generalize c.place=pl at*;have I:=Hd u;clear u;have a1:=fun W=>run_string_add_lists (P:=Tryz.prog) W (coder q) sChoice (by omega) (by decide);have a2:=fun W=>run_string_add_lists (P:=Tryz.prog) W (coder q) sLow (by omega) (by decide);have a3:=fun W=>run_string_add_lists (P:=Tryz.prog) W (coder q) sChoice2 (by omega) (by decide);have a4:=fun W=>run_string_add_lists (P:=Tryz.prog) W (coder q) sMid (by omega) (by decide);have a5:=fun W=>run_string_add_lists (P:=Tryz.prog) W (coder q) sHigh (by omega) (by decide);have J:=fun(B:Nat)(W:World)(hB:W.heap[B]? =some (.cells #[.int .i64 pl] 3 (0,0)))=>Hd (name_calls (coder q++sLow) pl B (by rw[List.length_append];have:sLow.length=4:=rfl;omega) (by omega) W hB);have K:=fun(B:Nat)(W:World)(hB:W.heap[B]? =some (.cells #[.int .i64 pl] 3 (0,0)))=>Hd (name_calls (coder q++sMid) pl B (by rw[List.length_append];have:sMid.length=4:=rfl;omega) (by omega) W hB);have N:=fun(z:Int)(x:Nat)(hz:z=(x:Int))(hx:x≤1000)(W:World)=>Hd (show Calls Tryz.prog 210 #[bstr (num (coder q++sLow) pl),.int .i64 3,.int .i64 z] W (fun e y=>∃v,e=.returned v∧Fr (fun _=>False) W y∧BL W y v (treeNb false (nLow q pl) 3 x 3 1)) from by rw[hz];exact rtree_calls (nLow q pl) 3 x (by decide) (by omega) W);have Q:=fun(z:Int)(x:Nat)(hz:z=(x:Int))(hx:x≤1000)(W:World)=>Hd (show Calls Tryz.prog 210 #[bstr (num (coder q++sMid) pl),.int .i64 3,.int .i64 z] W (fun e y=>∃v,e=.returned v∧Fr (fun _=>False) W y∧BL W y v (treeNb false (nMid q pl) 3 x 3 1)) from by rw[hz];exact rtree_calls (nMid q pl) 3 x (by decide) (by omega) W);have M:=fun(z:Int)(x:Nat)(hz:z=(x:Int))(hx:x≤1000)(W:World)=>Hd (show Calls Tryz.prog 210 #[bstr (coder q++sHigh),.int .i64 8,.int .i64 z] W (fun e y=>∃v,e=.returned v∧Fr (fun _=>False) W y∧BL W y v (treeNb false (nHigh q) 8 x 8 1)) from by rw[hz];exact rtree_calls (nHigh q) 8 x (by decide) (by omega) W);have S:sChoice=[32,67,104,111,105,99,101]:=rfl;have U:sLow=[32,76,111,119]:=rfl;have H:sChoice2=[32,67,104,111,105,99,101,50]:=rfl;have V:sMid=[32,77,105,100]:=rfl;have T:sHigh=[32,72,105,103,104]:=rfl;rw[S] at a1;rw[U] at a2 J N;rw[H] at a3;rw[V] at a4 K Q;rw[T] at a5 M;clear S U H V T Y;go_enter Tryz.func145,Tryz.ntmps145;go_wp2_with fail;refine O.out.mono ?_;rintro e s ⟨rfl,m,rfl⟩;have t:=Hd ((R0 w).drewN m);clear O;generalize w.drewN m=s at*;by_cases Z:n<10
 ·have t1:decide ((n:Int)-2<8)=true:=decide_eq_true (by omega)
  have u:L=[.bit (nChoice q) 0 0]++treeNb false (nLow q pl) 3 (n-2) 3 1:=by rw[I.out,if_pos Z]
  have F:=Hd u;clear u I;go_wp2_with fail;refine(J (s.heap.size+1) _ (alloc2 s _ _)).out.mono ?_;rintro e y ⟨rfl,rfl⟩;have a:=Hd ((BL.made (w0:=w) (l:=[.bit (nChoice q) 0 0]) (n:=1) (heap_alloc_new s (.cells #[bstr (coder q++[32,67,104,111,105,99,101]),.int .i64 0,.int .i64 0] 178)) rfl t.out.size (by simp)).keep ((R0 _).alloc (.cells #[.int .i64 pl] 3)));have g:=Hd ((t.out.alloc (.cells #[bstr (coder q++[32,67,104,111,105,99,101]),.int .i64 0,.int .i64 0] 178)).alloc (.cells #[.int .i64 pl] 3));generalize World.alloc (World.alloc s _) _=w2 at*;go_wp2_with fail;refine(N _ (n-2) (by omega) (by omega) _).out.mono ?_;rintro e w3 ⟨v3,rfl,d,b⟩;obtain⟨X,k,rfl⟩:=b.slice;have f:=Hd (BL.older b g.out.size);have a:=Hd (a.out.keep d);have j:=Hd (g.out.trans d);have r:(treeNb false (nLow q pl) 3 (n-2) 3 1).length=3:=treeNb_len ..;clear d b;rw[r] at f ⊢;go_wp2_with (at_builtin;refine append_bits rfl _ _ rfl (w0:=w) (.slice (some ⟨s.heap.size,0,none⟩) 1 1) (.slice X 3 k) [.bit (nChoice q) 0 0] (treeNb false (nLow q pl) 3 (n-2) 3 1) rfl rfl a.out f.out j.out.size (by rw[r];simp only[List.length_cons,List.length_nil];omega) ?_;intro p4 G n4 w4 D o p;have A:=Hd o;have E:=Hd p;clear o p D);go_ret;exact⟨_,rfl,j.out.trans' E.out (fun i h1 R=>by have:=a.out.new i R;omega),by rw[F.out];exact A.out⟩
 by_cases k2:n<18
 ·have t1:decide ((n:Int)-2<8)=false:=decide_eq_false (by omega)
  have t2:decide ((n:Int)-2<16)=true:=decide_eq_true (by omega);have u:L=[.bit (nChoice q) 0 1,.bit (nChoice2 q) 0 0]++treeNb false (nMid q pl) 3 (n-10) 3 1:=by rw[I.out,if_neg Z,if_pos k2];rfl
  have F:=Hd u;clear u I;go_wp2_with fail;refine(K (s.heap.size+1) _ (alloc2 s _ _)).out.mono ?_;rintro e y ⟨rfl,rfl⟩;have a:=Hd ((BL.made (w0:=w) (l:=[.bit (nChoice q) 0 1,.bit (nChoice2 q) 0 0]) (n:=2) (heap_alloc_new s (.cells #[bstr (coder q++[32,67,104,111,105,99,101]),.int .i64 0,.int .i64 1,bstr (coder q++[32,67,104,111,105,99,101,50]),.int .i64 0,.int .i64 0] 178)) rfl t.out.size (by simp)).keep ((R0 _).alloc (.cells #[.int .i64 pl] 3)));have g:=Hd ((t.out.alloc (.cells #[bstr (coder q++[32,67,104,111,105,99,101]),.int .i64 0,.int .i64 1,bstr (coder q++[32,67,104,111,105,99,101,50]),.int .i64 0,.int .i64 0] 178)).alloc (.cells #[.int .i64 pl] 3));generalize World.alloc (World.alloc s _) _=w2 at*;go_wp2_with fail;refine(Q _ (n-10) (by omega) (by omega) _).out.mono ?_;rintro e w3 ⟨v3,rfl,d,b⟩;obtain⟨X,k,rfl⟩:=b.slice;have f:=Hd (BL.older b g.out.size);have a:=Hd (a.out.keep d);have j:=Hd (g.out.trans d);have r:(treeNb false (nMid q pl) 3 (n-10) 3 1).length=3:=treeNb_len ..;clear d b;rw[r] at f ⊢;go_wp2_with (at_builtin;refine append_bits rfl _ _ rfl (w0:=w) (.slice (some ⟨s.heap.size,0,none⟩) 2 2) (.slice X 3 k) [.bit (nChoice q) 0 1,.bit (nChoice2 q) 0 0] (treeNb false (nMid q pl) 3 (n-10) 3 1) rfl rfl a.out f.out j.out.size (by rw[r];simp only[List.length_cons,List.length_nil];omega) ?_;intro p4 G n4 w4 D o p;have A:=Hd o;have E:=Hd p;clear o p D);go_ret;exact⟨_,rfl,j.out.trans' E.out (fun i h1 R=>by have:=a.out.new i R;omega),by rw[F.out];exact A.out⟩
 ·have t1:decide ((n:Int)-2<8)=false:=decide_eq_false (by omega)
  have t2:decide ((n:Int)-2<16)=false:=decide_eq_false (by omega);have u:L=[.bit (nChoice q) 0 1,.bit (nChoice2 q) 0 1]++treeNb false (nHigh q) 8 (n-18) 8 1:=by rw[I.out,if_neg Z,if_neg k2];rfl
  have F:=Hd u;clear u I;go_wp2_with fail;have a:=Hd (BL.made (w0:=w) (l:=[.bit (nChoice q) 0 1,.bit (nChoice2 q) 0 1]) (n:=2) (heap_alloc_new s (.cells #[bstr (coder q++[32,67,104,111,105,99,101]),.int .i64 0,.int .i64 1,bstr (coder q++[32,67,104,111,105,99,101,50]),.int .i64 0,.int .i64 1] 178)) rfl t.out.size (by simp));have g:=Hd (t.out.alloc (.cells #[bstr (coder q++[32,67,104,111,105,99,101]),.int .i64 0,.int .i64 1,bstr (coder q++[32,67,104,111,105,99,101,50]),.int .i64 0,.int .i64 1] 178));generalize World.alloc s _=w2 at*;refine(M _ (n-18) (by omega) (by omega) _).out.mono ?_;rintro e w3 ⟨v3,rfl,d,b⟩;obtain⟨X,k,rfl⟩:=b.slice;have f:=Hd (BL.older b g.out.size);have a:=Hd (a.out.keep d);have j:=Hd (g.out.trans d);have r:(treeNb false (nHigh q) 8 (n-18) 8 1).length=8:=treeNb_len ..;clear d b;rw[r] at f ⊢;go_wp2_with (at_builtin;refine append_bits rfl _ _ rfl (w0:=w) (.slice (some ⟨s.heap.size,0,none⟩) 2 2) (.slice X 8 k) [.bit (nChoice q) 0 1,.bit (nChoice2 q) 0 1] (treeNb false (nHigh q) 8 (n-18) 8 1) rfl rfl a.out f.out j.out.size (by rw[r];simp only[List.length_cons,List.length_nil];omega) ?_;intro p4 G n4 w4 D o p;have A:=Hd o;have E:=Hd p;clear o p D);go_ret;exact⟨_,rfl,j.out.trans' E.out (fun i h1 R=>by have:=a.out.new i R;omega),by rw[F.out];exact A.out⟩
end Rf
namespace Rf
open Mem Rc Prob St Lz Win
theorem full_calls(V size n a:Nat)(p:Option Addr)(w:World)(f:w.cell? ⟨V,0,none⟩=some (.int .i64 size))(g:w.cell? ⟨V,1,none⟩=some (.slice p n a)):
 Calls Tryz.prog 249 #[ptr V] w fun e d=>e=.returned (.int .i64 (min size n:Nat))∧∃m,d=w.drewN m:=by
 by_cases b:n<size
 ·have c:decide ((n:Int)<(size:Int))=true:=by rw[decide_eq_true_eq];omega
  have e:min size n=n:=by omega
  rw[e];go_enter Tryz.func249,Tryz.ntmps249;go_wp2_with fail;go_quiet (fail);go_wp2_with fail;go_ret;exact⟨rfl,_,rfl⟩
 ·have c:decide ((n:Int)<(size:Int))=false:=by rw[decide_eq_false_iff_not];omega
  have e:min size n=size:=by omega
  rw[e];go_enter Tryz.func249,Tryz.ntmps249;go_wp2_with fail;go_quiet (fail);go_wp2_with fail;go_ret;exact⟨rfl,_,rfl⟩
theorem has_calls(V size n a d:Nat)(p:Option Addr)(w:World)(c:w.cell? ⟨V,0,none⟩=some (.int .i64 size))(f:w.cell? ⟨V,1,none⟩=some (.slice p n a)):
 Calls Tryz.prog 218 #[ptr V,.int .i64 d] w fun e h=>e=.returned (.bool (decide (1≤d∧d≤min size n)))∧∃m,h=w.drewN m:=by
 have i:=Hd (full_calls V size n a p w c f);generalize g:decide (1≤d∧d≤min size n)=q;have b:=Hd g;clear g c f;by_cases o:1≤d
 ·have j:decide ((d:Int)>0)=true:=by rw[decide_eq_true_eq];omega
  have l:decide ((0:Int)<(d:Int))=true:=by rw[decide_eq_true_eq];omega
  generalize min size n=m at*;go_enter Tryz.func218,Tryz.ntmps218;go_wp2_with fail;refine i.out.mono ?_;rintro e h ⟨rfl,k,rfl⟩;go_wp2_with fail;go_ret;exact⟨Mem.ret_bool (by rw[←b.out,Bool.eq_iff_iff];simp;omega),k,rfl⟩
 ·have j:decide ((d:Int)>0)=false:=by rw[decide_eq_false_iff_not];omega
  have l:decide ((0:Int)<(d:Int))=false:=by rw[decide_eq_false_iff_not];omega
  go_enter Tryz.func218,Tryz.ntmps218;go_wp2_with fail;go_ret;exact⟨Mem.ret_bool (by rw[←b.out];simp;omega),0,rfl⟩
theorem rlast_calls{l:RL}{c:C}{ps:Nat→List Nat}{w:World}(h:Cod w l c ps)(d:Nat):
 Calls Tryz.prog 211 #[ptr l.V,.int .i64 d] w fun e L=>e=.returned (.tuple #[.int .u8 (Win.last c.size c.all d).1,.int .i64 (Win.last c.size c.all d).2])∧∃m,L=w.drewN m:=by
 obtain⟨p,r,f⟩:=h.slice;have g:=h.rd;rw[f] at g;have v:=h.cells.v0;have o:=h.cells.v1;rw[f] at o;have t:=h.much;have a:=Hd (has_calls l.V c.size c.all.length r d p w v o);have H:=Hd h;clear h v o;by_cases b:1≤d∧d≤min c.size c.all.length
 ·rw[decide_eq_true b] at a
  obtain⟨x,A⟩:∃x,c.all[c.all.length-d]? =some x:=⟨c.all[c.all.length-d]'(by omega),by simp⟩;have q:Win.last c.size c.all d=(x.toNat,0):=by
   unfold Win.last;rw[if_pos b,List.getD_eq_getElem?_getD,A];rfl
  rw[q];obtain⟨D,K,u,s⟩:=Win.byte_at g A;subst u;generalize x.toNat=xv at*;obtain⟨i,z⟩:∃i,i=c.all.length-d:=⟨_,rfl⟩;rw[←z] at s;have N:(c.all.length:Int)-(d:Int)=(i:Int):=by omega
  have I:(0:Int)≤(i:Int):=by omega
  have J:(i:Int)<(c.all.length:Int):=by omega
  go_enter Tryz.func211,Tryz.ntmps211;go_wp2_with fail;refine a.out.mono ?_;rintro e M ⟨rfl,k,rfl⟩;have E:=Hd ((R0 w).drewN k);have y:=Hd (H.out.keep E.out);have v:=y.out.cells.v0;have o:=y.out.cells.v1;rw[f] at o;have G:(w.drewN k).cell? ⟨D,K+i,none⟩=some (.int .u8 xv):=s;have F:=Hd (fun n=>show(w.drewN k).drewN n=w.drewN (k+n) from World.drewN_drewN w k n);clear s a;generalize j:w.drewN k=w3 at*;have B:=Hd j;clear j;clear g b q f z;generalize c.all.length=nn at*;go_wp2_with fail;go_quiet (fail);go_wp2_with fail;go_ret2;exact⟨rfl,_,F.out _⟩
 ·rw[decide_eq_false b] at a
  have q:Win.last c.size c.all d=(0,7):=if_neg b;rw[q];go_enter Tryz.func211,Tryz.ntmps211;go_wp2_with fail;refine a.out.mono ?_;rintro e M ⟨rfl,k,rfl⟩;go_wp2_with fail;go_ret2;exact⟨rfl,k,rfl⟩
theorem rbits_calls(s:Nat)(d:s<64)(w:World):Calls Tryz.prog 248 #[.int .i64 s] w fun e c=>e=.returned (.int .i64 (range s).2)∧w=c:=by
 by_cases a:s<4
 ·have b:decide ((s:Int)<4)=true:=by rw[decide_eq_true_eq];omega
  have e:(range s).2=0:=by unfold range;rw[if_pos a]
  rw[e];go_enter Tryz.func248,Tryz.ntmps248;go_wp2_with fail;go_ret;exact⟨rfl,rfl⟩
 ·have b:decide ((s:Int)<4)=false:=by rw[decide_eq_false_iff_not];omega
  have e:(range s).2=s/2-1:=by unfold range;rw[if_neg a]
  rw[e];go_enter Tryz.func248,Tryz.ntmps248;go_wp2_with fail;go_ret;exact⟨Mem.ret_int (by omega),rfl⟩
theorem range_next:∀s:Fin 63,(range (s.val+1)).1=(range s.val).1+2^(range s.val).2:=by decide+kernel
theorem rrange_calls(s:Nat)(y:s<64)(w:World):Calls Tryz.prog 213 #[.int .i64 s] w fun e p=>e=.returned (.tuple #[.int .i64 (range s).1,.int .i64 (range s).2,.int .i64 0])∧w=p:=by
 have r:decide ((s:Int)<0)=false:=by simp
 have t:decide ((s:Int)>63)=false:=by rw[decide_eq_false_iff_not];omega
 have u:decide ((63:Int)<(s:Int))=false:=by rw[decide_eq_false_iff_not];omega
 go_enter Tryz.func213,Tryz.ntmps213;go_wp2_with fail;go_loopw [5,6](fun v i wr=>∃k:Nat,k≤s∧i=.int .i64 k∧v=.int .i64 (range k).1∧wr=w) (fun _ i _=>s-(intOf i).toNat);case atStart=>exact⟨0,by omega,rfl,rfl,rfl⟩
 case round=>
  obtain⟨k,x,rfl,rfl,rfl⟩:=hrel;by_cases m:k<s
  ·have f:=range_le ⟨k,by omega⟩
   have h:=range_next ⟨k,by omega⟩;simp only at f h;have g:=Hd (rbits_calls k (by omega) wr);have c:(range k).1+2^(range k).2≤4294967297:=f.1;obtain⟨j,b⟩:∃j,j=2^(range k).2:=⟨_,rfl⟩;have a:(2:Int)^(range k).2=(j:Int):=by rw[b];norm_cast
   rw[←b] at h c;have d:((range (k+1)).1:Int)=((range k).1:Int)+(2:Int)^(range k).2:=by rw[a];omega
   have n:IntKind.i64.wrap ((2:Int)^(range k).2)=(2:Int)^(range k).2:=by rw[a];exact IntWalk.i64_in _ (by omega)
   have o:IntKind.i64.wrap (((range k).1:Int)+(2:Int)^(range k).2)=((range k).1:Int)+(2:Int)^(range k).2:=by rw[a];exact IntWalk.i64_in _ (by omega)
   have l:(range k).2≤30:=f.2.1;clear f h c a b;generalize(range k).2=bts at*;go_wp2_with fail;refine g.out.mono ?_;rintro e q ⟨rfl,rfl⟩;go_wp2_with fail;go_roundw;case rel=>exact⟨k+1,by omega,by go_num,by rw[d],by first|rfl|trivial⟩
   case measure=>simp[intOf];omega
  ·obtain rfl:k=s:=by omega
   have g:=Hd (rbits_calls k (by omega) wr);go_wp2_with fail;refine g.out.mono ?_;rintro e q ⟨rfl,rfl⟩;go_wp2_with fail;go_ret3;exact⟨rfl,rfl⟩
end Rf
namespace Rf
open Mem Rc Prob St Lz Win En Ga
theorem range_mono:∀i:Fin 64,∀j:Fin 64,i.val≤j.val→(range i.val).1≤(range j.val).1:=by decide+kernel
theorem slot_iff{d i:Nat}(e:1≤d)(f:d≤4294967295)(c:i<64):(range i).1≤d↔i≤slotOf d:=by
 obtain⟨j,k,l⟩:=slotOf_in e f;constructor
 ·intro h
  by_cases b:i≤slotOf d
  ·exact b
  ·have g:=range_next ⟨slotOf d,by omega⟩
   have a:=range_mono ⟨slotOf d+1,by omega⟩ ⟨i,c⟩ (by simp only;omega);simp only at g a;omega
 ·intro h
  have a:=range_mono ⟨i,c⟩ ⟨slotOf d,j⟩ h;simp only at a;omega
theorem rslot_calls(d:Nat)(m:1≤d)(n:d≤4294967295)(w:World):Calls Tryz.prog 212 #[.int .i64 d] w fun e p=>e=.returned (.tuple #[.int .i64 (slotOf d),.int .i64 0])∧w=p:=by
 have o:=Hd (fun(i:Nat)(hi:i<64)=>slot_iff m n hi);have z:=(slotOf_in m n).1;have u:decide ((d:Int)<1)=false:=by rw[decide_eq_false_iff_not];omega
 have v:decide ((d:Int)>4294967295)=false:=by rw[decide_eq_false_iff_not];omega
 have x:decide ((4294967295:Int)<d)=false:=by rw[decide_eq_false_iff_not];omega
 generalize slotOf d=s at*;go_enter Tryz.func212,Tryz.ntmps212;go_wp2_with fail;go_loopw [4,5](fun sv i wr=>∃k:Nat,k≤64∧i=.int .i64 k∧sv=.int .i64 ((min (k-1) s:Nat):Int)∧wr=w) (fun _ i _=>64-(intOf i).toNat);case atStart=>exact⟨0,by omega,rfl,by rw[show min (0-1) s=0 by omega];rfl,rfl⟩
 case round=>
  obtain⟨k,y,rfl,rfl,rfl⟩:=hrel;by_cases f:k<64
  ·have j:=Hd (rrange_calls k f wr)
   have a:=o.out k f;generalize range k=g at*;obtain⟨g,r⟩:=g;simp only at j a;by_cases c:k≤s
   ·have l:=a.2 c
    have t:decide ((g:Int)≤d)=true:=decide_eq_true (by omega);have b:=Hd (show min (k+1-1) s=k by omega);clear a;go_wp2_with fail;refine j.out.mono ?_;rintro e q ⟨rfl,rfl⟩;go_wp2_with fail;go_roundw;case rel=>exact⟨k+1,by omega,by go_num,by rw[b.out],by first|rfl|trivial⟩
    case measure=>simp[intOf];omega
   ·have l:¬g≤d:=fun h=>c (a.1 h)
    have t:decide ((g:Int)≤d)=false:=decide_eq_false (by omega);have b:=Hd (show min (k+1-1) s=min (k-1) s by omega);clear a;go_wp2_with fail;refine j.out.mono ?_;rintro e q ⟨rfl,rfl⟩;go_wp2_with fail;go_roundw;case rel=>exact⟨k+1,by omega,by go_num,by rw[b.out],by first|rfl|trivial⟩
    case measure=>simp[intOf];omega
  ·obtain rfl:k=64:=by omega
   have b:=Hd (show min (64-1) s=s by omega);rw[b.out];go_wp2_with fail;go_ret2;exact⟨rfl,rfl⟩
theorem div_fact{x q y:Nat}(h:y=x/q)(a:x≤1099511627776):y≤1099511627776∧wrap64 ((x:Int)/(q:Int))=(y:Int):=by
 have b:y≤1099511627776:=Nat.le_trans (by rw[h];exact Nat.div_le_self _ _) a;refine⟨b,?_⟩;rw[show(x:Int)/(q:Int)=((x/q:Nat):Int) from rfl,←h];clear h a;exact IntWalk.wrap64_in _ (by omega)
theorem halvesNb_len(x:Nat):∀n,(halvesNb x n).length=n
 |0=>rfl
 |n+1=>by rw[halvesNb,List.length_cons,halvesNb_len x n]
set_option maxRecDepth 100000 in
theorem distance14_calls(n d:Nat)(d3:2≤n)(a1:n≤273)(h1:1≤d)(R:d≤4294967295)(w:World):
 Calls Tryz.prog 146 #[.int .i64 n,.int .i64 d] w fun e t=>∃v,e=.returned v∧Fr (fun _=>False) w t∧BL w t v (distNb n (slotOf d) d):=by
 obtain⟨s1,s2,s3⟩:=slotOf_in h1 R;have b9:=fun W=>Hd (rslot_calls d h1 R W);obtain⟨L,S⟩:∃L,L=distNb n (slotOf d) d:=⟨_,rfl⟩;rw[←S];unfold distNb restNb at S;generalize slotOf d=s at*;have P:=range_zero ⟨s,s1⟩;have hr:=range_le ⟨s,s1⟩;simp only at P hr;have a5:=fun W=>Hd (rrange_calls s s1 W);obtain⟨r1,r2,r3,r4,r5⟩:=hr;have O:=P.1;clear P r3;generalize range s=rg at*;obtain⟨lo,bits⟩:=rg;simp only at S s2 s3 r1 r2 r4 O a5;obtain⟨r,hr⟩:∃r,r=d-lo:=⟨_,rfl⟩;rw[←hr] at S;have er:(d:Int)-(lo:Int)=(r:Int):=by omega
 obtain⟨k,hk⟩:∃k,k=min (n-2) 3:=⟨_,rfl⟩;rw[←hk] at S;obtain⟨T,hT⟩:∃T,T=treeNb false (nSlot k) 6 s 6 1:=⟨_,rfl⟩;have a7:T.length=6:=by rw[hT];exact treeNb_len ..
 have HT:=fun W=>Hd (show Calls Tryz.prog 210 #[bstr (num sSlot k),.int .i64 6,.int .i64 s] W (fun e t=>∃v,e=.returned v∧Fr (fun _=>False) W t∧BL W t v T) from by rw[hT];exact rtree_calls (nSlot k) 6 s (by decide) (by omega) W);rw[←hT] at S;have b8:=fun(z:Int)(hzk:z=(k:Int))(B:Nat)(W:World)(hB:W.heap[B]? =some (.cells #[.int .i64 z] 3 (0,0)))=>Hd (name_calls sSlot k B (by decide) (by omega) W (by rw[hB,hzk]));have b1:r<2^bits:=by omega
 have U:(2:Nat)^bits≤2^30:=Nat.pow_le_pow_right (by omega) (by omega);have c6:r<1073741824:=Nat.lt_of_lt_of_le b1 U;have HL:=Hd S;have I:=Hd a7;have c7:=Hd hr;clear S hT a7 hr b1 U r1 s2 s3;have c3:n-2>3∧k=3∨¬n-2>3∧(n:Int)-2=(k:Int)∧decide ((k:Int)>3)=false∧decide ((3:Int)<(k:Int))=false:=by
  simp only[decide_eq_false_iff_not];omega
 clear hk;have t0:decide ((n:Int)-2>3)=decide (n-2>3):=by rw[Bool.eq_iff_iff];simp;omega
 have b3:decide ((3:Int)<(n:Int)-2)=decide (n-2>3):=by rw[Bool.eq_iff_iff];simp;omega
 rcases c3 with⟨Q,rfl⟩|⟨Q,ek,t1,d6⟩;all_goals
  first
   |rw[decide_eq_true Q] at t0 b3
   |rw[decide_eq_false Q] at t0 b3
  clear Q;go_enter Tryz.func146,Tryz.ntmps146;go_wp2_with fail;refine(b9 _).out.mono ?_;rintro e t ⟨rfl,rfl⟩;go_wp2_with fail;refine(b8 _ (by first|rfl|omega) w.heap.size _ (heap_alloc_new w _)).out.mono ?_;rintro e t ⟨rfl,rfl⟩;first
   |have Z:=Hd ((R0 w).alloc (.cells #[.int .i64 (k:Int)] 3))
   |have Z:=Hd ((R0 w).alloc (.cells #[.int .i64 3] 3))
  generalize World.alloc w _=w1 at*;go_wp2_with fail;refine(HT _).out.mono ?_;rintro e w2 ⟨v2,rfl,J,E⟩;obtain⟨p2,u,rfl⟩:=E.slice;have a:=Hd (BL.older E Z.out.size);have c:=Hd (Z.out.trans J);rw[I.out] at a ⊢;clear J E;go_wp2_with fail;refine(a5 _).out.mono ?_;rintro e t ⟨rfl,rfl⟩;by_cases h4:s<4
  ·have u1:decide ((s:Int)<4)=true:=decide_eq_true (by omega)
   have g:L=T:=by rw[HL.out,if_pos (O.2 h4),List.append_nil]
   have h:=Hd g;clear HL g;go_wp2_with fail;go_ret;exact⟨_,rfl,c.out,by rw[h.out];exact a.out⟩
  have u1:decide ((s:Int)<4)=false:=decide_eq_false (by omega);have a8:¬bits=0:=fun e=>h4 (O.1 e);by_cases Y:s<14
  ·have u2:decide ((s:Int)<14)=true:=decide_eq_true (by omega)
   have g:L=T++treeNb true (nRest s) bits r bits 1:=by rw[HL.out,if_neg a8,if_pos Y]
   have h:=Hd g;have b7:=fun(B:Nat)(W:World)(hB:W.heap[B]? =some (.cells #[.int .i64 s] 3 (0,0)))=>Hd (name_calls sRest s B (by decide) (by omega) W hB);have c2:bits≤16:=by have:=r5 (by omega) Y;omega
   have N:=fun(z:Int)(P:z=(r:Int))(W:World)=>Hd (show Calls Tryz.prog 214 #[bstr (num sRest s),.int .i64 bits,.int .i64 z] W (fun e t=>∃v,e=.returned v∧Fr (fun _=>False) W t∧BL W t v (treeNb true (nRest s) bits r bits 1)) from by rw[P];exact rback_calls (nRest s) bits r c2 (by omega) W);clear HL g O;go_wp2_with fail;refine(b7 w2.heap.size _ (heap_alloc_new w2 _)).out.mono ?_;rintro e t ⟨rfl,rfl⟩;have a:=Hd (a.out.keep ((R0 w2).alloc (.cells #[.int .i64 s] 3)));have c:=Hd (c.out.alloc (.cells #[.int .i64 s] 3));generalize World.alloc w2 _=w2 at*;go_wp2_with fail;refine(N _ (by omega) _).out.mono ?_;rintro e w3 ⟨v3,rfl,o,j⟩;obtain⟨p3,G,rfl⟩:=j.slice;have F:=Hd (BL.older j c.out.size);have a:=Hd (a.out.keep o);have H:=Hd (c.out.trans o);have M:(treeNb true (nRest s) bits r bits 1).length=bits:=treeNb_len ..;clear o j;rw[M] at F ⊢;go_wp2_with (at_builtin;refine append_bits rfl _ _ rfl (w0:=w) (.slice p2 6 u) (.slice p3 bits G) T (treeNb true (nRest s) bits r bits 1) rfl rfl a.out F.out H.out.size (by rw[M,I.out];omega) ?_;intro p4 a6 n4 w4 a2 C K;have X:=Hd C;have a0:=Hd K;clear C K a2);go_ret;exact⟨_,rfl,H.out.trans' a0.out (fun i h1 R=>by have:=a.out.new i R;omega),by rw[h.out];exact X.out⟩
  ·have u2:decide ((s:Int)<14)=false:=decide_eq_false (by omega)
   have g:L=T++(halvesNb (r/16) (bits-4)++treeNb true nAlign 4 (r%16) 4 1):=by rw[HL.out,if_neg a8,if_neg Y]
   have h:=Hd g;have C:4≤bits:=by have:=r4 (by omega);omega
   obtain⟨x,hx⟩:∃x,x=r/16:=⟨_,rfl⟩;have ex:(r:Int)/16=(x:Int):=by rw[hx];rfl
   have d5:x<67108864:=by omega
   rw[←hx] at h;have em:(r:Int).tmod 16=((r%16:Nat):Int):=by rw[Int.tmod_eq_emod_of_nonneg (Int.natCast_nonneg _)];rfl
   have N:=fun(z:Int)(P:z=((r%16:Nat):Int))(W:World)=>Hd (show Calls Tryz.prog 214 #[bstr sAlign,.int .i64 4,.int .i64 z] W (fun e t=>∃v,e=.returned v∧Fr (fun _=>False) W t∧BL W t v (treeNb true nAlign 4 (r%16) 4 1)) from by rw[P];exact rback_calls nAlign 4 (r%16) (by decide) (by omega) W);have b2:sAlign=[65,108,105,103,110]:=rfl;rw[b2] at N;clear HL g O b2 hx;obtain⟨m,hm⟩:∃m,m=bits-4:=⟨_,rfl⟩;rw[←hm] at h;have c5:m≤30:=by omega
   go_wp2_with fail;go_loopw [8,13] (fun lv i wr=>∃(f:Nat)(z:Int)(l:List Nb)(p:Option Addr)(D:Nat),f≤m∧z=(f:Int)-1∧i=.int .i64 z∧lv=.slice p l.length D∧l.length+f=6+m∧BL w wr (.slice p l.length D) l∧l++halvesNb x f=T++halvesNb x m∧Fr (fun _=>False) w wr) (fun _ i _=>(intOf i+1).toNat);case atStart=>exact⟨m,_,T,p2,u,Nat.le_refl _,rfl,by go_num,by rw[I.out],by rw[I.out],by rw[I.out];exact a.out,rfl,c.out⟩
   case round=>
    obtain⟨f,z,l,p,D,hf,P,rfl,rfl,hl,a9,he,b0⟩:=hrel;have A:=Hd a9;have HE:=Hd he;have HF:=Hd b0;have b6:=Hd hl;clear a9 he b0 a c;cases f with
    |zero=>
      obtain rfl:z=-1:=by omega
      have c9:l.length≤36:=by omega
      clear P hl;go_wp2_with fail;refine(N _ (by first|exact em|omega) _).out.mono ?_;rintro e w3 ⟨v3,rfl,o,j⟩;obtain⟨p3,G,rfl⟩:=j.slice;have F:=Hd (BL.older j HF.out.size);have A:=Hd (A.out.keep o);have H:=Hd (HF.out.trans o);have M:(treeNb true nAlign 4 (r%16) 4 1).length=4:=treeNb_len ..;clear o j;rw[M] at F ⊢;go_wp2_with (at_builtin;refine append_bits rfl _ _ rfl (w0:=w) (.slice p l.length D) (.slice p3 4 G) l (treeNb true nAlign 4 (r%16) 4 1) rfl rfl A.out F.out H.out.size (by rw[M];omega) ?_;intro p4 a6 n4 w4 a2 C K;have X:=Hd C;have a0:=Hd K;clear C K a2);go_ret;refine⟨_,rfl,H.out.trans' a0.out (fun i h1 R=>by have:=A.out.new i R;omega),?_⟩;have he:=HE.out;rw[halvesNb,List.append_nil] at he;rw[h.out,←List.append_assoc,←he];exact X.out
    |succ f=>
      obtain rfl:z=(f:Int):=by omega
      have c1:=Hd (two_calls f (by omega) wr);have d1:decide ((f:Int)≥0)=true:=decide_eq_true (by omega);have d2:decide ((0:Int)≤(f:Int))=true:=decide_eq_true (by omega);obtain⟨y,hy⟩:∃y,y=x/2^f:=⟨_,rfl⟩;obtain⟨b,hb⟩:∃b,b=y%2:=⟨_,rfl⟩;have c0:=Hd (show halvesNb x (f+1)=.half b::halvesNb x f by rw[halvesNb,←hy,←hb]);have a3:=div_fact hy (show x≤1099511627776 by omega);have c4:=a3.1;have e1:=a3.2;have HY:=Hd hy;clear hy a3;have e2:(y:Int).tmod 2=(b:Int):=by rw[(half_facts c4).2.2.2,←hb]
      have c8:b≤1:=by rw[hb];exact Nat.le_of_lt_succ (Nat.mod_lt _ (by decide))
      have d0:l.length≤36:=by omega
      clear P hb hl;have d4:=Nat.two_pow_pos f;generalize 2^f=q at*;go_wp2_with fail;refine c1.out.mono ?_;rintro e w1 ⟨rfl,rfl⟩;have HX:=Hd (heap_alloc_new wr (.cells #[bstr [],.int .i64 0,.int .i64 b] 178));have V:=Hd ((R0 wr).alloc (.cells #[bstr [],.int .i64 0,.int .i64 b] 178));have b4:=Hd (BL.made (w0:=w) (l:=[.half b]) (n:=1) HX.out rfl HF.out.size (by simp));have b5:=Hd (A.out.keep V.out);go_wp2_with (at_builtin;refine append_bits rfl _ _ rfl (w0:=w) (.slice p l.length D) (.slice (some ⟨wr.heap.size,0,none⟩) 1 1) l [.half b] rfl rfl b5.out b4.out (Nat.le_trans HF.out.size V.out.size) (by simp only[List.length_singleton];omega) ?_;intro p2 u n2 w2 a1 E J;have a:=Hd E;have c:=Hd J;have a4:=Hd a1;clear E J a1);go_roundw;case rel=>
       exact⟨f,(f:Int)-1,l++[.half b],p2,u,by omega,rfl,by go_num,by rw[a4.out],by rw[List.length_append,List.length_singleton];have:=b6.out;omega,by rw[←a4.out];exact a.out,by rw[←HE.out,c0.out,List.append_assoc];rfl,(HF.out.trans V.out).trans' c.out (fun i h1 R=>by have:=A.out.new i R;omega)⟩
      case measure=>simp[intOf]
end Rf
namespace Rf
open Mem Rc Prob St Lz Win En Ga
theorem quiet_more14{P:Program}{f:FuncId}{args:Array Value}{w:World}{n:Nat}{v:Value}
 (h:Calls P f args (w.drewN n) fun e b=>e=.returned v∧∃m,b=(w.drewN n).drewN m):Calls P f args (w.drewN n) fun e a=>e=.returned v∧∃m,a=w.drewN m:=
 h.mono fun _ _ ⟨he,m,hm⟩=>⟨he,n+m,by rw[hm,World.drewN_drewN]⟩
theorem beq_nat(x y:Nat):((x:Int)==(y:Int))=decide (x=y):=by rw[Bool.eq_iff_iff];simp;omega
theorem matNb_len(u:Nat)(a:Nm)(b:Nat):∀k m same,(matNb u a b k m same).length=k
 |0,_,_=>rfl
 |k+1,m,same=>by rw[matNb,List.length_cons,matNb_len u a b k]
set_option maxRecDepth 100000 in
theorem literal14_calls{l:RL}{c:C}{ps:Nat→List Nat}{w:World}(h:Cod w l c ps)(b:Nat)(hb:b<256):
 Calls Tryz.prog 144 #[ptr l.K,.int .i64 b] w fun e w'=>∃v,e=.returned v∧Fr (fun _=>False) w w'∧BL w w' v (litNb c b):=by
 have HN:=Hd (literal_name h);have H:=Hd h;have hu:=lastB_lt c c.s.r0;obtain⟨L,hL⟩:∃L,L=litNb c b:=⟨_,rfl⟩;rw[←hL];unfold litNb at hL;have Z:=Hd hL;clear hL h;go_enter Tryz.func144,Tryz.ntmps144;go_wp2_with fail;refine HN.out.mono ?_;rintro e w1 ⟨rfl,R⟩;have U:=H.out.keep R;have N:=fun n=>Hd (rlast_calls (U.keep ((R0 w1).drewN n)) c.s.r0);obtain⟨p0,p1,p2,p3,p4,p5,p6,p7,p8,p9,v0,v1⟩:=U.cells;have O:=Hd R;clear R U HN H;obtain⟨a,ha⟩:∃a,a=nLiteral (C.lit c):=⟨_,rfl⟩;have hs:num sLiteral (C.lit c)=a.str:=by rw[ha];rfl
 rw[hs];rw[←ha] at Z;clear ha hs;by_cases h7:c.s.num<7
 ·have t7:decide ((c.s.num:Int)<7)=true:=decide_eq_true (by omega)
  have G:L=treeNb false a 8 b 8 1:=by rw[Z.out,if_pos h7]
  have HT:=fun W=>Hd (rtree_calls a 8 b (by decide) (by omega) W);rw[←G] at HT;clear Z G;go_wp2_with fail;refine(HT _).out.mono ?_;rintro e w2 ⟨v2,rfl,g,f⟩;have A:=Hd (BL.older f O.out.size);have o:=Hd (O.out.trans g);clear g f;go_wp2_with fail;go_ret;exact⟨_,rfl,o.out,A.out⟩
 ·have t7:decide ((c.s.num:Int)<7)=false:=decide_eq_false (by omega)
  have G:L=matNb (c.lastB c.s.r0) a b 8 1 true:=by rw[Z.out,if_neg h7]
  have a5:=Hd G;have S:(Win.last c.size c.all c.s.r0).1=c.lastB c.s.r0:=rfl;simp only[S] at N;clear Z G h7;go_wp2_with fail;go_quiet (with_reducible exact quiet_more14 (N _).out);go_wp2_with fail;have o:=Hd (O.out.drewN nq);clear N O p0 p1 p2 p3 p4 p5 p6 p7 p8 p9 v0 v1;generalize w1.drewN nq=w2 at*;try rw[S]
  clear S;generalize c.lastB c.s.r0=u at*;go_loopw [8,9,10,11] (fun lv mv al i wr=>∃(k m:Nat)(z:Int)(same:Bool)(r:List Nb)(p:Option Addr)(B:Nat),k≤8∧z=(k:Int)-1∧i=.int .i64 z∧mv=.int .i64 m∧al=.bool same∧m<2^(8-k+1)∧lv=.slice p r.length B∧r.length+k=8∧BL w wr (.slice p r.length B) r∧r++matNb u a b k m same=matNb u a b 8 1 true∧Fr (fun _=>False) w wr) (fun _ _ _ i _=>(intOf i+1).toNat);case atStart=>exact⟨8,1,_,true,[],none,0,by omega,rfl,by go_num,rfl,rfl,by decide,rfl,rfl,BL.nil _ _,rfl,o.out⟩
  case round=>
   obtain⟨k,m,z,same,r,p,B,hk,hz,rfl,rfl,rfl,hm,rfl,hl,a3,he,a4⟩:=hrel;have E:=Hd a3;have HE:=Hd he;have T:=Hd a4;have a0:=Hd hl;have a7:m<512:=Nat.lt_of_lt_of_le hm (Nat.le_trans (Nat.pow_le_pow_right (by decide) (show _≤9 by omega)) (by decide));clear a3 he a4;cases k with
   |zero=>
     obtain rfl:z=-1:=by omega
     clear hz hl hm a7;go_wp2_with fail;go_ret;refine⟨_,rfl,T.out,?_⟩;have he:=HE.out;rw[matNb,List.append_nil] at he;rw[a5.out,←he];exact E.out
   |succ k=>
     obtain rfl:z=(k:Int):=by omega
     have Y:=fun W=>Hd (two_calls k (by omega) W);have d1:decide ((k:Int)≥0)=true:=decide_eq_true (by omega);have d2:decide ((0:Int)≤(k:Int))=true:=decide_eq_true (by omega);obtain⟨y,hy⟩:∃y,y=b/2^k:=⟨_,rfl⟩;obtain⟨x,hx⟩:∃x,x=u/2^k:=⟨_,rfl⟩;obtain⟨d,K⟩:∃d,d=y%2:=⟨_,rfl⟩;obtain⟨s,M⟩:∃s,s=x%2:=⟨_,rfl⟩;have a2:=Hd (show matNb u a b (k+1) m same=.bit a (m+if same then 256*(1+s) else 0) d::matNb u a b k (2*m+d) (same&&decide (d=s)) by rw[matNb,←hy,←hx,←K,←M]);have X:=div_fact hy (show b≤1099511627776 by omega);have V:=div_fact hx (show u≤1099511627776 by omega);have e1:=X.2;have e2:=V.2;have e3:(y:Int).tmod 2=(d:Int):=by rw[(half_facts X.1).2.2.2,←K]
     have e4:(x:Int).tmod 2=(s:Int):=by rw[(half_facts V.1).2.2.2,←M]
     have a6:d≤1:=by rw[K];exact Nat.le_of_lt_succ (Nat.mod_lt _ (by decide))
     have b1:s≤1:=by rw[M];exact Nat.le_of_lt_succ (Nat.mod_lt _ (by decide))
     have a1:=Hd (show 2*m+d<2^(8-k+1) by rw[show 8-k+1=8-(k+1)+1+1 by omega];exact twice_lt hm a6);have a9:r.length≤8:=by omega
     have a8:((d:Int)==(s:Int))=decide (d=s):=beq_nat d s;clear hz hm hl hy hx K M X V;have b0:=Nat.two_pow_pos k;generalize 2^k=q at*;cases same
     all_goals
      go_wp2_with fail;refine(Y _).out.mono ?_;rintro e w' ⟨rfl,rfl⟩;go_wp2_with fail;refine(Y _).out.mono ?_;rintro e w' ⟨rfl,rfl⟩
     ·have I:=Hd (show matNb u a b (k+1) m false=.bit a m d::matNb u a b k (2*m+d) false from a2.out)
      have j:=Hd ((R0 wr).alloc (.cells #[bstr a.str,.int .i64 m,.int .i64 d] 178));have P:=Hd (BL.made (w0:=w) (l:=[.bit a m d]) (n:=1) (heap_alloc_new wr (.cells #[bstr a.str,.int .i64 m,.int .i64 d] 178)) rfl T.out.size (by simp));have Q:=Hd (E.out.keep j.out);go_wp2_with (at_builtin;refine append_bits rfl _ _ rfl (w0:=w) (.slice p r.length B) (.slice (some ⟨wr.heap.size,0,none⟩) 1 1) r [.bit a m d] rfl rfl Q.out P.out (Nat.le_trans T.out.size j.out.size) (by simp only[List.length_singleton];omega) ?_;intro p2 D n2 w2 J f g;have A:=Hd f;have o:=Hd g;have F:=Hd J;clear f g J);go_roundw;case rel=>
       exact⟨k,2*m+d,(k:Int)-1,false,r++[.bit a m d],p2,D,by omega,rfl,by go_num,by go_num,rfl,a1.out,by rw[F.out],by rw[List.length_append,List.length_singleton];have:=a0.out;omega,by rw[←F.out];exact A.out,by rw[←HE.out,I.out,List.append_assoc];rfl,(T.out.trans j.out).trans' o.out (fun i h1 h2=>by have:=E.out.new i h2;omega)⟩
      case measure=>simp[intOf]
     ·obtain⟨t,ht⟩:∃t,t=m+256*(1+s):=⟨_,rfl⟩
      have et:(256:Int)*(1+(s:Int))+(m:Int)=(t:Int):=by omega
      have I:=Hd (show matNb u a b (k+1) m true=.bit a t d::matNb u a b k (2*m+d) (decide (d=s)) from by rw[ht];exact a2.out);clear ht;have j:=Hd ((R0 wr).alloc (.cells #[bstr a.str,.int .i64 t,.int .i64 d] 178));have P:=Hd (BL.made (w0:=w) (l:=[.bit a t d]) (n:=1) (heap_alloc_new wr (.cells #[bstr a.str,.int .i64 t,.int .i64 d] 178)) rfl T.out.size (by simp));have Q:=Hd (E.out.keep j.out);go_wp2_with (at_builtin;refine append_bits rfl _ _ rfl (w0:=w) (.slice p r.length B) (.slice (some ⟨wr.heap.size,0,none⟩) 1 1) r [.bit a t d] rfl rfl Q.out P.out (Nat.le_trans T.out.size j.out.size) (by simp only[List.length_singleton];omega) ?_;intro p2 D n2 w2 J f g;have A:=Hd f;have o:=Hd g;have F:=Hd J;clear f g J);go_roundw;case rel=>
       exact⟨k,2*m+d,(k:Int)-1,decide (d=s),r++[.bit a t d],p2,D,by omega,rfl,by go_num,by go_num,rfl,a1.out,by rw[F.out],by rw[List.length_append,List.length_singleton];have:=a0.out;omega,by rw[←F.out];exact A.out,by rw[←HE.out,I.out,List.append_assoc];rfl,(T.out.trans j.out).trans' o.out (fun i h1 h2=>by have:=E.out.new i h2;omega)⟩
      case measure=>simp[intOf]
end Rf
end Go.Proofs.YtffoddpjfgjelaaGreatDoor
