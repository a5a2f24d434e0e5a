/- Part 16 of 54: lemmas of the last part, each under the conditions that it names. -/
import Derived.Test.YtffoddpjfgjelaaGreatDoorK10
import Derived.Test.YtffoddpjfgjelaaGreatDoorK15
set_option linter.unusedVariables false
set_option linter.unusedSimpArgs false
set_option maxRecDepth 1500
set_option maxHeartbeats 2000000
namespace Go.Proofs.YtffoddpjfgjelaaGreatDoor
open Go.RowKit
namespace Enc
open Mem Win
theorem hput_k34(k q:Nat)(S:k=3∧q=0∨k=4∧q=1)(n m lc lp pb:Nat)(hn:n<2097152)(hm:m<65536)(hl:lc+lp≤4)(hp:pb≤4)(w:World):Calls Tryz.prog 67 #[.agg #[.int .i64 k,.int .i64 (n+1:Nat),.int .i64 (m+1:Nat),.int .i64 lc,.int .i64 lp,.int .i64 pb]] w fun e w'=>Fr (fun _=>False) w w'∧∃p l,e=.returned (.tuple #[.slice p 5 l,.int .i64 0])∧Mine w w' (.slice p 5 l) [UInt8.ofNat (128+32*q+n/65536),UInt8.ofNat (n/256),UInt8.ofNat (n%256),UInt8.ofNat (m/256),UInt8.ofNat (m%256)]:=by
 have Y:=fun W=>Hd (sized_packed k (n+1) (m+1) lc lp pb (by omega) W);rw[show En.sizedP (n+1) (m+1)=true by unfold En.sizedP;simp;omega] at Y;have HF:=Hd ((R0 w).alloc (.cells #[.int .i64 k,.int .i64 (n+1:Nat),.int .i64 (m+1:Nat),.int .i64 lc,.int .i64 lp,.int .i64 pb] 47));have U:=heap_alloc_new w (.cells #[.int .i64 k,.int .i64 (n+1:Nat),.int .i64 (m+1:Nat),.int .i64 lc,.int .i64 lp,.int .i64 pb] 47);have HX:=Hd U;have y0:=cell_in (i:=0) U rfl;clear U;obtain⟨f,hf⟩:∃f:Nat,f=128+32*q+n/65536:=⟨_,rfl⟩;have a4:f<256:=by omega
 rcases S with⟨rfl,rfl⟩|⟨rfl,rfl⟩;all_goals simp only[show((3:Nat):Int)=3 from rfl,show((4:Nat):Int)=4 from rfl] at*
 all_goals
  go_enter Tryz.func67,Tryz.ntmps67;go_wp2_with fail;refine(Y _).out.mono ?_;rintro e c ⟨rfl,b⟩;have t:=b.keep HX.out (fun h=>h);obtain⟨c0,c1⟩:=cs2 t rfl rfl;have j:=Hd t;have A:=Hd (HF.out.trans b);clear b t y0;go_wp2_with fail;refine(Wire.newWriter_calls _).mono ?_;rintro e z ⟨rfl,b,hW⟩;have u:=b.keep j.out (fun h=>h);obtain⟨d0,d1⟩:=cs2 u rfl rfl;have P:=Hd u;have B:=Hd b;have H:=Hd hW;clear b u hW;have Z:=fun(y:Int)(hy:y=(f:Int))=>Hd (show Calls Tryz.prog 116 #[.pointer (some ⟨c.heap.size,0,none⟩),.slice (some ⟨z.heap.size,0,none⟩) 1 1] (z.alloc (.cells #[.int .u8 y] 5)) (fun e w3=>e=.returned (.tuple #[])∧∃v',Wire.Wr c w3 c.heap.size v' [UInt8.ofNat f]∧Fr (fun k=>c.heap.size≤k) z w3) from by
   have I:=(R0 z).alloc (.cells #[.int .u8 y] 5);have T:=rd_one z z.heap.size rfl (UInt8.ofNat f) y (by rw[hy,UInt8.toNat_ofNat'];omega);refine(Wire.wput_calls (w0:=c) c.heap.size (.slice none 0 0) [] [UInt8.ofNat f] (some ⟨z.heap.size,0,none⟩) 1 1 ⟨I.keep H.out.box (fun h=>h),H.out.own.keep I,H.out.new,H.out.apart⟩ (Nat.le_trans B.out.size I.size) T (by simp) rfl).mono ?_;rintro e w3 ⟨rfl,V,o,a⟩;exact⟨rfl,V,o,(I.mono (fun _ _ h=>h.elim)).trans a⟩)
  go_wp2_with fail;refine(Z _ ?_).out.mono ?_
  ·go_num
  rintro e w3 ⟨rfl,V,o,a⟩;have v:=a.keep P.out (by have:=lt_of_block j.out;omega);have Q:=Hd v;obtain⟨a0,a1,a2⟩:=cs3 v rfl rfl rfl;have M:=Hd o;have C:=Hd (B.out.trans' a (fun k h1 h2=>by omega));clear a v o Z;have K:=fun(y:Int)(hy:y=(n:Int))=>Hd (show Calls Tryz.prog 117 #[.pointer (some ⟨c.heap.size,0,none⟩),.int .u64 y,.int .i64 2] w3 _ from hy ▸ Wire.whigh_calls (w0:=c) c.heap.size V [UInt8.ofNat f] n (by omega) M.out C.out.size (by simp));go_wp2_with fail;refine(K _ ?_).out.mono ?_
  ·go_num
  rintro e w4 ⟨rfl,v4,F,d⟩;have r:=d.keep Q.out (by have:=lt_of_block j.out;omega);have R:=Hd r;have b0:=cell_in (i:=0) r rfl;have b2:=cell_in (i:=2) r rfl;have N:=Hd F;have D:=Hd (C.out.trans' d (fun k h1 h2=>by omega));clear d r F;have L:=fun(y:Int)(hy:y=(m:Int))=>Hd (show Calls Tryz.prog 117 #[.pointer (some ⟨c.heap.size,0,none⟩),.int .u64 y,.int .i64 2] w4 _ from hy ▸ Wire.whigh_calls (w0:=c) c.heap.size v4 ([UInt8.ofNat f]++[UInt8.ofNat (n/256),UInt8.ofNat (n%256)]) m (by omega) N.out D.out.size (by simp));go_wp2_with fail;refine(L _ ?_).out.mono ?_
  ·go_num
  rintro e w5 ⟨rfl,v5,G,g⟩;have x:=g.keep R.out (by have:=lt_of_block j.out;omega);have a3:=Hd x;have g0:=cell_in (i:=0) x rfl;have O:=Hd G;have E:=Hd (D.out.trans' g (fun k h1 h2=>by omega));clear g x G;go_wp2_with fail;refine(Wire.bytes_calls (w0:=c) c.heap.size v5 _ O.out (by simp) (by simp)).mono ?_;rintro e w8 ⟨s,p,l,rfl,hM⟩;have X:=Hd hM;have J:=Hd (E.out.trans s);clear s hM;go_wp2_with fail;go_ret2;rw[←hf];exact⟨A.out.trans J.out,p,l,rfl,X.out.own,fun k hk=>Nat.le_trans (Nat.le_trans A.out.size E.out.size) (X.out.new k hk)⟩
theorem hput_k56(k q:Nat)(a6:k=5∧q=2∨k=6∧q=3)(n m lc lp pb:Nat)(hn:n<2097152)(hm:m<65536)(hl:lc+lp≤4)(hp:pb≤4)(w:World):Calls Tryz.prog 67 #[.agg #[.int .i64 k,.int .i64 (n+1:Nat),.int .i64 (m+1:Nat),.int .i64 lc,.int .i64 lp,.int .i64 pb]] w fun e w'=>Fr (fun _=>False) w w'∧∃p u,e=.returned (.tuple #[.slice p 6 u,.int .i64 0])∧Mine w w' (.slice p 6 u) [UInt8.ofNat (128+32*q+n/65536),UInt8.ofNat (n/256),UInt8.ofNat (n%256),UInt8.ofNat (m/256),UInt8.ofNat (m%256),UInt8.ofNat ((5*pb+lp)*9+lc)]:=by
 have HS:=fun W=>Hd (sized_packed k (n+1) (m+1) lc lp pb (by omega) W);rw[show En.sizedP (n+1) (m+1)=true by unfold En.sizedP;simp;omega] at HS;have HF:=Hd ((R0 w).alloc (.cells #[.int .i64 k,.int .i64 (n+1:Nat),.int .i64 (m+1:Nat),.int .i64 lc,.int .i64 lp,.int .i64 pb] 47));have hx:=heap_alloc_new w (.cells #[.int .i64 k,.int .i64 (n+1:Nat),.int .i64 (m+1:Nat),.int .i64 lc,.int .i64 lp,.int .i64 pb] 47);have HX:=Hd hx;have y0:=cell_in (i:=0) hx rfl;clear hx;obtain⟨f,hf⟩:∃f:Nat,f=128+32*q+n/65536:=⟨_,rfl⟩;have a8:f<256:=by omega
 rcases a6 with⟨rfl,rfl⟩|⟨rfl,rfl⟩;all_goals simp only[show((5:Nat):Int)=5 from rfl,show((6:Nat):Int)=6 from rfl] at*
 all_goals
  go_enter Tryz.func67,Tryz.ntmps67;go_wp2_with fail;refine(HS _).out.mono ?_;rintro e a ⟨rfl,c⟩;have E:=c.keep HX.out (fun h=>h);obtain⟨c0,c1⟩:=cs2 E rfl rfl;have t:=Hd E;have I:=Hd (HF.out.trans c);clear c E y0;go_wp2_with fail;refine(Wire.newWriter_calls _).mono ?_;rintro e H ⟨rfl,c,hW⟩;have F:=c.keep t.out (fun h=>h);obtain⟨d0,d1⟩:=cs2 F rfl rfl;have a3:=Hd F;have J:=Hd c;have R:=Hd hW;clear c F hW;have WP:=fun(y:Int)(hy:y=(f:Int))=>Hd (show Calls Tryz.prog 116 #[.pointer (some ⟨a.heap.size,0,none⟩),.slice (some ⟨H.heap.size,0,none⟩) 1 1] (H.alloc (.cells #[.int .u8 y] 5)) (fun e w3=>e=.returned (.tuple #[])∧∃v',Wire.Wr a w3 a.heap.size v' [UInt8.ofNat f]∧Fr (fun k=>a.heap.size≤k) H w3) from by
   have v:=(R0 H).alloc (.cells #[.int .u8 y] 5);have D:=rd_one H H.heap.size rfl (UInt8.ofNat f) y (by rw[hy,UInt8.toNat_ofNat'];omega);refine(Wire.wput_calls (w0:=a) a.heap.size (.slice none 0 0) [] [UInt8.ofNat f] (some ⟨H.heap.size,0,none⟩) 1 1 ⟨v.keep R.out.box (fun h=>h),R.out.own.keep v,R.out.new,R.out.apart⟩ (Nat.le_trans J.out.size v.size) D (by simp) rfl).mono ?_;rintro e w3 ⟨rfl,v3,x,b⟩;exact⟨rfl,v3,x,(v.mono (fun _ _ h=>h.elim)).trans b⟩)
  go_wp2_with fail;refine(WP _ ?_).out.mono ?_
  ·go_num
  rintro e w3 ⟨rfl,v3,x,b⟩;have G:=b.keep a3.out (by have:=lt_of_block t.out;omega);have a4:=Hd G;obtain⟨a0,a1,a2⟩:=cs3 G rfl rfl rfl;have X:=Hd x;have K:=Hd (J.out.trans' b (fun k h1 h2=>by omega));clear b G x WP;have U:=fun(y:Int)(hy:y=(n:Int))=>Hd (show Calls Tryz.prog 117 #[.pointer (some ⟨a.heap.size,0,none⟩),.int .u64 y,.int .i64 2] w3 _ from hy ▸ Wire.whigh_calls (w0:=a) a.heap.size v3 [UInt8.ofNat f] n (by omega) X.out K.out.size (by simp));go_wp2_with fail;refine(U _ ?_).out.mono ?_
  ·go_num
  rintro e w4 ⟨rfl,v4,P,l⟩;have A:=l.keep a4.out (by have:=lt_of_block t.out;omega);have a5:=Hd A;have b0:=cell_in (i:=0) A rfl;have b2:=cell_in (i:=2) A rfl;have Y:=Hd P;have L:=Hd (K.out.trans' l (fun k h1 h2=>by omega));clear l A P;have V:=fun(y:Int)(hy:y=(m:Int))=>Hd (show Calls Tryz.prog 117 #[.pointer (some ⟨a.heap.size,0,none⟩),.int .u64 y,.int .i64 2] w4 _ from hy ▸ Wire.whigh_calls (w0:=a) a.heap.size v4 ([UInt8.ofNat f]++[UInt8.ofNat (n/256),UInt8.ofNat (n%256)]) m (by omega) Y.out L.out.size (by simp));go_wp2_with fail;refine(V _ ?_).out.mono ?_
  ·go_num
  rintro e w5 ⟨rfl,v5,Q,o⟩;have j:=o.keep a5.out (by have:=lt_of_block t.out;omega);have a7:=Hd j;have g0:=cell_in (i:=0) j rfl;have g3:=cell_in (i:=3) j rfl;have g4:=cell_in (i:=4) j rfl;have g5:=cell_in (i:=5) j rfl;have r:=Hd Q;have S:=Hd (L.out.trans' o (fun k h1 h2=>by omega));clear o j Q;go_wp2_with fail;refine(St.propsV_calls lc lp pb hl hp _).mono ?_;rintro e C ⟨rfl,d⟩;obtain⟨q,hq⟩:∃q:Nat,q=(5*pb+lp)*9+lc:=⟨_,rfl⟩;have a9:q<256:=by omega
  rw[←hq];have s:=Hd (show Wire.Wr a C a.heap.size v5 _ from⟨d.keep r.out.box (fun h=>h),r.out.own.keep d,r.out.new,r.out.apart⟩);have M:=Hd (S.out.trans d);clear d;have O:=fun(y:Int)(hy:y=(q:Int))=>Hd (show Calls Tryz.prog 116 #[.pointer (some ⟨a.heap.size,0,none⟩),.slice (some ⟨C.heap.size,0,none⟩) 1 1] (C.alloc (.cells #[.int .u8 y] 5)) (fun e w7=>e=.returned (.tuple #[])∧∃v',Wire.Wr a w7 a.heap.size v' (([UInt8.ofNat f]++[UInt8.ofNat (n/256),UInt8.ofNat (n%256)])++[UInt8.ofNat (m/256),UInt8.ofNat (m%256)]++[UInt8.ofNat q])∧Fr (fun k=>a.heap.size≤k) C w7) from by
   have v:=(R0 C).alloc (.cells #[.int .u8 y] 5);have D:=rd_one C C.heap.size rfl (UInt8.ofNat q) y (by rw[hy,UInt8.toNat_ofNat'];omega);refine(Wire.wput_calls (w0:=a) a.heap.size v5 _ [UInt8.ofNat q] (some ⟨C.heap.size,0,none⟩) 1 1 ⟨v.keep s.out.box (fun h=>h),s.out.own.keep v,s.out.new,s.out.apart⟩ (Nat.le_trans M.out.size v.size) D (by simp) rfl).mono ?_;rintro e w7 ⟨rfl,v7,z,g⟩;exact⟨rfl,v7,z,(v.mono (fun _ _ h=>h.elim)).trans g⟩)
  go_wp2_with fail;refine(O _ ?_).out.mono ?_
  ·go_num
  rintro e w7 ⟨rfl,v7,z,g⟩;have Z:=Hd z;have N:=Hd (M.out.trans' g (fun k h1 h2=>by omega));clear g z O;go_wp2_with fail;refine(Wire.bytes_calls (w0:=a) a.heap.size v7 _ Z.out (by simp) (by simp)).mono ?_;rintro e w8 ⟨B,p,u,rfl,hM⟩;have HM:=Hd hM;have T:=Hd (N.out.trans B);clear B hM;go_wp2_with fail;go_ret2;rw[←hf,←hq];exact⟨I.out.trans T.out,p,u,rfl,HM.out.own,fun k hk=>Nat.le_trans (Nat.le_trans I.out.size N.out.size) (HM.out.new k hk)⟩
end Enc
namespace Enc
open Mem Win
def okS(k n m:Nat):Bool:=if k≤2 then decide (1≤n∧n≤65536) else En.sizedP n m
theorem hput_no(k n m lc lp pb:Nat)(g:1≤k∧k≤6)(w:World)(c:∀W,Calls Tryz.prog 114 #[.agg #[.int .i64 k,.int .i64 n,.int .i64 m,.int .i64 lc,.int .i64 lp,.int .i64 pb]] W fun e d=>e=.returned (.bool false)∧Fr (fun _=>False) W d):
 Calls Tryz.prog 67 #[.agg #[.int .i64 k,.int .i64 n,.int .i64 m,.int .i64 lc,.int .i64 lp,.int .i64 pb]] w fun e d=>e=.returned (.tuple #[.slice none 0 0,.int .i64 7])∧Fr (fun _=>False) w d:=by
 have f:=Hd ((R0 w).alloc (.cells #[.int .i64 k,.int .i64 n,.int .i64 m,.int .i64 lc,.int .i64 lp,.int .i64 pb] 47));have h:decide ((k:Int)<0)=false:=decide_eq_false (by omega);have i:decide ((k:Int)≥7)=false:=decide_eq_false (by omega);have j:decide ((7:Int)≤k)=false:=decide_eq_false (by omega);have c:=fun W=>Hd (c W);go_enter Tryz.func67,Tryz.ntmps67;go_wp2_with fail;refine(c _).out.mono ?_;rintro e l ⟨rfl,a⟩;have b:=Hd (f.out.trans a);clear a;go_wp2_with fail;go_ret2;exact⟨rfl,b.out⟩
theorem u8_mod(a:Nat):UInt8.ofNat (a%256)=UInt8.ofNat a:=by
 apply UInt8.toNat_inj.1;rw[UInt8.toNat_ofNat',UInt8.toNat_ofNat',Nat.mod_mod]
theorem hput_any(k n m lc lp pb:Nat)(s:1≤k∧k≤6)(g:k≤2→m=n)(i:lc+lp≤4)(j:pb≤4)(w:World):
 Calls Tryz.prog 67 #[.agg #[.int .i64 k,.int .i64 n,.int .i64 m,.int .i64 lc,.int .i64 lp,.int .i64 pb]] w fun e c=>Fr (fun _=>False) w c∧∃hv,e=.returned (.tuple #[hv,.int .i64 (if okS k n m=true then 0 else 7)])∧(okS k n m=true→Mine w c hv (En.headB (if k<5 then⟨k,n,m,0,0,0⟩ else⟨k,n,m,lc,lp,pb⟩))):=by
 by_cases h:okS k n m=true
 ·rw[if_pos h]
  by_cases f:k≤2
  ·obtain rfl:=g f
   unfold okS at h;rw[if_pos f,decide_eq_true_eq] at h;obtain⟨q,rfl⟩:∃q,m=q+1:=⟨m-1,by omega⟩;refine(hput_raw k q lc lp pb (by omega) (by omega) w).mono ?_;rintro e c ⟨b,p,d,rfl,a⟩;refine⟨b,_,rfl,fun _=> ?_⟩;rw[if_pos (by omega)];unfold En.headB;rw[if_neg (by simp only;omega),if_pos f];exact a
  ·unfold okS En.sizedP at h
   rw[if_neg f,decide_eq_true_eq] at h;obtain⟨q,rfl⟩:∃q,n=q+1:=⟨n-1,by omega⟩;obtain⟨r,rfl⟩:∃r,m=r+1:=⟨m-1,by omega⟩;obtain rfl|rfl|rfl|rfl:k=3∨k=4∨k=5∨k=6:=by omega
   ·refine(hput_k34 3 0 (.inl ⟨rfl,rfl⟩) q r lc lp pb (by omega) (by omega) i j w).mono ?_
    rintro e c ⟨b,p,d,rfl,a⟩;refine⟨b,_,rfl,fun _=> ?_⟩;rw[if_pos (by decide)];simp only[En.headB,Nat.add_sub_cancel,u8_mod] at a ⊢;exact a
   ·refine(hput_k34 4 1 (.inr ⟨rfl,rfl⟩) q r lc lp pb (by omega) (by omega) i j w).mono ?_
    rintro e c ⟨b,p,d,rfl,a⟩;refine⟨b,_,rfl,fun _=> ?_⟩;rw[if_pos (by decide)];simp only[En.headB,Nat.add_sub_cancel,u8_mod] at a ⊢;exact a
   ·refine(hput_k56 5 2 (.inl ⟨rfl,rfl⟩) q r lc lp pb (by omega) (by omega) i j w).mono ?_
    rintro e c ⟨b,p,d,rfl,a⟩;refine⟨b,_,rfl,fun _=> ?_⟩;rw[if_neg (by decide)];simp only[En.headB,Nat.add_sub_cancel,u8_mod] at a ⊢;exact a
   ·refine(hput_k56 6 3 (.inr ⟨rfl,rfl⟩) q r lc lp pb (by omega) (by omega) i j w).mono ?_
    rintro e c ⟨b,p,d,rfl,a⟩;refine⟨b,_,rfl,fun _=> ?_⟩;rw[if_neg (by decide)];simp only[En.headB,Nat.add_sub_cancel,u8_mod] at a ⊢;exact a
 ·rw[if_neg h]
  have o:∀W,Calls Tryz.prog 114 #[.agg #[.int .i64 k,.int .i64 n,.int .i64 m,.int .i64 lc,.int .i64 lp,.int .i64 pb]] W fun e c=>e=.returned (.bool false)∧Fr (fun _=>False) W c:=by
   intro W;by_cases f:k≤2
   ·obtain rfl:=g f
    unfold okS at h;rw[if_pos f] at h;have:=sized_raw k m lc lp pb (by omega) W;rw[show decide (1≤m∧m≤65536)=false by simpa using h] at this;exact this
   ·unfold okS at h
    rw[if_neg f] at h;have:=sized_packed k n m lc lp pb (by omega) W;rw[show En.sizedP n m=false by simpa using h] at this;exact this
  refine(hput_no k n m lc lp pb s w o).mono ?_;rintro e c ⟨rfl,b⟩;exact⟨b,_,rfl,fun l=>absurd l h⟩
end Enc
namespace En
open Mem St
end En
namespace En
open Mem Rc St Lz Ck
end En
namespace En
open Mem Rc St Lz Ck
theorem widen_s(k:K):k.widen.s≤k.s+1:=by
 unfold K.widen;split<;>simp
theorem op_bd(e:Es)(o:Op):(e.op o).k.s≤e.k.s+1:=by
 cases o with
 |bit j i b=>
   refine Nat.le_trans (widen_s _) ?_;unfold K.cut;split<;>exact Nat.le_refl _
 |half b=>exact widen_s _
theorem run_bd:∀(o:List Op)(e:Es),(e.run o).k.s≤e.k.s+o.length
 |[],e=>Nat.le_refl _
 |q::o,e=>by
   have a:=run_bd o (e.op q);have b:=op_bd e q;rw[Es.run,List.length_cons];omega
theorem tree_n(back:Bool)(j a n x:Nat):∀(f m:Nat),(treeOps back j a n x f m).length=f
 |0,m=>rfl
 |f+1,m=>by rw[treeOps,List.length_cons,tree_n]
theorem mat_n(u a b:Nat):∀(k m:Nat)(s:Bool),(matOps u a b k m s).length=k
 |0,m,s=>rfl
 |k+1,m,s=>by rw[matOps,List.length_cons,mat_n]
theorem halves_n(x:Nat):∀n,(halves x n).length=n
 |0=>rfl
 |n+1=>by rw[halves,List.length_cons,halves_n]
theorem lit_n(c:C)(b:Nat):(litOps c b).length=8:=by
 unfold litOps;split
 ·exact tree_n ..
 ·exact mat_n ..
theorem len_n(c:C)(q n:Nat):(lenOps c q n).length≤10:=by
 unfold lenOps;split
 ·simp[tree_n]
 ·split<;>simp[tree_n]
theorem rest_n{a r:Nat}(h:a<64):(restOps a r).length≤34:=by
 have b:(range a).2≤30:=by
  unfold range;split
  ·simp
  ·simp only
   omega
 unfold restOps;split
 ·simp
 ·split
  ·simp only[tree_n]
   omega
  ·simp only[List.length_append,halves_n,tree_n]
   omega
theorem sym_n{c:C}{y:Sy}(h:May c y):(symOps c y).length≤52:=by
 have i:=h.kind;have g:=h.dist;unfold symOps;by_cases e:y.kind=1
 ·rw[if_pos e]
  simp[lit_n]
 ·rw[if_neg e]
  by_cases b:y.kind=2
  ·rw[if_pos b]
   have a:=g b;have f:=len_n c 7 y.len;have d:=rest_n (r:=y.dist-(range (slotOf y.dist)).1) (slotOf_in a.1 a.2).1;simp only[distOps,List.length_append,tree_n,List.length_cons,List.length_nil];omega
  ·rw[if_neg b]
   have f:=len_n c 11 y.len;by_cases d:y.kind=3
   ·rw[if_pos d]
    unfold repOps;split
    ·simp only[List.length_append,List.length_cons,List.length_nil]
     omega
    ·split<;>simp only[List.length_append,List.length_cons,List.length_nil]<;>omega
   ·rw[if_neg d]
    simp
theorem size_le{z:Sz}(d:z.bad=0)(a:z.byte<256):St.size z.sy≤273:=by
 have b:=may_of (c:=⟨0,0,0,S.new,0,[]⟩) d a;unfold St.size;split
 ·split
  ·rename_i h0 h1
   have:=b.len h1;unfold isL at this;omega
  ·omega
 ·omega
theorem apZ_put{x:Xe}{z:Sz}(h:(x.apZ z).1=0)(a:z.byte<256):(x.put z.sy).e.k.s≤x.e.k.s+52∧(x.put z.sy).c.all.length=x.c.all.length+St.size z.sy∧St.size z.sy≤273∧(x.apZ z).2.1.length=St.size z.sy:=by
 obtain⟨f,b⟩:=apZ_ok h;have e:=may_of (c:=x.c) f a;have i:=sym_n e;have g:=run_bd (symOps x.c z.sy) x.e;have d:(x.ap z.sy).2.1.length=St.size z.sy:=apply_len (by rw[b] at h;exact h) e.kind;refine⟨Nat.le_trans g (by omega),?_,size_le f a,by rw[b];exact d⟩;show(x.c.all++(x.ap z.sy).2.1).length=_;rw[List.length_append,d]
theorem head_n(h:Head):(headB h).length≤6:=by
 unfold headB;split
 ·simp
 ·split
  ·simp
  ·split<;>simp
theorem applyZ_len{size:Nat}{all:List UInt8}{s:S}{z:Sz}(h:(applyZ size all s z).1=0)(b:z.byte<256):z.bad=0∧(applyZ size all s z).2.1.length≤273:=by
 unfold applyZ at*;by_cases a:z.bad=0
 ·rw[if_pos a] at h ⊢
  refine⟨a,?_⟩;rw[apply_len h (may_of (c:=⟨0,0,0,S.new,0,[]⟩) a b).kind];exact size_le a b
 ·rw[if_neg a] at h
  exact absurd h a
end En
namespace Pk
open Mem Rc St Lz En Win
def Far(dict:Nat):List Sy→S→Prop
 |[],_=>True
 |y::l,s=>(y.kind≠1→distOf s y≤dict)∧Far dict l (s.next y).2
theorem greedy_far{D:List UInt8}{tp dict:Nat}:∀{l:List Sy}{p q:Nat}{s t:S},Px.Greedy D tp dict l p s q t→Far dict l s
 |[],_,_,_,_,_=>trivial
 |y::l,p,q,s,t,⟨_,e,h⟩=>⟨fun a=>by subst e;exact Px.first_dist a,greedy_far h⟩
theorem cheap_far{D:List UInt8}{tp dict f:Nat}{a:List Px.Stp}(d:Px.Plan D tp dict a)(c:a.length≤tp):∀{l:List Sy}{p q:Nat}{s t:S},Px.Cheap D tp dict f a l p s q t→Far dict l s
 |[],_,_,_,_,_=>trivial
 |y::l,p,q,s,t,⟨_,z,hz,e,h⟩=>⟨fun i=>by
   subst e;obtain⟨b,g⟩:=d.best hz c;exact Px.named_dist g i,cheap_far d c h⟩
def By(mode dict:Nat)(data:List UInt8)(tp fm:Nat)(s:S)(l:List Sy)(t:S):Prop:=
 if mode=2 then∃pl,Px.Plan data tp dict pl∧pl.length=tp-fm∧Px.Cheap data tp dict fm pl l fm s tp t else Px.Greedy data tp dict l fm s tp t
theorem By.far{a dict tp b:Nat}{data:List UInt8}{s t:S}{l:List Sy}(h:By a dict data tp b s l t):Far dict l s:=by
 unfold By at h;split at h
 ·obtain⟨f,c,e,d⟩:=h
  exact cheap_far c (by omega) d
 ·exact greedy_far h
theorem By.uniq{a dict tp f:Nat}{data:List UInt8}{s t g:S}{l l':List Sy}(h:By a dict data tp f s l t)(b:By a dict data tp f s l' g):l=l'∧t=g:=by
 unfold By at h b;by_cases e:a=2
 ·rw[if_pos e] at h b
  obtain⟨o,i,n,k⟩:=h;obtain⟨m,c,j,d⟩:=b;obtain rfl:=i.uniq c (by omega);exact k.uniq d (Nat.le_refl _) (Nat.le_refl _)
 ·rw[if_neg e] at h b
  exact h.uniq b (Nat.le_refl _) (Nat.le_refl _)
theorem may_sy{c:C}{y:Sy}{s:S}(e:y.Ok)(a:(s.next y).1=0):May c y:=by
 refine⟨e.kind,e.byte,fun b=> ?_,fun b=> ?_,e.dist⟩
 ·by_cases d:isL y.len
  ·exact d
  ·exfalso
   unfold S.next at a;rcases b with b|b
   ·rw[if_neg (by omega),if_neg (by omega),if_pos b,if_neg d] at a
    simp at a
   ·rw[if_neg (by omega),if_neg (by omega),if_neg (by omega),if_neg d] at a
    simp at a
 ·by_cases d:isD y.dist
  ·exact d
  ·exfalso
   unfold S.next at a;rw[if_neg (by omega),if_neg (by omega),if_pos b] at a;split at a;all_goals simp[d] at a
theorem legal_of{data:List UInt8}{tp dict:Nat}(d:tp≤data.length):∀{l:List Sy}{x:Xe}{p q:Nat}{t:S},p≤tp→x.c.all=data.take p→x.c.size=dict→Steps data tp l p x.c.s q t→Far dict l x.c.s→Legal l x
 |[],_,_,_,_,_,_,_,_,_=>trivial
 |y::l,x,p,q,t,hp,hx,hd,⟨h1,h2⟩,⟨h3,h4⟩=>by
   have b:(x.ap y).1=0:=by
    unfold Xe.ap apply;rw[if_pos h1.next];by_cases a:y.kind=1
    ·rw[if_pos a]
    ·rw[if_neg a]
     obtain⟨i,j,_⟩:=h1.run a;have:=h3 a;rw[if_pos ⟨i,by rw[hx,hd,List.length_take];omega⟩]
   obtain⟨e,f⟩:=right_made hx d h1 b;have h:=h1.fits;refine⟨may_sy h1.ok h1.next,b,?_⟩;have g:(x.put y).c.all=data.take (p+St.size y):=by
    show x.c.all++(x.ap y).2.1=_;rw[hx,e,List.take_add]
   have c:(x.put y).c.s=(x.c.s.next y).2:=f;exact legal_of d h g hd (by rw[c];exact h2) (by rw[c];exact h4)
end Pk
end Go.Proofs.YtffoddpjfgjelaaGreatDoor
