/- Part 27 of 54: lemmas of the last part, each under the conditions that it names. -/
import Derived.Deep.RegionHeld3
import Derived.Test.YtffoddpjfgjelaaGreatDoorK15
import Derived.Test.YtffoddpjfgjelaaGreatDoorK24
set_option linter.unusedVariables false
set_option linter.unusedSimpArgs false
set_option maxRecDepth 1500
set_option maxHeartbeats 1000000
namespace Go.Proofs.YtffoddpjfgjelaaGreatDoor
open Go.RowKit
namespace En
open Mem Rc Win Lz St
theorem XAt.box{w w':World}{l:XL}{x:Xe}(h:XAt w l x){k:Nat}{a:Array Value}{t:TypeId}{fr:Nat×Nat}(b:w.heap[k]? =some (.cells a t fr))(c:t≠219)(d:t≠5)(e:t≠3)(f:Fr (XF l) w w'):w'.heap[k]? =some (.cells a t fr):=f.keep b (h.off b c d e)
abbrev syV(k by':Nat)(n d:Int):Array Value:=#[.int .i64 k,.int .u8 by',.int .i64 n,.int .i64 d]
theorem and15(r:Nat):bits BinOp.and IntKind.i64 (r:Int) 15=(r:Int)%16:=by
 have c:r%16<16:=Nat.mod_lt _ (by decide);have b:(BitVec.ofInt 64 (15:Int)).toNat=2^4-1:=by decide
 have a:(BitVec.ofInt 64 (r:Int)).toNat=r%2^64:=by rw[BitVec.ofInt_natCast,BitVec.toNat_ofNat]
 show IntKind.i64.wrap ((BitVec.ofInt 64 (r:Int)&&&BitVec.ofInt 64 (15:Int)).toNat:Int)=_;rw[BitVec.toNat_and,a,b,Nat.and_two_pow_sub_one_eq_mod,Nat.mod_mod_of_dvd _ (by decide)];exact IntWalk.i64_in _ (by omega)
theorem min_slot(n:Nat)(h:2≤n):64*min ((n:Int)-2) 3=((slotAt n:Nat):Int):=by unfold slotAt;omega
set_option maxRecDepth 4000 in
theorem distance_calls{w:World}{l:XL}{x:Xe}(h:XAt w l x)(hp:XSep l){n d by':Nat}(h1:2≤n)(P:n≤273)(hd:isD d)(hs:x.e.k.s≤1099511620000):
 Calls Tryz.prog 196 #[ptr l.D,iV l.E,.agg (syV 2 by' n d)] w (SPost l w (x.ops (distOps n (slotOf d) d))):=by
 have hf:=(R0 w).alloc (.cells (syV 2 by' n d) 110);have hx:=heap_alloc_new w (.cells (syV 2 by' n d) 110);have Q:=h.keep hf;obtain⟨s1,B,s3⟩:=slotOf_in hd.1 hd.2;have c2:=fun W=>Hd (slot_calls d W hd.1 hd.2);have c8:slotAt n+64≤256:=by unfold slotAt;omega
 have K:=min_slot n h1;have HO:=Hd (show distOps n (slotOf d) d=treeOps false 15 (slotAt n) 6 (slotOf d) 6 1++restOps (slotOf d) (d-(range (slotOf d)).1) from rfl);generalize slotOf d=slot at*;generalize slotAt n=sa at*;have hr:=range_le ⟨slot,s1⟩;simp only at hr;have b9:=fun W=>Hd (range_calls slot (by omega) W);have S:(range slot).2=0→restOps slot (d-(range slot).1)=[]:=fun h=>by unfold restOps;rw[if_pos h]
 have G:¬(range slot).2=0→slot<14→restOps slot (d-(range slot).1)=treeOps true 16 (restAt slot) (range slot).2 (d-(range slot).1) (range slot).2 1:=fun h P=>by unfold restOps;rw[if_neg h,if_pos P]
 have J:¬(range slot).2=0→¬slot<14→restOps slot (d-(range slot).1)=halves ((d-(range slot).1)/16) ((range slot).2-4)++treeOps true 17 0 4 ((d-(range slot).1)%16) 4 1:=fun h P=>by unfold restOps;rw[if_neg h,if_neg P]
 have Y:(range slot).2≠0→4≤slot:=fun h=>by
  unfold range at h;split at h
  ·exact absurd rfl h
  ·omega
 have Z:4≤slot→slot<14→restAt slot+2^(range slot).2≤128:=fun h P=>restAt_le ⟨slot,P⟩ h;obtain⟨a7,e0,e1,a8,a9⟩:=hr;generalize restOps slot (d-(range slot).1)=ro at*;generalize(range slot).1=ls at*;generalize(range slot).2=bits at*;obtain⟨r,hr⟩:∃r,r=d-ls:=⟨_,rfl⟩;have e2:(d:Int)-ls=(r:Int):=by omega
 have L:r<2^bits:=by omega
 rw[←hr] at G J;have b6:=Hd S;have b7:=Hd G;have b8:=Hd J;have V:=Hd Y;have c1:=Hd Z;have X:=Hd (And.intro a8 a9);clear S G J Y Z a8 a9 hr;have HF:=Hd hf;have s:=Hd (show∀(o:List Op)(w':World),distOps n slot d=o→XPost l _ (x.ops o) w'→XPost l w (x.ops (distOps n slot d)) w' from fun o w' e hq=>by rw[e];exact XPost.box hf hq);have d5:=fun k=>m_tree k l.E;have d6:=fun k=>m_back k l.E;have d7:=fun k=>m_direct k l.E;have d8:=fun k=>na_tree k l.E;have d9:=fun k=>na_back k l.E;clear h hf;go_enter Tryz.func196,Tryz.ntmps196;go_wp2_with fail;generalize hz:w.heap.size=z at*;generalize hW:w.alloc (.cells (syV 2 by' n d) 110)=W at*;refine(c2 _).out.mono ?_;rintro e w1 ⟨rfl,rfl⟩;go_wp2_with fail;refine(b9 _).out.mono ?_;rintro e w1 ⟨rfl,rfl⟩;go_upto_region 3 with fail;have C:W.heap[z]? =some (.cells (syV 2 by' n d) 110 (0,0)):=hx;have HA:=Hd Q;have HX:=Hd C;have f:=ctree_calls (Q.keep (R0 W).drew) hp (j:=15) (a:=sa) (n:=6) (v:=slot) (by omega) (by omega) (by omega) (by show sa+64≤256;exact c8) (by omega);rw[show((6:Nat):Int)=6 from rfl] at f;have T:=Hd f;have b:=Hd (show W.drew.cell? ⟨l.D,0,none⟩=some (ptr l.T)∧W.drew.cell? ⟨l.T,23,none⟩=some (ptr (l.b 15))∧W.drew.cell? ⟨z,2,none⟩=some (.int .i64 n) from⟨Q.cells.d0,Q.cells.row 15 (by omega),cell_in C rfl⟩);have b1:=Hd (Q.keep (R0 W).drew);have c3:=Hd ((R0 W).drew.keep C (fun h=>h));clear Q hx C f;go_cut [] (fun wx=>(∃u,Fr (XF l) W wx∧XAt wx {l with v:=u} (x.ops (treeOps false 15 sa 6 slot 6 1))∧XSep {l with v:=u}∧∀k,u.ownBlock=some k→l.v.ownBlock=some k∨W.heap.size≤k)∧wx.heap[z]? =some (.cells (syV 2 by' n d) 110 (0,0)));case first=>
  obtain⟨k0,k1,k2⟩:=b.out;have e3:IntKind.i64.wrap ((n:Int)-2)=(n:Int)-2:=IntWalk.i64_in _ (by omega);have e4:IntKind.i64.wrap (sa:Int)=(sa:Int):=IntWalk.i64_in _ (by omega);go_region_held3 (fun w'=>w'.cell? ⟨l.D,0,none⟩=some (ptr l.T)∧w'.cell? ⟨l.T,23,none⟩=some (ptr (l.b 15))∧w'.cell? ⟨z,2,none⟩=some (.int .i64 n)) (with_reducible exact b.out) ((
   (go_at_call 341
    with_reducible refine T.out.mono ?_
    rintro e w2 ⟨rfl,A,u,g,B,D⟩;have c:=b1.out.box c3.out (by decide) (by decide) (by decide) A;have b:=Hd (show w2.cell? ⟨l.D,0,none⟩=some (ptr l.T)∧w2.cell? ⟨l.T,23,none⟩=some (ptr (l.b 15))∧w2.cell? ⟨z,2,none⟩=some (.int .i64 n) from⟨g.cells.d0,g.cells.row 15 (by omega),cell_in c rfl⟩);have HQ:=Hd (And.intro (show∃u,Fr (XF l) W w2∧XAt w2 {l with v:=u} (x.ops (treeOps false 15 sa 6 slot 6 1))∧XSep {l with v:=u}∧∀k,u.ownBlock=some k→l.v.ownBlock=some k∨W.heap.size≤k from⟨u,(Fr.refl (XF l) W).drew.trans A,g,B,D⟩) c);clear A g B D c)))
  all_goals
   go_wp2_with fail;go_meet;exact HQ.out
 case rest=>
  obtain⟨⟨u,A,g,B,D⟩,c⟩:=hcut;have d3:=cell_in (i:=3) c rfl;have M:=run_s (treeOps false 15 sa 6 slot 6 1) x.e;rw[tree_len] at M;by_cases p:bits=0
  ·subst p
   have O:=Hd (HO.out.trans (by rw[b6.out rfl,List.append_nil]));have U:=Hd (s.out _ wc O.out ⟨A,u,g,B,D⟩);clear A g B D c M K;go_wp2_with fail;go_end0;exact⟨rfl,U.out⟩
  have c9:((bits:Int)==0)=false:=by simp[p]
  by_cases t:slot<14
  ·have d4:=X.out.2 (V.out p) t
   have b0:=c1.out (V.out p) t;have HL:=fun W=>Hd (late_no slot t W);have c0:=fun W=>Hd (restAt_calls slot W (by omega));have O:=Hd (HO.out.trans (by rw[b7.out p t]));have c4:=Nat.two_pow_pos bits;have f:=cback_calls (g.keep (R0 wc).drew) B (j:=16) (a:=restAt slot) (n:=bits) (v:=r) (by omega) (by omega) L (by show restAt slot+2^bits≤128;exact b0) (Nat.le_trans M (by omega));have T:=Hd f;have H:=Hd A;have I:=Hd D;have b:=Hd (show wc.drew.cell? ⟨l.D,0,none⟩=some (ptr l.T)∧wc.drew.cell? ⟨l.T,24,none⟩=some (ptr (l.b 16)) from⟨g.cells.d0,g.cells.row 16 (by omega)⟩);clear A g B D c M K f b0 c4 L a7;generalize restAt slot=ra at*;go_wp2_with fail;refine(HL _).out.mono ?_;rintro e w3 ⟨rfl,rfl⟩;go_wp2_with fail;obtain⟨k0,k1⟩:=b.out;go_region_held3 (fun w'=>w'.cell? ⟨l.D,0,none⟩=some (ptr l.T)∧w'.cell? ⟨l.T,24,none⟩=some (ptr (l.b 16))) (with_reducible exact b.out) ((first
    | (go_at_call 246
       with_reducible refine(c0 _).out.mono ?_
       rintro e wq ⟨rfl,rfl⟩)
    | (go_at_call 338
       with_reducible refine T.out.mono ?_
       rintro e F ⟨rfl,R,v4,E,s4,n4⟩;have b:=Hd (show F.cell? ⟨l.D,0,none⟩=some (ptr l.T)∧F.cell? ⟨l.T,24,none⟩=some (ptr (l.b 16)) from⟨E.cells.d0,E.cells.row 16 (by omega)⟩);have U:=Hd (s.out _ F O.out (by rw[←ops_ops];exact XPost.trans H.out I.out (XPost.box (R0 wc).drew ⟨R,v4,E,s4,n4⟩)));clear R E s4 n4)))
   all_goals
    go_wp2_with fail;go_end0;exact⟨rfl,U.out⟩
  ·have d2:=X.out.1 (by omega)
   have HL:=fun W=>Hd (late_yes slot (by omega) W);have O:=Hd (HO.out.trans (by rw[b8.out p t]));obtain⟨y,a0⟩:∃y,y=bits-4:=⟨_,rfl⟩;obtain⟨q,hq⟩:∃q,q=r/16:=⟨_,rfl⟩;obtain⟨m,hm⟩:∃m,m=r%16:=⟨_,rfl⟩;rw[←a0,←hq,←hm] at O;have c6:2^bits=2^y*16:=by rw[show(16:Nat)=2^4 by rfl,←Nat.pow_add];congr 1;omega
   have c7:q<2^y:=by omega
   have c5:2^y≤2^26:=Nat.pow_le_pow_right (by omega) (by omega);have f:=cdirect_calls g B (n:=y) (v:=q) (by omega) (by omega) (Nat.le_trans M (by omega));rw[show((q:Nat):Int)=(r:Int)/16 by omega,show((y:Nat):Int)=(bits:Int)-4 by omega] at f;have T:=Hd f;have H:=Hd A;have I:=Hd D;have N:=run_s (halves q y) (x.ops (treeOps false 15 sa 6 slot 6 1)).e;have a1:∀k,(halves q k).length=k:=fun k=>by
    induction k with
    |zero=>rfl
    |succ k ih=>rw[halves,List.length_cons,ih]
   rw[a1] at N;have HU:=Hd (Nat.le_trans N (Nat.add_le_add_right M y));have a3:m<16:=by omega
   have d0:y≤26:=by omega
   have a6:((m:Nat):Int)=(r:Int)%16:=by omega
   have b4:=Hd a6;have d1:=and15 r;clear a6;clear A g B D c M K f c6 c7 c5 hq a1 N L a7 s3 a0 hm;go_wp2_with fail;refine(HL _).out.mono ?_;rintro e w3 ⟨rfl,rfl⟩;go_wp2_with fail;refine T.out.mono ?_;rintro e F ⟨rfl,R,v4,E,s4,n4⟩;have f:=cback_calls (E.keep (R0 F).drew) s4 (j:=17) (a:=0) (n:=4) (v:=m) (by omega) (by omega) a3 (show 0+2^4≤16 by decide) (Nat.le_trans HU.out (by omega));rw[show((4:Nat):Int)=4 from rfl,show((0:Nat):Int)=0 from rfl,b4.out] at f;have b2:=Hd f;have b3:=Hd R;have b5:=Hd n4;have b:=Hd (show F.drew.cell? ⟨l.D,0,none⟩=some (ptr l.T)∧F.drew.cell? ⟨l.T,25,none⟩=some (ptr (l.b 17)) from⟨E.cells.d0,E.cells.row 17 (by omega)⟩);clear R E s4 n4 f;go_wp2_with fail;obtain⟨k0,k1⟩:=b.out;go_region_held3 (fun w'=>w'.cell? ⟨l.D,0,none⟩=some (ptr l.T)∧w'.cell? ⟨l.T,25,none⟩=some (ptr (l.b 17))) (with_reducible exact b.out) ((
    (go_at_call 338
     with_reducible refine b2.out.mono ?_
     rintro e w5 ⟨rfl,f5,v5,a5,s5,n5⟩;have b:=Hd (show w5.cell? ⟨l.D,0,none⟩=some (ptr l.T)∧w5.cell? ⟨l.T,25,none⟩=some (ptr (l.b 17)) from⟨a5.cells.d0,a5.cells.row 17 (by omega)⟩);have U:=Hd (s.out _ w5 O.out (by rw[←ops_ops,←ops_ops];exact XPost.trans H.out I.out (XPost.trans b3.out b5.out (XPost.box (R0 F).drew ⟨f5,v5,a5,s5,n5⟩))));clear f5 a5 s5 n5)))
   all_goals
    go_wp2_with fail;go_end0;exact⟨rfl,U.out⟩
end En
end Go.Proofs.YtffoddpjfgjelaaGreatDoor
