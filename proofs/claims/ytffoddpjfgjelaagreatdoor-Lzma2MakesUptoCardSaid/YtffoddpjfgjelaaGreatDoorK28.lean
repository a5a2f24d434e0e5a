/- Part 28 of 54: lemmas of the last part, each under the conditions that it names. -/
import Derived.Test.YtffoddpjfgjelaaGreatDoorK27
set_option linter.unusedVariables false
set_option linter.unusedSimpArgs false
set_option maxRecDepth 1500
set_option maxHeartbeats 2000000
namespace Go.Proofs.YtffoddpjfgjelaaGreatDoor
open Go.RowKit
namespace En
open Mem Rc Win Lz St
theorem XAt.last0{w:World}{l:XL}{x:Xe}(h:XAt w l x)(d:Nat):Calls Tryz.prog 191 #[ptr l.W,.int .i64 d] w fun e a=>e=.returned (.tuple #[.int .u8 (x.c.lastB d),.int .i64 (Win.last x.c.size x.c.all d).2])∧w=a:=
 Win.last_calls l.W x.c.size l.t d l.rv x.c.all l.ring _ h.win
theorem XAt.contextC{w:World}{l:XL}{x:Xe}(h:XAt w l x)(m:Nat):Calls Tryz.prog 241 #[ptr l.T,.int .i64 x.c.all.length,.int .u8 (x.c.lastB 1)] (w.drewN m) fun e a=>e=.returned (.int .i64 x.c.context)∧∃n,a=w.drewN n:=by
 refine(context_calls l.T x.c.all.length x.c.lc x.c.lp (x.c.lastB 1) _ (h.drewN m).cells.t0 (h.drewN m).cells.t1 h.ok.c.l (by have:=h.win.much;omega) (last_lt x.c 1)).mono ?_;rintro e a ⟨rfl,n,rfl⟩;exact⟨rfl,m+n,by simp⟩
set_option maxRecDepth 100000 in
theorem literal_calls{w:World}{l:XL}{x:Xe}(h:XAt w l x)(hp:XSep l){by':Nat}(D:by'<256)(hs:x.e.k.s≤1099511620000):
 Calls Tryz.prog 194 #[ptr l.D,iV l.E,.int .i64 by'] w (SPost l w (x.ops (litOps x.c by'))):=by
 have G:x.c.context+768≤768*2^(x.c.lc+x.c.lp):=(context_le x.c).resolve_right (by have:=h.ok.c.l;omega);have b7:2^(x.c.lc+x.c.lp)≤2^4:=Nat.pow_le_pow_right (by omega) h.ok.c.l;have c1:x.c.context≤12288:=by omega
 have R:=h.cells.d0;have k1:=h.cells.d1;have Z:=Hd (h.last0 1);have F:=Hd h.pos;have E:=Hd h.contextC;have g:=Hd (fun n=>h.drewN n);have t:=Hd (fun n=>(R0 w).drewN n);have V:=Hd G;have a9:=Hd (show x.c.s.num<7→litOps x.c by'=treeOps false 6 x.c.context 8 by' 8 1 from fun k=>by unfold litOps;rw[if_pos k]);have b0:=Hd (show¬x.c.s.num<7→litOps x.c by'=matOps (x.c.lastB x.c.s.r0) x.c.context by' 8 1 true from fun k=>by unfold litOps;rw[if_neg k]);have c3:=fun k=>m_bit k l.E;have c4:=fun k=>m_tree k l.E;have c5:=fun k=>na_tree k l.E;have c6:=fun k=>na_bit k l.E;clear h G b7;go_enter Tryz.func194,Tryz.ntmps194;go_wp2_with fail;refine Z.out.mono ?_;rintro e w2 ⟨rfl,rfl⟩;generalize(Win.last x.c.size x.c.all 1).2=er1;have c2:=last_lt x.c 1;generalize x.c.lastB 1=lb1 at*;generalize x.c.context=cx at*;go_wp2_with fail;go_quiet (first|exact quiet_left (F.out _)|exact E.out _);have p:=g.out nq;have K:=t.out nq;generalize w.drewN nq=W1 at*;have X:=Hd K;have I:=Hd p;clear g t F E Z R k1 K;have R:=p.cells.d0;have t3:=p.cells.t3;have t4:=p.cells.t4;have t5:=p.cells.t5;have t6:=p.cells.t6;have t7:=p.cells.t7;clear p;cases h7:decide (x.c.s.num<7) with
 |true=>
   have y:=Hd (At.litC x.c W1 true h7);have HD:=Hd (a9.out (of_decide_eq_true h7));clear h7;go_wp2_with fail;refine y.out.mono ?_;rintro e H ⟨rfl,c⟩;have b:=I.out.keep c;have a6:=Hd (X.out.trans c);have hc:=ctree_calls (b.keep (R0 H).drew) hp (j:=6) (a:=cx) (n:=8) (v:=by') (by omega) (by omega) D (by have:=V.out;show cx+2^8≤768*2^(x.c.lc+x.c.lp);omega) (by omega);rw[show((8:Nat):Int)=8 from rfl] at hc;have HC:=Hd hc;have r:=Hd (show H.drew.cell? ⟨l.D,0,none⟩=some (ptr l.T)∧H.drew.cell? ⟨l.T,14,none⟩=some (ptr (l.b 6)) from⟨b.cells.d0,b.cells.row 6 (by omega)⟩);clear b c R t3 t4 t5 t6 t7 hc;go_wp2_with fail;obtain⟨R,k1⟩:=r.out;go_region_held3 (fun w'=>w'.cell? ⟨l.D,0,none⟩=some (ptr l.T)∧w'.cell? ⟨l.T,14,none⟩=some (ptr (l.b 6))) (with_reducible exact r.out) ((
    (go_at_call 341
     with_reducible refine HC.out.mono ?_
     rintro e w4 ⟨rfl,f4,v4,a4,s4,n4⟩;have r:=Hd (show w4.cell? ⟨l.D,0,none⟩=some (ptr l.T)∧w4.cell? ⟨l.T,14,none⟩=some (ptr (l.b 6)) from⟨a4.cells.d0,a4.cells.row 6 (by omega)⟩);have O:=Hd (show XPost l w (x.ops (litOps x.c by')) w4 from by rw[HD.out];exact XPost.box (a6.out.trans (R0 H).drew) ⟨f4,v4,a4,s4,n4⟩);clear f4 a4 s4 n4)))
   all_goals
    go_wp2_with fail;go_end0;exact⟨rfl,O.out⟩
 |false=>
   have y:=Hd (At.litC x.c W1 false h7);have HD:=Hd (b0.out (of_decide_eq_false h7));clear h7;go_wp2_with fail;refine y.out.mono ?_;rintro e H ⟨rfl,c⟩;have b:=I.out.keep c;have a0:=Hd (show∀m,Calls Tryz.prog 191 #[ptr l.W,.int .i64 x.c.s.r0] (H.drewN m) fun e w'=>e=.returned (.tuple #[.int .u8 (x.c.lastB x.c.s.r0),.int .i64 (Win.last x.c.size x.c.all x.c.s.r0).2])∧H.drewN m=w' from fun m=>(b.drewN m).last0 x.c.s.r0);have m0:=b.cells.d0;have m1:=b.cells.d1;have m3:=b.cells.t4;have g:=Hd (fun n=>b.drewN n);have t:=Hd (fun n=>(X.out.trans c).drewN n);clear b c R t3 t4 t5 t6 t7 I y;generalize(Win.last x.c.size x.c.all x.c.s.r0).2=er2 at*;have b3:=last_lt x.c x.c.s.r0;generalize x.c.lastB x.c.s.r0=lb at*;go_wp2_with fail;go_quiet (exact quiet_left (a0.out _));have C:=g.out nq;have L:=t.out nq;generalize H.drewN nq=W4 at*;have b1:=Hd (show XPost l w (x.ops []) W4 from XPost.box L ⟨Fr.refl _ _,l.v,C,hp,fun k hk=>.inl hk⟩);clear C L g t a0 m0 m1 m3;go_wp2_with fail;go_loopw [12,13,14] (fun s i m wr=>∃(k f:Nat)(B:Bool)(o:List Op),k≤8∧i=.int .i64 ((k:Int)-1)∧m=.int .i64 f∧s=.bool B∧(f+1)*2^k≤512∧XPost l w (x.ops o) wr∧o.length+k=8∧o++matOps lb cx by' k f B=litOps x.c by') (fun _ i _ _=>(intOf i+1).toNat);case atStart=>exact⟨8,1,true,[],by omega,rfl,rfl,rfl,by decide,b1.out,rfl,by rw[HD.out];rfl⟩
   case round=>
    obtain⟨k,f,B,o,hk,rfl,rfl,rfl,A,⟨S,v5,a5,s5,Y⟩,b5,d⟩:=hrel;by_cases M:k=0
    ·subst M
     have O:=Hd (show XPost l w (x.ops (litOps x.c by')) wr from by
      rw[←d,show matOps lb cx by' 0 f B=[] from rfl,List.append_nil];exact⟨S,v5,a5,s5,Y⟩)
     clear S a5 s5 Y d A b5;go_wp2_with fail;go_end0;exact⟨rfl,O.out⟩
    ·obtain⟨j,rfl⟩:∃j,k=j+1:=⟨k-1,by omega⟩
     have hi:((j+1:Nat):Int)-1=(j:Int):=by omega
     rw[hi];have hu:=and_one lb j b3;have hv:=and_one by' j D
     have c7:lb/2^j%2≤1:=by omega
     have b8:by'/2^j%2≤1:=by omega
     rw[matOps] at d;generalize lb/2^j%2=ub at*;generalize by'/2^j%2=vb at*
     have b6:=Nat.two_pow_pos j;rw[Nat.pow_succ] at A;have b4:f<256:=by
      have h2:(f+1)*2≤(f+1)*(2^j*2):=Nat.mul_le_mul_left _ (by omega);omega
     have a8:=Hd (show(2*f+vb+1)*2^j≤512 from by
      have h3:(2*f+vb+1)*2^j≤(2*f+2)*2^j:=Nat.mul_le_mul_right _ (by omega);rw[show(f+1)*(2^j*2)=(2*f+2)*2^j by rw[Nat.mul_comm (2^j) 2,←Nat.mul_assoc];congr 1;omega] at A;omega)
     obtain⟨u,z⟩:∃u,u=(if B=true then 256*(1+ub) else 0):=⟨_,rfl⟩;rw[←z] at d;have c0:u≤512:=by rw[z];split<;>omega
     have U:=Hd z;have N:=run_s o x.e;have a3:=Hd (fun(W:World)(hW:Fr (fun _=>False) wr W)(q:Int)(hq:q=((cx+f+u:Nat):Int))=>show Calls Tryz.prog 339 #[sinkV l.E,ptr (l.b 6),.int .i64 q,.int .i64 vb] W (SPost {l with v:=v5} W ((x.ops o).ops [.bit 6 (cx+f+u) vb])) from by
      rw[hq];exact cbit_calls (a5.keep hW) s5 ⟨by omega,by show cx+f+u<768*2^(x.c.lc+x.c.lp);have:=V.out;omega,b8⟩ (Nat.le_trans N (by omega)))
     have a1:=Hd a5;have b9:=Hd d;have b2:=Hd (show∀W T,Fr (fun _=>False) wr W→XPost {l with v:=v5} W ((x.ops o).ops [.bit 6 (cx+f+u) vb]) T→XPost l w (x.ops (o++[.bit 6 (cx+f+u) vb])) T from fun W T hW hq=>by
      rw[←ops_ops];exact XPost.trans S Y (XPost.box hW hq))
     have IS:=Hd (show((vb:Int)==(ub:Int))=decide (vb=ub) by rw[Bool.eq_iff_iff];simp;omega);have P:=Hd (show∀s2,s2=(B&&decide (vb=ub))→(o++[.bit 6 (cx+f+u) vb])++matOps lb cx by' j (2*f+vb) s2=litOps x.c by' from fun s2 h2=>by rw[h2,←d];simp);clear S a5 s5 Y d A hi M b6 z N;cases B
     all_goals
      go_wp2_with fail;go_quiet (fail);have J:=Hd ((R0 wr).drewN nq);generalize wr.drewN nq=W6 at*;have a2:=Hd (a1.out.keep J.out);go_upto_region 13 with fail;go_cut [] from 78 to 122 (fun wx=>XPost l w (x.ops (o++[.bit 6 (cx+f+u) vb])) wx);case first=>
       have Q:=a2.out.keep (R0 W6).drew;have r:=Hd (show W6.drew.cell? ⟨l.D,0,none⟩=some (ptr l.T)∧W6.drew.cell? ⟨l.T,14,none⟩=some (ptr (l.b 6)) from⟨Q.cells.d0,Q.cells.row 6 (by omega)⟩);obtain⟨m0,m1⟩:=r.out;clear Q;go_region_held3 (fun w'=>w'.cell? ⟨l.D,0,none⟩=some (ptr l.T)∧w'.cell? ⟨l.T,14,none⟩=some (ptr (l.b 6))) (with_reducible exact r.out) ((
        (go_at_call 339
         with_reducible refine(a3.out W6.drew (J.out.trans (R0 W6).drew) _ (by have:=U.out;simp at this;omega)).mono ?_
         rintro e T ⟨rfl,f7,v7,a7,s7,n7⟩;have r:=Hd (show T.cell? ⟨l.D,0,none⟩=some (ptr l.T)∧T.cell? ⟨l.T,14,none⟩=some (ptr (l.b 6)) from⟨a7.cells.d0,a7.cells.row 6 (by omega)⟩);have O:=Hd (b2.out W6.drew T (J.out.trans (R0 W6).drew) ⟨f7,v7,a7,s7,n7⟩);clear f7 a7 s7 n7)))
       all_goals
        go_wp2_with fail;go_meet;exact O.out
      case rest=>
       have O:=Hd hcut;clear hcut;go_wp2_with fail;go_roundw;case rel=>exact⟨j,2*f+vb,_,o++[.bit 6 (cx+f+u) vb],by omega,rfl,by go_num,rfl,a8.out,O.out,by rw[List.length_append,List.length_singleton];omega,P.out _ (by first|rfl|(rw[IS.out];rfl)|simp[IS.out])⟩
       case measure=>simp[intOf]
end En
end Go.Proofs.YtffoddpjfgjelaaGreatDoor
