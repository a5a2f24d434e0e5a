/- Part 52 of 54: lemmas of the last part, each under the conditions that it names. -/
import Derived.Test.YtffoddpjfgjelaaGreatDoorK50
import Derived.Test.YtffoddpjfgjelaaGreatDoorK51
set_option linter.unusedVariables false
set_option linter.unusedSimpArgs false
set_option maxRecDepth 1500
set_option maxHeartbeats 16000000
namespace Go.Proofs.YtffoddpjfgjelaaGreatDoor
open Go.RowKit
namespace Qm
open Mem Win Ga Lz St En
def Ans(D:List UInt8→Nat→Prop)(w:World)(e:Ending)(w':World):Prop:=Fr (fun _=>False) w w'∧∃(bs:List UInt8)(er:Nat)(p:Option Addr)(cap:Nat),D bs er∧e=.returned (.tuple #[.slice p bs.length cap,.int .i64 er])∧Mine w w' (.slice p bs.length cap) bs
set_option maxRecDepth 100000 in
theorem makes_of(D:List UInt8→Nat→Prop)(a b lc lp pb dict d c:Int)(p0:Option Addr)(g:Nat)(data:List UInt8)(w:World)(hT:Tabs w)(hM:Ck.Moves w)(b9:Rd w (.slice p0 data.length g) data)(hb:data.length≤16777216)
    (hu:∀x e y f,D x e→D y f→x=y∧e=f)(hl:∀x e,D x e→x.length≤16777216)
    (hP:∀(W:World)(p:Option Addr)(B:Nat),Fr (fun _=>False) w W→Rd W (.slice p data.length B) data→Calls Tryz.prog 9 #[.slice p data.length B,.agg #[.int .i64 a,.int .i64 b,.int .i64 lc,.int .i64 lp,.int .i64 pb,.int .i64 dict,.int .i64 d,.int .i64 c]] W (Ans D W))
    (hR:∀(W:World)(p:Option Addr)(B:Nat),Fr (fun _=>False) w W→Rd W (.slice p data.length B) data→Calls Tryz.prog 10 #[.slice p data.length B,.agg #[.int .i64 a,.int .i64 b,.int .i64 lc,.int .i64 lp,.int .i64 pb,.int .i64 dict,.int .i64 d,.int .i64 c]] W (Ans D W)):
    Calls Tryz.prog 3 #[.slice p0 data.length g,.agg #[.int .i64 a,.int .i64 b,.int .i64 lc,.int .i64 lp,.int .i64 pb,.int .i64 dict,.int .i64 d,.int .i64 c]] w fun e w'=>e=.returned (.bool true)∧Fr (fun _=>False) w w':=by
  have hx:=heap_alloc_new w (.cells #[.int .i64 a,.int .i64 b,.int .i64 lc,.int .i64 lp,.int .i64 pb,.int .i64 dict,.int .i64 d,.int .i64 c] 26);have C:=(R0 w).alloc (.cells #[.int .i64 a,.int .i64 b,.int .i64 lc,.int .i64 lp,.int .i64 pb,.int .i64 dict,.int .i64 d,.int .i64 c] 26);obtain⟨w1,c0⟩:∃w1,w1=w.alloc (.cells #[.int .i64 a,.int .i64 b,.int .i64 lc,.int .i64 lp,.int .i64 pb,.int .i64 dict,.int .i64 d,.int .i64 c] 26):=⟨_,rfl⟩;rw[←c0] at hx C;have a7:=Hd (show∀W:World,Fr (fun _=>False) w1 W→W.cell? ⟨w.heap.size,0,none⟩=some (.int .i64 a)∧W.cell? ⟨w.heap.size,1,none⟩=some (.int .i64 b)∧W.cell? ⟨w.heap.size,2,none⟩=some (.int .i64 lc)∧W.cell? ⟨w.heap.size,3,none⟩=some (.int .i64 lp)∧W.cell? ⟨w.heap.size,4,none⟩=some (.int .i64 pb)∧W.cell? ⟨w.heap.size,5,none⟩=some (.int .i64 dict)∧W.cell? ⟨w.heap.size,6,none⟩=some (.int .i64 d)∧W.cell? ⟨w.heap.size,7,none⟩=some (.int .i64 c) from fun W h=>
    have h:=h.keep hx (fun h=>h)
    ⟨cell_in (i:=0) h rfl,cell_in (i:=1) h rfl,cell_in (i:=2) h rfl,cell_in (i:=3) h rfl,cell_in (i:=4) h rfl,cell_in (i:=5) h rfl,cell_in (i:=6) h rfl,cell_in (i:=7) h rfl⟩)
  have HW:=Hd C;have d3:=Hd (b9.keep C);have d2:=Hd hP;have f1:=Hd hR;have HU:=Hd hu;have HL:=Hd hl;have HT:=Hd hT;have HM:=Hd hM;have e6:=Hd hb;have b0:=Hd (La.room_calls data (.slice p0 data.length g) w1 (b9.keep C) hb);obtain⟨q,hq⟩:∃q,q=data.length:=⟨_,rfl⟩;have HQ:=Hd hq;rw[←hq] at b0 ⊢;clear hx C b9 hP hR hu hl hT hM hq hb;go_enter Tryz.func3,Tryz.ntmps3;go_upto_region 1 with fail;rw[←c0];clear c0;go_wp2_with fail;refine b0.out.mono ?_;rintro e V ⟨H,pc,cc,rfl,b2,I⟩;have g7:=Hd I;have t:=Hd H;have g6:=Hd b2;have f0:=Hd (show∀W,Fr (fun _=>False) V W→Rd W (.slice pc data.length cc) data from fun W hW=>(La.room_rd I).keep hW);have HK:=Hd (show∀(W:World),Fr (fun _=>False) V W→Calls Tryz.prog 11 #[.slice pc data.length cc,.slice p0 data.length g] W fun e w'=>e=.returned (.bool true)∧Fr (fun _=>False) W w' from fun W hW=>
    (La.held_calls pc cc data (.slice p0 data.length g) w1 W (I.keep hW) b2 (d3.out.keep (H.trans hW)) e6.out).mono fun e w' h=>⟨h.1,by obtain⟨m,rfl⟩:=h.2;exact(Fr.refl _ _).drewN m⟩)
  have o:=Hd (d2.out V pc cc (HW.out.trans H) (La.room_rd I));obtain⟨k0,k1,k2,k3,k4,k5,k6,k7⟩:=a7.out V H;rw[←HQ.out] at o HK ⊢;clear I H b2;go_wp2_with fail;refine o.out.mono ?_;rintro e w3 ⟨b4,bs,er,J,cb,hD,rfl,b1⟩;have HD:=Hd hD;obtain⟨n,hn⟩:∃n,n=bs.length:=⟨_,rfl⟩;have HN:=Hd hn;have f9:n≤16777216:=by rw[hn];exact HL.out _ _ hD
  have c5:=Hd f9;rw[←hn] at b1 ⊢;have r:=Hd (t.out.trans b4);have c2:=Hd b4;have Q:=Hd b1;have a8:=Hd (f1.out w3 p0 g (HW.out.trans r.out) (d3.out.keep r.out));rw[←HQ.out] at a8;clear b4 b1 o hD hn k0 k1 k2 k3 k4 k5 k6 k7;obtain⟨k0,k1,k2,k3,k4,k5,k6,k7⟩:=a7.out w3 r.out;go_wp2_with fail;refine a8.out.mono ?_;rintro e w4 ⟨K,g8,h0,pr,cr,d5,rfl,T⟩;obtain⟨rfl,rfl⟩:=HU.out _ _ _ _ HD.out d5;rw[←HN.out] at T ⊢;have c1:=Hd (r.out.trans K);have a0:=Hd (c2.out.trans K);have A:=Hd (Q.out.keep K);have a9:=Hd T;have M:=Ck.conv_str A.out.rd;have N:=Ck.conv_str T.rd;have g4:((er:Int) !=(er:Int))=false:=by simp
  have g5:((Ck.str bs).toList !=(Ck.str bs).toList)=false:=by simp
  have P:=Hd (HK.out w4 a0.out);clear K T a8 k0 k1 k2 k3 k4 k5 k6 k7 d5;generalize Ck.str bs=zs at*;go_wp2_with fail;refine P.out.mono ?_;rintro e w5 ⟨rfl,b5⟩;have c3:=Hd b5;have X:=Hd (c1.out.trans b5);clear b5 P M N;go_wp2_with fail;refine(Ck.fixed_calls w5 (HT.out.keep (HW.out.trans X.out)) (HM.out.step (HW.out.trans X.out) (fun _ h=>h.elim))).mono ?_;rintro e w6 ⟨rfl,d7⟩;have z:=Hd (c3.out.trans d7);have a1:=Hd (a0.out.trans z.out);have a6:=Hd (show One V w6 (.slice J n cb) n 0 from by
    have h:=One.of (Own.of_mine (A.out.keep z.out));rw[←HN.out] at h;exact h)
  have a3:=Hd (a9.out.keep z.out);have e9:=Hd Q.out.lt;have c6:=Hd Q.out.new;have e5:=Hd a9.out.new;clear d7 Q A a9 b0;go_wp2_with fail;go_loopw [10](fun i wr=>∃k:Nat,k≤n∧i=.int .i64 k∧One V wr (.slice J n cb) n k∧Fr (fun k=>(Value.slice J n cb).ownBlock=some k) w6 wr) (fun i _=>n-(intOf i).toNat);case atStart=>exact⟨0,Nat.zero_le _,rfl,a6.out,Fr.refl _ _⟩
  clear a6;obtain⟨k,f8,rfl,hO,b6⟩:=hrel;have HO:=Hd hO;have O:=Hd b6;by_cases l:k<n
  · obtain⟨gb,f2,f5,b7,f6⟩:=hO.at l
    subst f5;have b3:∃u,wr.cell? ⟨gb,k,none⟩=some u:=⟨f2[k]'(by omega),cell_in b7 (Array.getElem?_eq_getElem _)⟩;obtain⟨u,hu⟩:=b3;have h4:=frozen_in b7 k;have d8:(k:Int)<n:=by omega
    clear hO b6 b7 f6;go_wp2_with fail;go_roundw;case rel=>exact⟨k+1,by omega,by go_num,HO.out.put l,O.out.trans (fr_one _ _ _ _)⟩
    case measure=>simp[intOf];omega
  have b8:n=k:=by omega
  subst b8;clear hO b6 l;go_upto_region 10 with fail;have U:=(R0 wr).alloc (.cells #[.int .u8 2] 5);have e3:=heap_alloc_new wr (.cells #[.int .u8 2] 5);obtain⟨xd,e4,d9⟩:=(HO.out.keep U).ex;have E:=Hd (And.intro e4 d9);have c7:=Hd e3;have d4:=Hd (show V.heap.size≤(wr.alloc (.cells #[.int .u8 2] 5)).heap.size from Nat.le_trans a1.out.size (O.out.trans (U.mono (fun _ _ h=>h.elim))).size);have e7:=Hd (O.out.trans (U.mono (fun _ _ h=>h.elim)));clear e4 d9 U e3 HO O
  go_upto_region 11 with (at_builtin
                          refine append_own2 rfl _ _ rfl Tryz.underlying22 infoU8 rfl (by decide) (by have:=c5.out;omega) (w0:=V) (.slice J n cb) xd _ _ rfl rfl E.out.1 d4.out c7.out rfl (two_one 2) (by have:=c5.out;omega) ?_;intro h7 L F R e0 G;obtain⟨h6,h5,rfl⟩:=F.slice;have d0:=Hd (One.longer (k:=n) F (by have:=E.out.1.own.1;omega) E.out.2 (Nat.le_refl _));have c8:=Hd (show One V L (.slice J n cb) n n from⟨xd,G,E.out.2⟩);have s:=Hd (e7.out.trans R);clear F R e0 G)
  have v:=Hd (a1.out.trans' s.out (fun k hk e=>by have:=c6.out k e;omega));have Z:=Hd (t.out.trans v.out);have a4:=Hd (a3.out.step s.out (fun k hk e=>by have h1:=e5.out k hk;have h2:=e9.out k e;omega));have o:=Hd (d2.out L pc cc (HW.out.trans Z.out) (f0.out L v.out));rw[←HQ.out] at o;obtain⟨k0,k1,k2,k3,k4,k5,k6,k7⟩:=a7.out L Z.out;clear s E c7 d4 a3;go_wp2_with fail;refine o.out.mono ?_;rintro e g0 ⟨j,g9,h3,pa,ca,d6,rfl,Y⟩;obtain⟨rfl,rfl⟩:=HU.out _ _ _ _ HD.out d6;rw[←HN.out] at Y ⊢;have a2:=Hd (v.out.trans j);have c9:=Hd (c8.out.keep j);have d1:=Hd (d0.out.keep j);have a5:=Hd (a4.out.keep j);have c4:=Hd Y;clear j Y o c8 d0 a4 d6 k0 k1 k2 k3 k4 k5 k6 k7;go_wp2_with fail;go_loopw [14](fun i wr=>∃k:Nat,k≤n∧i=.int .i64 k∧wr=g0) (fun i _=>n-(intOf i).toNat);case atStart=>exact⟨0,Nat.zero_le _,rfl,rfl⟩
  obtain⟨k,f8,rfl,rfl⟩:=hrel;by_cases l:k<n
  · obtain⟨g1,f3,e1⟩:=c9.out.read l l
    subst f3;obtain⟨g2,f4,e2⟩:=d1.out.read (i:=k) l (by omega);subst f4;have d8:(k:Int)<n:=by omega
    have f7:(k:Int)<(n:Int)+1:=by omega
    go_wp2_with fail;go_roundw;case rel=>exact⟨k+1,by omega,by go_num,by first|rfl|trivial⟩
    case measure=>simp[intOf];omega
  have b8:n=k:=by omega
  subst b8;clear l;have M:=Ck.conv_str c4.out.rd;have N:=Ck.conv_str a5.out.rd;have g3:((Ck.str bs).toList==(Ck.str bs).toList)=true:=by simp
  have P:=Hd (HK.out wr a2.out);generalize Ck.str bs=zs at*;clear c4 a5;go_wp2_with fail;refine P.out.mono ?_;rintro e h8 ⟨rfl,S⟩;have e8:=Hd (HW.out.trans ((t.out.trans a2.out).trans S));clear S;go_wp2_with fail;go_ret;exact⟨rfl,e8.out⟩
theorem good_cf{lc lp pb dict c:Int}(h:Pk.goodC lc lp pb dict c=true)(a b d:Int):∃cf:Pk.Cf,cf.a=a∧cf.b=b∧cf.lc=lc∧cf.lp=lp∧cf.pb=pb∧cf.dict=dict∧cf.d=d∧cf.mode=c∧(cf.lc+cf.lp≤4∧cf.pb≤4)∧(4096≤cf.dict∧cf.dict≤67108864)∧cf.mode≤2:=by
 unfold Pk.goodC propsBad at h;simp only[Bool.and_eq_true,Bool.not_eq_true',decide_eq_false_iff_not,decide_eq_true_eq] at h;obtain⟨e,f,g,i,j⟩:=h;refine⟨⟨a,b,lc.toNat,lp.toNat,pb.toNat,dict.toNat,d,c.toNat⟩,rfl,rfl,?_,?_,?_,?_,rfl,?_,?_,?_,?_⟩;all_goals(simp only;omega)
theorem makes_calls(a b lc lp pb dict d c:Int)(z:Value)(data:List UInt8)(w:World)(s:Tabs w)(B:Ck.Moves w)(k:Rd w z data)(I:data.length≤8388608)
 (l:-9223372036854775808≤lc∧lc≤9223372036854775807)(m:-9223372036854775808≤lp∧lp≤9223372036854775807)(n:-9223372036854775808≤pb∧pb≤9223372036854775807):
 Calls Tryz.prog 3 #[z,.agg #[.int .i64 a,.int .i64 b,.int .i64 lc,.int .i64 lp,.int .i64 pb,.int .i64 dict,.int .i64 d,.int .i64 c]] w fun e j=>e=.returned (.bool true)∧Fr (fun _=>False) w j:=by
 obtain⟨p,o,rfl,_⟩:=id k;cases hg:Pk.goodC lc lp pb dict c with
 |false=>
   refine makes_of (fun x e=>x=[]∧e=6) a b lc lp pb dict d c p o data w s B k (by omega) (fun x e y f h1 h2=>⟨h1.1.trans h2.1.symm,h1.2.trans h2.2.symm⟩) (fun x e h=>by rw[h.1];exact Nat.zero_le _) ?_ ?_
   ·intro W q qc hf hr
    refine(Pk.encode_bad a b lc lp pb dict d c _ W l m n hg).mono ?_;rintro e j ⟨h1,rfl⟩;exact⟨h1,[],6,none,0,⟨rfl,rfl⟩,rfl,Mine.nil _ _⟩
   ·intro W q qc hf hr
    refine(Rf.rencode_bad a b lc lp pb dict d c _ W hg).mono ?_;rintro e j ⟨h1,rfl⟩;exact⟨h1,[],6,none,0,⟨rfl,rfl⟩,rfl,Mine.nil _ _⟩
 |true=>
   obtain⟨i,rfl,rfl,rfl,rfl,rfl,rfl,rfl,rfl,h1,h2,A⟩:=good_cf hg a b d;have g:∀{W j:World}{e:Ending},Pk.EncPost i data W e j→Ans (fun x e=>e=0∧∃t:Pk.Pst,t.Whole data i.dict i.pr (decide (i.mode=0))∧Pk.Runs i data t.pts.length t∧x=t.out i.dict++[0]) W e j:=by
    rintro W j e ⟨hf,t,v,rfl,C,E,hr⟩;obtain⟨q,qc,rfl⟩:=E.slice;exact⟨hf,_,0,q,qc,⟨rfl,t,C,hr.out,rfl⟩,rfl,E⟩
   refine makes_of _ _ _ _ _ _ _ _ _ p o data w s B k (by omega) ?_ ?_ (fun W q qc hf hr=>(Pk.encodeX_calls i q qc data W (s.keep hf) hr (by omega) h1 h2 A).mono fun e j h=>g h) (fun W q qc hf hr=>(Rf.rencode_calls i q qc data W hr (by omega) h1 h2 A).mono fun e j h=>g h)
   ·rintro x e y f ⟨rfl,t,r,F,rfl⟩ ⟨rfl,u,u1,u2,rfl⟩
    rw[r.pieces] at F;rw[u1.pieces] at u2;rw[F.uniq u2];exact⟨rfl,rfl⟩
   ·rintro x e ⟨rfl,t,r,_,rfl⟩
    have D:=r.ok.len;have G:=Pk.upto_le data.length t.pts.length;have H:=r.pieces;rw[List.length_append,List.length_singleton];show(rowB (t.row i.dict)).length+1≤_;omega
end Qm
end Go.Proofs.YtffoddpjfgjelaaGreatDoor
