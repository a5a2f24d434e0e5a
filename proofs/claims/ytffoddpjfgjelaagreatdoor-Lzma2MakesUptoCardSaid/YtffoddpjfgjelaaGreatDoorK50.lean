/- Part 50 of 54: lemmas of the last part, each under the conditions that it names. -/
import Derived.Deep.CutBlock
import Derived.Test.YtffoddpjfgjelaaGreatDoorK49
set_option linter.unusedVariables false
set_option linter.unusedSimpArgs false
set_option maxRecDepth 1500
set_option maxHeartbeats 2000000
namespace Go.Proofs.YtffoddpjfgjelaaGreatDoor
open Go.RowKit
namespace Rf
open Mem Rc Prob St Lz Win En Ga Ck Pk
def E8Rel(w0:World)(CB:Nat)(cf:Cf)(data:List UInt8)(ev bfv ov fv:Value)(wr:World):Prop:=
 ∃(l:RL)(E:Nat)(v:Value)(t:Pst)(bs:List Nat),ev=ptr l.K∧fv=.int .i64 (65536*t.pts.length:Nat)∧E8 w0 wr CB cf data l E v t bfv ov bs
theorem E8.outlen{w0 wr:World}{c E:Nat}{b:Cf}{v a f:Value}{data:List UInt8}{l:RL}{t:Pst}{d:List Nat}(h:E8 w0 wr c b data l E v t a f d)(k:data.length≤1073741824):(t.out b.dict).length≤4000000000∧65536*t.pts.length<data.length+65536:=by
 have i:=h.ok.len;have j:=upto_le data.length t.pts.length;have e:65536*t.pts.length<data.length+65536:=by
  by_cases g:t.pts.length=0
  ·omega
  ·have:=h.each (t.pts.length-1) (by omega)
   omega
 refine⟨?_,e⟩;show(rowB (t.row b.dict)).length≤_;omega
def Try8(w0 wr:World)(HB:Nat)(cf:Cf)(data:List UInt8)(t:Pst)(bv fv kv:Value)(wx:World):Prop:=
 Fr (fun _=>False) wr wx∧((kv=.bool false∧(∃cs,cs.size=6∧wx.heap[HB]? =some (.cells cs 47 (0,0)))∧(cf.mode=0∨cf.mode≠0∧∃(ys:List Sy)(s':S),By cf.mode cf.dict data (upto data.length (t.pts.length+1)) (upto data.length t.pts.length) (t.from' cf.pr).c.s ys s'∧(65536<((t.from' cf.pr).putAll ys).e.k.bytes.length∨3+(upto data.length (t.pts.length+1)-upto data.length t.pts.length)≤(headB (t.headP cf.pr (upto data.length (t.pts.length+1)-upto data.length t.pts.length) ((t.from' cf.pr).putAll ys).e.k.bytes.length)).length+((t.from' cf.pr).putAll ys).e.k.bytes.length)))∨
  (kv=.bool true∧cf.mode≠0∧∃(ys:List Sy)(s':S)(l:RL)(E:Nat)(v:Value),By cf.mode cf.dict data (upto data.length (t.pts.length+1)) (upto data.length t.pts.length) (t.from' cf.pr).c.s ys s'∧((t.from' cf.pr).putAll ys).e.k.bytes.length≤65536∧
    (headB (t.headP cf.pr (upto data.length (t.pts.length+1)-upto data.length t.pts.length) ((t.from' cf.pr).putAll ys).e.k.bytes.length)).length+((t.from' cf.pr).putAll ys).e.k.bytes.length<3+(upto data.length (t.pts.length+1)-upto data.length t.pts.length)∧
    fv=ptr l.K∧EC wx l E v ((t.from' cf.pr).putAll ys).cut.c ((t.from' cf.pr).putAll ys).cut.e∧(∀k,ECF l E v k→wr.heap.size≤k)∧Mine wr wx bv ((t.from' cf.pr).putAll ys).e.k.bytes∧
    wx.heap[HB]? =some (.cells #[.int .i64 t.kind,.int .i64 (upto data.length (t.pts.length+1)-upto data.length t.pts.length:Nat),.int .i64 ((t.from' cf.pr).putAll ys).e.k.bytes.length,.int .i64 cf.lc,.int .i64 cf.lp,.int .i64 cf.pb] 47 (0,0))))
def R9(w0:World)(CB B:Nat)(cf:Cf)(data:List UInt8)(t:Pst)(bs:List Nat)(bfv s7 s10:Value)(wx:World):Prop:=
 ∃(t':Pst)(l:RL)(E:Nat)(v:Value)(kd:Nat),s7=ptr l.K∧t'.Ok data cf.dict cf.pr (decide (cf.mode=0))∧t'.pts.length=t.pts.length+1∧K8 t' (bs++[kd])∧Pk.Nxt cf data t t'∧Fr (fun _=>False) w0 wx∧wx.heap[CB]? =some (.cells cf.cells 26 (0,0))∧
  EC wx l E v t'.x.c t'.x.e∧(∀k,ECF l E v k→w0.heap.size<k)∧Ga.Own 3 1 w0 wx bfv bs.length (ints8 bs)∧Mine w0 wx s10 (t'.out cf.dict)∧(∀k,bfv.ownBlock=some k→¬ECF l E v k)∧(∀k,s10.ownBlock=some k→¬ECF l E v k)∧wx.cell? ⟨B,0,none⟩=some (.int .i64 kd)
theorem array6{α:Type}{a:Array α}(h:a.size=6):∃c0 c1 c2 c3 c4 c5,a=#[c0,c1,c2,c3,c4,c5]:=by
 obtain⟨l⟩:=a;match l,h with
 |[c0,c1,c2,c3,c4,c5],_=>exact⟨c0,c1,c2,c3,c4,c5,rfl⟩
set_option maxRecDepth 100000 in
theorem rencode_calls(q:Cf)(p:Option Addr)(Y:Nat)(data:List UInt8)(w:World)(j9:Rd w (.slice p data.length Y) data)(hb:data.length≤1073741823)(hq:q.lc+q.lp≤4∧q.pb≤4)(hd:4096≤q.dict∧q.dict≤67108864)(hm:q.mode≤2):
    Calls Tryz.prog 10 #[.slice p data.length Y,.agg q.cells] w (EncPost q data w):=by
  have hx:=heap_alloc_new w (.cells q.cells 26);have D6:=(R0 w).alloc (.cells q.cells 26);have HX:=Hd hx;have HF:=Hd D6;have r3:=Hd j9;have HQ:=Hd hq;have HD:=Hd hd;have HM:=Hd hm;have HB:=Hd hb;have f9:=fun W=>Hd (allowed_any q.lc q.lp q.pb W);rw[bad_not (lc:=q.lc) (lp:=q.lp) (pb:=q.pb) (by omega)] at f9;have HN:=fun W=>Hd (new8_calls q.dict q.lc q.lp q.pb hq.1 hq.2 (by omega) (by omega) W);have f0:=Hd (show∀W:World,W.heap[w.heap.size]? =some (.cells q.cells 26 (0,0))→W.cell? ⟨w.heap.size,2,none⟩=some (.int .i64 q.lc)∧W.cell? ⟨w.heap.size,3,none⟩=some (.int .i64 q.lp)∧W.cell? ⟨w.heap.size,4,none⟩=some (.int .i64 q.pb)∧W.cell? ⟨w.heap.size,5,none⟩=some (.int .i64 q.dict)∧W.cell? ⟨w.heap.size,7,none⟩=some (.int .i64 q.mode) from fun W h=>⟨cell_in h rfl,cell_in h rfl,cell_in h rfl,cell_in h rfl,cell_in h rfl⟩);obtain⟨y2,y3,y4,y5,y7⟩:=f0.out _ hx;have d1:decide ((q.dict:Int)<4096)=false:=decide_eq_false (by omega);have d2:decide ((q.dict:Int)>67108864)=false:=decide_eq_false (by omega);have d3:decide ((67108864:Int)<q.dict)=false:=decide_eq_false (by omega);have d4:decide ((q.mode:Int)<0)=false:=decide_eq_false (by omega);have d5:decide ((q.mode:Int)>2)=false:=decide_eq_false (by omega);have d6:decide ((2:Int)<q.mode)=false:=decide_eq_false (by omega);have d7:decide ((data.length:Int)>2147483648)=false:=decide_eq_false (by omega);have d8:decide ((2147483648:Int)<data.length)=false:=decide_eq_false (by omega);clear hx D6 j9 hq hd hm hb;unfold Cf.cells at y2 y3 y4 y5 y7 ⊢;unfold propV at HN;simp only[Bool.not_false] at f9;go_enter Tryz.func10,Tryz.ntmps10;go_wp2_with fail;refine(f9 _).out.mono ?_;rintro e w1 ⟨rfl,s1⟩;have a9:=Hd (s1.keep HX.out (fun h=>h));have z7:=Hd (HF.out.trans s1);clear s1 y2 y3 y4 y5 y7;obtain⟨y2,y3,y4,y5,y7⟩:=f0.out _ a9.out;go_wp2_with fail;refine(HN _).out.mono ?_;rintro e w2 ⟨l0,E0,v0,rfl,s2,C3,E9⟩;have I9:=Hd (s2.keep a9.out (fun h=>h));have G4:=Hd (z7.out.trans s2);have G3:=Hd (show E8 w w2 w.heap.size q data l0 E0 v0 (Pst.start q.dict q.pr) (.slice none 0 0) (.slice none 0 0) [] from
    ⟨G4.out,I9.out,C3,fun k hk=>Nat.lt_of_lt_of_le (lt_of_block a9.out) (E9 k hk),Ga.Own.nil _ _ _ _,Mine.nil _ _,fun k hk=>by simp[Value.ownBlock] at hk,fun k hk=>by simp[Value.ownBlock] at hk,start_ok data HQ.out _,rfl,K8.start _ _,rfl,fun j hj=>by simp[Pst.start] at hj⟩)
  clear s2 C3 E9 HN f9 a9 z7 y2 y3 y4 y5 y7 d1 d2 d3 d4 d5 d6 d7 d8;generalize C2:w.heap.size=CB at*;have x6:=Hd C2;clear C2;go_wp2_with fail;go_loopw [7,9,10,11] (fun ev bfv ov fv wr=>E8Rel w CB q data ev bfv ov fv wr) (fun _ _ _ i _=>data.length+65536-(intOf i).toNat);case atStart=>exact⟨l0,E0,v0,_,[],rfl,rfl,G3.out⟩
  case round=>
    obtain⟨l,E,v,t,bs,rfl,rfl,hI⟩:=hrel;obtain⟨bp,e3,rfl⟩:=hI.bef.slice;obtain⟨op,D,rfl⟩:=hI.out.slice;obtain⟨F0,m4⟩:=hI.outlen (by have:=HB.out;omega);obtain⟨f,hf⟩:∃f,f=65536*t.pts.length:=⟨_,rfl⟩;rw[←hf] at m4 ⊢;have r:=Hd hI;have A9:=Hd F0;have z9:=Hd hf;have l9:=HB.out;by_cases J5:f<data.length
    · have m0:decide ((f:Int)<(data.length:Int))=true:=decide_eq_true (by omega)
      obtain⟨G,v5⟩:∃G,G=upto data.length (t.pts.length+1):=⟨_,rfl⟩;have D9:f=upto data.length t.pts.length:=by unfold upto;omega
      have k2:f<G∧G≤data.length∧G-f≤65536∧(G=f+65536∨G=data.length∧data.length≤f+65536):=by rw[v5];unfold upto;omega
      have P:=Hd (And.intro v5 (And.intro D9 k2));have K1:=r.out.fr.size;have n7:=r.out.cfg;have g5:=Hd (show∀W:World,Fr (fun _=>False) wr W→W.cell? ⟨CB,2,none⟩=some (.int .i64 q.lc)∧W.cell? ⟨CB,3,none⟩=some (.int .i64 q.lp)∧W.cell? ⟨CB,4,none⟩=some (.int .i64 q.pb) from fun W h=>have u:=f0.out W (h.keep n7 (fun h=>h));⟨u.1,u.2.1,u.2.2.1⟩);have f5:=r.out.k8.kind;have C:bs.length≤1099511627776:=by have:=r.out.len;omega
      have G9:=Hd (show∀W:World,Fr (fun _=>False) wr W→Calls Tryz.prog 40 #[.slice bp bs.length e3] W (fun e W'=>e=.returned (.int .i64 t.kind)∧W'=W) from fun W h=>by have:=kind8_calls _ bs w W (r.out.bef.keep h) C;rw[f5] at this;exact this);clear hI hf v5 D9 n7 f5 C;go_upto_if 68 with fail;go_cut [12] from 57 to 176 (fun s12 wx=>s12=.int .i64 G∧wx=wr);case first=>
        by_cases hg:f+65536≤data.length
        · have g1:decide (((f:Int)+65536)>(data.length:Int))=false:=decide_eq_false (by omega)
          have g2:decide ((data.length:Int)<((f:Int)+65536))=false:=decide_eq_false (by omega);have HE:=Hd (show Value.int .i64 ((f:Int)+65536)=.int .i64 G by rw[show((f:Int)+65536)=(G:Int) by omega]);clear hg k2;simp only[g1,g2];clear g1 g2 m0 m4;go_step;go_wp2_with fail;go_meet;exact⟨HE.out,rfl⟩
        · have g1:decide (((f:Int)+65536)>(data.length:Int))=true:=decide_eq_true (by omega)
          have g2:decide ((data.length:Int)<((f:Int)+65536))=true:=decide_eq_true (by omega);have HE:=Hd (show Value.int .i64 (data.length:Int)=.int .i64 G by rw[show(data.length:Int)=(G:Int) by omega]);clear hg k2;simp only[g1,g2];clear g1 g2 m0 m4;go_step;go_wp2_with fail;go_meet;exact⟨HE.out,rfl⟩
      case rest=>
        obtain⟨rfl,F4⟩:=hcut;rw[F4];clear m0 m4 F4 wc;obtain⟨c2,c3,c4⟩:=g5.out wr (Fr.refl _ _);have HR:=Hd ((R0 wr).drew);have I5:=Hd (g5.out _ HR.out);have o9:=Hd (show∀o,Fr (fun _=>False) wr (wr.alloc o).drew from fun o=>((R0 wr).alloc o).drew);have D1:=P.out.2.2;have J2:=D1.1;have h8:=Hd (show((G:Int)-(f:Int))=((G-f:Nat):Int) by omega);have K2:(G:Int)≤1073741823:=by omega
        have K3:IntKind.i64.wrap ((G:Int)-(f:Int))=(G:Int)-(f:Int):=by rw[IntKind.wrap_i64];omega
        clear D1;go_upto_region 15 with fail;go_cut [13] from 57 to 176 (fun s13 wx=>∃B:Nat,s13=ptr B∧wx.heap[B]? =some (.cells #[.int .i64 t.kind,.int .i64 ((G:Int)-(f:Int)),.int .i64 0,.int .i64 q.lc,.int .i64 q.lp,.int .i64 q.pb] 47 (0,0))∧Fr (fun _=>False) wr wx∧wr.heap.size≤B);case first=>
          go_region_held3 (fun w'=>w'.cell? ⟨CB,2,none⟩=some (.int .i64 q.lc)∧w'.cell? ⟨CB,3,none⟩=some (.int .i64 q.lp)∧w'.cell? ⟨CB,4,none⟩=some (.int .i64 q.pb)) (first|with_reducible exact I5.out|with_reducible exact g5.out _ HR.out|with_reducible exact g5.out _ (HR.out.alloc _)|with_reducible exact g5.out _ (o9.out _)) ((first
            | (go_at_call 40
               with_reducible refine(G9.out _ (by first|with_reducible exact HR.out|with_reducible exact o9.out _)).mono ?_
               rintro e wc ⟨rfl,rfl⟩)))
          all_goals go_wp2_with fail
          all_goals go_meet
          all_goals exact⟨wr.heap.size,rfl,heap_alloc_new wr _,o9.out _,Nat.le_refl _⟩
        case rest=>
          obtain⟨B,rfl,hB,s3,C1⟩:=hcut;have E5:t.x.e.k.s≤1099511627000:=by rw[r.out.ok.k];decide
          have A0:=Hd (cfork_calls (r.out.ec.keep s3) E5);have g4:=Hd hB;have p4:=Hd s3;have b6:=Hd C1;clear E5 hB s3 C1 c2 c3 c4;go_wp2_with fail;refine A0.out.mono ?_;rintro e w3 ⟨lf,Ef,vf,rfl,j1,C7,t5⟩;have k8:=Hd (show¬ECF lf Ef vf B from fun h=>by have u:=t5 B h;have s:=lt_of_block g4.out;omega);have z8:=Hd j1;have z6:=Hd C7;have A7:=Hd (fun k hk=>Nat.le_trans p4.out.size (t5 k hk));have k3:=Hd (j1.keep g4.out (fun h=>h));have l4:=Hd (p4.out.trans j1);have y7:=(f0.out w3 ((p4.out.trans j1).keep r.out.cfg (fun h=>h))).2.2.2.2;clear j1 C7 t5 A0;go_upto_if 83 with fail;go_cut [14,15,16] from 57 to 176 (fun s14 s15 s16 wx=>Try8 w wr B q data t s14 s15 s16 wx);case first=>
            by_cases b3:q.mode=0
            · have g1:decide ((q.mode:Int)>0)=false:=decide_eq_false (by omega)
              have g2:decide ((0:Int)<(q.mode:Int))=false:=decide_eq_false (by omega);have g3:decide (0<q.mode)=false:=decide_eq_false (by omega);have h5:=Hd b3;clear b3;simp only[g1,g2,g3];clear g1 g2 g3;go_step;go_wp2_with fail;go_meet;exact⟨l4.out,.inl ⟨rfl,⟨_,rfl,k3.out⟩,.inl h5.out⟩⟩
            · have g1:decide ((q.mode:Int)>0)=true:=decide_eq_true (by omega)
              have g2:decide ((0:Int)<(q.mode:Int))=true:=decide_eq_true (by omega);have g3:decide (0<q.mode)=true:=decide_eq_true (by omega);have h5:=Hd b3;clear b3;simp only[g1,g2,g3];clear g1 g2 g3;go_step;have z0:w3.cell? ⟨B,0,none⟩=some (.int .i64 t.kind):=cell_in k3.out rfl;have J0:=f0.out w3 (l4.out.keep r.out.cfg (fun h=>h));obtain⟨c2,c3,c4,_,_⟩:=J0;have v2:=ereset_calls z6.out q.lc q.lp q.pb HQ.out.1 HQ.out.2;unfold propV at v2;have I3:=Hd v2;clear v2;go_upto_if 86 with fail;go_cut [15] from 57 to 176 (fun s15 wx=>s15=ptr lf.K∧∃l1,EC wx l1 Ef vf (t.from' q.pr).c (t.from' q.pr).e∧Nxt w3 lf Ef vf wx l1 Ef vf);case first=>
                by_cases j4:t.kind=3
                · have k1:(((t.kind:Nat):Int) !=3)=false:=by simp[j4]
                  have p6:=Hd j4;clear j4;simp only[k1];clear k1 z0;go_step;go_wp2_with fail;go_meet;refine⟨rfl,lf,?_,Nxt.refl _ _ _ _⟩;unfold Pst.from';rw[if_pos p6.out];exact z6.out
                · have k1:(((t.kind:Nat):Int) !=3)=true:=by simp;omega
                  have p6:=Hd j4;clear j4;simp only[k1];clear k1 z0;go_step;go_wp2_with fail;refine I3.out.mono ?_;rintro e w4 ⟨rfl,l1,u,s⟩;have H1:=Hd u;have H2:=Hd s;clear u s;go_wp2_with fail;go_meet;refine⟨rfl,l1,?_,H2.out⟩;unfold Pst.from';rw[if_neg p6.out];have u:=H1.out;rw[r.out.ok.k] at u;exact u
              case rest=>
                obtain⟨rfl,l1,C4,l8⟩:=hcut;obtain⟨w4,rfl⟩:∃w4,w4=wc:=⟨_,rfl⟩;obtain⟨wo,rfl⟩:∃wo,wo=wr:=⟨_,rfl⟩;have b7:l1.K=lf.K:=l8.k;have p8:=Hd b7;have o0:Fr (fun _=>False) wo w4:=l4.out.trans' l8.fr (fun k hk s=>by have:=A7.out k s;omega);have g6:=Hd C4;have q4:=Hd l8;have r4:=Hd o0;obtain⟨Q,v7⟩:∃Q,Q=t.from' q.pr:=⟨_,rfl⟩;rw[←v7] at g6;have a9:=Hd v7;have h7:=Hd (show∀W:World,Fr (fun _=>False) w4 W→W.cell? ⟨CB,5,none⟩=some (.int .i64 q.dict)∧W.cell? ⟨CB,7,none⟩=some (.int .i64 q.mode)∧W.cell? ⟨lf.K,4,none⟩=some (.int .i64 Q.c.s.num)∧W.cell? ⟨lf.K,5,none⟩=some (.int .i64 Q.c.s.r0)∧W.cell? ⟨lf.K,6,none⟩=some (.int .i64 Q.c.s.r1)∧W.cell? ⟨lf.K,7,none⟩=some (.int .i64 Q.c.s.r2)∧W.cell? ⟨lf.K,8,none⟩=some (.int .i64 Q.c.s.r3) from fun W hf=>
                  have u:=f0.out W ((r4.out.trans hf).keep r.out.cfg (fun h=>h))
                  have s:=(g6.out.keep hf).cod.cells
                  ⟨u.2.2.2.1,u.2.2.2.2,b7 ▸ s.p4,b7 ▸ s.p5,b7 ▸ s.p6,b7 ▸ s.p7,b7 ▸ s.p8⟩)
                have j8:∀W:World,Fr (fun _=>False) w4 W→Calls Tryz.prog 43 #[Rx.pcV p data.length Y f G q.dict,.int .i64 q.mode,.agg Q.c.s.cells] W (Rx.Parsed8 q.mode q.dict f G Q.c.s data W):=fun W hf=>
                  Rx.parsed_calls q.mode (by have:=HM.out;have:=h5.out;omega) p Y f G q.dict Q.c.s data W (r3.out.keep ((r.out.fr.trans r4.out).trans hf)) g6.out.cod.okc.s J2 P.out.2.2.2.1 HB.out (by have:=HD.out;omega) (by have:=HD.out;omega)
                unfold S.cells Rx.pcV at j8;have B2:=Hd j8;obtain⟨q5,q7,s4,s5,s6,s7,s8⟩:=h7.out w4 (Fr.refl _ _);have a8:=Hd ((R0 w4).drew);have e2:=Hd (h7.out w4.drew a8.out);clear j8 C4 l8 o0 v7 b7;go_upto_region 22 with fail;go_cut [17] from 57 to 176 (fun s17 wx=>∃(py:Option Addr)(cy:Nat)(I:List Sy)(sp:S),s17=.slice py I.length cy∧Fr (fun _=>False) w4 wx∧Lz.Syms w4 wx (.slice py I.length cy) I∧By q.mode q.dict data G f Q.c.s I sp);case first=>
                  go_region_held3 (fun w'=>w'.cell? ⟨CB,5,none⟩=some (.int .i64 q.dict)∧w'.cell? ⟨CB,7,none⟩=some (.int .i64 q.mode)∧w'.cell? ⟨lf.K,4,none⟩=some (.int .i64 Q.c.s.num)∧w'.cell? ⟨lf.K,5,none⟩=some (.int .i64 Q.c.s.r0)∧w'.cell? ⟨lf.K,6,none⟩=some (.int .i64 Q.c.s.r1)∧w'.cell? ⟨lf.K,7,none⟩=some (.int .i64 Q.c.s.r2)∧w'.cell? ⟨lf.K,8,none⟩=some (.int .i64 Q.c.s.r3)) (first|with_reducible exact e2.out|with_reducible exact h7.out _ a8.out) ((first
                    | (go_at_call 43
                       with_reducible refine(B2.out _ a8.out).mono ?_
                       rintro e wp ⟨D8,vp,I,sp,rfl,U,T⟩;have a8:=Hd (a8.out.trans D8);have e2:=Hd (h7.out _ a8.out);obtain⟨q5,q7,s4,s5,s6,s7,s8⟩:=e2.out;obtain⟨py,cy,rfl⟩:=own_slice U.own;have B4:=Hd U;have k4:=T
                       clear D8 U T)))
                  all_goals go_wp2_with fail
                  all_goals go_meet
                  all_goals exact⟨_,_,I,sp,rfl,a8.out,⟨B4.out.own,B4.out.new⟩,k4⟩
                case rest=>
                  obtain⟨py,cy,I,sp,rfl,a4,U,T⟩:=hcut;obtain⟨w5,rfl⟩:∃w5,w5=wc:=⟨_,rfl⟩;obtain⟨o1,o2,o3,o4⟩:=r.out.ok.from_ok HQ.out;rw[←a9.out] at o1 o2 o3 o4;obtain⟨m6,k0,c9,f8,v4,_⟩:=P.out;rw[←k0] at o2;have v3:=T.steps (Nat.le_of_lt c9) f8 (by have:=HD.out;omega);have o7:=legal_of f8 (Nat.le_of_lt c9) o2 o3 v3 T.far;have F7:=steps_len v3;have j6:∀k,(Value.slice py I.length cy).ownBlock=some k→k<w5.heap.size∧¬ECF l1 Ef vf k:=fun k hk=>by
                    obtain⟨r6,hc⟩:=Lz.own_block U.own hk;exact⟨lt_of_block hc,fun e=>by have u:=U.new k hk;have s:=g6.out.old k e;omega⟩
                  have B1:=Hd (show P8 w4 w5 l1 Ef vf Q f (.slice py I.length cy) [] I w5 from⟨Q,l1,vf,rfl,o7,o1,g6.out.keep a4,Nxt.refl _ _ _ _,by rw[o4];exact Nat.zero_le _,by rw[o2,List.length_take];omega,U,j6⟩);have B5:=Hd (r4.out.trans a4);have m9:=Hd (show∀k,ECF l1 Ef vf k→wo.heap.size≤k from fun k hk=>by
                    rcases q4.out.gr k hk with h|h
                    · exact A7.out k h
                    · exact Nat.le_trans l4.out.size h)
                  have n3:=Hd (q4.out.off (lt_of_block k3.out) k8.out);have r7:=a4.keep (q4.out.fr.keep k3.out k8.out) (fun h=>h);rw[h8.out] at r7;have p0:=Hd r7;obtain⟨d,hd⟩:∃d,d=G-f:=⟨_,rfl⟩;rw[←hd] at p0;have i9:1≤d∧d≤65536:=by omega
                  have j0:(G:Int)=(f:Int)+(d:Int):=by omega
                  obtain⟨n,hn⟩:∃n,I.length=n:=⟨_,rfl⟩;rw[hn] at B1 F7 ⊢;have H0:=Hd hn;have k4:=Hd T
                  have a2:=Hd hd;have x9:=Hd i9;have G2:=Hd j0;have t1:n≤65536:=by omega
                  have D7:f≤1073741824:=by omega
                  clear a4 U T o1 o2 o3 o4 m6 k0 c9 f8 v4 v3 o7 F7 j6 r7 hn hd i9 j0 q5 q7 s4 s5 s6 s7 s8 e2 a8 B2 h7;go_wp2_with fail;go_loopw [18] (fun s18 wr=>∃(a b:List Sy),s18=.int .i64 a.length∧a++b=I∧P8 w4 w5 l1 Ef vf Q f (.slice py n cy) a b wr) (fun s18 _=>n-(intOf s18).toNat);case atStart=>exact⟨[],I,rfl,rfl,B1.out⟩
                  case round=>
                    obtain⟨a,b,rfl,i0,hP⟩:=hrel;have C:a.length+b.length=n:=by rw[←H0.out,←i0,List.length_append]
                    rcases b with _|⟨y,b⟩
                    · rw[List.length_nil,Nat.add_zero] at C
                      rw[C];obtain⟨xk,l',v',hp,_,J7,hE,hN,hs,a3,_,_⟩:=hP;rw[i0] at hp;obtain rfl:xk=Q.putAll I:=hp;rw[C] at hs;have s0:=ecut_calls hE (by omega);rw[hN.k,p8.out] at s0;have G1:=Hd s0;have n5:=bytes_pos (Q.putAll I).e.k;have n6:(Q.putAll I).e.k.bytes.length=(Q.putAll I).e.k.s+5:=digs_len _ _;obtain⟨A,i6⟩:∃A,(Q.putAll I).e.k.bytes.length=A:=⟨_,rfl⟩;rw[i6] at n5 n6;have J9:A≤3407877:=by omega
                      have a5:=Hd i6;have o8:=hN.off (lt_of_block p0.out) n3.out;have n4:=Hd o8;have p1:=Hd (hN.fr.keep p0.out n3.out);have r5:=Hd (show Fr (fun _=>False) wo wr from B5.out.trans' hN.fr (fun k u s=>by have:=m9.out k s;omega));have n0:=Hd (show∀k,ECF l' Ef v' k→wo.heap.size≤k from fun k hk=>by
                        rcases hN.gr k hk with h|h
                        · exact m9.out k h
                        · exact Nat.le_trans B5.out.size h)
                      have H6:=Hd (hN.k.trans p8.out);clear s0 J7 hE hN hs a3 i0 i6 n6 o8;go_wp2_with fail;refine G1.out.mono ?_;rintro e w6 ⟨bv,l6,E6,v6,rfl,f6,D5,a1,t8⟩;obtain⟨q6,c6,rfl⟩:=f6.slice;rw[a5.out] at f6 ⊢;have r8:=a1.fr.keep p1.out n4.out;obtain⟨z0,z1,z2,z3,z4,z5,zf⟩:=cf6 r8 rfl rfl rfl rfl rfl rfl;have e8:=Hd r8;have I7:=Hd (r5.out.trans' a1.fr (fun k u s=>by have:=n0.out k s;omega));have y9:=Hd (show∀k,ECF l6 E6 v6 k→wo.heap.size≤k from fun k hk=>by
                        rcases a1.gr k hk with h|h
                        · exact n0.out k h
                        · exact Nat.le_trans r5.out.size h)
                      have A6:=Hd (a1.off (lt_of_block p1.out) n4.out);have a6:=Hd (show Mine wo w6 (.slice q6 A c6) (Q.putAll I).e.k.bytes from⟨f6.own,fun k hk=>Nat.le_trans r5.out.size (f6.new k hk)⟩);have H5:=Hd (show∀k,(Value.slice q6 A c6).ownBlock=some k→k≠B from fun k hk e=>by have u:=f6.new k hk;have s:=lt_of_block p1.out;omega);have k5:=Hd D5;have G7:=Hd (a1.k.trans H6.out);have B7:=Hd (show Fr (fun _=>False) wo (w6.setCell ⟨B,2,none⟩ (.int .i64 A)) from I7.out.setCell (.inr b6.out) _);have m7:=Hd (show(w6.setCell ⟨B,2,none⟩ (.int .i64 A)).heap[B]? =some (.cells #[.int .i64 t.kind,.int .i64 d,.int .i64 A,.int .i64 q.lc,.int .i64 q.lp,.int .i64 q.pb] 47 (0,0)) from set_in e8.out 2 _);have g7:=Hd (show∀s14 s15 W,Fr (fun _=>False) (w6.setCell ⟨B,2,none⟩ (.int .i64 A)) W→(65536<A∨3+d≤(headB (t.headP q.pr d A)).length+A)→Try8 w wo B q data t s14 s15 (.bool false) W from fun s14 s15 W hW hc=>by
                        unfold Try8;rw[←P.out.1,←P.out.2.1,←a9.out,←a2.out];refine⟨B7.out.trans hW,.inl ⟨rfl,⟨_,rfl,hW.keep m7.out (fun h=>h)⟩,.inr ⟨h5.out,I,sp,k4.out,?_⟩⟩⟩;rw[a5.out];exact hc)
                      have p5:=Hd (show∀W,Fr (fun _=>False) (w6.setCell ⟨B,2,none⟩ (.int .i64 A)) W→A≤65536→(headB (t.headP q.pr d A)).length+A<3+d→Try8 w wo B q data t (.slice q6 A c6) (ptr lf.K) (.bool true) W from fun W hW u s=>by
                        unfold Try8;rw[←P.out.1,←P.out.2.1,←a9.out,←a2.out];refine⟨B7.out.trans hW,.inr ⟨rfl,h5.out,I,sp,l6,E6,v6,k4.out,by rw[a5.out];exact u,by rw[a5.out];exact s,by rw[G7.out],?_,y9.out,?_,?_⟩⟩
                        · exact(k5.out.step (Fr.one w6 B 2 _) (fun k hk e=>A6.out (e ▸ hk))).keep hW
                        · exact(a6.out.step (Fr.one w6 B 2 _) (fun k hk e=>H5.out k hk e)).keep hW
                        · rw[a5.out]
                          exact hW.keep m7.out (fun h=>h))
                      clear f6 D5 a1 t8 r8;by_cases i5:65536<A
                      · have I0:=Hd (fun W=>put17_far t.kind d A q.lc q.lp q.pb (by have:=kind_bd t;omega) (by have:=x9.out;omega) i5 W)
                        go_wp2_with fail;refine(I0.out _).mono ?_;rintro e w7 ⟨rfl,f4⟩;have HZ:=Hd (fun s14 s15=>g7.out s14 s15 _ f4 (.inl i5));clear f4 i5 z0 z1 z2 z3 z4 z5 zf;go_wp2_with fail;go_meet;exact HZ.out _ _
                      · have I2:=Hd (fun W=>put8_calls t q d A x9.out ⟨n5,by omega⟩ HQ.out W)
                        go_wp2_with fail;refine(I2.out _).mono ?_;rintro e w7 ⟨f4,hv,rfl,E7⟩;obtain⟨q7,c7,rfl⟩:=E7.slice;have J3:=head_n (t.headP q.pr d A);have l5:=fun s14 s15 h=>Hd (g7.out s14 s15 _ f4 (.inr h));have l7:=fun h=>Hd (p5.out _ f4 (by omega) h);obtain⟨hl,E4⟩:∃hl,(headB (t.headP q.pr d A)).length=hl:=⟨_,rfl⟩;rw[E4] at J3 l5 l7 ⊢;have l5:=Hd l5;have l7:=Hd l7;have j0:=G2.out;clear f4 E7 E4 z0 z1 z2 z3 z4 z5 zf;by_cases hk:hl+A<3+d
                        · have k1:decide ((hl:Int)+(A:Int)<3+(G:Int)-(f:Int))=true:=decide_eq_true (by omega)
                          have HZ:=(l7.out hk);clear hk j0;go_wp2_with fail;go_meet;exact HZ.out
                        · have k1:decide ((hl:Int)+(A:Int)<3+(G:Int)-(f:Int))=false:=decide_eq_false (by omega)
                          have HZ:=Hd (fun s14 s15=>(l5.out s14 s15 (by omega)).out);clear hk j0;go_wp2_with fail;go_meet;exact HZ.out _ _
                    · obtain⟨k,hk⟩:∃k,a.length=k:=⟨_,rfl⟩
                      rw[List.length_cons] at C;have r1:=Hd (hP.put_calls (by omega) D7);rw[p8.out] at r1;obtain⟨_,_,_,_,_,_,_,_,_,_,U,_⟩:=hP;obtain⟨g,B8,r6,E3,b2,y0,y1,y2,y3,D4,_⟩:=Ps.sy_open U;simp only[Value.slice.injEq] at E3;obtain⟨rfl, -, -⟩:=E3;have F8:=Hd i0;rw[hk] at y0 y1 y2 y3 D4 C ⊢;have HK:=Hd hk;obtain⟨yk,yb,yl,yd⟩:=y;simp only at y0 y1 y2 y3 r1;have q0:=cell_in (i:=k*4) b2 y0;have q1:=cell_in (i:=k*4+1) b2 y1;have q2:=cell_in (i:=k*4+2) b2 y2;have q3:=cell_in (i:=k*4+3) b2 y3;have i1:(0:Int)≤(k:Int):=by omega
                      have i2:(k:Int)<(n:Int):=by omega
                      clear i0 hk b2 y0 y1 y2 y3 D4 U;go_wp2_with fail;refine r1.out.mono ?_;rintro e w6 ⟨rfl,F3⟩;have H9:=Hd F3;clear F3 q0 q1 q2 q3;go_wp2_with fail;go_roundw;case rel=>exact⟨_,b,by rw[List.length_append,List.length_singleton,HK.out];go_num,by rw[List.append_assoc];exact F8.out,H9.out⟩
                      case measure=>simp[intOf];omega
          case rest=>
            obtain⟨E1,D0⟩:=hcut;obtain⟨w5,rfl⟩:∃w5,w5=wc:=⟨_,rfl⟩;have X:=Hd E1;have hi:65536*t.pts.length<data.length:=by rw[←z9.out];exact J5
            have k6:=Hd hi;have B6:=Hd (show w.heap.size<wr.heap.size from by have u:=lt_of_block r.out.cfg;have s:=x6.out;omega);clear E1 hi;go_upto_if 140 with fail;go_cut [7,10] from 57 to 176 (fun s7 s10 wx=>R9 w CB B q data t bs (.slice bp bs.length e3) s7 s10 wx);case first=>
              rcases D0 with⟨rfl,⟨cs,J1,Z⟩,i8⟩|⟨rfl,b3,I,s',l6,E6,v6,T,f1,j5,rfl,C5,t1,f2,Z⟩
              · obtain⟨c0,c1,c2,c3,c4,c5,rfl⟩:=array6 J1
                have D3:data.length≤Y:=by
                  obtain⟨p',B8,hv,hc,_⟩:=r3.out;simp only[Value.slice.injEq,true_and] at hv;omega
                obtain⟨m6,k0,c9,f8,v4,_⟩:=P.out;have t7:Pk.Nxt q data t (t.lay ((data.drop (upto data.length t.pts.length)).take (upto data.length (t.pts.length+1)-upto data.length t.pts.length))):=.inl ⟨rfl,i8⟩;obtain⟨M,z⟩:=r.out.ok.lay k6.out (b:=(data.drop (upto data.length t.pts.length)).take (upto data.length (t.pts.length+1)-upto data.length t.pts.length)) rfl;obtain⟨b,hb⟩:∃b,b=(data.drop (upto data.length t.pts.length)).take (upto data.length (t.pts.length+1)-upto data.length t.pts.length):=⟨_,rfl⟩;rw[←hb] at t7 M z;rw[←m6,←k0] at hb;obtain⟨d,hd⟩:∃d,d=G-f:=⟨_,rfl⟩;have C:b.length=d:=by rw[hb,List.length_take,List.length_drop];omega
                have e6:=rd_mid r3.out (Nat.le_of_lt c9) f8;have m5:=slice_lh p data.length Y f G (Nat.le_of_lt c9) (by omega);rw[←hd] at e6 m5 hb;rw[←hb] at e6;obtain⟨V,t0⟩:∃V:Nat,V=if t.begun=false then 1 else 2:=⟨_,rfl⟩;have f5:=r.out.k8.lay b;rw[←t0] at z f5;rw[C] at z;obtain⟨z0,z1,z2,z3,z4,z5,zf⟩:=cf6 Z rfl rfl rfl rfl rfl rfl;have q9:=Hd t7;have r2:=Hd M;have F:=Hd z;have p7:=Hd f5;have n1:=Hd e6;have I6:=Hd m5;have A3:=Hd t0;have e9:=Hd C;have a2:=Hd hd;have g4:=Hd Z;clear t7 M z f5 e6 m5 t0 C hb hd i8 Z D3 m6 k0 c9 f8 v4;by_cases i3:bs.length=0;focus
                  have g0:(((bs.length:Nat):Int)==0)=true:=by simp[i3]
                  go_upto_region 37 with fail;obtain⟨w6,b4⟩:∃w6,w6=((((((w5.setCell ⟨B,0,none⟩ (.int .i64 2)).setCell ⟨B,1,none⟩ (.int .i64 ((G:Int)-(f:Int)))).setCell ⟨B,2,none⟩ (.int .i64 ((G:Int)-(f:Int)))).setCell ⟨B,3,none⟩ (.int .i64 0)).setCell ⟨B,4,none⟩ (.int .i64 0)).setCell ⟨B,5,none⟩ (.int .i64 0)).setCell ⟨B,0,none⟩ (.int .i64 1):=⟨_,rfl⟩;rw[←b4];have m3:V=1:=by rw[A3.out,if_pos (r.out.k8.nil.2 (List.length_eq_zero_iff.1 i3))]
                  have e8:=Hd (show w6.heap[B]? =some (.cells #[.int .i64 V,.int .i64 d,.int .i64 d,.int .i64 0,.int .i64 0,.int .i64 0] 47 (0,0)) from by
                    rw[b4,m3,a2.out,←h8.out];exact set_in (six_in g4.out _ _ _ _ _ _) 0 _)
                  have O:=Hd (show Fr (fun k=>k=B) w5 w6 from by
                    rw[b4];exact(six_of _ _ _ _ _ _ _ _).trans (Fr.one _ B 0 _))
                rotate_left;focus
                  have g0:(((bs.length:Nat):Int)==0)=false:=by simpa using i3
                  go_upto_region 37 with fail;obtain⟨w6,b4⟩:∃w6,w6=(((((w5.setCell ⟨B,0,none⟩ (.int .i64 2)).setCell ⟨B,1,none⟩ (.int .i64 ((G:Int)-(f:Int)))).setCell ⟨B,2,none⟩ (.int .i64 ((G:Int)-(f:Int)))).setCell ⟨B,3,none⟩ (.int .i64 0)).setCell ⟨B,4,none⟩ (.int .i64 0)).setCell ⟨B,5,none⟩ (.int .i64 0):=⟨_,rfl⟩;rw[←b4];have m3:V=2:=by rw[A3.out,if_neg (fun h=>i3 (by rw[r.out.k8.nil.1 h];rfl))]
                  have e8:=Hd (show w6.heap[B]? =some (.cells #[.int .i64 V,.int .i64 d,.int .i64 d,.int .i64 0,.int .i64 0,.int .i64 0] 47 (0,0)) from by
                    rw[b4,m3,a2.out,←h8.out];exact six_in g4.out _ _ _ _ _ _)
                  have O:=Hd (show Fr (fun k=>k=B) w5 w6 from by
                    rw[b4];exact six_of _ _ _ _ _ _ _ _)
                rotate_left;all_goals
                  have A4:=Hd (show V=1∨V=2 by omega);have j3:Fr (fun _=>False) w w6:=(r.out.fr.trans X.out).trans' O.out (fun k u s=>by have:=b6.out;have:=r.out.fr.size;omega);have e0:=Hd j3;have a6:=Hd ((r.out.out.keep X.out).step O.out (fun k hk e=>by have:=r.out.out.lt k hk;have:=b6.out;omega));have x2:=Hd ((r.out.bef.keep X.out).step O.out (fun k hk e=>by have:=r.out.bef.lt k hk;have:=b6.out;omega));have x7:=Hd (O.out.keep (X.out.keep r.out.cfg (fun h=>h)) (fun e=>by have:=lt_of_block r.out.cfg;have:=b6.out;omega));have I4:=Hd (eraw_calls ((r.out.ec.keep X.out).step O.out (fun k hk e=>by have u:=r.out.ec.old k hk;have s:=b6.out;omega)) (.slice (dropP p Y f) d (Y-f)) b (n1.out.keep j3) (by have u:=e9.out;have s:=HB.out;have h3:=P.out;rw[r.out.ok.all,List.length_take];have h4:=a2.out;omega));have m5:=I6.out;clear j3 i3 g0 b4 m3 z0 z1 z2 z3 z4 z5 zf;go_wp2_with fail;refine I4.out.mono ?_;rintro e w7 ⟨rfl,l2,C6,b0⟩;have y6:=Hd (show EC w7 l2 E v (t.lay b).x.c (t.lay b).x.e from C6);have G6:=Hd b0.gr;have G8:=Hd b0.k;have g8:=Hd (e0.out.trans' b0.fr (fun k u s=>by have:=r.out.gr k s;omega));have A5:=Hd (a6.out.step b0.fr (fun k hk e=>r.out.ooff k hk e));have x3:=Hd (x2.out.step b0.fr (fun k hk e=>r.out.boff k hk e));have x8:=Hd (b0.fr.keep x7.out (fun e=>by have u:=r.out.gr CB e;have s:=x6.out;omega));have r9:=b0.fr.keep e8.out (fun e=>by have u:=r.out.ec.old B e;have s:=b6.out;omega);have F9:=Hd r9;obtain⟨z0,z1,z2,z3,z4,z5⟩:=cs6 r9 rfl rfl rfl rfl rfl rfl;have p3:=Hd (R0 w7).drew;have g9:=Hd (laid_calls V d d 0 0 0 ⟨V,d,d,0,0,0⟩ (.slice (dropP p Y f) d (Y-f)) b w7.drew (fun W=>by
                    have h3:=P.out;have h4:=a2.out;obtain⟨m,hm⟩:∃m,d=m+1:=⟨d-1,by omega⟩;rw[hm];exact put17_raw V m 0 0 0 A4.out (by omega) W) (n1.out.keep (g8.out.trans p3.out)) (by have u:=e9.out;have h3:=P.out;have h4:=a2.out;omega))
                  have R:(headB ⟨V,d,d,0,0,0⟩++b).length≤100000:=by
                    have h0:=head_n ⟨V,d,d,0,0,0⟩;have u:=e9.out;have h3:=P.out;have h4:=a2.out;rw[List.length_append];omega
                  obtain⟨bq,f3⟩:∃bq,headB ⟨V,d,d,0,0,0⟩++b=bq:=⟨_,rfl⟩;have r0:=Hd (show(t.lay b).out q.dict=t.out q.dict++bq by rw[F.out,f3]);rw[f3] at g9 R;have x0:=Hd R;obtain⟨ol,b9⟩:∃ol,(t.out q.dict).length=ol:=⟨_,rfl⟩;have e1:=Hd b9;have d0:=Hd (show Acc w w7.drew (.slice op (t.out q.dict).length D) (t.out q.dict) from⟨g8.out.trans p3.out,A5.out.own,A5.out.new⟩);rw[b9] at d0 ⊢;clear C6 b0 r9 R f3 b9;go_upto_region 38 with fail;go_region_law (first
                    | (go_simp
                       go_at_call 47;refine g9.out.mono ?_;rintro e w8 ⟨v8,rfl,m1,b8⟩;obtain⟨q8,c8,rfl⟩:=b8.slice;have l3:=Hd b8.rd;have G5:=Hd m1;have b5:=Hd (show Acc w w8 (.slice op ol D) (t.out q.dict) from⟨d0.out.fr.trans m1,own_step d0.out.own m1 (fun _ _ h=>h),d0.out.new⟩);clear m1 b8)
                    | (refine step_bytesN rfl _ _ rfl (w0:=w) (.slice op ol D) (.slice q8 bq.length c8) (t.out q.dict) bq (by simp [Act.eval,Act.put]) (by simp [Act.eval,Act.put]) b5.out l3.out (by have:=A9.out; have:=x0.out; omega) ?_
                       intro p9 C0 n9 w9 t2 h9 L x;have a7:=Hd h9;have J:=Hd L;have h6:=Hd x;clear t2 h9 L x))
                  all_goals go_wp2_with fail
                  all_goals go_meet
                  all_goals
                    have f7:∀k,(Value.slice op ol D).ownBlock=some k→w.heap.size≤k∧k<wr.heap.size:=fun k e=>by
                      have e':(Value.slice op (t.out q.dict).length D).ownBlock=some k:=by
                        rw[e1.out];exact e
                      exact⟨r.out.out.new k e',r.out.out.lt k e'⟩
                    have a0:=p3.out.trans G5.out;have j2:∀{k:Nat}{cs:Array Value}{tt:TypeId}{fr:Nat×Nat},w8.heap[k]? =some (.cells cs tt fr)→tt≠5→w9.heap[k]? =some (.cells cs tt fr):=fun hk ht=>J.out.keep hk (fun e=>by
                      obtain⟨r6,hc⟩:=Lz.own_block b5.out.own e;exact Ps.neOf hk hc ht rfl)
                    have b1:=x3.out.keep a0;have F6:=Nat.le_trans (Nat.le_trans X.out.size O.out.size) (Nat.le_refl _);have s9:∀k,ECF l2 E v k→ECF l E v k∨wr.heap.size≤k:=fun k hk=>(G6.out k hk).imp id (fun h=>Nat.le_trans F6 h);have E2:∀k,(Value.slice op ol D).ownBlock=some k→¬ECF l2 E v k:=fun k e hx=>by
                      rcases s9 k hx with h|h
                      · exact r.out.ooff k (by rw[e1.out];exact e) h
                      · have:=(f7 k e).2
                        omega
                    refine⟨t.lay b,l2,E,v,V,by rw[G8.out],r2.out,by simp[Pst.lay],p7.out,q9.out,(g8.out.trans a0).trans' J.out (fun k u s=>by have:=(f7 k s).1;omega),j2 (a0.keep x8.out (fun h=>h)) (by decide),(y6.out.keep a0).step J.out (fun k hk e=>E2 k e hk),
                      fun k hk=> ?_,b1.step J.out (fun k hk e=> ?_),?_,fun k hk hx=> ?_,fun k hk hx=> ?_,cell_in (i:=0) (j2 (a0.keep F9.out (fun h=>h)) (by decide)) rfl⟩
                    · rcases s9 k hk with h|h
                      · exact r.out.gr k h
                      · exact Nat.lt_of_lt_of_le B6.out h
                    · obtain⟨c1,u⟩:=b1.block hk
                      obtain⟨c2,s⟩:=Lz.own_block b5.out.own e;exact Ps.neOf u s (by decide) rfl
                    · rw[r0.out]
                      exact⟨a7.out.own,a7.out.new⟩
                    · rcases s9 k hx with h|h
                      · exact r.out.boff k hk h
                      · have:=r.out.bef.lt k hk
                        omega
                    · rcases h6.out k hk with e|e
                      · exact E2 k e hx
                      · have s:=(y6.out.keep a0).old k hx
                        omega
              · have v1:=pack8 r.out.ok k6.out HQ.out (by have:=HD.out;omega) b3 T f1 j5
                have r2:=Hd v1.1;have F:=Hd v1.2;have q9:=Hd (show Pk.Nxt q data t (t.pack q.pr I) from .inr ⟨b3,I,s',T,f1,j5,rfl⟩);have p7:=Hd (r.out.k8.pack q.pr I);have k5:=Hd (show EC w5 l6 E6 v6 (t.pack q.pr I).x.c (t.pack q.pr I).x.e from C5);have k7:=Hd t1;have D2:=bytes_pos ((t.from' q.pr).putAll I).e.k;have i9:1≤upto data.length (t.pts.length+1)-upto data.length t.pts.length∧upto data.length (t.pts.length+1)-upto data.length t.pts.length≤65536:=by
                  have u:=P.out;omega
                have k9:=Hd (fun W=>put8_calls t q _ _ i9 ⟨D2,f1⟩ HQ.out W);obtain⟨d,hd⟩:∃d,d=upto data.length (t.pts.length+1)-upto data.length t.pts.length:=⟨_,rfl⟩;obtain⟨q7,c7,rfl⟩:=f2.slice;obtain⟨bb,l9⟩:∃bb,bb=((t.from' q.pr).putAll I).e.k.bytes:=⟨_,rfl⟩;have G0:=Hd l9;rw[←l9] at f1 f2 Z k9 F ⊢;rw[←hd] at Z k9 F;obtain⟨A,C⟩:∃A,bb.length=A:=⟨_,rfl⟩;have x4:=Hd C;rw[C] at f1 f2 Z k9 F ⊢;have J8:=Hd f2.rd;have x5:=Hd Z;have g9:=Hd (laid_calls t.kind d A q.lc q.lp q.pb (t.headP q.pr d A) (.slice q7 A c7) bb w5 k9.out f2.rd (by omega));have R:(headB (t.headP q.pr d A)++bb).length≤100000:=by
                  have:=head_n (t.headP q.pr d A);rw[List.length_append];omega
                obtain⟨bq,f3⟩:∃bq,headB (t.headP q.pr d A)++bb=bq:=⟨_,rfl⟩;rw[f3] at g9 F R;obtain⟨z0,z1,z2,z3,z4,z5⟩:=cs6 Z rfl rfl rfl rfl rfl rfl;have e8:=Hd R;have H4:=Hd (r.out.out.keep X.out);have A2:=Hd (r.out.fr.trans X.out);clear v1 T f1 j5 C5 t1 f2 Z D2 i9 hd l9 C f3 R b3;go_wp2_with fail;refine g9.out.mono ?_;rintro e w6 ⟨v8,rfl,a4,b8⟩;obtain⟨q8,c8,rfl⟩:=b8.slice;have l3:=Hd b8.rd;have O:=Hd a4;have a6:=Hd (H4.out.keep a4);have e0:=Hd (A2.out.trans a4);clear a4 b8 z0 z1 z2 z3 z4 z5;obtain⟨ol,b9⟩:∃ol,(t.out q.dict).length=ol:=⟨_,rfl⟩;obtain⟨nq,t6⟩:∃nq,bq.length=nq:=⟨_,rfl⟩;rw[b9] at a6 ⊢;rw[t6] at l3 ⊢;have e1:=Hd b9;have K0:=Hd t6;clear b9 t6
                go_wp2_with (at_builtin
                             refine append_mine rfl _ _ rfl (w0:=w) (.slice op ol D) (.slice q8 nq c8) (t.out q.dict) bq rfl rfl a6.out e0.out.size l3.out (by have:=A9.out;have:=e8.out;omega) ?_;intro p9 C0 n9 w9 t2 h9 L x;have a7:=Hd h9;have J:=Hd L;have h6:=Hd x;clear t2 h9 L x)
                rw[←x4.out,G0.out];go_meet;have f7:∀k,(Value.slice op ol D).ownBlock=some k→w.heap.size≤k∧k<wr.heap.size:=fun k e=>by
                  have e':(Value.slice op (t.out q.dict).length D).ownBlock=some k:=by
                    rw[e1.out];exact e
                  exact⟨r.out.out.new k e',r.out.out.lt k e'⟩
                have j2:∀{k:Nat}{cs:Array Value}{tt:TypeId}{fr:Nat×Nat},w6.heap[k]? =some (.cells cs tt fr)→tt≠5→w9.heap[k]? =some (.cells cs tt fr):=fun hk ht=>J.out.keep hk (fun e=>by
                  obtain⟨r6,hc⟩:=Lz.own_block a6.out.own e;exact Ps.neOf hk hc ht rfl)
                have b1:=r.out.bef.keep (X.out.trans O.out);refine⟨t.pack q.pr I,l6,E6,v6,t.kind,rfl,r2.out,by simp[Pst.pack],p7.out,q9.out,e0.out.trans' J.out (fun k u s=>by have:=(f7 k s).1;omega),j2 ((X.out.trans O.out).keep r.out.cfg (fun h=>h)) (by decide),(k5.out.keep O.out).step J.out (fun k hk e=>by have u:=k7.out k hk;have s:=(f7 k e).2;omega),
                  fun k hk=>Nat.lt_of_lt_of_le B6.out (k7.out k hk),b1.step J.out (fun k hk e=> ?_),?_,fun k hk hx=> ?_,fun k hk hx=> ?_,cell_in (i:=0) (j2 (O.out.keep x5.out (fun h=>h)) (by decide)) rfl⟩
                · obtain⟨c1,u⟩:=b1.block hk
                  obtain⟨c2,s⟩:=Lz.own_block a6.out.own e;exact Ps.neOf u s (by decide) rfl
                · rw[F.out]
                  exact a7.out
                · have u:=r.out.bef.lt k hk
                  have s:=k7.out k hx;omega
                · rcases h6.out k hk with e|e
                  · have u:=(f7 k e).2
                    have s:=k7.out k hx;omega
                  · have s:=(k5.out.keep O.out).old k hx
                    omega
            case rest=>
              obtain⟨t',l',E',v',V,rfl,M,H,e5,e7,o6,i7,n8,e4,i4,z,K,N,K4⟩:=hcut;obtain⟨w7,rfl⟩:∃w7,w7=wc:=⟨_,rfl⟩;have a3:=(R0 w7).alloc (.cells #[.int .i64 V] 3);have B0:=Hd (heap_alloc_new w7 (.cells #[.int .i64 V] 3));have f9:=Hd a3;have d9:=Hd (i4.keep a3);have F:=Hd (z.keep a3);have y8:=Hd (n8.keep a3);have m8:=Hd (a3.keep i7 (fun h=>h));have A1:=Hd (o6.trans a3);have I1:=Hd (And.intro M (And.intro H (And.intro e5 e7)));have A8:=Hd (And.intro e4 (And.intro K N));have e9:=Hd (show bs.length≤1099511627776 from by have:=r.out.len;have:=k6.out;have:=HB.out;omega);obtain⟨nb,t3⟩:∃nb,bs.length=nb:=⟨_,rfl⟩;rw[t3] at d9 e9 A8 ⊢;have k8:=Hd t3;clear a3 M H e5 e7 o6 i7 n8 e4 i4 z K N t3 D0
              go_wp2_with (at_builtin
                           refine append_own rfl _ _ rfl Tryz.underlying94 Ga.infoInt rfl (by decide) (by decide) (w0:=w) (.slice bp nb e3) (ints8 bs) #[.int .i64 V] w7.heap.size rfl rfl d9.out A1.out.size B0.out rfl (by simp[Value.oneCell']) e9.out ?_;intro v9 w9 C9 L x;have H7:=Hd C9;have J:=Hd L;have h6:=Hd x;clear C9 L x)
              go_roundw;case rel=>
                obtain⟨M,H,e5,e7⟩:=I1.out;obtain⟨e4,K,N⟩:=A8.out;have j7:∀k,(Value.slice bp nb e3).ownBlock=some k→∃c,(w7.alloc (.cells #[.int .i64 V] 3)).heap[k]? =some (.cells c 3 (0,0)):=fun k hk=>d9.out.block hk;refine⟨l',E',v',t',bs++[V],rfl,?_,A1.out.trans' J.out (fun k u s=>by have:=d9.out.new k s;omega),J.out.keep m8.out (fun e=>by
                  obtain⟨c,hc⟩:=j7 _ e;exact Ps.neOf m8.out hc (by decide) rfl),y8.out.step J.out (fun k hk e=>K k e hk),e4,?_,F.out.step J.out (fun k hk e=> ?_),fun k hk hx=> ?_,N,M,?_,e5,?_,?_⟩
                · rw[H]
                  have:=z9.out;go_num
                · have h:=H7.out
                  rw[List.length_append,List.length_singleton,k8.out];rw[show ints8 (bs++[V])=ints8 bs++#[Value.int .i64 V].toList by simp[ints8]];exact h
                · obtain⟨c1,u⟩:=j7 _ e
                  obtain⟨c2,s⟩:=Lz.own_block F.out.own hk;exact Ps.neOf u s (by decide) rfl
                · rcases h6.out k hk with e|e
                  · exact K k e hx
                  · have s:=y8.out.old k hx
                    omega
                · rw[List.length_append,List.length_singleton,H,r.out.len]
                · rw[H]
                  exact⟨t,r.out.run,e7⟩
                · intro j hj
                  rw[H] at hj;by_cases J4:j=t.pts.length
                  · rw[J4]
                    exact k6.out
                  · exact r.out.each j (by omega)
              case measure=>simp[intOf];omega
    · have m0:decide ((f:Int)<(data.length:Int))=false:=decide_eq_false (by omega)
      have F5:t.Whole data q.dict q.pr (decide (q.mode=0)):=⟨hI.ok,by omega,hI.each⟩;have m2:=(R0 wr).alloc (.cells #[.int .u8 0] 5);have j9:=rd_one wr wr.heap.size rfl 0 0 rfl;have I8:=Hd F5;have a7:=Hd (hI.out.keep m2);have HA:=Hd m2;have B3:=Hd j9;have HS:=Hd (Nat.le_trans hI.fr.size m2.size);obtain⟨os,t9⟩:∃os,t.out q.dict=os:=⟨_,rfl⟩;rw[t9] at a7 F0 ⊢;have H8:=Hd t9;clear hI hf F5 m2 j9 t9;go_wp2_with (at_builtin;refine append_mine rfl _ _ rfl (w0:=w) (.slice op os.length D) (.slice (some ⟨wr.heap.size,0,none⟩) 1 1) os [0] rfl rfl a7.out HS.out B3.out (by simp only[List.length_singleton];omega) ?_;intro p2 B9 n2 w2 J6 C8 o5 t4;have H3:=Hd C8;have z8:=Hd o5;clear J6 C8 o5 t4);go_ret2;refine⟨?_,t,.slice p2 n2 B9,rfl,I8.out,?_⟩
      · exact(r.out.fr.trans HA.out).trans' z8.out (fun k u s=>by
          have:=a7.out.new k s;omega)
      · rw[H8.out]
        exact⟨H3.out,Hd r.out.run⟩
end Rf
namespace Rf
open Mem Rc Prob St Lz Win En Ga Ck Pk
set_option maxRecDepth 100000 in
theorem rencode_bad(a b lc lp pb dict d c:Int)(z:Value)(w:World)(g:goodC lc lp pb dict c=false):
 Calls Tryz.prog 10 #[z,.agg #[.int .i64 a,.int .i64 b,.int .i64 lc,.int .i64 lp,.int .i64 pb,.int .i64 dict,.int .i64 d,.int .i64 c]] w fun e B=>Fr (fun _=>False) w B∧e=.returned (.tuple #[.slice none 0 0,.int .i64 6]):=by
 have o:=heap_alloc_new w (.cells #[.int .i64 a,.int .i64 b,.int .i64 lc,.int .i64 lp,.int .i64 pb,.int .i64 dict,.int .i64 d,.int .i64 c] 26);have v:=Hd ((R0 w).alloc (.cells #[.int .i64 a,.int .i64 b,.int .i64 lc,.int .i64 lp,.int .i64 pb,.int .i64 dict,.int .i64 d,.int .i64 c] 26));have f:=fun W=>Hd (allowed_any lc lp pb W);have C:=cell_in (i:=2) o rfl;have D:=cell_in (i:=3) o rfl;have E:=cell_in (i:=4) o rfl;have x:=Hd o;have A:propsBad lc lp pb=true∨propsBad lc lp pb=false∧(dict<4096∨¬dict<4096∧(67108864<dict∨¬67108864<dict∧(c<0∨¬c<0∧2<c))):=by
  unfold goodC at g;cases j:propsBad lc lp pb
  ·refine .inr ⟨rfl,?_⟩
   simp[j] at g;omega
  ·exact .inl rfl
 clear o g;rcases A with j|⟨j,n|⟨n,k|⟨k,r|⟨r,u⟩⟩⟩⟩;focus
  rw[j] at f;simp only[Bool.not_true] at f
 rotate_left;focus
  rw[j] at f;simp only[Bool.not_false] at f;have q:decide (dict<4096)=true:=decide_eq_true n
 rotate_left;focus
  rw[j] at f;simp only[Bool.not_false] at f;have q:decide (dict<4096)=false:=decide_eq_false n;have s:decide (dict>67108864)=true:=decide_eq_true k;have t:decide (67108864<dict)=true:=decide_eq_true k
 rotate_left;focus
  rw[j] at f;simp only[Bool.not_false] at f;have q:decide (dict<4096)=false:=decide_eq_false n;have s:decide (dict>67108864)=false:=decide_eq_false k;have t:decide (67108864<dict)=false:=decide_eq_false k;have y:decide (c<0)=true:=decide_eq_true r
 rotate_left;focus
  rw[j] at f;simp only[Bool.not_false] at f;have q:decide (dict<4096)=false:=decide_eq_false n;have s:decide (dict>67108864)=false:=decide_eq_false k;have t:decide (67108864<dict)=false:=decide_eq_false k;have y:decide (c<0)=false:=decide_eq_false r;have F:decide (c>2)=true:=decide_eq_true u;have G:decide (2<c)=true:=decide_eq_true u
 rotate_left;all_goals
  clear j;go_enter Tryz.func10,Tryz.ntmps10;go_wp2_with fail;refine(f _).out.mono ?_;rintro e H ⟨rfl,l⟩;have m:=l.keep x.out (fun h=>h);have I:=cell_in (i:=5) m rfl;have J:=cell_in (i:=7) m rfl;have p:=Hd (v.out.trans l);clear l m C D E;go_wp2_with fail;go_ret2;exact⟨p.out,rfl⟩
end Rf
end Go.Proofs.YtffoddpjfgjelaaGreatDoor
