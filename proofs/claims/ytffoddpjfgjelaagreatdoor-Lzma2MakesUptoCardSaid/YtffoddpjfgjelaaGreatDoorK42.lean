/- Part 42 of 54: lemmas of the last part, each under the conditions that it names. -/
import Derived.Deep.RegionHeld3
import Derived.Deep.CutBlock
import Derived.Deep.DeepCutAuto
import Derived.Test.YtffoddpjfgjelaaGreatDoorK13
import Derived.Test.YtffoddpjfgjelaaGreatDoorK41
set_option linter.unusedVariables false
set_option linter.unusedSimpArgs false
set_option maxRecDepth 1500
set_option maxHeartbeats 16000000
namespace Go.Proofs.YtffoddpjfgjelaaGreatDoor
open Go.RowKit
namespace Rf
open Mem Rc Prob St Lz Win En Ga
theorem litNb_len(c:C)(b:Nat):(litNb c b).length=8:=by
 unfold litNb;split
 ·exact treeNb_len ..
 ·exact matNb_len ..
theorem lenNb_len(c:C)(q n:Nat):(lenNb c q n).length≤10:=by
 unfold lenNb;split
 ·rw[List.length_append,treeNb_len];simp
 ·split
  ·rw[List.length_append,List.length_append,treeNb_len];simp
  ·rw[List.length_append,List.length_append,treeNb_len];simp
theorem whichNb_len(c:C)(i:Nat):(whichNb c i).length≤4:=by
 unfold whichNb;split
 ·simp
 ·split
  ·simp
  ·split<;>simp
theorem distNb_len(n a d:Nat)(h:a<64):(distNb n a d).length≤40:=by
 have b:=(range_le ⟨a,h⟩).2.1;simp only at b;unfold distNb restNb;rw[List.length_append,treeNb_len];split
 ·simp
 ·split
  ·rw[treeNb_len];omega
  ·rw[List.length_append,treeNb_len,halvesNb_len];omega
def BitsPost(c:C)(z:Sz)(w:World)(e:Ending)(w':World):Prop:=
 Fr (fun _=>False) w w'∧if(applyZ c.size c.all c.s z).1=0 then∃v,e=.returned (.tuple #[v,.int .i64 0])∧BL w w' v (symNb c z.sy) else e=.returned (.tuple #[.slice none 0 0,.int .i64 (applyZ c.size c.all c.s z).1])
theorem try_calls(V size:Nat)(av:Value)(all:List UInt8)(s:S)(j:s.Ok)(z:Sz)(g:z.byte<256)(w:World)(h:WAt w V av size all)(a:all.length+273≤70368744177664):
 Calls Tryz.prog 89 #[ptr V,.agg s.cells,.agg z.cells] w fun e f=>∃v s',e=.returned (.tuple #[v,.agg (S.cells s'),.int .i64 (applyZ size all s z).1])∧Fr (fun k=>k=V∨av.ownBlock=some k) w f:=by
 refine(rapplyz_calls V size av all s j z g w h a).mono ?_;intro e f b;unfold AppPostZ at b;by_cases c:(applyZ size all s z).1=0
 ·rw[if_pos c] at b
  obtain⟨v,rfl,d⟩:=b;exact⟨v,_,by rw[c];rfl,d.fr⟩
 ·rw[if_neg c] at b
  obtain⟨rfl,i⟩:=b;exact⟨_,S.zero,rfl,i.mono (fun _ _ h=>h.elim)⟩
set_option maxRecDepth 100000 in
theorem bits14_calls{l:RL}{c:C}{ps:Nat→List Nat}{w:World}(h:Cod w l c ps)(z:Sz)(hb:z.byte<256)(c4:c.all.length+273≤70368744177664):
 Calls Tryz.prog 85 #[ptr l.K,.agg z.cells] w (BitsPost c z w):=by
 have f0:=h.okc.s;have i2:=h.okc.place;have g0:c.s.num<12:=f0.num;obtain⟨er,d5⟩:∃er,er=(applyZ c.size c.all c.s z).1:=⟨_,rfl⟩;have c3:er=0→z.bad=0∧May c z.sy∧(z.kind=1∨z.kind=4∨(z.kind=2∨z.kind=3))∧((z.kind=2∨z.kind=3)→(z.sy.len:Int)=z.len∧(z.sy.dist:Int)=z.dist∧(z.sy.kind:Int)=z.kind):=fun h0=>by
  have a7:z.bad=0:=by
   rw[d5] at h0;unfold applyZ at h0;by_cases hz:z.bad=0
   ·exact hz
   ·rw[if_neg hz] at h0
    exact h0
  have hm:=may_of (c:=c) a7 hb;refine⟨a7,hm,?_,Sz.same a7⟩;have hk:=hm.kind;unfold Sz.sy at hk;simp only at hk;omega
 have d0:=(R0 w).alloc (.cells z.cells 110);have d1:=heap_alloc_new w (.cells z.cells 110);have i3:w.heap.size<(w.alloc (.cells z.cells 110)).heap.size:=by simp
 obtain⟨w0,d6⟩:∃w0,w0=w.alloc (.cells z.cells 110):=⟨_,rfl⟩;have H0:=Hd (h.keep d0);rw[←d6] at d0 d1 i3 H0;have f3:=Hd (show∀W,Fr (fun _=>False) w0 W→Calls Tryz.prog 80 #[ptr l.V] W _ from fun W u=>wfork_calls l.V c.size l.av c.all W ⟨(H0.out.keep u).v,(H0.out.keep u).all⟩ (by omega));have c9:=Hd (show∀(V':Nat)(a4:Value) W,WAt W V' a4 c.size c.all→Calls Tryz.prog 89 #[ptr V',.agg c.s.cells,.agg z.cells] W (fun e Q=>∃v s',e=.returned (.tuple #[v,.agg (S.cells s'),.int .i64 er])∧Fr (fun k=>k=V'∨a4.ownBlock=some k) W Q) from fun V' a4 W u=>by rw[d5];exact try_calls V' c.size a4 c.all c.s f0 z hb W u c4);have q:=Hd (show∀e Q,Fr (fun _=>False) w0 Q→(er=0→∃v,e=.returned (.tuple #[v,.int .i64 0])∧BL w0 Q v (symNb c z.sy))→(er≠0→e=.returned (.tuple #[.slice none 0 0,.int .i64 er]))→BitsPost c z w e Q from fun e Q h1 h2 h3=>by
  refine⟨d0.trans h1,?_⟩;rw[←d5];by_cases h0:er=0
  ·rw[if_pos h0]
   obtain⟨v,hv,i0⟩:=h2 h0;exact⟨v,hv,i0.older d0.size⟩
  ·rw[if_neg h0]
   exact h3 h0)
 have g8:=Hd (show∀W,Fr (fun _=>False) w0 W→Calls Tryz.prog 142 #[ptr l.K] W _ from fun W u=>Rf.place_calls (H0.out.keep u));have e0:=Hd (show∀W,Fr (fun _=>False) w0 W→Calls Tryz.prog 144 #[ptr l.K,.int .i64 z.byte] W _ from fun W u=>literal14_calls (H0.out.keep u) z.byte hb);have g3:=Hd (show∀W(x:Int)(n:Nat),x=(n:Int)→2≤n→n≤273→Fr (fun _=>False) w0 W→Calls Tryz.prog 145 #[ptr l.K,bstr [77,97,116,99,104],.int .i64 x] W (fun e Q=>∃v,e=.returned v∧Fr (fun _=>False) W Q∧BL W Q v (lenNb c 7 n)) from fun W x n hx h1 h2 u=>by rw[hx];exact length14_calls (H0.out.keep u) 7 (.inl rfl) n h1 h2);have g4:=Hd (show∀W(x:Int)(n:Nat),x=(n:Int)→2≤n→n≤273→Fr (fun _=>False) w0 W→Calls Tryz.prog 145 #[ptr l.K,bstr [82,101,112],.int .i64 x] W (fun e Q=>∃v,e=.returned v∧Fr (fun _=>False) W Q∧BL W Q v (lenNb c 11 n)) from fun W x n hx h1 h2 u=>by rw[hx];exact length14_calls (H0.out.keep u) 11 (.inr rfl) n h1 h2);have f5:=Hd (show∀W(x:Int)(i:Nat),x=(i:Int)→i≤3→Fr (fun _=>False) w0 W→Calls Tryz.prog 147 #[ptr l.K,.int .i64 x] W (fun e Q=>∃v,e=.returned v∧Fr (fun _=>False) W Q∧BL W Q v (whichNb c i)) from fun W x i hx h1 u=>by rw[hx];exact rep14_calls (H0.out.keep u) i h1);have g2:=Hd (show∀W(x y:Int)(n d:Nat),x=(n:Int)→y=(d:Int)→2≤n→n≤273→1≤d→d≤4294967295→Calls Tryz.prog 146 #[.int .i64 x,.int .i64 y] W (fun e Q=>∃v,e=.returned v∧Fr (fun _=>False) W Q∧BL W Q v (distNb n (slotOf d) d)) from fun W x y n d hx hy h1 h2 h3 h4=>by rw[hx,hy];exact distance14_calls n d h1 h2 h3 h4 W);have g5:=Hd (fun(B:Nat)(W:World)(hB:W.heap[B]? =some (.cells #[.int .i64 c.s.num,.int .i64 c.place] 3 (0,0)))=>name2_calls sIsMatch c.s.num c.place B (by decide) (by omega) (by omega) W hB);have g6:=Hd (fun(B:Nat)(W:World)(hB:W.heap[B]? =some (.cells #[.int .i64 c.s.num,.int .i64 c.place] 3 (0,0)))=>name2_calls sIsLong c.s.num c.place B (by decide) (by omega) (by omega) W hB);have g7:=Hd (fun(B:Nat)(W:World)(hB:W.heap[B]? =some (.cells #[.int .i64 c.s.num] 3 (0,0)))=>name_calls sIsRep c.s.num B (by decide) (by omega) W hB);have b1:=Hd c3;have h9:z.sy=z.sy:=rfl;obtain⟨L,hL⟩:∃L,L=symNb c z.sy:=⟨_,rfl⟩;rw[←hL] at q;obtain⟨post,c7⟩:∃post,post=BitsPost c z w:=⟨_,rfl⟩;rw[←c7] at q ⊢;unfold symNb at hL;have HL:=Hd hL;clear d5 c3 h9 hL c7 f0 i2 g0 c4 h;obtain⟨kind,a5,o,dist⟩:=z;unfold Sz.cells S.cells Sz.sy at*;simp only at c9 e0 b1 HL hb d6 d1 ⊢;generalize d2:c.s=cs at*;obtain⟨f,r0,r1,r2,r3⟩:=cs;simp only at*;have a:=Hd (show∀W,Fr (fun _=>False) w0 W→W.cell? ⟨l.K,3,none⟩=some (ptr l.V)∧W.cell? ⟨l.K,4,none⟩=some (.int .i64 f)∧W.cell? ⟨l.K,5,none⟩=some (.int .i64 r0)∧W.cell? ⟨l.K,6,none⟩=some (.int .i64 r1)∧W.cell? ⟨l.K,7,none⟩=some (.int .i64 r2)∧W.cell? ⟨l.K,8,none⟩=some (.int .i64 r3)∧W.cell? ⟨w.heap.size,0,none⟩=some (.int .i64 kind)∧W.cell? ⟨w.heap.size,1,none⟩=some (.int .u8 a5)∧W.cell? ⟨w.heap.size,2,none⟩=some (.int .i64 o)∧W.cell? ⟨w.heap.size,3,none⟩=some (.int .i64 dist) from fun W u=>by
  have hc:=(H0.out.keep u).cells;have hy:=u.keep d1 (fun h=>h);have h4:=hc.p4;have h5:=hc.p5;have h6:=hc.p6;have h7:=hc.p7;have h8:=hc.p8;rw[d2] at h4 h5 h6 h7 h8;exact⟨hc.p3,h4,h5,h6,h7,h8,cell_in hy rfl,cell_in hy rfl,cell_in hy rfl,cell_in hy rfl⟩)
 clear d1 H0;go_enter Tryz.func85,Tryz.ntmps85;go_upto_region 1 with fail;rw[←d6];generalize i7:w.heap.size=zz at*;clear d6;have A:=Hd (R0 w0).drew;have b5:=Hd (a.out _ A.out);go_region_held3 (fun W=>W.cell? ⟨l.K,3,none⟩=some (ptr l.V)∧W.cell? ⟨l.K,4,none⟩=some (.int .i64 f)∧W.cell? ⟨l.K,5,none⟩=some (.int .i64 r0)∧W.cell? ⟨l.K,6,none⟩=some (.int .i64 r1)∧W.cell? ⟨l.K,7,none⟩=some (.int .i64 r2)∧W.cell? ⟨l.K,8,none⟩=some (.int .i64 r3)∧W.cell? ⟨zz,0,none⟩=some (.int .i64 kind)∧W.cell? ⟨zz,1,none⟩=some (.int .u8 a5)∧W.cell? ⟨zz,2,none⟩=some (.int .i64 o)∧W.cell? ⟨zz,3,none⟩=some (.int .i64 dist))
  (first|with_reducible exact b5.out|(refine a.out _ ?_;first|exact A.out|exact A.out.alloc _|(refine A.out.trans' (T:=fun k=>w0.heap.size≤k) ?_ (fun i h1 h2=>by omega);(repeat refine Fr.setCell ?_ (.inl b6.out) _);exact Fr.refl _ _))) ((first
  | (go_at_call 80
     first
      | (refine (f3.out _ A.out).mono ?_
         rintro e wf ⟨V',a4,rfl,b9,u,b7,b8⟩;have HW:=Hd u;have b2:=Hd (And.intro (Nat.le_trans A.out.size b7) (fun k(hk:a4.ownBlock=some k)=>Nat.le_trans A.out.size (b8 k hk)));have A:=Hd (A.out.trans b9);have b5:=Hd (a.out _ A.out);clear b9 u b7 b8)
      | (refine (f3.out _ (A.out.alloc _)).mono ?_
         rintro e wf ⟨V',a4,rfl,b9,u,b7,b8⟩;have hz:=b9.keep (heap_alloc_new _ _) (fun h=>h);have b6:=Hd A.out.size;try simp only[World.size_drew] at b6
         try simp only[World.size_drew] at hz
         obtain⟨s0,s1,s2,s3,s4,sf⟩:=cf5 hz rfl rfl rfl rfl rfl;have e1:=Hd hz;have HW:=Hd u;have e2:=Hd (And.intro b7 b8);try simp only[World.size_alloc,World.size_drew] at e2
         have b2:=Hd (And.intro (Nat.le_trans (A.out.alloc _).size b7) (fun k(hk:a4.ownBlock=some k)=>Nat.le_trans (A.out.alloc _).size (b8 k hk)));have A:=Hd ((A.out.alloc _).trans b9);have b5:=Hd (a.out _ A.out);clear b9 u b7 b8 hz))
  | (go_at_call 89
     first
      | (refine (c9.out _ _ _ HW.out).mono ?_
         rintro e wa ⟨va,⟨tn,t0,t1,t2,t3⟩,rfl,X⟩;have hz:=X.keep e1.out (fun e=>by
          rcases e with e|e
          ·have:=e2.out.1;omega
          ·have:=e2.out.2 _ e;omega)
         try simp only[World.size_drew] at hz
         obtain⟨s0,s1,s2,s3,s4,sf⟩:=cf5 hz rfl rfl rfl rfl rfl;have e1:=Hd hz;have A:=Hd (A.out.trans' X (fun i h1 h2=>by
          rcases h2 with h2|h2
          ·have:=b2.out.1;omega
          ·have:=b2.out.2 i h2;omega))
         have b5:=Hd (a.out _ A.out);clear X)
      | (refine (c9.out _ _ _ HW.out).mono ?_
         rintro e wa ⟨va,⟨tn,t0,t1,t2,t3⟩,rfl,X⟩;have A:=Hd (A.out.trans' X (fun i h1 h2=>by
          rcases h2 with h2|h2
          ·have:=b2.out.1;omega
          ·have:=b2.out.2 i h2;omega))
         have b5:=Hd (a.out _ A.out);clear X)
      | (refine (c9.out _ _ _ (HW.out.keep ((R0 _).alloc _))).mono ?_
         rintro e wa ⟨va,⟨tn,t0,t1,t2,t3⟩,rfl,X⟩;have b6:=Hd A.out.size;try simp only[World.size_drew] at b6
         have hz:=X.keep (heap_alloc_new _ _) (fun e=>by
          rcases e with e|e
          ·have:=HW.out.lt.1;omega
          ·have:=HW.out.lt.2 _ e;omega)
         try simp only[World.size_drew] at hz
         obtain⟨s0,s1,s2,s3,s4,sf⟩:=cf5 hz rfl rfl rfl rfl rfl;have e1:=Hd hz;have A:=Hd ((A.out.alloc _).trans' X (fun i h1 h2=>by
          rcases h2 with h2|h2
          ·have:=b2.out.1;omega
          ·have:=b2.out.2 i h2;omega))
         have b5:=Hd (a.out _ A.out);clear X))))
 focus
  have P:=Hd (A.out.alloc (.cells #[.int .i64 (tn:Int),.int .i64 (t0:Int),.int .i64 (t1:Int),.int .i64 (t2:Int),.int .i64 (t3:Int)] 103));generalize World.alloc wa _=w2 at*
 rotate_left;focus
  have P:=Hd (A.out.trans' (five_fr wa wf.heap.size (.int .i64 (tn:Int)) (.int .i64 (t0:Int)) (.int .i64 (t1:Int)) (.int .i64 (t2:Int)) (.int .i64 (t3:Int))) (fun i h1 h2=>by have:=b6.out;omega));generalize World.setCell (World.setCell (World.setCell (World.setCell (World.setCell wa _ _) _ _) _ _) _ _) _ _=w2 at*
 rotate_left;focus
  have P:=Hd (A.out.trans' (five_fr wa w0.heap.size (.int .i64 (tn:Int)) (.int .i64 (t0:Int)) (.int .i64 (t1:Int)) (.int .i64 (t2:Int)) (.int .i64 (t3:Int))) (fun i h1 h2=>by have:=b6.out;omega));generalize World.setCell (World.setCell (World.setCell (World.setCell (World.setCell wa _ _) _ _) _ _) _ _) _ _=w2 at*
 rotate_left;all_goals
  by_cases h0:er=0;case neg=>
   have t0:((er:Int) !=0)=true:=by simp[h0]
   go_wp2_with fail;exact q.out _ _ P.out (fun h=>absurd h h0) (fun _=>rfl)
  subst h0;have t0:(((0:Nat):Int) !=0)=false:=rfl;obtain⟨a7,d9,hk,g1⟩:=b1.out rfl;have c2:=Hd d9;have g9:=Hd g1;have f6:∀b,isNb c b=.bit (nIsMatch f c.place) 0 b:=fun b=>by unfold isNb;rw[d2]
  have f7:∀b,longNb c b=.bit (nIsLong f c.place) 0 b:=fun b=>by unfold longNb;rw[d2]
  have hL:=HL.out;simp only[f6,f7,d2] at hL;have a2:=Hd hL;clear a7 d9 g1 f6 f7 hL HL b1;obtain⟨k3,k4,k5,k6,k7,k8,y0,y1,y2,y3⟩:=a.out w2 P.out;go_wp2_with fail;refine(g8.out _ P.out).mono ?_;rintro e Q ⟨rfl,m,rfl⟩;have P:=Hd (P.out.drewN m);clear k3 k4 k5 k6 k7 k8 y0 y1 y2 y3;generalize w2.drewN m=w3 at*;go_wp2_with fail;refine(g5.out w3.heap.size _ (heap_alloc_new w3 _)).mono ?_;rintro e Q ⟨rfl,rfl⟩;have P:=Hd (P.out.alloc (.cells #[.int .i64 (f:Int),.int .i64 (c.place:Int)] 3));generalize World.alloc w3 _=w4 at*;go_wp2_with fail;refine(g6.out w4.heap.size _ (heap_alloc_new w4 _)).mono ?_;rintro e Q ⟨rfl,rfl⟩;have P:=Hd (P.out.alloc (.cells #[.int .i64 (f:Int),.int .i64 (c.place:Int)] 3));generalize World.alloc w4 _=w5 at*;obtain⟨_,_,_,_,_,_,y0,y1,y2,y3⟩:=a.out (w5) P.out;rcases hk with rfl|rfl|hk
  ·have r:L=[.bit (nIsMatch f c.place) 0 0]++litNb c a5:=by rw[a2.out,if_pos (by decide)]
   have N:=litNb_len c a5;obtain⟨T,hT⟩:∃T,T=litNb c a5:=⟨_,rfl⟩;rw[←hT] at r N e0;have a1:=Hd r;have O:=Hd (BL.made (w0:=w0) (l:=[.bit (nIsMatch f c.place) 0 0]) (n:=1) (heap_alloc_new w5 (.cells #[bstr (num (num sIsMatch f) c.place),.int .i64 0,.int .i64 0] 178)) rfl P.out.size (by simp));have U:=Hd (P.out.alloc (.cells #[bstr (num (num sIsMatch f) c.place),.int .i64 0,.int .i64 0] 178));obtain⟨_,_,_,_,_,_,y0,y1,y2,y3⟩:=a.out (w5.alloc (.cells #[bstr (num (num sIsMatch f) c.place),.int .i64 0,.int .i64 0] 178)) U.out;clear r hT a2;go_wp2_with fail;refine(e0.out _ U.out).mono ?_;rintro e w6 ⟨v6,rfl,j,g⟩;obtain⟨p6,D,rfl⟩:=g.slice;have F:=Hd (BL.older g U.out.size);have O:=Hd (O.out.keep j);have FB:=Hd (U.out.trans j);clear j g;rw[N] at F ⊢;go_wp2_with (at_builtin;refine append_bits rfl _ _ rfl (w0:=w0) (.slice (some ⟨w5.heap.size,0,none⟩) 1 1) (.slice p6 8 D) ([.bit (nIsMatch f c.place) 0 0]) (T) rfl rfl O.out F.out FB.out.size (by rw[N];simp) ?_;intro p7 Z n7 w7 b3 K M;have s:=Hd K;have p:=Hd (FB.out.trans' M (fun i h1 h2=>by have:=O.out.new i h2;omega));clear K M b3);exact q.out _ _ p.out (fun _=>⟨_,rfl,by rw[a1.out];exact s.out⟩) (fun h=>absurd rfl h)
  ·have r:L=([.bit (nIsMatch f c.place) 0 1]++whichNb c 0)++[.bit (nIsLong f c.place) 0 0]:=by rw[a2.out,if_neg (by decide),if_neg (by decide),if_neg (by decide)]
   have N:=whichNb_len c 0;have a3:=Hd (fun W u=>f5.out W 0 0 rfl (by decide) u);obtain⟨T,hT⟩:∃T,T=whichNb c 0:=⟨_,rfl⟩;rw[←hT] at r N a3;have a1:=Hd r;have O:=Hd (BL.made (w0:=w0) (l:=[.bit (nIsMatch f c.place) 0 1]) (n:=1) (heap_alloc_new w5 (.cells #[bstr (num (num sIsMatch f) c.place),.int .i64 0,.int .i64 1] 178)) rfl P.out.size (by simp));have U:=Hd (P.out.alloc (.cells #[bstr (num (num sIsMatch f) c.place),.int .i64 0,.int .i64 1] 178));clear r hT a2;go_wp2_with fail;refine(a3.out _ U.out).mono ?_;rintro e w6 ⟨v6,rfl,j,g⟩;obtain⟨p6,D,rfl⟩:=g.slice;have F:=Hd (BL.older g U.out.size);have O:=Hd (O.out.keep j);have FB:=Hd (U.out.trans j);clear j g;obtain⟨Y,t⟩:∃Y,T.length=Y:=⟨_,rfl⟩;rw[t] at F N ⊢;go_wp2_with (first
    |(at_builtin;refine append_bits rfl _ _ rfl (w0:=w0) (.slice (some ⟨w5.heap.size,0,none⟩) 1 1) (.slice p6 Y D) ([.bit (nIsMatch f c.place) 0 1]) (T) rfl rfl O.out F.out FB.out.size (by rw[t];simp only[List.length_singleton];omega) ?_;intro p7 Z n7 w7 b3 K M;have s:=Hd K;have p:=Hd (FB.out.trans' M (fun i h1 h2=>by have:=O.out.new i h2;omega));clear K M b3;have HC:=Hd (BL.made (w0:=w0) (l:=[.bit (nIsLong f c.place) 0 0]) (n:=1) (heap_alloc_new w7 (.cells #[bstr (num (num sIsLong f) c.place),.int .i64 0,.int .i64 0] 178)) rfl p.out.size (by simp));have s:=Hd (s.out.keep ((R0 w7).alloc (.cells #[bstr (num (num sIsLong f) c.place),.int .i64 0,.int .i64 0] 178)));have p:=Hd (p.out.alloc (.cells #[bstr (num (num sIsLong f) c.place),.int .i64 0,.int .i64 0] 178)))
    |(at_builtin;refine append_bits rfl _ _ rfl (w0:=w0) (.slice p7 n7 Z) (.slice (some ⟨w7.heap.size,0,none⟩) 1 1) ([.bit (nIsMatch f c.place) 0 1]++T) ([.bit (nIsLong f c.place) 0 0]) rfl rfl s.out HC.out p.out.size (by rw[List.length_append,t];simp only[List.length_singleton];omega) ?_;intro p8 a0 n8 w8 c6 I J;have H:=Hd I;have E:=Hd (p.out.trans' J (fun i h1 h2=>by have:=s.out.new i h2;omega));clear I J c6))
   exact q.out _ _ E.out (fun _=>⟨_,rfl,by rw[a1.out];exact H.out⟩) (fun h=>absurd rfl h)
  ·obtain⟨e7,e8,e9⟩:=g9.out hk
   obtain⟨e5,e6⟩:2≤o.toNat∧o.toNat≤273:=c2.out.len (by simp only;omega);rcases hk with rfl|rfl
   ·obtain⟨f8,f9⟩:1≤dist.toNat∧dist.toNat≤4294967295:=c2.out.dist rfl
    have r:L=[.bit (nIsMatch f c.place) 0 1,.bit (nIsRep f) 0 0]++lenNb c 7 o.toNat++distNb o.toNat (slotOf dist.toNat) dist.toNat:=by rw[a2.out,if_neg (by decide),if_pos (by decide)]
    have N:=lenNb_len c 7 o.toNat;have d4:=distNb_len o.toNat (slotOf dist.toNat) dist.toNat (slotOf_in f8 f9).1;have f4:=Hd (fun W u=>g3.out W o o.toNat (by omega) e5 e6 u);have f2:=Hd (fun W=>g2.out W o dist o.toNat dist.toNat (by omega) (by omega) e5 e6 f8 f9);generalize lenNb c 7 o.toNat=T at*;generalize distNb o.toNat (slotOf dist.toNat) dist.toNat=T2 at*;have a1:=Hd r;clear r a2 e7 e8 e9;go_wp2_with fail;refine(g7.out w5.heap.size _ (heap_alloc_new w5 _)).mono ?_;rintro e Q ⟨rfl,rfl⟩;have P:=Hd (P.out.alloc (.cells #[.int .i64 (f:Int)] 3));clear y0 y1 y2 y3;generalize World.alloc w5 _=w5 at*;have O:=Hd (BL.made (w0:=w0) (l:=[.bit (nIsMatch f c.place) 0 1,.bit (nIsRep f) 0 0]) (n:=2) (heap_alloc_new w5 (.cells #[bstr (num (num sIsMatch f) c.place),.int .i64 0,.int .i64 1,bstr (num sIsRep f),.int .i64 0,.int .i64 0] 178)) rfl P.out.size (by simp));have U:=Hd (P.out.alloc (.cells #[bstr (num (num sIsMatch f) c.place),.int .i64 0,.int .i64 1,bstr (num sIsRep f),.int .i64 0,.int .i64 0] 178));obtain⟨_,_,_,_,_,_,y0,y1,y2,y3⟩:=a.out (w5.alloc (.cells #[bstr (num (num sIsMatch f) c.place),.int .i64 0,.int .i64 1,bstr (num sIsRep f),.int .i64 0,.int .i64 0] 178)) U.out;go_wp2_with fail;refine(f4.out _ U.out).mono ?_;rintro e w6 ⟨v6,rfl,j,g⟩;obtain⟨p6,D,rfl⟩:=g.slice;have F:=Hd (BL.older g U.out.size);have O:=Hd (O.out.keep j);have FB:=Hd (U.out.trans j);clear j g y0 y1 y2 y3;obtain⟨Y,t⟩:∃Y,T.length=Y:=⟨_,rfl⟩;rw[t] at F N ⊢;go_wp2_with (at_builtin;refine append_bits rfl _ _ rfl (w0:=w0) (.slice (some ⟨w5.heap.size,0,none⟩) 2 2) (.slice p6 Y D) ([.bit (nIsMatch f c.place) 0 1,.bit (nIsRep f) 0 0]) (T) rfl rfl O.out F.out FB.out.size (by rw[t];simp only[List.length_cons,List.length_nil];omega) ?_;intro p7 Z n7 w7 b3 K M;have s:=Hd K;have p:=Hd (FB.out.trans' M (fun i h1 h2=>by have:=O.out.new i h2;omega));clear K M b3;obtain⟨_,_,_,_,_,_,y0,y1,y2,y3⟩:=a.out (w7) p.out);refine(f2.out _).mono ?_;rintro e w8 ⟨v8,rfl,J,I⟩;obtain⟨p8,a0,rfl⟩:=I.slice;have H:=Hd (BL.older I p.out.size);have s:=Hd (s.out.keep J);have E:=Hd (p.out.trans J);clear J I y0 y1 y2 y3;obtain⟨c8,G⟩:∃Y,T2.length=Y:=⟨_,rfl⟩;rw[G] at H d4 ⊢;go_wp2_with (at_builtin;refine append_bits rfl _ _ rfl (w0:=w0) (.slice p7 n7 Z) (.slice p8 c8 a0) ([.bit (nIsMatch f c.place) 0 1,.bit (nIsRep f) 0 0]++T) (T2) rfl rfl s.out H.out E.out.size (by rw[List.length_append,t,G];simp only[List.length_cons,List.length_nil];omega) ?_;intro p9 b4 n9 w9 i1 V R;have b0:=Hd V;have a9:=Hd (E.out.trans' R (fun i h1 h2=>by have:=s.out.new i h2;omega));clear V R i1);exact q.out _ _ a9.out (fun _=>⟨_,rfl,by rw[a1.out];exact b0.out⟩) (fun h=>absurd rfl h)
   ·have e4:dist.toNat≤3:=c2.out.rep rfl
    have r:L=(([.bit (nIsMatch f c.place) 0 1]++whichNb c dist.toNat)++(if dist.toNat=0 then[.bit (nIsLong f c.place) 0 1] else[]))++lenNb c 11 o.toNat:=by rw[a2.out,if_neg (by decide),if_neg (by decide),if_pos (by decide)]
    have N:=whichNb_len c dist.toNat;have d4:=lenNb_len c 11 o.toNat;have a3:=Hd (fun W u=>f5.out W dist dist.toNat (by omega) e4 u);have d7:=Hd (fun W u=>g4.out W o o.toNat (by omega) e5 e6 u);generalize whichNb c dist.toNat=T at*;generalize lenNb c 11 o.toNat=T2 at*;have O:=Hd (BL.made (w0:=w0) (l:=[.bit (nIsMatch f c.place) 0 1]) (n:=1) (heap_alloc_new w5 (.cells #[bstr (num (num sIsMatch f) c.place),.int .i64 0,.int .i64 1] 178)) rfl P.out.size (by simp));have U:=Hd (P.out.alloc (.cells #[bstr (num (num sIsMatch f) c.place),.int .i64 0,.int .i64 1] 178));clear a2;obtain⟨_,_,_,_,_,_,y0,y1,y2,y3⟩:=a.out (w5.alloc (.cells #[bstr (num (num sIsMatch f) c.place),.int .i64 0,.int .i64 1] 178)) U.out;by_cases d3:dist.toNat=0
    ·have d8:dist=0:=by omega
     rw[if_pos d3] at r;have a1:=Hd r;clear r e7 e8 e9 d3 e4;subst d8;go_wp2_with fail;refine(a3.out _ U.out).mono ?_;rintro e w6 ⟨v6,rfl,j,g⟩;obtain⟨p6,D,rfl⟩:=g.slice;have F:=Hd (BL.older g U.out.size);have O:=Hd (O.out.keep j);have FB:=Hd (U.out.trans j);clear j g y0 y1 y2 y3;obtain⟨Y,t⟩:∃Y,T.length=Y:=⟨_,rfl⟩;rw[t] at F N ⊢;go_wp2_with (first
      |(at_builtin;refine append_bits rfl _ _ rfl (w0:=w0) (.slice (some ⟨w5.heap.size,0,none⟩) 1 1) (.slice p6 Y D) ([.bit (nIsMatch f c.place) 0 1]) (T) rfl rfl O.out F.out FB.out.size (by rw[t];simp only[List.length_singleton];omega) ?_;intro p7 Z n7 w7 b3 K M;have s:=Hd K;have p:=Hd (FB.out.trans' M (fun i h1 h2=>by have:=O.out.new i h2;omega));clear K M b3;have HC:=Hd (BL.made (w0:=w0) (l:=[.bit (nIsLong f c.place) 0 1]) (n:=1) (heap_alloc_new w7 (.cells #[bstr (num (num sIsLong f) c.place),.int .i64 0,.int .i64 1] 178)) rfl p.out.size (by simp));have f1:=p;have s:=Hd (s.out.keep ((R0 w7).alloc (.cells #[bstr (num (num sIsLong f) c.place),.int .i64 0,.int .i64 1] 178)));have p:=Hd (p.out.alloc (.cells #[bstr (num (num sIsLong f) c.place),.int .i64 0,.int .i64 1] 178));obtain⟨_,_,_,_,_,_,y0,y1,y2,y3⟩:=a.out (w7) f1.out)
      |(at_builtin;refine append_bits rfl _ _ rfl (w0:=w0) (.slice p7 n7 Z) (.slice (some ⟨w7.heap.size,0,none⟩) 1 1) ([.bit (nIsMatch f c.place) 0 1]++T) ([.bit (nIsLong f c.place) 0 1]) rfl rfl s.out HC.out p.out.size (by rw[List.length_append,t];simp only[List.length_singleton];omega) ?_;intro p8 a0 n8 w8 c6 I J;have H:=Hd I;have E:=Hd (p.out.trans' J (fun i h1 h2=>by have:=s.out.new i h2;omega));clear I J c6;obtain⟨_,_,_,_,_,_,y0,y1,y2,y3⟩:=a.out (w8) E.out))
     refine(d7.out _ E.out).mono ?_;rintro e w9 ⟨v9,rfl,R,V⟩;obtain⟨p9,b4,rfl⟩:=V.slice;have b0:=Hd (BL.older V E.out.size);have H:=Hd (H.out.keep R);have a9:=Hd (E.out.trans R);clear R V y0 y1 y2 y3;obtain⟨c8,G⟩:∃Y,T2.length=Y:=⟨_,rfl⟩;rw[G] at b0 d4 ⊢;go_wp2_with (at_builtin;refine append_bits rfl _ _ rfl (w0:=w0) (.slice p8 n8 a0) (.slice p9 c8 b4) ([.bit (nIsMatch f c.place) 0 1]++T++[.bit (nIsLong f c.place) 0 1]) (T2) rfl rfl H.out b0.out a9.out.size (by rw[List.length_append,List.length_append,t,G];simp only[List.length_singleton];omega) ?_;intro i5 e3 i4 i6 c5 a6 a8;have c1:=Hd a6;have c0:=Hd (a9.out.trans' a8 (fun i h1 h2=>by have:=H.out.new i h2;omega));clear a6 a8 c5);exact q.out _ _ c0.out (fun _=>⟨_,rfl,by rw[a1.out];exact c1.out⟩) (fun h=>absurd rfl h)
    ·have d8:(dist==0)=false:=by rw[beq_eq_false_iff_ne];omega
     rw[if_neg d3,List.append_nil] at r;have a1:=Hd r;clear r e7 e8 e9 d3 e4;go_wp2_with fail;refine(a3.out _ U.out).mono ?_;rintro e w6 ⟨v6,rfl,j,g⟩;obtain⟨p6,D,rfl⟩:=g.slice;have F:=Hd (BL.older g U.out.size);have O:=Hd (O.out.keep j);have FB:=Hd (U.out.trans j);clear j g y0 y1 y2 y3;obtain⟨Y,t⟩:∃Y,T.length=Y:=⟨_,rfl⟩;rw[t] at F N ⊢;go_wp2_with (at_builtin;refine append_bits rfl _ _ rfl (w0:=w0) (.slice (some ⟨w5.heap.size,0,none⟩) 1 1) (.slice p6 Y D) ([.bit (nIsMatch f c.place) 0 1]) (T) rfl rfl O.out F.out FB.out.size (by rw[t];simp only[List.length_singleton];omega) ?_;intro p8 a0 n8 w8 c6 I J;have H:=Hd I;have E:=Hd (FB.out.trans' J (fun i h1 h2=>by have:=O.out.new i h2;omega));clear I J c6;obtain⟨_,_,_,_,_,_,y0,y1,y2,y3⟩:=a.out (w8) E.out);refine(d7.out _ E.out).mono ?_;rintro e w9 ⟨v9,rfl,R,V⟩;obtain⟨p9,b4,rfl⟩:=V.slice;have b0:=Hd (BL.older V E.out.size);have H:=Hd (H.out.keep R);have a9:=Hd (E.out.trans R);clear R V y0 y1 y2 y3;obtain⟨c8,G⟩:∃Y,T2.length=Y:=⟨_,rfl⟩;rw[G] at b0 d4 ⊢;go_wp2_with (at_builtin;refine append_bits rfl _ _ rfl (w0:=w0) (.slice p8 n8 a0) (.slice p9 c8 b4) ([.bit (nIsMatch f c.place) 0 1]++T) (T2) rfl rfl H.out b0.out a9.out.size (by rw[List.length_append,t,G];simp only[List.length_singleton];omega) ?_;intro i5 e3 i4 i6 c5 a6 a8;have c1:=Hd a6;have c0:=Hd (a9.out.trans' a8 (fun i h1 h2=>by have:=H.out.new i h2;omega));clear a6 a8 c5);exact q.out _ _ c0.out (fun _=>⟨_,rfl,by rw[a1.out];exact c1.out⟩) (fun h=>absurd rfl h)
end Rf
end Go.Proofs.YtffoddpjfgjelaaGreatDoor
