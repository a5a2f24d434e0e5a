/- Part 45 of 54: lemmas of the last part, each under the conditions that it names. -/
import Derived.Deep.RegionHeld3
import Derived.Deep.CutBlock
import Derived.Deep.DeepCutAuto
import Derived.Test.YtlgccpjccopdmaaGreatDoorP21
import Derived.Test.YtlgccpjccopdmaaGreatDoorP39
import Derived.Test.YtlgccpjccopdmaaGreatDoorP44
set_option linter.unusedVariables false
set_option linter.unusedSimpArgs false
set_option maxRecDepth 1500
set_option maxHeartbeats 16000000
namespace Go.Proofs.YtlgccpjccopdmaaGreatDoor
open Go.RowKit
namespace Rf
open Mem Rc Prob St Lz Win En Ga
theorem litNb_len(c:C)(b:Nat):(litNb c b).length=8:=by
 unfold litNb
 split
 ·exact treeNb_len ..
 ·exact matNb_len ..
theorem lenNb_len(c:C)(q n:Nat):(lenNb c q n).length≤10:=by
 unfold lenNb
 split
 ·rw[List.length_append,treeNb_len];simp
 ·split
  ·rw[List.length_append,List.length_append,treeNb_len];simp
  ·rw[List.length_append,List.length_append,treeNb_len];simp
theorem whichNb_len(c:C)(i:Nat):(whichNb c i).length≤4:=by
 unfold whichNb
 split
 ·simp
 ·split
  ·simp
  ·split<;>simp
theorem distNb_len(n slot d:Nat)(h:slot<64):(distNb n slot d).length≤40:=by
 have hr:=(range_le ⟨slot,h⟩).2.1
 simp only at hr
 unfold distNb restNb
 rw[List.length_append,treeNb_len]
 split
 ·simp
 ·split
  ·rw[treeNb_len];omega
  ·rw[List.length_append,treeNb_len,halvesNb_len];omega
def BitsPost(c:C)(z:Sz)(w:World)(e:Ending)(w':World):Prop:=
 Fr (fun _=>False) w w'∧if(applyZ c.size c.all c.s z).1=0 then∃v,e=.returned (.tuple #[v,.int .i64 0])∧BL w w' v (symNb c z.sy) else e=.returned (.tuple #[.slice none 0 0,.int .i64 (applyZ c.size c.all c.s z).1])
theorem try_calls(V size:Nat)(av:Value)(all:List UInt8)(s:S)(hs:s.Ok)(z:Sz)(hb:z.byte<256)(w:World)(h:WAt w V av size all)(hmuch:all.length+273≤70368744177664):
 Calls Tryz.prog 82 #[ptr V,.agg s.cells,.agg z.cells] w fun e w'=>∃v s',e=.returned (.tuple #[v,.agg (S.cells s'),.int .i64 (applyZ size all s z).1])∧Fr (fun k=>k=V∨av.ownBlock=some k) w w':=by
 refine(rapplyz_calls V size av all s hs z hb w h hmuch).mono ?_
 intro e w' hp
 unfold AppPostZ at hp
 by_cases h0:(applyZ size all s z).1=0
 ·rw[if_pos h0] at hp
  obtain⟨v,rfl,hok⟩:=hp
  exact⟨v,_,by rw[h0];rfl,hok.fr⟩
 ·rw[if_neg h0] at hp
  obtain⟨rfl,hf⟩:=hp
  exact⟨_,S.zero,rfl,hf.mono (fun _ _ h=>h.elim)⟩
set_option maxRecDepth 100000 in
theorem bits14_calls{l:RL}{c:C}{ps:Nat→List Nat}{w:World}(h:Cod w l c ps)(z:Sz)(hb:z.byte<256)(hmuch:c.all.length+273≤70368744177664):
 Calls Tryz.prog 78 #[ptr l.K,.agg z.cells] w (BitsPost c z w):=by
 have hso:=h.okc.s
 have hpl:=h.okc.place
 have hnum:c.s.num<12:=hso.num
 obtain⟨er,her⟩:∃er,er=(applyZ c.size c.all c.s z).1:=⟨_,rfl⟩
 have hgood:er=0→z.bad=0∧May c z.sy∧(z.kind=1∨z.kind=4∨(z.kind=2∨z.kind=3))∧((z.kind=2∨z.kind=3)→(z.sy.len:Int)=z.len∧(z.sy.dist:Int)=z.dist∧(z.sy.kind:Int)=z.kind):=fun h0=>by
  have hbad:z.bad=0:=by
   rw[her] at h0
   unfold applyZ at h0
   by_cases hz:z.bad=0
   ·exact hz
   ·rw[if_neg hz] at h0
    exact h0
  have hm:=may_of (c:=c) hbad hb
  refine⟨hbad,hm,?_,Sz.same hbad⟩
  have hk:=hm.kind
  unfold Sz.sy at hk
  simp only at hk
  omega
 have h0w:=(Fr.refl (fun _=>False) w).alloc (.cells z.cells 96)
 have hYB:=heap_alloc_new w (.cells z.cells 96)
 have hzs:w.heap.size<(w.alloc (.cells z.cells 96)).heap.size:=by simp
 obtain⟨w0,hw0⟩:∃w0,w0=w.alloc (.cells z.cells 96):=⟨_,rfl⟩
 have H0:=Hd (h.keep h0w)
 rw[←hw0] at h0w hYB hzs H0
 have HFK:=Hd (show∀W,Fr (fun _=>False) w0 W→Calls Tryz.prog 73 #[ptr l.V] W _ from fun W hW=>wfork_calls l.V c.size l.av c.all W ⟨(H0.out.keep hW).v,(H0.out.keep hW).all⟩ (by omega))
 have HAP:=Hd (show∀(V':Nat)(av':Value) W,WAt W V' av' c.size c.all→Calls Tryz.prog 82 #[ptr V',.agg c.s.cells,.agg z.cells] W (fun e w'=>∃v s',e=.returned (.tuple #[v,.agg (S.cells s'),.int .i64 er])∧Fr (fun k=>k=V'∨av'.ownBlock=some k) W w') from fun V' av' W hW=>by rw[her];exact try_calls V' c.size av' c.all c.s hso z hb W hW hmuch)
 have HPOST:=Hd (show∀e w',Fr (fun _=>False) w0 w'→(er=0→∃v,e=.returned (.tuple #[v,.int .i64 0])∧BL w0 w' v (symNb c z.sy))→(er≠0→e=.returned (.tuple #[.slice none 0 0,.int .i64 er]))→BitsPost c z w e w' from fun e w' h1 h2 h3=>by
  refine⟨h0w.trans h1,?_⟩
  rw[←her]
  by_cases h0:er=0
  ·rw[if_pos h0]
   obtain⟨v,hv,hbl⟩:=h2 h0
   exact⟨v,hv,hbl.older h0w.size⟩
  ·rw[if_neg h0]
   exact h3 h0)
 have HPL:=Hd (show∀W,Fr (fun _=>False) w0 W→Calls Tryz.prog 126 #[ptr l.K] W _ from fun W hW=>Rf.place_calls (H0.out.keep hW))
 have HLT:=Hd (show∀W,Fr (fun _=>False) w0 W→Calls Tryz.prog 128 #[ptr l.K,.int .i64 z.byte] W _ from fun W hW=>literal14_calls (H0.out.keep hW) z.byte hb)
 have HLM:=Hd (show∀W(x:Int)(n:Nat),x=(n:Int)→2≤n→n≤273→Fr (fun _=>False) w0 W→Calls Tryz.prog 129 #[ptr l.K,bstr [77,97,116,99,104],.int .i64 x] W (fun e w'=>∃v,e=.returned v∧Fr (fun _=>False) W w'∧BL W w' v (lenNb c 7 n)) from fun W x n hx h1 h2 hW=>by rw[hx];exact length14_calls (H0.out.keep hW) 7 (.inl rfl) n h1 h2)
 have HLR:=Hd (show∀W(x:Int)(n:Nat),x=(n:Int)→2≤n→n≤273→Fr (fun _=>False) w0 W→Calls Tryz.prog 129 #[ptr l.K,bstr [82,101,112],.int .i64 x] W (fun e w'=>∃v,e=.returned v∧Fr (fun _=>False) W w'∧BL W w' v (lenNb c 11 n)) from fun W x n hx h1 h2 hW=>by rw[hx];exact length14_calls (H0.out.keep hW) 11 (.inr rfl) n h1 h2)
 have HRP:=Hd (show∀W(x:Int)(i:Nat),x=(i:Int)→i≤3→Fr (fun _=>False) w0 W→Calls Tryz.prog 131 #[ptr l.K,.int .i64 x] W (fun e w'=>∃v,e=.returned v∧Fr (fun _=>False) W w'∧BL W w' v (whichNb c i)) from fun W x i hx h1 hW=>by rw[hx];exact rep14_calls (H0.out.keep hW) i h1)
 have HDI:=Hd (show∀W(x y:Int)(n d:Nat),x=(n:Int)→y=(d:Int)→2≤n→n≤273→1≤d→d≤4294967295→Calls Tryz.prog 130 #[.int .i64 x,.int .i64 y] W (fun e w'=>∃v,e=.returned v∧Fr (fun _=>False) W w'∧BL W w' v (distNb n (slotOf d) d)) from fun W x y n d hx hy h1 h2 h3 h4=>by rw[hx,hy];exact distance14_calls n d h1 h2 h3 h4 W)
 have HNI:=Hd (fun(B:Nat)(W:World)(hB:W.heap[B]? =some (.cells #[.int .i64 c.s.num,.int .i64 c.place] 3 (0,0)))=>name2_calls sIsMatch c.s.num c.place B (by decide) (by omega) (by omega) W hB)
 have HNL:=Hd (fun(B:Nat)(W:World)(hB:W.heap[B]? =some (.cells #[.int .i64 c.s.num,.int .i64 c.place] 3 (0,0)))=>name2_calls sIsLong c.s.num c.place B (by decide) (by omega) (by omega) W hB)
 have HNR:=Hd (fun(B:Nat)(W:World)(hB:W.heap[B]? =some (.cells #[.int .i64 c.s.num] 3 (0,0)))=>name_calls sIsRep c.s.num B (by decide) (by omega) W hB)
 have HGOOD:=Hd hgood
 have HSY:z.sy=z.sy:=rfl
 obtain⟨L,hL⟩:∃L,L=symNb c z.sy:=⟨_,rfl⟩
 rw[←hL] at HPOST
 obtain⟨post,hpost⟩:∃post,post=BitsPost c z w:=⟨_,rfl⟩
 rw[←hpost] at HPOST ⊢
 unfold symNb at hL
 have HL:=Hd hL
 clear her hgood HSY hL hpost hso hpl hnum hmuch h
 obtain⟨kind,byte,len,dist⟩:=z
 unfold Sz.cells S.cells Sz.sy at*
 simp only at HAP HLT HGOOD HL hb hw0 hYB ⊢
 generalize hcs:c.s=cs at*
 obtain⟨sn,r0,r1,r2,r3⟩:=cs
 simp only at*
 have HKEEP:=Hd (show∀W,Fr (fun _=>False) w0 W→W.cell? ⟨l.K,3,none⟩=some (ptr l.V)∧W.cell? ⟨l.K,4,none⟩=some (.int .i64 sn)∧W.cell? ⟨l.K,5,none⟩=some (.int .i64 r0)∧W.cell? ⟨l.K,6,none⟩=some (.int .i64 r1)∧W.cell? ⟨l.K,7,none⟩=some (.int .i64 r2)∧W.cell? ⟨l.K,8,none⟩=some (.int .i64 r3)∧W.cell? ⟨w.heap.size,0,none⟩=some (.int .i64 kind)∧W.cell? ⟨w.heap.size,1,none⟩=some (.int .u8 byte)∧W.cell? ⟨w.heap.size,2,none⟩=some (.int .i64 len)∧W.cell? ⟨w.heap.size,3,none⟩=some (.int .i64 dist) from fun W hW=>by
  have hc:=(H0.out.keep hW).cells
  have hy:=hW.keep hYB (fun h=>h)
  have h4:=hc.p4
  have h5:=hc.p5
  have h6:=hc.p6
  have h7:=hc.p7
  have h8:=hc.p8
  rw[hcs] at h4 h5 h6 h7 h8
  exact⟨hc.p3,h4,h5,h6,h7,h8,cell_in hy rfl,cell_in hy rfl,cell_in hy rfl,cell_in hy rfl⟩)
 clear hYB H0
 go_enter Tryz.func78,Tryz.ntmps78
 go_upto_region 1 with fail
 rw[←hw0]
 generalize hzz:w.heap.size=zz at*
 clear hw0
 have FC:=Hd (Fr.refl (fun _=>False) w0).drew
 have HSC:=Hd (HKEEP.out _ FC.out)
 go_region_held3 (fun W=>W.cell? ⟨l.K,3,none⟩=some (ptr l.V)∧W.cell? ⟨l.K,4,none⟩=some (.int .i64 sn)∧W.cell? ⟨l.K,5,none⟩=some (.int .i64 r0)∧W.cell? ⟨l.K,6,none⟩=some (.int .i64 r1)∧W.cell? ⟨l.K,7,none⟩=some (.int .i64 r2)∧W.cell? ⟨l.K,8,none⟩=some (.int .i64 r3)∧W.cell? ⟨zz,0,none⟩=some (.int .i64 kind)∧W.cell? ⟨zz,1,none⟩=some (.int .u8 byte)∧W.cell? ⟨zz,2,none⟩=some (.int .i64 len)∧W.cell? ⟨zz,3,none⟩=some (.int .i64 dist))
  (first|with_reducible exact HSC.out|(refine HKEEP.out _ ?_;first|exact FC.out|exact FC.out.alloc _|(refine FC.out.trans' (T:=fun k=>w0.heap.size≤k) ?_ (fun i h1 h2=>by omega);(repeat refine Fr.setCell ?_ (.inl HZN.out) _);exact Fr.refl _ _))) ((first
  | (go_at_call 73
     first
      | (refine (HFK.out _ FC.out).mono ?_
         rintro e wf ⟨V',av',rfl,hff,hW,hVn,han⟩
         have HW:=Hd hW
         have HVN:=Hd (And.intro (Nat.le_trans FC.out.size hVn) (fun k(hk:av'.ownBlock=some k)=>Nat.le_trans FC.out.size (han k hk)))
         have FC:=Hd (FC.out.trans hff)
         have HSC:=Hd (HKEEP.out _ FC.out)
         clear hff hW hVn han)
      | (refine (HFK.out _ (FC.out.alloc _)).mono ?_
         rintro e wf ⟨V',av',rfl,hff,hW,hVn,han⟩
         have hz:=hff.keep (heap_alloc_new _ _) (fun h=>h)
         have HZN:=Hd FC.out.size
         try simp only[World.size_drew] at HZN
         try simp only[World.size_drew] at hz
         obtain⟨s0,s1,s2,s3,s4,sf⟩:=cf5 hz rfl rfl rfl rfl rfl
         have HSZ:=Hd hz
         have HW:=Hd hW
         have HZV:=Hd (And.intro hVn han)
         try simp only[World.size_alloc,World.size_drew] at HZV
         have HVN:=Hd (And.intro (Nat.le_trans (FC.out.alloc _).size hVn) (fun k(hk:av'.ownBlock=some k)=>Nat.le_trans (FC.out.alloc _).size (han k hk)))
         have FC:=Hd ((FC.out.alloc _).trans hff)
         have HSC:=Hd (HKEEP.out _ FC.out)
         clear hff hW hVn han hz))
  | (go_at_call 82
     first
      | (refine (HAP.out _ _ _ HW.out).mono ?_
         rintro e wa ⟨va,⟨tn,t0,t1,t2,t3⟩,rfl,hfa⟩
         have hz:=hfa.keep HSZ.out (fun e=>by
          rcases e with e|e
          ·have:=HZV.out.1;omega
          ·have:=HZV.out.2 _ e;omega)
         try simp only[World.size_drew] at hz
         obtain⟨s0,s1,s2,s3,s4,sf⟩:=cf5 hz rfl rfl rfl rfl rfl
         have HSZ:=Hd hz
         have FC:=Hd (FC.out.trans' hfa (fun i h1 h2=>by
          rcases h2 with h2|h2
          ·have:=HVN.out.1;omega
          ·have:=HVN.out.2 i h2;omega))
         have HSC:=Hd (HKEEP.out _ FC.out)
         clear hfa)
      | (refine (HAP.out _ _ _ HW.out).mono ?_
         rintro e wa ⟨va,⟨tn,t0,t1,t2,t3⟩,rfl,hfa⟩
         have FC:=Hd (FC.out.trans' hfa (fun i h1 h2=>by
          rcases h2 with h2|h2
          ·have:=HVN.out.1;omega
          ·have:=HVN.out.2 i h2;omega))
         have HSC:=Hd (HKEEP.out _ FC.out)
         clear hfa)
      | (refine (HAP.out _ _ _ (HW.out.keep ((Fr.refl (fun _ => False) _).alloc _))).mono ?_
         rintro e wa ⟨va,⟨tn,t0,t1,t2,t3⟩,rfl,hfa⟩
         have HZN:=Hd FC.out.size
         try simp only[World.size_drew] at HZN
         have hz:=hfa.keep (heap_alloc_new _ _) (fun e=>by
          rcases e with e|e
          ·have:=HW.out.lt.1;omega
          ·have:=HW.out.lt.2 _ e;omega)
         try simp only[World.size_drew] at hz
         obtain⟨s0,s1,s2,s3,s4,sf⟩:=cf5 hz rfl rfl rfl rfl rfl
         have HSZ:=Hd hz
         have FC:=Hd ((FC.out.alloc _).trans' hfa (fun i h1 h2=>by
          rcases h2 with h2|h2
          ·have:=HVN.out.1;omega
          ·have:=HVN.out.2 i h2;omega))
         have HSC:=Hd (HKEEP.out _ FC.out)
         clear hfa))))
 focus
  have FW:=Hd (FC.out.alloc (.cells #[.int .i64 (tn:Int),.int .i64 (t0:Int),.int .i64 (t1:Int),.int .i64 (t2:Int),.int .i64 (t3:Int)] 89))
  generalize World.alloc wa _=w2 at*
 rotate_left
 focus
  have FW:=Hd (FC.out.trans' (five_fr wa wf.heap.size (.int .i64 (tn:Int)) (.int .i64 (t0:Int)) (.int .i64 (t1:Int)) (.int .i64 (t2:Int)) (.int .i64 (t3:Int))) (fun i h1 h2=>by have:=HZN.out;omega))
  generalize World.setCell (World.setCell (World.setCell (World.setCell (World.setCell wa _ _) _ _) _ _) _ _) _ _=w2 at*
 rotate_left
 focus
  have FW:=Hd (FC.out.trans' (five_fr wa w0.heap.size (.int .i64 (tn:Int)) (.int .i64 (t0:Int)) (.int .i64 (t1:Int)) (.int .i64 (t2:Int)) (.int .i64 (t3:Int))) (fun i h1 h2=>by have:=HZN.out;omega))
  generalize World.setCell (World.setCell (World.setCell (World.setCell (World.setCell wa _ _) _ _) _ _) _ _) _ _=w2 at*
 rotate_left
 all_goals
  by_cases h0:er=0
  case neg=>
   have t0:((er:Int) !=0)=true:=by simp[h0]
   go_wp2_with fail
   exact HPOST.out _ _ FW.out (fun h=>absurd h h0) (fun _=>rfl)
  subst h0
  have t0:(((0:Nat):Int) !=0)=false:=rfl
  obtain⟨hbad,hmay,hk,hsm⟩:=HGOOD.out rfl
  have HMAY:=Hd hmay
  have HSM:=Hd hsm
  have hIS:∀b,isNb c b=.bit (nIsMatch sn c.place) 0 b:=fun b=>by unfold isNb;rw[hcs]
  have hLG:∀b,longNb c b=.bit (nIsLong sn c.place) 0 b:=fun b=>by unfold longNb;rw[hcs]
  have hL:=HL.out
  simp only[hIS,hLG,hcs] at hL
  have HL2:=Hd hL
  clear hbad hmay hsm hIS hLG hL HL HGOOD
  obtain⟨k3,k4,k5,k6,k7,k8,y0,y1,y2,y3⟩:=HKEEP.out w2 FW.out
  go_wp2_with fail
  refine(HPL.out _ FW.out).mono ?_
  rintro e w' ⟨rfl,m,rfl⟩
  have FW:=Hd (FW.out.drewN m)
  clear k3 k4 k5 k6 k7 k8 y0 y1 y2 y3
  generalize w2.drewN m=w3 at*
  go_wp2_with fail
  refine(HNI.out w3.heap.size _ (heap_alloc_new w3 _)).mono ?_
  rintro e w' ⟨rfl,rfl⟩
  have FW:=Hd (FW.out.alloc (.cells #[.int .i64 (sn:Int),.int .i64 (c.place:Int)] 3))
  generalize World.alloc w3 _=w4 at*
  go_wp2_with fail
  refine(HNL.out w4.heap.size _ (heap_alloc_new w4 _)).mono ?_
  rintro e w' ⟨rfl,rfl⟩
  have FW:=Hd (FW.out.alloc (.cells #[.int .i64 (sn:Int),.int .i64 (c.place:Int)] 3))
  generalize World.alloc w4 _=w5 at*
  obtain⟨_,_,_,_,_,_,y0,y1,y2,y3⟩:=HKEEP.out (w5) FW.out
  rcases hk with rfl|rfl|hk
  ·have hLL:L=[.bit (nIsMatch sn c.place) 0 0]++litNb c byte:=by rw[HL2.out,if_pos (by decide)]
   have hln:=litNb_len c byte
   obtain⟨T,hT⟩:∃T,T=litNb c byte:=⟨_,rfl⟩
   rw[←hT] at hLL hln HLT
   have HLL:=Hd hLL
   have HA:=Hd (BL.made (w0:=w0) (l:=[.bit (nIsMatch sn c.place) 0 0]) (n:=1) (heap_alloc_new w5 (.cells #[bstr (num (num sIsMatch sn) c.place),.int .i64 0,.int .i64 0] 156)) rfl FW.out.size (by simp))
   have FA:=Hd (FW.out.alloc (.cells #[bstr (num (num sIsMatch sn) c.place),.int .i64 0,.int .i64 0] 156))
   obtain⟨_,_,_,_,_,_,y0,y1,y2,y3⟩:=HKEEP.out (w5.alloc (.cells #[bstr (num (num sIsMatch sn) c.place),.int .i64 0,.int .i64 0] 156)) FA.out
   clear hLL hT HL2
   go_wp2_with fail
   refine(HLT.out _ FA.out).mono ?_
   rintro e w6 ⟨v6,rfl,hf6,hb6⟩
   obtain⟨p6,cap6,rfl⟩:=hb6.slice
   have HB6:=Hd (BL.older hb6 FA.out.size)
   have HA:=Hd (HA.out.keep hf6)
   have FB:=Hd (FA.out.trans hf6)
   clear hf6 hb6
   rw[hln] at HB6 ⊢
   go_wp2_with (at_builtin;refine append_bits rfl _ _ rfl (w0:=w0) (.slice (some ⟨w5.heap.size,0,none⟩) 1 1) (.slice p6 8 cap6) ([.bit (nIsMatch sn c.place) 0 0]) (T) rfl rfl HA.out HB6.out FB.out.size (by rw[hln];simp) ?_;intro p7 cap7 n7 w7 hn7 hb7 hf7;have HB7:=Hd hb7;have FW7:=Hd (FB.out.trans' hf7 (fun i h1 h2=>by have:=HA.out.new i h2;omega));clear hb7 hf7 hn7)
   exact HPOST.out _ _ FW7.out (fun _=>⟨_,rfl,by rw[HLL.out];exact HB7.out⟩) (fun h=>absurd rfl h)
  ·have hLL:L=([.bit (nIsMatch sn c.place) 0 1]++whichNb c 0)++[.bit (nIsLong sn c.place) 0 0]:=by rw[HL2.out,if_neg (by decide),if_neg (by decide),if_neg (by decide)]
   have hln:=whichNb_len c 0
   have HRP0:=Hd (fun W hW=>HRP.out W 0 0 rfl (by decide) hW)
   obtain⟨T,hT⟩:∃T,T=whichNb c 0:=⟨_,rfl⟩
   rw[←hT] at hLL hln HRP0
   have HLL:=Hd hLL
   have HA:=Hd (BL.made (w0:=w0) (l:=[.bit (nIsMatch sn c.place) 0 1]) (n:=1) (heap_alloc_new w5 (.cells #[bstr (num (num sIsMatch sn) c.place),.int .i64 0,.int .i64 1] 156)) rfl FW.out.size (by simp))
   have FA:=Hd (FW.out.alloc (.cells #[bstr (num (num sIsMatch sn) c.place),.int .i64 0,.int .i64 1] 156))
   clear hLL hT HL2
   go_wp2_with fail
   refine(HRP0.out _ FA.out).mono ?_
   rintro e w6 ⟨v6,rfl,hf6,hb6⟩
   obtain⟨p6,cap6,rfl⟩:=hb6.slice
   have HB6:=Hd (BL.older hb6 FA.out.size)
   have HA:=Hd (HA.out.keep hf6)
   have FB:=Hd (FA.out.trans hf6)
   clear hf6 hb6
   obtain⟨tl,htl⟩:∃tl,T.length=tl:=⟨_,rfl⟩
   rw[htl] at HB6 hln ⊢
   go_wp2_with (first
    |(at_builtin;refine append_bits rfl _ _ rfl (w0:=w0) (.slice (some ⟨w5.heap.size,0,none⟩) 1 1) (.slice p6 tl cap6) ([.bit (nIsMatch sn c.place) 0 1]) (T) rfl rfl HA.out HB6.out FB.out.size (by rw[htl];simp only[List.length_singleton];omega) ?_;intro p7 cap7 n7 w7 hn7 hb7 hf7;have HB7:=Hd hb7;have FW7:=Hd (FB.out.trans' hf7 (fun i h1 h2=>by have:=HA.out.new i h2;omega));clear hb7 hf7 hn7;have HC:=Hd (BL.made (w0:=w0) (l:=[.bit (nIsLong sn c.place) 0 0]) (n:=1) (heap_alloc_new w7 (.cells #[bstr (num (num sIsLong sn) c.place),.int .i64 0,.int .i64 0] 156)) rfl FW7.out.size (by simp));have HB7:=Hd (HB7.out.keep ((Fr.refl (fun _=>False) w7).alloc (.cells #[bstr (num (num sIsLong sn) c.place),.int .i64 0,.int .i64 0] 156)));have FW7:=Hd (FW7.out.alloc (.cells #[bstr (num (num sIsLong sn) c.place),.int .i64 0,.int .i64 0] 156)))
    |(at_builtin;refine append_bits rfl _ _ rfl (w0:=w0) (.slice p7 n7 cap7) (.slice (some ⟨w7.heap.size,0,none⟩) 1 1) ([.bit (nIsMatch sn c.place) 0 1]++T) ([.bit (nIsLong sn c.place) 0 0]) rfl rfl HB7.out HC.out FW7.out.size (by rw[List.length_append,htl];simp only[List.length_singleton];omega) ?_;intro p8 cap8 n8 w8 hn8 hb8 hf8;have HB8:=Hd hb8;have FW8:=Hd (FW7.out.trans' hf8 (fun i h1 h2=>by have:=HB7.out.new i h2;omega));clear hb8 hf8 hn8))
   exact HPOST.out _ _ FW8.out (fun _=>⟨_,rfl,by rw[HLL.out];exact HB8.out⟩) (fun h=>absurd rfl h)
  ·obtain⟨hs1,hs2,hs3⟩:=HSM.out hk
   obtain⟨hl1,hl2⟩:2≤len.toNat∧len.toNat≤273:=HMAY.out.len (by simp only;omega)
   rcases hk with rfl|rfl
   ·obtain⟨hd1,hd2⟩:1≤dist.toNat∧dist.toNat≤4294967295:=HMAY.out.dist rfl
    have hLL:L=[.bit (nIsMatch sn c.place) 0 1,.bit (nIsRep sn) 0 0]++lenNb c 7 len.toNat++distNb len.toNat (slotOf dist.toNat) dist.toNat:=by rw[HL2.out,if_neg (by decide),if_pos (by decide)]
    have hln:=lenNb_len c 7 len.toNat
    have hdn:=distNb_len len.toNat (slotOf dist.toNat) dist.toNat (slotOf_in hd1 hd2).1
    have HLM0:=Hd (fun W hW=>HLM.out W len len.toNat (by omega) hl1 hl2 hW)
    have HDI0:=Hd (fun W=>HDI.out W len dist len.toNat dist.toNat (by omega) (by omega) hl1 hl2 hd1 hd2)
    generalize lenNb c 7 len.toNat=T at*
    generalize distNb len.toNat (slotOf dist.toNat) dist.toNat=T2 at*
    have HLL:=Hd hLL
    clear hLL HL2 hs1 hs2 hs3
    go_wp2_with fail
    refine(HNR.out w5.heap.size _ (heap_alloc_new w5 _)).mono ?_
    rintro e w' ⟨rfl,rfl⟩
    have FW:=Hd (FW.out.alloc (.cells #[.int .i64 (sn:Int)] 3))
    clear y0 y1 y2 y3
    generalize World.alloc w5 _=w5 at*
    have HA:=Hd (BL.made (w0:=w0) (l:=[.bit (nIsMatch sn c.place) 0 1,.bit (nIsRep sn) 0 0]) (n:=2) (heap_alloc_new w5 (.cells #[bstr (num (num sIsMatch sn) c.place),.int .i64 0,.int .i64 1,bstr (num sIsRep sn),.int .i64 0,.int .i64 0] 156)) rfl FW.out.size (by simp))
    have FA:=Hd (FW.out.alloc (.cells #[bstr (num (num sIsMatch sn) c.place),.int .i64 0,.int .i64 1,bstr (num sIsRep sn),.int .i64 0,.int .i64 0] 156))
    obtain⟨_,_,_,_,_,_,y0,y1,y2,y3⟩:=HKEEP.out (w5.alloc (.cells #[bstr (num (num sIsMatch sn) c.place),.int .i64 0,.int .i64 1,bstr (num sIsRep sn),.int .i64 0,.int .i64 0] 156)) FA.out
    go_wp2_with fail
    refine(HLM0.out _ FA.out).mono ?_
    rintro e w6 ⟨v6,rfl,hf6,hb6⟩
    obtain⟨p6,cap6,rfl⟩:=hb6.slice
    have HB6:=Hd (BL.older hb6 FA.out.size)
    have HA:=Hd (HA.out.keep hf6)
    have FB:=Hd (FA.out.trans hf6)
    clear hf6 hb6 y0 y1 y2 y3
    obtain⟨tl,htl⟩:∃tl,T.length=tl:=⟨_,rfl⟩
    rw[htl] at HB6 hln ⊢
    go_wp2_with (at_builtin;refine append_bits rfl _ _ rfl (w0:=w0) (.slice (some ⟨w5.heap.size,0,none⟩) 2 2) (.slice p6 tl cap6) ([.bit (nIsMatch sn c.place) 0 1,.bit (nIsRep sn) 0 0]) (T) rfl rfl HA.out HB6.out FB.out.size (by rw[htl];simp only[List.length_cons,List.length_nil];omega) ?_;intro p7 cap7 n7 w7 hn7 hb7 hf7;have HB7:=Hd hb7;have FW7:=Hd (FB.out.trans' hf7 (fun i h1 h2=>by have:=HA.out.new i h2;omega));clear hb7 hf7 hn7;obtain⟨_,_,_,_,_,_,y0,y1,y2,y3⟩:=HKEEP.out (w7) FW7.out)
    refine(HDI0.out _).mono ?_
    rintro e w8 ⟨v8,rfl,hf8,hb8⟩
    obtain⟨p8,cap8,rfl⟩:=hb8.slice
    have HB8:=Hd (BL.older hb8 FW7.out.size)
    have HB7:=Hd (HB7.out.keep hf8)
    have FW8:=Hd (FW7.out.trans hf8)
    clear hf8 hb8 y0 y1 y2 y3
    obtain⟨t2l,ht2l⟩:∃tl,T2.length=tl:=⟨_,rfl⟩
    rw[ht2l] at HB8 hdn ⊢
    go_wp2_with (at_builtin;refine append_bits rfl _ _ rfl (w0:=w0) (.slice p7 n7 cap7) (.slice p8 t2l cap8) ([.bit (nIsMatch sn c.place) 0 1,.bit (nIsRep sn) 0 0]++T) (T2) rfl rfl HB7.out HB8.out FW8.out.size (by rw[List.length_append,htl,ht2l];simp only[List.length_cons,List.length_nil];omega) ?_;intro p9 cap9 n9 w9 hn9 hb9 hf9;have HB9:=Hd hb9;have FW9:=Hd (FW8.out.trans' hf9 (fun i h1 h2=>by have:=HB7.out.new i h2;omega));clear hb9 hf9 hn9)
    exact HPOST.out _ _ FW9.out (fun _=>⟨_,rfl,by rw[HLL.out];exact HB9.out⟩) (fun h=>absurd rfl h)
   ·have hd3:dist.toNat≤3:=HMAY.out.rep rfl
    have hLL:L=(([.bit (nIsMatch sn c.place) 0 1]++whichNb c dist.toNat)++(if dist.toNat=0 then[.bit (nIsLong sn c.place) 0 1] else[]))++lenNb c 11 len.toNat:=by rw[HL2.out,if_neg (by decide),if_neg (by decide),if_pos (by decide)]
    have hln:=whichNb_len c dist.toNat
    have hdn:=lenNb_len c 11 len.toNat
    have HRP0:=Hd (fun W hW=>HRP.out W dist dist.toNat (by omega) hd3 hW)
    have HLR0:=Hd (fun W hW=>HLR.out W len len.toNat (by omega) hl1 hl2 hW)
    generalize whichNb c dist.toNat=T at*
    generalize lenNb c 11 len.toNat=T2 at*
    have HA:=Hd (BL.made (w0:=w0) (l:=[.bit (nIsMatch sn c.place) 0 1]) (n:=1) (heap_alloc_new w5 (.cells #[bstr (num (num sIsMatch sn) c.place),.int .i64 0,.int .i64 1] 156)) rfl FW.out.size (by simp))
    have FA:=Hd (FW.out.alloc (.cells #[bstr (num (num sIsMatch sn) c.place),.int .i64 0,.int .i64 1] 156))
    clear HL2
    obtain⟨_,_,_,_,_,_,y0,y1,y2,y3⟩:=HKEEP.out (w5.alloc (.cells #[bstr (num (num sIsMatch sn) c.place),.int .i64 0,.int .i64 1] 156)) FA.out
    by_cases hd0:dist.toNat=0
    ·have hd0':dist=0:=by omega
     rw[if_pos hd0] at hLL
     have HLL:=Hd hLL
     clear hLL hs1 hs2 hs3 hd0 hd3
     subst hd0'
     go_wp2_with fail
     refine(HRP0.out _ FA.out).mono ?_
     rintro e w6 ⟨v6,rfl,hf6,hb6⟩
     obtain⟨p6,cap6,rfl⟩:=hb6.slice
     have HB6:=Hd (BL.older hb6 FA.out.size)
     have HA:=Hd (HA.out.keep hf6)
     have FB:=Hd (FA.out.trans hf6)
     clear hf6 hb6 y0 y1 y2 y3
     obtain⟨tl,htl⟩:∃tl,T.length=tl:=⟨_,rfl⟩
     rw[htl] at HB6 hln ⊢
     go_wp2_with (first
      |(at_builtin;refine append_bits rfl _ _ rfl (w0:=w0) (.slice (some ⟨w5.heap.size,0,none⟩) 1 1) (.slice p6 tl cap6) ([.bit (nIsMatch sn c.place) 0 1]) (T) rfl rfl HA.out HB6.out FB.out.size (by rw[htl];simp only[List.length_singleton];omega) ?_;intro p7 cap7 n7 w7 hn7 hb7 hf7;have HB7:=Hd hb7;have FW7:=Hd (FB.out.trans' hf7 (fun i h1 h2=>by have:=HA.out.new i h2;omega));clear hb7 hf7 hn7;have HC:=Hd (BL.made (w0:=w0) (l:=[.bit (nIsLong sn c.place) 0 1]) (n:=1) (heap_alloc_new w7 (.cells #[bstr (num (num sIsLong sn) c.place),.int .i64 0,.int .i64 1] 156)) rfl FW7.out.size (by simp));have FW70:=FW7;have HB7:=Hd (HB7.out.keep ((Fr.refl (fun _=>False) w7).alloc (.cells #[bstr (num (num sIsLong sn) c.place),.int .i64 0,.int .i64 1] 156)));have FW7:=Hd (FW7.out.alloc (.cells #[bstr (num (num sIsLong sn) c.place),.int .i64 0,.int .i64 1] 156));obtain⟨_,_,_,_,_,_,y0,y1,y2,y3⟩:=HKEEP.out (w7) FW70.out)
      |(at_builtin;refine append_bits rfl _ _ rfl (w0:=w0) (.slice p7 n7 cap7) (.slice (some ⟨w7.heap.size,0,none⟩) 1 1) ([.bit (nIsMatch sn c.place) 0 1]++T) ([.bit (nIsLong sn c.place) 0 1]) rfl rfl HB7.out HC.out FW7.out.size (by rw[List.length_append,htl];simp only[List.length_singleton];omega) ?_;intro p8 cap8 n8 w8 hn8 hb8 hf8;have HB8:=Hd hb8;have FW8:=Hd (FW7.out.trans' hf8 (fun i h1 h2=>by have:=HB7.out.new i h2;omega));clear hb8 hf8 hn8;obtain⟨_,_,_,_,_,_,y0,y1,y2,y3⟩:=HKEEP.out (w8) FW8.out))
     refine(HLR0.out _ FW8.out).mono ?_
     rintro e w9 ⟨v9,rfl,hf9,hb9⟩
     obtain⟨p9,cap9,rfl⟩:=hb9.slice
     have HB9:=Hd (BL.older hb9 FW8.out.size)
     have HB8:=Hd (HB8.out.keep hf9)
     have FW9:=Hd (FW8.out.trans hf9)
     clear hf9 hb9 y0 y1 y2 y3
     obtain⟨t2l,ht2l⟩:∃tl,T2.length=tl:=⟨_,rfl⟩
     rw[ht2l] at HB9 hdn ⊢
     go_wp2_with (at_builtin;refine append_bits rfl _ _ rfl (w0:=w0) (.slice p8 n8 cap8) (.slice p9 t2l cap9) ([.bit (nIsMatch sn c.place) 0 1]++T++[.bit (nIsLong sn c.place) 0 1]) (T2) rfl rfl HB8.out HB9.out FW9.out.size (by rw[List.length_append,List.length_append,htl,ht2l];simp only[List.length_singleton];omega) ?_;intro p10 cap10 n10 w10 hn10 hb10 hf10;have HB10:=Hd hb10;have FW10:=Hd (FW9.out.trans' hf10 (fun i h1 h2=>by have:=HB8.out.new i h2;omega));clear hb10 hf10 hn10)
     exact HPOST.out _ _ FW10.out (fun _=>⟨_,rfl,by rw[HLL.out];exact HB10.out⟩) (fun h=>absurd rfl h)
    ·have hd0':(dist==0)=false:=by rw[beq_eq_false_iff_ne];omega
     rw[if_neg hd0,List.append_nil] at hLL
     have HLL:=Hd hLL
     clear hLL hs1 hs2 hs3 hd0 hd3
     go_wp2_with fail
     refine(HRP0.out _ FA.out).mono ?_
     rintro e w6 ⟨v6,rfl,hf6,hb6⟩
     obtain⟨p6,cap6,rfl⟩:=hb6.slice
     have HB6:=Hd (BL.older hb6 FA.out.size)
     have HA:=Hd (HA.out.keep hf6)
     have FB:=Hd (FA.out.trans hf6)
     clear hf6 hb6 y0 y1 y2 y3
     obtain⟨tl,htl⟩:∃tl,T.length=tl:=⟨_,rfl⟩
     rw[htl] at HB6 hln ⊢
     go_wp2_with (at_builtin;refine append_bits rfl _ _ rfl (w0:=w0) (.slice (some ⟨w5.heap.size,0,none⟩) 1 1) (.slice p6 tl cap6) ([.bit (nIsMatch sn c.place) 0 1]) (T) rfl rfl HA.out HB6.out FB.out.size (by rw[htl];simp only[List.length_singleton];omega) ?_;intro p8 cap8 n8 w8 hn8 hb8 hf8;have HB8:=Hd hb8;have FW8:=Hd (FB.out.trans' hf8 (fun i h1 h2=>by have:=HA.out.new i h2;omega));clear hb8 hf8 hn8;obtain⟨_,_,_,_,_,_,y0,y1,y2,y3⟩:=HKEEP.out (w8) FW8.out)
     refine(HLR0.out _ FW8.out).mono ?_
     rintro e w9 ⟨v9,rfl,hf9,hb9⟩
     obtain⟨p9,cap9,rfl⟩:=hb9.slice
     have HB9:=Hd (BL.older hb9 FW8.out.size)
     have HB8:=Hd (HB8.out.keep hf9)
     have FW9:=Hd (FW8.out.trans hf9)
     clear hf9 hb9 y0 y1 y2 y3
     obtain⟨t2l,ht2l⟩:∃tl,T2.length=tl:=⟨_,rfl⟩
     rw[ht2l] at HB9 hdn ⊢
     go_wp2_with (at_builtin;refine append_bits rfl _ _ rfl (w0:=w0) (.slice p8 n8 cap8) (.slice p9 t2l cap9) ([.bit (nIsMatch sn c.place) 0 1]++T) (T2) rfl rfl HB8.out HB9.out FW9.out.size (by rw[List.length_append,htl,ht2l];simp only[List.length_singleton];omega) ?_;intro p10 cap10 n10 w10 hn10 hb10 hf10;have HB10:=Hd hb10;have FW10:=Hd (FW9.out.trans' hf10 (fun i h1 h2=>by have:=HB8.out.new i h2;omega));clear hb10 hf10 hn10)
     exact HPOST.out _ _ FW10.out (fun _=>⟨_,rfl,by rw[HLL.out];exact HB10.out⟩) (fun h=>absurd rfl h)
end Rf
namespace Rf
open Mem Rc Prob St Lz Win
theorem names_len:names.all (fun a=>decide (a.str.length≤40))=true:=by kernel_rfl
theorem name_len{a:Nm}(ha:a ∈ names):a.str.length≤40:=by simpa using List.all_eq_true.1 names_len a ha
def SetPost(l:RL)(c:C)(ps:Nat→List Nat)(a:Nm)(w:World)(e:Ending)(w':World):Prop:=
 ∃en st',e=.returned (ptr en.b)∧look st' a.str=some en∧Fr (fun k=>k=l.M) w w'∧Cod w' {l with st:=st'} c ps∧∀k,SF l.M st' k→SF l.M l.st k∨w.heap.size≤k
theorem kmF{w:World}{M:Nat}{st:List Ent}(h:KM w M st){k:Nat}{cs:Array Value}{t:TypeId}{fr:Nat×Nat}(hk:w.heap[k]? =some (.cells cs t fr)):¬k=M:=by
 rintro rfl
 obtain⟨D,⟨es,clock,hm,_⟩,_⟩:=h
 rw[hk] at hm
 cases hm
theorem Set_calls{l:RL}{c:C}{ps:Nat→List Nat}{w:World}(h:Cod w l c ps)(a:Nm)(ha:a ∈ names):Calls Tryz.prog 81 #[ptr l.K,bstr a.str] w (SetPost l c ps a w):=by
 have hlen:=name_len ha
 have hseek:=h.sets.km.seek a.str (by simp only[maxLen];omega)
 have hcnt:=h.has.count
 obtain⟨p0,p1,p2,p3,p4,p5,p6,p7,p8,p9,v0,v1⟩:=h.cells
 have H:=Hd h
 clear h
 cases hlk:look l.st a.str with
 |some en=>
   rw[hlk] at hseek
   simp only at hseek
   have HL:=Hd hlk
   clear hlk
   go_enter Tryz.func81,Tryz.ntmps81
   go_wp2_with fail
   go_ret
   exact⟨en,l.st,rfl,HL.out,Fr.refl _ _,H.out,fun k hk=>.inl hk⟩
 |none=>
   rw[hlk] at hseek
   simp only at hseek
   have HL:=Hd hlk
   have HN:=Hd (rset_new w)
   clear hlk
   go_enter Tryz.func81,Tryz.ntmps81
   go_wp2_with fail
   refine HN.out.mono ?_
   rintro e w1 ⟨rfl,hfr,hR⟩
   have H1:=Hd (H.out.keep hfr)
   have HF1:=Hd hfr
   have HR:=Hd hR
   clear p0 p1 p2 p3 p4 p5 p6 p7 p8 p9 v0 v1 hfr hR hseek
   obtain⟨p0,p1,p2,p3,p4,p5,p6,p7,p8,p9,v0,v1⟩:=H1.out.cells
   obtain⟨D,hown,hD,hat⟩:=H1.out.sets.km
   have HD:=Hd hD
   have HAT:=Hd hat
   have hkey:=key_of a.str (by simp only[maxLen];omega)
   clear hD hat
   go_wp2_with (first|(at_mapUpdate;refine wpList_mapUpdate_own _ rfl _ _ _ 90 rfl 9 148 (Maps.string_keyed Tryz.underlying9) Tryz.underlying90 _ l.M l.st.length D rfl hown (by simp only[maxLen];omega) _ _ (.string a.str) rfl rfl hkey (.lit (.int .i64 (w.heap.size+1:Nat))) [] (RV_ptr _) ?_;intro w2 hown2 hg2)|fail)
   have hf12:Fr (fun k=>k=l.M) w1 w2:=(Fr.refl _ w1).grown hg2 (fun k hk=>.inl (Option.some.inj hk).symm)
   have hm1:=kmF H1.out.sets.km HR.out.box
   have hm2:=kmF H1.out.sets.km HR.out.row
   have hR2:=HR.out.step hf12 hm1 hm2
   have hkm:KM w2 l.M (l.st++[⟨a.str,w.heap.size+1,w.heap.size,List.replicate 768 1024⟩]):=KM.add (w:=w1) ⟨a.str,w.heap.size+1,w.heap.size,List.replicate 768 1024⟩ HL.out HD.out HAT.out hown2
   have hsets:=H1.out.sets.add (e:=⟨a.str,w.heap.size+1,w.heap.size,List.replicate 768 1024⟩) hf12 hkm hR2 (.inr (fun f hf=>by have:=(H.out.sets.at' f hf).lt;simp only;omega))
   have hcod:=H1.out.sets' (hf12.mono (fun k _ hk=>.inl hk)) hsets (H1.out.has.add ha HL.out (w.heap.size+1) w.heap.size) H1.out.len H1.out.okp
   have HFF:=Hd ((HF1.out.mono (T:=fun k=>k=l.M) (fun _ _ h=>h.elim)).trans hf12)
   have HCOD:=Hd hcod
   clear hcod hsets hkm hR2 hm1 hm2 hf12 hown hown2 hg2
   go_ret
   refine⟨⟨a.str,w.heap.size+1,w.heap.size,List.replicate 768 1024⟩,_,rfl,?_,HFF.out,HCOD.out,fun k hk=> ?_⟩
   ·rw[look_add _ _ _ HL.out,if_pos rfl]
   ·rcases hk with hk|⟨e,he,hk⟩
    ·exact .inl (.inl hk)
    ·rcases List.mem_append.1 he with he|he
     ·exact .inl (.inr ⟨e,he,hk⟩)
     ·obtain rfl:=List.mem_singleton.1 he
      simp only at hk
      exact .inr (by omega)
end Rf
end Go.Proofs.YtlgccpjccopdmaaGreatDoor
