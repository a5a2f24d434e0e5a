/- Part 37 of 48: lemmas of the last part, each under the conditions that it names. -/
import Derived.Deep.CutBlock
import Derived.Deep.DeepCutAuto
import Derived.Deep.RegionHeld3
import Derived.Test.YtffoddpjfgjelaaGreatDoorQ09
import Derived.Test.YtffoddpjfgjelaaGreatDoorQ30
import Derived.Test.YtffoddpjfgjelaaGreatDoorQ36
set_option linter.unusedVariables false
set_option linter.unusedSimpArgs false
set_option maxRecDepth 1500
set_option maxHeartbeats 4000000
namespace Go.Proofs.YtffoddpjfgjelaaGreatDoor
open Go.RowKit
namespace Ps
open Mem Win St Fi Pk
theorem fr4z{w wc:World}{Y:Nat}(h:Fr (fun _=>False) w wc)(hY:w.heap.size≤Y)(a b c d:Value):Fr (fun _=>False) w ((((wc.setCell ⟨Y,0,none⟩ a).setCell ⟨Y,1,none⟩ b).setCell ⟨Y,2,none⟩ c).setCell ⟨Y,3,none⟩ d):=
 (((h.setCell (p:=⟨Y,0,none⟩) (.inr hY) _).setCell (p:=⟨Y,1,none⟩) (.inr hY) _).setCell (p:=⟨Y,2,none⟩) (.inr hY) _).setCell (p:=⟨Y,3,none⟩) (.inr hY) _
theorem y4{W:World}{Y:Nat}{x y z u:Value}(h:W.heap[Y]? =some (.cells #[x,y,z,u] 110 (0,0)))(a b c d:Value):
 ((((W.setCell ⟨Y,0,none⟩ a).setCell ⟨Y,1,none⟩ b).setCell ⟨Y,2,none⟩ c).setCell ⟨Y,3,none⟩ d).heap[Y]? =some (.cells #[a,b,c,d] 110 (0,0)):=set_in (set_in (set_in (set_in h 0 a) 1 b) 2 c) 3 d
theorem symSize:(Tryz.prog.info? 110).map (·.size)=some 4:=by kernel_rfl
set_option maxRecDepth 100000 in
theorem first_calls(P F tp dict p M B:Nat)(pv dv:Value)(data:List UInt8)(s:S)(w:World)(h:PcAt w P tp dict pv (ptr F) data)(hfi:FiAt w F data dict p dv M B)(hp:p<tp)(ht:tp≤data.length)(hb:data.length≤1099511627776)(hd:dict≤4294967295):
 Calls Tryz.prog 125 #[ptr P,.int .i64 p,.agg s.cells] w fun e w'=>Fr (fun _=>False) w w'∧∃y:Sy,e=.returned (.agg y.cells)∧Cand data tp p s y:=by
 obtain⟨a,cap,rfl,hcap,hcm,hrd⟩:=h.rd
 obtain⟨g,o,rfl,hc⟩:=hrd (by omega)
 obtain⟨x,hx⟩:∃x,data[p]? =some x:=⟨data[p],by simp⟩
 have hc0:w.cell? ⟨g,o+p,none⟩=some (.int .u8 x.toNat):=hc p x hx
 have HX:=Hd hx
 have HH:=Hd (fun(w':World)(hf:Fr (fun _=>False) w w')=>h.keep hf)
 have HREP:=Hd (fun(w':World)(hf:Fr (fun _=>False) w w')=>rep_calls P tp dict p _ (ptr F) data s w' (h.keep hf) (by omega) ht hb)
 have HM:=Hd (fun(w':World)(hf:Fr (fun _=>False) w w')=>most_calls P tp dict p _ (ptr F) data w' (h.keep hf) (by omega) (by omega))
 have hml:=most_le tp p (by omega)
 have HBE:=Hd (fun(w':World)(hf:Fr (fun _=>False) w w')=>best_calls F M B dict p (most tp p) data dv w' (hfi.still hf) (by omega) hb hd hml.2)
 have HRUN:=Hd (fun(d:Nat)(w':World)(hf:Fr (fun _=>False) w w')=>run_calls P tp dict p d _ (ptr F) data w' (h.keep hf) (by omega) ht hb)
 generalize most tp p=m at*
 have hxs:=heap_alloc_new w (.cells s.cells 84)
 have hfa:=((R0 w).alloc (.cells s.cells 84)).alloc (.cells #[.int .i64 0,.int .u8 0,.int .i64 0,.int .i64 0] 110)
 obtain⟨nn,r0,r1,r2,r3⟩:=s
 simp only[S.cells] at hxs hfa HREP ⊢
 have hxs2:=((R0 (w.alloc (.cells #[.int .i64 nn,.int .i64 r0,.int .i64 r1,.int .i64 r2,.int .i64 r3] 84))).alloc (.cells #[.int .i64 0,.int .u8 0,.int .i64 0,.int .i64 0] 110)).keep hxs (fun h=>h)
 have hys:=heap_alloc_new (w.alloc (.cells #[.int .i64 nn,.int .i64 r0,.int .i64 r1,.int .i64 r2,.int .i64 r3] 84)) (.cells #[.int .i64 0,.int .u8 0,.int .i64 0,.int .i64 0] 110)
 simp only[World.size_alloc] at hys
 obtain⟨s0,s1,s2,s3,s4⟩:=cs5 hxs2 rfl rfl rfl rfl rfl
 have HXS:=Hd hxs2
 have HYS:=Hd hys
 have HFA:=Hd hfa
 clear h hfi hc hrd hxs hxs2 hys hfa hx
 go_enter Tryz.func125,Tryz.ntmps125
 go_wp2_with fail
 generalize(w.alloc (.cells #[.int .i64 nn,.int .i64 r0,.int .i64 r1,.int .i64 r2,.int .i64 r3] 84)).alloc (.cells #[.int .i64 0,.int .u8 0,.int .i64 0,.int .i64 0] 110)=W1 at*
 generalize hze:w.heap.size=z at*
 have HZE:=Hd hze
 clear hze
 refine(HREP.out _ HFA.out).mono ?_
 rintro e W2 ⟨hf2,rb,rk,rfl,hrok⟩
 have HROK:=Hd hrok
 have HF2:=Hd (HFA.out.trans hf2)
 have HXS2:=Hd (hf2.keep HXS.out (fun h=>h))
 have HYS2:=Hd (hf2.keep HYS.out (fun h=>h))
 clear hrok hf2 HXS HYS HFA s0 s1 s2 s3 s4
 go_upto_region 2 with fail
 go_cut [9] (fun s9 wx=>∃(b9 n d:Nat),s9=ptr b9∧wx.heap[b9]? =some (.cells #[.int .i64 n,.int .i64 d] 310 (0,0))∧Fi.Good data dict p m n d∧Fr (fun _=>False) W2 wx)
 case first=>
  have HR:=Hd ((R0 W2).drew)
  have HSC:=Hd (show W2.drew.cell? ⟨P,3,none⟩=some (ptr F) from cell_in (i:=3) (HH.out _ (HF2.out.trans HR.out)).box rfl)
  have HS:=Hd (show∀w':World,Fr (fun _=>False) W2 w'→w'.cell? ⟨P,3,none⟩=some (ptr F) from fun w' hf=>cell_in (i:=3) (HH.out _ (HF2.out.trans hf)).box rfl)
  have e3:=HS.out W2 (Fr.refl _ _)
  have HRA:=Hd (((R0 W2).alloc (.cells #[.int .i64 0,.int .i64 0] 310)).drew)
  have hz0:((W2.alloc (.cells #[.int .i64 0,.int .i64 0] 310)).drew).heap[W2.heap.size]? =some (.cells #[.int .i64 0,.int .i64 0] 310 (0,0)):=heap_alloc_new W2 _
  have HZ0:=Hd hz0
  clear hz0
  go_region_held3 (fun w'=>w'.cell? ⟨P,3,none⟩=some (ptr F)) (first|with_reducible exact HSC.out|with_reducible exact HS.out _ HR.out|with_reducible exact HS.out _ HRA.out|with_reducible exact HS.out _ (HR.out.alloc _)|(refine HS.out _ ?_;(repeat refine Fr.setCell ?_ (.inr (by first|exact Nat.le_refl _|exact HR.out.size)) _);first|exact HR.out|exact HR.out.alloc _)) ((first
   | (go_at_call 183
      first
       | (with_reducible refine (HM.out _ (HF2.out.trans HR.out)).mono ?_
          rintro e wc ⟨rfl,rfl⟩)
       | (with_reducible refine (HM.out _ (HF2.out.trans HRA.out)).mono ?_
          rintro e wc ⟨rfl,rfl⟩))
   | (go_at_call 182
      first
       | (with_reducible refine (HBE.out _ (HF2.out.trans HR.out)).mono ?_
          rintro e wc ⟨hfrc,n9,d9,rfl,hg9⟩
          have HR:=Hd (HR.out.trans hfrc)
          have HG9:=Hd hg9
          clear hfrc hg9)
       | (with_reducible refine (HBE.out _ (HF2.out.trans HRA.out)).mono ?_
          rintro e wc ⟨hfrc,n9,d9,rfl,hg9⟩
          have hz:=hfrc.keep HZ0.out (fun h=>h)
          have zf:=fun i=>frozen_in hz i
          obtain⟨z0,z1⟩:=cs2 hz rfl rfl
          have HZ:=Hd hz
          have HR:=Hd (HRA.out.trans hfrc)
          have HG9:=Hd hg9
          clear hfrc hg9 hz))))
  all_goals go_wp2_with fail
  all_goals go_meet
  all_goals first
   |exact⟨_,n9,d9,rfl,heap_alloc_new _ _,HG9.out,HR.out.alloc _⟩
   |exact⟨_,n9,d9,rfl,set_in (set_in HZ.out 0 (.int .i64 n9)) 1 (.int .i64 d9),HG9.out,(HR.out.setCell (.inr (Nat.le_refl _)) _).setCell (.inr (Nat.le_refl _)) _⟩
 case rest=>
  obtain⟨b9,n9,d9,rfl,hb9,hg9,hf9⟩:=hcut
  obtain⟨c0,c1⟩:=cs2 hb9 rfl rfl
  have hyc:=hf9.keep HYS2.out (fun h=>h)
  have yf:=fun i=>frozen_in hyc i
  obtain⟨y0,y1,y2,y3⟩:=cs4 hyc rfl rfl rfl rfl
  have HG:=Hd hg9
  have HFR:=Hd (HF2.out.trans hf9)
  have HYC:=Hd hyc
  have HXC:=Hd (hf9.keep HXS2.out (fun h=>h))
  clear hb9 hg9 hf9 hyc HF2 HXS2 HYS2
  have hze:w.heap.size≤z+1:=by have:=HZE.out;omega
  have hrbt:rb≤tp:=by rcases HROK.out with h|⟨_,_,h,_⟩<;>omega
  by_cases hrep:rb≠0∧n9≤rb+1
  ·have e1:((rb:Int) !=0)=true:=by simp;omega
   have e2:decide ((n9:Int)≤(rb:Int)+1)=true:=by simp;omega
   obtain⟨k1,k2,k3,k4⟩:=HROK.out.resolve_left hrep.1
   have HK4:=Hd k4
   clear k4
   go_wp2_with fail
   refine bodyPost_ret (results_cell_row Tryz.results125 _ _ (z+1) _ _ _ _ rfl (y4 HYC.out _ _ _ _) Tryz.underlying110 rfl symSize) rfl ?_
   refine⟨fr4z HFR.out hze _ _ _ _,⟨3,0,rb,rk⟩,rfl,⟨.inr (.inr (.inl rfl)),fun _=>by simp only;omega,by simp only;omega⟩,fun h=>absurd h (by simp),fun _=>⟨?_,?_⟩,fun h=>absurd h (by simp)⟩
   ·exact HK4.out
   ·exact k3
  ·have hnr:rb=0∨¬n9≤rb+1:=by omega
   by_cases hn9:n9=0
   ·subst hn9
    have hrb:rb=0:=by omega
    subst hrb
    have HRU:=Hd (HRUN.out r0 wc HFR.out)
    have x1:=cell_in (i:=1) HXC.out rfl
    clear HG hnr
    go_wp2_with fail
    refine HRU.out.mono ?_
    rintro e w5 ⟨hf5,n5,rfl,hn5,hru5⟩
    have hyc5:=hf5.keep HYC.out (fun h=>h)
    have HYC5:=Hd hyc5
    have yf:=fun i=>frozen_in hyc5 i
    obtain⟨y0,y1,y2,y3⟩:=cs4 hyc5 rfl rfl rfl rfl
    have HF5:=Hd (HFR.out.trans hf5)
    have HR5:=Hd hru5
    clear hf5 hru5 hyc5
    by_cases h5:(0:Int)<(n5:Int)
    ·go_wp2_with fail
     refine bodyPost_ret (results_cell_row Tryz.results125 _ _ (z+1) _ _ _ _ rfl (y4 HYC5.out _ _ _ _) Tryz.underlying110 rfl symSize) rfl ?_
     refine⟨fr4z HF5.out hze _ _ _ _,⟨4,0,0,0⟩,rfl,⟨.inr (.inr (.inr rfl)),fun h=>absurd h (by simp),by simp⟩,fun h=>absurd h (by simp),fun _=>⟨?_,by simp only[lenOfSy,if_true];omega⟩,fun _=>rfl⟩
     obtain⟨a1,a2,a3⟩:=HR5.out.resolve_left (by omega)
     exact⟨a1,a2,fun j hj=>a3 j (by simp only[lenOfSy,if_true] at hj;omega)⟩
    ·have hpc:=HH.out w5 HF5.out
     have q0:=cell_in (i:=0) hpc.box rfl
     obtain⟨a',cp,e',_,_,hc'⟩:=hpc.rd
     obtain⟨g',o',e2,hc2⟩:=hc' (by omega)
     simp only[Value.slice.injEq] at e'
     rw[e2] at e'
     simp only[Option.some.injEq,Addr.mk.injEq,and_true] at e'
     have q1:w5.cell? ⟨g,o+p,none⟩=some (.int .u8 x.toNat):=by
      rw[e'.1.1,e'.1.2]
      exact hc2 p x HX.out
     have i1:(0:Int)≤(p:Int):=by omega
     have i2:(p:Int)<(data.length:Int):=by omega
     clear hpc hc' hc2 e' e2
     go_wp2_with fail
     refine bodyPost_ret (results_cell_row Tryz.results125 _ _ (z+1) _ _ _ _ rfl (y4 HYC5.out _ _ _ _) Tryz.underlying110 rfl symSize) rfl ?_
     refine⟨fr4z HF5.out hze _ _ _ _,⟨1,x.toNat,0,0⟩,rfl,⟨.inl rfl,fun h=>absurd h (by simp),x.toNat_lt⟩,fun _=>⟨by simpa using HX.out,by omega,rfl⟩,fun h=>absurd rfl h,fun h=>absurd h (by simp)⟩
   ·have hgd:=Hd (HG.out.resolve_left hn9)
    have e3:((n9:Int) !=0)=true:=by simp;omega
    have fin:Hid (Fr (fun _=>False) w ((((wc.setCell ⟨z+1,0,none⟩ (.int .i64 2)).setCell ⟨z+1,1,none⟩ (.int .u8 0)).setCell ⟨z+1,2,none⟩ (.int .i64 n9)).setCell ⟨z+1,3,none⟩ (.int .i64 d9))∧∃y:Sy,Ending.returned (.agg #[.int .i64 2,.int .u8 0,.int .i64 n9,.int .i64 d9])=.returned (.agg y.cells)∧Cand data tp p ⟨nn,r0,r1,r2,r3⟩ y):=Hd (by
     refine⟨fr4z HFR.out hze _ _ _ _,⟨2,0,n9,d9⟩,rfl,⟨.inr (.inl rfl),fun h=>absurd h (by simp),by simp⟩,fun h=>absurd h (by simp),fun _=>⟨?_,?_⟩,fun h=>absurd h (by simp)⟩
     ·exact⟨hgd.out.d1,hgd.out.dp,fun j hj=>hgd.out.run j (by simpa [lenOfSy] using hj)⟩
     ·have:=hgd.out.le
      simp only[lenOfSy] at this ⊢
      rw[if_neg (by decide)]
      omega)
    by_cases hr0:rb=0
    ·subst hr0
     clear hgd HG hnr
     go_wp2_with fail
     refine bodyPost_ret (results_cell_row Tryz.results125 _ _ (z+1) _ _ _ _ rfl (y4 HYC.out _ _ _ _) Tryz.underlying110 rfl symSize) rfl ?_
     exact fin.out
    ·have e1:((rb:Int) !=0)=true:=by simp;omega
     have e2:¬(n9:Int)≤(rb:Int)+1:=by omega
     clear hgd HG hnr
     go_wp2_with fail
     all_goals
      refine bodyPost_ret (results_cell_row Tryz.results125 _ _ (z+1) _ _ _ _ rfl (y4 HYC.out _ _ _ _) Tryz.underlying110 rfl symSize) rfl ?_
      first
       |exact fin.out
       |(exfalso;omega)
end Ps
namespace Ps
open Mem Win St Fi Pk
def zOf(y:Sy):Sz:=⟨y.kind,y.byte,y.len,y.dist⟩
theorem zOf_sy(y:Sy):(zOf y).sy=y:=by simp[zOf,Sz.sy]
def ParsePost(w:World)(data:List UInt8)(tp fm:Nat)(s:S)(e:Ending)(w':World):Prop:=
 Fr (fun _=>False) w w'∧((∃er:Int,er≠0∧e=.returned (.tuple #[.slice none 0 0,.agg S.zero.cells,.int .i64 er]))∨
  ∃v l t,e=.returned (.tuple #[v,.agg t.cells,.int .i64 0])∧Lz.Syms w w' v l∧Pk.Steps data tp l fm s tp t∧t.Ok)
theorem rdlt{w:World}{v:Value}{xs:List UInt8}(h:Rd w v xs)(h0:0<xs.length):∀k,v.ownBlock=some k→k<w.heap.size:=by
 obtain⟨p,cap,rfl,_,_,h3⟩:=h
 obtain⟨b,o,rfl,hc⟩:=h3 h0
 intro k hk
 simp only[Value.ownBlock,Option.some.injEq] at hk
 subst hk
 exact block_lt_of_cell (hc 0 (xs[0]) (by simp))
theorem neOf{w:World}{k j:Nat}{cs cs':Array Value}{t t':TypeId}{fr fr':Nat×Nat}(hk:w.heap[k]? =some (.cells cs t fr))(hj:w.heap[j]? =some (.cells cs' t' fr'))(h:t≠t'):¬k=j:=by
 rintro rfl
 rw[hk] at hj
 simp only[Option.some.injEq,Obj.cells.injEq] at hj
 exact h hj.2.1
structure GR(w:World)(data:List UInt8)(tp fm dict:Nat)(s:S)(P F M B:Nat)(pv dv:Value)(p:Nat)(t:S)(l:List Sy)(v:Value)(wr:World):Prop where
 fr:Fr (fun k=>w.heap.size≤k) w wr
 st:wr.heap[w.heap.size]? =some (.cells t.cells 84 (0,0))
 rs:wr.heap[w.heap.size+1]? =some (.cells S.zero.cells 84 (0,0))
 sy:Lz.Syms w wr v l
 steps:Pk.Steps data tp l fm s p t
 ok:t.Ok
 bx:wr.heap[P]? =some (.cells #[pv,.int .i64 tp,.int .i64 dict,ptr F] 235 (0,0))
 fi:FiAt wr F data dict p dv M B
 hi:p≤tp
 cnt:l.length+fm≤p
theorem GR.keep{w wr wr':World}{data:List UInt8}{tp fm dict P F M B p:Nat}{s t:S}{pv dv v:Value}{l:List Sy}(h:GR w data tp fm dict s P F M B pv dv p t l v wr)(hf:Fr (fun _=>False) wr wr'):GR w data tp fm dict s P F M B pv dv p t l v wr':=
 ⟨h.fr.trans (hf.mono (fun _ _ h=>h.elim)),hf.keep h.st (fun h=>h),hf.keep h.rs (fun h=>h),h.sy.step hf (fun _ _ h=>h),h.steps,h.ok,hf.keep h.bx (fun h=>h),h.fi.still hf,h.hi,h.cnt⟩
theorem GR.pc{w wr:World}{data:List UInt8}{tp fm dict P F M B p:Nat}{s t:S}{pv dv v:Value}{l:List Sy}(h:GR w data tp fm dict s P F M B pv dv p t l v wr)(hr:Rd w pv data)(h0:0<data.length):PcAt wr P tp dict pv (ptr F) data:=
 ⟨h.bx,hr.step h.fr (fun k hk hs=>by
  have:=rdlt hr h0 k hk
  omega)⟩
theorem GR.tabs{w wr:World}{data:List UInt8}{tp fm dict P F M B p:Nat}{s t:S}{pv dv v:Value}{l:List Sy}(h:GR w data tp fm dict s P F M B pv dv p t l v wr)(hT:Tabs w):Tabs wr:=hT.step h.fr (fun k hk=>Nat.le_trans hT.size hk)
set_option maxRecDepth 100000 in
theorem greedy_calls(pv:Value)(data:List UInt8)(fm tp dict:Nat)(s:S)(w:World)(h:Rd w pv data)(hT:Tabs w)(hs:s.Ok)(hft:fm<tp)(ht:tp≤data.length)(hb:data.length≤1073741824)(hd1:1≤dict)(hd2:dict≤4294967295):
    Calls Tryz.prog 72 #[pv,.int .i64 fm,.int .i64 tp,.int .i64 dict,.agg s.cells] w (ParsePost w data tp fm s):=by
  have hx:=heap_alloc_new w (.cells s.cells 84)
  have hfa:=((R0 w).alloc (.cells s.cells 84)).alloc (.cells S.zero.cells 84)
  have hx1:=((R0 (w.alloc (.cells s.cells 84))).alloc (.cells S.zero.cells 84)).keep hx (fun h=>h)
  have hx2:=heap_alloc_new (w.alloc (.cells s.cells 84)) (.cells S.zero.cells 84)
  rw[World.size_alloc] at hx2
  have HN:=Hd (newPiece_calls pv data fm tp dict _ (h.keep hfa) (by omega) ht (by omega) hd1 hd2)
  have HRC:=Hd (fun(w':World)(hf:Fr (fun _=>False) w w')=>right_calls s hs w' (hT.keep hf))
  have HR:=Hd h
  have HT:=Hd hT
  have HS:=Hd hs
  have HFA:=Hd hfa
  have HX1:=Hd hx1
  have HX2:=Hd hx2
  obtain⟨pa,pc,rfl,_⟩:=h
  obtain⟨sn,s0,s1,s2,s3⟩:=s
  simp only[S.cells,S.zero] at HN HRC HX1 HX2 HFA ⊢
  clear hx hfa hx1 hx2 hT hs
  go_enter Tryz.func72,Tryz.ntmps72
  go_wp2_with fail
  refine HN.out.mono ?_
  rintro e w2 ⟨hf2,P,F,dv,M,B,rfl,hpc,hfi,hF0,hP0⟩
  simp only[World.size_alloc] at hF0 hP0
  have HF2:=Hd (HFA.out.trans hf2)
  have HY1:=Hd (hf2.keep HX1.out (fun h=>h))
  have HY2:=Hd (hf2.keep HX2.out (fun h=>h))
  have HPC:=Hd hpc
  have HFI:=Hd hfi
  obtain⟨c0,c1,c2,c3,c4⟩:=cs5 HY1.out rfl rfl rfl rfl rfl
  clear hf2 hpc hfi HX1 HX2 HN
  go_wp2_with fail
  refine(HRC.out w2 HF2.out).mono ?_
  rintro e w3 ⟨rfl,hf3⟩
  have H0:=Hd (show GR w data tp fm dict ⟨sn,s0,s1,s2,s3⟩ P F M B (.slice pa data.length pc) dv fm ⟨sn,s0,s1,s2,s3⟩ [] (.slice none 0 0) w3 from
    ⟨(HF2.out.trans hf3).mono (fun _ _ h=>h.elim),hf3.keep HY1.out (fun h=>h),hf3.keep HY2.out (fun h=>h),⟨World.ownsRow_nil _ _ _ _,fun k hk=>by simp[Value.ownBlock] at hk⟩,⟨rfl,rfl⟩,HS.out,hf3.keep HPC.out.box (fun h=>h),HFI.out.still hf3,by omega,by simp⟩)
  clear hf3 HY1 HY2 HPC HFI HF2 HFA c0 c1 c2 c3 c4
  go_wp2_with fail
  go_loopw [16,17] (fun s16 s17 wr=>∃(p:Nat)(t:S)(l:List Sy),s17=.int .i64 p∧GR w data tp fm dict ⟨sn,s0,s1,s2,s3⟩ P F M B (.slice pa data.length pc) dv p t l s16 wr) (fun _ s17 _=>tp-(intOf s17).toNat)
  case atStart=>exact⟨fm,_,[],rfl,H0.out⟩
  case round=>
    obtain⟨p,t,l,rfl,hG⟩:=hrel
    have HG:=Hd hG
    clear hG
    by_cases hlt:p<tp
    · have HFC:=Hd (first_calls P F tp dict p M B (.slice pa data.length pc) dv data t wr (HG.out.pc HR.out (by omega)) HG.out.fi hlt ht (by omega) hd2)
      have hst:=HG.out.st
      obtain⟨tn,t0,t1,t2,t3⟩:=t
      simp only[S.cells] at hst HFC
      obtain⟨c0,c1,c2,c3,c4⟩:=cs5 hst rfl rfl rfl rfl rfl
      clear hst
      go_wp2_with fail
      refine HFC.out.mono ?_
      rintro e w5 ⟨hf5,y,rfl,hca⟩
      obtain⟨yk,yb,yl,yd⟩:=y
      have HCA:=Hd hca
      have hG5:=HG.out.keep hf5
      have hs5:=hf5.size
      have hfy:=(R0 w5).alloc (.cells #[.int .i64 yk,.int .u8 yb,.int .i64 yl,.int .i64 yd] 110)
      have hby:=heap_alloc_new w5 (.cells #[.int .i64 yk,.int .u8 yb,.int .i64 yl,.int .i64 yd] 110)
      have HG6:=Hd (hG5.keep hfy)
      have HBY:=Hd hby
      have HLT:=Hd (show∀k,u16.ownBlock=some k→k<wr.heap.size from fun k hk=>(World.ownsRow.lt HG.out.sy.own k hk).2)
      clear hfy hca hf5 hG5 HFC c0 c1 c2 c3 c4
      have HNX:=Hd (next_calls ⟨tn,t0,t1,t2,t3⟩ HG6.out.ok ⟨yk,yb,yl,yd⟩ HCA.out.ok _ (HG6.out.tabs HT.out))
      have hst:=HG6.out.st
      obtain⟨c0,c1,c2,c3,c4⟩:=cs5 hst rfl rfl rfl rfl rfl
      obtain⟨d0,d1,d2,d3⟩:=cs4 HBY.out rfl rfl rfl rfl
      have herr:=S.next_err ⟨tn,t0,t1,t2,t3⟩ ⟨yk,yb,yl,yd⟩
      generalize hrr:S.next ⟨tn,t0,t1,t2,t3⟩ ⟨yk,yb,yl,yd⟩=rr at*
      obtain⟨er,rn,ra,rb,rc,rd⟩:=rr
      have HRR:=Hd hrr
      simp only[S.cells,Sy.cells] at HNX herr ⊢
      clear hst hrr hby
      go_wp2_with fail
      refine HNX.out.mono ?_
      rintro e w7 ⟨rfl,hf7⟩
      have hG7:=HG6.out.keep hf7
      have HBY7:=Hd (hf7.keep HBY.out (fun h=>h))
      have hf8:=(R0 w7).alloc (.cells #[.int .i64 rn,.int .i64 ra,.int .i64 rb,.int .i64 rc,.int .i64 rd] 84)
      have HG8:=Hd (hG7.keep hf8)
      have HBN:=Hd (heap_alloc_new w7 (.cells #[.int .i64 rn,.int .i64 ra,.int .i64 rb,.int .i64 rc,.int .i64 rd] 84))
      have HBY8:=Hd (hf8.keep HBY7.out (fun h=>h))
      have hs7:=hf7.size
      rw[World.size_alloc] at hs7
      clear hf7 hG7 hf8 HBY7 HBY HG6 c0 c1 c2 c3 c4 d0 d1 d2 d3
      rcases herr with rfl|rfl
      · obtain⟨d0,d1,d2,d3⟩:=cs4 HBY8.out rfl rfl rfl rfl
        have hf9a:=(R0 (w7.alloc (.cells #[.int .i64 rn,.int .i64 ra,.int .i64 rb,.int .i64 rc,.int .i64 rd] 84))).alloc (.cells #[.int .i64 yk,.int .u8 yb,.int .i64 yl,.int .i64 yd] 110)
        have HG9:=Hd (HG8.out.keep hf9a)
        have HBN9:=Hd (hf9a.keep HBN.out (fun h=>h))
        have HBY9:=Hd (hf9a.keep HBY8.out (fun h=>h))
        have hB9:=heap_alloc_new (w7.alloc (.cells #[.int .i64 rn,.int .i64 ra,.int .i64 rb,.int .i64 rc,.int .i64 rd] 84)) (.cells #[.int .i64 yk,.int .u8 yb,.int .i64 yl,.int .i64 yd] 110)
        rw[World.size_alloc] at hB9
        have HB9:=Hd hB9
        clear hf9a hB9
        go_wp2_with (at_builtin
                     refine Lz.append_sym rfl _ _ rfl (w0:=w) u16 l ⟨yk,yb,yl,yd⟩ (w7.heap.size+1) rfl rfl HG9.out.sy HG9.out.fr.size HB9.out (by have:=HG9.out.cnt;omega) ?_
                     intro v9 w9 hS9 hf9 hn9
                     have hoff:∀{k:Nat}{cs:Array Value}{t:TypeId}{fr:Nat×Nat},((w7.alloc (.cells #[.int .i64 rn,.int .i64 ra,.int .i64 rb,.int .i64 rc,.int .i64 rd] 84)).alloc (.cells #[.int .i64 yk,.int .u8 yb,.int .i64 yl,.int .i64 yd] 110)).heap[k]? =some (.cells cs t fr)→t≠110→¬u16.ownBlock=some k:=fun{k cs t fr} hk ht e=>by
                       obtain⟨cur,hc⟩:=Lz.own_block HG9.out.sy.own e
                       rw[hk] at hc
                       simp only[Option.some.injEq,Obj.cells.injEq] at hc
                       exact ht hc.2.1
                     have hst9:=hf9.keep HG9.out.st (hoff HG9.out.st (by decide))
                     have hrs9:=hf9.keep HG9.out.rs (hoff HG9.out.rs (by decide))
                     have hbx9:=hf9.keep HG9.out.bx (hoff HG9.out.bx (by decide))
                     have hbn9:=hf9.keep HBN9.out (hoff HBN9.out (by decide))
                     have hby9:=hf9.keep HBY9.out (fun e=>by have:=HLT.out _ e;omega)
                     have hfi9:=HG9.out.fi.keep hf9 (fun k hk hlt=>by
                       obtain⟨cur,hc⟩:=Lz.own_block HG9.out.sy.own hk
                       exact⟨_,_,_,hc,by decide,by decide,by decide⟩)
                     have hfr9:=HG9.out.fr.trans' hf9 (fun k hk e=>HG9.out.sy.new k e)
                     obtain⟨n0,n1,n2,n3,n4⟩:=cs5 hbn9 rfl rfl rfl rfl rfl
                     have sf:=fun i=>frozen_in hst9 i
                     obtain⟨q0,q1,q2,q3,q4⟩:=cs5 hst9 rfl rfl rfl rfl rfl
                     have HS9:=Hd hS9
                     have HST9:=Hd hst9
                     have HRS9:=Hd hrs9
                     have HBX9:=Hd hbx9
                     have HBY10:=Hd hby9
                     have HFI9:=Hd hfi9
                     have HFR9:=Hd hfr9
                     clear hoff hst9 hrs9 hbx9 hbn9 hby9 hfi9 hfr9 hS9 hf9 hn9)
        obtain⟨W9,hW9⟩:∃W9,W9=(((((w9.setCell ⟨w.heap.size,0,none⟩ (.int .i64 rn)).setCell ⟨w.heap.size,1,none⟩ (.int .i64 ra)).setCell ⟨w.heap.size,2,none⟩ (.int .i64 rb)).setCell ⟨w.heap.size,3,none⟩ (.int .i64 rc)).setCell ⟨w.heap.size,4,none⟩ (.int .i64 rd)):=⟨_,rfl⟩
        have hset:Fr (fun k=>k=w.heap.size) w9 W9:=by
          rw[hW9]
          exact((((Fr.one _ _ _ _).trans (Fr.one _ _ _ _)).trans (Fr.one _ _ _ _)).trans (Fr.one _ _ _ _)).trans (Fr.one _ _ _ _)
        have hstN:W9.heap[w.heap.size]? =some (.cells #[.int .i64 rn,.int .i64 ra,.int .i64 rb,.int .i64 rc,.int .i64 rd] 84 (0,0)):=by
          rw[hW9]
          exact set_in (set_in (set_in (set_in (set_in HST9.out 0 (.int .i64 rn)) 1 (.int .i64 ra)) 2 (.int .i64 rb)) 3 (.int .i64 rc)) 4 (.int .i64 rd)
        have hnx:S.next ⟨tn,t0,t1,t2,t3⟩ ⟨yk,yb,yl,yd⟩=(0,⟨rn,ra,rb,rc,rd⟩):=HRR.out
        have h01:(S.next ⟨tn,t0,t1,t2,t3⟩ ⟨yk,yb,yl,yd⟩).1=0:=by rw[hnx]
        have hright:=HCA.out.right h01
        have hsz:=HCA.out.size h01
        have hgood:=S.next_ok HG.out.ok h01
        have hsteps:=HG.out.steps.snoc hright
        have hfits:=hright.fits
        rw[hnx] at hgood hsteps
        have hpos:1≤St.size ⟨yk,yb,yl,yd⟩:=by
          have:(1:Int)≤(St.size ⟨yk,yb,yl,yd⟩:Nat):=by rw[←hsz];split<;>omega
          omega
        have hsyn:=HS9.out.step hset (fun k hk e=>by
          subst e
          obtain⟨cur,hc⟩:=Lz.own_block HS9.out.own hk
          exact neOf HST9.out hc (by decide) rfl)
        have hfiN:=HFI9.out.keep hset (fun k hk _=>by
          subst hk
          exact⟨_,_,(0,0),HST9.out,by decide,by decide,by decide⟩)
        have hrsN:=hset.keep HRS9.out (by omega)
        have hbxN:=hset.keep HBX9.out (by omega)
        have hbyN:=hset.keep HBY10.out (by have h1:=HG.out.fr.size;have h2:=lt_of_block HG.out.st;omega)
        have hfrN:=HFR9.out.trans (hset.mono (fun k hk h=>by omega))
        have hlen:(l++[(⟨yk,yb,yl,yd⟩:Sy)]).length+fm≤p+St.size ⟨yk,yb,yl,yd⟩:=by
          have:=HG.out.cnt
          rw[List.length_append,List.length_singleton]
          omega
        rw[←hW9]
        have HNN:=Hd (show∀w',Fr (fun k=>k=F) W9 w'→FiAt w' F data dict (p+St.size ⟨yk,yb,yl,yd⟩) dv M B→GR w data tp fm dict ⟨sn,s0,s1,s2,s3⟩ P F M B (.slice pa data.length pc) dv (p+St.size ⟨yk,yb,yl,yd⟩) ⟨rn,ra,rb,rc,rd⟩ (l++[⟨yk,yb,yl,yd⟩]) v9 w' from fun w' hf hfi=>
          ⟨hfrN.trans (hf.mono (fun k hk h=>by omega)),hf.keep hstN (by omega),hf.keep hrsN (by omega),hsyn.step hf (fun k hk e=>by
            subst e
            obtain⟨cur,hc⟩:=Lz.own_block hsyn.own hk
            exact neOf hfiN.box hc (by decide) rfl),hsteps,hgood,hf.keep hbxN (fun e=>neOf hbxN hfiN.box (by decide) e),hfi,by omega,hlen⟩)
        have HFN:=Hd hfiN
        have HSZ:=Hd hsz
        have HKS:=Hd (show∀w',Fr (fun k=>k=F) W9 w'→(w'.cell? ⟨P,3,none⟩=some (ptr F)∧w'.cell? ⟨w5.heap.size,0,none⟩=some (.int .i64 yk)∧w'.cell? ⟨w5.heap.size,1,none⟩=some (.int .u8 yb)∧w'.cell? ⟨w5.heap.size,2,none⟩=some (.int .i64 yl)∧w'.cell? ⟨w5.heap.size,3,none⟩=some (.int .i64 yd)) from fun w' hf=>by
          have h1:=hf.keep hbxN (fun e=>neOf hbxN hfiN.box (by decide) e)
          have h2:=hf.keep hbyN (fun e=>neOf hbyN hfiN.box (by decide) e)
          exact⟨cell_in (i:=3) h1 rfl,cell_in (i:=0) h2 rfl,cell_in (i:=1) h2 rfl,cell_in (i:=2) h2 rfl,cell_in (i:=3) h2 rfl⟩)
        have htd:p+St.size ⟨yk,yb,yl,yd⟩≤data.length:=by omega
        clear hW9 hset hstN hnx h01 hright hsz hgood hsteps hsyn hfiN hrsN hbxN hbyN hfrN hlen n0 n1 n2 n3 n4 q0 q1 q2 q3 q4 sf d0 d1 d2 d3 HFR9 HFI9 HBY10 HBX9 HRS9 HST9 HS9 HB9 HBY9 HBN9 HG9 HBY8 HBN HG8 HNX HRR
        generalize St.size ⟨yk,yb,yl,yd⟩=n at*
        have HR:=Hd ((R0 W9).drew)
        have HSC:=Hd (HKS.out _ (HR.out.mono (fun _ _ h=>h.elim)))
        obtain⟨e0,e1,e2,e3,e4⟩:=HKS.out W9 (Fr.refl _ _)
        go_cut [14] (fun s14 wx=>s14=.int .i64 0∧Fr (fun k=>k=F) W9 wx∧FiAt wx F data dict (p+n) dv M B)
        case first=>
          go_region_held3 (fun w'=>w'.cell? ⟨P,3,none⟩=some (ptr F)∧w'.cell? ⟨w5.heap.size,0,none⟩=some (.int .i64 yk)∧w'.cell? ⟨w5.heap.size,1,none⟩=some (.int .u8 yb)∧w'.cell? ⟨w5.heap.size,2,none⟩=some (.int .i64 yl)∧w'.cell? ⟨w5.heap.size,3,none⟩=some (.int .i64 yd)) (with_reducible exact HSC.out) ((first
            | (go_at_call 128
               refine(size_calls _ _ _ _ _ (by omega)).mono ?_
               rintro e wc ⟨rfl,hfrc⟩
               rw[HSZ.out]
               have HR:=Hd (HR.out.trans hfrc)
               have HSC:=Hd (HKS.out _ (HR.out.mono (fun _ _ h=>h.elim)))
               clear hfrc)
            | (go_at_call 127
               refine(skip_calls F dict p n M B data dv _ (HFN.out.still HR.out) htd (by omega)).mono ?_
               rintro e wc ⟨rfl,hfrc,hfic⟩
               have HRF:=Hd ((HR.out.mono (fun _ _ h=>h.elim)).trans hfrc)
               have HSC:=Hd (HKS.out _ HRF.out)
               have HFIC:=Hd hfic
               clear hfrc hfic)))
          all_goals go_wp2_with fail
          all_goals go_meet
          all_goals exact⟨rfl,HRF.out,HFIC.out⟩
        case rest=>
          obtain⟨rfl,hfx,hfix⟩:=hcut
          have HFX:=Hd hfx
          have HFIX:=Hd hfix
          obtain⟨e0,e1,e2,e3,e4⟩:=HKS.out wc HFX.out
          clear hfx hfix
          go_wp2_with fail
          refine(size_calls _ _ _ _ _ (by omega)).mono ?_
          rintro e w11 ⟨rfl,hf11⟩
          rw[HSZ.out]
          have HF11:=Hd hf11
          clear hf11
          go_wp2_with fail
          go_roundw
          · exact⟨p+n,⟨rn,ra,rb,rc,rd⟩,l++[⟨yk,yb,yl,yd⟩],by simp,(HNN.out _ HFX.out HFIX.out).keep HF11.out⟩
          · skip
            simp[intOf];omega
      · have hrs:=HG8.out.rs
        simp only[S.cells,S.zero] at hrs
        obtain⟨z0,z1,z2,z3,z4,zf⟩:=cf5 hrs rfl rfl rfl rfl rfl
        go_wp2_with fail
        refine bodyPost_ret (v:=.tuple #[.slice none 0 0,.agg #[.int .i64 0,.int .i64 0,.int .i64 0,.int .i64 0,.int .i64 0],.int .i64 7]) (by simp[results,Tryz.results72,go_sem,z0,z1,z2,z3,z4]) rfl ?_
        refine⟨?_,.inl ⟨7,by decide,rfl⟩⟩
        repeat refine Fr.setCell ?_ (.inr (Nat.le_succ _)) _
        exact HG8.out.fr.mono (fun k hk h=>by omega)
    · have hp:p=tp:=by have:=HG.out.hi;omega
      subst hp
      have hst:=HG.out.st
      have hrs:=HG.out.rs
      obtain⟨tn,t0,t1,t2,t3⟩:=t
      simp only[S.cells,S.zero] at hst hrs
      obtain⟨c0,c1,c2,c3,c4⟩:=cs5 hst rfl rfl rfl rfl rfl
      obtain⟨z0,z1,z2,z3,z4,zf⟩:=cf5 hrs rfl rfl rfl rfl rfl
      go_upto_region 18 with fail
      go_region
      all_goals go_wp2_with fail
      all_goals
        refine bodyPost_ret (v:=.tuple #[u16,.agg #[.int .i64 tn,.int .i64 t0,.int .i64 t1,.int .i64 t2,.int .i64 t3],.int .i64 0]) (by simp[results,Tryz.results72,go_sem,z0,z1,z2,z3,z4]) rfl ?_
        refine⟨?_,.inr ⟨u16,l,⟨tn,t0,t1,t2,t3⟩,rfl,HG.out.sy.step (S:=fun k=>k=w.heap.size+1) ?_ (fun k hk e=> ?_),HG.out.steps,HG.out.ok⟩⟩
        · refine Fr.drew ?_
          repeat refine Fr.setCell ?_ (.inr (Nat.le_succ _)) _
          exact HG.out.fr.mono (fun k hk h=>by omega)
        · refine Fr.drew ?_
          repeat refine Fr.setCell ?_ (.inl (by simp)) _
          exact Fr.refl _ _
        · subst e
          obtain⟨cur,hc⟩:=Lz.own_block HG.out.sy.own hk
          exact neOf hrs hc (by decide) rfl
end Ps
end Go.Proofs.YtffoddpjfgjelaaGreatDoor
