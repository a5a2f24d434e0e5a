/- Part 41 of 53: lemmas of the last part, each under the conditions that it names. -/
import Derived.Test.YtilegoadokmcdaaGreatDoorP17
import Derived.Test.YtilegoadokmcdaaGreatDoorP39
import Derived.Test.YtilegoadokmcdaaGreatDoorP40
set_option linter.unusedVariables false
set_option linter.unusedSimpArgs false
set_option maxRecDepth 1500
set_option maxHeartbeats 4000000
namespace Go.Proofs.YtilegoadokmcdaaGreatDoor
open Go.RowKit
namespace Rf
open Mem Rc Prob St Lz Win
theorem RAt.dir{w w':World}{l:RL}{c:C}{y:Y}{d2:D}(h:RAt w l c y)(hb:y.bad=false)(hf:Fr (fun k=>k=l.Q) w w')(hR:RDec w' l.Q l.bv d2)(hd:d2.ok):Fr l.S w w'∧RAt w' l c ⟨d2,false,y.ps⟩:=by
 refine⟨hf.mono (fun k _ hk=>.inr (.inl hk)),?_,h.cod.step hf (fun k hk e=>h.kq k hk e),hR,hd,h.bva⟩
 have:=hf.keep h.x (fun e=>h.xq e)
 rw[hb] at this
 exact this
theorem slotAt_eq{n:Nat}(k:Nat)(h:k=min (n-2) 3):slotAt n=64*k:=by unfold slotAt;rw[h]
theorem row15(lc lp:Nat):Lz.rowLen lc lp 15=256∧Lz.rowLen lc lp 16=128∧Lz.rowLen lc lp 17=16:=⟨rfl,rfl,rfl⟩
theorem dir_ok{y:Y}{n v:Nat}{d2:D}(hb:y.bad=false)(h:D.direct n 0 y.d=.ok (v,d2)):y.direct n=(v,⟨d2,false,y.ps⟩):=by
 unfold Y.direct
 rw[if_neg (by rw[hb];decide),h]
theorem dir_err{y:Y}{n x:Nat}(hb:y.bad=false)(h:D.direct n 0 y.d=.error x):y.direct n=(0,⟨y.d,true,y.ps⟩):=by
 unfold Y.direct
 rw[if_neg (by rw[hb];decide),h]
set_option maxRecDepth 100000 in
theorem distance_calls{l:RL}{c:C}{y:Y}{w:World}(h:RAt w l c y)(n:Nat)(h2:2≤n)(hn:n≤1000):
 Calls Tryz.prog 132 #[ptr l.X,.int .i64 n] w (RPost l c w (rdist y n)):=by
 obtain⟨kk,hkk⟩:∃kk,kk=min (n-2) 3:=⟨_,rfl⟩
 have hk3:kk<4:=by omega
 obtain⟨l15,l16,l17⟩:=row15 c.lc c.lp
 have HS:=fun W=>Hd (set_calls sSlot kk (by decide) (by omega) W)
 have HT:=Hd (tree_named h (nSlot kk) (mem_slot hk3) (num sSlot kk) rfl 6 (by omega) (Nat.le_refl _) (by show 64*kk+64≤Lz.rowLen c.lc c.lp 15;omega))
 have hlt:=rtree_lt y 15 (64*kk) 6
 obtain⟨res,hres⟩:∃res,res=rdist y n:=⟨_,rfl⟩
 rw[←hres]
 unfold rdist at hres
 rw[slotAt_eq kk hkk] at hres
 unfold nSlot at HT
 simp only at HT
 have hsS:sSlot=[83,108,111,116]:=rfl
 rw[hsS] at HS HT
 have HRS:=fun(s:Nat)(hs:s<100) W=>Hd (set_calls [82,101,115,116] s (by decide) hs W)
 clear h
 generalize rtree y 15 (64*kk) 6=r at*
 obtain⟨slot,y1⟩:=r
 simp only at hres hlt
 have hs64:slot<64:=hlt
 have hrl:=range_le ⟨slot,hs64⟩
 have hrz:=range_zero ⟨slot,hs64⟩
 simp only at hrl hrz
 have HRG:=fun W=>Hd (rrange_calls slot hs64 W)
 have HRES:=Hd hres
 have ekk:(if(n:Int)-2>3 then(3:Int) else(n:Int)-2)=(kk:Int):=by split<;>omega
 clear hres hsS hlt
 have start:∀(P:Prop),(3<(n:Int)-2→P)→(¬3<(n:Int)-2→P)→P:=fun P a b=>by by_cases hc:3<(n:Int)-2;exact a hc;exact b hc
 apply start
 ·intro hc
  have e3:kk=3:=by omega
  subst e3
  have t1:decide ((n:Int)-2>3)=true:=by rw[decide_eq_true_eq];omega
  have t2:decide ((3:Int)<(n:Int)-2)=true:=by rw[decide_eq_true_eq];omega
  clear ekk hkk hc start
  go_enter Tryz.func132,Tryz.ntmps132
  go_wp2_with fail
  refine(HS _).out.mono ?_
  rintro e w1 ⟨rfl,rfl⟩
  go_wp2_with fail
  refine HT.out.mono ?_
  rintro e w1 ⟨rfl,hf1,st1,hA1,hg1⟩
  have HF1:=Hd hf1
  have HG1:=Hd hg1
  have HA1:=Hd hA1
  have x1:w1.cell? ⟨l.X,1,none⟩=some (ptr l.Q):=cell_in (i:=1) hA1.x rfl
  have x2:w1.cell? ⟨l.X,2,none⟩=some (.bool y1.bad):=cell_in (i:=2) hA1.x rfl
  have z2:=frozen_in hA1.x 2
  clear hf1 hA1 hg1 HT
  go_wp2_with fail
  refine(HRG _).out.mono ?_
  rintro e w2 ⟨rfl,rfl⟩
  by_cases h4:slot<4
  ·have HRES1:=Hd (HRES.out.trans (if_pos h4))
   have t5:decide ((slot:Int)<4)=true:=by rw[decide_eq_true_eq];omega
   clear HRES h4
   go_wp2_with fail
   go_ret
   rw[HRES1.out]
   exact⟨rfl,HF1.out,st1,HA1.out,HG1.out⟩
  have HRES1:=Hd (HRES.out.trans (if_neg h4))
  have t5:decide ((slot:Int)<4)=false:=by rw[decide_eq_false_iff_not];omega
  clear HRES
  by_cases h14:slot<14
  ·have HRES2:=Hd (HRES1.out.trans (if_pos h14))
   have t6:decide ((slot:Int)<14)=true:=by rw[decide_eq_true_eq];omega
   have hb5:=(hrl.2.2.2.2 (by omega) h14).1
   have HBK:=Hd (back_named HA1.out (nRest slot) (mem_rest (by omega) h14) (num [82,101,115,116] slot) rfl (range slot).2 (by omega) (Nat.le_refl _) (by show restAt slot+2^(range slot).2≤Lz.rowLen c.lc c.lp 16;have:=hrz.2 (by omega) h14;omega))
   have hbl:=back_lt (y:=y1) 16 (restAt slot) (range slot).2
   have hbl2:(rback y1 16 (restAt slot) (range slot).2).1<32:=Nat.lt_of_lt_of_le hbl (Nat.pow_le_pow_right (n:=2) (by omega) hb5)
   have hle1:(range slot).1≤4294967297:=by have:=hrl.1;have:=Nat.two_pow_pos (range slot).2;omega
   have HR:=Hd (HRS slot (by omega))
   unfold nRest at HBK
   simp only at HBK
   clear HRES1 HA1 hrl hrz hbl
   generalize rback y1 16 (restAt slot) (range slot).2=r at*
   go_wp2_with fail
   refine(HR.out _).out.mono ?_
   rintro e w2 ⟨rfl,rfl⟩
   go_wp2_with fail
   refine HBK.out.mono ?_
   rintro e w2 hp
   have hs2:=RPost.seq HF1.out HG1.out hp
   obtain⟨rfl,_⟩:=hp
   have HS2:=Hd hs2
   clear hs2 HBK HF1 HG1
   go_wp2_with fail
   go_ret
   rw[HRES2.out]
   exact HS2.out.to rfl rfl
  have HRES2:=Hd (HRES1.out.trans (if_neg h14))
  have t6:decide ((slot:Int)<14)=false:=by rw[decide_eq_false_iff_not];omega
  clear HRES1
  cases hb:y1.bad with
  |true=>
    have HRES3:=Hd (HRES2.out.trans (if_pos hb))
    rw[hb] at x2
    clear HRES2 hb
    go_wp2_with fail
    go_ret
    rw[HRES3.out]
    exact⟨rfl,HF1.out,st1,HA1.out,HG1.out⟩
  |false=>
    have HRES3:=Hd (HRES2.out.trans (if_neg (by rw[hb];decide)))
    have HBB:=Hd hb
    rw[hb] at x2
    have hb4:=hrl.2.2.2.1 (by omega)
    obtain⟨bb,hbb⟩:∃bb,bb=(range slot).2-4:=⟨_,rfl⟩
    have ebb:((range slot).2:Int)-4=(bb:Int):=by omega
    have hbl:bb≤26:=by omega
    rw[←hbb] at HRES3
    have hle1:(range slot).1≤4294967297:=by have:=hrl.1;have:=Nat.two_pow_pos (range slot).2;omega
    have HDC:=Hd (rdirect_calls l.Q bb l.bv y1.d w1 HA1.out.rd HA1.out.d (by omega))
    clear HRES2 hb hbb hb4 hrl hrz h4 h14
    generalize(range slot).1=least at*
    generalize(range slot).2=bits at*
    unfold DirPost at HDC
    cases hdir:D.direct bb 0 y1.d with
    |error x=>
      rw[hdir] at HDC
      have HX0:=Hd (direct_err bb 0 y1.d hdir)
      have hy:=dir_err HBB.out hdir
      rw[hy] at HRES3
      have HRES4:=Hd (HRES3.out.trans (if_pos rfl))
      have hx0:((x:Int) !=0)=true:=by have:=HX0.out;simp;omega
      clear hdir hy HRES3
      go_wp2_with fail
      refine HDC.out.mono ?_
      rintro e w2 ⟨rfl,hf2⟩
      have hfin:=HA1.out.fail HBB.out (hf2.mono (fun _ _ h=>h.elim)) (HA1.out.cod.keep hf2) (fun k hk=>.inl hk) (Fr.one w2 l.X 2 (.bool true)) (by have:=set_in (hf2.keep HA1.out.x (fun h=>h)) 2 (.bool true);exact this)
      have z3:=frozen_in (hf2.keep HA1.out.x (fun h=>h)) 2
      have x3:w2.cell? ⟨l.X,2,none⟩=some (.bool y1.bad):=cell_in (i:=2) (hf2.keep HA1.out.x (fun h=>h)) rfl
      have HFIN:=Hd hfin
      clear hfin hf2 HDC x1 x2 z2 HA1
      go_wp2_with fail
      go_ret
      rw[HRES4.out]
      exact⟨rfl,S_trans HF1.out HG1.out HFIN.out.1,st1,HFIN.out.2,HG1.out⟩
    |ok vd=>
      obtain⟨v,d2⟩:=vd
      rw[hdir] at HDC
      have hdo:=direct_ok bb 0 y1.d d2 v 0 HA1.out.d (by simp) hdir
      have hv26:v<67108864:=Nat.lt_of_lt_of_le (by simpa using hdo.2.2) (Nat.pow_le_pow_right (n:=2) (by omega) hbl)
      have hy:=dir_ok HBB.out hdir
      rw[hy] at HRES3
      have HRES4:=Hd (HRES3.out.trans (if_neg Bool.false_ne_true))
      have HOK2:=Hd hdo.1
      simp only at HRES4
      clear hdir hy HRES3 hdo
      go_wp2_with fail
      refine HDC.out.mono ?_
      rintro e w2 ⟨rfl,hf2,hR2⟩
      have hd2:=HA1.out.dir HBB.out hf2 hR2 HOK2.out
      have HF2:=Hd (S_trans HF1.out HG1.out hd2.1)
      have HBK:=Hd (back_named hd2.2 nAlign mem_align [65,108,105,103,110] rfl 4 (by omega) (Nat.le_refl _) (by show 0+16≤Lz.rowLen c.lc c.lp 17;omega))
      have hbl4:=back_lt (y:=⟨d2,false,y1.ps⟩) 17 0 4
      have HG2:=Hd (fun k hk=>(HG1.out k hk:SF l.M l.st k∨w.heap.size≤k))
      unfold nAlign at HBK
      simp only at HBK
      clear hd2 hf2 hR2 HDC x1 x2 z2 HA1 HF1 HG1
      generalize rback ⟨d2,false,y1.ps⟩ 17 0 4=r at*
      go_wp2_with fail
      refine HBK.out.mono ?_
      rintro e w3 hp
      have hs2:=RPost.seq HF2.out HG2.out hp
      obtain⟨rfl,_⟩:=hp
      have HS2:=Hd hs2
      clear hs2 HBK HF2 HG2
      go_wp2_with fail
      go_ret
      rw[HRES4.out]
      exact HS2.out.to (Mem.ret_int (by simp only;omega)) rfl
 ·intro hc
  have e3:(n:Int)-2=(kk:Int):=by omega
  have t1:decide ((kk:Int)>3)=false:=by rw[decide_eq_false_iff_not];omega
  have t2:decide ((3:Int)<(kk:Int))=false:=by rw[decide_eq_false_iff_not];omega
  have t3:decide ((n:Int)-2>3)=false:=by rw[decide_eq_false_iff_not];omega
  clear ekk hkk hc start
  go_enter Tryz.func132,Tryz.ntmps132
  go_wp2_with fail
  refine(HS _).out.mono ?_
  rintro e w1 ⟨rfl,rfl⟩
  go_wp2_with fail
  refine HT.out.mono ?_
  rintro e w1 ⟨rfl,hf1,st1,hA1,hg1⟩
  have HF1:=Hd hf1
  have HG1:=Hd hg1
  have HA1:=Hd hA1
  have x1:w1.cell? ⟨l.X,1,none⟩=some (ptr l.Q):=cell_in (i:=1) hA1.x rfl
  have x2:w1.cell? ⟨l.X,2,none⟩=some (.bool y1.bad):=cell_in (i:=2) hA1.x rfl
  have z2:=frozen_in hA1.x 2
  clear hf1 hA1 hg1 HT
  go_wp2_with fail
  refine(HRG _).out.mono ?_
  rintro e w2 ⟨rfl,rfl⟩
  by_cases h4:slot<4
  ·have HRES1:=Hd (HRES.out.trans (if_pos h4))
   have t5:decide ((slot:Int)<4)=true:=by rw[decide_eq_true_eq];omega
   clear HRES h4
   go_wp2_with fail
   go_ret
   rw[HRES1.out]
   exact⟨rfl,HF1.out,st1,HA1.out,HG1.out⟩
  have HRES1:=Hd (HRES.out.trans (if_neg h4))
  have t5:decide ((slot:Int)<4)=false:=by rw[decide_eq_false_iff_not];omega
  clear HRES
  by_cases h14:slot<14
  ·have HRES2:=Hd (HRES1.out.trans (if_pos h14))
   have t6:decide ((slot:Int)<14)=true:=by rw[decide_eq_true_eq];omega
   have hb5:=(hrl.2.2.2.2 (by omega) h14).1
   have HBK:=Hd (back_named HA1.out (nRest slot) (mem_rest (by omega) h14) (num [82,101,115,116] slot) rfl (range slot).2 (by omega) (Nat.le_refl _) (by show restAt slot+2^(range slot).2≤Lz.rowLen c.lc c.lp 16;have:=hrz.2 (by omega) h14;omega))
   have hbl:=back_lt (y:=y1) 16 (restAt slot) (range slot).2
   have hbl2:(rback y1 16 (restAt slot) (range slot).2).1<32:=Nat.lt_of_lt_of_le hbl (Nat.pow_le_pow_right (n:=2) (by omega) hb5)
   have hle1:(range slot).1≤4294967297:=by have:=hrl.1;have:=Nat.two_pow_pos (range slot).2;omega
   have HR:=Hd (HRS slot (by omega))
   unfold nRest at HBK
   simp only at HBK
   clear HRES1 HA1 hrl hrz hbl
   generalize rback y1 16 (restAt slot) (range slot).2=r at*
   go_wp2_with fail
   refine(HR.out _).out.mono ?_
   rintro e w2 ⟨rfl,rfl⟩
   go_wp2_with fail
   refine HBK.out.mono ?_
   rintro e w2 hp
   have hs2:=RPost.seq HF1.out HG1.out hp
   obtain⟨rfl,_⟩:=hp
   have HS2:=Hd hs2
   clear hs2 HBK HF1 HG1
   go_wp2_with fail
   go_ret
   rw[HRES2.out]
   exact HS2.out.to rfl rfl
  have HRES2:=Hd (HRES1.out.trans (if_neg h14))
  have t6:decide ((slot:Int)<14)=false:=by rw[decide_eq_false_iff_not];omega
  clear HRES1
  cases hb:y1.bad with
  |true=>
    have HRES3:=Hd (HRES2.out.trans (if_pos hb))
    rw[hb] at x2
    clear HRES2 hb
    go_wp2_with fail
    go_ret
    rw[HRES3.out]
    exact⟨rfl,HF1.out,st1,HA1.out,HG1.out⟩
  |false=>
    have HRES3:=Hd (HRES2.out.trans (if_neg (by rw[hb];decide)))
    have HBB:=Hd hb
    rw[hb] at x2
    have hb4:=hrl.2.2.2.1 (by omega)
    obtain⟨bb,hbb⟩:∃bb,bb=(range slot).2-4:=⟨_,rfl⟩
    have ebb:((range slot).2:Int)-4=(bb:Int):=by omega
    have hbl:bb≤26:=by omega
    rw[←hbb] at HRES3
    have hle1:(range slot).1≤4294967297:=by have:=hrl.1;have:=Nat.two_pow_pos (range slot).2;omega
    have HDC:=Hd (rdirect_calls l.Q bb l.bv y1.d w1 HA1.out.rd HA1.out.d (by omega))
    clear HRES2 hb hbb hb4 hrl hrz h4 h14
    generalize(range slot).1=least at*
    generalize(range slot).2=bits at*
    unfold DirPost at HDC
    cases hdir:D.direct bb 0 y1.d with
    |error x=>
      rw[hdir] at HDC
      have HX0:=Hd (direct_err bb 0 y1.d hdir)
      have hy:=dir_err HBB.out hdir
      rw[hy] at HRES3
      have HRES4:=Hd (HRES3.out.trans (if_pos rfl))
      have hx0:((x:Int) !=0)=true:=by have:=HX0.out;simp;omega
      clear hdir hy HRES3
      go_wp2_with fail
      refine HDC.out.mono ?_
      rintro e w2 ⟨rfl,hf2⟩
      have hfin:=HA1.out.fail HBB.out (hf2.mono (fun _ _ h=>h.elim)) (HA1.out.cod.keep hf2) (fun k hk=>.inl hk) (Fr.one w2 l.X 2 (.bool true)) (by have:=set_in (hf2.keep HA1.out.x (fun h=>h)) 2 (.bool true);exact this)
      have z3:=frozen_in (hf2.keep HA1.out.x (fun h=>h)) 2
      have x3:w2.cell? ⟨l.X,2,none⟩=some (.bool y1.bad):=cell_in (i:=2) (hf2.keep HA1.out.x (fun h=>h)) rfl
      have HFIN:=Hd hfin
      clear hfin hf2 HDC x1 x2 z2 HA1
      go_wp2_with fail
      go_ret
      rw[HRES4.out]
      exact⟨rfl,S_trans HF1.out HG1.out HFIN.out.1,st1,HFIN.out.2,HG1.out⟩
    |ok vd=>
      obtain⟨v,d2⟩:=vd
      rw[hdir] at HDC
      have hdo:=direct_ok bb 0 y1.d d2 v 0 HA1.out.d (by simp) hdir
      have hv26:v<67108864:=Nat.lt_of_lt_of_le (by simpa using hdo.2.2) (Nat.pow_le_pow_right (n:=2) (by omega) hbl)
      have hy:=dir_ok HBB.out hdir
      rw[hy] at HRES3
      have HRES4:=Hd (HRES3.out.trans (if_neg Bool.false_ne_true))
      have HOK2:=Hd hdo.1
      simp only at HRES4
      clear hdir hy HRES3 hdo
      go_wp2_with fail
      refine HDC.out.mono ?_
      rintro e w2 ⟨rfl,hf2,hR2⟩
      have hd2:=HA1.out.dir HBB.out hf2 hR2 HOK2.out
      have HF2:=Hd (S_trans HF1.out HG1.out hd2.1)
      have HBK:=Hd (back_named hd2.2 nAlign mem_align [65,108,105,103,110] rfl 4 (by omega) (Nat.le_refl _) (by show 0+16≤Lz.rowLen c.lc c.lp 17;omega))
      have hbl4:=back_lt (y:=⟨d2,false,y1.ps⟩) 17 0 4
      have HG2:=Hd (fun k hk=>(HG1.out k hk:SF l.M l.st k∨w.heap.size≤k))
      unfold nAlign at HBK
      simp only at HBK
      clear hd2 hf2 hR2 HDC x1 x2 z2 HA1 HF1 HG1
      generalize rback ⟨d2,false,y1.ps⟩ 17 0 4=r at*
      go_wp2_with fail
      refine HBK.out.mono ?_
      rintro e w3 hp
      have hs2:=RPost.seq HF2.out HG2.out hp
      obtain⟨rfl,_⟩:=hp
      have HS2:=Hd hs2
      clear hs2 HBK HF2 HG2
      go_wp2_with fail
      go_ret
      rw[HRES4.out]
      exact HS2.out.to (Mem.ret_int (by simp only;omega)) rfl
end Rf
namespace Rf
open Mem Rc Prob St Lz Win
theorem quiet_more{P:Program}{f:FuncId}{args:Array Value}{w:World}{n:Nat}{v:Value}
 (h:Calls P f args (w.drewN n) fun e w'=>e=.returned v∧∃m,w'=(w.drewN n).drewN m):Calls P f args (w.drewN n) fun e w''=>e=.returned v∧∃m,w''=w.drewN m:=
 h.mono fun _ _ ⟨he,m,hm⟩=>⟨he,n+m,by rw[hm,World.drewN_drewN]⟩
def LPost(l:RL)(c:C)(w:World)(r:Nat×Y)(e:Ending)(w':World):Prop:=
 e=.returned (.int .u8 ((r.1-256:Nat):Int))∧Fr l.S w w'∧∃st',RAt w' {l with st:=st'} c r.2∧∀k,SF l.M st' k→SF l.M l.st k∨w.heap.size≤k
theorem lit_succ(u a k m:Nat)(same:Bool)(y:Y):litGo u a (k+1) m same y=litGo u a k (2*m+(y.bit 6 (a+m+if same then 256*(1+u/2^k%2) else 0)).1) (same&&decide ((y.bit 6 (a+m+if same then 256*(1+u/2^k%2) else 0)).1=u/2^k%2)) (y.bit 6 (a+m+if same then 256*(1+u/2^k%2) else 0)).2:=rfl
set_option maxRecDepth 100000 in
theorem literal_calls{l:RL}{c:C}{y:Y}{w:World}(h:RAt w l c y):
 Calls Tryz.prog 130 #[ptr l.X] w (LPost l c w (rlit y c)):=by
 have hlit:=lit_16 h.cod.okc
 have hrow:=lit_lt h.cod.okc
 have HN:=Hd (literal_name h.cod)
 have x0:w.cell? ⟨l.X,0,none⟩=some (ptr l.K):=cell_in (i:=0) h.x rfl
 have hu:=lastB_lt c c.s.r0
 obtain⟨res,hres⟩:∃res,res=rlit y c:=⟨_,rfl⟩
 rw[←hres]
 unfold rlit at hres
 rw[context_eq] at hres
 have hrl:Lz.rowLen c.lc c.lp 6=768*2^(c.lc+c.lp):=rfl
 have H:=Hd h
 have HRES:=Hd hres
 clear hres h
 obtain⟨lt,hlt⟩:∃lt,lt=C.lit c:=⟨_,rfl⟩
 rw[←hlt] at hlit hrow HRES HN
 go_enter Tryz.func130,Tryz.ntmps130
 go_wp2_with fail
 refine HN.out.mono ?_
 rintro e w1 ⟨rfl,hf1⟩
 have hA1:=H.out.keep hf1
 have HLS:=fun n=>Hd (rlast_calls (hA1.cod.keep ((Fr.refl (fun _=>False) w1).drewN n)) c.s.r0)
 obtain⟨p0,p1,p2,p3,p4,p5,p6,p7,p8,p9,v0,v1⟩:=hA1.cod.cells
 have x1:w1.cell? ⟨l.X,0,none⟩=some (ptr l.K):=cell_in (i:=0) hA1.x rfl
 have HF1:=Hd hf1
 have HA1:=Hd hA1
 clear hf1 hA1 x0 HN H
 generalize hk7:decide (7≤c.s.num)=same0 at*
 have t7:decide ((c.s.num:Int)≥7)=same0:=by rw[←hk7];rw[Bool.eq_iff_iff];simp;omega
 have t8:decide ((7:Int)≤(c.s.num:Int))=same0:=by rw[←hk7];rw[Bool.eq_iff_iff];simp;omega
 clear hk7
 go_wp2_with fail
 go_quiet (with_reducible exact quiet_more (HLS _).out)
 go_wp2_with fail
 have HF2:=Hd (HF1.out.drewN nq)
 have HA2:=Hd (HA1.out.keep ((Fr.refl (fun _=>False) w1).drewN nq))
 clear HLS HF1 HA1 p0 p1 p2 p3 p4 p5 p6 p7 p8 p9 v0 v1 x1
 generalize w1.drewN nq=w2 at*
 have hub:(Win.last c.size c.all c.s.r0).1=c.lastB c.s.r0:=rfl
 rw[hub]
 generalize c.lastB c.s.r0=u at*
 clear hub
 rw[←hlt]
 have HLT:=Hd hlt
 clear hlt
 go_loopw [6,7,8] (fun al m i wr=>∃(k mm:Nat)(same:Bool)(y':Y)(st':List Ent),k≤8∧i=.int .i64 ((k:Int)-1)∧m=.int .i64 mm∧al=.bool same∧2^(8-k)≤mm∧mm<2^(8-k+1)∧Fr l.S w wr∧RAt wr {l with st:=st'} c y'∧(∀k,SF l.M st' k→SF l.M l.st k∨w.heap.size≤k)∧litGo u (768*lt) k mm same y'=litGo u (768*lt) 8 1 same0 y) (fun _ _ i _=>(intOf i+1).toNat)
 case atStart=>exact⟨8,1,same0,y,l.st,by omega,rfl,rfl,rfl,by decide,by decide,lift HF2.out,HA2.out,fun k hk=>.inl hk,rfl⟩
 case round=>
  obtain⟨k,mm,same,y',st',hk,rfl,rfl,rfl,h1,h2,hf,hA,hg,hup⟩:=hrel
  have HF:=Hd hf
  have HG:=Hd hg
  have HA:=Hd hA
  clear hf hA hg
  cases k with
  |zero=>
    have hr:res=(mm,y'):=by rw[HRES.out,←hup];rfl
    have HRR:=Hd hr
    have hmm:mm<512:=h2
    have hmm1:256≤mm:=h1
    clear hr hup
    go_wp2_with fail
    go_ret
    rw[HRR.out]
    have e1:((mm-256:Nat):Int)=(mm:Int)-256:=by omega
    exact⟨by simp only;rw[e1];rfl,HF.out,st',HA.out,HG.out⟩
  |succ k=>
    rw[lit_succ] at hup
    have hp2:2^(8-(k+1)+1)=2*2^(8-(k+1)):=by rw[Nat.pow_succ];omega
    have hp1:2^(8-(k+1))≤128:=Nat.le_trans (Nat.pow_le_pow_right (by omega) (show 8-(k+1)≤7 by omega)) (by decide)
    have hp3:8-k=8-(k+1)+1:=by omega
    have hp4:2^(8-(k+1)+1+1)=2*2^(8-(k+1)+1):=by rw[Nat.pow_succ (n:=2) (m:=8-(k+1)+1)];omega
    have hmm:mm<256:=by omega
    have ek:((k+1:Nat):Int)-1=(k:Int):=by omega
    obtain⟨uu,huu⟩:∃uu,uu=u/2^k%2:=⟨_,rfl⟩
    have huu1:uu≤1:=by omega
    have eu:((u:Int)/(2:Int)^k).tmod 2=(uu:Int):=by
     have hcp:((2^k:Nat):Int)=(2:Int)^k:=by norm_cast
     rw[huu,←hcp,Int.tmod_eq_emod_of_nonneg (Int.ediv_nonneg (Int.natCast_nonneg _) (Int.natCast_nonneg _))]
     rfl
    rw[←huu] at hup
    clear huu
    cases same with
    |true=>
      simp only[if_true,Bool.true_and] at hup
      have e0:768*lt+mm+256*(1+uu)=(nLiteral lt).o+(256*(1+uu)+mm):=by show 768*lt+mm+256*(1+uu)=768*lt+(256*(1+uu)+mm);omega
      rw[e0] at hup
      have HB:=Hd (bit_calls HA.out (nLiteral lt) (mem_literal hlit) (256*(1+uu)+mm) (by show 256*(1+uu)+mm<768;omega) (by show 768*lt+(256*(1+uu)+mm)<Lz.rowLen c.lc c.lp 6;omega))
      have hb:=bit_le y' 6 ((nLiteral lt).o+(256*(1+uu)+mm))
      have HB2:Hid (Calls Tryz.prog 127 #[ptr l.X,bstr (num sLiteral lt),.int .i64 ((256*(1+uu)+mm:Nat):Int)] wr (RPost {l with st:=st'} c wr (y'.bit 6 ((nLiteral lt).o+(256*(1+uu)+mm))))):=HB
      clear HB e0 HA
      generalize y'.bit 6 ((nLiteral lt).o+(256*(1+uu)+mm))=r at*
      have eb:(r.1==uu)=decide (r.1=uu):=by rw[Bool.eq_iff_iff];simp
      have eb2:((r.1:Int)==(uu:Int))=decide (r.1=uu):=by rw[Bool.eq_iff_iff];simp;omega
      go_wp2_with fail
      refine HB2.out.mono ?_
      rintro e w3 ⟨rfl,hf2,st2,hA2,hg2⟩
      have HF2:=Hd (S_trans HF.out HG.out hf2)
      have HG2:=Hd (sf_trans HF.out.size HG.out hg2)
      have HA2:=Hd hA2
      clear hf2 hA2 hg2 HB2 HF HG
      go_wp2_with fail
      go_roundw
      case rel=>exact⟨k,2*mm+r.1,decide (r.1=uu),r.2,st2,by omega,by go_num,by go_num,by first|rfl|rw[eb]|rw[eb2],by rw[hp3];omega,by rw[hp3];omega,HF2.out,HA2.out,HG2.out,hup⟩
      case measure=>first|(simp[intOf];done)|(simp[intOf];omega)
    |false=>
      simp only[Bool.false_eq_true,if_false,Bool.false_and] at hup
      have e0:768*lt+mm+0=(nLiteral lt).o+(mm):=by show 768*lt+mm+0=768*lt+(mm);omega
      rw[e0] at hup
      have HB:=Hd (bit_calls HA.out (nLiteral lt) (mem_literal hlit) (mm) (by show mm<768;omega) (by show 768*lt+(mm)<Lz.rowLen c.lc c.lp 6;omega))
      have hb:=bit_le y' 6 ((nLiteral lt).o+(mm))
      have HB2:Hid (Calls Tryz.prog 127 #[ptr l.X,bstr (num sLiteral lt),.int .i64 ((mm:Nat):Int)] wr (RPost {l with st:=st'} c wr (y'.bit 6 ((nLiteral lt).o+(mm))))):=HB
      clear HB e0 HA
      generalize y'.bit 6 ((nLiteral lt).o+(mm))=r at*
      have eb:(r.1==uu)=decide (r.1=uu):=by rw[Bool.eq_iff_iff];simp
      have eb2:((r.1:Int)==(uu:Int))=decide (r.1=uu):=by rw[Bool.eq_iff_iff];simp;omega
      go_wp2_with fail
      refine HB2.out.mono ?_
      rintro e w3 ⟨rfl,hf2,st2,hA2,hg2⟩
      have HF2:=Hd (S_trans HF.out HG.out hf2)
      have HG2:=Hd (sf_trans HF.out.size HG.out hg2)
      have HA2:=Hd hA2
      clear hf2 hA2 hg2 HB2 HF HG
      go_wp2_with fail
      go_roundw
      case rel=>exact⟨k,2*mm+r.1,false,r.2,st2,by omega,by go_num,by go_num,by first|rfl|rw[eb]|rw[eb2],by rw[hp3];omega,by rw[hp3];omega,HF2.out,HA2.out,HG2.out,hup⟩
      case measure=>first|(simp[intOf];done)|(simp[intOf];omega)
end Rf
end Go.Proofs.YtilegoadokmcdaaGreatDoor
