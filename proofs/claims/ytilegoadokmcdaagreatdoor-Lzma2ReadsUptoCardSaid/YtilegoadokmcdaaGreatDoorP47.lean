/- Part 47 of 53: lemmas of the last part, each under the conditions that it names. -/
import Derived.Test.YtilegoadokmcdaaGreatDoorP26
import Derived.Test.YtilegoadokmcdaaGreatDoorP31
import Derived.Test.YtilegoadokmcdaaGreatDoorP46
set_option linter.unusedVariables false
set_option linter.unusedSimpArgs false
set_option maxRecDepth 1500
set_option maxHeartbeats 32000000
namespace Go.Proofs.YtilegoadokmcdaaGreatDoor
open Go.RowKit
namespace Rf
open Mem Rc Prob St Win Ck Wire Lz
def headR(r:Except Nat (Head×Nat×Nat)):Head×Nat×Nat:=match r with
 |.error e=>(Head.none,0,e)
 |.ok x=>(x.1,x.2.1,0)
section
variable {b:List UInt8}{packed size:Int}{s:Sr}{k:Nat}
theorem hp1(h:beyond packed (s.at'+1)=true):headR (headP b packed size s)=(Head.none,0,2):=by
 unfold headP
 rw[if_pos h]
 rfl
theorem hp2(h1:¬beyond packed (s.at'+1)=true)(h2:s.at'=b.length):headR (headP b packed size s)=(Head.none,0,1):=by
 unfold headP
 rw[if_neg h1,if_pos h2]
 rfl
theorem hp3(h1:¬beyond packed (s.at'+1)=true)(h2:¬s.at'=b.length)(hk:kindOf (b.getD s.at' 0).toNat=none):headR (headP b packed size s)=(Head.none,0,2):=by
 unfold headP
 rw[if_neg h1,if_neg h2,hk]
 rfl
theorem hp4(h1:¬beyond packed (s.at'+1)=true)(h2:¬s.at'=b.length)(hk:kindOf (b.getD s.at' 0).toNat=some k)(hm:Ck.move s.now k=4):headR (headP b packed size s)=(Head.none,0,2):=by
 unfold headP
 rw[if_neg h1,if_neg h2,hk]
 simp only
 rw[if_pos hm]
 rfl
theorem hp5(h1:¬beyond packed (s.at'+1)=true)(h2:¬s.at'=b.length)(hk:kindOf (b.getD s.at' 0).toNat=some k)(hm:¬Ck.move s.now k=4)(h0:k=0∧ends packed size s.at' s.plain=false):headR (headP b packed size s)=(Head.none,0,2):=by
 unfold headP
 rw[if_neg h1,if_neg h2,hk]
 simp only
 rw[if_neg hm,if_pos h0]
 rfl
theorem hp7(h1:¬beyond packed (s.at'+1)=true)(h2:¬s.at'=b.length)(hk:kindOf (b.getD s.at' 0).toNat=some k)(hm:¬Ck.move s.now k=4)(h0:¬(k=0∧ends packed size s.at' s.plain=false))(hg:(Ck.get ((b.drop s.at').take 6)).2.2≠0):headR (headP b packed size s)=(Head.none,0,(Ck.get ((b.drop s.at').take 6)).2.2):=by
 unfold headP
 rw[if_neg h1,if_neg h2,hk]
 simp only
 rw[if_neg hm,if_neg h0,if_pos hg]
 rfl
theorem hp8(h1:¬beyond packed (s.at'+1)=true)(h2:¬s.at'=b.length)(hk:kindOf (b.getD s.at' 0).toNat=some k)(hm:¬Ck.move s.now k=4)(h0:¬(k=0∧ends packed size s.at' s.plain=false))(hg:(Ck.get ((b.drop s.at').take 6)).2.2=0)
 (hb:beyond packed (s.at'+(Ck.get ((b.drop s.at').take 6)).2.1+(Ck.get ((b.drop s.at').take 6)).1.packed)=true∨beyond size (s.plain+(Ck.get ((b.drop s.at').take 6)).1.size)=true):headR (headP b packed size s)=(Head.none,0,2):=by
 unfold headP
 rw[if_neg h1,if_neg h2,hk]
 simp only
 rw[if_neg hm,if_neg h0,if_neg (fun h=>h hg),if_pos hb]
 rfl
theorem hp9(h1:¬beyond packed (s.at'+1)=true)(h2:¬s.at'=b.length)(hk:kindOf (b.getD s.at' 0).toNat=some k)(hm:¬Ck.move s.now k=4)(h0:¬(k=0∧ends packed size s.at' s.plain=false))(hg:(Ck.get ((b.drop s.at').take 6)).2.2=0)
 (hb:¬(beyond packed (s.at'+(Ck.get ((b.drop s.at').take 6)).2.1+(Ck.get ((b.drop s.at').take 6)).1.packed)=true∨beyond size (s.plain+(Ck.get ((b.drop s.at').take 6)).1.size)=true)):headR (headP b packed size s)=((Ck.get ((b.drop s.at').take 6)).1,(Ck.get ((b.drop s.at').take 6)).2.1,0):=by
 unfold headP
 rw[if_neg h1,if_neg h2,hk]
 simp only
 rw[if_neg hm,if_neg h0,if_neg (fun h=>h hg),if_neg hb]
 rfl
theorem hp6(hle:s.at'≤b.length)(h1:¬beyond packed (s.at'+1)=true)(h2:¬s.at'=b.length)(hx:(b.getD s.at' 0).toNat=0)(hm:¬Ck.move s.now 0=4)(he:ends packed size s.at' s.plain=true):headR (headP b packed size s)=(Head.none,1,0):=by
 have hg:Ck.get ((b.drop s.at').take 6)=(Head.none,1,0):=by
  have hl:¬((b.drop s.at').take 6).length=0:=by rw[List.length_take,List.length_drop];omega
  have hd:(((b.drop s.at').take 6).getD 0 0).toNat=0:=by
   have h3:((b.drop s.at').take 6).getD 0 0=b.getD s.at' 0:=by simp[List.getD_eq_getElem?_getD,List.getElem?_take,List.getElem?_drop]
   rw[h3]
   exact hx
  unfold Ck.get
  simp only
  rw[if_neg hl,if_pos hd]
 have hk:kindOf (b.getD s.at' 0).toNat=some 0:=by rw[hx];rfl
 have:=hp9 (k:=0) (size:=size) h1 h2 hk hm (fun h=>by rw[he] at h;simp at h) (by rw[hg]) (by
  rw[hg]
  simp only[Head.none,Nat.add_zero]
  rintro(h|h)
  ·exact h1 h
  ·unfold beyond at h
   unfold ends at he
   simp only[decide_eq_true_eq] at h he
   omega)
 rw[this,hg]
end
theorem nx_move:∀now:Fin 3,∀k:Fin 7,nx (decide (now.val≠0),decide (now.val=2)) k.val=if Ck.move now.val k.val=4 then 2 else 0:=by decide
set_option maxRecDepth 100000 in
theorem rhead_calls(bv av:Value)(b:List UInt8)(bs:List Nat)(packed size:Int)(s:Sr)(w0 w:World)(hr:Rd w bv b)(hO:Ga.Own 3 1 w0 w av bs.length (ints bs))(hbs:∀x ∈ bs,1≤x∧x≤6)(hbl:bs.length≤1099511627776)(hn:s.now<3)(hsc:scan bs=(decide (s.now≠0),decide (s.now=2)))(hb:b.length≤4194304)(hle:s.at'≤b.length)(hpl:s.plain≤8796093022208)(hp2':packed≤9223372036854775807)(hs2:size≤9223372036854775807):
 Calls Tryz.prog 31 #[bv,.int .i64 s.at',av,.agg #[.int .i64 packed,.int .i64 size],.int .i64 s.plain] w fun e w'=>e=.returned (.tuple #[.agg (headR (headP b packed size s)).1.cells,.int .i64 (headR (headP b packed size s)).2.1,.int .i64 (headR (headP b packed size s)).2.2])∧Fr (fun _=>False) w w':=by
 obtain⟨at',plain,now⟩:=s
 simp only at hle hpl hn hsc ⊢
 obtain⟨bp,cap,rfl,hc1,hc2,hc3⟩:=hr
 have hr:Rd w (.slice bp b.length cap) b:=⟨bp,cap,rfl,hc1,hc2,hc3⟩
 have hf:=((Fr.refl (fun _=>False) w).alloc (.cells #[.int .i64 packed,.int .i64 size] 59)).alloc (.cells #[.int .i64 0,.int .i64 0,.int .i64 0,.int .i64 0,.int .i64 0,.int .i64 0] 52)
 have ht:=heap_alloc_new w (.cells #[.int .i64 packed,.int .i64 size] 59)
 have ht:=((Fr.refl (fun _=>False) (w.alloc (.cells #[.int .i64 packed,.int .i64 size] 59))).alloc (.cells #[.int .i64 0,.int .i64 0,.int .i64 0,.int .i64 0,.int .i64 0,.int .i64 0] 52)).keep ht (fun h=>h)
 have hx:=heap_alloc_new (w.alloc (.cells #[.int .i64 packed,.int .i64 size] 59)) (.cells #[.int .i64 0,.int .i64 0,.int .i64 0,.int .i64 0,.int .i64 0,.int .i64 0] 52)
 rw[World.size_alloc] at hx
 have HRD:=Hd (hr.keep hf)
 have HOW:=Hd (hO.keep hf)
 have t0:((w.alloc (.cells #[.int .i64 packed,.int .i64 size] 59)).alloc (.cells #[.int .i64 0,.int .i64 0,.int .i64 0,.int .i64 0,.int .i64 0,.int .i64 0] 52)).cell? ⟨w.heap.size,0,none⟩=some (.int .i64 packed):=cell_in ht rfl
 have t1:((w.alloc (.cells #[.int .i64 packed,.int .i64 size] 59)).alloc (.cells #[.int .i64 0,.int .i64 0,.int .i64 0,.int .i64 0,.int .i64 0,.int .i64 0] 52)).cell? ⟨w.heap.size,1,none⟩=some (.int .i64 size):=cell_in ht rfl
 obtain⟨r0,r1,r2,r3,r4,r5,rf⟩:=cf6 hx rfl rfl rfl rfl rfl rfl
 have HT:=Hd ht
 have HX:=Hd hx
 have HF:=Hd hf
 have HBS:=Hd hbs
 have HSCN:=Hd hsc
 obtain⟨g,hg⟩:∃g,g=headR (headP b packed size ⟨at',plain,now⟩):=⟨_,rfl⟩
 rw[←hg]
 have HG:=Hd hg
 obtain⟨post,hpost⟩:∃post:Ending→World→Prop,post=fun e w'=>e=.returned (.tuple #[.agg g.1.cells,.int .i64 g.2.1,.int .i64 g.2.2])∧Fr (fun _=>False) w w':=⟨_,rfl⟩
 have HP:Hid (∀(k sz pk lc lp pb n er:Int)(W:World),k=g.1.kind→sz=g.1.size→pk=g.1.packed→lc=g.1.lc→lp=g.1.lp→pb=g.1.pb→n=g.2.1→er=g.2.2→Fr (fun _=>False) w W→post (.returned (.tuple #[.agg #[.int .i64 k,.int .i64 sz,.int .i64 pk,.int .i64 lc,.int .i64 lp,.int .i64 pb],.int .i64 n,.int .i64 er])) W):=Hd (fun k sz pk lc lp pb n er W h1 h2 h3 h4 h5 h6 h7 h8 hf=>by
  rw[hpost,h1,h2,h3,h4,h5,h6,h7,h8]
  exact⟨rfl,hf⟩)
 rw[←hpost]
 clear hpost hf hg hc1 hc2 ht hx hr hO hbs hsc
 have HC3:=Hd hc3
 clear hc3
 go_enter Tryz.func31,Tryz.ntmps31
 go_upto_region 1 with fail
 generalize hz:w.heap.size=z at*
 have HZ:=Hd hz
 clear hz
 generalize World.alloc (World.alloc w _) _=W at*
 have FIN:Hid (∀(k sz pk lc lp pb m er:Int)(wk:World)(v0 v1 v2 v3 v4 v5:Value),k=g.1.kind→sz=g.1.size→pk=g.1.packed→lc=g.1.lc→lp=g.1.lp→pb=g.1.pb→m=g.2.1→er=g.2.2→Fr (fun _=>False) W wk→post (.returned (.tuple #[.agg #[.int .i64 k,.int .i64 sz,.int .i64 pk,.int .i64 lc,.int .i64 lp,.int .i64 pb],.int .i64 m,.int .i64 er])) ((((((wk.setCell ⟨z+1,0,none⟩ v0).setCell ⟨z+1,1,none⟩ v1).setCell ⟨z+1,2,none⟩ v2).setCell ⟨z+1,3,none⟩ v3).setCell ⟨z+1,4,none⟩ v4).setCell ⟨z+1,5,none⟩ v5)):=
  Hd (fun k sz pk lc lp pb m er wk v0 v1 v2 v3 v4 v5 h1 h2 h3 h4 h5 h6 h7 h8 hf=>HP.out _ _ _ _ _ _ _ _ _ h1 h2 h3 h4 h5 h6 h7 h8 (rd_off0 (HF.out.trans hf) (by have:=HZ.out;omega) (six_fr wk (z+1) v0 v1 v2 v3 v4 v5)))
 have FZ:Hid (∀(m er:Nat)(mi ei:Int)(wk:World)(v0 v1 v2 v3 v4 v5:Value),g=(Head.none,m,er)→mi=m→ei=er→Fr (fun _=>False) W wk→post (.returned (.tuple #[.agg #[.int .i64 0,.int .i64 0,.int .i64 0,.int .i64 0,.int .i64 0,.int .i64 0],.int .i64 mi,.int .i64 ei])) ((((((wk.setCell ⟨z+1,0,none⟩ v0).setCell ⟨z+1,1,none⟩ v1).setCell ⟨z+1,2,none⟩ v2).setCell ⟨z+1,3,none⟩ v3).setCell ⟨z+1,4,none⟩ v4).setCell ⟨z+1,5,none⟩ v5)):=
  Hd (fun m er mi ei wk v0 v1 v2 v3 v4 v5 h hm he hf=>FIN.out _ _ _ _ _ _ _ _ _ _ _ _ _ _ _ (by rw[h];rfl) (by rw[h];rfl) (by rw[h];rfl) (by rw[h];rfl) (by rw[h];rfl) (by rw[h];rfl) (by rw[h];exact hm) (by rw[h];exact he) hf)
 rcases(show(0≤packed∧packed≤at')∨((packed<0∨(0≤packed∧(at':Int)<packed))∧(size<0∨0≤size)) from by omega) with⟨hp,hb1⟩|⟨hp|⟨hp,hb1'⟩,hs|hs⟩
 ·have HGG:=Hd (HG.out.trans (hp1 (by unfold beyond;simp only[decide_eq_true_eq];omega)))
  go_wp2_with fail
  exact bodyPost_ret (by simp[results,Tryz.results31,go_sem,r0,r1,r2,r3,r4,r5]) rfl (FZ.out _ _ 0 2 _ _ _ _ _ _ _ HGG.out rfl rfl (Fr.refl _ _))
 all_goals
  have HB1:=Hd (show¬beyond packed (at'+1)=true by unfold beyond;simp only[decide_eq_true_eq];omega)
  by_cases hb2:at'=b.length
  ·have HGG:=Hd (HG.out.trans (hp2 HB1.out hb2))
   have hb2':(b.length:Int)≤at':=by omega
   go_wp2_with fail
   exact bodyPost_ret (by simp[results,Tryz.results31,go_sem,r0,r1,r2,r3,r4,r5]) rfl (FZ.out _ _ 0 1 _ _ _ _ _ _ _ HGG.out rfl rfl (Fr.refl _ _))
  have hb2':(at':Int)<b.length:=by omega
  have hb2n:at'<b.length:=by omega
  have hxx:b[at']? =some (b.getD at' 0):=by rw[List.getD_eq_getElem?_getD,List.getElem?_eq_getElem hb2n];rfl
  obtain⟨bb,o,rfl,hcell⟩:=byte_at HRD.out hxx
  have hxl:=UInt8.toNat_lt (b.getD at' 0)
  clear hxx
  generalize hxd:(b.getD at' 0).toNat=x at*
  have HXD:=Hd hxd
  clear hxd
  by_cases hx2:2<x∧x<128
  ·have hko:kindOf x=none:=by unfold kindOf;rw[if_neg (by omega),if_pos hx2.2]
   have HGG:=Hd (HG.out.trans (hp3 HB1.out hb2 (by simp only;rw[HXD.out];exact hko)))
   obtain⟨hx21,hx22⟩:=hx2
   clear hko
   go_wp2_with fail
   exact bodyPost_ret (by simp[results,Tryz.results31,go_sem,r0,r1,r2,r3,r4,r5]) rfl (FZ.out _ _ 0 2 _ _ _ _ _ _ _ HGG.out rfl rfl (Fr.refl _ _))
  rcases(show x=0∨(128≤x∨(1≤x∧x≤2)) from by omega) with hx0|hx128|hk12
  ·have HKO := Hd (show kindOf (b.getD (Sr.mk at' plain now).at' 0).toNat = some 0 by simp only; rw [HXD.out, hx0]; rfl)
   have HX0:=Hd (HXD.out.trans hx0)
   subst hx0
   have HNX:=Hd (show∀ki:Int,ki=((0:Nat):Int)→Calls Tryz.prog 52 #[av,.int .i64 ki] W (fun e w'=>e=.returned (.int .i64 ((nx (scan bs) 0:Nat):Int))∧w'=W) from fun ki hki=>by rw[hki];exact next17_calls av bs 0 (by omega) HBS.out w0 W HOW.out hbl)
   rw[HSCN.out] at HNX
   have hnm:=nx_move ⟨now,hn⟩ ⟨0,by omega⟩
   simp only at hnm
   rw[hnm] at HNX
   clear hnm
   by_cases hm:Ck.move now 0=4
   ·have HGG:=Hd (HG.out.trans (hp4 HB1.out hb2 HKO.out hm))
    rw[if_pos hm] at HNX
    clear hm
    go_wp2_with fail
    refine(HNX.out _ (by omega)).mono ?_
    rintro e w2 ⟨rfl,rfl⟩
    go_wp2_with fail
    exact bodyPost_ret (by simp[results,Tryz.results31,go_sem,r0,r1,r2,r3,r4,r5]) rfl (FZ.out _ _ 0 2 _ _ _ _ _ _ _ HGG.out rfl rfl (Fr.refl _ _))
   rw[if_neg hm] at HNX
   have HM:=Hd hm
   clear hm
   rcases(show(0≤packed∧¬packed=at'+1)∨(packed<0∨packed=at'+1) from by omega) with⟨hq0,hq1⟩|hq
   ·first
    |(exfalso;omega)
    | clear hq0
      have HGG:=Hd (HG.out.trans (hp5 HB1.out hb2 HKO.out HM.out ⟨rfl,by unfold ends;simp only[decide_eq_true_eq,decide_eq_false_iff_not];omega⟩))
      have hq1':(packed !=at'+1)=true:=by simp[hq1]
      have hq1'':(packed==at'+1)=false:=by simp[hq1]
      go_wp2_with fail
      refine(HNX.out _ (by omega)).mono ?_
      rintro e w2 ⟨rfl,rfl⟩
      go_wp2_with fail
      exact bodyPost_ret (by simp[results,Tryz.results31,go_sem,r0,r1,r2,r3,r4,r5]) rfl (FZ.out _ _ 0 2 _ _ _ _ _ _ _ HGG.out rfl rfl (Fr.refl _ _))
   try have hq1:packed=at'+1:=by omega
   try have hq1':(packed !=at'+1)=false:=by simp[hq1]
   clear hq
   rcases(show(0≤size∧¬size=plain)∨(size<0∨size=plain) from by omega) with⟨hq0,hq2⟩|hq
   ·first
    |(exfalso;omega)
    | clear hq0
      have HGG:=Hd (HG.out.trans (hp5 HB1.out hb2 HKO.out HM.out ⟨rfl,by unfold ends;simp only[decide_eq_true_eq,decide_eq_false_iff_not];omega⟩))
      have hq2':(size !=plain)=true:=by simp[hq2]
      go_wp2_with fail
      refine(HNX.out _ (by omega)).mono ?_
      rintro e w2 ⟨rfl,rfl⟩
      go_wp2_with fail
      exact bodyPost_ret (by simp[results,Tryz.results31,go_sem,r0,r1,r2,r3,r4,r5]) rfl (FZ.out _ _ 0 2 _ _ _ _ _ _ _ HGG.out rfl rfl (Fr.refl _ _))
   try have hq2:size=plain:=by omega
   try have hq2':(size !=plain)=false:=by simp[hq2]
   clear hq
   have HGG:=Hd (HG.out.trans (hp6 hle HB1.out hb2 HX0.out HM.out (by unfold ends;simp only[decide_eq_true_eq,decide_eq_false_iff_not];omega)))
   go_wp2_with fail
   refine(HNX.out _ (by omega)).mono ?_
   rintro e w2 ⟨rfl,rfl⟩
   go_wp2_with fail
   exact bodyPost_ret (by simp[results,Tryz.results31,go_sem,r0,r1,r2,r3,r4,r5]) rfl (FZ.out _ _ 1 0 _ _ _ _ _ _ _ HGG.out rfl rfl (Fr.refl _ _))
  focus
   obtain⟨k,hkd⟩:∃k,k=3+(x-128)/32:=⟨_,rfl⟩
   have hk6:1≤k∧k≤6:=by omega
   have hko:kindOf x=some k:=by
    unfold kindOf
    rw[if_neg (by omega),if_neg (by omega),hkd]
    congr 2
    omega
  rotate_left
  focus
   clear hx2
   obtain⟨k,hkd⟩:∃k,k=x:=⟨_,rfl⟩
   have hk6:1≤k∧k≤6:=by omega
   have hko:kindOf x=some k:=by unfold kindOf;rw[if_pos hk12.2,hkd]
  all_goals
   have HKO:=Hd (show kindOf (b.getD (Sr.mk at' plain now).at' 0).toNat=some k by simp only;rw[HXD.out];exact hko)
   clear hko
   have HNX:=Hd (show∀ki:Int,ki=((k:Nat):Int)→Calls Tryz.prog 52 #[av,.int .i64 ki] W (fun e w'=>e=.returned (.int .i64 ((nx (scan bs) k:Nat):Int))∧w'=W) from fun ki hki=>by rw[hki];exact next17_calls av bs k (by omega) HBS.out w0 W HOW.out hbl)
   rw[HSCN.out] at HNX
   have hnm:=nx_move ⟨now,hn⟩ ⟨k,by omega⟩
   simp only at hnm
   rw[hnm] at HNX
   clear hnm
   by_cases hm:Ck.move now k=4
   ·have HGG:=Hd (HG.out.trans (hp4 HB1.out hb2 HKO.out hm))
    rw[if_pos hm] at HNX
    clear hm
    go_wp2_with fail
    refine(HNX.out _ (by omega)).mono ?_
    rintro e w2 ⟨rfl,rfl⟩
    go_wp2_with fail
    exact bodyPost_ret (by simp[results,Tryz.results31,go_sem,r0,r1,r2,r3,r4,r5]) rfl (FZ.out _ _ 0 2 _ _ _ _ _ _ _ HGG.out rfl rfl (Fr.refl _ _))
   rw[if_neg hm] at HNX
   have HM:=Hd hm
   clear hm
   have H0:=Hd (show¬(k=0∧ends packed size at' plain=false) from fun h=>by omega)
   have hrd:=rd_drop (a:=at') HRD.out hle
   have hsl:=slice_lI (some ⟨bb,o,none⟩) b.length cap at' (at':Int) rfl hle
   have HGET:=Hd (rget_calls _ (b.drop at') W hrd)
   have h7:=fun h=>HG.out.trans (hp7 (s:=⟨at',plain,now⟩) HB1.out hb2 HKO.out HM.out H0.out h)
   have h8:=fun h h'=>HG.out.trans (hp8 (s:=⟨at',plain,now⟩) HB1.out hb2 HKO.out HM.out H0.out h h')
   have h9:=fun h h'=>HG.out.trans (hp9 (s:=⟨at',plain,now⟩) HB1.out hb2 HKO.out HM.out H0.out h h')
   have hg6:=get_le ((b.drop at').take 6)
   have hgs:=get_small ((b.drop at').take 6)
   simp only at h7 h8 h9
   generalize Ck.get ((b.drop at').take 6)=gg at*
   obtain⟨⟨gk,gs,gp,glc,glp,gpb⟩,gn,ge⟩:=gg
   simp only[Head.cells] at HGET h7 h8 h9 hg6 hgs
   obtain⟨hgs1,hgs2,hgs3,hgs4⟩:=hgs
   have H7:=Hd h7
   have H8:=Hd h8
   have H9:=Hd h9
   clear hgs3 hgs4 hrd h7 h8 h9
   generalize dropP (some ⟨bb,o,none⟩) cap at'=q1 at*
   go_wp2_with fail
   refine(HNX.out _ (by omega)).mono ?_
   rintro e w2 ⟨rfl,rfl⟩
   go_wp2_with fail
   refine HGET.out.mono ?_
   rintro e w9 ⟨rfl,hf9⟩
   have hf10:=(Fr.refl (fun _=>False) w9).alloc (.cells #[.int .i64 gk,.int .i64 gs,.int .i64 gp,.int .i64 glc,.int .i64 glp,.int .i64 gpb] 52)
   have hx10:=heap_alloc_new w9 (.cells #[.int .i64 gk,.int .i64 gs,.int .i64 gp,.int .i64 glc,.int .i64 glp,.int .i64 gpb] 52)
   have hz10:=hf10.keep (hf9.keep HX.out (fun h=>h)) (fun h=>h)
   have ht10:=hf10.keep (hf9.keep HT.out (fun h=>h)) (fun h=>h)
   have HF10:=Hd (hf9.trans hf10)
   clear t0 t1 r0 r1 r2 r3 r4 r5 rf hcell
   obtain⟨x0,x1,x2,x3,x4,x5⟩:=cs6 hx10 rfl rfl rfl rfl rfl rfl
   obtain⟨r0,r1,r2,r3,r4,r5,rf⟩:=cf6 hz10 rfl rfl rfl rfl rfl rfl
   obtain⟨t0,t1⟩:=cs2 ht10 rfl rfl
   clear hf9 hf10 hx10 hz10 ht10 HGET HNX
   by_cases hge:ge=0
   ·subst hge
    rcases(show(0≤packed∧packed-at'-gn<gp)∨(packed<0∨(gp:Int)≤packed-at'-gn) from by omega) with⟨hq0,hq1⟩|hq1
    ·first
     |(exfalso;omega)
     | clear hq0
       have HGG:=Hd (H8.out rfl (.inl (by unfold beyond;simp only[decide_eq_true_eq];omega)))
       go_wp2_with fail
       exact bodyPost_ret (by simp[results,Tryz.results31,go_sem,r0,r1,r2,r3,r4,r5]) rfl (FZ.out _ _ 0 2 _ _ _ _ _ _ _ HGG.out rfl rfl (HF10.out))
    try have hq1':(gp:Int)≤packed-at'-gn:=by omega
    clear hq1
    rcases(show(0≤size∧size-plain<gs)∨(size<0∨(gs:Int)≤size-plain) from by omega) with⟨hq0,hq2⟩|hq2
    ·first
     |(exfalso;omega)
     | clear hq0
       have HGG:=Hd (H8.out rfl (.inr (by unfold beyond;simp only[decide_eq_true_eq];omega)))
       go_wp2_with fail
       exact bodyPost_ret (by simp[results,Tryz.results31,go_sem,r0,r1,r2,r3,r4,r5]) rfl (FZ.out _ _ 0 2 _ _ _ _ _ _ _ HGG.out rfl rfl (HF10.out))
    try have hq2':(gs:Int)≤size-plain:=by omega
    clear hq2
    have HGG:=Hd (H9.out rfl (by unfold beyond;simp only[decide_eq_true_eq];omega))
    go_wp2_with fail
    refine bodyPost_ret (v:=.tuple #[.agg #[.int .i64 gk,.int .i64 gs,.int .i64 gp,.int .i64 glc,.int .i64 glp,.int .i64 gpb],.int .i64 gn,.int .i64 0]) (by simp[results,Tryz.results31,go_sem,r0,r1,r2,r3,r4,r5]) rfl ?_
    exact FIN.out _ _ _ _ _ _ _ _ _ _ _ _ _ _ _ (by rw[HGG.out]) (by rw[HGG.out]) (by rw[HGG.out]) (by rw[HGG.out]) (by rw[HGG.out]) (by rw[HGG.out]) (by rw[HGG.out]) (by rw[HGG.out];rfl) HF10.out
   ·have HGG:=Hd (H7.out hge)
    have hge2:((ge:Int) !=0)=true:=by simp[hge]
    go_wp2_with fail
    refine bodyPost_ret (v:=.tuple #[.agg #[.int .i64 0,.int .i64 0,.int .i64 0,.int .i64 0,.int .i64 0,.int .i64 0],.int .i64 0,.int .i64 ge]) (by simp[results,Tryz.results31,go_sem,r0,r1,r2,r3,r4,r5]) rfl ?_
    exact FIN.out _ _ _ _ _ _ _ _ _ _ _ _ _ _ _ (by rw[HGG.out];rfl) (by rw[HGG.out];rfl) (by rw[HGG.out];rfl) (by rw[HGG.out];rfl) (by rw[HGG.out];rfl) (by rw[HGG.out];rfl) (by rw[HGG.out];rfl) (by rw[HGG.out]) HF10.out
end Rf
namespace Rf
open Mem Rc Prob St Win Ck Wire Lz Ga
theorem get_end(xs:List UInt8)(h:(Ck.get xs).2.2=0)(hk:(Ck.get xs).1.kind=0):(Ck.get xs).1=Head.none∧(Ck.get xs).2.1=1:=by
 unfold Ck.get at*
 simp only at*
 by_cases h0:xs.length=0
 ·rw[if_pos h0] at h
  simp at h
 rw[if_neg h0] at h hk ⊢
 generalize(xs.getD 0 0).toNat=x at*
 by_cases h1:x=0
 ·rw[if_pos h1]
  exact⟨rfl,rfl⟩
 rw[if_neg h1] at h hk ⊢
 by_cases h2:x≤2
 ·rw[if_pos h2] at h hk ⊢
  by_cases h3:xs.length<3
  ·rw[if_pos h3] at h
   simp at h
  ·rw[if_neg h3] at hk
   exact absurd hk h1
 rw[if_neg h2] at h hk ⊢
 by_cases h3:x<128
 ·rw[if_pos h3] at h
  simp at h
 rw[if_neg h3] at h hk ⊢
 by_cases h4:xs.length<5
 ·rw[if_pos h4] at h
  simp at h
 rw[if_neg h4] at h hk ⊢
 by_cases h5:(x-128)/32<2
 ·rw[if_pos h5] at hk
  simp only at hk
  omega
 rw[if_neg h5] at h hk ⊢
 by_cases h6:xs.length<6
 ·rw[if_pos h6] at h
  simp at h
 rw[if_neg h6] at h hk ⊢
 by_cases h7:St.bytePropsOk (xs.getD 5 0).toNat=true
 ·rw[if_pos h7] at hk
  simp only at hk
  omega
 ·rw[if_neg h7] at h
  simp at h
theorem headP_end{b:List UInt8}{packed size:Int}{s:Sr}{h:Head}{n now:Nat}(e:headP b packed size s=.ok (h,n,now))(hk:h.kind=0):h=Head.none∧n=1:=by
 unfold headP at e
 split at e
 ·cases e
 ·split at e
  ·cases e
  ·split at e
   ·cases e
   ·split at e
    ·cases e
    ·split at e
     ·cases e
     ·split at e
      ·cases e
      ·rename_i hge
       split at e
       ·cases e
       ·have hge0:(Ck.get ((b.drop s.at').take 6)).2.2=0:=by simpa using hge
        have gk:=get_end ((b.drop s.at').take 6) hge0
        generalize Ck.get ((b.drop s.at').take 6)=g at*
        obtain⟨gh,gn,ge⟩:=g
        simp only[Except.ok.injEq,Prod.mk.injEq] at e gk
        obtain⟨rfl,rfl,rfl⟩:=e
        exact gk hk
theorem takeGo_props(n:Nat):∀(f:Nat)(c:C)(y:Y)(l:List Sy)(out:List UInt8){c2:C}{y2:Y}{l2:List Sy}{out2:List UInt8},takeGo n f c y l out=some (c2,y2,l2,out2)→c2.lc=c.lc∧c2.lp=c.lp∧c2.pb=c.pb
 |0,c,y,l,out,c2,y2,l2,out2,h=>by cases h
 |f+1,c,y,l,out,c2,y2,l2,out2,h=>by
   rw[takeGo_succ] at h
   split at h
   ·simp only[Option.some.injEq,Prod.mk.injEq] at h
    obtain⟨rfl,_⟩:=h
    exact⟨rfl,rfl,rfl⟩
   ·split at h
    ·cases h
    ·split at h
     ·cases h
     ·have:=takeGo_props n f ((c.on (St.apply c.size c.all c.s (y.symbol c).1).2.1).to (St.apply c.size c.all c.s (y.symbol c).1).2.2) _ _ _ h
      exact this
theorem take_props{c c2:C}{ps ps2:Nat→List Nat}{part outs:List UInt8}{ls:List Sy}{n:Nat}(h:takeAll c ps part n=some (ls,outs,c2,ps2)):c2.lc=c.lc∧c2.lp=c.lp∧c2.pb=c.pb:=by
 unfold takeAll at h
 split at h
 ·cases h
 ·split at h
  ·cases h
  ·rename_i c3 y3 l3 out3 hg
   split at h
   ·simp only[Option.some.injEq,Prod.mk.injEq] at h
    obtain⟨rfl,rfl,rfl,rfl⟩:=h
    exact takeGo_props n _ _ _ _ _ hg
   ·cases h
structure Stp(u u2:US)(c2:C)(ps2:Nat→List Nat)(more:List UInt8):Prop where
 c:u2.c=c2
 ps:u2.ps=ps2
 out:u2.out=u.out++more
 pr:u2.pr=(u2.c.lc,u2.c.lp,u2.c.pb)
theorem step_raw(u:US)(h:Head)(part:List UInt8)(hp:u.pr=(u.c.lc,u.c.lp,u.c.pb))(h1:1≤h.kind)(h2:h.kind≤2):(∃u2,u.step h part=some u2∧Stp u u2 ((beginC u.c u.ps h).1.on part) (beginC u.c u.ps h).2 part)∧u.syms h part=[]:=by
 refine⟨?_,by unfold US.syms;rw[if_pos h2]⟩
 unfold US.step beginC
 obtain hk|hk:h.kind=1∨h.kind=2:=by omega
 ·rw[if_neg (by omega),if_pos hk,if_pos hk]
  exact⟨_,rfl,rfl,rfl,rfl,hp⟩
 ·rw[if_pos (.inr hk),if_neg (by omega),if_neg (by omega),if_neg (by omega),if_neg (by omega)]
  exact⟨_,rfl,rfl,rfl,rfl,hp⟩
theorem step_take(u:US)(h:Head)(part:List UInt8)(hp:u.pr=(u.c.lc,u.c.lp,u.c.pb))(h3:3≤h.kind)(h6:h.kind≤6):match takeAll (beginC u.c u.ps h).1 (beginC u.c u.ps h).2 part h.size with
 |none=>u.step h part=none
 |some (ls,outs,c2,ps2)=>(∃u2,u.step h part=some u2∧Stp u u2 c2 ps2 outs)∧u.syms h part=ls:=by
 have key:∀v:US,v.c=(beginC u.c u.ps h).1→v.ps=(beginC u.c u.ps h).2→v.out=u.out→v.pr=(v.c.lc,v.c.lp,v.c.pb)→u.step h part=v.take part h.size→u.syms h part=(match takeAll v.c v.ps part h.size with|none=>[]|some r=>r.1)→match takeAll (beginC u.c u.ps h).1 (beginC u.c u.ps h).2 part h.size with
  |none=>u.step h part=none
  |some (ls,outs,c2,ps2)=>(∃u2,u.step h part=some u2∧Stp u u2 c2 ps2 outs)∧u.syms h part=ls:=by
  intro v hc hps ho hpr hst hsy
  rw[hst,hsy,←hc,←hps]
  unfold US.take
  cases ht:takeAll v.c v.ps part h.size with
  |none=>rfl
  |some r=>
    obtain⟨ls,outs,c2,ps2⟩:=r
    have htp:=take_props ht
    refine⟨⟨_,rfl,rfl,rfl,by simp only;rw[ho],?_⟩,rfl⟩
    simp only
    rw[hpr,htp.1,htp.2.1,htp.2.2]
 obtain hk|hk|hk|hk:h.kind=3∨h.kind=4∨h.kind=5∨h.kind=6:=by omega
 ·refine key u ?_ ?_ rfl hp ?_ ?_
  ·unfold beginC;simp[hk]
  ·unfold beginC;simp[hk]
  ·unfold US.step;simp[hk]
  ·unfold US.syms
   simp[hk]
   split<;>simp_all
 ·refine key u.reset ?_ ?_ rfl rfl ?_ ?_
  ·unfold beginC US.reset;simp[hk,hp]
  ·unfold beginC US.reset;simp[hk,hp]
  ·unfold US.step;simp[hk]
  ·unfold US.syms
   simp[hk]
   split<;>simp_all
 ·refine key (u.props h).reset ?_ ?_ rfl rfl ?_ ?_
  ·unfold beginC US.reset US.props;simp[hk]
  ·unfold beginC US.reset US.props;simp[hk]
  ·unfold US.step;simp[hk]
  ·unfold US.syms
   simp[hk]
   split<;>simp_all
 ·refine key (u.clear.props h).reset ?_ ?_ rfl rfl ?_ ?_
  ·unfold beginC US.reset US.props US.clear;simp[hk]
  ·unfold beginC US.reset US.props;simp[hk]
  ·unfold US.step;simp[hk]
  ·unfold US.syms
   simp[hk]
   split<;>simp_all
theorem begin_all(c:C)(ps:Nat→List Nat)(h:Head):(beginC c ps h).1.all.length≤c.all.length:=by
 unfold beginC
 split
 ·simp
 ·split
  ·exact Nat.le_refl _
  ·split
   ·exact Nat.le_refl _
   ·split
    ·simp[C.fresh]
    ·exact Nat.le_refl _
theorem step_end(u:US)(h:Head)(hk:h.kind=0):∃u2,u.step h []=some u2∧u2.out=u.out:=by
 unfold US.step
 rw[if_pos (.inl hk)]
 exact⟨_,rfl,by simp[US.raw]⟩
end Rf
end Go.Proofs.YtilegoadokmcdaaGreatDoor
