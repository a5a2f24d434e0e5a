/- Part 41 of 48: lemmas of the last part, each under the conditions that it names. -/
import Derived.Deep.RegionHeld3
import Derived.StillTailTactics
import Derived.Test.YtffoddpjfgjelaaGreatDoorQ34
import Derived.Test.YtffoddpjfgjelaaGreatDoorQ38
set_option linter.unusedVariables false
set_option linter.unusedSimpArgs false
set_option maxRecDepth 1500
set_option maxHeartbeats 2000000
namespace Go.Proofs.YtffoddpjfgjelaaGreatDoor
open Go.RowKit
namespace En
open Mem Rc Win Lz St
theorem XAt.box{w w':World}{l:XL}{x:Xe}(h:XAt w l x){k:Nat}{cs:Array Value}{t:TypeId}{fr:Nat×Nat}(hk:w.heap[k]? =some (.cells cs t fr))(h1:t≠219)(h2:t≠5)(h3:t≠3)(hf:Fr (XF l) w w'):w'.heap[k]? =some (.cells cs t fr):=hf.keep hk (h.off hk h1 h2 h3)
abbrev syV(k by':Nat)(n d:Int):Array Value:=#[.int .i64 k,.int .u8 by',.int .i64 n,.int .i64 d]
theorem and15(r:Nat):bits BinOp.and IntKind.i64 (r:Int) 15=(r:Int)%16:=by
 have hx:r%16<16:=Nat.mod_lt _ (by decide)
 have h2:(BitVec.ofInt 64 (15:Int)).toNat=2^4-1:=by decide
 have h1:(BitVec.ofInt 64 (r:Int)).toNat=r%2^64:=by rw[BitVec.ofInt_natCast,BitVec.toNat_ofNat]
 show IntKind.i64.wrap ((BitVec.ofInt 64 (r:Int)&&&BitVec.ofInt 64 (15:Int)).toNat:Int)=_
 rw[BitVec.toNat_and,h1,h2,Nat.and_two_pow_sub_one_eq_mod,Nat.mod_mod_of_dvd _ (by decide)]
 exact IntWalk.i64_in _ (by omega)
theorem min_slot(n:Nat)(h:2≤n):64*min ((n:Int)-2) 3=((slotAt n:Nat):Int):=by unfold slotAt;omega
set_option maxRecDepth 4000 in
theorem distance_calls{w:World}{l:XL}{x:Xe}(h:XAt w l x)(hp:XSep l){n d by':Nat}(h1:2≤n)(h2:n≤273)(hd:isD d)(hs:x.e.k.s≤1099511620000):
 Calls Tryz.prog 196 #[ptr l.D,iV l.E,.agg (syV 2 by' n d)] w (SPost l w (x.ops (distOps n (slotOf d) d))):=by
 have hf:=(R0 w).alloc (.cells (syV 2 by' n d) 110)
 have hx:=heap_alloc_new w (.cells (syV 2 by' n d) 110)
 have hA:=h.keep hf
 obtain⟨s1,s2,s3⟩:=slotOf_in hd.1 hd.2
 have HSL:=fun W=>Hd (slot_calls d W hd.1 hd.2)
 have hsa:slotAt n+64≤256:=by unfold slotAt;omega
 have hms:=min_slot n h1
 have HO:=Hd (show distOps n (slotOf d) d=treeOps false 15 (slotAt n) 6 (slotOf d) 6 1++restOps (slotOf d) (d-(range (slotOf d)).1) from rfl)
 generalize slotOf d=slot at*
 generalize slotAt n=sa at*
 have hr:=range_le ⟨slot,s1⟩
 simp only at hr
 have HRG:=fun W=>Hd (range_calls slot (by omega) W)
 have hR0:(range slot).2=0→restOps slot (d-(range slot).1)=[]:=fun h=>by unfold restOps;rw[if_pos h]
 have hRB:¬(range slot).2=0→slot<14→restOps slot (d-(range slot).1)=treeOps true 16 (restAt slot) (range slot).2 (d-(range slot).1) (range slot).2 1:=fun h h2=>by unfold restOps;rw[if_neg h,if_pos h2]
 have hRC:¬(range slot).2=0→¬slot<14→restOps slot (d-(range slot).1)=halves ((d-(range slot).1)/16) ((range slot).2-4)++treeOps true 17 0 4 ((d-(range slot).1)%16) 4 1:=fun h h2=>by unfold restOps;rw[if_neg h,if_neg h2]
 have hR4:(range slot).2≠0→4≤slot:=fun h=>by
  unfold range at h
  split at h
  ·exact absurd rfl h
  ·omega
 have hRa:4≤slot→slot<14→restAt slot+2^(range slot).2≤128:=fun h h2=>restAt_le ⟨slot,h2⟩ h
 obtain⟨hr1,hr2,hr3,hr4,hr5⟩:=hr
 generalize restOps slot (d-(range slot).1)=ro at*
 generalize(range slot).1=ls at*
 generalize(range slot).2=bits at*
 obtain⟨r,hr⟩:∃r,r=d-ls:=⟨_,rfl⟩
 have hri:(d:Int)-ls=(r:Int):=by omega
 have hrb:r<2^bits:=by omega
 rw[←hr] at hRB hRC
 have HR0:=Hd hR0
 have HRB:=Hd hRB
 have HRC:=Hd hRC
 have HR4:=Hd hR4
 have HRa:=Hd hRa
 have HSR:=Hd (And.intro hr4 hr5)
 clear hR0 hRB hRC hR4 hRa hr4 hr5 hr
 have HF:=Hd hf
 have HFIN:=Hd (show∀(o:List Op)(w':World),distOps n slot d=o→XPost l _ (x.ops o) w'→XPost l w (x.ops (distOps n slot d)) w' from fun o w' e hq=>by rw[e];exact XPost.box hf hq)
 have hm1:=fun k=>m_tree k l.E
 have hm2:=fun k=>m_back k l.E
 have hm3:=fun k=>m_direct k l.E
 have hn1:=fun k=>na_tree k l.E
 have hn2:=fun k=>na_back k l.E
 clear h hf
 go_enter Tryz.func196,Tryz.ntmps196
 go_wp2_with fail
 generalize hz:w.heap.size=z at*
 generalize hW:w.alloc (.cells (syV 2 by' n d) 110)=W at*
 refine(HSL _).out.mono ?_
 rintro e w1 ⟨rfl,rfl⟩
 go_wp2_with fail
 refine(HRG _).out.mono ?_
 rintro e w1 ⟨rfl,rfl⟩
 go_upto_region 3 with fail
 have hx5:W.heap[z]? =some (.cells (syV 2 by' n d) 110 (0,0)):=hx
 have HA:=Hd hA
 have HX:=Hd hx5
 have hc:=ctree_calls (hA.keep (R0 W).drew) hp (j:=15) (a:=sa) (n:=6) (v:=slot) (by omega) (by omega) (by omega) (by show sa+64≤256;exact hsa) (by omega)
 rw[show((6:Nat):Int)=6 from rfl] at hc
 have HC:=Hd hc
 have HCC:=Hd (show W.drew.cell? ⟨l.D,0,none⟩=some (ptr l.T)∧W.drew.cell? ⟨l.T,23,none⟩=some (ptr (l.b 15))∧W.drew.cell? ⟨z,2,none⟩=some (.int .i64 n) from⟨hA.cells.d0,hA.cells.row 15 (by omega),cell_in hx5 rfl⟩)
 have HAD:=Hd (hA.keep (R0 W).drew)
 have HXD:=Hd ((R0 W).drew.keep hx5 (fun h=>h))
 clear hA hx hx5 hc
 go_cut [] (fun wx=>(∃v2,Fr (XF l) W wx∧XAt wx {l with v:=v2} (x.ops (treeOps false 15 sa 6 slot 6 1))∧XSep {l with v:=v2}∧∀k,v2.ownBlock=some k→l.v.ownBlock=some k∨W.heap.size≤k)∧wx.heap[z]? =some (.cells (syV 2 by' n d) 110 (0,0)))
 case first=>
  obtain⟨k0,k1,k2⟩:=HCC.out
  have hw1:IntKind.i64.wrap ((n:Int)-2)=(n:Int)-2:=IntWalk.i64_in _ (by omega)
  have hw2:IntKind.i64.wrap (sa:Int)=(sa:Int):=IntWalk.i64_in _ (by omega)
  go_region_held3 (fun w'=>w'.cell? ⟨l.D,0,none⟩=some (ptr l.T)∧w'.cell? ⟨l.T,23,none⟩=some (ptr (l.b 15))∧w'.cell? ⟨z,2,none⟩=some (.int .i64 n)) (with_reducible exact HCC.out) ((
   (go_at_call 341
    with_reducible refine HC.out.mono ?_
    rintro e w2 ⟨rfl,f2,v2,a2,s2,n2⟩
    have hx2:=HAD.out.box HXD.out (by decide) (by decide) (by decide) f2
    have HCC:=Hd (show w2.cell? ⟨l.D,0,none⟩=some (ptr l.T)∧w2.cell? ⟨l.T,23,none⟩=some (ptr (l.b 15))∧w2.cell? ⟨z,2,none⟩=some (.int .i64 n) from⟨a2.cells.d0,a2.cells.row 15 (by omega),cell_in hx2 rfl⟩)
    have HQ:=Hd (And.intro (show∃v2,Fr (XF l) W w2∧XAt w2 {l with v:=v2} (x.ops (treeOps false 15 sa 6 slot 6 1))∧XSep {l with v:=v2}∧∀k,v2.ownBlock=some k→l.v.ownBlock=some k∨W.heap.size≤k from⟨v2,(Fr.refl (XF l) W).drew.trans f2,a2,s2,n2⟩) hx2)
    clear f2 a2 s2 n2 hx2)))
  all_goals
   go_wp2_with fail
   go_meet
   exact HQ.out
 case rest=>
  obtain⟨⟨v2,f2,a2,s2,n2⟩,hx2⟩:=hcut
  have d3:=cell_in (i:=3) hx2 rfl
  have hu:=run_s (treeOps false 15 sa 6 slot 6 1) x.e
  rw[tree_len] at hu
  by_cases hb0:bits=0
  ·subst hb0
   have HD:=Hd (HO.out.trans (by rw[HR0.out rfl,List.append_nil]))
   have HP:=Hd (HFIN.out _ wc HD.out ⟨f2,v2,a2,s2,n2⟩)
   clear f2 a2 s2 n2 hx2 hu hms
   go_wp2_with fail
   go_end0
   exact⟨rfl,HP.out⟩
  have hb0i:((bits:Int)==0)=false:=by simp[hb0]
  by_cases h14:slot<14
  ·have hb5:=HSR.out.2 (HR4.out hb0) h14
   have hra:=HRa.out (HR4.out hb0) h14
   have HL:=fun W=>Hd (late_no slot h14 W)
   have HRT:=fun W=>Hd (restAt_calls slot W (by omega))
   have HD:=Hd (HO.out.trans (by rw[HRB.out hb0 h14]))
   have hp1:=Nat.two_pow_pos bits
   have hc:=cback_calls (a2.keep (R0 wc).drew) s2 (j:=16) (a:=restAt slot) (n:=bits) (v:=r) (by omega) (by omega) hrb (by show restAt slot+2^bits≤128;exact hra) (Nat.le_trans hu (by omega))
   have HC:=Hd hc
   have HF2:=Hd f2
   have HN2:=Hd n2
   have HCC:=Hd (show wc.drew.cell? ⟨l.D,0,none⟩=some (ptr l.T)∧wc.drew.cell? ⟨l.T,24,none⟩=some (ptr (l.b 16)) from⟨a2.cells.d0,a2.cells.row 16 (by omega)⟩)
   clear f2 a2 s2 n2 hx2 hu hms hc hra hp1 hrb hr1
   generalize restAt slot=ra at*
   go_wp2_with fail
   refine(HL _).out.mono ?_
   rintro e w3 ⟨rfl,rfl⟩
   go_wp2_with fail
   obtain⟨k0,k1⟩:=HCC.out
   go_region_held3 (fun w'=>w'.cell? ⟨l.D,0,none⟩=some (ptr l.T)∧w'.cell? ⟨l.T,24,none⟩=some (ptr (l.b 16))) (with_reducible exact HCC.out) ((first
    | (go_at_call 246
       with_reducible refine(HRT _).out.mono ?_
       rintro e wq ⟨rfl,rfl⟩)
    | (go_at_call 338
       with_reducible refine HC.out.mono ?_
       rintro e w4 ⟨rfl,f4,v4,a4,s4,n4⟩
       have HCC:=Hd (show w4.cell? ⟨l.D,0,none⟩=some (ptr l.T)∧w4.cell? ⟨l.T,24,none⟩=some (ptr (l.b 16)) from⟨a4.cells.d0,a4.cells.row 16 (by omega)⟩)
       have HP:=Hd (HFIN.out _ w4 HD.out (by rw[←ops_ops];exact XPost.trans HF2.out HN2.out (XPost.box (R0 wc).drew ⟨f4,v4,a4,s4,n4⟩)))
       clear f4 a4 s4 n4)))
   all_goals
    go_wp2_with fail
    go_end0
    exact⟨rfl,HP.out⟩
  ·have hb4:=HSR.out.1 (by omega)
   have HL:=fun W=>Hd (late_yes slot (by omega) W)
   have HD:=Hd (HO.out.trans (by rw[HRC.out hb0 h14]))
   obtain⟨bb,hbb⟩:∃bb,bb=bits-4:=⟨_,rfl⟩
   obtain⟨q,hq⟩:∃q,q=r/16:=⟨_,rfl⟩
   obtain⟨m,hm⟩:∃m,m=r%16:=⟨_,rfl⟩
   rw[←hbb,←hq,←hm] at HD
   have hpw:2^bits=2^bb*16:=by rw[show(16:Nat)=2^4 by rfl,←Nat.pow_add];congr 1;omega
   have hqb:q<2^bb:=by omega
   have hp2:2^bb≤2^26:=Nat.pow_le_pow_right (by omega) (by omega)
   have hc:=cdirect_calls a2 s2 (n:=bb) (v:=q) (by omega) (by omega) (Nat.le_trans hu (by omega))
   rw[show((q:Nat):Int)=(r:Int)/16 by omega,show((bb:Nat):Int)=(bits:Int)-4 by omega] at hc
   have HC:=Hd hc
   have HF2:=Hd f2
   have HN2:=Hd n2
   have hu2:=run_s (halves q bb) (x.ops (treeOps false 15 sa 6 slot 6 1)).e
   have hhl:∀k,(halves q k).length=k:=fun k=>by
    induction k with
    |zero=>rfl
    |succ k ih=>rw[halves,List.length_cons,ih]
   rw[hhl] at hu2
   have HU:=Hd (Nat.le_trans hu2 (Nat.add_le_add_right hu bb))
   have hm16:m<16:=by omega
   have hbbl:bb≤26:=by omega
   have hmi:((m:Nat):Int)=(r:Int)%16:=by omega
   have HMI:=Hd hmi
   have hm15:=and15 r
   clear hmi
   clear f2 a2 s2 n2 hx2 hu hms hc hpw hqb hp2 hq hhl hu2 hrb hr1 s3 hbb hm
   go_wp2_with fail
   refine(HL _).out.mono ?_
   rintro e w3 ⟨rfl,rfl⟩
   go_wp2_with fail
   refine HC.out.mono ?_
   rintro e w4 ⟨rfl,f4,v4,a4,s4,n4⟩
   have hc:=cback_calls (a4.keep (R0 w4).drew) s4 (j:=17) (a:=0) (n:=4) (v:=m) (by omega) (by omega) hm16 (show 0+2^4≤16 by decide) (Nat.le_trans HU.out (by omega))
   rw[show((4:Nat):Int)=4 from rfl,show((0:Nat):Int)=0 from rfl,HMI.out] at hc
   have HC5:=Hd hc
   have HF4:=Hd f4
   have HN4:=Hd n4
   have HCC:=Hd (show w4.drew.cell? ⟨l.D,0,none⟩=some (ptr l.T)∧w4.drew.cell? ⟨l.T,25,none⟩=some (ptr (l.b 17)) from⟨a4.cells.d0,a4.cells.row 17 (by omega)⟩)
   clear f4 a4 s4 n4 hc
   go_wp2_with fail
   obtain⟨k0,k1⟩:=HCC.out
   go_region_held3 (fun w'=>w'.cell? ⟨l.D,0,none⟩=some (ptr l.T)∧w'.cell? ⟨l.T,25,none⟩=some (ptr (l.b 17))) (with_reducible exact HCC.out) ((
    (go_at_call 338
     with_reducible refine HC5.out.mono ?_
     rintro e w5 ⟨rfl,f5,v5,a5,s5,n5⟩
     have HCC:=Hd (show w5.cell? ⟨l.D,0,none⟩=some (ptr l.T)∧w5.cell? ⟨l.T,25,none⟩=some (ptr (l.b 17)) from⟨a5.cells.d0,a5.cells.row 17 (by omega)⟩)
     have HP:=Hd (HFIN.out _ w5 HD.out (by rw[←ops_ops,←ops_ops];exact XPost.trans HF2.out HN2.out (XPost.trans HF4.out HN4.out (XPost.box (R0 w4).drew ⟨f5,v5,a5,s5,n5⟩))))
     clear f5 a5 s5 n5)))
   all_goals
    go_wp2_with fail
    go_end0
    exact⟨rfl,HP.out⟩
end En
namespace En
open Mem Rc Win Lz St
theorem XAt.last0{w:World}{l:XL}{x:Xe}(h:XAt w l x)(d:Nat):Calls Tryz.prog 191 #[ptr l.W,.int .i64 d] w fun e w'=>e=.returned (.tuple #[.int .u8 (x.c.lastB d),.int .i64 (Win.last x.c.size x.c.all d).2])∧w=w':=
 Win.last_calls l.W x.c.size l.t d l.rv x.c.all l.ring _ h.win
theorem XAt.contextC{w:World}{l:XL}{x:Xe}(h:XAt w l x)(m:Nat):Calls Tryz.prog 241 #[ptr l.T,.int .i64 x.c.all.length,.int .u8 (x.c.lastB 1)] (w.drewN m) fun e w'=>e=.returned (.int .i64 x.c.context)∧∃n,w'=w.drewN n:=by
 refine(context_calls l.T x.c.all.length x.c.lc x.c.lp (x.c.lastB 1) _ (h.drewN m).cells.t0 (h.drewN m).cells.t1 h.ok.c.l (by have:=h.win.much;omega) (last_lt x.c 1)).mono ?_
 rintro e w' ⟨rfl,n,rfl⟩
 exact⟨rfl,m+n,by simp⟩
set_option maxRecDepth 100000 in
theorem literal_calls{w:World}{l:XL}{x:Xe}(h:XAt w l x)(hp:XSep l){by':Nat}(hby:by'<256)(hs:x.e.k.s≤1099511620000):
 Calls Tryz.prog 194 #[ptr l.D,iV l.E,.int .i64 by'] w (SPost l w (x.ops (litOps x.c by'))):=by
 have hcx:x.c.context+768≤768*2^(x.c.lc+x.c.lp):=(context_le x.c).resolve_right (by have:=h.ok.c.l;omega)
 have hp4:2^(x.c.lc+x.c.lp)≤2^4:=Nat.pow_le_pow_right (by omega) h.ok.c.l
 have hcx2:x.c.context≤12288:=by omega
 have k0:=h.cells.d0
 have k1:=h.cells.d1
 have HL1:=Hd (h.last0 1)
 have HPOS:=Hd h.pos
 have HCON:=Hd h.contextC
 have HALL:=Hd (fun n=>h.drewN n)
 have HFN:=Hd (fun n=>(R0 w).drewN n)
 have HCX:=Hd hcx
 have HO7:=Hd (show x.c.s.num<7→litOps x.c by'=treeOps false 6 x.c.context 8 by' 8 1 from fun k=>by unfold litOps;rw[if_pos k])
 have HO8:=Hd (show¬x.c.s.num<7→litOps x.c by'=matOps (x.c.lastB x.c.s.r0) x.c.context by' 8 1 true from fun k=>by unfold litOps;rw[if_neg k])
 have hm1:=fun k=>m_bit k l.E
 have hm2:=fun k=>m_tree k l.E
 have hn1:=fun k=>na_tree k l.E
 have hn2:=fun k=>na_bit k l.E
 clear h hcx hp4
 go_enter Tryz.func194,Tryz.ntmps194
 go_wp2_with fail
 refine HL1.out.mono ?_
 rintro e w2 ⟨rfl,rfl⟩
 generalize(Win.last x.c.size x.c.all 1).2=er1
 have hl1:=last_lt x.c 1
 generalize x.c.lastB 1=lb1 at*
 generalize x.c.context=cx at*
 go_wp2_with fail
 go_quiet (first|exact quiet_left (HPOS.out _)|exact HCON.out _)
 have hA1:=HALL.out nq
 have hf1:=HFN.out nq
 generalize w.drewN nq=W1 at*
 have HF1:=Hd hf1
 have HA1:=Hd hA1
 clear HALL HFN HPOS HCON HL1 k0 k1 hf1
 have k0:=hA1.cells.d0
 have t3:=hA1.cells.t3
 have t4:=hA1.cells.t4
 have t5:=hA1.cells.t5
 have t6:=hA1.cells.t6
 have t7:=hA1.cells.t7
 clear hA1
 cases h7:decide (x.c.s.num<7) with
 |true=>
   have HLC:=Hd (At.litC x.c W1 true h7)
   have HD:=Hd (HO7.out (of_decide_eq_true h7))
   clear h7
   go_wp2_with fail
   refine HLC.out.mono ?_
   rintro e w3 ⟨rfl,hfr3⟩
   have hA3:=HA1.out.keep hfr3
   have HF3:=Hd (HF1.out.trans hfr3)
   have hc:=ctree_calls (hA3.keep (R0 w3).drew) hp (j:=6) (a:=cx) (n:=8) (v:=by') (by omega) (by omega) hby (by have:=HCX.out;show cx+2^8≤768*2^(x.c.lc+x.c.lp);omega) (by omega)
   rw[show((8:Nat):Int)=8 from rfl] at hc
   have HC:=Hd hc
   have HCC:=Hd (show w3.drew.cell? ⟨l.D,0,none⟩=some (ptr l.T)∧w3.drew.cell? ⟨l.T,14,none⟩=some (ptr (l.b 6)) from⟨hA3.cells.d0,hA3.cells.row 6 (by omega)⟩)
   clear hA3 hfr3 k0 t3 t4 t5 t6 t7 hc
   go_wp2_with fail
   obtain⟨k0,k1⟩:=HCC.out
   go_region_held3 (fun w'=>w'.cell? ⟨l.D,0,none⟩=some (ptr l.T)∧w'.cell? ⟨l.T,14,none⟩=some (ptr (l.b 6))) (with_reducible exact HCC.out) ((
    (go_at_call 341
     with_reducible refine HC.out.mono ?_
     rintro e w4 ⟨rfl,f4,v4,a4,s4,n4⟩
     have HCC:=Hd (show w4.cell? ⟨l.D,0,none⟩=some (ptr l.T)∧w4.cell? ⟨l.T,14,none⟩=some (ptr (l.b 6)) from⟨a4.cells.d0,a4.cells.row 6 (by omega)⟩)
     have HP:=Hd (show XPost l w (x.ops (litOps x.c by')) w4 from by rw[HD.out];exact XPost.box (HF3.out.trans (R0 w3).drew) ⟨f4,v4,a4,s4,n4⟩)
     clear f4 a4 s4 n4)))
   all_goals
    go_wp2_with fail
    go_end0
    exact⟨rfl,HP.out⟩
 |false=>
   have HLC:=Hd (At.litC x.c W1 false h7)
   have HD:=Hd (HO8.out (of_decide_eq_false h7))
   clear h7
   go_wp2_with fail
   refine HLC.out.mono ?_
   rintro e w3 ⟨rfl,hfr3⟩
   have hA3:=HA1.out.keep hfr3
   have HLS:=Hd (show∀m,Calls Tryz.prog 191 #[ptr l.W,.int .i64 x.c.s.r0] (w3.drewN m) fun e w'=>e=.returned (.tuple #[.int .u8 (x.c.lastB x.c.s.r0),.int .i64 (Win.last x.c.size x.c.all x.c.s.r0).2])∧w3.drewN m=w' from fun m=>(hA3.drewN m).last0 x.c.s.r0)
   have m0:=hA3.cells.d0
   have m1:=hA3.cells.d1
   have m3:=hA3.cells.t4
   have HALL:=Hd (fun n=>hA3.drewN n)
   have HFN:=Hd (fun n=>(HF1.out.trans hfr3).drewN n)
   clear hA3 hfr3 k0 t3 t4 t5 t6 t7 HA1 HLC
   generalize(Win.last x.c.size x.c.all x.c.s.r0).2=er2 at*
   have hlb:=last_lt x.c x.c.s.r0
   generalize x.c.lastB x.c.s.r0=lb at*
   go_wp2_with fail
   go_quiet (exact quiet_left (HLS.out _))
   have hA4:=HALL.out nq
   have hf4:=HFN.out nq
   generalize w3.drewN nq=W4 at*
   have HP4:=Hd (show XPost l w (x.ops []) W4 from XPost.box hf4 ⟨Fr.refl _ _,l.v,hA4,hp,fun k hk=>.inl hk⟩)
   clear hA4 hf4 HALL HFN HLS m0 m1 m3
   go_wp2_with fail
   go_loopw [12,13,14] (fun s i m wr=>∃(k mm:Nat)(ss:Bool)(o:List Op),k≤8∧i=.int .i64 ((k:Int)-1)∧m=.int .i64 mm∧s=.bool ss∧(mm+1)*2^k≤512∧XPost l w (x.ops o) wr∧o.length+k=8∧o++matOps lb cx by' k mm ss=litOps x.c by') (fun _ i _ _=>(intOf i+1).toNat)
   case atStart=>exact⟨8,1,true,[],by omega,rfl,rfl,rfl,by decide,HP4.out,rfl,by rw[HD.out];rfl⟩
   case round=>
    obtain⟨k,mm,ss,o,hk,rfl,rfl,rfl,hmm,⟨f5,v5,a5,s5,n5⟩,hol,hops⟩:=hrel
    by_cases hk0:k=0
    ·subst hk0
     have HP:=Hd (show XPost l w (x.ops (litOps x.c by')) wr from by
      rw[←hops,show matOps lb cx by' 0 mm ss=[] from rfl,List.append_nil]
      exact⟨f5,v5,a5,s5,n5⟩)
     clear f5 a5 s5 n5 hops hmm hol
     go_wp2_with fail
     go_end0
     exact⟨rfl,HP.out⟩
    ·obtain⟨j,rfl⟩:∃j,k=j+1:=⟨k-1,by omega⟩
     have hi:((j+1:Nat):Int)-1=(j:Int):=by omega
     rw[hi]
     have hu:=and_one lb j hlb
     have hv:=and_one by' j hby
     have hub:lb/2^j%2≤1:=by omega
     have hvb:by'/2^j%2≤1:=by omega
     rw[matOps] at hops
     generalize lb/2^j%2=ub at*
     generalize by'/2^j%2=vb at*
     have hp0:=Nat.two_pow_pos j
     rw[Nat.pow_succ] at hmm
     have hm512:mm<256:=by
      have h2:(mm+1)*2≤(mm+1)*(2^j*2):=Nat.mul_le_mul_left _ (by omega)
      omega
     have HMM:=Hd (show(2*mm+vb+1)*2^j≤512 from by
      have h3:(2*mm+vb+1)*2^j≤(2*mm+2)*2^j:=Nat.mul_le_mul_right _ (by omega)
      rw[show(mm+1)*(2^j*2)=(2*mm+2)*2^j by rw[Nat.mul_comm (2^j) 2,←Nat.mul_assoc];congr 1;omega] at hmm
      omega)
     obtain⟨ad,had⟩:∃ad,ad=(if ss=true then 256*(1+ub) else 0):=⟨_,rfl⟩
     rw[←had] at hops
     have hadb:ad≤512:=by rw[had];split<;>omega
     have HADD:=Hd had
     have hsb:=run_s o x.e
     have HBC:=Hd (fun(W:World)(hW:Fr (fun _=>False) wr W)(q:Int)(hq:q=((cx+mm+ad:Nat):Int))=>show Calls Tryz.prog 339 #[sinkV l.E,ptr (l.b 6),.int .i64 q,.int .i64 vb] W (SPost {l with v:=v5} W ((x.ops o).ops [.bit 6 (cx+mm+ad) vb])) from by
      rw[hq]
      exact cbit_calls (a5.keep hW) s5 ⟨by omega,by show cx+mm+ad<768*2^(x.c.lc+x.c.lp);have:=HCX.out;omega,hvb⟩ (Nat.le_trans hsb (by omega)))
     have HA5:=Hd a5
     have HOPS:=Hd hops
     have HPQ:=Hd (show∀W w7,Fr (fun _=>False) wr W→XPost {l with v:=v5} W ((x.ops o).ops [.bit 6 (cx+mm+ad) vb]) w7→XPost l w (x.ops (o++[.bit 6 (cx+mm+ad) vb])) w7 from fun W w7 hW hq=>by
      rw[←ops_ops]
      exact XPost.trans f5 n5 (XPost.box hW hq))
     have IS:=Hd (show((vb:Int)==(ub:Int))=decide (vb=ub) by rw[Bool.eq_iff_iff];simp;omega)
     have HSTEP:=Hd (show∀s2,s2=(ss&&decide (vb=ub))→(o++[.bit 6 (cx+mm+ad) vb])++matOps lb cx by' j (2*mm+vb) s2=litOps x.c by' from fun s2 h2=>by rw[h2,←hops];simp)
     clear f5 a5 s5 n5 hops hmm hi hk0 hp0 had hsb
     cases ss
     all_goals
      go_wp2_with fail
      go_quiet (fail)
      have HFQ:=Hd ((R0 wr).drewN nq)
      generalize wr.drewN nq=W6 at*
      have HA6:=Hd (HA5.out.keep HFQ.out)
      go_upto_region 13 with fail
      go_cut [] from 78 to 122 (fun wx=>XPost l w (x.ops (o++[.bit 6 (cx+mm+ad) vb])) wx)
      case first=>
       have hAD:=HA6.out.keep (R0 W6).drew
       have HCC:=Hd (show W6.drew.cell? ⟨l.D,0,none⟩=some (ptr l.T)∧W6.drew.cell? ⟨l.T,14,none⟩=some (ptr (l.b 6)) from⟨hAD.cells.d0,hAD.cells.row 6 (by omega)⟩)
       obtain⟨m0,m1⟩:=HCC.out
       clear hAD
       go_region_held3 (fun w'=>w'.cell? ⟨l.D,0,none⟩=some (ptr l.T)∧w'.cell? ⟨l.T,14,none⟩=some (ptr (l.b 6))) (with_reducible exact HCC.out) ((
        (go_at_call 339
         with_reducible refine(HBC.out W6.drew (HFQ.out.trans (R0 W6).drew) _ (by have:=HADD.out;simp at this;omega)).mono ?_
         rintro e w7 ⟨rfl,f7,v7,a7,s7,n7⟩
         have HCC:=Hd (show w7.cell? ⟨l.D,0,none⟩=some (ptr l.T)∧w7.cell? ⟨l.T,14,none⟩=some (ptr (l.b 6)) from⟨a7.cells.d0,a7.cells.row 6 (by omega)⟩)
         have HP:=Hd (HPQ.out W6.drew w7 (HFQ.out.trans (R0 W6).drew) ⟨f7,v7,a7,s7,n7⟩)
         clear f7 a7 s7 n7)))
       all_goals
        go_wp2_with fail
        go_meet
        exact HP.out
      case rest=>
       have HP:=Hd hcut
       clear hcut
       go_wp2_with fail
       go_roundw
       case rel=>exact⟨j,2*mm+vb,_,o++[.bit 6 (cx+mm+ad) vb],by omega,rfl,by go_num,rfl,HMM.out,HP.out,by rw[List.length_append,List.length_singleton];omega,HSTEP.out _ (by first|rfl|(rw[IS.out];rfl)|simp[IS.out])⟩
       case measure=>simp[intOf]
end En
namespace En
open Mem Rc Win Lz St
theorem XAt.atC{w:World}{l:XL}{x:Xe}(h:XAt w l x)(m:Nat):Calls Tryz.prog 192 #[ptr l.T,.int .i64 x.c.all.length] (w.drewN m) fun e w'=>e=.returned (.int .i64 x.c.at)∧∃n,w'=w.drewN n:=by
 refine(at_calls l.T x.c.all.length x.c.pb x.c.s.num _ (h.drewN m).cells.t2 (h.drewN m).cells.t3 h.ok.c.pb (by have:=h.win.much;omega) h.ok.c.s.num).mono ?_
 rintro e w' ⟨rfl,n,rfl⟩
 exact⟨rfl,m+n,by simp⟩
theorem XPost.cells{w W:World}{l:XL}{x:Xe}(h:XPost l w x W):XCells W l x:=by
 obtain⟨_,v,a,_⟩:=h
 exact⟨a.cells.1,a.cells.2,a.cells.3,a.cells.4,a.cells.5,a.cells.6,a.cells.7,a.cells.8,a.cells.9,a.cells.10,a.cells.11,a.cells.12⟩
theorem XPost.kept{w W:World}{l:XL}{x x0:Xe}(h0:XAt w l x0)(h:XPost l w x W){k:Nat}{n d:Int}{kd by':Nat}(hk:w.heap[k]? =some (.cells (syV kd by' n d) 110 (0,0))):W.heap[k]? =some (.cells (syV kd by' n d) 110 (0,0)):=
 h0.box hk (by decide) (by decide) (by decide) h.1
theorem XPost.start{w:World}{l:XL}{x:Xe}(h:XAt w l x)(hp:XSep l):XPost l w (x.ops []) w:=⟨Fr.refl _ _,l.v,h,hp,fun k hk=>.inl hk⟩
theorem bit_step{w W:World}{l:XL}{x:Xe}{o:List Op}(hq:XPost l w (x.ops o) W){j i b:Nat}(ok:Op.Ok x.c.lc x.c.lp (.bit j i b))(hs:x.e.k.s+o.length≤1099511627000):
 Calls Tryz.prog 339 #[sinkV l.E,ptr (l.b j),.int .i64 i,.int .i64 b] W.drew fun e w'=>e=.returned (.tuple #[])∧XPost l w (x.ops (o++[.bit j i b])) w':=by
 obtain⟨f,v,a,s,n⟩:=hq
 refine(cbit_calls (a.keep (R0 W).drew) s ok (Nat.le_trans (run_s o x.e) hs)).mono ?_
 rintro e w' ⟨rfl,hq⟩
 refine⟨rfl,?_⟩
 rw[←ops_ops]
 exact XPost.trans f n (XPost.box (R0 W).drew hq)
theorem len_len(c:C)(q n:Nat):(lenOps c q n).length≤10:=by
 unfold lenOps
 split
 ·simp[tree_len]
 ·split<;>simp[tree_len]
theorem row_ok{c:C}(h:c.Ok){j i b:Nat}(hj:j=0∧i=c.at∨j=1∧i=c.at∨(2≤j∧j≤5)∧i=c.s.num)(hb:b≤1):Op.Ok c.lc c.lp (.bit j i b):=by
 have hat:=at_lt c h
 have hnum:=h.s.num
 refine⟨by omega,?_,hb⟩
 unfold Lz.rowLen
 rcases hj with⟨rfl,rfl⟩|⟨rfl,rfl⟩|⟨h1,rfl⟩
 ·exact hat
 ·exact hat
 ·rw[if_neg (by omega),if_pos (by omega)]
  omega
end En
namespace En
open Mem Rc Win Lz St
set_option maxRecDepth 100000 in
theorem code_lit{w:World}{l:XL}{x:Xe}(h:XAt w l x)(hp:XSep l){by':Nat}{n d:Int}(hby:by'<256)(hs:x.e.k.s≤1099511610000):
 Calls Tryz.prog 132 #[ptr l.D,iV l.E,.agg (syV 1 by' n d)] w (SPost l w (x.ops ([.bit 0 x.c.at 0]++litOps x.c by'))):=by
 have hf:=(R0 w).alloc (.cells (syV 1 by' n d) 110)
 have hx:=heap_alloc_new w (.cells (syV 1 by' n d) 110)
 have hA:=h.keep hf
 have hm1:=fun k=>m_bit k l.E
 have hn1:=fun k=>na_bit k l.E
 have HF:=Hd hf
 have HRW:=Hd (fun j i b=>row_ok (j:=j) (i:=i) (b:=b) h.ok.c)
 clear h hf
 go_enter Tryz.func132,Tryz.ntmps132
 go_wp2_with fail
 generalize hz:w.heap.size=z at*
 generalize hW:w.alloc (.cells (syV 1 by' n d) 110)=W at*
 have HPOS:=Hd hA.pos
 have HATC:=Hd hA.atC
 have k0:=hA.cells.d0
 have k1:=hA.cells.d1
 have k2:=hA.cells.t3
 have HX:=Hd hx
 have HA:=Hd hA
 clear hx hA hW
 go_quiet (first|exact quiet_left (HPOS.out _)|exact HATC.out _)
 have HX1:=Hd (((R0 W).drewN nq).keep HX.out (fun h=>h))
 have HA1:=Hd (HA.out.drewN nq)
 have HF1:=Hd (HF.out.drewN nq)
 have HP0:=Hd (XPost.start HA1.out hp)
 clear HPOS HATC HX HA HF k0 k1 k2
 generalize W.drewN nq=W1 at*
 have z0:=cell_in (i:=0) HX1.out rfl
 have hc:=bit_step HP0.out (j:=0) (i:=x.c.at) (b:=0) (HRW.out _ _ _ (by omega) (by omega)) (by simp only[List.length_append,List.length_cons,List.length_nil];omega)
 rw[show((0:Nat):Int)=0 from rfl] at hc
 have HC:=Hd hc
 have k0:=HP0.out.cells.d0
 have k1:W1.cell? ⟨l.T,8,none⟩=some (ptr (l.b 0)):=HP0.out.cells.row 0 (by omega)
 clear hc
 go_wp2_with fail
 go_still_tail 12,(by kernel_rfl)
 go_wp2_with fail
 refine HC.out.mono ?_
 rintro e w1 ⟨rfl,hq⟩
 have HP1:=Hd hq
 clear hq k0 k1 HC z0
 obtain⟨f,v,a,s,nn⟩:=HP1.out
 have hu:=run_s ([]++[.bit 0 x.c.at 0]) x.e
 have HC:=Hd (literal_calls a s hby (Nat.le_trans hu (by simp only[List.length_append,List.length_cons,List.length_nil];omega)))
 have HFN:=Hd (And.intro f nn)
 have z1:=cell_in (i:=1) (XPost.kept HA1.out HP1.out HX1.out) rfl
 clear f a s nn hu
 go_wp2_with fail
 refine HC.out.mono ?_
 rintro e w2 ⟨rfl,hq⟩
 have KEY:=Hd (show XPost l w (x.ops ([.bit 0 x.c.at 0]++litOps x.c by')) w2 from XPost.box HF1.out (by rw[←ops_ops];exact XPost.trans HFN.out.1 HFN.out.2 hq))
 clear hq
 go_wp2_with fail
 go_end0
 exact⟨rfl,KEY.out⟩
set_option maxRecDepth 100000 in
theorem code_short{w:World}{l:XL}{x:Xe}(h:XAt w l x)(hp:XSep l){by':Nat}{n d:Int}(hs:x.e.k.s≤1099511610000):
 Calls Tryz.prog 132 #[ptr l.D,iV l.E,.agg (syV 4 by' n d)] w (SPost l w (x.ops ([.bit 0 x.c.at 1]++([.bit 2 x.c.s.num 1]++([.bit 3 x.c.s.num 0]++[.bit 1 x.c.at 0]))))):=by
 have hf:=(R0 w).alloc (.cells (syV 4 by' n d) 110)
 have hx:=heap_alloc_new w (.cells (syV 4 by' n d) 110)
 have hA:=h.keep hf
 have hm1:=fun k=>m_bit k l.E
 have hn1:=fun k=>na_bit k l.E
 have HF:=Hd hf
 have HRW:=Hd (fun j i b=>row_ok (j:=j) (i:=i) (b:=b) h.ok.c)
 clear h hf
 go_enter Tryz.func132,Tryz.ntmps132
 go_wp2_with fail
 generalize hz:w.heap.size=z at*
 generalize hW:w.alloc (.cells (syV 4 by' n d) 110)=W at*
 have HPOS:=Hd hA.pos
 have HATC:=Hd hA.atC
 have k0:=hA.cells.d0
 have k1:=hA.cells.d1
 have k2:=hA.cells.t3
 have HX:=Hd hx
 have HA:=Hd hA
 clear hx hA hW
 go_quiet (first|exact quiet_left (HPOS.out _)|exact HATC.out _)
 have HX1:=Hd (((R0 W).drewN nq).keep HX.out (fun h=>h))
 have HA1:=Hd (HA.out.drewN nq)
 have HF1:=Hd (HF.out.drewN nq)
 have HP0:=Hd (XPost.start HA1.out hp)
 clear HPOS HATC HX HA HF k0 k1 k2
 generalize W.drewN nq=W1 at*
 have z0:=cell_in (i:=0) HX1.out rfl
 have hc:=bit_step HP0.out (j:=0) (i:=x.c.at) (b:=1) (HRW.out _ _ _ (by omega) (by omega)) (by simp only[List.length_append,List.length_cons,List.length_nil];omega)
 rw[show((1:Nat):Int)=1 from rfl] at hc
 have HC:=Hd hc
 have k0:=HP0.out.cells.d0
 have k1:W1.cell? ⟨l.T,8,none⟩=some (ptr (l.b 0)):=HP0.out.cells.row 0 (by omega)
 clear hc
 go_wp2_with fail
 go_still_tail 12,(by kernel_rfl)
 go_wp2_with fail
 refine HC.out.mono ?_
 rintro e w1 ⟨rfl,hq⟩
 have HP1:=Hd hq
 clear hq k0 k1 HC z0
 have z0:=cell_in (i:=0) (XPost.kept HA1.out HP1.out HX1.out) rfl
 have hc:=bit_step HP1.out (j:=2) (i:=x.c.s.num) (b:=1) (HRW.out _ _ _ (by omega) (by omega)) (by simp only[List.length_append,List.length_cons,List.length_nil];omega)
 rw[show((1:Nat):Int)=1 from rfl] at hc
 have HC:=Hd hc
 have k0:=HP1.out.cells.d0
 have k1:w1.cell? ⟨l.T,10,none⟩=some (ptr (l.b 2)):=HP1.out.cells.row 2 (by omega)
 clear hc
 go_wp2_with fail
 go_still_tail 12,(by kernel_rfl)
 go_wp2_with fail
 refine HC.out.mono ?_
 rintro e w2 ⟨rfl,hq⟩
 have HP2:=Hd hq
 clear hq k0 k1 HC z0
 have z0:=cell_in (i:=0) (XPost.kept HA1.out HP2.out HX1.out) rfl
 have hc:=bit_step HP2.out (j:=3) (i:=x.c.s.num) (b:=0) (HRW.out _ _ _ (by omega) (by omega)) (by simp only[List.length_append,List.length_cons,List.length_nil];omega)
 rw[show((0:Nat):Int)=0 from rfl] at hc
 have HC:=Hd hc
 have k0:=HP2.out.cells.d0
 have k1:w2.cell? ⟨l.T,11,none⟩=some (ptr (l.b 3)):=HP2.out.cells.row 3 (by omega)
 clear hc
 go_wp2_with fail
 go_still_tail 12,(by kernel_rfl)
 go_wp2_with fail
 refine HC.out.mono ?_
 rintro e w3 ⟨rfl,hq⟩
 have HP3:=Hd hq
 clear hq k0 k1 HC z0
 have hc:=bit_step HP3.out (j:=1) (i:=x.c.at) (b:=0) (HRW.out _ _ _ (by omega) (by omega)) (by simp only[List.length_append,List.length_cons,List.length_nil];omega)
 rw[show((0:Nat):Int)=0 from rfl] at hc
 have HC:=Hd hc
 have k0:=HP3.out.cells.d0
 have k1:w3.cell? ⟨l.T,9,none⟩=some (ptr (l.b 1)):=HP3.out.cells.row 1 (by omega)
 clear hc
 go_wp2_with fail
 go_still_tail 12,(by kernel_rfl)
 go_wp2_with fail
 refine HC.out.mono ?_
 rintro e w4 ⟨rfl,hq⟩
 have HP4:=Hd hq
 clear hq k0 k1 HC
 have KEY:=Hd (show XPost l w (x.ops ([.bit 0 x.c.at 1]++([.bit 2 x.c.s.num 1]++([.bit 3 x.c.s.num 0]++[.bit 1 x.c.at 0])))) w4 from XPost.box HF1.out (by simpa using HP4.out))
 go_wp2_with fail
 go_end0
 exact⟨rfl,KEY.out⟩
end En
namespace En
open Mem Rc Win Lz St
set_option maxRecDepth 100000 in
theorem code_match{w:World}{l:XL}{x:Xe}(h:XAt w l x)(hp:XSep l){by' n d:Nat}(hn:isL n)(hd:isD d)(hs:x.e.k.s≤1099511610000):
 Calls Tryz.prog 132 #[ptr l.D,iV l.E,.agg (syV 2 by' n d)] w (SPost l w (x.ops ([.bit 0 x.c.at 1]++([.bit 2 x.c.s.num 0]++(lenOps x.c 7 n++distOps n (slotOf d) d))))):=by
 have hf:=(R0 w).alloc (.cells (syV 2 by' n d) 110)
 have hx:=heap_alloc_new w (.cells (syV 2 by' n d) 110)
 have hA:=h.keep hf
 have hm1:=fun k=>m_bit k l.E
 have hn1:=fun k=>na_bit k l.E
 have HF:=Hd hf
 have HRW:=Hd (fun j i b=>row_ok (j:=j) (i:=i) (b:=b) h.ok.c)
 clear h hf
 go_enter Tryz.func132,Tryz.ntmps132
 go_wp2_with fail
 generalize hz:w.heap.size=z at*
 generalize hW:w.alloc (.cells (syV 2 by' n d) 110)=W at*
 have HPOS:=Hd hA.pos
 have HATC:=Hd hA.atC
 have k0:=hA.cells.d0
 have k1:=hA.cells.d1
 have k2:=hA.cells.t3
 have HX:=Hd hx
 have HA:=Hd hA
 clear hx hA hW
 go_quiet (first|exact quiet_left (HPOS.out _)|exact HATC.out _)
 have HX1:=Hd (((R0 W).drewN nq).keep HX.out (fun h=>h))
 have HA1:=Hd (HA.out.drewN nq)
 have HF1:=Hd (HF.out.drewN nq)
 have HP0:=Hd (XPost.start HA1.out hp)
 clear HPOS HATC HX HA HF k0 k1 k2
 generalize W.drewN nq=W1 at*
 have z0:=cell_in (i:=0) HX1.out rfl
 have hc:=bit_step HP0.out (j:=0) (i:=x.c.at) (b:=1) (HRW.out _ _ _ (by omega) (by omega)) (by simp only[List.length_append,List.length_cons,List.length_nil];omega)
 rw[show((1:Nat):Int)=1 from rfl] at hc
 have HC:=Hd hc
 have k0:=HP0.out.cells.d0
 have k1:W1.cell? ⟨l.T,8,none⟩=some (ptr (l.b 0)):=HP0.out.cells.row 0 (by omega)
 clear hc
 go_wp2_with fail
 go_still_tail 12,(by kernel_rfl)
 go_wp2_with fail
 refine HC.out.mono ?_
 rintro e w1 ⟨rfl,hq⟩
 have HP1:=Hd hq
 clear hq k0 k1 HC z0
 have z0:=cell_in (i:=0) (XPost.kept HA1.out HP1.out HX1.out) rfl
 have hc:=bit_step HP1.out (j:=2) (i:=x.c.s.num) (b:=0) (HRW.out _ _ _ (by omega) (by omega)) (by simp only[List.length_append,List.length_cons,List.length_nil];omega)
 rw[show((0:Nat):Int)=0 from rfl] at hc
 have HC:=Hd hc
 have k0:=HP1.out.cells.d0
 have k1:w1.cell? ⟨l.T,10,none⟩=some (ptr (l.b 2)):=HP1.out.cells.row 2 (by omega)
 clear hc
 go_wp2_with fail
 go_still_tail 12,(by kernel_rfl)
 go_wp2_with fail
 refine HC.out.mono ?_
 rintro e w2 ⟨rfl,hq⟩
 have HP2:=Hd hq
 clear hq k0 k1 HC z0
 obtain⟨f,v,a,s,nn⟩:=HP2.out
 have hu:=run_s ([]++[.bit 0 x.c.at 1]++[.bit 2 x.c.s.num 0]) x.e
 have HC:=Hd (length_calls (a.keep (R0 w2).drew) s (q:=7) (.inl rfl) hn.1 hn.2 (Nat.le_trans hu (by simp only[List.length_append,List.length_cons,List.length_nil];omega)))
 have t0:w2.cell? ⟨l.T,15,none⟩=some (ptr (l.b 7)):=a.cells.row 7 (by omega)
 have t1:w2.cell? ⟨l.T,16,none⟩=some (ptr (l.b 8)):=a.cells.row 8 (by omega)
 have t2:w2.cell? ⟨l.T,17,none⟩=some (ptr (l.b 9)):=a.cells.row 9 (by omega)
 have t3:w2.cell? ⟨l.T,18,none⟩=some (ptr (l.b 10)):=a.cells.row 10 (by omega)
 have k0:=a.cells.d0
 have z2:=cell_in (i:=2) (XPost.kept HA1.out HP2.out HX1.out) rfl
 have HFN:=Hd (And.intro f nn)
 clear f a s nn hu
 go_wp2_with fail
 go_still_tail 11,(by kernel_rfl)
 go_wp2_with fail
 refine HC.out.mono ?_
 rintro e w3 ⟨rfl,hq⟩
 have HP3:=Hd (show XPost l W1 (x.ops (([]++[.bit 0 x.c.at 1]++[.bit 2 x.c.s.num 0])++lenOps x.c 7 n)) w3 from by rw[←ops_ops];exact XPost.trans HFN.out.1 HFN.out.2 (XPost.box (R0 w2).drew hq))
 clear hq k0 t0 t1 t2 t3 z2
 obtain⟨f,v,a,s,nn⟩:=HP3.out
 have hu:=run_s (([]++[.bit 0 x.c.at 1]++[.bit 2 x.c.s.num 0])++lenOps x.c 7 n) x.e
 have hll:=len_len x.c 7 n
 have HC:=Hd (distance_calls (by':=by') a s hn.1 hn.2 hd (Nat.le_trans hu (by simp only[List.length_append,List.length_cons,List.length_nil];omega)))
 have HFN:=Hd (And.intro f nn)
 have HX3:=Hd (XPost.kept HA1.out HP3.out HX1.out)
 obtain⟨z0,z1,z2,z3⟩:=cs4 HX3.out rfl rfl rfl rfl
 clear f a s nn hu hll
 go_wp2_with fail
 refine HC.out.mono ?_
 rintro e w4 ⟨rfl,hq⟩
 have KEY:=Hd (show XPost l w (x.ops ([.bit 0 x.c.at 1]++([.bit 2 x.c.s.num 0]++(lenOps x.c 7 n++distOps n (slotOf d) d)))) w4 from XPost.box HF1.out (by have:=XPost.trans HFN.out.1 HFN.out.2 hq;rw[ops_ops] at this;simpa using this))
 clear hq
 go_wp2_with fail
 go_end0
 exact⟨rfl,KEY.out⟩
end En
end Go.Proofs.YtffoddpjfgjelaaGreatDoor
