/- Part 29 of 52: lemmas of the last part, each under the conditions that it names. -/
import Derived.Deep.DeepCutAuto
import Derived.Deep.CutBlock
import Derived.Test.YtffoddpjfgjelaaGreatDoorP05
import Derived.Test.YtffoddpjfgjelaaGreatDoorP10
import Derived.Test.YtffoddpjfgjelaaGreatDoorP27
import Derived.Test.YtffoddpjfgjelaaGreatDoorP28
set_option linter.unusedVariables false
set_option linter.unusedSimpArgs false
set_option maxRecDepth 1500
set_option maxHeartbeats 4000000
namespace Go.Proofs.YtffoddpjfgjelaaGreatDoor
open Go.RowKit
namespace St
open Mem Win
set_option maxRecDepth 100000 in
theorem apply_in(B size t:Nat)(rv:Value)(all ring:List UInt8)(s:S)(hs:s.Ok)(y:Sy)(hy:y.Ok)(w:World)(hT:Tabs w)(h:Win.At w B rv size all ring t)(hmuch:all.length≤1152921504606846000)(ln dn:Int)(hnd:y.kind=2∨y.kind=3→ln=y.len∧dn=y.dist)(HN0:∀W,Tabs W→Calls Tryz.prog 126 #[.agg s.cells,.agg #[.int .i64 y.kind,.int .u8 y.byte,.int .i64 ln,.int .i64 dn]] W fun e w'=>e=.returned (.tuple #[.agg (s.next y).2.cells,.int .i64 (s.next y).1])∧Fr (fun _=>False) W w'):
 Calls Tryz.prog 133 #[.pointer (some ⟨B,0,none⟩),.agg s.cells,.agg #[.int .i64 y.kind,.int .u8 y.byte,.int .i64 ln,.int .i64 dn]] w fun e w'=>∃v,e=.returned (.tuple #[v,.agg (apply size all s y).2.2.cells,.int .i64 (apply size all s y).1])∧Done w B size rv all (apply size all s y).2.1 v w':=by
 have herr:=S.next_err s y
 have hlen:=next_len s y
 have HN:=fun W(h:Tabs W)=>Hd (HN0 W h)
 clear HN0
 generalize hap:apply size all s y=ap
 unfold apply at hap
 obtain⟨kind,byte,len,dist⟩:=y
 obtain⟨n,r0,r1,r2,r3⟩:=s
 have hk:=hy.kind
 have hbyte:=hy.byte
 have hd3:=hy.dist
 simp only at hk hap hbyte hd3 hnd HN ⊢
 clear hy
 obtain⟨c,rfl⟩:∃c:UInt8,byte=c.toNat:=⟨UInt8.ofNat byte,by simp;omega⟩
 clear hbyte
 simp only[S.cells] at HN ⊢
 generalize S.next ⟨n,r0,r1,r2,r3⟩ ⟨kind,c.toNat,len,dist⟩=r at*
 obtain⟨er,rn,ra,rb,rc,rd⟩:=r
 simp only at herr hap HN hlen
 have HLEN:=Hd hlen
 have HND:=Hd hnd
 clear hnd
 clear hlen
 have HAP:=Hd hap
 have HW:=Hd h
 have HT:=Hd hT
 have hB:B<w.heap.size:=lt_of_block h.box
 have hrvl:∀k,rv.ownBlock=some k→k<w.heap.size:=fun k hk=>(World.ownsRow.lt h.own k hk).2
 have HRV:=Hd hrvl
 clear hap h hT hrvl
 have hf0:Fr (fun _=>False) w (((w.alloc (.cells #[.int .i64 n,.int .i64 r0,.int .i64 r1,.int .i64 r2,.int .i64 r3] 84)).alloc (.cells #[.int .i64 kind,.int .u8 c.toNat,.int .i64 ln,.int .i64 dn] 110)).alloc (.cells #[.int .i64 0,.int .i64 0,.int .i64 0,.int .i64 0,.int .i64 0] 84)):=(((Fr.refl _ w).alloc _).alloc _).alloc _
 have hx0:=(((Fr.refl (fun _=>False) (w.alloc (.cells #[.int .i64 n,.int .i64 r0,.int .i64 r1,.int .i64 r2,.int .i64 r3] 84))).alloc (.cells #[.int .i64 kind,.int .u8 c.toNat,.int .i64 ln,.int .i64 dn] 110)).alloc (.cells #[.int .i64 0,.int .i64 0,.int .i64 0,.int .i64 0,.int .i64 0] 84)).keep (heap_alloc_new w (.cells #[.int .i64 n,.int .i64 r0,.int .i64 r1,.int .i64 r2,.int .i64 r3] 84)) (fun h=>h)
 have hx1:=((Fr.refl (fun _=>False) ((w.alloc (.cells #[.int .i64 n,.int .i64 r0,.int .i64 r1,.int .i64 r2,.int .i64 r3] 84)).alloc (.cells #[.int .i64 kind,.int .u8 c.toNat,.int .i64 ln,.int .i64 dn] 110))).alloc (.cells #[.int .i64 0,.int .i64 0,.int .i64 0,.int .i64 0,.int .i64 0] 84)).keep (heap_alloc_new (w.alloc (.cells #[.int .i64 n,.int .i64 r0,.int .i64 r1,.int .i64 r2,.int .i64 r3] 84)) (.cells #[.int .i64 kind,.int .u8 c.toNat,.int .i64 ln,.int .i64 dn] 110)) (fun h=>h)
 have hx2:=heap_alloc_new ((w.alloc (.cells #[.int .i64 n,.int .i64 r0,.int .i64 r1,.int .i64 r2,.int .i64 r3] 84)).alloc (.cells #[.int .i64 kind,.int .u8 c.toNat,.int .i64 ln,.int .i64 dn] 110)) (.cells #[.int .i64 0,.int .i64 0,.int .i64 0,.int .i64 0,.int .i64 0] 84)
 simp only[World.size_alloc] at hx1 hx2
 have HX0:=Hd hx0
 have HX1:=Hd hx1
 have HX2:=Hd hx2
 have HF0:=Hd hf0
 clear hf0 hx0 hx1 hx2
 go_enter Tryz.func133,Tryz.ntmps133
 go_wp2_with fail
 refine(HN _ (HT.out.keep HF0.out)).out.mono ?_
 rintro e w1 ⟨rfl,hfr⟩
 have hf1:=HF0.out.trans hfr
 have hfa:=(Fr.refl (fun _=>False) w1).alloc (.cells #[.int .i64 rn,.int .i64 ra,.int .i64 rb,.int .i64 rc,.int .i64 rd] 84)
 have hx0:=hfa.keep (hfr.keep HX0.out (fun h=>h)) (fun h=>h)
 have hx1:=hfa.keep (hfr.keep HX1.out (fun h=>h)) (fun h=>h)
 have hx2:=hfa.keep (hfr.keep HX2.out (fun h=>h)) (fun h=>h)
 have hx3:=heap_alloc_new w1 (.cells #[.int .i64 rn,.int .i64 ra,.int .i64 rb,.int .i64 rc,.int .i64 rd] 84)
 have HF2:=Hd (hf1.trans hfa)
 have hlt:=lt_of_block (hfr.keep HX2.out (fun h=>h))
 have hW2:Win.At (w1.alloc (.cells #[.int .i64 rn,.int .i64 ra,.int .i64 rb,.int .i64 rc,.int .i64 rd] 84)) B rv size all ring t:=HW.out.keep HF2.out (fun h=>h) (fun _ _ h=>h)
 have HW2:=Hd hW2
 have hsz3:=hfr.size
 simp only[World.size_alloc] at hsz3
 clear HX0 HX1 HX2 HF0 hfr hf1 hfa hW2 HN HT HW
 go_upto_if 19 with fail
 generalize hb0:w.heap.size=b0 at*
 generalize hb3:w1.heap.size=b3 at*
 generalize w1.alloc (.cells #[.int .i64 rn,.int .i64 ra,.int .i64 rb,.int .i64 rc,.int .i64 rd] 84)=W2 at*
 have HB0:=Hd hb0
 have HX0:=Hd hx0
 have HX1:=Hd hx1
 have HX2:=Hd hx2
 have HX3:=Hd hx3
 obtain⟨s0,s1,s2,s3,s4⟩:=cs5 hx0 rfl rfl rfl rfl rfl
 obtain⟨y0,y1,y2,y3⟩:=cs4 hx1 rfl rfl rfl rfl
 clear hb0 hb3 hx0 hx1 hx2 hx3
 have KEY:=Hd (show∀wx,Fr (fun k=>b0≤k) W2 wx→Done w B size rv all [] (.slice none 0 0) wx from fun wx hch=>by
  have hb0:=HB0.out
  refine⟨(HF2.out.trans' hch (fun i hi h=>by omega)).mono (fun _ _ h=>h.elim),Mine.nil _ _,rv,ring,t,?_,fun k hk=>.inl hk,fun k hk=>by simp[Value.ownBlock] at hk⟩
  rw[List.append_nil]
  exact HW2.out.keep hch (by omega) (fun k hk=>by have:=HRV.out k hk;omega))
 rcases herr with rfl|rfl
 ·go_upto_block 0 with fail
  go_cut [10,11] (fun s10 s11 wx=>∃(e2:Nat)(bytes:List UInt8),s10=.int .i64 (e2:Int)∧((e2=0∧ap=(0,bytes,⟨rn,ra,rb,rc,rd⟩))∨(e2=7∧bytes=[]∧ap=(7,[],.zero)))∧Done W2 B size rv all bytes s11 wx)
  case first=>
   have hw2s:=lt_of_block HX3.out
   rcases hk with rfl|rfl|rfl|rfl
   ·have y1':=alloc_keep y1 (.cells #[.int .u8 (c.toNat:Int)] 5)
    have ha1:=(Fr.refl (fun _=>False) W2).alloc (.cells #[.int .u8 (c.toNat:Int)] 5)
    have ha2:=ha1.alloc (.cells #[.int .u8 (c.toNat:Int)] 5)
    have hone:=rd_one (W2.alloc (.cells #[.int .u8 (c.toNat:Int)] 5)) (W2.heap.size+1) (by simp) c _ rfl
    have hown:Mine W2 (W2.alloc (.cells #[.int .u8 (c.toNat:Int)] 5)) (.slice (some ⟨W2.heap.size,0,none⟩) 1 1) [c]:=⟨⟨rfl,.inr ⟨W2.heap.size,1,_,rfl,Nat.zero_le _,heap_alloc_new W2 _,by simp,by simp[maxLen],by simp,by simp[bvs,bv]⟩⟩,fun k hk=>by simp only[Value.ownBlock,Option.some.injEq] at hk;omega⟩
    have HOWN:=Hd (hown.keep ((Fr.refl (fun _=>False) _).alloc (.cells #[.int .u8 (c.toNat:Int)] 5)))
    have HA2:=Hd ha2
    have HONE:=Hd hone
    clear ha1 ha2 hone hown
    go_wp2_with fail
    refine(put_calls B size t rv (.slice (some ⟨W2.heap.size+1,0,none⟩) 1 1) all ring [c] _ (HW2.out.keep HA2.out (fun h=>h) (fun _ _ h=>h)) HONE.out (fun _ k hk he=> ?_) (by simp only[List.length_singleton];omega)).mono ?_
    ·simp only[Value.ownBlock,Option.some.injEq] at hk
     have:=HRV.out k he
     omega
    rintro e w5 ⟨rfl,rv3,ring3,t3,hfr3,hA3,hN3⟩
    have HM3:=Hd (HOWN.out.step hfr3 (fun k hk h=>by
     simp only[Value.ownBlock,Option.some.injEq] at hk
     rcases h with h|h
     ·omega
     ·have:=HRV.out k h
      omega))
    have HA3:=Hd hA3
    have HN3:=Hd hN3
    have HF3:=Hd hfr3
    clear hA3 hN3 hfr3
    go_wp2_with fail
    go_meet
    have hap:=HAP.out
    rw[if_pos trivial,if_pos trivial] at hap
    refine⟨0,[c],rfl,.inl ⟨rfl,by rw[←hap];simp⟩,(HA2.out.mono (fun _ _ h=>h.elim)).trans HF3.out,HM3.out,rv3,ring3,t3,HA3.out,fun k hk=> ?_,fun k hk he=> ?_⟩
    ·rcases HN3.out k hk with h|h
     ·exact .inl h
     ·simp at h
      exact .inr (by omega)
    ·simp only[Value.ownBlock,Option.some.injEq] at hk
     rcases HN3.out k he with h|h
     ·have:=HRV.out k h
      omega
     ·simp at h
      omega
   ·have hl9:len≤273:=HLEN.out rfl (.inl rfl)
    obtain⟨rfl,rfl⟩:=HND.out (.inl rfl)
    go_wp2_with fail
    refine(copy_all B size t dist len rv all ring _ HW2.out (by first|exact hl9|decide) hmuch).mono ?_
    rintro e w5 ⟨e2,bytes,v,rfl,hor,hdone⟩
    have HOR:=Hd hor
    have HDO:=Hd hdone
    clear hor hdone
    go_wp2_with fail
    go_meet
    have hap:=HAP.out
    rw[if_pos trivial,if_neg (by decide)] at hap
    simp only[distOf,lenOfSy,if_true,if_false] at hap
    rcases HOR.out with⟨h1,rfl,rfl⟩|⟨h1,rfl,rfl⟩
    ·rw[if_pos (by simpa using h1)] at hap
     exact⟨0,_,rfl,.inl ⟨rfl,by rw[←hap];simp⟩,HDO.out⟩
    ·rw[if_neg (by simpa using h1)] at hap
     exact⟨7,[],rfl,.inr ⟨rfl,rfl,hap.symm⟩,HDO.out⟩
   ·have hl9:len≤273:=HLEN.out rfl (.inr rfl)
    obtain⟨rfl,rfl⟩:=HND.out (.inr rfl)
    have hd9:=hd3 rfl
    have HWD:=Hd (HW2.out.keep (Fr.refl (fun _=>False) W2).drew (fun h=>h) (fun _ _ h=>h))
    have HFD:=Hd (Fr.refl (fun _=>False) W2).drew
    obtain rfl|rfl|rfl|rfl:dist=0∨dist=1∨dist=2∨dist=3:=by omega
    all_goals
     go_wp2_with fail
     go_region_with ((refine(copy_all B size t _ len rv all ring _ HWD.out hl9 hmuch).mono ?_);rintro e w5 ⟨e2,bytes,v,rfl,hor,hdone⟩;have HOR:=Hd hor;have HDO:=Hd hdone;clear hor hdone)
     all_goals
      go_wp2_with fail
      go_meet
      have hap:=HAP.out
      rw[if_pos trivial,if_neg (by decide)] at hap
      simp only[distOf,lenOfSy,repAt,if_true,if_false] at hap
      have hdd:Done W2 B size rv all bytes v w5:=⟨(HFD.out.mono (fun _ _ h=>h.elim)).trans HDO.out.fr,⟨HDO.out.mine.own,fun k hk=>by have:=HDO.out.mine.new k hk;simpa using this⟩,by
       obtain⟨rv',ring',t',g1,g2,g3⟩:=HDO.out.win
       exact⟨rv',ring',t',g1,fun k hk=>by have:=g2 k hk;simpa using this,g3⟩⟩
      rcases HOR.out with⟨h1,rfl,rfl⟩|⟨h1,rfl,rfl⟩
      ·rw[if_pos (by simpa using h1)] at hap
       exact⟨0,_,rfl,.inl ⟨rfl,by rw[←hap];simp⟩,hdd⟩
      ·rw[if_neg (by simpa using h1)] at hap
       exact⟨7,[],rfl,.inr ⟨rfl,rfl,hap.symm⟩,hdd⟩
   ·have hl9:1≤273:=by decide
    go_wp2_with fail
    refine(copy_all B size t r0 1 rv all ring _ HW2.out (by first|exact hl9|decide) hmuch).mono ?_
    rintro e w5 ⟨e2,bytes,v,rfl,hor,hdone⟩
    have HOR:=Hd hor
    have HDO:=Hd hdone
    clear hor hdone
    go_wp2_with fail
    go_meet
    have hap:=HAP.out
    rw[if_pos trivial,if_neg (by decide)] at hap
    simp only[distOf,lenOfSy,if_true,if_false] at hap
    rcases HOR.out with⟨h1,rfl,rfl⟩|⟨h1,rfl,rfl⟩
    ·rw[if_pos (by simpa using h1)] at hap
     exact⟨0,_,rfl,.inl ⟨rfl,by rw[←hap];simp⟩,HDO.out⟩
    ·rw[if_neg (by simpa using h1)] at hap
     exact⟨7,[],rfl,.inr ⟨rfl,rfl,hap.symm⟩,HDO.out⟩
  case rest=>
  obtain⟨e2,bytes,rfl,hor,hdone⟩:=hcut
  have hx2:=hdone.fr.keep HX2.out (fun h=>by
   rcases h with h|h
   ·omega
   ·have:=HRV.out _ h
    omega)
  have hx3:=hdone.fr.keep HX3.out (fun h=>by
   rcases h with h|h
   ·omega
   ·have:=HRV.out _ h
    omega)
  have HDONE:=Hd hdone
  have HY2:=Hd hx2
  have HY3:=Hd hx3
  obtain⟨z0,z1,z2,z3,z4,zf⟩:=cf5 hx2 rfl rfl rfl rfl rfl
  have FIN:=Hd (show∀wy,Fr (fun k=>k=b0+1+1) wc wy→Done w B size rv all bytes u11 wy from fun wy hch=>by
   have hb0:=HB0.out
   exact HDONE.out.fin HF2.out hch (by omega) (Nat.lt_trans hlt (lt_of_block HX3.out)) (by omega) (fun k hk=>by have:=HRV.out k hk;omega))
  rcases hor with⟨rfl,hap⟩|⟨rfl,rfl,hap⟩
  ·subst hap
   clear hx2 hx3 hdone s0 s1 s2 s3 s4 y0 y1 y2 y3
   obtain⟨q0,q1,q2,q3,q4⟩:=cs5 HY3.out rfl rfl rfl rfl rfl
   go_wp2_with fail
   go_region
   all_goals go_wp2_with fail
   all_goals
    refine bodyPost_ret (v:=.tuple #[u11,.agg #[.int .i64 rn,.int .i64 ra,.int .i64 rb,.int .i64 rc,.int .i64 rd],.int .i64 0]) (by simp[results,Tryz.results133,go_sem,z0,z1,z2,z3,z4]) rfl ?_
    refine⟨_,rfl,FIN.out _ ?_⟩
    try refine Fr.drew ?_
    repeat refine Fr.setCell ?_ (.inl (by simp)) _
    first|exact Fr.refl _ _|exact(Fr.refl _ _).drew
  ·subst hap
   clear hx2 hx3 hdone s0 s1 s2 s3 s4 y0 y1 y2 y3
   go_wp2_with fail
   refine bodyPost_ret (v:=.tuple #[.slice none 0 0,.agg #[.int .i64 0,.int .i64 0,.int .i64 0,.int .i64 0,.int .i64 0],.int .i64 7]) (by simp[results,Tryz.results133,go_sem,z0,z1,z2,z3,z4]) rfl ?_
   have hfin:=fun wy(hch:Fr (fun k=>k=b0+1+1) wc wy)=>FIN.out wy hch
   have NIL:=Hd (show∀wy,Fr (fun k=>k=b0+1+1) wc wy→Done w B size rv all [] (.slice none 0 0) wy from fun wy hch=>by
    obtain⟨h1,h2,rv',ring',t',h3,h4,h5⟩:=FIN.out wy hch
    exact⟨h1,Mine.nil _ _,rv',ring',t',h3,h4,fun k hk=>by simp[Value.ownBlock] at hk⟩)
   refine⟨_,rfl,NIL.out _ ?_⟩
   repeat refine Fr.setCell ?_ (.inl (by simp)) _
   exact Fr.refl _ _
 ·obtain⟨z0,z1,z2,z3,z4,zf⟩:=cf5 HX2.out rfl rfl rfl rfl rfl
  go_wp2_with fail
  refine bodyPost_ret (v:=.tuple #[.slice none 0 0,.agg #[.int .i64 0,.int .i64 0,.int .i64 0,.int .i64 0,.int .i64 0],.int .i64 7]) (by simp[results,Tryz.results133,go_sem,z0,z1,z2,z3,z4]) rfl ?_
  have hap:=HAP.out
  rw[if_neg (by decide)] at hap
  subst hap
  refine⟨_,rfl,KEY.out _ ?_⟩
  repeat refine Fr.setCell ?_ (.inl (by simp;try omega)) _
  exact Fr.refl _ _
def applyZ(size:Nat)(all:List UInt8)(s:S)(z:Sz):Nat×List UInt8×S:=if z.bad=0 then apply size all s z.sy else(z.bad,[],.zero)
set_option maxRecDepth 100000 in
theorem apply_bad(v:Value)(s:S)(cs:Array Value)(er:Int)(h6:er≠0)(w:World)(hcs:∃k b n d,cs=#[.int .i64 k,.int .u8 b,.int .i64 n,.int .i64 d])
 (HN0:∀W,Fr (fun _=>False) w W→Calls Tryz.prog 126 #[.agg s.cells,.agg cs] W fun e w'=>e=.returned (.tuple #[.agg S.zero.cells,.int .i64 er])∧Fr (fun _=>False) W w'):
 Calls Tryz.prog 133 #[v,.agg s.cells,.agg cs] w fun e w'=>e=.returned (.tuple #[.slice none 0 0,.agg S.zero.cells,.int .i64 er])∧Fr (fun _=>False) w w':=by
 obtain⟨kk,bb,ln,dn,rfl⟩:=hcs
 obtain⟨n,r0,r1,r2,r3⟩:=s
 simp only[S.cells,S.zero] at HN0 ⊢
 have HN:=fun W h=>Hd (HN0 W h)
 clear HN0
 have e1:(er==0)=false:=by simp;omega
 have e2:(er !=0)=true:=by simp;omega
 have hf0:Fr (fun _=>False) w (((w.alloc (.cells #[.int .i64 n,.int .i64 r0,.int .i64 r1,.int .i64 r2,.int .i64 r3] 84)).alloc (.cells #[.int .i64 kk,.int .u8 bb,.int .i64 ln,.int .i64 dn] 110)).alloc (.cells #[.int .i64 0,.int .i64 0,.int .i64 0,.int .i64 0,.int .i64 0] 84)):=(((Fr.refl _ w).alloc _).alloc _).alloc _
 have hx2:=heap_alloc_new ((w.alloc (.cells #[.int .i64 n,.int .i64 r0,.int .i64 r1,.int .i64 r2,.int .i64 r3] 84)).alloc (.cells #[.int .i64 kk,.int .u8 bb,.int .i64 ln,.int .i64 dn] 110)) (.cells #[.int .i64 0,.int .i64 0,.int .i64 0,.int .i64 0,.int .i64 0] 84)
 simp only[World.size_alloc] at hx2
 have HX2:=Hd hx2
 have HF0:=Hd hf0
 clear hf0 hx2
 go_enter Tryz.func133,Tryz.ntmps133
 go_wp2_with fail
 refine(HN _ HF0.out).out.mono ?_
 rintro e w1 ⟨rfl,hfr⟩
 have hf1:=HF0.out.trans hfr
 have hfa:=(Fr.refl (fun _=>False) w1).alloc (.cells #[.int .i64 0,.int .i64 0,.int .i64 0,.int .i64 0,.int .i64 0] 84)
 have hx2:=hfa.keep (hfr.keep HX2.out (fun h=>h)) (fun h=>h)
 have HF2:=Hd (hf1.trans hfa)
 clear HX2 HF0 hfr hf1 hfa HN
 go_upto_if 19 with fail
 generalize hb0:w.heap.size=b0 at*
 generalize w1.alloc (.cells #[.int .i64 0,.int .i64 0,.int .i64 0,.int .i64 0,.int .i64 0] 84)=W2 at*
 have HB0:=Hd hb0
 obtain⟨z0,z1,z2,z3,z4,zf⟩:=cf5 hx2 rfl rfl rfl rfl rfl
 clear hx2
 go_wp2_with fail
 refine bodyPost_ret (v:=.tuple #[.slice none 0 0,.agg #[.int .i64 0,.int .i64 0,.int .i64 0,.int .i64 0,.int .i64 0],.int .i64 er]) (by simp[results,Tryz.results133,go_sem,z0,z1,z2,z3,z4]) rfl ?_
 refine⟨rfl,HF2.out.trans' (S:=fun _=>False) (T:=fun k=>b0≤k) ?_ (fun i hi hk=>by have:=HB0.out;omega)⟩
 repeat refine Fr.setCell ?_ (.inl (by simp;try omega)) _
 exact Fr.refl _ _
theorem apply_any(B size t:Nat)(rv:Value)(all ring:List UInt8)(s:S)(hs:s.Ok)(z:Sz)(hb:z.byte<256)(w:World)(hT:Tabs w)(h:Win.At w B rv size all ring t)(hmuch:all.length≤1152921504606846000):
 Calls Tryz.prog 133 #[.pointer (some ⟨B,0,none⟩),.agg s.cells,.agg z.cells] w fun e w'=>∃v,e=.returned (.tuple #[v,.agg (applyZ size all s z).2.2.cells,.int .i64 (applyZ size all s z).1])∧Done w B size rv all (applyZ size all s z).2.1 v w':=by
 unfold applyZ
 by_cases h0:z.bad=0
 ·rw[if_pos h0]
  obtain⟨hy,hn⟩:=Sz.ok h0 hb
  have hsm:=Sz.same h0
  have hnx:=fun W hW=>next_any s hs z hb W hW
  rw[h0,if_pos rfl] at hnx
  have hk0:(z.sy.kind:Int)=z.kind:=by
   have:=hy.kind
   unfold Sz.bad at h0
   simp only[Sz.sy] at this ⊢
   omega
  have e:z.cells=#[.int .i64 z.sy.kind,.int .u8 z.sy.byte,.int .i64 z.len,.int .i64 z.dist]:=by rw[hk0];rfl
  rw[e] at hnx ⊢
  refine apply_in B size t rv all ring s hs z.sy hy w hT h hmuch z.len z.dist (fun hk=> ?_) (fun W hW=>by rw[hn s];exact hnx W hW)
  have:=hsm (by omega)
  exact⟨this.1.symm,this.2.1.symm⟩
 ·rw[if_neg h0]
  have hnx:=fun W(hW:Fr (fun _=>False) w W)=>next_any s hs z hb W (hT.keep hW)
  rw[if_neg h0] at hnx
  refine(apply_bad _ s z.cells z.bad (by omega) w ⟨_,_,_,_,rfl⟩ hnx).mono ?_
  rintro e w' ⟨rfl,hfr⟩
  exact⟨_,rfl,hfr.mono (fun _ _ h=>h.elim),Mine.nil _ _,rv,ring,t,by rw[List.append_nil];exact h.keep hfr (fun h=>h) (fun _ _ h=>h),fun k hk=>.inl hk,fun k hk=>by simp[Value.ownBlock] at hk⟩
end St
namespace En
open Mem Rc St Lz Ck
theorem raw_ok(k n:Nat)(hk:1≤k∧k≤2)(hn:1≤n∧n≤65536):HeadOk ⟨k,n,n,0,0,0⟩:=
 ⟨⟨hk.1,by simp only;omega⟩,fun _=>⟨hn.1,hn.2,rfl⟩,fun h=>absurd h (by simp only;omega),⟨by simp,by simp⟩,fun _=>⟨rfl,rfl,rfl⟩⟩
def Xe.apZ(x:Xe)(z:Sz):Nat×List UInt8×S:=applyZ x.c.size x.c.all x.c.s z
def putsZ:List Sz→Xe→Nat→Except Nat (Xe×Nat)
 |[],x,n=>.ok (x,n)
 |z::l,x,n=>if(x.apZ z).1=0 then putsZ l (x.put z.sy) (n+St.size z.sy) else .error (x.apZ z).1
theorem may_of{c:C}{z:Sz}(h:z.bad=0)(hb:z.byte<256):May c z.sy:=by
 obtain⟨hy,hn⟩:=Sz.ok h hb
 refine⟨hy.kind,hy.byte,fun hk=> ?_,fun hk=> ?_,hy.dist⟩
 ·have h0:=hn S.new
  have hk1:=hy.kind
  unfold S.next at h0
  by_cases hl:isL z.sy.len
  ·exact hl
  ·rcases hk with hk|hk
   ·rw[if_neg (by omega),if_neg (by omega),if_pos hk,if_neg hl] at h0
    simp at h0
   ·rw[if_neg (by omega),if_neg (by omega),if_neg (by omega),if_neg hl] at h0
    simp at h0
 ·have h0:=hn S.new
  unfold S.next at h0
  by_cases hl:isL z.sy.len
  ·by_cases hd:isD z.sy.dist
   ·exact hd
   ·rw[if_neg (by omega),if_neg (by omega),if_pos hk,if_pos hl,if_neg hd] at h0
    simp at h0
  ·rw[if_neg (by omega),if_neg (by omega),if_pos hk,if_neg hl] at h0
   simp at h0
theorem apZ_ok{x:Xe}{z:Sz}(h:(x.apZ z).1=0):z.bad=0∧x.apZ z=x.ap z.sy:=by
 unfold Xe.apZ applyZ at*
 by_cases hz:z.bad=0
 ·rw[if_pos hz]
  exact⟨hz,rfl⟩
 ·rw[if_neg hz] at h
  exact absurd h hz
theorem puts_legal:∀(l:List Sz)(x:Xe)(n:Nat)(x':Xe)(m:Nat),x.Ok→(∀z ∈ l,z.byte<256)→putsZ l x n=.ok (x',m)→Legal (l.map Sz.sy) x∧x'=x.putAll (l.map Sz.sy)∧m=n+(x.made (l.map Sz.sy)).length
 |[],x,n,x',m,hx,hb,h=>by
   simp only[putsZ,Except.ok.injEq,Prod.mk.injEq] at h
   exact⟨trivial,h.1.symm,by rw[←h.2];rfl⟩
 |z::l,x,n,x',m,hx,hb,h=>by
   rw[putsZ] at h
   by_cases h0:(x.apZ z).1=0
   ·rw[if_pos h0] at h
    obtain⟨hz,he⟩:=apZ_ok h0
    have hm:=may_of (c:=x.c) hz (hb z (List.mem_cons_self ..))
    rw[he] at h0
    obtain⟨a,b,c⟩:=puts_legal l (x.put z.sy) _ x' m (hx.put hm h0) (fun y hy=>hb y (List.mem_cons_of_mem _ hy)) h
    refine⟨⟨hm,h0,a⟩,b,?_⟩
    have hl:=apply_len (size:=x.c.size) (all:=x.c.all) (s:=x.c.s) (y:=z.sy) h0 hm.kind
    rw[c,List.map_cons,Xe.made,List.length_append]
    unfold Xe.ap
    rw[hl,Nat.add_assoc]
   ·rw[if_neg h0] at h
    exact absurd h (by simp)
theorem Xe.Ok.clear{x:Xe}(h:x.Ok):x.clear.Ok:=⟨⟨h.c.l,h.c.pb,S.new_ok⟩,fresh_ok _ _⟩
theorem Xe.Ok.reset{x:Xe}(h:x.Ok){pr:Pr}(hp:pr.1+pr.2.1≤4∧pr.2.2≤4):(x.reset pr).Ok:=⟨⟨hp.1,hp.2,S.new_ok⟩,fresh_ok _ _⟩
theorem Xe.Ok.cut{x:Xe}(h:x.Ok):x.cut.Ok:=⟨h.c,⟨k_new,h.e.q,h.e.len⟩⟩
theorem Xe.Ok.raw{x:Xe}(h:x.Ok)(l:List UInt8):(x.raw l).Ok:=⟨⟨h.c.l,h.c.pb,h.c.s⟩,h.e⟩
end En
namespace Pk
open Mem Rc St Lz En Win
def Run(data:List UInt8)(p n d:Nat):Prop:=1≤d∧d≤p∧∀j,j<n→data[p+j]? =data[p+j-d]?
theorem run_grown{data:List UInt8}{p d:Nat}:∀{n:Nat},Run data p n d→p+n≤data.length→grown (data.take p) d n=data.take (p+n)
 |0,_,_=>rfl
 |n+1,⟨h1,h2,h3⟩,hl=>by
   have ih:=run_grown (n:=n) ⟨h1,h2,fun j hj=>h3 j (by omega)⟩ (by omega)
   have hp:p+n<data.length:=by omega
   have e:=h3 n (by omega)
   rw[List.getElem?_eq_getElem hp] at e
   rw[grown,ih,List.length_take,Nat.min_eq_left (by omega),List.getD_eq_getElem?_getD,List.getElem?_take,if_pos (by omega),←e,←Nat.add_assoc,List.take_add_one,List.getElem?_eq_getElem hp]
   rfl
theorem run_copied{data:List UInt8}{p n d:Nat}(h:Run data p n d)(hl:p+n≤data.length):copied (data.take p) d n=(data.drop p).take n:=by
 unfold copied
 rw[run_grown h hl,List.length_take,Nat.min_eq_left (by omega),List.drop_take,Nat.add_sub_cancel_left]
structure Right(data:List UInt8)(top p:Nat)(s:S)(y:Sy):Prop where
 ok:y.Ok
 next:(s.next y).1=0
 fits:p+St.size y≤top
 lit:y.kind=1→data[p]? =some (UInt8.ofNat y.byte)
 run:y.kind≠1→Run data p (lenOfSy y) (distOf s y)
def Steps(data:List UInt8)(top:Nat):List Sy→Nat→S→Nat→S→Prop
 |[],p,s,q,t=>q=p∧t=s
 |y::l,p,s,q,t=>Right data top p s y∧Steps data top l (p+St.size y) (s.next y).2 q t
theorem Steps.snoc{data:List UInt8}{top:Nat}{y:Sy}:∀{l:List Sy}{p q:Nat}{s t:S},Steps data top l p s q t→Right data top q t y→Steps data top (l++[y]) p s (q+St.size y) (t.next y).2
 |[],p,q,s,t,⟨h1,h2⟩,h=>by subst h1 h2;exact⟨h,rfl,rfl⟩
 |z::l,p,q,s,t,⟨h1,h2⟩,h=>⟨h1,h2.snoc h⟩
theorem size_of{y:Sy}{s:S}(h:(s.next y).1=0)(hk:y.Ok):(y.kind=1→St.size y=1)∧(y.kind≠1→St.size y=lenOfSy y):=by
 have h0:(S.new.next y).1=0:=by rw[next_err_same S.new s y];exact h
 unfold St.size lenOfSy
 rw[if_pos h0]
 have hk:=hk.kind
 refine⟨fun h1=>if_neg (by omega),fun h1=> ?_⟩
 by_cases h4:y.kind=4
 ·rw[if_pos h4,if_neg (by omega)]
 ·rw[if_neg h4,if_pos (by omega)]
theorem right_made{data:List UInt8}{top p:Nat}{x:Xe}{y:Sy}(hx:x.c.all=data.take p)(ht:top≤data.length)(h:Right data top p x.c.s y)(h0:(x.ap y).1=0):
 (x.ap y).2.1=(data.drop p).take (St.size y)∧(x.ap y).2.2=(x.c.s.next y).2:=by
 obtain⟨z1,z2⟩:=size_of h.next h.ok
 have hf:=h.fits
 unfold Xe.ap apply at*
 rw[if_pos h.next] at h0 ⊢
 by_cases h1:y.kind=1
 ·rw[if_pos h1]
  have hl:=h.lit h1
  rw[z1 h1] at hf ⊢
  refine⟨?_,rfl⟩
  have hp:p<data.length:=by omega
  rw[List.getElem?_eq_getElem hp] at hl
  simp only[Option.some.injEq] at hl
  rw[List.drop_eq_getElem_cons hp,List.take_succ_cons,List.take_zero,hl]
 ·rw[if_neg h1] at h0 ⊢
  rw[z2 h1] at hf ⊢
  by_cases h2:1≤distOf x.c.s y∧distOf x.c.s y≤min x.c.size x.c.all.length
  ·rw[if_pos h2]
   refine⟨?_,rfl⟩
   simp only
   rw[hx]
   exact run_copied (h.run h1) (by omega)
  ·rw[if_neg h2] at h0
   simp at h0
theorem steps_made{data:List UInt8}{top:Nat}(ht:top≤data.length):∀{l:List Sy}{x:Xe}{p q:Nat}{t:S},p≤top→x.c.all=data.take p→Steps data top l p x.c.s q t→Legal l x→
 x.made l=(data.drop p).take (q-p)∧(x.putAll l).c.all=data.take q∧(x.putAll l).c.s=t∧(x.putAll l).c.size=x.c.size∧p≤q∧q≤top
 |[],x,p,q,t,hp,hx,⟨h1,h2⟩,_=>by
   subst h1 h2
   exact⟨by simp[Xe.made],hx,rfl,rfl,Nat.le_refl _,hp⟩
 |y::l,x,p,q,t,hp,hx,⟨h1,h2⟩,⟨l1,l2,l3⟩=>by
   obtain⟨a1,a2⟩:=right_made hx ht h1 l2
   have hf:=h1.fits
   have ha:(x.put y).c.all=data.take (p+St.size y):=by
    show x.c.all++(x.ap y).2.1=_
    rw[hx,a1,List.take_add]
   obtain⟨b1,b2,b3,b4,b5,b6⟩:=steps_made ht (x:=x.put y) hf ha (by
    show Steps data top l (p+St.size y) (x.ap y).2.2 q t
    rw[a2]
    exact h2) l3
   refine⟨?_,b2,b3,b4,by omega,b6⟩
   rw[Xe.made,a1,b1,show q-p=St.size y+(q-(p+St.size y)) by omega,List.take_add,List.drop_drop]
def fin:List Pt→Nat→Xe→Pr→Nat×Xe×Pr
 |[],now,x,pr=>(now,x,pr)
 |p::l,now,x,pr=>fin l (Ck.move now p.kind) (p.after (p.prep x pr).1) (p.prep x pr).2
theorem snoc_fin(z:Pt):∀(l:List Pt)(now:Nat)(x:Xe)(pr:Pr),fin (l++[z]) now x pr=fin [z] (fin l now x pr).1 (fin l now x pr).2.1 (fin l now x pr).2.2
 |[],now,x,pr=>rfl
 |p::l,now,x,pr=>snoc_fin z l _ _ _
theorem snoc_ok(z:Pt):∀(l:List Pt)(now:Nat)(x:Xe)(pr:Pr),PtsOk l now x pr→PtsOk [z] (fin l now x pr).1 (fin l now x pr).2.1 (fin l now x pr).2.2→PtsOk (l++[z]) now x pr
 |[],now,x,pr,_,h=>h
 |p::l,now,x,pr,⟨h1,h2,h3,h4⟩,h=>⟨h1,h2,h3,snoc_ok z l _ _ _ h4 h⟩
theorem snoc_chunks(z:Pt):∀(l:List Pt)(now:Nat)(x:Xe)(pr:Pr),chunks (l++[z]) x pr=chunks l x pr++chunks [z] (fin l now x pr).2.1 (fin l now x pr).2.2
 |[],now,x,pr=>rfl
 |p::l,now,x,pr=>by
   show(p.head (p.prep x pr).1,p.bytes (p.prep x pr).1)::chunks (l++[z]) (p.after (p.prep x pr).1) (p.prep x pr).2=_
   rw[snoc_chunks z l (Ck.move now p.kind)]
   rfl
theorem snoc_plains(z:Pt):∀(l:List Pt)(now:Nat)(x:Xe)(pr:Pr),plains (l++[z]) x pr=plains l x pr++plains [z] (fin l now x pr).2.1 (fin l now x pr).2.2
 |[],now,x,pr=>rfl
 |p::l,now,x,pr=>by
   show p.plain (p.prep x pr).1++plains (l++[z]) (p.after (p.prep x pr).1) (p.prep x pr).2=_
   rw[snoc_plains z l (Ck.move now p.kind),←List.append_assoc]
   rfl
theorem rowB_append:∀(a b:List Chk),rowB (a++b)=rowB a++rowB b
 |[],b=>rfl
 |p::a,b=>by simp[rowB,rowB_append a b]
theorem chunks_length:∀(l:List Pt)(x:Xe)(pr:Pr),(chunks l x pr).length=l.length
 |[],_,_=>rfl
 |p::l,x,pr=>by rw[chunks,List.length_cons,chunks_length l,List.length_cons]
def upto(n i:Nat):Nat:=min (65536*i) n
structure Pst where
 pts:List Pt
 x:Xe
 s:S
 begun:Bool
 packed:Bool
 props:Bool
abbrev Pst.end'(t:Pst)(dict:Nat):Nat×Xe×Pr:=fin t.pts 0 (Xe.start dict) (0,0,0)
abbrev Pst.row(t:Pst)(dict:Nat):List Chk:=chunks t.pts (Xe.start dict) (0,0,0)
structure Pst.Ok(t:Pst)(data:List UInt8)(dict:Nat)(pr:Pr)(raw:Bool):Prop where
 pts:PtsOk t.pts 0 (Xe.start dict) (0,0,0)
 plain:plains t.pts (Xe.start dict) (0,0,0)=data.take (upto data.length t.pts.length)
 now:(t.end' dict).1=if t.begun=false then 0 else if t.props=true then 2 else 1
 vok:(t.end' dict).2.1.Ok
 vsize:(t.end' dict).2.1.c.size=dict
 vall:(t.end' dict).2.1.c.all=data.take (upto data.length t.pts.length)
 vk:(t.end' dict).2.1.e.k=K.new
 vpr:t.props=true→(t.end' dict).2.2=pr
 ok:t.x.Ok
 size:t.x.c.size=dict
 all:t.x.c.all=data.take (upto data.length t.pts.length)
 k:t.x.e.k=K.new
 same:t.packed=true→t.x=(t.end' dict).2.1∧t.s=t.x.c.s∧t.props=true
 begun:t.props=true→t.begun=true
 empty:t.begun=false→t.pts=[]
 sok:t.s.Ok
 sizes:∀i h,(t.row dict)[i]? =some h→h.1.size=upto data.length (i+1)-upto data.length i∧h.1.kind≠0
 len:(rowB (t.row dict)).length≤upto data.length t.pts.length+3*t.pts.length
 raw:raw=true→∀p ∈ t.pts,p.kind≤2
def Pst.start(dict:Nat)(pr:Pr):Pst:=⟨[],⟨⟨pr.1,pr.2.1,pr.2.2,S.new,dict,[]⟩,⟨K.new,Lz.fresh pr.1 pr.2.1⟩⟩,S.new,false,false,false⟩
theorem upto_zero(n:Nat):upto n 0=0:=by simp[upto]
theorem upto_le(n i:Nat):upto n i≤n:=Nat.min_le_right _ _
theorem upto_mono(n i:Nat):upto n i≤upto n (i+1):=by unfold upto;omega
theorem upto_step{n i:Nat}(h:65536*i<n):upto n i=65536*i∧upto n i<upto n (i+1)∧upto n (i+1)-upto n i≤65536∧upto n (i+1)=min (65536*i+65536) n:=by unfold upto;omega
theorem start_ok(data:List UInt8){dict:Nat}{pr:Pr}(hp:pr.1+pr.2.1≤4∧pr.2.2≤4)(raw:Bool):(Pst.start dict pr).Ok data dict pr raw:=
 ⟨trivial,by simp[Pst.start,plains,upto_zero],rfl,⟨⟨show 0+0≤4 by decide,show 0≤4 by decide,S.new_ok⟩,fresh_ok 0 0⟩,rfl,by rw[show(Pst.start dict pr).pts.length=0 from rfl,upto_zero];rfl,rfl,fun h=>absurd h (by simp[Pst.start]),
  ⟨⟨hp.1,hp.2,S.new_ok⟩,fresh_ok _ _⟩,rfl,by simp[Pst.start,upto_zero],rfl,fun h=>absurd h (by simp[Pst.start]),fun h=>absurd h (by simp[Pst.start]),fun _=>rfl,S.new_ok,fun i h hi=>absurd hi (by show¬([]:List Chk)[i]? =some h;simp),Nat.zero_le _,fun _ p hp=>by simp[Pst.start] at hp⟩
def Pst.lay(t:Pst)(b:List UInt8):Pst:=⟨t.pts++[⟨if t.begun=false then 1 else 2,(0,0,0),[],b⟩],t.x.raw b,t.s,true,false,t.props⟩
def Pst.kind(t:Pst):Nat:=if t.begun=false then 6 else if t.packed=true then 3 else if t.props=true then 4 else 5
def Pst.from'(t:Pst)(pr:Pr):Xe:=if t.kind=3 then t.x else t.x.reset pr
def Pst.pack(t:Pst)(pr:Pr)(ys:List Sy):Pst:=⟨t.pts++[⟨t.kind,pr,ys,[]⟩],((t.from' pr).putAll ys).cut,((t.from' pr).putAll ys).c.s,true,true,true⟩
def Pst.out(t:Pst)(dict:Nat):List UInt8:=rowB (t.row dict)
theorem piece_take(data:List UInt8)(i:Nat):data.take (upto data.length i)++(data.drop (upto data.length i)).take (upto data.length (i+1)-upto data.length i)=data.take (upto data.length (i+1)):=by
 have:=upto_mono data.length i
 rw[←List.take_add]
 congr 1
 omega
theorem snoc_sizes{data:List UInt8}{l:List Chk}{h0:Chk}{n:Nat}(hn:l.length=n)(hl:∀i h,l[i]? =some h→h.1.size=upto data.length (i+1)-upto data.length i∧h.1.kind≠0)
 (h1:h0.1.size=upto data.length (n+1)-upto data.length n∧h0.1.kind≠0):∀i h,(l++[h0])[i]? =some h→h.1.size=upto data.length (i+1)-upto data.length i∧h.1.kind≠0:=by
 intro i h hi
 by_cases h2:i<l.length
 ·rw[List.getElem?_append_left h2] at hi
  exact hl i h hi
 ·rw[List.getElem?_append_right (by omega)] at hi
  by_cases h3:i-l.length=0
  ·rw[h3] at hi
   simp only[List.getElem?_cons_zero,Option.some.injEq] at hi
   subst hi
   obtain rfl:i=n:=by omega
   exact h1
  ·rw[List.getElem?_eq_none (by simp;omega)] at hi
   cases hi
end Pk
end Go.Proofs.YtffoddpjfgjelaaGreatDoor
