/- Part 15 of 54: lemmas of the last part, each under the conditions that it names. -/
import Derived.Deep.DeepCutAuto
import Derived.Deep.CutBlock
import Derived.Deep.QuietTactic
import Derived.BigQuiet
import Derived.LoopN
import Derived.Test.YtlgccpjccopdmaaGreatDoorP02
import Derived.Test.YtlgccpjccopdmaaGreatDoorP03
import Derived.Test.YtlgccpjccopdmaaGreatDoorP07
import Derived.Test.YtlgccpjccopdmaaGreatDoorP14
set_option linter.unusedVariables false
set_option linter.unusedSimpArgs false
set_option maxRecDepth 1500
set_option maxHeartbeats 4000000
namespace Go.Proofs.YtlgccpjccopdmaaGreatDoor
open Go.RowKit
namespace St
open Mem Win
set_option maxRecDepth 100000 in
theorem apply_in(B size t:Nat)(rv:Value)(all ring:List UInt8)(s:S)(hs:s.Ok)(y:Sy)(hy:y.Ok)(w:World)(hT:Tabs w)(h:Win.At w B rv size all ring t)(hmuch:all.length≤1152921504606846000)(ln dn:Int)(hnd:y.kind=2∨y.kind=3→ln=y.len∧dn=y.dist)(HN0:∀W,Tabs W→Calls Tryz.prog 97 #[.agg s.cells,.agg #[.int .i64 y.kind,.int .u8 y.byte,.int .i64 ln,.int .i64 dn]] W fun e w'=>e=.returned (.tuple #[.agg (s.next y).2.cells,.int .i64 (s.next y).1])∧Fr (fun _=>False) W w'):
 Calls Tryz.prog 56 #[.pointer (some ⟨B,0,none⟩),.agg s.cells,.agg #[.int .i64 y.kind,.int .u8 y.byte,.int .i64 ln,.int .i64 dn]] w fun e w'=>∃v,e=.returned (.tuple #[v,.agg (apply size all s y).2.2.cells,.int .i64 (apply size all s y).1])∧Done w B size rv all (apply size all s y).2.1 v w':=by
 have herr:=S.next_err s y
 have hlen:=next_len s y
 have HN:=fun W(h:Tabs W)=>Hd (HN0 W h)
 clear HN0
 generalize hap:apply size all s y=ap
 unfold apply at hap
 obtain⟨kind,byte,len,dist⟩:=y
 obtain⟨n,r0,r1,r2,r3⟩:=s
 have hk:=hy.kind
 have hbyte:=hy.byte
 have hd3:=hy.dist
 simp only at hk hap hbyte hd3 hnd HN ⊢
 clear hy
 obtain⟨c,rfl⟩:∃c:UInt8,byte=c.toNat:=⟨UInt8.ofNat byte,by simp;omega⟩
 clear hbyte
 simp only[S.cells] at HN ⊢
 generalize S.next ⟨n,r0,r1,r2,r3⟩ ⟨kind,c.toNat,len,dist⟩=r at*
 obtain⟨er,rn,ra,rb,rc,rd⟩:=r
 simp only at herr hap HN hlen
 have HLEN:=Hd hlen
 have HND:=Hd hnd
 clear hnd
 clear hlen
 have HAP:=Hd hap
 have HW:=Hd h
 have HT:=Hd hT
 have hB:B<w.heap.size:=lt_of_block h.box
 have hrvl:∀k,rv.ownBlock=some k→k<w.heap.size:=fun k hk=>(World.ownsRow.lt h.own k hk).2
 have HRV:=Hd hrvl
 clear hap h hT hrvl
 have hf0:Fr (fun _=>False) w (((w.alloc (.cells #[.int .i64 n,.int .i64 r0,.int .i64 r1,.int .i64 r2,.int .i64 r3] 71)).alloc (.cells #[.int .i64 kind,.int .u8 c.toNat,.int .i64 ln,.int .i64 dn] 96)).alloc (.cells #[.int .i64 0,.int .i64 0,.int .i64 0,.int .i64 0,.int .i64 0] 71)):=(((Fr.refl _ w).alloc _).alloc _).alloc _
 have hx0:=(((Fr.refl (fun _=>False) (w.alloc (.cells #[.int .i64 n,.int .i64 r0,.int .i64 r1,.int .i64 r2,.int .i64 r3] 71))).alloc (.cells #[.int .i64 kind,.int .u8 c.toNat,.int .i64 ln,.int .i64 dn] 96)).alloc (.cells #[.int .i64 0,.int .i64 0,.int .i64 0,.int .i64 0,.int .i64 0] 71)).keep (heap_alloc_new w (.cells #[.int .i64 n,.int .i64 r0,.int .i64 r1,.int .i64 r2,.int .i64 r3] 71)) (fun h=>h)
 have hx1:=((Fr.refl (fun _=>False) ((w.alloc (.cells #[.int .i64 n,.int .i64 r0,.int .i64 r1,.int .i64 r2,.int .i64 r3] 71)).alloc (.cells #[.int .i64 kind,.int .u8 c.toNat,.int .i64 ln,.int .i64 dn] 96))).alloc (.cells #[.int .i64 0,.int .i64 0,.int .i64 0,.int .i64 0,.int .i64 0] 71)).keep (heap_alloc_new (w.alloc (.cells #[.int .i64 n,.int .i64 r0,.int .i64 r1,.int .i64 r2,.int .i64 r3] 71)) (.cells #[.int .i64 kind,.int .u8 c.toNat,.int .i64 ln,.int .i64 dn] 96)) (fun h=>h)
 have hx2:=heap_alloc_new ((w.alloc (.cells #[.int .i64 n,.int .i64 r0,.int .i64 r1,.int .i64 r2,.int .i64 r3] 71)).alloc (.cells #[.int .i64 kind,.int .u8 c.toNat,.int .i64 ln,.int .i64 dn] 96)) (.cells #[.int .i64 0,.int .i64 0,.int .i64 0,.int .i64 0,.int .i64 0] 71)
 simp only[World.size_alloc] at hx1 hx2
 have HX0:=Hd hx0
 have HX1:=Hd hx1
 have HX2:=Hd hx2
 have HF0:=Hd hf0
 clear hf0 hx0 hx1 hx2
 go_enter Tryz.func56,Tryz.ntmps56
 go_wp2_with fail
 refine(HN _ (HT.out.keep HF0.out)).out.mono ?_
 rintro e w1 ⟨rfl,hfr⟩
 have hf1:=HF0.out.trans hfr
 have hfa:=(Fr.refl (fun _=>False) w1).alloc (.cells #[.int .i64 rn,.int .i64 ra,.int .i64 rb,.int .i64 rc,.int .i64 rd] 71)
 have hx0:=hfa.keep (hfr.keep HX0.out (fun h=>h)) (fun h=>h)
 have hx1:=hfa.keep (hfr.keep HX1.out (fun h=>h)) (fun h=>h)
 have hx2:=hfa.keep (hfr.keep HX2.out (fun h=>h)) (fun h=>h)
 have hx3:=heap_alloc_new w1 (.cells #[.int .i64 rn,.int .i64 ra,.int .i64 rb,.int .i64 rc,.int .i64 rd] 71)
 have HF2:=Hd (hf1.trans hfa)
 have hlt:=lt_of_block (hfr.keep HX2.out (fun h=>h))
 have hW2:Win.At (w1.alloc (.cells #[.int .i64 rn,.int .i64 ra,.int .i64 rb,.int .i64 rc,.int .i64 rd] 71)) B rv size all ring t:=HW.out.keep HF2.out (fun h=>h) (fun _ _ h=>h)
 have HW2:=Hd hW2
 have hsz3:=hfr.size
 simp only[World.size_alloc] at hsz3
 clear HX0 HX1 HX2 HF0 hfr hf1 hfa hW2 HN HT HW
 go_upto_if 19 with fail
 generalize hb0:w.heap.size=b0 at*
 generalize hb3:w1.heap.size=b3 at*
 generalize w1.alloc (.cells #[.int .i64 rn,.int .i64 ra,.int .i64 rb,.int .i64 rc,.int .i64 rd] 71)=W2 at*
 have HB0:=Hd hb0
 have HX0:=Hd hx0
 have HX1:=Hd hx1
 have HX2:=Hd hx2
 have HX3:=Hd hx3
 obtain⟨s0,s1,s2,s3,s4⟩:=cs5 hx0 rfl rfl rfl rfl rfl
 obtain⟨y0,y1,y2,y3⟩:=cs4 hx1 rfl rfl rfl rfl
 clear hb0 hb3 hx0 hx1 hx2 hx3
 have KEY:=Hd (show∀wx,Fr (fun k=>b0≤k) W2 wx→Done w B size rv all [] (.slice none 0 0) wx from fun wx hch=>by
  have hb0:=HB0.out
  refine⟨(HF2.out.trans' hch (fun i hi h=>by omega)).mono (fun _ _ h=>h.elim),Mine.nil _ _,rv,ring,t,?_,fun k hk=>.inl hk,fun k hk=>by simp[Value.ownBlock] at hk⟩
  rw[List.append_nil]
  exact HW2.out.keep hch (by omega) (fun k hk=>by have:=HRV.out k hk;omega))
 rcases herr with rfl|rfl
 ·go_upto_block 0 with fail
  go_cut [10,11] (fun s10 s11 wx=>∃(e2:Nat)(bytes:List UInt8),s10=.int .i64 (e2:Int)∧((e2=0∧ap=(0,bytes,⟨rn,ra,rb,rc,rd⟩))∨(e2=7∧bytes=[]∧ap=(7,[],.zero)))∧Done W2 B size rv all bytes s11 wx)
  case first=>
   have hw2s:=lt_of_block HX3.out
   rcases hk with rfl|rfl|rfl|rfl
   ·have y1':=alloc_keep y1 (.cells #[.int .u8 (c.toNat:Int)] 5)
    have ha1:=(Fr.refl (fun _=>False) W2).alloc (.cells #[.int .u8 (c.toNat:Int)] 5)
    have ha2:=ha1.alloc (.cells #[.int .u8 (c.toNat:Int)] 5)
    have hone:=rd_one (W2.alloc (.cells #[.int .u8 (c.toNat:Int)] 5)) (W2.heap.size+1) (by simp) c _ rfl
    have hown:Mine W2 (W2.alloc (.cells #[.int .u8 (c.toNat:Int)] 5)) (.slice (some ⟨W2.heap.size,0,none⟩) 1 1) [c]:=⟨⟨rfl,.inr ⟨W2.heap.size,1,_,rfl,Nat.zero_le _,heap_alloc_new W2 _,by simp,by simp[maxLen],by simp,by simp[bvs,bv]⟩⟩,fun k hk=>by simp only[Value.ownBlock,Option.some.injEq] at hk;omega⟩
    have HOWN:=Hd (hown.keep ((Fr.refl (fun _=>False) _).alloc (.cells #[.int .u8 (c.toNat:Int)] 5)))
    have HA2:=Hd ha2
    have HONE:=Hd hone
    clear ha1 ha2 hone hown
    go_wp2_with fail
    refine(put_calls B size t rv (.slice (some ⟨W2.heap.size+1,0,none⟩) 1 1) all ring [c] _ (HW2.out.keep HA2.out (fun h=>h) (fun _ _ h=>h)) HONE.out (fun _ k hk he=> ?_) (by simp only[List.length_singleton];omega)).mono ?_
    ·simp only[Value.ownBlock,Option.some.injEq] at hk
     have:=HRV.out k he
     omega
    rintro e w5 ⟨rfl,rv3,ring3,t3,hfr3,hA3,hN3⟩
    have HM3:=Hd (HOWN.out.step hfr3 (fun k hk h=>by
     simp only[Value.ownBlock,Option.some.injEq] at hk
     rcases h with h|h
     ·omega
     ·have:=HRV.out k h
      omega))
    have HA3:=Hd hA3
    have HN3:=Hd hN3
    have HF3:=Hd hfr3
    clear hA3 hN3 hfr3
    go_wp2_with fail
    go_meet
    have hap:=HAP.out
    rw[if_pos trivial,if_pos trivial] at hap
    refine⟨0,[c],rfl,.inl ⟨rfl,by rw[←hap];simp⟩,(HA2.out.mono (fun _ _ h=>h.elim)).trans HF3.out,HM3.out,rv3,ring3,t3,HA3.out,fun k hk=> ?_,fun k hk he=> ?_⟩
    ·rcases HN3.out k hk with h|h
     ·exact .inl h
     ·simp at h
      exact .inr (by omega)
    ·simp only[Value.ownBlock,Option.some.injEq] at hk
     rcases HN3.out k he with h|h
     ·have:=HRV.out k h
      omega
     ·simp at h
      omega
   ·have hl9:len≤273:=HLEN.out rfl (.inl rfl)
    obtain⟨rfl,rfl⟩:=HND.out (.inl rfl)
    go_wp2_with fail
    refine(copy_all B size t dist len rv all ring _ HW2.out (by first|exact hl9|decide) hmuch).mono ?_
    rintro e w5 ⟨e2,bytes,v,rfl,hor,hdone⟩
    have HOR:=Hd hor
    have HDO:=Hd hdone
    clear hor hdone
    go_wp2_with fail
    go_meet
    have hap:=HAP.out
    rw[if_pos trivial,if_neg (by decide)] at hap
    simp only[distOf,lenOfSy,if_true,if_false] at hap
    rcases HOR.out with⟨h1,rfl,rfl⟩|⟨h1,rfl,rfl⟩
    ·rw[if_pos (by simpa using h1)] at hap
     exact⟨0,_,rfl,.inl ⟨rfl,by rw[←hap];simp⟩,HDO.out⟩
    ·rw[if_neg (by simpa using h1)] at hap
     exact⟨7,[],rfl,.inr ⟨rfl,rfl,hap.symm⟩,HDO.out⟩
   ·have hl9:len≤273:=HLEN.out rfl (.inr rfl)
    obtain⟨rfl,rfl⟩:=HND.out (.inr rfl)
    have hd9:=hd3 rfl
    have HWD:=Hd (HW2.out.keep (Fr.refl (fun _=>False) W2).drew (fun h=>h) (fun _ _ h=>h))
    have HFD:=Hd (Fr.refl (fun _=>False) W2).drew
    obtain rfl|rfl|rfl|rfl:dist=0∨dist=1∨dist=2∨dist=3:=by omega
    all_goals
     go_wp2_with fail
     go_region_with ((refine(copy_all B size t _ len rv all ring _ HWD.out hl9 hmuch).mono ?_);rintro e w5 ⟨e2,bytes,v,rfl,hor,hdone⟩;have HOR:=Hd hor;have HDO:=Hd hdone;clear hor hdone)
     all_goals
      go_wp2_with fail
      go_meet
      have hap:=HAP.out
      rw[if_pos trivial,if_neg (by decide)] at hap
      simp only[distOf,lenOfSy,repAt,if_true,if_false] at hap
      have hdd:Done W2 B size rv all bytes v w5:=⟨(HFD.out.mono (fun _ _ h=>h.elim)).trans HDO.out.fr,⟨HDO.out.mine.own,fun k hk=>by have:=HDO.out.mine.new k hk;simpa using this⟩,by
       obtain⟨rv',ring',t',g1,g2,g3⟩:=HDO.out.win
       exact⟨rv',ring',t',g1,fun k hk=>by have:=g2 k hk;simpa using this,g3⟩⟩
      rcases HOR.out with⟨h1,rfl,rfl⟩|⟨h1,rfl,rfl⟩
      ·rw[if_pos (by simpa using h1)] at hap
       exact⟨0,_,rfl,.inl ⟨rfl,by rw[←hap];simp⟩,hdd⟩
      ·rw[if_neg (by simpa using h1)] at hap
       exact⟨7,[],rfl,.inr ⟨rfl,rfl,hap.symm⟩,hdd⟩
   ·have hl9:1≤273:=by decide
    go_wp2_with fail
    refine(copy_all B size t r0 1 rv all ring _ HW2.out (by first|exact hl9|decide) hmuch).mono ?_
    rintro e w5 ⟨e2,bytes,v,rfl,hor,hdone⟩
    have HOR:=Hd hor
    have HDO:=Hd hdone
    clear hor hdone
    go_wp2_with fail
    go_meet
    have hap:=HAP.out
    rw[if_pos trivial,if_neg (by decide)] at hap
    simp only[distOf,lenOfSy,if_true,if_false] at hap
    rcases HOR.out with⟨h1,rfl,rfl⟩|⟨h1,rfl,rfl⟩
    ·rw[if_pos (by simpa using h1)] at hap
     exact⟨0,_,rfl,.inl ⟨rfl,by rw[←hap];simp⟩,HDO.out⟩
    ·rw[if_neg (by simpa using h1)] at hap
     exact⟨7,[],rfl,.inr ⟨rfl,rfl,hap.symm⟩,HDO.out⟩
  case rest=>
  obtain⟨e2,bytes,rfl,hor,hdone⟩:=hcut
  have hx2:=hdone.fr.keep HX2.out (fun h=>by
   rcases h with h|h
   ·omega
   ·have:=HRV.out _ h
    omega)
  have hx3:=hdone.fr.keep HX3.out (fun h=>by
   rcases h with h|h
   ·omega
   ·have:=HRV.out _ h
    omega)
  have HDONE:=Hd hdone
  have HY2:=Hd hx2
  have HY3:=Hd hx3
  obtain⟨z0,z1,z2,z3,z4,zf⟩:=cf5 hx2 rfl rfl rfl rfl rfl
  have FIN:=Hd (show∀wy,Fr (fun k=>k=b0+1+1) wc wy→Done w B size rv all bytes u11 wy from fun wy hch=>by
   have hb0:=HB0.out
   exact HDONE.out.fin HF2.out hch (by omega) (Nat.lt_trans hlt (lt_of_block HX3.out)) (by omega) (fun k hk=>by have:=HRV.out k hk;omega))
  rcases hor with⟨rfl,hap⟩|⟨rfl,rfl,hap⟩
  ·subst hap
   clear hx2 hx3 hdone s0 s1 s2 s3 s4 y0 y1 y2 y3
   obtain⟨q0,q1,q2,q3,q4⟩:=cs5 HY3.out rfl rfl rfl rfl rfl
   go_wp2_with fail
   go_region
   all_goals go_wp2_with fail
   all_goals
    refine bodyPost_ret (v:=.tuple #[u11,.agg #[.int .i64 rn,.int .i64 ra,.int .i64 rb,.int .i64 rc,.int .i64 rd],.int .i64 0]) (by simp[results,Tryz.results56,go_sem,z0,z1,z2,z3,z4]) rfl ?_
    refine⟨_,rfl,FIN.out _ ?_⟩
    try refine Fr.drew ?_
    repeat refine Fr.setCell ?_ (.inl (by simp)) _
    first|exact Fr.refl _ _|exact(Fr.refl _ _).drew
  ·subst hap
   clear hx2 hx3 hdone s0 s1 s2 s3 s4 y0 y1 y2 y3
   go_wp2_with fail
   refine bodyPost_ret (v:=.tuple #[.slice none 0 0,.agg #[.int .i64 0,.int .i64 0,.int .i64 0,.int .i64 0,.int .i64 0],.int .i64 7]) (by simp[results,Tryz.results56,go_sem,z0,z1,z2,z3,z4]) rfl ?_
   have hfin:=fun wy(hch:Fr (fun k=>k=b0+1+1) wc wy)=>FIN.out wy hch
   have NIL:=Hd (show∀wy,Fr (fun k=>k=b0+1+1) wc wy→Done w B size rv all [] (.slice none 0 0) wy from fun wy hch=>by
    obtain⟨h1,h2,rv',ring',t',h3,h4,h5⟩:=FIN.out wy hch
    exact⟨h1,Mine.nil _ _,rv',ring',t',h3,h4,fun k hk=>by simp[Value.ownBlock] at hk⟩)
   refine⟨_,rfl,NIL.out _ ?_⟩
   repeat refine Fr.setCell ?_ (.inl (by simp)) _
   exact Fr.refl _ _
 ·obtain⟨z0,z1,z2,z3,z4,zf⟩:=cf5 HX2.out rfl rfl rfl rfl rfl
  go_wp2_with fail
  refine bodyPost_ret (v:=.tuple #[.slice none 0 0,.agg #[.int .i64 0,.int .i64 0,.int .i64 0,.int .i64 0,.int .i64 0],.int .i64 7]) (by simp[results,Tryz.results56,go_sem,z0,z1,z2,z3,z4]) rfl ?_
  have hap:=HAP.out
  rw[if_neg (by decide)] at hap
  subst hap
  refine⟨_,rfl,KEY.out _ ?_⟩
  repeat refine Fr.setCell ?_ (.inl (by simp;try omega)) _
  exact Fr.refl _ _
def applyZ(size:Nat)(all:List UInt8)(s:S)(z:Sz):Nat×List UInt8×S:=if z.bad=0 then apply size all s z.sy else(z.bad,[],.zero)
set_option maxRecDepth 100000 in
theorem apply_bad(v:Value)(s:S)(cs:Array Value)(er:Int)(h6:er≠0)(w:World)(hcs:∃k b n d,cs=#[.int .i64 k,.int .u8 b,.int .i64 n,.int .i64 d])
 (HN0:∀W,Fr (fun _=>False) w W→Calls Tryz.prog 97 #[.agg s.cells,.agg cs] W fun e w'=>e=.returned (.tuple #[.agg S.zero.cells,.int .i64 er])∧Fr (fun _=>False) W w'):
 Calls Tryz.prog 56 #[v,.agg s.cells,.agg cs] w fun e w'=>e=.returned (.tuple #[.slice none 0 0,.agg S.zero.cells,.int .i64 er])∧Fr (fun _=>False) w w':=by
 obtain⟨kk,bb,ln,dn,rfl⟩:=hcs
 obtain⟨n,r0,r1,r2,r3⟩:=s
 simp only[S.cells,S.zero] at HN0 ⊢
 have HN:=fun W h=>Hd (HN0 W h)
 clear HN0
 have e1:(er==0)=false:=by simp;omega
 have e2:(er !=0)=true:=by simp;omega
 have hf0:Fr (fun _=>False) w (((w.alloc (.cells #[.int .i64 n,.int .i64 r0,.int .i64 r1,.int .i64 r2,.int .i64 r3] 71)).alloc (.cells #[.int .i64 kk,.int .u8 bb,.int .i64 ln,.int .i64 dn] 96)).alloc (.cells #[.int .i64 0,.int .i64 0,.int .i64 0,.int .i64 0,.int .i64 0] 71)):=(((Fr.refl _ w).alloc _).alloc _).alloc _
 have hx2:=heap_alloc_new ((w.alloc (.cells #[.int .i64 n,.int .i64 r0,.int .i64 r1,.int .i64 r2,.int .i64 r3] 71)).alloc (.cells #[.int .i64 kk,.int .u8 bb,.int .i64 ln,.int .i64 dn] 96)) (.cells #[.int .i64 0,.int .i64 0,.int .i64 0,.int .i64 0,.int .i64 0] 71)
 simp only[World.size_alloc] at hx2
 have HX2:=Hd hx2
 have HF0:=Hd hf0
 clear hf0 hx2
 go_enter Tryz.func56,Tryz.ntmps56
 go_wp2_with fail
 refine(HN _ HF0.out).out.mono ?_
 rintro e w1 ⟨rfl,hfr⟩
 have hf1:=HF0.out.trans hfr
 have hfa:=(Fr.refl (fun _=>False) w1).alloc (.cells #[.int .i64 0,.int .i64 0,.int .i64 0,.int .i64 0,.int .i64 0] 71)
 have hx2:=hfa.keep (hfr.keep HX2.out (fun h=>h)) (fun h=>h)
 have HF2:=Hd (hf1.trans hfa)
 clear HX2 HF0 hfr hf1 hfa HN
 go_upto_if 19 with fail
 generalize hb0:w.heap.size=b0 at*
 generalize w1.alloc (.cells #[.int .i64 0,.int .i64 0,.int .i64 0,.int .i64 0,.int .i64 0] 71)=W2 at*
 have HB0:=Hd hb0
 obtain⟨z0,z1,z2,z3,z4,zf⟩:=cf5 hx2 rfl rfl rfl rfl rfl
 clear hx2
 go_wp2_with fail
 refine bodyPost_ret (v:=.tuple #[.slice none 0 0,.agg #[.int .i64 0,.int .i64 0,.int .i64 0,.int .i64 0,.int .i64 0],.int .i64 er]) (by simp[results,Tryz.results56,go_sem,z0,z1,z2,z3,z4]) rfl ?_
 refine⟨rfl,HF2.out.trans' (S:=fun _=>False) (T:=fun k=>b0≤k) ?_ (fun i hi hk=>by have:=HB0.out;omega)⟩
 repeat refine Fr.setCell ?_ (.inl (by simp;try omega)) _
 exact Fr.refl _ _
theorem apply_any(B size t:Nat)(rv:Value)(all ring:List UInt8)(s:S)(hs:s.Ok)(z:Sz)(hb:z.byte<256)(w:World)(hT:Tabs w)(h:Win.At w B rv size all ring t)(hmuch:all.length≤1152921504606846000):
 Calls Tryz.prog 56 #[.pointer (some ⟨B,0,none⟩),.agg s.cells,.agg z.cells] w fun e w'=>∃v,e=.returned (.tuple #[v,.agg (applyZ size all s z).2.2.cells,.int .i64 (applyZ size all s z).1])∧Done w B size rv all (applyZ size all s z).2.1 v w':=by
 unfold applyZ
 by_cases h0:z.bad=0
 ·rw[if_pos h0]
  obtain⟨hy,hn⟩:=Sz.ok h0 hb
  have hsm:=Sz.same h0
  have hnx:=fun W hW=>next_any s hs z hb W hW
  rw[h0,if_pos rfl] at hnx
  have hk0:(z.sy.kind:Int)=z.kind:=by
   have:=hy.kind
   unfold Sz.bad at h0
   simp only[Sz.sy] at this ⊢
   omega
  have e:z.cells=#[.int .i64 z.sy.kind,.int .u8 z.sy.byte,.int .i64 z.len,.int .i64 z.dist]:=by rw[hk0];rfl
  rw[e] at hnx ⊢
  refine apply_in B size t rv all ring s hs z.sy hy w hT h hmuch z.len z.dist (fun hk=> ?_) (fun W hW=>by rw[hn s];exact hnx W hW)
  have:=hsm (by omega)
  exact⟨this.1.symm,this.2.1.symm⟩
 ·rw[if_neg h0]
  have hnx:=fun W(hW:Fr (fun _=>False) w W)=>next_any s hs z hb W (hT.keep hW)
  rw[if_neg h0] at hnx
  refine(apply_bad _ s z.cells z.bad (by omega) w ⟨_,_,_,_,rfl⟩ hnx).mono ?_
  rintro e w' ⟨rfl,hfr⟩
  exact⟨_,rfl,hfr.mono (fun _ _ h=>h.elim),Mine.nil _ _,rv,ring,t,by rw[List.append_nil];exact h.keep hfr (fun h=>h) (fun _ _ h=>h),fun k hk=>.inl hk,fun k hk=>by simp[Value.ownBlock] at hk⟩
end St
namespace Wire
open Mem
theorem wpList_copy_any{P:Program}{ops:Array Oper}{rest:List Oper}{o:Oper}{a:Act}{w:World}{Q:Exit→Act→World→Prop}(hgd:o.guard=none)(d s:Operand)(dT sT elem:TypeId)
 (ho:o.op=.call {callee:=.builtin .copy,args:=#[d,s],argTypes:=#[dT,sT]})(hu:P.underlying dT=some (.slice elem))(hs:(P.info? elem).map (·.size)=some 1)
 (rp:Option Addr)(rl rc u:Nat)(ring:List UInt8)(T:TypeId)(hd:a.eval d=.slice (dropP rp rc u) (rl-u) (rc-u))(hown:w.ownsRow 0 T 1 (.slice rp rl rc) rl (bvs ring))(hu1:u<rl)
 (p:Option Addr)(n cap:Nat)(b:List UInt8)(hv:a.eval s=.slice p n cap)(hb:Rd w (.slice p n cap) b)(h0:0<n)(m:Nat)(hm:m=min n (rl-u))
 (h:∀w',w'.ownsRow 0 T 1 (.slice rp rl rc) rl (bvs (ring.take u++b.take m++ring.drop (u+m)))→Fr (fun k=>(Value.slice rp rl rc).ownBlock=some k) w w'→wpList P ops Q rest (a.put o.dst (.int .i64 (m:Int))) w'):
 wpList P ops Q (o::rest) a w:=by
 refine wpList_plain hgd fun K hK=> ?_
 obtain⟨w',hr,h2,h3⟩:=run_copy_any (P:=P) w dT sT o.type elem hu hs rp rl rc u ring T hown hu1 p n cap b hb h0 m hm
 unfold Oper.wp
 simp[execOp,ho,resolve,invoke,builtin,hd,hv,hr,Result.andThen]
 exact hK _ _ (h w' h2 h3)
theorem make_u8(n:Nat)(h:n≤281474976710656)(W:World):
 (Instr.makeSlice 22 (.int .i64 n) (.int .i64 n)).run Tryz.prog W=.ok (.slice (some ⟨W.heap.size,0,none⟩) n n) (W.alloc (.cells (Array.replicate n (.int .u8 0)) 5)):=by
 obtain⟨i,hi,hz,hs,hb⟩:=info_parts infoU8
 have:=run_make (P:=Tryz.prog) W 22 5 i (.int .u8 0) Tryz.underlying22 hi hz .i64 .i64 n n (by omega) (by omega) (by rw[hb];omega) (by omega)
 rw[this,hs,Int.toNat_natCast,Nat.mul_one]
 have e:madeCells (Value.int .u8 0).cells n=Array.replicate n (Value.int .u8 0):=by
  apply Array.ext
  ·simp[madeCells]
  ·intro k h1 h2
   simp[madeCells,Value.cells,Nat.mod_one]
 rw[e]
structure Rdr(w:World)(B n:Nat)(v:Value)(xs:List UInt8):Prop where
 box:w.heap[B]? =some (.cells #[.int .i64 n,v] 328 (0,0))
 rd:Rd w v xs
 le:n≤xs.length
 small:xs.length≤1099511627776
theorem Rdr.slice{w:World}{B n:Nat}{v:Value}{xs:List UInt8}(h:Rdr w B n v xs):∃p cap,v=.slice p xs.length cap∧xs.length≤cap∧cap≤maxLen:=by
 obtain⟨p,cap,rfl,h1,h2,_⟩:=h.rd
 exact⟨p,cap,rfl,h1,h2⟩
theorem rdrV_nb(a:Int)(p:Option Addr)(n c:Nat)(i:Nat)(m:Int):(#[.int .i64 a,.slice p n c]:Array Value)[i]? ≠some (Value.int .u8 m):=by
 intro h
 have:=Array.mem_of_getElem? h
 simp at this
theorem rd_off0{w:World}{v:Value}{xs:List UInt8}(h:Rd w v xs)(h0:0<xs.length){g:Nat}{cs:Array Value}{T:TypeId}{fr:Nat×Nat}(hg:w.heap[g]? =some (.cells cs T fr))(hcs:∀(i:Nat)(n:Int),cs[i]? ≠some (Value.int .u8 n)):∀k,v.ownBlock=some k→k≠g:=by
 obtain⟨p,cap,rfl,_,_,h3⟩:=h
 obtain⟨b,o,rfl,hc⟩:=h3 h0
 intro k hk
 simp only[Value.ownBlock,Option.some.injEq] at hk
 subst hk
 rintro rfl
 have h1:=hc 0 xs[0] (by simp[h0])
 rw[cell_of_row w _ _ _ _ _ hg] at h1
 exact hcs _ _ h1
theorem Rdr.on{w w':World}{B n k:Nat}{v:Value}{xs:List UInt8}(h:Rdr w B n v xs)(hk:n+k≤xs.length)(hfr:Fr (fun k=>k=B) w w')(hb:w'.heap[B]? =some (.cells #[.int .i64 ((n+k:Nat):Int),v] 328 (0,0))):Rdr w' B (n+k) v xs:=by
 refine⟨hb,?_,hk,h.small⟩
 by_cases h0:0<xs.length
 ·obtain⟨p,cap,rfl,_⟩:=h.slice
  exact h.rd.step hfr (rd_off0 h.rd h0 h.box (rdrV_nb _ _ _ _))
 ·obtain⟨p,cap,rfl,h1,h2,h3⟩:=h.rd
  exact⟨p,cap,rfl,h1,h2,fun h=>absurd h h0⟩
theorem Rdr.keep{S:Nat→Prop}{w w':World}{B n:Nat}{v:Value}{xs:List UInt8}(h:Rdr w B n v xs)(hfr:Fr S w w')(hB:¬S B)(hv:∀k,v.ownBlock=some k→¬S k):Rdr w' B n v xs:=⟨hfr.keep h.box hB,h.rd.step hfr hv,h.le,h.small⟩
theorem left_calls(B n:Nat)(v:Value)(xs:List UInt8)(w:World)(h:Rdr w B n v xs):
 Calls Tryz.prog 220 #[.pointer (some ⟨B,0,none⟩)] w fun e w'=>e=.returned (.int .i64 ((xs.length-n:Nat):Int))∧∃m,w'=w.drewN m:=by
 obtain⟨p,cap,rfl,_⟩:=h.slice
 have c0:w.cell? ⟨B,0,none⟩=some (.int .i64 n):=cell_in h.box rfl
 have c1:w.cell? ⟨B,1,none⟩=some (.slice p xs.length cap):=cell_in h.box rfl
 have hle:=h.le
 have hsm:=h.small
 have hw:IntKind.i64.wrap ((xs.length:Int)-n)=(xs.length:Int)-n:=IntWalk.i64_in _ (by omega)
 clear h
 go_enter Tryz.func220,Tryz.ntmps220
 go_wp2_with fail
 go_quiet (fail)
 go_wp2_with fail
 go_ret
 exact⟨ret_int (by omega),_,rfl⟩
theorem wide_calls(w:World):Calls Tryz.prog 154 #[.int .i64 2] w fun e w'=>e=.returned (.bool true)∧w=w':=by
 go_enter Tryz.func154,Tryz.ntmps154
 go_wp2_with fail
 go_ret
 exact⟨rfl,rfl⟩
theorem number_calls(B n:Nat)(v:Value)(xs:List UInt8)(w:World)(h:Rdr w B n v xs):
 Calls Tryz.prog 222 #[.pointer (some ⟨B,0,none⟩),.int .i64 2] w fun e w'=>e=.returned (.int .i64 (if xs.length-n<2 then 1 else 0))∧∃m,w'=w.drewN m:=by
 have HL:=Hd (left_calls B n v xs w h)
 clear h
 by_cases h2:xs.length-n<2
 all_goals
  go_enter Tryz.func222,Tryz.ntmps222
  go_wp2_with fail
  refine(wide_calls _).mono ?_
  rintro e w1 ⟨rfl,rfl⟩
  go_wp2_with fail
  refine HL.out.mono ?_
  rintro e w1 ⟨rfl,m,rfl⟩
  go_wp2_with fail
  go_ret
  exact⟨rfl,_,rfl⟩
theorem on_calls(B n k:Nat)(v:Value)(w:World)(h:w.heap[B]? =some (.cells #[.int .i64 n,v] 328 (0,0)))(hk:n+k≤9223372036854775807):
 Calls Tryz.prog 153 #[.pointer (some ⟨B,0,none⟩),.int .i64 k] w fun e w'=>e=.returned (.tuple #[])∧Fr (fun k=>k=B) w w'∧w'.heap[B]? =some (.cells #[.int .i64 ((n+k:Nat):Int),v] 328 (0,0)):=by
 have c0:w.cell? ⟨B,0,none⟩=some (.int .i64 n):=cell_in h rfl
 have f0:=frozen_in h 0
 have hw:IntKind.i64.wrap ((n:Int)+k)=((n+k:Nat):Int):=by rw[IntWalk.i64_in _ (by omega)];omega
 have H:=Hd h
 clear h
 generalize n+k=nk at*
 go_enter Tryz.func153,Tryz.ntmps153
 go_wp2_with fail
 go_end0
 exact⟨rfl,Fr.one _ _ _ _,by rw[set_in H.out 0];rfl⟩
theorem next_calls(B n k:Nat)(v:Value)(xs:List UInt8)(w:World)(h:Rdr w B n v xs)(hk:n+k≤xs.length):
 Calls Tryz.prog 221 #[.pointer (some ⟨B,0,none⟩),.int .i64 k] w fun e w'=>Fr (fun k=>k=B) w w'∧Rdr w' B (n+k) v xs∧∃q c,e=.returned (.slice q k c)∧Rd w' (.slice q k c) ((xs.drop n).take k):=by
 obtain⟨p,cap,rfl,hc1,hc2⟩:=h.slice
 have c0:w.cell? ⟨B,0,none⟩=some (.int .i64 n):=cell_in h.box rfl
 have c1:w.cell? ⟨B,1,none⟩=some (.slice p xs.length cap):=cell_in h.box rfl
 have hsm:=h.small
 have hw:IntKind.i64.wrap ((n:Int)+k)=(n:Int)+k:=IntWalk.i64_in _ (by omega)
 have hsl:=slice_lhI p xs.length cap n (n+k) n ((n:Int)+k) rfl (by omega) (by omega) (by omega)
 have hmid:=rd_mid (a:=n) (b:=n+k) h.rd (by omega) hk
 rw[show n+k-n=k by omega] at hsl hmid
 have H:=Hd h
 have HON:=Hd (fun m=>on_calls B n k (.slice p xs.length cap) (w.drewN m) (((Fr.refl (fun _=>False) w).drewN m).keep h.box (fun h=>h)) (by omega))
 have HDR:=Hd (fun m=>(Fr.refl (fun k=>k=B) w).drewN m)
 have HMID:=Hd hmid
 clear h hmid
 generalize dropP p cap n=q at*
 generalize cap-n=c at*
 go_enter Tryz.func221,Tryz.ntmps221
 go_wp2_with fail
 go_quiet (fail)
 have HO:=Hd (HON.out nq)
 have hdr:=Hd (HDR.out nq)
 clear HON HDR
 generalize w.drewN nq=W at*
 go_wp2_with fail
 refine HO.out.mono ?_
 rintro e w2 ⟨rfl,hfr,hb⟩
 have HF:=Hd (hdr.out.trans hfr)
 have HB:=Hd hb
 clear hfr hb
 go_wp2_with fail
 go_ret
 refine⟨HF.out,H.out.on hk HF.out HB.out,q,c,rfl,?_⟩
 by_cases h0:0<((xs.drop n).take k).length
 ·exact HMID.out.step HF.out (rd_off0 HMID.out h0 H.out.box (rdrV_nb _ _ _ _))
 ·obtain⟨p2,cap2,e2,h1,h2,h3⟩:=HMID.out
  exact⟨p2,cap2,e2,h1,h2,fun h=>absurd h h0⟩
end Wire
namespace Wire
open Mem
theorem off_calls(B n:Nat)(v:Value)(xs:List UInt8)(w:World)(h:Rdr w B n v xs):
 Calls Tryz.prog 198 #[.pointer (some ⟨B,0,none⟩)] w fun e w'=>e=.returned (.int .i64 n)∧w=w':=by
 have c0:w.cell? ⟨B,0,none⟩=some (.int .i64 n):=cell_in h.box rfl
 clear h
 go_enter Tryz.func198,Tryz.ntmps198
 go_wp2_with fail
 go_ret
 exact⟨rfl,rfl⟩
theorem u8_calls(B n:Nat)(v:Value)(xs:List UInt8)(x:UInt8)(w:World)(h:Rdr w B n v xs)(hx:xs[n]? =some x):
 Calls Tryz.prog 196 #[.pointer (some ⟨B,0,none⟩)] w fun e w'=>e=.returned (.tuple #[.int .i64 x.toNat,.int .i64 0])∧Fr (fun k=>k=B) w w'∧Rdr w' B (n+1) v xs:=by
 have hn:=(List.getElem?_eq_some_iff.1 hx).1
 have HL:=Hd (left_calls B n v xs w h)
 have HN:=Hd (fun m=>next_calls B n 1 v xs (w.drewN m) ⟨((Fr.refl (fun _=>False) w).drewN m).keep h.box (fun h=>h),h.rd.keep ((Fr.refl (fun _=>False) w).drewN m),h.le,h.small⟩ (by omega))
 have HDR:=Hd (fun m=>(Fr.refl (fun k=>k=B) w).drewN m)
 have hxl:=UInt8.toNat_lt x
 have hel:((xs.drop n).take 1)[0]? =some x:=by
  rw[List.getElem?_take,if_pos (by omega),List.getElem?_drop]
  exact hx
 have HEL:=Hd hel
 obtain⟨a,ha⟩:∃a,a=xs.length-n:=⟨_,rfl⟩
 rw[←ha] at HL
 have ha1:1≤a:=by omega
 clear h hx hel ha hn
 go_enter Tryz.func196,Tryz.ntmps196
 go_wp2_with fail
 refine HL.out.mono ?_
 rintro e w1 ⟨rfl,m,rfl⟩
 go_wp2_with fail
 refine(HN.out m).mono ?_
 rintro e w2 ⟨hfr,hR,q,c,rfl,hrd⟩
 obtain⟨b',o',hq,hc⟩:=Win.byte_at hrd HEL.out
 have HF:=Hd ((HDR.out m).trans hfr)
 have HR:=Hd hR
 clear hfr hR hrd
 subst hq
 rw[Nat.add_zero] at hc
 have hw:IntKind.i64.wrap (x.toNat:Int)=(x.toNat:Int):=IntWalk.i64_in _ (by omega)
 go_wp2_with fail
 go_ret2
 exact⟨rfl,HF.out,HR.out⟩
def beV(xs:List UInt8):Nat→Nat
 |0=>0
 |k+1=>beV xs k*256+(xs.getD k 0).toNat
theorem beV_lt(xs:List UInt8):∀k,beV xs k<256^k
 |0=>by simp[beV]
 |k+1=>by
   have h1:=beV_lt xs k
   have h2:=UInt8.toNat_lt (xs.getD k 0)
   rw[beV,Nat.pow_succ]
   omega
theorem or_byte64 (a c:Nat) (ha:a<72057594037927936) (hc:c<256):bits BinOp.or IntKind.u64 ((a:Int)*256) (c:Int)=((a*256+c:Nat):Int):=by
 rw[show((a:Int)*256)=((a*256:Nat):Int) by omega,bits_or_u64_nat _ _ (by omega) (by omega)]
 congr 1
 rw[Nat.mul_comm,show(256:Nat)=2^8 by rfl,Nat.two_pow_add_eq_or_of_lt (by simpa using hc)]
theorem high_calls(B n:Nat)(v:Value)(xs:List UInt8)(w:World)(h:Rdr w B n v xs)(hx:n+2≤xs.length):
 Calls Tryz.prog 197 #[.pointer (some ⟨B,0,none⟩),.int .i64 2] w fun e w'=>e=.returned (.tuple #[.int .u64 (beV (xs.drop n) 2),.int .i64 0])∧Fr (fun k=>k=B) w w'∧Rdr w' B (n+2) v xs:=by
 have HL:=Hd (number_calls B n v xs w h)
 rw[if_neg (by omega)] at HL
 have HN:=Hd (fun m=>next_calls B n 2 v xs (w.drewN m) ⟨((Fr.refl (fun _=>False) w).drewN m).keep h.box (fun h=>h),h.rd.keep ((Fr.refl (fun _=>False) w).drewN m),h.le,h.small⟩ (by omega))
 have HDR:=Hd (fun m=>(Fr.refl (fun k=>k=B) w).drewN m)
 have HEL:=Hd (show∀k,k<2→((xs.drop n).take 2)[k]? =some ((xs.drop n).getD k 0) from fun k hk=>by
  rw[List.getElem?_take,if_pos hk,List.getD_eq_getElem?_getD,List.getElem?_eq_getElem (by rw[List.length_drop];omega)]
  rfl)
 clear h hx
 generalize xs.drop n=ys at*
 go_enter Tryz.func197,Tryz.ntmps197
 go_wp2_with fail
 refine HL.out.mono ?_
 rintro e w1 ⟨rfl,m,rfl⟩
 go_wp2_with fail
 refine(HN.out m).mono ?_
 rintro e w2 ⟨hfr,hR,q,c,rfl,hrd⟩
 have HF:=Hd ((HDR.out m).trans hfr)
 have HR:=Hd hR
 have HRD:=Hd hrd
 clear hfr hR hrd
 go_wp2_with fail
 go_loop [7,20](fun a i=>∃k:Nat,k≤2∧i=.int .i64 k∧a=.int .u64 (beV ys k)) (fun _ i=>2-(intOf i).toNat)
 case atStart=>exact⟨0,by omega,rfl,rfl⟩
 case round=>
  obtain⟨k,hk,rfl,rfl⟩:=hrel
  by_cases hlt:k<2
  ·obtain⟨b',o',hq,hc⟩:=Win.byte_at HRD.out (HEL.out k hlt)
   have hbe:=beV_lt ys k
   have hpk:256^k≤256:=Nat.le_trans (Nat.pow_le_pow_right (by omega) (show k≤1 by omega)) (by decide)
   have hcb:=UInt8.toNat_lt (ys.getD k 0)
   have HO:=Hd (or_byte64 (beV ys k) (ys.getD k 0).toNat (by omega) hcb)
   have HBE:=Hd (show beV ys (k+1)=beV ys k*256+(ys.getD k 0).toNat from rfl)
   have hb1:beV ys k<256:=by omega
   subst hq
   clear hbe hpk
   generalize beV ys k=a at*
   generalize(ys.getD k 0).toNat=z at*
   go_wp2_with fail
   go_round
   case rel=>exact⟨k+1,by omega,by go_num,by rw[HO.out,HBE.out]⟩
   case measure=>simp[intOf];omega
  ·obtain rfl:k=2:=by omega
   go_wp2_with fail
   go_ret2
   exact⟨rfl,HF.out,HR.out⟩
theorem dropP_zero(b o c:Nat):dropP (some ⟨b,o,none⟩) c 0=some ⟨b,o,none⟩:=by
 unfold dropP
 split
 ·rfl
 ·rw[Option.map_some,add_mid]
  rfl
theorem sizeU8:(Tryz.prog.info? 5).map (·.size)=some 1:=by kernel_rfl
theorem newReader_calls(v:Value)(xs:List UInt8)(w:World)(hr:Rd w v xs)(h0:0<xs.length)(hl:xs.length≤1099511627776):
    Calls Tryz.prog 195 #[v] w fun e w'=>Fr (fun _=>False) w w'∧∃B v2,e=.returned (.pointer (some ⟨B,0,none⟩))∧Rdr w' B 0 v2 xs∧w.heap.size≤B∧∀k,v2.ownBlock=some k→w.heap.size≤k:=by
  obtain⟨p,cap,rfl,hc1,hc2,h3⟩:=hr
  have hr:Rd w (.slice p xs.length cap) xs:=⟨p,cap,rfl,hc1,hc2,h3⟩
  have hf1:=(Fr.refl (fun _=>False) w).alloc (.cells (Array.replicate xs.length (.int .u8 0)) 5)
  have hx:=heap_alloc_new w (.cells (Array.replicate xs.length (.int .u8 0)) 5)
  have hmk:=make_u8 xs.length (by omega)
  have hown:(w.alloc (.cells (Array.replicate xs.length (.int .u8 0)) 5)).ownsRow 0 5 1 (.slice (some ⟨w.heap.size,0,none⟩) xs.length xs.length) xs.length (bvs (List.replicate xs.length 0)):=by
    refine own_row (g:=w.heap.size) ?_ (by simp[bvs]) (by simp only[maxLen];omega)
    rw[hx]
    simp[bvs,bv]
  have HO:=Hd hown
  have HR:=Hd (hr.keep hf1)
  have HF:=Hd hf1
  have hu:=Tryz.underlying22
  clear hr hf1 hx hown h3
  go_enter Tryz.func195,Tryz.ntmps195
  have tok1:True:=trivial
  go_wp2_with (refine wpList_copy_any rfl (.tmp 7) (.tmp 8) 22 22 5 rfl hu sizeU8 (some ⟨w.heap.size,0,none⟩) xs.length xs.length 0 (List.replicate xs.length 0) 5 (by rw[dropP_zero];rfl) HO.out h0 p xs.length cap xs rfl HR.out h0 xs.length (by omega) ?_
               intro w2 hown2 hfr2
               have HO2:=Hd hown2
               have HF2:=Hd hfr2
               clear hown2 hfr2)
  go_ret
  have hx2:=heap_alloc_new w2 (.cells #[.int .i64 0,.slice (some ⟨w.heap.size,0,none⟩) xs.length xs.length] 328)
  have hf2:=(Fr.refl (fun _=>False) w2).alloc (.cells #[.int .i64 0,.slice (some ⟨w.heap.size,0,none⟩) xs.length xs.length] 328)
  have h1:=HO2.out
  simp only[List.take_zero,List.nil_append,Nat.zero_add] at h1
  rw[List.drop_of_length_le (by simp),List.append_nil,List.take_length] at h1
  refine⟨(HF.out.trans' HF2.out (fun i hi h=> ?_)).trans hf2,w2.heap.size,_,rfl,⟨hx2,(Rd.of_own h1).keep hf2,by omega,hl⟩,Nat.le_trans HF.out.size HF2.out.size,fun k hk=>by simp only[Value.ownBlock,Option.some.injEq] at hk;omega⟩
  simp only[Value.ownBlock,Option.some.injEq] at h
  omega
end Wire
end Go.Proofs.YtlgccpjccopdmaaGreatDoor
