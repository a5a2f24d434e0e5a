/- Part 10 of 52: lemmas of the last part, each under the conditions that it names. -/
import Derived.Deep.DeepCutAuto
import Derived.Deep.CutBlock
import Derived.Test.YtffoddpjfgjelaaGreatDoorRows
import Derived.BigRegion
import Derived.Deep.QuietTactic
import Derived.BigQuiet
import Derived.WalkLawsBesides
import Derived.Recover
import Derived.Orders
import Derived.WalkKit
import Derived.Test.YtffoddpjfgjelaaGreatDoorP01
import Derived.Test.YtffoddpjfgjelaaGreatDoorP09
set_option linter.unusedVariables false
set_option linter.unusedSimpArgs false
set_option maxRecDepth 1500
set_option maxHeartbeats 4000000
namespace Go.Proofs.YtffoddpjfgjelaaGreatDoor
open Go.RowKit
namespace St
open Mem Win
def distOf(s:S)(y:Sy):Nat:=if y.kind=2 then y.dist else if y.kind=3 then repAt s y.dist else s.r0
def lenOfSy(y:Sy):Nat:=if y.kind=4 then 1 else y.len
def apply(size:Nat)(all:List UInt8)(s:S)(y:Sy):Nat×List UInt8×S:=
 if(s.next y).1=0 then
  if y.kind=1 then(0,[UInt8.ofNat y.byte],(s.next y).2)
  else if 1≤distOf s y∧distOf s y≤min size all.length then(0,copied all (distOf s y) (lenOfSy y),(s.next y).2)
  else(7,[],.zero)
 else((s.next y).1,[],.zero)
structure Done(w:World)(B size:Nat)(rv:Value)(all bytes:List UInt8)(v:Value)(w':World):Prop where
 fr:Fr (fun k=>k=B∨rv.ownBlock=some k) w w'
 mine:Mine w w' v bytes
 win:∃rv' ring' t',Win.At w' B rv' size (all++bytes) ring' t'∧(∀k,rv'.ownBlock=some k→rv.ownBlock=some k∨w.heap.size≤k)∧(∀k,v.ownBlock=some k→rv'.ownBlock≠some k)
theorem Done.fin{w W2 wx wy:World}{B size g:Nat}{rv v:Value}{all bytes:List UInt8}(hF:Fr (fun _=>False) w W2)(h:Done W2 B size rv all bytes v wx)(hch:Fr (fun k=>k=g) wx wy)(hg0:w.heap.size≤g)(hg1:g<W2.heap.size)(hB:B<w.heap.size)(hrv:∀k,rv.ownBlock=some k→k<w.heap.size):Done w B size rv all bytes v wy:=by
 obtain⟨h1,h2,rv',ring',t',h3,h4,h5⟩:=h
 have hs:=hF.size
 refine⟨((hF.mono (fun _ _ h=>h.elim)).trans h1).trans' hch (fun i hi(e:i=g)=>by omega),⟨(h2.step hch (fun k hk(e:k=g)=>by have:=h2.new k hk;omega)).own,fun k hk=>Nat.le_trans hs (h2.new k hk)⟩,rv',ring',t',h3.keep hch (fun(e:B=g)=>by omega) (fun k hk(e:k=g)=> ?_),fun k hk=>(h4 k hk).imp id (Nat.le_trans hs),h5⟩
 rcases h4 k hk with h|h
 ·have:=hrv k h
  omega
 ·omega
theorem next_len(s:S)(y:Sy)(h0:(s.next y).1=0)(hk:y.kind=2∨y.kind=3):y.len≤273:=by
 by_cases hl:isL y.len
 ·exact hl.2
 ·exfalso
  unfold S.next at h0
  rcases hk with hk|hk
  ·rw[if_neg (by omega),if_neg (by omega),if_pos hk,if_neg hl] at h0
   simp at h0
  ·rw[if_neg (by omega),if_neg (by omega),if_neg (by omega),if_neg hl] at h0
   simp at h0
theorem copy_all(B size t d n:Nat)(rv:Value)(all ring:List UInt8)(w:World)(h:Win.At w B rv size all ring t)(hn:n≤273)(hmuch:all.length≤1152921504606846000):
 Calls Tryz.prog 197 #[.pointer (some ⟨B,0,none⟩),.int .i64 d,.int .i64 n] w fun e w'=>∃(e2:Nat)(bytes:List UInt8)(v:Value),e=.returned (.tuple #[v,.int .i64 (e2:Int)])∧
  ((1≤d∧d≤min size all.length)∧e2=0∧bytes=copied all d n∨¬(1≤d∧d≤min size all.length)∧e2=7∧bytes=[])∧Done w B size rv all bytes v w':=by
 have hl:=h.of.len
 by_cases hin:1≤d∧d≤ring.length
 ·refine(copy_in B size t d n rv all ring w h hin hn hmuch).mono ?_
  rintro e w' ⟨v,rfl,rv2,ring2,t2,hA,hF,hN,hM,hP⟩
  exact⟨0,_,v,rfl,.inl ⟨⟨hin.1,by omega⟩,rfl,rfl⟩,hF,hM,rv2,ring2,t2,by rw[←grown_eq];exact hA,hN,hP⟩
 ·refine(copy_out B size t d n rv all ring w h (.inl hin)).mono ?_
  rintro e w' ⟨rfl,rfl⟩
  exact⟨7,[],_,rfl,.inr ⟨by rw[←hl];exact hin,rfl,rfl⟩,Fr.refl _ _,Mine.nil _ _,rv,ring,t,by rw[List.append_nil];exact h,fun k hk=>.inl hk,fun k hk=>by simp[Value.ownBlock] at hk⟩
set_option maxRecDepth 100000 in
theorem apply_calls(B size t:Nat)(rv:Value)(all ring:List UInt8)(s:S)(hs:s.Ok)(y:Sy)(hy:y.Ok)(w:World)(hT:Tabs w)(h:Win.At w B rv size all ring t)(hmuch:all.length≤1152921504606846000):
 Calls Tryz.prog 133 #[.pointer (some ⟨B,0,none⟩),.agg s.cells,.agg y.cells] w fun e w'=>∃v,e=.returned (.tuple #[v,.agg (apply size all s y).2.2.cells,.int .i64 (apply size all s y).1])∧Done w B size rv all (apply size all s y).2.1 v w':=by
 have herr:=S.next_err s y
 have hlen:=next_len s y
 have HN:=fun W(h:Tabs W)=>Hd (next_calls s hs y hy W h)
 generalize hap:apply size all s y=ap
 unfold apply at hap
 obtain⟨kind,byte,len,dist⟩:=y
 obtain⟨n,r0,r1,r2,r3⟩:=s
 have hk:=hy.kind
 have hbyte:=hy.byte
 have hd3:=hy.dist
 simp only at hk hap hbyte hd3
 clear hy
 obtain⟨c,rfl⟩:∃c:UInt8,byte=c.toNat:=⟨UInt8.ofNat byte,by simp;omega⟩
 clear hbyte
 unfold Sy.cells at*
 simp only[S.cells] at HN ⊢
 generalize S.next ⟨n,r0,r1,r2,r3⟩ ⟨kind,c.toNat,len,dist⟩=r at*
 obtain⟨er,rn,ra,rb,rc,rd⟩:=r
 simp only at herr hap HN hlen
 have HLEN:=Hd hlen
 clear hlen
 have HAP:=Hd hap
 have HW:=Hd h
 have HT:=Hd hT
 have hB:B<w.heap.size:=lt_of_block h.box
 have hrvl:∀k,rv.ownBlock=some k→k<w.heap.size:=fun k hk=>(World.ownsRow.lt h.own k hk).2
 have HRV:=Hd hrvl
 clear hap h hT hrvl
 have hf0:Fr (fun _=>False) w (((w.alloc (.cells #[.int .i64 n,.int .i64 r0,.int .i64 r1,.int .i64 r2,.int .i64 r3] 84)).alloc (.cells #[.int .i64 kind,.int .u8 c.toNat,.int .i64 len,.int .i64 dist] 110)).alloc (.cells #[.int .i64 0,.int .i64 0,.int .i64 0,.int .i64 0,.int .i64 0] 84)):=(((Fr.refl _ w).alloc _).alloc _).alloc _
 have hx0:=(((Fr.refl (fun _=>False) (w.alloc (.cells #[.int .i64 n,.int .i64 r0,.int .i64 r1,.int .i64 r2,.int .i64 r3] 84))).alloc (.cells #[.int .i64 kind,.int .u8 c.toNat,.int .i64 len,.int .i64 dist] 110)).alloc (.cells #[.int .i64 0,.int .i64 0,.int .i64 0,.int .i64 0,.int .i64 0] 84)).keep (heap_alloc_new w (.cells #[.int .i64 n,.int .i64 r0,.int .i64 r1,.int .i64 r2,.int .i64 r3] 84)) (fun h=>h)
 have hx1:=((Fr.refl (fun _=>False) ((w.alloc (.cells #[.int .i64 n,.int .i64 r0,.int .i64 r1,.int .i64 r2,.int .i64 r3] 84)).alloc (.cells #[.int .i64 kind,.int .u8 c.toNat,.int .i64 len,.int .i64 dist] 110))).alloc (.cells #[.int .i64 0,.int .i64 0,.int .i64 0,.int .i64 0,.int .i64 0] 84)).keep (heap_alloc_new (w.alloc (.cells #[.int .i64 n,.int .i64 r0,.int .i64 r1,.int .i64 r2,.int .i64 r3] 84)) (.cells #[.int .i64 kind,.int .u8 c.toNat,.int .i64 len,.int .i64 dist] 110)) (fun h=>h)
 have hx2:=heap_alloc_new ((w.alloc (.cells #[.int .i64 n,.int .i64 r0,.int .i64 r1,.int .i64 r2,.int .i64 r3] 84)).alloc (.cells #[.int .i64 kind,.int .u8 c.toNat,.int .i64 len,.int .i64 dist] 110)) (.cells #[.int .i64 0,.int .i64 0,.int .i64 0,.int .i64 0,.int .i64 0] 84)
 simp only[World.size_alloc] at hx1 hx2
 have HX0:=Hd hx0
 have HX1:=Hd hx1
 have HX2:=Hd hx2
 have HF0:=Hd hf0
 clear hf0 hx0 hx1 hx2
 go_enter Tryz.func133,Tryz.ntmps133
 go_wp2_with fail
 refine(HN _ (HT.out.keep HF0.out)).out.mono ?_
 rintro e w1 ⟨rfl,hfr⟩
 have hf1:=HF0.out.trans hfr
 have hfa:=(Fr.refl (fun _=>False) w1).alloc (.cells #[.int .i64 rn,.int .i64 ra,.int .i64 rb,.int .i64 rc,.int .i64 rd] 84)
 have hx0:=hfa.keep (hfr.keep HX0.out (fun h=>h)) (fun h=>h)
 have hx1:=hfa.keep (hfr.keep HX1.out (fun h=>h)) (fun h=>h)
 have hx2:=hfa.keep (hfr.keep HX2.out (fun h=>h)) (fun h=>h)
 have hx3:=heap_alloc_new w1 (.cells #[.int .i64 rn,.int .i64 ra,.int .i64 rb,.int .i64 rc,.int .i64 rd] 84)
 have HF2:=Hd (hf1.trans hfa)
 have hlt:=lt_of_block (hfr.keep HX2.out (fun h=>h))
 have hW2:Win.At (w1.alloc (.cells #[.int .i64 rn,.int .i64 ra,.int .i64 rb,.int .i64 rc,.int .i64 rd] 84)) B rv size all ring t:=HW.out.keep HF2.out (fun h=>h) (fun _ _ h=>h)
 have HW2:=Hd hW2
 have hsz3:=hfr.size
 simp only[World.size_alloc] at hsz3
 clear HX0 HX1 HX2 HF0 hfr hf1 hfa hW2 HN HT HW
 go_upto_if 19 with fail
 generalize hb0:w.heap.size=b0 at*
 generalize hb3:w1.heap.size=b3 at*
 generalize w1.alloc (.cells #[.int .i64 rn,.int .i64 ra,.int .i64 rb,.int .i64 rc,.int .i64 rd] 84)=W2 at*
 have HB0:=Hd hb0
 have HX0:=Hd hx0
 have HX1:=Hd hx1
 have HX2:=Hd hx2
 have HX3:=Hd hx3
 obtain⟨s0,s1,s2,s3,s4⟩:=cs5 hx0 rfl rfl rfl rfl rfl
 obtain⟨y0,y1,y2,y3⟩:=cs4 hx1 rfl rfl rfl rfl
 clear hb0 hb3 hx0 hx1 hx2 hx3
 have KEY:=Hd (show∀wx,Fr (fun k=>b0≤k) W2 wx→Done w B size rv all [] (.slice none 0 0) wx from fun wx hch=>by
  have hb0:=HB0.out
  refine⟨(HF2.out.trans' hch (fun i hi h=>by omega)).mono (fun _ _ h=>h.elim),Mine.nil _ _,rv,ring,t,?_,fun k hk=>.inl hk,fun k hk=>by simp[Value.ownBlock] at hk⟩
  rw[List.append_nil]
  exact HW2.out.keep hch (by omega) (fun k hk=>by have:=HRV.out k hk;omega))
 rcases herr with rfl|rfl
 ·go_upto_block 0 with fail
  go_cut [10,11] (fun s10 s11 wx=>∃(e2:Nat)(bytes:List UInt8),s10=.int .i64 (e2:Int)∧((e2=0∧ap=(0,bytes,⟨rn,ra,rb,rc,rd⟩))∨(e2=7∧bytes=[]∧ap=(7,[],.zero)))∧Done W2 B size rv all bytes s11 wx)
  case first=>
   have hw2s:=lt_of_block HX3.out
   rcases hk with rfl|rfl|rfl|rfl
   ·have y1':=alloc_keep y1 (.cells #[.int .u8 (c.toNat:Int)] 5)
    have ha1:=(Fr.refl (fun _=>False) W2).alloc (.cells #[.int .u8 (c.toNat:Int)] 5)
    have ha2:=ha1.alloc (.cells #[.int .u8 (c.toNat:Int)] 5)
    have hone:=rd_one (W2.alloc (.cells #[.int .u8 (c.toNat:Int)] 5)) (W2.heap.size+1) (by simp) c _ rfl
    have hown:Mine W2 (W2.alloc (.cells #[.int .u8 (c.toNat:Int)] 5)) (.slice (some ⟨W2.heap.size,0,none⟩) 1 1) [c]:=⟨⟨rfl,.inr ⟨W2.heap.size,1,_,rfl,Nat.zero_le _,heap_alloc_new W2 _,by simp,by simp[maxLen],by simp,by simp[bvs,bv]⟩⟩,fun k hk=>by simp only[Value.ownBlock,Option.some.injEq] at hk;omega⟩
    have HOWN:=Hd (hown.keep ((Fr.refl (fun _=>False) _).alloc (.cells #[.int .u8 (c.toNat:Int)] 5)))
    have HA2:=Hd ha2
    have HONE:=Hd hone
    clear ha1 ha2 hone hown
    go_wp2_with fail
    refine(put_calls B size t rv (.slice (some ⟨W2.heap.size+1,0,none⟩) 1 1) all ring [c] _ (HW2.out.keep HA2.out (fun h=>h) (fun _ _ h=>h)) HONE.out (fun _ k hk he=> ?_) (by simp only[List.length_singleton];omega)).mono ?_
    ·simp only[Value.ownBlock,Option.some.injEq] at hk
     have:=HRV.out k he
     omega
    rintro e w5 ⟨rfl,rv3,ring3,t3,hfr3,hA3,hN3⟩
    have HM3:=Hd (HOWN.out.step hfr3 (fun k hk h=>by
     simp only[Value.ownBlock,Option.some.injEq] at hk
     rcases h with h|h
     ·omega
     ·have:=HRV.out k h
      omega))
    have HA3:=Hd hA3
    have HN3:=Hd hN3
    have HF3:=Hd hfr3
    clear hA3 hN3 hfr3
    go_wp2_with fail
    go_meet
    have hap:=HAP.out
    rw[if_pos trivial,if_pos trivial] at hap
    refine⟨0,[c],rfl,.inl ⟨rfl,by rw[←hap];simp⟩,(HA2.out.mono (fun _ _ h=>h.elim)).trans HF3.out,HM3.out,rv3,ring3,t3,HA3.out,fun k hk=> ?_,fun k hk he=> ?_⟩
    ·rcases HN3.out k hk with h|h
     ·exact .inl h
     ·simp at h
      exact .inr (by omega)
    ·simp only[Value.ownBlock,Option.some.injEq] at hk
     rcases HN3.out k he with h|h
     ·have:=HRV.out k h
      omega
     ·simp at h
      omega
   ·have hl9:len≤273:=HLEN.out rfl (.inl rfl)
    go_wp2_with fail
    refine(copy_all B size t dist len rv all ring _ HW2.out (by first|exact hl9|decide) hmuch).mono ?_
    rintro e w5 ⟨e2,bytes,v,rfl,hor,hdone⟩
    have HOR:=Hd hor
    have HDO:=Hd hdone
    clear hor hdone
    go_wp2_with fail
    go_meet
    have hap:=HAP.out
    rw[if_pos trivial,if_neg (by decide)] at hap
    simp only[distOf,lenOfSy,if_true,if_false] at hap
    rcases HOR.out with⟨h1,rfl,rfl⟩|⟨h1,rfl,rfl⟩
    ·rw[if_pos (by simpa using h1)] at hap
     exact⟨0,_,rfl,.inl ⟨rfl,by rw[←hap];simp⟩,HDO.out⟩
    ·rw[if_neg (by simpa using h1)] at hap
     exact⟨7,[],rfl,.inr ⟨rfl,rfl,hap.symm⟩,HDO.out⟩
   ·have hl9:len≤273:=HLEN.out rfl (.inr rfl)
    have hd9:=hd3 rfl
    have HWD:=Hd (HW2.out.keep (Fr.refl (fun _=>False) W2).drew (fun h=>h) (fun _ _ h=>h))
    have HFD:=Hd (Fr.refl (fun _=>False) W2).drew
    obtain rfl|rfl|rfl|rfl:dist=0∨dist=1∨dist=2∨dist=3:=by omega
    all_goals
     go_wp2_with fail
     go_region_with ((refine(copy_all B size t _ len rv all ring _ HWD.out hl9 hmuch).mono ?_);rintro e w5 ⟨e2,bytes,v,rfl,hor,hdone⟩;have HOR:=Hd hor;have HDO:=Hd hdone;clear hor hdone)
     all_goals
      go_wp2_with fail
      go_meet
      have hap:=HAP.out
      rw[if_pos trivial,if_neg (by decide)] at hap
      simp only[distOf,lenOfSy,repAt,if_true,if_false] at hap
      have hdd:Done W2 B size rv all bytes v w5:=⟨(HFD.out.mono (fun _ _ h=>h.elim)).trans HDO.out.fr,⟨HDO.out.mine.own,fun k hk=>by have:=HDO.out.mine.new k hk;simpa using this⟩,by
       obtain⟨rv',ring',t',g1,g2,g3⟩:=HDO.out.win
       exact⟨rv',ring',t',g1,fun k hk=>by have:=g2 k hk;simpa using this,g3⟩⟩
      rcases HOR.out with⟨h1,rfl,rfl⟩|⟨h1,rfl,rfl⟩
      ·rw[if_pos (by simpa using h1)] at hap
       exact⟨0,_,rfl,.inl ⟨rfl,by rw[←hap];simp⟩,hdd⟩
      ·rw[if_neg (by simpa using h1)] at hap
       exact⟨7,[],rfl,.inr ⟨rfl,rfl,hap.symm⟩,hdd⟩
   ·have hl9:1≤273:=by decide
    go_wp2_with fail
    refine(copy_all B size t r0 1 rv all ring _ HW2.out (by first|exact hl9|decide) hmuch).mono ?_
    rintro e w5 ⟨e2,bytes,v,rfl,hor,hdone⟩
    have HOR:=Hd hor
    have HDO:=Hd hdone
    clear hor hdone
    go_wp2_with fail
    go_meet
    have hap:=HAP.out
    rw[if_pos trivial,if_neg (by decide)] at hap
    simp only[distOf,lenOfSy,if_true,if_false] at hap
    rcases HOR.out with⟨h1,rfl,rfl⟩|⟨h1,rfl,rfl⟩
    ·rw[if_pos (by simpa using h1)] at hap
     exact⟨0,_,rfl,.inl ⟨rfl,by rw[←hap];simp⟩,HDO.out⟩
    ·rw[if_neg (by simpa using h1)] at hap
     exact⟨7,[],rfl,.inr ⟨rfl,rfl,hap.symm⟩,HDO.out⟩
  case rest=>
  obtain⟨e2,bytes,rfl,hor,hdone⟩:=hcut
  have hx2:=hdone.fr.keep HX2.out (fun h=>by
   rcases h with h|h
   ·omega
   ·have:=HRV.out _ h
    omega)
  have hx3:=hdone.fr.keep HX3.out (fun h=>by
   rcases h with h|h
   ·omega
   ·have:=HRV.out _ h
    omega)
  have HDONE:=Hd hdone
  have HY2:=Hd hx2
  have HY3:=Hd hx3
  obtain⟨z0,z1,z2,z3,z4,zf⟩:=cf5 hx2 rfl rfl rfl rfl rfl
  have FIN:=Hd (show∀wy,Fr (fun k=>k=b0+1+1) wc wy→Done w B size rv all bytes u11 wy from fun wy hch=>by
   have hb0:=HB0.out
   exact HDONE.out.fin HF2.out hch (by omega) (Nat.lt_trans hlt (lt_of_block HX3.out)) (by omega) (fun k hk=>by have:=HRV.out k hk;omega))
  rcases hor with⟨rfl,hap⟩|⟨rfl,rfl,hap⟩
  ·subst hap
   clear hx2 hx3 hdone s0 s1 s2 s3 s4 y0 y1 y2 y3
   obtain⟨q0,q1,q2,q3,q4⟩:=cs5 HY3.out rfl rfl rfl rfl rfl
   go_wp2_with fail
   go_region
   all_goals go_wp2_with fail
   all_goals
    refine bodyPost_ret (v:=.tuple #[u11,.agg #[.int .i64 rn,.int .i64 ra,.int .i64 rb,.int .i64 rc,.int .i64 rd],.int .i64 0]) (by simp[results,Tryz.results133,go_sem,z0,z1,z2,z3,z4]) rfl ?_
    refine⟨_,rfl,FIN.out _ ?_⟩
    try refine Fr.drew ?_
    repeat refine Fr.setCell ?_ (.inl (by simp)) _
    first|exact Fr.refl _ _|exact(Fr.refl _ _).drew
  ·subst hap
   clear hx2 hx3 hdone s0 s1 s2 s3 s4 y0 y1 y2 y3
   go_wp2_with fail
   refine bodyPost_ret (v:=.tuple #[.slice none 0 0,.agg #[.int .i64 0,.int .i64 0,.int .i64 0,.int .i64 0,.int .i64 0],.int .i64 7]) (by simp[results,Tryz.results133,go_sem,z0,z1,z2,z3,z4]) rfl ?_
   have hfin:=fun wy(hch:Fr (fun k=>k=b0+1+1) wc wy)=>FIN.out wy hch
   have NIL:=Hd (show∀wy,Fr (fun k=>k=b0+1+1) wc wy→Done w B size rv all [] (.slice none 0 0) wy from fun wy hch=>by
    obtain⟨h1,h2,rv',ring',t',h3,h4,h5⟩:=FIN.out wy hch
    exact⟨h1,Mine.nil _ _,rv',ring',t',h3,h4,fun k hk=>by simp[Value.ownBlock] at hk⟩)
   refine⟨_,rfl,NIL.out _ ?_⟩
   repeat refine Fr.setCell ?_ (.inl (by simp)) _
   exact Fr.refl _ _
 ·obtain⟨z0,z1,z2,z3,z4,zf⟩:=cf5 HX2.out rfl rfl rfl rfl rfl
  go_wp2_with fail
  refine bodyPost_ret (v:=.tuple #[.slice none 0 0,.agg #[.int .i64 0,.int .i64 0,.int .i64 0,.int .i64 0,.int .i64 0],.int .i64 7]) (by simp[results,Tryz.results133,go_sem,z0,z1,z2,z3,z4]) rfl ?_
  have hap:=HAP.out
  rw[if_neg (by decide)] at hap
  subst hap
  refine⟨_,rfl,KEY.out _ ?_⟩
  repeat refine Fr.setCell ?_ (.inl (by simp;try omega)) _
  exact Fr.refl _ _
end St
namespace Rc
open Mem
structure D where
 b:List UInt8
 read:Nat
 rng:Nat
 now:Nat
def D.ok(d:D):Prop:=d.now<d.rng∧d.rng<4294967296∧d.read≤d.b.length∧d.b.length≤1099511627776∧0<d.b.length
def D.widen(d:D):Option D:=
 if 16777216≤d.rng then some d else match d.b[d.read]? with
  |none=>none
  |some c=>some ⟨d.b,d.read+1,d.rng*256,d.now*256+c.toNat⟩
def D.upper(d:D)(cut:Nat):Nat×D:=if d.now<cut then(0,⟨d.b,d.read,cut,d.now⟩) else(1,⟨d.b,d.read,d.rng-cut,d.now-cut⟩)
def cutAt(r p:Nat):Nat:=r/2048*p
def D.bit(d:D)(p:Nat):Option (Nat×D):=(d.upper (cutAt d.rng p)).2.widen.map fun e=>((d.upper (cutAt d.rng p)).1,e)
theorem cutAt_lt{r p:Nat}(hr:0<r)(hp:p≤2047):cutAt r p<r:=by
 unfold cutAt
 have h1:r/2048*p≤r/2048*2047:=Nat.mul_le_mul_left _ hp
 omega
theorem D.widen_ok{d e:D}(h:d.ok)(hw:d.widen=some e):e.ok∧e.b=d.b:=by
 obtain⟨h1,h2,h3,h4,h5⟩:=h
 unfold D.widen at hw
 split at hw
 ·obtain rfl:=Option.some.inj hw
  exact⟨⟨h1,h2,h3,h4,h5⟩,rfl⟩
 ·split at hw
  ·cases hw
  ·rename_i hlt c hc
   obtain rfl:=Option.some.inj hw
   have hcb:=UInt8.toNat_lt c
   have hl:=(List.getElem?_eq_some_iff.1 hc).1
   exact⟨⟨by simp only;omega,by simp only;omega,by simp only;omega,h4,h5⟩,rfl⟩
theorem D.upper_ok{d:D}{cut:Nat}(h:d.ok)(hc:cut<d.rng):(d.upper cut).2.ok∧(d.upper cut).2.b=d.b∧(d.upper cut).1≤1:=by
 obtain⟨h1,h2,h3,h4,h5⟩:=h
 unfold D.upper
 split
 ·exact⟨⟨by assumption,by simp only;omega,h3,h4,h5⟩,rfl,by simp⟩
 ·exact⟨⟨by simp only;omega,by simp only;omega,h3,h4,h5⟩,rfl,by simp⟩
theorem D.bit_ok{d e:D}{p v:Nat}(h:d.ok)(hp:p≤2047)(hb:d.bit p=some (v,e)):e.ok∧e.b=d.b∧v≤1:=by
 unfold D.bit at hb
 have hu:=D.upper_ok h (cutAt_lt (by have:=h.1;omega) hp:cutAt d.rng p<d.rng)
 cases hw:(d.upper (cutAt d.rng p)).2.widen with
 |none=>rw[hw] at hb;cases hb
 |some x=>
   rw[hw] at hb
   simp only[Option.map_some,Option.some.injEq,Prod.mk.injEq] at hb
   obtain⟨rfl,rfl⟩:=hb
   have:=D.widen_ok hu.1 hw
   exact⟨this.1,this.2.trans hu.2.1,hu.2.2⟩
def D.direct:Nat→Nat→D→Except Nat (Nat×D)
 |0,v,d=>.ok (v,d)
 |n+1,v,d=>
   if(if d.rng/2≤d.now then d.now-d.rng/2 else d.now)=d.rng/2 then .error 2 else
   match (⟨d.b,d.read,d.rng/2,if d.rng/2≤d.now then d.now-d.rng/2 else d.now⟩:D).widen with
   |none=>.error 1
   |some e=>D.direct n (if d.rng/2≤d.now then 2*v+1 else 2*v) e
theorem D.half_ok{d:D}(h:d.ok)(hne:(if d.rng/2≤d.now then d.now-d.rng/2 else d.now)≠d.rng/2):(⟨d.b,d.read,d.rng/2,if d.rng/2≤d.now then d.now-d.rng/2 else d.now⟩:D).ok:=by
 obtain⟨h1,h2,h3,h4,h5⟩:=h
 refine⟨?_,by simp only;omega,h3,h4,h5⟩
 simp only
 split
 ·rename_i hc
  rw[if_pos hc] at hne
  omega
 ·omega
theorem bits_or_u32_nat (a b:Nat) (ha:a<4294967296) (hb:b<4294967296):bits .or .u32 (a:Int) (b:Int)=((a|||b:Nat):Int):=by
 have hx:a|||b<2^32:=Nat.or_lt_two_pow (by omega) (by omega)
 have h1:(BitVec.ofInt 32 (a:Int)).toNat=a:=by
  rw[BitVec.ofInt_natCast,BitVec.toNat_ofNat];exact Nat.mod_eq_of_lt (by omega)
 have h2:(BitVec.ofInt 32 (b:Int)).toNat=b:=by
  rw[BitVec.ofInt_natCast,BitVec.toNat_ofNat];exact Nat.mod_eq_of_lt (by omega)
 show IntKind.u32.wrap ((BitVec.ofInt 32 (a:Int)|||BitVec.ofInt 32 (b:Int)).toNat:Int)=_
 rw[BitVec.toNat_or,h1,h2,IntKind.wrap_u32]
 omega
theorem or_byte (a:Nat) (c:Nat) (ha:a<16777216) (hc:c<256):bits BinOp.or IntKind.u32 ((a*256:Nat):Int) (c:Int)=((a*256+c:Nat):Int):=by
 rw[bits_or_u32_nat _ _ (by omega) (by omega)]
 congr 1
 rw[Nat.mul_comm,show(256:Nat)=2^8 by rfl,Nat.two_pow_add_eq_or_of_lt (by simpa using hc)]
end Rc
namespace Rc
open Mem
def decV(bv:Value)(d:D):Array Value:=#[bv,.int .i64 d.read,.int .u32 d.rng,.int .u32 d.now]
def At(w:World)(B:Nat)(bv:Value)(d:D):Prop:=w.heap[B]? =some (.cells (decV bv d) 381 (0,0))∧Rd w bv d.b
theorem At.cells{w:World}{B:Nat}{bv:Value}{d:D}(h:At w B bv d):w.cell? ⟨B,0,none⟩=some bv∧w.cell? ⟨B,1,none⟩=some (.int .i64 d.read)∧w.cell? ⟨B,2,none⟩=some (.int .u32 d.rng)∧w.cell? ⟨B,3,none⟩=some (.int .u32 d.now)∧(∀i,w.frozen? ⟨B,i,none⟩=false):=
 ⟨cell_in h.1 rfl,cell_in h.1 rfl,cell_in h.1 rfl,cell_in h.1 rfl,fun i=>frozen_in h.1 i⟩
theorem At.apart{w:World}{B:Nat}{bv:Value}{d:D}(h:At w B bv d)(h0:0<d.b.length):∀k,bv.ownBlock=some k→k≠B:=by
 obtain⟨h1,p,cap,rfl,_,_,h3⟩:=h
 obtain⟨b,o,rfl,hc⟩:=h3 h0
 intro k hk
 simp only[Value.ownBlock,Option.some.injEq] at hk
 subst hk
 rintro rfl
 have h4:=hc 0 d.b[0] (by simp[h0])
 rw[cell_of_row w _ _ _ _ _ h1] at h4
 simp only[decV,bv,Nat.add_zero] at h4
 match o,h4 with
 |0,h4=>simp at h4
 |1,h4=>simp at h4
 |2,h4=>simp at h4
 |3,h4=>simp at h4
 |o+4,h4=>simp at h4
theorem At.keep{S:Nat→Prop}{w w':World}{B:Nat}{bv:Value}{d:D}(h:At w B bv d)(hfr:Fr S w w')(hB:¬S B)(hb:∀k,bv.ownBlock=some k→¬S k):At w' B bv d:=
 ⟨hfr.keep h.1 hB,h.2.step hfr hb⟩
theorem At.new{w w':World}{B:Nat}{bv:Value}{d e:D}(h:At w B bv d)(hd:0<d.b.length)(hb:e.b=d.b)(hfr:Fr (fun k=>k=B) w w')(hc:w'.heap[B]? =some (.cells (decV bv e) 381 (0,0))):At w' B bv e:=
 ⟨hc,by rw[hb];exact h.2.step hfr (fun k hk=>h.apart hd k hk)⟩
theorem upper_calls(B:Nat)(bv:Value)(d:D)(cut:Nat)(w:World)(h:At w B bv d)(hok:d.ok)(hcut:cut<d.rng):
 Calls Tryz.prog 292 #[.pointer (some ⟨B,0,none⟩),.int .u32 cut] w fun e w'=>e=.returned (.bool (decide ((d.upper cut).1=1)))∧Fr (fun k=>k=B) w w'∧At w' B bv (d.upper cut).2:=by
 obtain⟨c0,c1,c2,c3,cf⟩:=h.cells
 obtain⟨h1,h2,h3,h4,h5⟩:=hok
 have f2:=cf 2
 have f3:=cf 3
 have HA:=Hd h
 obtain⟨b,rd,rng,now⟩:=d
 simp only at*
 by_cases hlt:now<cut
 ·have hd:decide ((now:Int)<(cut:Int))=true:=by simp;omega
  have hu:D.upper ⟨b,rd,rng,now⟩ cut=(0,⟨b,rd,cut,now⟩):=by unfold D.upper;simp[hlt]
  rw[hu]
  clear h cf hu
  go_enter Tryz.func292,Tryz.ntmps292
  go_wp2_with fail
  go_ret
  have hfr:=Fr.one w B 2 (.int .u32 cut)
  exact⟨rfl,hfr,HA.out.new (d:=⟨b,rd,rng,now⟩) h5 rfl hfr (set_in HA.out.1 2 _)⟩
 ·have hd:decide ((now:Int)<(cut:Int))=false:=by simp;omega
  have hu:D.upper ⟨b,rd,rng,now⟩ cut=(1,⟨b,rd,rng-cut,now-cut⟩):=by unfold D.upper;simp[hlt]
  rw[hu]
  clear h cf hu
  have hs1:=set_in HA.out.1 3 (.int .u32 ((now:Int)-cut))
  have g2:(w.setCell ⟨B,3,none⟩ (.int .u32 ((now:Int)-cut))).cell? ⟨B,2,none⟩=some (.int .u32 rng):=cell_in hs1 rfl
  have k2:=frozen_in hs1 2
  have HS:=Hd hs1
  clear hs1
  go_enter Tryz.func292,Tryz.ntmps292
  go_wp2_with fail
  go_ret
  have hfr:=(Fr.one w B 3 (.int .u32 ((now:Int)-cut))).trans (Fr.one _ B 2 (.int .u32 ((rng:Int)-cut)))
  refine⟨rfl,hfr,HA.out.new (d:=⟨b,rd,rng,now⟩) h5 rfl hfr ?_⟩
  rw[set_in HS.out 2 _]
  congr 3
  simp only[decV]
  rw[show((rng-cut:Nat):Int)=(rng:Int)-cut by omega,show((now-cut:Nat):Int)=(now:Int)-cut by omega]
  rfl
set_option maxRecDepth 100000 in
theorem widen_keep(B:Nat)(bv:Value)(d:D)(w:World)(h:At w B bv d)(hr:16777216≤d.rng):
 Calls Tryz.prog 294 #[.pointer (some ⟨B,0,none⟩)] w fun e w'=>e=.returned (.tuple #[])∧w'=w:=by
 obtain⟨c0,c1,c2,c3,cf⟩:=h.cells
 have hd:decide ((16777216:Int)≤(d.rng:Int))=true:=by simp;omega
 have hd2:decide ((d.rng:Int)≥16777216)=true:=by simp;omega
 generalize d.rng=rng at*
 clear h cf
 go_enter Tryz.func294,Tryz.ntmps294
 go_wp2_with fail
 refine bodyPost_ret (results_none rfl _ _ _) rfl ?_
 exact⟨rfl,rfl⟩
set_option maxRecDepth 100000 in
theorem widen_none(B:Nat)(bv:Value)(d:D)(w:World)(h:At w B bv d)(hok:d.ok)(hr:d.widen=none):
 Calls Tryz.prog 294 #[.pointer (some ⟨B,0,none⟩)] w fun e w'=>e=.panicked [{v:=.iface 419 (.int .i64 1),recovered:=false}]∧Fr (fun _=>False) w w':=by
 obtain⟨c0,c1,c2,c3,cf⟩:=h.cells
 obtain⟨pb,cb,rfl⟩:∃p c,bv=.slice p d.b.length c:=by obtain⟨p,c,h,_⟩:=h.2;exact⟨p,c,h⟩
 obtain⟨h1,h2,h3,h4,h5⟩:=hok
 have hq:d.rng<16777216∧d.read=d.b.length:=by
  unfold D.widen at hr
  split at hr
  ·cases hr
  ·split at hr
   ·rename_i hn
    have:=List.getElem?_eq_none_iff.1 hn
    omega
   ·cases hr
 have hd:decide ((16777216:Int)≤(d.rng:Int))=false:=by simp;omega
 have hd2:decide ((d.rng:Int)≥16777216)=false:=by simp;omega
 have he:((d.read:Int)==(d.b.length:Int))=true:=by simp;omega
 generalize d.rng=rng at*
 generalize d.read=rd at*
 generalize d.b.length=n at*
 clear h cf hr
 go_enter Tryz.func294,Tryz.ntmps294
 go_wp2_with fail
 go_quiet (fail)
 go_wp2_with fail
 exact⟨rfl,rfl,(Fr.refl _ _).drewN _⟩
set_option maxRecDepth 100000 in
theorem widen_step(B:Nat)(bv:Value)(d e:D)(w:World)(h:At w B bv d)(hok:d.ok)(hlt:d.rng<16777216)(hr:d.widen=some e):
 Calls Tryz.prog 294 #[.pointer (some ⟨B,0,none⟩)] w fun r w'=>r=.returned (.tuple #[])∧Fr (fun k=>k=B) w w'∧At w' B bv e:=by
 obtain⟨c0,c1,c2,c3,cf⟩:=h.cells
 obtain⟨pb,cb,rfl⟩:∃p c,bv=.slice p d.b.length c:=by obtain⟨p,c,h,_⟩:=h.2;exact⟨p,c,h⟩
 obtain⟨h1,h2,h3,h4,h5⟩:=hok
 have HA:=Hd h
 obtain⟨c,hc,rfl⟩:∃c,d.b[d.read]? =some c∧e=⟨d.b,d.read+1,d.rng*256,d.now*256+c.toNat⟩:=by
  unfold D.widen at hr
  rw[if_neg (by omega)] at hr
  split at hr
  ·cases hr
  ·rename_i c hc
   exact⟨c,hc,(Option.some.inj hr).symm⟩
 have hrl:d.read<d.b.length:=(List.getElem?_eq_some_iff.1 hc).1
 obtain⟨bb,bo,rfl,hbc⟩:∃b o,pb=some ⟨b,o,none⟩∧w.cell? ⟨b,o+d.read,none⟩=some (.int .u8 (c.toNat:Int)):=by
  obtain⟨p,cp,he,_,_,h6⟩:=h.2
  simp only[Value.slice.injEq] at he
  obtain⟨b,o,hp,hq⟩:=h6 h5
  exact⟨b,o,he.1.trans hp,hq _ _ hc⟩
 have hap:=h.apart h5 bb rfl
 have hcb:=UInt8.toNat_lt c
 have hor:=or_byte d.now c.toNat (by omega) hcb
 have HOR:=Hd hor
 have HOK:=Hd (show 0<d.b.length from h5)
 obtain⟨b,rd,rng,now⟩:=d
 simp only at*
 have hd:decide ((16777216:Int)≤(rng:Int))=false:=by simp;omega
 have hd2:decide ((rng:Int)≥16777216)=false:=by simp;omega
 have he:((rd:Int)==(b.length:Int))=false:=by simp;omega
 generalize hn:b.length=n at*
 have HN:=Hd hn
 clear hn
 generalize hy:c.toNat=y at*
 have HY:=Hd hy
 clear h cf hr hor hc hy
 go_enter Tryz.func294,Tryz.ntmps294
 go_wp2_with fail
 go_quiet (fail)
 have hAW:At (World.drewN w nq) B (.slice (some ⟨bb,bo,none⟩) n cb) ⟨b,rd,rng,now⟩:=HA.out.keep ((Fr.refl (fun _=>False) w).drewN nq) (fun h=>h) (fun _ _ h=>h)
 have hbW:(World.drewN w nq).cell? ⟨bb,bo+rd,none⟩=_:=hbc
 have hfW:=(Fr.refl (fun k=>k=B) w).drewN nq
 generalize World.drewN w nq=W at*
 obtain⟨d0,d1,d2,d3,df⟩:=hAW.cells
 have df2:=df 2
 have s1:=set_in hAW.1 2 (.int .u32 ((rng:Int)*256))
 have g0:(W.setCell ⟨B,2,none⟩ (.int .u32 ((rng:Int)*256))).cell? ⟨B,0,none⟩=some (.slice (some ⟨bb,bo,none⟩) n cb):=cell_in s1 rfl
 have g1:(W.setCell ⟨B,2,none⟩ (.int .u32 ((rng:Int)*256))).cell? ⟨B,1,none⟩=some (.int .i64 rd):=cell_in s1 rfl
 have g3:(W.setCell ⟨B,2,none⟩ (.int .u32 ((rng:Int)*256))).cell? ⟨B,3,none⟩=some (.int .u32 now):=cell_in s1 rfl
 have gf3:=frozen_in s1 3
 have gb:(W.setCell ⟨B,2,none⟩ (.int .u32 ((rng:Int)*256))).cell? ⟨bb,bo+rd,none⟩=some (.int .u8 (y:Int)):=by
  rw[World.cell?_of_block (w:=W) (heap_setCell_other W _ bb _ (fun e=>hap e))]
  exact hbW
 have s1':(W.setCell ⟨B,2,none⟩ (.int .u32 ((rng:Int)*256))).drew.heap[B]? =some (.cells #[.slice (some ⟨bb,bo,none⟩) n cb,.int .i64 rd,.int .u32 ((rng:Int)*256),.int .u32 now] 381 (0,0)):=s1
 have HFW:=Hd (hfW.trans (Fr.one W B 2 (.int .u32 ((rng:Int)*256))))
 have hw1:rd<9223372036854775807:=by omega
 have i1:(0:Int)≤(rd:Int):=by omega
 have i2:(rd:Int)<(n:Int):=by omega
 have hnow:now<16777216:=by omega
 have hpm:((now*256:Nat):Int)=(now:Int)*256:=by omega
 rw[hpm] at HOR
 have HS1:=Hd s1'
 clear c0 c1 c2 c3 hbc df s1 s1' hAW d0 d1 d3 hbW hfW hpm HY
 go_wp2_with fail
 generalize World.setCell W _ _=W1 at*
 have t1:=fun v=>set_in (w:=W1.drew) HS1.out 3 v
 have u1:∀v,(W1.setCell ⟨B,3,none⟩ v).drew.cell? ⟨B,1,none⟩=some (.int .i64 rd):=fun v=>cell_in (t1 v) rfl
 have u1':∀v,(W1.setCell ⟨B,3,none⟩ v).cell? ⟨B,1,none⟩=some (.int .i64 rd):=fun v=>cell_in (t1 v) rfl
 have uf1':∀v,(W1.setCell ⟨B,3,none⟩ v).frozen? ⟨B,1,none⟩=false:=fun v=>frozen_in (t1 v) 1
 have T1:=Hd t1
 clear t1
 go_region
 all_goals go_wp2_with fail
 go_end0
 have hv:=HOR.out
 have hfr:Fr (fun k=>k=B) w _:=((HFW.out.trans (Fr.one W1 B 3 (.int .u32 (bits BinOp.or IntKind.u32 ((now:Int)*256) (y:Int))))).trans (Fr.one _ B 1 (.int .i64 ((rd:Int)+1)))).drew
 refine⟨rfl,hfr,HA.out.new (d:=⟨b,rd,rng,now⟩) (by have:=HN.out;simp only;omega) rfl hfr ?_⟩
 have h1:=set_in (T1.out (.int .u32 (bits BinOp.or IntKind.u32 ((now:Int)*256) (y:Int)))) 1 (.int .i64 ((rd:Int)+1))
 rw[hv] at h1 ⊢
 have e1:((rng*256:Nat):Int)=(rng:Int)*256:=by omega
 have e2:((rd+1:Nat):Int)=(rd:Int)+1:=by omega
 show _=some (Obj.cells #[.slice (some ⟨bb,bo,none⟩) n cb,.int .i64 ((rd+1:Nat):Int),.int .u32 ((rng*256:Nat):Int),.int .u32 ((now*256+y:Nat):Int)] _ _)
 rw[e1,e2]
 exact h1
end Rc
namespace Mem
def allOrders(md:Region.Mode)(ops:Array Oper):Nat→Array Bool→List (List Nat)
 |0,_=>[[]]
 |fuel+1,listed=>if Region.ready md ops listed=[] then[[]] else(Region.ready md ops listed).flatMap fun i=>(allOrders md ops fuel (listed.setIfInBounds i true)).map (i::·)
theorem lin_mem(md:Region.Mode)(ops:Array Oper):∀(fuel t:Nat)(listed:Array Bool),Region.linearise.go md ops fuel t listed [] ∈ allOrders md ops fuel listed:=by
 intro fuel
 induction fuel with
 |zero=>intro t listed;simp[Region.linearise.go,allOrders]
 |succ fuel ih=>
   intro t listed
   simp only[Region.linearise.go]
   change (match (Region.ready md ops listed)[t%(Region.ready md ops listed).length]? with
    |some i=>Region.linearise.go md ops fuel (t/(Region.ready md ops listed).length) (listed.setIfInBounds i true) [i]
    |none=>[].reverse) ∈ _
   unfold allOrders
   cases hi:(Region.ready md ops listed)[t%(Region.ready md ops listed).length]? with
   |none=>
     have hnil:Region.ready md ops listed=[]:=by
      cases hr:Region.ready md ops listed with
      |nil=>rfl
      |cons x xs=>
        rw[hr] at hi
        have hlt:t%(x::xs).length<(x::xs).length:=Nat.mod_lt _ (by simp)
        simp at hi
        simp at hlt
        omega
     rw[if_pos hnil]
     simp
   |some i=>
     have hm:=List.mem_of_getElem? hi
     rw[if_neg (by rintro h;rw[h] at hm;cases hm)]
     simp only[]
     rw[linearise_go_acc,List.reverse_singleton,List.singleton_append]
     exact List.mem_flatMap.2 ⟨i,hm,List.mem_map.2 ⟨_,ih _ _,rfl⟩⟩
theorem wpS_region_draw{P:Program}{Q:Exit→Act→List Frame→World→Prop}{a:Act}{cs:List Frame}{w:World}{id:Nat}{ops:Array Oper}(hm:P.follows .mixedOrders=true)
 (h:∀l ∈ allOrders .any ops ops.size (Array.replicate ops.size false),wpOpsS P ops Q l a cs w.drew):(Code.region id ops true).wpS P Q a cs w:=by
 intro b k hb hr
 have hl:=lin_mem .any ops ops.size (w.tape w.drawn (.order b.fn id)) (Array.replicate ops.size false)
 have hs:Region.schedule (P.follows .mixedOrders) ops (w.tape w.drawn (.order b.fn id))=Region.linearise.go .any ops ops.size (w.tape w.drawn (.order b.fn id)) (Array.replicate ops.size false) []:=by
  simp only[Region.schedule,hm,Bool.true_or,if_true]
  rfl
 obtain⟨e,a',cs',w',q,r⟩:=wp_opsS _ a cs w.drew (h _ hl) b k hb hr
 refine⟨e,a',cs',w',q,.of_steps (.one ?_) r⟩
 rw[step_region_draw,hs]
 rfl
end Mem
end Go.Proofs.YtffoddpjfgjelaaGreatDoor
