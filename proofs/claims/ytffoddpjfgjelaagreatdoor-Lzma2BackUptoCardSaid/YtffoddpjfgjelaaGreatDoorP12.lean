/- Part 12 of 52: lemmas of the last part, each under the conditions that it names. -/
import Derived.Laws.Bits64b
import Derived.LoopN
import Derived.Deep.RegionHeld3
import Derived.Deep.QuietTactic
import Derived.BigQuiet
import Derived.Test.YtffoddpjfgjelaaGreatDoorP11
set_option linter.unusedVariables false
set_option linter.unusedSimpArgs false
set_option maxRecDepth 1500
set_option maxHeartbeats 4000000
namespace Go.Proofs.YtffoddpjfgjelaaGreatDoor
open Go.RowKit
namespace Rc
open Mem
structure R where
 bit:Nat
 err:Nat
 d:D
 ps:List Nat
def bitAt(d:D)(ps:List Nat)(i:Nat):R:=
 match ps[i]? with
 |none=>⟨0,7,d,ps⟩
 |some p=>match d.bit p with
   |none=>⟨0,1,d,ps⟩
   |some (v,e)=>⟨v,0,e,ps.set i (Prob.nextN p v)⟩
def okP(ps:List Nat):Prop:=∀p ∈ ps,p≤2047
theorem okP_set{ps:List Nat}(h:okP ps)(i p v:Nat)(hp:p≤2047):okP (ps.set i (Prob.nextN p v)):=by
 intro q hq
 rcases List.mem_or_eq_of_mem_set hq with h1|h1
 ·exact h q h1
 ·exact h1 ▸ Prob.nextN_le p v hp
theorem bitAt_ok{d:D}{ps:List Nat}(i:Nat)(hd:d.ok)(hp:okP ps):(bitAt d ps i).d.ok∧(bitAt d ps i).d.b=d.b∧(bitAt d ps i).bit≤1∧okP (bitAt d ps i).ps∧(bitAt d ps i).ps.length=ps.length:=by
 unfold bitAt
 split
 ·exact⟨hd,rfl,by simp,hp,rfl⟩
 ·rename_i p hpi
  have hp2:=hp p (List.mem_of_getElem? hpi)
  split
  ·exact⟨hd,rfl,by simp,hp,rfl⟩
  ·rename_i v e hb
   have:=D.bit_ok hd hp2 hb
   exact⟨this.1,this.2.1,this.2.2,okP_set hp i p v hp2,by simp⟩
theorem setAt_ok{w:World}{b g:Nat}{ps:List Nat}(h:Prob.SetAt w b g ps):okP ps:=by
 obtain⟨_,_,_,_,_,_,h5,_⟩:=h
 intro p hp
 obtain⟨i,hi⟩:=List.mem_iff_getElem?.1 hp
 exact(h5 i p hi).2
theorem bit_all(B b g i:Nat)(bv:Value)(d:D)(ps:List Nat)(w:World)(h:At w B bv d)(hok:d.ok)(hs:Prob.SetAt w b g ps):
 Calls Tryz.prog 270 #[.pointer (some ⟨B,0,none⟩),.pointer (some ⟨b,0,none⟩),.int .i64 i] w fun r w'=>r=.returned (.tuple #[.int .i64 (bitAt d ps i).bit,.int .i64 (bitAt d ps i).err])∧Fr (fun k=>k=B∨k=g) w w'∧At w' B bv (bitAt d ps i).d∧Prob.SetAt w' b g (bitAt d ps i).ps:=by
 have hbB:b≠B:=by
  obtain⟨_,_,h1,_⟩:=hs
  rintro rfl
  rw[h.1] at h1
  simp at h1
 have hgB:g≠B:=by
  obtain⟨_,_,_,h1,_⟩:=hs
  rintro rfl
  rw[h.1] at h1
  simp at h1
 cases hpi:ps[i]? with
 |none=>
   have e:bitAt d ps i=⟨0,7,d,ps⟩:=by unfold bitAt;rw[hpi]
   rw[e]
   refine(bit_out B b g i bv d ps w hs hpi).mono ?_
   rintro r w' ⟨rfl,hfr⟩
   exact⟨rfl,hfr.mono (fun _ _ h=>h.elim),h.keep hfr (fun h=>h) (fun _ _ h=>h),hs.keep hfr⟩
 |some p=>
   cases hb:d.bit p with
   |none=>
     have e:bitAt d ps i=⟨0,1,d,ps⟩:=by unfold bitAt;simp only[hpi,hb]
     rw[e]
     refine(bit_short B b g i p bv d ps w h hok hs hpi hb).mono ?_
     rintro r w' ⟨rfl,hfr,hA⟩
     exact⟨rfl,hfr.mono (fun _ _ h=>.inl h),hA,hs.step hfr hbB hgB⟩
   |some x=>
     obtain⟨v,y⟩:=x
     have e:bitAt d ps i=⟨v,0,y,ps.set i (Prob.nextN p v)⟩:=by unfold bitAt;simp only[hpi,hb]
     rw[e]
     exact bit_in B b g i p v bv d y ps w h hok hs hpi hb
end Rc
namespace Tr
open Mem Rc
def ord(back:Bool)(n k:Nat):Nat:=if back then k else n-1-k
structure G where
 err:Nat
 v:Nat
 d:D
 ps:List Nat
def go(back:Bool)(n a:Nat):Nat→Nat→Nat→D→List Nat→G
 |0,_,v,d,ps=>⟨0,v,d,ps⟩
 |f+1,m,v,d,ps=>
   if(bitAt d ps (a+m)).err≠0 then⟨(bitAt d ps (a+m)).err,v|||((bitAt d ps (a+m)).bit<<<ord back n (n-(f+1))),(bitAt d ps (a+m)).d,(bitAt d ps (a+m)).ps⟩
   else go back n a f (2*m+(bitAt d ps (a+m)).bit) (v|||((bitAt d ps (a+m)).bit<<<ord back n (n-(f+1)))) (bitAt d ps (a+m)).d (bitAt d ps (a+m)).ps
def get(back:Bool)(d:D)(ps:List Nat)(a n:Nat):R:=
 if n≤16∧a≤ps.length∧2^n≤ps.length-a then
  ⟨if(go back n a n 1 0 d ps).err=0 then(go back n a n 1 0 d ps).v else 0,(go back n a n 1 0 d ps).err,(go back n a n 1 0 d ps).d,(go back n a n 1 0 d ps).ps⟩
 else⟨0,7,d,ps⟩
theorem or_shl(v b o:Nat)(hv:v<65536)(hb:b≤1)(ho:o≤15):bits BinOp.or IntKind.i64 (v:Int) ((b:Int)*2^o)=((v|||(b<<<o):Nat):Int):=by
 have hp:2^o≤32768:=Nat.le_trans (Nat.pow_le_pow_right (by omega) ho) (by decide)
 have h1:b<<<o=b*2^o:=Nat.shiftLeft_eq ..
 have h2:b*2^o≤32768:=Nat.le_trans (Nat.mul_le_mul_right _ hb) (by omega)
 have e:((b:Int)*2^o)=((b*2^o:Nat):Int):=by simp
 rw[e,←h1]
 have hx:v|||(b<<<o)<2^17:=Nat.or_lt_two_pow (by omega) (by omega)
 generalize b<<<o=y at*
 have k1:(BitVec.ofInt 64 (v:Int)).toNat=v:=by
  rw[BitVec.ofInt_natCast,BitVec.toNat_ofNat];exact Nat.mod_eq_of_lt (by omega)
 have k2:(BitVec.ofInt 64 (y:Int)).toNat=y:=by
  rw[BitVec.ofInt_natCast,BitVec.toNat_ofNat];exact Nat.mod_eq_of_lt (by omega)
 show IntKind.i64.wrap ((BitVec.ofInt 64 (v:Int)|||BitVec.ofInt 64 (y:Int)).toNat:Int)=_
 rw[BitVec.toNat_or,k1,k2,IntWalk.i64_in _ (by omega)]
theorem or_lt(v b o n:Nat)(hv:v<2^n)(hb:b≤1)(ho:o<n):v|||(b<<<o)<2^n:=by
 refine Nat.or_lt_two_pow hv ?_
 rw[Nat.shiftLeft_eq]
 have:2^o<2^n:=Nat.pow_lt_pow_right (by omega) ho
 have h2:b*2^o≤1*2^o:=Nat.mul_le_mul_right _ hb
 omega
theorem order_calls(back:Bool)(n k:Nat)(w:World)(hk:k<n)(hn:n≤16):
 Calls Tryz.prog 318 #[.bool back,.int .i64 n,.int .i64 k] w fun e w'=>e=.returned (.int .i64 (ord back n k))∧w=w':=by
 have h1:((n-1-k:Nat):Int)=(n:Int)-1-k:=by omega
 cases back
 ·have ho:ord false n k=n-1-k:=rfl
  rw[ho,h1]
  clear ho h1
  go_enter Tryz.func318,Tryz.ntmps318
  go_wp2_with fail
  go_ret
  exact⟨rfl,rfl⟩
 ·have ho:ord true n k=k:=rfl
  rw[ho]
  clear ho h1
  go_enter Tryz.func318,Tryz.ntmps318
  go_wp2_with fail
  go_ret
  exact⟨rfl,rfl⟩
theorem slen_calls(b g:Nat)(ps:List Nat)(w:World)(h:Prob.SetAt w b g ps):
 Calls Tryz.prog 319 #[.pointer (some ⟨b,0,none⟩)] w fun e w'=>e=.returned (.int .i64 ps.length)∧w=w':=by
 obtain⟨cap,cs,h1,_⟩:=h
 exact Prob.len_calls b g ps.length cap w (cell_in h1 rfl)
end Tr
namespace Tr
open Mem Rc
set_option maxRecDepth 100000 in
theorem get1_calls(B b g bd bs c bb bn place k v n:Nat)(back:Bool)(bv:Value)(d:D)(ps:List Nat)(w:World)(h:At w B bv d)(hok:d.ok)(hs:Prob.SetAt w b g ps)
 (hd:w.heap[bd]? =some (.cells #[.pointer (some ⟨B,0,none⟩)] 339 (0,0)))(hsb:w.heap[bs]? =some (.cells #[.pointer (some ⟨b,0,none⟩)] 211 (0,0)))(hc:w.heap[c]? =some (.cells #[.int .i64 v] 3 (0,0)))
 (hbb:w.heap[bb]? =some (.cells #[.bool back] 4 (0,0)))(hbn:w.heap[bn]? =some (.cells #[.int .i64 n] 3 (0,0)))(hcg:c≠g)(hng:bn≠g)(hcn:bn≠c)(hv:v<65536)(hk:k<n)(hn:n≤16)(pl:Int)(hpl:pl=(place:Int)):
 Calls Tryz.prog 317 #[.int .i64 pl,.int .i64 k,.pointer (some ⟨bd,0,none⟩),.pointer (some ⟨bs,0,none⟩),.pointer (some ⟨c,0,none⟩),.pointer (some ⟨bb,0,none⟩),.pointer (some ⟨bn,0,none⟩)] w
  fun r w'=>r=.returned (.tuple #[.int .i64 (bitAt d ps place).bit,.int .i64 (bitAt d ps place).err])∧Fr (fun k=>k=B∨k=g∨k=c) w w'∧At w' B bv (bitAt d ps place).d∧Prob.SetAt w' b g (bitAt d ps place).ps∧
   w'.heap[c]? =some (.cells #[.int .i64 ((v|||((bitAt d ps place).bit<<<ord back n k):Nat):Int)] 3 (0,0)):=by
 subst hpl
 have hbt:=(bitAt_ok place hok (setAt_ok hs)).2.2.1
 have hbl:0<(bitAt d ps place).d.b.length:=(bitAt_ok place hok (setAt_ok hs)).1.2.2.2.2
 have n1:bd≠B:=by rintro rfl;rw[h.1] at hd;simp at hd
 have n2:bd≠g:=by rintro rfl;obtain⟨_,_,_,h1,_⟩:=hs;rw[h1] at hd;simp at hd
 have n3:bs≠B:=by rintro rfl;rw[h.1] at hsb;simp at hsb
 have n4:bs≠g:=by rintro rfl;obtain⟨_,_,_,h1,_⟩:=hs;rw[h1] at hsb;simp at hsb
 have n5:c≠B:=by rintro rfl;rw[h.1] at hc;simp at hc
 have n6:bb≠B:=by rintro rfl;rw[h.1] at hbb;simp at hbb
 have n7:bb≠g:=by rintro rfl;obtain⟨_,_,_,h1,_⟩:=hs;rw[h1] at hbb;simp at hbb
 have n8:bn≠B:=by rintro rfl;rw[h.1] at hbn;simp at hbn
 have n9:c≠b:=by rintro rfl;obtain⟨_,_,h1,_⟩:=hs;rw[h1] at hc;simp at hc
 have c0:=cell_in (i:=0) hd rfl
 have c1:=cell_in (i:=0) hsb rfl
 have HA:=Hd h
 have HS:=Hd hs
 go_enter Tryz.func317,Tryz.ntmps317
 go_wp2_with fail
 refine(bit_all B b g place bv d ps _ HA.out hok HS.out).mono ?_
 rintro r w2 ⟨rfl,hfr2,hA2,hs2⟩
 generalize hbt1:(bitAt d ps place).bit=bt at*
 generalize her1:(bitAt d ps place).err=er at*
 have HBT:=Hd hbt1
 have HER:=Hd her1
 clear hbt1 her1
 have hc2:=hfr2.keep hc (by omega)
 have hdr:=(Fr.refl (fun _=>False) w2).drew
 have x1:w2.drew.cell? ⟨c,0,none⟩=_:=cell_in (i:=0) hc2 rfl
 have x2:w2.drew.frozen? ⟨c,0,none⟩=_:=frozen_in hc2 0
 have x3:w2.drew.cell? ⟨bb,0,none⟩=_:=cell_in (i:=0) (hfr2.keep hbb (by omega)) rfl
 have x4:w2.drew.cell? ⟨bn,0,none⟩=_:=cell_in (i:=0) (hfr2.keep hbn (by omega)) rfl
 have ho:ord back n k≤15:=by unfold ord;split<;>omega
 have hor:=or_shl v bt (ord back n k) hv hbt ho
 have hpo:2^ord back n k≤32768:=Nat.le_trans (Nat.pow_le_pow_right (by omega) ho) (by decide)
 have hw1:IntKind.i64.wrap ((bt:Int)*2^ord back n k)=(bt:Int)*2^ord back n k:=by
  have h1:bt*2^ord back n k≤1*2^ord back n k:=Nat.mul_le_mul_right _ hbt
  have e:((bt:Int)*2^ord back n k)=((bt*2^ord back n k:Nat):Int):=by simp
  rw[e]
  exact IntWalk.i64_in _ (by omega)
 have HO:=Hd hor
 have HC2:=Hd hc2
 have HA2:=Hd hA2
 have HS2:=Hd hs2
 have HF2:=Hd hfr2
 clear hor hc2 hA2 hs2 hfr2 hdr h hs hd hsb hc hbb hbn c0 c1 hpo
 go_wp2_with fail
 go_region_with ((first
  |(go_at_call 318;refine(order_calls back n k _ hk hn).mono ?_;rintro e w' ⟨rfl,rfl⟩)))
 all_goals go_wp2_with fail
 all_goals go_ret2
 all_goals
  have hf3:=(Fr.one w2 c 0 (.int .i64 (bits BinOp.or IntKind.i64 (v:Int) ((bt:Int)*2^ord back n k)))).drew
  have hc3:(w2.setCell ⟨c,0,none⟩ (.int .i64 (bits BinOp.or IntKind.i64 (v:Int) ((bt:Int)*2^ord back n k)))).drew.heap[c]? =_:=set_in HC2.out 0 _
  refine⟨by rw[HBT.out,HER.out];rfl,(HF2.out.mono (fun _ _ h=>h.elim .inl (fun h=>.inr (.inl h)))).trans (hf3.mono (fun _ _ h=>.inr (.inr h))),HA2.out.keep hf3 (fun h=>n5 h.symm) (fun j hj h=>rd_off HA2.out.2 hbl HC2.out (no_byte1 (by simp)) j hj h),HS2.out.step hf3 (fun h=>n9 h.symm) (fun h=>hcg h.symm),?_⟩
  rw[hc3,HO.out,HBT.out]
  rfl
set_option maxRecDepth 100000 in
theorem down_calls(B b g bd bs c bb bn a n:Nat)(back:Bool)(bv:Value)(d:D)(ps:List Nat)(w:World)(h:At w B bv d)(hok:d.ok)(hs:Prob.SetAt w b g ps)
 (hd:w.heap[bd]? =some (.cells #[.pointer (some ⟨B,0,none⟩)] 339 (0,0)))(hsb:w.heap[bs]? =some (.cells #[.pointer (some ⟨b,0,none⟩)] 211 (0,0)))(hc:w.heap[c]? =some (.cells #[.int .i64 0] 3 (0,0)))
 (hbb:w.heap[bb]? =some (.cells #[.bool back] 4 (0,0)))(hbn:w.heap[bn]? =some (.cells #[.int .i64 n] 3 (0,0)))(hcg:c≠g)(hng:bn≠g)(hcn:bn≠c)(hn:n≤16)(ha:a≤1099511627776):
 Calls Tryz.prog 316 #[.int .i64 a,.int .i64 n,.func (Fn.func 317) #[] #[.pointer (some ⟨bd,0,none⟩),.pointer (some ⟨bs,0,none⟩),.pointer (some ⟨c,0,none⟩),.pointer (some ⟨bb,0,none⟩),.pointer (some ⟨bn,0,none⟩)]] w
  fun r w'=>r=.returned (.int .i64 (go back n a n 1 0 d ps).err)∧Fr (fun k=>k=B∨k=g∨k=c) w w'∧At w' B bv (go back n a n 1 0 d ps).d∧Prob.SetAt w' b g (go back n a n 1 0 d ps).ps∧
   w'.heap[c]? =some (.cells #[.int .i64 ((go back n a n 1 0 d ps).v:Nat)] 3 (0,0)):=by
 have n1:bd≠B:=by rintro rfl;rw[h.1] at hd;simp at hd
 have n2:bd≠g:=by rintro rfl;obtain⟨_,_,_,h1,_⟩:=hs;rw[h1] at hd;simp at hd
 have n3:bs≠B:=by rintro rfl;rw[h.1] at hsb;simp at hsb
 have n4:bs≠g:=by rintro rfl;obtain⟨_,_,_,h1,_⟩:=hs;rw[h1] at hsb;simp at hsb
 have n6:bb≠B:=by rintro rfl;rw[h.1] at hbb;simp at hbb
 have n7:bb≠g:=by rintro rfl;obtain⟨_,_,_,h1,_⟩:=hs;rw[h1] at hbb;simp at hbb
 have n8:bn≠B:=by rintro rfl;rw[h.1] at hbn;simp at hbn
 have m1:bd≠c:=by rintro rfl;rw[hd] at hc;simp at hc
 have m2:bs≠c:=by rintro rfl;rw[hsb] at hc;simp at hc
 have m3:bb≠c:=by rintro rfl;rw[hbb] at hc;simp at hc
 have HA:=Hd h
 have HS:=Hd hs
 have HD:=Hd hd
 have HSB:=Hd hsb
 have HC:=Hd hc
 have HBB:=Hd hbb
 have HBN:=Hd hbn
 clear h hs hd hsb hc hbb hbn
 generalize hfin:go back n a n 1 0 d ps=F
 have HFIN:=Hd hfin
 clear hfin
 go_enter Tryz.func316,Tryz.ntmps316
 go_wp2_with fail
 go_loopw [7,8,9,10,12] (fun m _ _ _ i wr=>∃(k M v:Nat)(e:D)(qs:List Nat),k≤n∧i=.int .i64 k∧m=.int .i64 M∧M<2^(k+1)∧v<2^n∧e.ok∧At wr B bv e∧Prob.SetAt wr b g qs∧wr.heap[c]? =some (.cells #[.int .i64 v] 3 (0,0))∧Fr (fun k=>k=B∨k=g∨k=c) w wr∧go back n a (n-k) M v e qs=F) (fun _ _ _ _ i _=>n-(intOf i).toNat)
 case atStart=>exact⟨0,1,0,d,ps,by omega,rfl,rfl,by omega,Nat.pow_pos (by omega),hok,HA.out,HS.out,HC.out,Fr.refl _ _,HFIN.out⟩
 case round=>
  obtain⟨k,M,v,e,qs,hk,rfl,rfl,hM,hv,hek,hA,hS,hC,hfr,hgo⟩:=hrel
  by_cases hlt:k<n
  ·have hp16:2^n≤65536:=Nat.le_trans (Nat.pow_le_pow_right (by omega) hn) (by decide)
   have hp17:2^(k+1)≤65536:=Nat.le_trans (Nat.pow_le_pow_right (by omega) (show k+1≤16 by omega)) (by decide)
   obtain⟨f,hf⟩:∃f,n-k=f+1:=⟨n-k-1,by omega⟩
   have hf2:n-(k+1)=f:=by omega
   have hkf:n-(f+1)=k:=by omega
   rw[hf] at hgo
   simp only[go,hkf] at hgo
   have hbok:=bitAt_ok (a+M) hek (setAt_ok hS)
   have HG:=Hd hgo
   have HA1:=Hd hA
   have HS1:=Hd hS
   have HC1:=Hd hC
   have HF1:=Hd hfr
   have hMa:M≤65536:=by omega
   clear hgo hA hS hC hfr
   go_wp2_with fail
   refine(get1_calls B b g bd bs c bb bn (a+M) k v n back bv e qs wr HA1.out hek HS1.out (HF1.out.keep HD.out (by omega)) (HF1.out.keep HSB.out (by omega)) HC1.out (HF1.out.keep HBB.out (by omega)) (HF1.out.keep HBN.out (by omega)) hcg hng hcn (by omega) hlt hn _ (by omega)).mono ?_
   rintro r w2 ⟨rfl,hfr2,hA2,hS2,hC2⟩
   have hok':ord back n k<n:=by unfold ord;split<;>omega
   have hv2:=or_lt v (bitAt e qs (a+M)).bit (ord back n k) n hv hbok.2.2.1 hok'
   by_cases her:(bitAt e qs (a+M)).err=0
   ·have hgo:=HG.out
    rw[if_neg (by omega)] at hgo
    rw[her]
    have HA2:=Hd hA2
    have HS2:=Hd hS2
    have HC2:=Hd hC2
    have HF2:=Hd (HF1.out.trans hfr2)
    have HG2:=Hd hgo
    have hbt:=hbok.2.2.1
    have HOK:=Hd hbok
    have HV2:=Hd hv2
    clear hgo hA2 hS2 hC2 hfr2 hbok her hv2 HG
    generalize hbtg:(bitAt e qs (a+M)).bit=bt at*
    have HBT:=Hd hbtg
    clear hbtg
    go_wp2_with fail
    go_roundw
    case rel=>
     refine⟨k+1,2*M+bt,_,_,_,by omega,by go_num,by go_num,by rw[Nat.pow_succ];omega,HV2.out,HOK.out.1,HA2.out,HS2.out,HC2.out,HF2.out,?_⟩
     rw[hf2]
     exact HG2.out
    case measure=>simp[intOf];omega
   ·have hgo:=HG.out
    rw[if_pos her] at hgo
    have hne:(((bitAt e qs (a+M)).err:Int) !=0)=true:=by simp[her]
    have HG2:=Hd hgo
    have HA2:=Hd hA2
    have HS2:=Hd hS2
    have HC2:=Hd hC2
    have HF2:=Hd (HF1.out.trans hfr2)
    clear hgo hA2 hS2 hC2 hfr2 her hv2 HG
    generalize herg:(bitAt e qs (a+M)).err=er at*
    generalize hbtg:(bitAt e qs (a+M)).bit=bt at*
    go_wp2_with fail
    go_ret
    rw[←HG2.out]
    exact⟨rfl,HF2.out,HA2.out,HS2.out,HC2.out⟩
  ·obtain rfl:k=n:=by omega
   rw[Nat.sub_self] at hgo
   have HG2:=Hd (show(⟨0,v,e,qs⟩:G)=F from hgo)
   clear hgo
   go_wp2_with fail
   go_ret
   rw[←HG2.out]
   exact⟨rfl,hfr,hA,hS,hC⟩
end Tr
namespace Tr
open Mem Rc
def thereB(ps:List Nat)(a n:Nat):Bool:=decide (n≤16∧a≤ps.length∧2^n≤ps.length-a)
set_option maxRecDepth 100000 in
theorem there_calls(b g a n:Nat)(ps:List Nat)(w:World)(h:Prob.SetAt w b g ps)(ha:a≤1099511627776)(hn:n≤1099511627776)(hl:ps.length≤1099511627776):
 Calls Tryz.prog 315 #[.pointer (some ⟨b,0,none⟩),.int .i64 a,.int .i64 n] w fun e w'=>e=.returned (.bool (thereB ps a n))∧Fr (fun _=>False) w w':=by
 have hlen:∀m,Calls Tryz.prog 319 #[.pointer (some ⟨b,0,none⟩)] (w.drewN m) fun e w'=>e=.returned (.int .i64 ps.length)∧w.drewN m=w':=fun m=>slen_calls b g ps _ (h.keep ((Fr.refl _ _).drewN m))
 generalize hq:thereB ps a n=q
 have HQ:=Hd hq
 have HLEN:=Hd hlen
 clear hq h hlen
 unfold thereB at HQ
 generalize ps.length=l at*
 have z1:decide ((n:Int)≥0)=true:=by simp
 have z2:decide ((0:Int)≤(n:Int))=true:=by simp
 have z3:decide ((a:Int)≥0)=true:=by simp
 have z4:decide ((0:Int)≤(a:Int))=true:=by simp
 by_cases h1:n≤16
 ·have t1:decide ((n:Int)≤16)=true:=by simp;omega
  by_cases h2:a≤l
  ·have t2:decide ((a:Int)≤(l:Int))=true:=by simp;omega
   have hp:2^n≤65536:=Nat.le_trans (Nat.pow_le_pow_right (by omega) h1) (by decide)
   have hpi:((2^n:Nat):Int)=2^n:=by simp
   have hw2:IntKind.i64.wrap (2^n)=2^n:=by
    rw[←hpi]
    have k1:=Int.natCast_nonneg (2^n)
    have k2:((2^n:Nat):Int)≤((65536:Nat):Int):=Int.ofNat_le.2 hp
    exact IntWalk.i64_in _ ⟨Int.le_trans (by decide) k1,Int.le_trans k2 (by decide)⟩
   have hw:IntKind.i64.wrap (1*2^n)=2^n:=by rw[Int.one_mul];exact hw2
   have hmin:min n 64=n:=by omega
   by_cases h3:2^n≤l-a
   ·have t3:decide ((2:Int)^n≤(l:Int)-a)=true:=by rw[←hpi];simp only[decide_eq_true_eq];omega
    clear hpi hp
    go_enter Tryz.func315,Tryz.ntmps315
    go_wp2_with fail
    go_quiet (exact quiet_left (HLEN.out _))
    go_wp2_with fail
    go_ret
    exact⟨by rw[←HQ.out];simp[h1,h2,h3],(Fr.refl _ _).drewN _⟩
   ·have t3:decide ((2:Int)^n≤(l:Int)-a)=false:=by rw[←hpi];simp only[decide_eq_false_iff_not];omega
    clear hpi hp
    go_enter Tryz.func315,Tryz.ntmps315
    go_wp2_with fail
    go_quiet (exact quiet_left (HLEN.out _))
    go_wp2_with fail
    go_ret
    exact⟨by rw[←HQ.out];simp[h1,h2,h3],(Fr.refl _ _).drewN _⟩
  ·have t2:decide ((a:Int)≤(l:Int))=false:=by simp;omega
   go_enter Tryz.func315,Tryz.ntmps315
   go_wp2_with fail
   go_quiet (exact quiet_left (HLEN.out _))
   go_wp2_with fail
   go_ret
   exact⟨by rw[←HQ.out];simp[h2],(Fr.refl _ _).drewN _⟩
 ·have t1:decide ((n:Int)≤16)=false:=by simp;omega
  go_enter Tryz.func315,Tryz.ntmps315
  go_wp2_with fail
  go_quiet (exact quiet_left (HLEN.out _))
  go_wp2_with fail
  go_ret
  exact⟨by rw[←HQ.out];simp[h1],(Fr.refl _ _).drewN _⟩
theorem four(w:World)(o1 o2 o3 o4:Obj):Fr (fun _=>False) w ((((w.alloc o1).alloc o2).alloc o3).alloc o4)∧((((w.alloc o1).alloc o2).alloc o3).alloc o4).heap.size=w.heap.size+4∧
 ((((w.alloc o1).alloc o2).alloc o3).alloc o4).heap[w.heap.size]? =some o1∧((((w.alloc o1).alloc o2).alloc o3).alloc o4).heap[w.heap.size+1]? =some o2∧((((w.alloc o1).alloc o2).alloc o3).alloc o4).heap[w.heap.size+1+1]? =some o3∧((((w.alloc o1).alloc o2).alloc o3).alloc o4).heap[w.heap.size+1+1+1]? =some o4:=by
 have k:=fun(W:World)(o:Obj)=>(Fr.refl (fun _=>False) W).alloc o
 have h1:=heap_alloc_new w o1
 have h2:=heap_alloc_new (w.alloc o1) o2
 have h3:=heap_alloc_new ((w.alloc o1).alloc o2) o3
 have h4:=heap_alloc_new (((w.alloc o1).alloc o2).alloc o3) o4
 simp only[World.size_alloc] at h2 h3 h4
 exact⟨(((k w o1).alloc o2).alloc o3).alloc o4,by simp,(((k _ o2).alloc o3).alloc o4).keep h1 (fun h=>h),((k _ o3).alloc o4).keep h2 (fun h=>h),(k _ o4).keep h3 (fun h=>h),h4⟩
def GetPost(B b g:Nat)(bv:Value)(x:R)(w:World)(r:Ending)(w':World):Prop:=
 r=.returned (.tuple #[.int .i64 x.bit,.int .i64 x.err])∧Fr (fun k=>k=B∨k=g) w w'∧At w' B bv x.d∧Prob.SetAt w' b g x.ps
set_option maxRecDepth 100000 in
theorem get_calls(B b g a n:Nat)(back:Bool)(bv:Value)(d:D)(ps:List Nat)(w:World)(h:At w B bv d)(hok:d.ok)(hs:Prob.SetAt w b g ps)(ha:a≤1099511627776)(hn:n≤1099511627776)(hl:ps.length≤1099511627776):
 Calls Tryz.prog 309 #[.pointer (some ⟨B,0,none⟩),.pointer (some ⟨b,0,none⟩),.int .i64 a,.int .i64 n,.bool back] w (GetPost B b g bv (get back d ps a n) w):=by
 have hmf:∀(fn:Fn)(first cap:Array Value)(w:World),(Instr.makeFunc fn first cap).run Tryz.prog w=.ok (.func fn first cap) w:=fun _ _ _ _=>rfl
 obtain⟨hfr,hsz,b1,b2,b3,b4⟩:=four w (.cells #[.pointer (some ⟨B,0,none⟩)] 339) (.cells #[.pointer (some ⟨b,0,none⟩)] 211) (.cells #[.int .i64 n] 3) (.cells #[.bool back] 4)
 have HB:=Hd (And.intro b1 (And.intro b2 (And.intro b3 b4)))
 have HF:=Hd hfr
 have HSZ:=Hd hsz
 have HA:=Hd (h.keep hfr (fun h=>h) (fun _ _ h=>h))
 have HS:=Hd (hs.keep hfr)
 have hBl:=lt_of_block h.1
 have hgl:=hs.lt
 clear hfr hsz b1 b2 b3 b4 h hs
 go_enter Tryz.func309,Tryz.ntmps309
 go_wp2_with fail
 generalize hz:w.heap.size=z at*
 generalize World.alloc (World.alloc (World.alloc (World.alloc w _) _) _) _=W at*
 refine(there_calls b g a n ps W HS.out ha hn hl).mono ?_
 rintro e w2 ⟨rfl,hfr2⟩
 have HF2:=Hd hfr2
 cases ht:thereB ps a n with
 |false=>
   have hx:get back d ps a n=⟨0,7,d,ps⟩:=by unfold get;rw[if_neg (of_decide_eq_false ht)]
   have HX:=Hd hx
   clear hx hfr2
   go_wp2_with fail
   go_ret2
   rw[HX.out]
   exact⟨rfl,((HF.out.trans HF2.out).mono (fun _ _ h=>h.elim)),HA.out.keep HF2.out (fun h=>h) (fun _ _ h=>h),HS.out.keep HF2.out⟩
 |true=>
   have ht2:=of_decide_eq_true ht
   have hx:get back d ps a n=⟨if(go back n a n 1 0 d ps).err=0 then(go back n a n 1 0 d ps).v else 0,(go back n a n 1 0 d ps).err,(go back n a n 1 0 d ps).d,(go back n a n 1 0 d ps).ps⟩:=by unfold get;rw[if_pos ht2]
   have hn16:=ht2.1
   have hfa:=hfr2.alloc (.cells #[.int .i64 0] 3)
   have hvb:=heap_alloc_new w2 (.cells #[.int .i64 0] 3)
   have hcs:z+4≤w2.heap.size:=by have:=HSZ.out;have:=hfr2.size;omega
   have c8:=cell_in (i:=0) (hfa.keep HB.out.2.2.1 (fun h=>h)) rfl
   have HX:=Hd hx
   have HFA:=Hd hfa
   have HVB:=Hd hvb
   clear hx hfr2 hfa hvb ht2 ht
   go_wp2_with fail
   generalize hc:w2.heap.size=c at*
   generalize World.alloc w2 _=W3 at*
   refine(down_calls B b g z (z+1) c (z+1+1+1) (z+1+1) a n back bv d ps W3 (HA.out.keep HFA.out (fun h=>h) (fun _ _ h=>h)) hok (HS.out.keep HFA.out) (HFA.out.keep HB.out.1 (fun h=>h)) (HFA.out.keep HB.out.2.1 (fun h=>h)) HVB.out (HFA.out.keep HB.out.2.2.2 (fun h=>h)) (HFA.out.keep HB.out.2.2.1 (fun h=>h)) (by omega) (by omega) (by omega) hn16 ha).mono ?_
   rintro e w4 ⟨rfl,hfr4,hA4,hS4,hC4⟩
   have hall:=(HF.out.trans HFA.out)
   have HF4:=Hd ((hall.mono (T:=fun k=>k=B∨k=g) (fun _ _ h=>h.elim)).trans' hfr4 (fun i hi h=>by omega))
   have HA4:=Hd hA4
   have HS4:=Hd hS4
   have c0:=cell_in (i:=0) hC4 rfl
   clear hA4 hS4 hfr4 hall hC4
   generalize hF:go back n a n 1 0 d ps=F at*
   by_cases he:F.err=0
   ·rw[he]
    have HE:=Hd he
    clear he hF
    generalize hv:F.v=v at*
    have HV:=Hd hv
    clear hv
    go_wp2_with fail
    go_ret2
    rw[HX.out]
    refine⟨?_,HF4.out,HA4.out,HS4.out⟩
    simp only[HE.out,HV.out,if_true]
    rfl
   ·have hne:((F.err:Int) !=0)=true:=by simp[he]
    have HE:=Hd he
    clear he hF
    generalize hv:F.err=v at*
    have HV:=Hd hv
    clear hv
    go_wp2_with fail
    go_ret2
    rw[HX.out]
    refine⟨?_,HF4.out,HA4.out,HS4.out⟩
    simp only[HV.out,if_neg HE.out]
    rfl
theorem Get_calls(B b g a n:Nat)(bv:Value)(d:D)(ps:List Nat)(w:World)(h:At w B bv d)(hok:d.ok)(hs:Prob.SetAt w b g ps)(ha:a≤1099511627776)(hn:n≤1099511627776)(hl:ps.length≤1099511627776):
 Calls Tryz.prog 295 #[.pointer (some ⟨B,0,none⟩),.pointer (some ⟨b,0,none⟩),.int .i64 a,.int .i64 n] w (GetPost B b g bv (get false d ps a n) w):=by
 have HC:=Hd (get_calls B b g a n false bv d ps w h hok hs ha hn hl)
 clear h hs
 generalize get false d ps a n=x at*
 go_enter Tryz.func295,Tryz.ntmps295
 go_wp2_with fail
 refine HC.out.mono ?_
 rintro e w2 ⟨rfl,h1,h2,h3⟩
 go_wp2_with fail
 go_ret2
 exact⟨rfl,h1,h2,h3⟩
theorem GetBack_calls(B b g a n:Nat)(bv:Value)(d:D)(ps:List Nat)(w:World)(h:At w B bv d)(hok:d.ok)(hs:Prob.SetAt w b g ps)(ha:a≤1099511627776)(hn:n≤1099511627776)(hl:ps.length≤1099511627776):
 Calls Tryz.prog 296 #[.pointer (some ⟨B,0,none⟩),.pointer (some ⟨b,0,none⟩),.int .i64 a,.int .i64 n] w (GetPost B b g bv (get true d ps a n) w):=by
 have HC:=Hd (get_calls B b g a n true bv d ps w h hok hs ha hn hl)
 clear h hs
 generalize get true d ps a n=x at*
 go_enter Tryz.func296,Tryz.ntmps296
 go_wp2_with fail
 refine HC.out.mono ?_
 rintro e w2 ⟨rfl,h1,h2,h3⟩
 go_wp2_with fail
 go_ret2
 exact⟨rfl,h1,h2,h3⟩
end Tr
namespace Rc
open Mem
set_option maxRecDepth 100000 in
theorem dcatch_bad(B bd be bb:Nat)(bv:Value)(d e:D)(err:Nat)(v0 e0:Int)(older:List PanicEntry)(w:World)(h:At w B bv d)(h0:0<d.b.length)(heq:e.b=d.b)
 (hd:w.heap[bd]? =some (.cells #[.pointer (some ⟨B,0,none⟩)] 339 (0,0)))(he:w.heap[be]? =some (.cells #[.int .i64 e0] 28 (0,0)))(hb:w.heap[bb]? =some (.cells #[.int .u32 v0] 180 (0,0)))(herr:err≠0):
 CallsD Tryz.prog 310 #[placeV e,.pointer (some ⟨bd,0,none⟩),.pointer (some ⟨be,0,none⟩),.pointer (some ⟨bb,0,none⟩)]
  (.panicking ({v:=refusedV err,recovered:=false}::older)) w fun r u' w'=>r=.returned (.tuple #[])∧u'=.panicking ({v:=refusedV err,recovered:=true}::older)∧
    Fr (fun k=>k=B∨k=be∨k=bb) w w'∧At w' B bv e∧w'.heap[be]? =some (.cells #[.int .i64 err] 28 (0,0))∧w'.heap[bb]? =some (.cells #[.int .u32 0] 180 (0,0)):=by
 refine callsD_of_wpS Tryz.func310 rfl fun c₀ cs hu=> ?_
 apply wpS_seq
 apply wpS_region
 simp[wpOpsS,go_sem,recoverD,hu,Tryz.ntmps310,Exit.thenS,placeV]
 apply wpS_seq
 refine wpS_region_draw (by kernel_rfl) (fun l hl=> ?_)
 have hal:=(Fr.refl (fun _=>False) w).alloc (.cells #[.int .i64 e.read,.int .u32 e.rng,.int .u32 e.now] 379)
 have hbx:=heap_alloc_new w (.cells #[.int .i64 e.read,.int .u32 e.rng,.int .u32 e.now] 379)
 have hA1:=h.keep hal (fun h=>h) (fun _ _ h=>h)
 have k1:=cell_in (i:=0) (hal.keep hd (fun h=>h)) rfl
 obtain⟨k2,k3,k4⟩:=cs3 hbx rfl rfl rfl
 replace hl:l ∈ ([[0,1,2,3,4],[0,2,1,3,4],[1,0,2,3,4],[1,2,0,3,4],[2,0,1,3,4],[2,1,0,3,4]]:List (List Nat)):=Eq.mp (congrArg (fun L=>l ∈ L) (by kernel_rfl)) hl
 simp only[List.mem_cons,List.not_mem_nil,or_false] at hl
 rcases hl with rfl|rfl|rfl|rfl|rfl|rfl
 all_goals simp[wpOpsS,go_sem,recoverD,hu,Exit.thenS,k1,k2,k3,k4]
 all_goals
  refine(back_some B bv d e err _ (hA1.keep ((Fr.refl (fun _=>False) _).drew) (fun h=>h) (fun _ _ h=>h)) h0 heq).mono ?_
  rintro r w2 ⟨rfl,hfr2,hA2⟩
  have hne1:be≠B:=by rintro rfl;rw[h.1] at he;simp at he
  have hne2:bb≠B:=by rintro rfl;rw[h.1] at hb;simp at hb
  have hne3:bb≠be:=by rintro rfl;rw[he] at hb;simp at hb
  have hfr2':Fr (fun k=>k=B∨k=be∨k=bb) w w2:=(hal.mono (fun _ _ h=>h.elim)).trans ((Fr.refl _ _).drew.trans (hfr2.mono (fun _ _ h=>.inl h)))
  have he2:=hfr2.keep (hal.drew.keep he (fun h=>h)) hne1
  have hb2:=hfr2.keep (hal.drew.keep hb (fun h=>h)) hne2
  have c1:=cell_in (i:=0) he2 rfl
  have f1:=frozen_in he2 0
  simp[c1,f1,storeCells,go_sem]
  have he3:(w2.setCell ⟨be,0,none⟩ (.int .i64 err)).heap[be]? =some (.cells #[.int .i64 err] 28 (0,0)):=set_in he2 0 _
  have hb3:=set_out (i:=0) hb2 hne3 (.int .i64 err)
  have hA3:=hA2.keep (S:=fun k=>k=be) (Fr.one w2 be 0 (.int .i64 err)) (fun h=>hne1 h.symm) (fun k hk h=>rd_off hA2.2 (by rw[heq];exact h0) he2 (no_byte1 (by simp)) k hk h)
  have hfr3:=hfr2'.trans ((Fr.one w2 be 0 (.int .i64 err)).mono (fun k _ h=>.inr (.inl h)))
  generalize w2.setCell ⟨be,0,none⟩ (.int .i64 err)=w3 at*
  have c3:=cell_in (i:=0) he3 rfl
  have c4:=cell_in (i:=0) hb3 rfl
  have f4:=frozen_in hb3 0
  apply wpS_seq
  apply wpS_region
  have hen:((err:Int) !=0)=true:=by simp[herr]
  simp[wpOpsS,go_sem,Exit.thenS,c3,hen]
  refine wpS_cond (t:=true) (by simp[Act.eval,herr]) ?_
  simp only[if_true]
  apply wpS_region
  simp[wpOpsS,go_sem,c4,f4,bodyPostS,results,Tryz.results310]
  exact⟨hfr3.trans ((Fr.one w3 bb 0 (.int .u32 0)).mono (fun k _ h=>.inr (.inr h))),hA3.keep (S:=fun k=>k=bb) (Fr.one w3 bb 0 (.int .u32 0)) (fun h=>hne2 h.symm) (fun k hk h=>rd_off hA3.2 (by rw[heq];exact h0) hb3 (no_byte1 (by simp)) k hk h),set_out he3 (fun h=>hne3 h.symm) _,set_in hb3 0 _⟩
set_option maxRecDepth 100000 in
theorem dcatch_ok(B bd be bb:Nat)(e:D)(e0:Int)(w:World)
 (hd:w.heap[bd]? =some (.cells #[.pointer (some ⟨B,0,none⟩)] 339 (0,0)))(he:w.heap[be]? =some (.cells #[.int .i64 e0] 28 (0,0))):
 CallsD Tryz.prog 310 #[placeV e,.pointer (some ⟨bd,0,none⟩),.pointer (some ⟨be,0,none⟩),.pointer (some ⟨bb,0,none⟩)]
  .returning w fun r u' w'=>r=.returned (.tuple #[])∧u'=.returning∧Fr (fun k=>k=be) w w'∧w'.heap[be]? =some (.cells #[.int .i64 0] 28 (0,0)):=by
 refine callsD_of_wpS Tryz.func310 rfl fun c₀ cs hu=> ?_
 apply wpS_seq
 apply wpS_region
 simp[wpOpsS,go_sem,recoverD,hu,Tryz.ntmps310,Exit.thenS,placeV]
 apply wpS_seq
 refine wpS_region_draw (by kernel_rfl) (fun l hl=> ?_)
 have hal:=(Fr.refl (fun _=>False) w).alloc (.cells #[.int .i64 e.read,.int .u32 e.rng,.int .u32 e.now] 379)
 have hbx:=heap_alloc_new w (.cells #[.int .i64 e.read,.int .u32 e.rng,.int .u32 e.now] 379)
 have k1:=cell_in (i:=0) (hal.keep hd (fun h=>h)) rfl
 obtain⟨k2,k3,k4⟩:=cs3 hbx rfl rfl rfl
 replace hl:l ∈ ([[0,1,2,3,4],[0,2,1,3,4],[1,0,2,3,4],[1,2,0,3,4],[2,0,1,3,4],[2,1,0,3,4]]:List (List Nat)):=Eq.mp (congrArg (fun L=>l ∈ L) (by kernel_rfl)) hl
 simp only[List.mem_cons,List.not_mem_nil,or_false] at hl
 rcases hl with rfl|rfl|rfl|rfl|rfl|rfl
 all_goals simp[wpOpsS,go_sem,recoverD,hu,Exit.thenS,k1,k2,k3,k4]
 all_goals
  refine(back_nil B e _).mono ?_
  rintro r w2 ⟨rfl,hfr2⟩
  have hfr2':=hal.drew.trans hfr2
  have he2:=hfr2'.keep he (fun h=>h)
  have c1:=cell_in (i:=0) he2 rfl
  have f1:=frozen_in he2 0
  simp[c1,f1,storeCells,go_sem]
  have he3:(w2.setCell ⟨be,0,none⟩ (.int .i64 0)).heap[be]? =some (.cells #[.int .i64 0] 28 (0,0)):=set_in he2 0 _
  have hfr3:Fr (fun k=>k=be) w (w2.setCell ⟨be,0,none⟩ (.int .i64 0)):=(hfr2'.mono (fun _ _ h=>h.elim)).trans (Fr.one w2 be 0 (.int .i64 0))
  generalize w2.setCell ⟨be,0,none⟩ (.int .i64 0)=w3 at*
  have c3:=cell_in (i:=0) he3 rfl
  apply wpS_seq
  apply wpS_region
  simp[wpOpsS,go_sem,Exit.thenS,c3]
  refine wpS_cond (t:=false) (by simp[Act.eval]) ?_
  simp only[Bool.false_eq_true,if_false]
  refine wpS_of_wp (wp_skip ?_)
  simp[bodyPostS,results,Tryz.results310,go_sem]
  exact⟨.returning,by cases c₀;simp_all,rfl,hfr3,he3⟩
end Rc
end Go.Proofs.YtffoddpjfgjelaaGreatDoor
