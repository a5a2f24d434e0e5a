/- Part 41 of 54: lemmas of the last part, each under the conditions that it names. -/
import Derived.BigQuiet
import Derived.Test.YtlgccpjccopdmaaGreatDoorP39
import Derived.Test.YtlgccpjccopdmaaGreatDoorP40
set_option linter.unusedVariables false
set_option linter.unusedSimpArgs false
set_option maxRecDepth 1500
set_option maxHeartbeats 4000000
namespace Go.Proofs.YtlgccpjccopdmaaGreatDoor
open Go.RowKit
namespace Rf
open Mem Rc Prob St Lz Win
theorem full_calls(V size n cap:Nat)(p:Option Addr)(w:World)(h0:w.cell? ⟨V,0,none⟩=some (.int .i64 size))(h1:w.cell? ⟨V,1,none⟩=some (.slice p n cap)):
 Calls Tryz.prog 214 #[ptr V] w fun e w'=>e=.returned (.int .i64 (min size n:Nat))∧∃m,w'=w.drewN m:=by
 by_cases hlt:n<size
 ·have t1:decide ((n:Int)<(size:Int))=true:=by rw[decide_eq_true_eq];omega
  have e:min size n=n:=by omega
  rw[e]
  go_enter Tryz.func214,Tryz.ntmps214
  go_wp2_with fail
  go_quiet (fail)
  go_wp2_with fail
  go_ret
  exact⟨rfl,_,rfl⟩
 ·have t1:decide ((n:Int)<(size:Int))=false:=by rw[decide_eq_false_iff_not];omega
  have e:min size n=size:=by omega
  rw[e]
  go_enter Tryz.func214,Tryz.ntmps214
  go_wp2_with fail
  go_quiet (fail)
  go_wp2_with fail
  go_ret
  exact⟨rfl,_,rfl⟩
theorem has_calls(V size n cap d:Nat)(p:Option Addr)(w:World)(h0:w.cell? ⟨V,0,none⟩=some (.int .i64 size))(h1:w.cell? ⟨V,1,none⟩=some (.slice p n cap)):
 Calls Tryz.prog 191 #[ptr V,.int .i64 d] w fun e w'=>e=.returned (.bool (decide (1≤d∧d≤min size n)))∧∃m,w'=w.drewN m:=by
 have HF:=Hd (full_calls V size n cap p w h0 h1)
 generalize hq:decide (1≤d∧d≤min size n)=q
 have HQ:=Hd hq
 clear hq h0 h1
 by_cases hd:1≤d
 ·have t1:decide ((d:Int)>0)=true:=by rw[decide_eq_true_eq];omega
  have t2:decide ((0:Int)<(d:Int))=true:=by rw[decide_eq_true_eq];omega
  generalize min size n=m at*
  go_enter Tryz.func191,Tryz.ntmps191
  go_wp2_with fail
  refine HF.out.mono ?_
  rintro e w' ⟨rfl,k,rfl⟩
  go_wp2_with fail
  go_ret
  exact⟨Mem.ret_bool (by rw[←HQ.out,Bool.eq_iff_iff];simp;omega),k,rfl⟩
 ·have t1:decide ((d:Int)>0)=false:=by rw[decide_eq_false_iff_not];omega
  have t2:decide ((0:Int)<(d:Int))=false:=by rw[decide_eq_false_iff_not];omega
  go_enter Tryz.func191,Tryz.ntmps191
  go_wp2_with fail
  go_ret
  exact⟨Mem.ret_bool (by rw[←HQ.out];simp;omega),0,rfl⟩
theorem rlast_calls{l:RL}{c:C}{ps:Nat→List Nat}{w:World}(h:Cod w l c ps)(d:Nat):
 Calls Tryz.prog 184 #[ptr l.V,.int .i64 d] w fun e w'=>e=.returned (.tuple #[.int .u8 (Win.last c.size c.all d).1,.int .i64 (Win.last c.size c.all d).2])∧∃m,w'=w.drewN m:=by
 obtain⟨p,cap,hav⟩:=h.slice
 have hrd:=h.rd
 rw[hav] at hrd
 have v0:=h.cells.v0
 have v1:=h.cells.v1
 rw[hav] at v1
 have hmuch:=h.much
 have HHas:=Hd (has_calls l.V c.size c.all.length cap d p w v0 v1)
 have H:=Hd h
 clear h v0 v1
 by_cases hin:1≤d∧d≤min c.size c.all.length
 ·rw[decide_eq_true hin] at HHas
  obtain⟨x,hx⟩:∃x,c.all[c.all.length-d]? =some x:=⟨c.all[c.all.length-d]'(by omega),by simp⟩
  have hl:Win.last c.size c.all d=(x.toNat,0):=by
   unfold Win.last
   rw[if_pos hin,List.getD_eq_getElem?_getD,hx]
   rfl
  rw[hl]
  obtain⟨b',o',hpb,hc⟩:=Win.byte_at hrd hx
  subst hpb
  generalize x.toNat=xv at*
  obtain⟨i,hi⟩:∃i,i=c.all.length-d:=⟨_,rfl⟩
  rw[←hi] at hc
  have ei:(c.all.length:Int)-(d:Int)=(i:Int):=by omega
  have hi0:(0:Int)≤(i:Int):=by omega
  have hi1:(i:Int)<(c.all.length:Int):=by omega
  go_enter Tryz.func184,Tryz.ntmps184
  go_wp2_with fail
  refine HHas.out.mono ?_
  rintro e w2 ⟨rfl,k,rfl⟩
  have HK:=Hd ((Fr.refl (fun _=>False) w).drewN k)
  have H2:=Hd (H.out.keep HK.out)
  have v0:=H2.out.cells.v0
  have v1:=H2.out.cells.v1
  rw[hav] at v1
  have hc2:(w.drewN k).cell? ⟨b',o'+i,none⟩=some (.int .u8 xv):=hc
  have HW:=Hd (fun n=>show(w.drewN k).drewN n=w.drewN (k+n) from World.drewN_drewN w k n)
  clear hc HHas
  generalize hw3:w.drewN k=w3 at*
  have HW3:=Hd hw3
  clear hw3
  clear hrd hin hl hav hi
  generalize c.all.length=nn at*
  go_wp2_with fail
  go_quiet (fail)
  go_wp2_with fail
  go_ret2
  exact⟨rfl,_,HW.out _⟩
 ·rw[decide_eq_false hin] at HHas
  have hl:Win.last c.size c.all d=(0,7):=if_neg hin
  rw[hl]
  go_enter Tryz.func184,Tryz.ntmps184
  go_wp2_with fail
  refine HHas.out.mono ?_
  rintro e w2 ⟨rfl,k,rfl⟩
  go_wp2_with fail
  go_ret2
  exact⟨rfl,k,rfl⟩
theorem rbits_calls(s:Nat)(hs:s<64)(w:World):Calls Tryz.prog 213 #[.int .i64 s] w fun e w'=>e=.returned (.int .i64 (range s).2)∧w=w':=by
 by_cases h4:s<4
 ·have t1:decide ((s:Int)<4)=true:=by rw[decide_eq_true_eq];omega
  have e:(range s).2=0:=by unfold range;rw[if_pos h4]
  rw[e]
  go_enter Tryz.func213,Tryz.ntmps213
  go_wp2_with fail
  go_ret
  exact⟨rfl,rfl⟩
 ·have t1:decide ((s:Int)<4)=false:=by rw[decide_eq_false_iff_not];omega
  have e:(range s).2=s/2-1:=by unfold range;rw[if_neg h4]
  rw[e]
  go_enter Tryz.func213,Tryz.ntmps213
  go_wp2_with fail
  go_ret
  exact⟨Mem.ret_int (by omega),rfl⟩
theorem range_next:∀s:Fin 63,(range (s.val+1)).1=(range s.val).1+2^(range s.val).2:=by decide+kernel
theorem rrange_calls(s:Nat)(hs:s<64)(w:World):Calls Tryz.prog 186 #[.int .i64 s] w fun e w'=>e=.returned (.tuple #[.int .i64 (range s).1,.int .i64 (range s).2,.int .i64 0])∧w=w':=by
 have g1:decide ((s:Int)<0)=false:=by simp
 have g2:decide ((s:Int)>63)=false:=by rw[decide_eq_false_iff_not];omega
 have g3:decide ((63:Int)<(s:Int))=false:=by rw[decide_eq_false_iff_not];omega
 go_enter Tryz.func186,Tryz.ntmps186
 go_wp2_with fail
 go_loopw [5,6](fun v i wr=>∃k:Nat,k≤s∧i=.int .i64 k∧v=.int .i64 (range k).1∧wr=w) (fun _ i _=>s-(intOf i).toNat)
 case atStart=>exact⟨0,by omega,rfl,rfl,rfl⟩
 case round=>
  obtain⟨k,hk,rfl,rfl,rfl⟩:=hrel
  by_cases hlt:k<s
  ·have hr:=range_le ⟨k,by omega⟩
   have hn:=range_next ⟨k,by omega⟩
   simp only at hr hn
   have HB:=Hd (rbits_calls k (by omega) wr)
   have hr2:(range k).1+2^(range k).2≤4294967297:=hr.1
   obtain⟨pw,hpw⟩:∃pw,pw=2^(range k).2:=⟨_,rfl⟩
   have hcp:(2:Int)^(range k).2=(pw:Int):=by rw[hpw];norm_cast
   rw[←hpw] at hn hr2
   have hsum:((range (k+1)).1:Int)=((range k).1:Int)+(2:Int)^(range k).2:=by rw[hcp];omega
   have hw1:IntKind.i64.wrap ((2:Int)^(range k).2)=(2:Int)^(range k).2:=by rw[hcp];exact IntWalk.i64_in _ (by omega)
   have hw2:IntKind.i64.wrap (((range k).1:Int)+(2:Int)^(range k).2)=((range k).1:Int)+(2:Int)^(range k).2:=by rw[hcp];exact IntWalk.i64_in _ (by omega)
   have hb30:(range k).2≤30:=hr.2.1
   clear hr hn hr2 hcp hpw
   generalize(range k).2=bts at*
   go_wp2_with fail
   refine HB.out.mono ?_
   rintro e w2 ⟨rfl,rfl⟩
   go_wp2_with fail
   go_roundw
   case rel=>exact⟨k+1,by omega,by go_num,by rw[hsum],by first|rfl|trivial⟩
   case measure=>simp[intOf];omega
  ·obtain rfl:k=s:=by omega
   have HB:=Hd (rbits_calls k (by omega) wr)
   go_wp2_with fail
   refine HB.out.mono ?_
   rintro e w2 ⟨rfl,rfl⟩
   go_wp2_with fail
   go_ret3
   exact⟨rfl,rfl⟩
end Rf
namespace Rf
open Mem Rc Prob St Lz Win En Ga
theorem range_mono:∀i:Fin 64,∀j:Fin 64,i.val≤j.val→(range i.val).1≤(range j.val).1:=by decide+kernel
theorem slot_iff{d i:Nat}(h1:1≤d)(h2:d≤4294967295)(hi:i<64):(range i).1≤d↔i≤slotOf d:=by
 obtain⟨s1,s2,s3⟩:=slotOf_in h1 h2
 constructor
 ·intro h
  by_cases hle:i≤slotOf d
  ·exact hle
  ·have h4:=range_next ⟨slotOf d,by omega⟩
   have h5:=range_mono ⟨slotOf d+1,by omega⟩ ⟨i,hi⟩ (by simp only;omega)
   simp only at h4 h5
   omega
 ·intro h
  have h5:=range_mono ⟨i,hi⟩ ⟨slotOf d,s1⟩ h
  simp only at h5
  omega
theorem rslot_calls(d:Nat)(h1:1≤d)(h2:d≤4294967295)(w:World):Calls Tryz.prog 185 #[.int .i64 d] w fun e w'=>e=.returned (.tuple #[.int .i64 (slotOf d),.int .i64 0])∧w=w':=by
 have HI:=Hd (fun(i:Nat)(hi:i<64)=>slot_iff h1 h2 hi)
 have hs:=(slotOf_in h1 h2).1
 have g1:decide ((d:Int)<1)=false:=by rw[decide_eq_false_iff_not];omega
 have g2:decide ((d:Int)>4294967295)=false:=by rw[decide_eq_false_iff_not];omega
 have g3:decide ((4294967295:Int)<d)=false:=by rw[decide_eq_false_iff_not];omega
 generalize slotOf d=s at*
 go_enter Tryz.func185,Tryz.ntmps185
 go_wp2_with fail
 go_loopw [4,5](fun sv i wr=>∃k:Nat,k≤64∧i=.int .i64 k∧sv=.int .i64 ((min (k-1) s:Nat):Int)∧wr=w) (fun _ i _=>64-(intOf i).toNat)
 case atStart=>exact⟨0,by omega,rfl,by rw[show min (0-1) s=0 by omega];rfl,rfl⟩
 case round=>
  obtain⟨k,hk,rfl,rfl,rfl⟩:=hrel
  by_cases hlt:k<64
  ·have HR:=Hd (rrange_calls k hlt wr)
   have hiff:=HI.out k hlt
   generalize range k=rk at*
   obtain⟨rk,bk⟩:=rk
   simp only at HR hiff
   by_cases hks:k≤s
   ·have hle:=hiff.2 hks
    have t:decide ((rk:Int)≤d)=true:=decide_eq_true (by omega)
    have HK:=Hd (show min (k+1-1) s=k by omega)
    clear hiff
    go_wp2_with fail
    refine HR.out.mono ?_
    rintro e w2 ⟨rfl,rfl⟩
    go_wp2_with fail
    go_roundw
    case rel=>exact⟨k+1,by omega,by go_num,by rw[HK.out],by first|rfl|trivial⟩
    case measure=>simp[intOf];omega
   ·have hle:¬rk≤d:=fun h=>hks (hiff.1 h)
    have t:decide ((rk:Int)≤d)=false:=decide_eq_false (by omega)
    have HK:=Hd (show min (k+1-1) s=min (k-1) s by omega)
    clear hiff
    go_wp2_with fail
    refine HR.out.mono ?_
    rintro e w2 ⟨rfl,rfl⟩
    go_wp2_with fail
    go_roundw
    case rel=>exact⟨k+1,by omega,by go_num,by rw[HK.out],by first|rfl|trivial⟩
    case measure=>simp[intOf];omega
  ·obtain rfl:k=64:=by omega
   have HK:=Hd (show min (64-1) s=s by omega)
   rw[HK.out]
   go_wp2_with fail
   go_ret2
   exact⟨rfl,rfl⟩
theorem div_fact{x q y:Nat}(h:y=x/q)(hx:x≤1099511627776):y≤1099511627776∧wrap64 ((x:Int)/(q:Int))=(y:Int):=by
 have hy:y≤1099511627776:=Nat.le_trans (by rw[h];exact Nat.div_le_self _ _) hx
 refine⟨hy,?_⟩
 rw[show(x:Int)/(q:Int)=((x/q:Nat):Int) from rfl,←h]
 clear h hx
 exact IntWalk.wrap64_in _ (by omega)
theorem halvesNb_len(x:Nat):∀n,(halvesNb x n).length=n
 |0=>rfl
 |n+1=>by rw[halvesNb,List.length_cons,halvesNb_len x n]
set_option maxRecDepth 100000 in
theorem distance14_calls(n d:Nat)(hn1:2≤n)(hn2:n≤273)(h1:1≤d)(h2:d≤4294967295)(w:World):
 Calls Tryz.prog 130 #[.int .i64 n,.int .i64 d] w fun e w'=>∃v,e=.returned v∧Fr (fun _=>False) w w'∧BL w w' v (distNb n (slotOf d) d):=by
 obtain⟨s1,s2,s3⟩:=slotOf_in h1 h2
 have HSL:=fun W=>Hd (rslot_calls d h1 h2 W)
 obtain⟨L,hL⟩:∃L,L=distNb n (slotOf d) d:=⟨_,rfl⟩
 rw[←hL]
 unfold distNb restNb at hL
 generalize slotOf d=s at*
 have hz:=range_zero ⟨s,s1⟩
 have hr:=range_le ⟨s,s1⟩
 simp only at hz hr
 have HRG:=fun W=>Hd (rrange_calls s s1 W)
 obtain⟨r1,r2,r3,r4,r5⟩:=hr
 have hz1:=hz.1
 clear hz r3
 generalize range s=rg at*
 obtain⟨lo,bits⟩:=rg
 simp only at hL s2 s3 r1 r2 r4 hz1 HRG
 obtain⟨r,hr⟩:∃r,r=d-lo:=⟨_,rfl⟩
 rw[←hr] at hL
 have er:(d:Int)-(lo:Int)=(r:Int):=by omega
 obtain⟨k,hk⟩:∃k,k=min (n-2) 3:=⟨_,rfl⟩
 rw[←hk] at hL
 obtain⟨T,hT⟩:∃T,T=treeNb false (nSlot k) 6 s 6 1:=⟨_,rfl⟩
 have hTl:T.length=6:=by rw[hT];exact treeNb_len ..
 have HT:=fun W=>Hd (show Calls Tryz.prog 183 #[bstr (num sSlot k),.int .i64 6,.int .i64 s] W (fun e w'=>∃v,e=.returned v∧Fr (fun _=>False) W w'∧BL W w' v T) from by rw[hT];exact rtree_calls (nSlot k) 6 s (by decide) (by omega) W)
 rw[←hT] at hL
 have HNS:=fun(z:Int)(hzk:z=(k:Int))(B:Nat)(W:World)(hB:W.heap[B]? =some (.cells #[.int .i64 z] 3 (0,0)))=>Hd (name_calls sSlot k B (by decide) (by omega) W (by rw[hB,hzk]))
 have hrb:r<2^bits:=by omega
 have hb30:(2:Nat)^bits≤2^30:=Nat.pow_le_pow_right (by omega) (by omega)
 have hr30:r<1073741824:=Nat.lt_of_lt_of_le hrb hb30
 have HL:=Hd hL
 have HTL:=Hd hTl
 have HR0:=Hd hr
 clear hL hT hTl hr hrb hb30 r1 s2 s3
 have hkk:n-2>3∧k=3∨¬n-2>3∧(n:Int)-2=(k:Int)∧decide ((k:Int)>3)=false∧decide ((3:Int)<(k:Int))=false:=by
  simp only[decide_eq_false_iff_not]
  omega
 clear hk
 have t0:decide ((n:Int)-2>3)=decide (n-2>3):=by rw[Bool.eq_iff_iff];simp;omega
 have t0':decide ((3:Int)<(n:Int)-2)=decide (n-2>3):=by rw[Bool.eq_iff_iff];simp;omega
 rcases hkk with⟨hk3,rfl⟩|⟨hk3,ek,t1,t1'⟩
 all_goals
  first
   |rw[decide_eq_true hk3] at t0 t0'
   |rw[decide_eq_false hk3] at t0 t0'
  clear hk3
  go_enter Tryz.func130,Tryz.ntmps130
  go_wp2_with fail
  refine(HSL _).out.mono ?_
  rintro e w' ⟨rfl,rfl⟩
  go_wp2_with fail
  refine(HNS _ (by first|rfl|omega) w.heap.size _ (heap_alloc_new w _)).out.mono ?_
  rintro e w' ⟨rfl,rfl⟩
  first
   |have HF1:=Hd ((Fr.refl (fun _=>False) w).alloc (.cells #[.int .i64 (k:Int)] 3))
   |have HF1:=Hd ((Fr.refl (fun _=>False) w).alloc (.cells #[.int .i64 3] 3))
  generalize World.alloc w _=w1 at*
  go_wp2_with fail
  refine(HT _).out.mono ?_
  rintro e w2 ⟨v2,rfl,hf2,hb2⟩
  obtain⟨p2,cap2,rfl⟩:=hb2.slice
  have HB2:=Hd (BL.older hb2 HF1.out.size)
  have HF2:=Hd (HF1.out.trans hf2)
  rw[HTL.out] at HB2 ⊢
  clear hf2 hb2
  go_wp2_with fail
  refine(HRG _).out.mono ?_
  rintro e w' ⟨rfl,rfl⟩
  by_cases h4:s<4
  ·have u1:decide ((s:Int)<4)=true:=decide_eq_true (by omega)
   have hLL:L=T:=by rw[HL.out,if_pos (hz1.2 h4),List.append_nil]
   have HLL:=Hd hLL
   clear HL hLL
   go_wp2_with fail
   go_ret
   exact⟨_,rfl,HF2.out,by rw[HLL.out];exact HB2.out⟩
  have u1:decide ((s:Int)<4)=false:=decide_eq_false (by omega)
  have hb0:¬bits=0:=fun e=>h4 (hz1.1 e)
  by_cases h14:s<14
  ·have u2:decide ((s:Int)<14)=true:=decide_eq_true (by omega)
   have hLL:L=T++treeNb true (nRest s) bits r bits 1:=by rw[HL.out,if_neg hb0,if_pos h14]
   have HLL:=Hd hLL
   have HNR:=fun(B:Nat)(W:World)(hB:W.heap[B]? =some (.cells #[.int .i64 s] 3 (0,0)))=>Hd (name_calls sRest s B (by decide) (by omega) W hB)
   have hbb:bits≤16:=by have:=r5 (by omega) h14;omega
   have HTB:=fun(z:Int)(hz:z=(r:Int))(W:World)=>Hd (show Calls Tryz.prog 187 #[bstr (num sRest s),.int .i64 bits,.int .i64 z] W (fun e w'=>∃v,e=.returned v∧Fr (fun _=>False) W w'∧BL W w' v (treeNb true (nRest s) bits r bits 1)) from by rw[hz];exact rback_calls (nRest s) bits r hbb (by omega) W)
   clear HL hLL hz1
   go_wp2_with fail
   refine(HNR w2.heap.size _ (heap_alloc_new w2 _)).out.mono ?_
   rintro e w' ⟨rfl,rfl⟩
   have HB2:=Hd (HB2.out.keep ((Fr.refl (fun _=>False) w2).alloc (.cells #[.int .i64 s] 3)))
   have HF2:=Hd (HF2.out.alloc (.cells #[.int .i64 s] 3))
   generalize World.alloc w2 _=w2 at*
   go_wp2_with fail
   refine(HTB _ (by omega) _).out.mono ?_
   rintro e w3 ⟨v3,rfl,hf3,hb3⟩
   obtain⟨p3,cap3,rfl⟩:=hb3.slice
   have HB3:=Hd (BL.older hb3 HF2.out.size)
   have HB2:=Hd (HB2.out.keep hf3)
   have HF3:=Hd (HF2.out.trans hf3)
   have hl3:(treeNb true (nRest s) bits r bits 1).length=bits:=treeNb_len ..
   clear hf3 hb3
   rw[hl3] at HB3 ⊢
   go_wp2_with (at_builtin;refine append_bits rfl _ _ rfl (w0:=w) (.slice p2 6 cap2) (.slice p3 bits cap3) T (treeNb true (nRest s) bits r bits 1) rfl rfl HB2.out HB3.out HF3.out.size (by rw[hl3,HTL.out];omega) ?_;intro p4 cap4 n4 w4 hn4 hb4 hf4;have HB4:=Hd hb4;have HF4:=Hd hf4;clear hb4 hf4 hn4)
   go_ret
   exact⟨_,rfl,HF3.out.trans' HF4.out (fun i h1 h2=>by have:=HB2.out.new i h2;omega),by rw[HLL.out];exact HB4.out⟩
  ·have u2:decide ((s:Int)<14)=false:=decide_eq_false (by omega)
   have hLL:L=T++(halvesNb (r/16) (bits-4)++treeNb true nAlign 4 (r%16) 4 1):=by rw[HL.out,if_neg hb0,if_neg h14]
   have HLL:=Hd hLL
   have hb4:4≤bits:=by have:=r4 (by omega);omega
   obtain⟨x,hx⟩:∃x,x=r/16:=⟨_,rfl⟩
   have ex:(r:Int)/16=(x:Int):=by rw[hx];rfl
   have hxb:x<67108864:=by omega
   rw[←hx] at HLL
   have em:(r:Int).tmod 16=((r%16:Nat):Int):=by rw[Int.tmod_eq_emod_of_nonneg (Int.natCast_nonneg _)];rfl
   have HTB:=fun(z:Int)(hz:z=((r%16:Nat):Int))(W:World)=>Hd (show Calls Tryz.prog 187 #[bstr sAlign,.int .i64 4,.int .i64 z] W (fun e w'=>∃v,e=.returned v∧Fr (fun _=>False) W w'∧BL W w' v (treeNb true nAlign 4 (r%16) 4 1)) from by rw[hz];exact rback_calls nAlign 4 (r%16) (by decide) (by omega) W)
   have hsA:sAlign=[65,108,105,103,110]:=rfl
   rw[hsA] at HTB
   clear HL hLL hz1 hsA hx
   obtain⟨m,hm⟩:∃m,m=bits-4:=⟨_,rfl⟩
   rw[←hm] at HLL
   have hm30:m≤30:=by omega
   go_wp2_with fail
   go_loopw [8,13] (fun lv i wr=>∃(f:Nat)(z:Int)(l:List Nb)(p:Option Addr)(cap:Nat),f≤m∧z=(f:Int)-1∧i=.int .i64 z∧lv=.slice p l.length cap∧l.length+f=6+m∧BL w wr (.slice p l.length cap) l∧l++halvesNb x f=T++halvesNb x m∧Fr (fun _=>False) w wr) (fun _ i _=>(intOf i+1).toNat)
   case atStart=>exact⟨m,_,T,p2,cap2,Nat.le_refl _,rfl,by go_num,by rw[HTL.out],by rw[HTL.out],by rw[HTL.out];exact HB2.out,rfl,HF2.out⟩
   case round=>
    obtain⟨f,z,l,p,cap,hf,hz,rfl,rfl,hl,hbl,he,hfr⟩:=hrel
    have HBL:=Hd hbl
    have HE:=Hd he
    have HF:=Hd hfr
    have HLN:=Hd hl
    clear hbl he hfr HB2 HF2
    cases f with
    |zero=>
      obtain rfl:z=-1:=by omega
      have hl6:l.length≤36:=by omega
      clear hz hl
      go_wp2_with fail
      refine(HTB _ (by first|exact em|omega) _).out.mono ?_
      rintro e w3 ⟨v3,rfl,hf3,hb3⟩
      obtain⟨p3,cap3,rfl⟩:=hb3.slice
      have HB3:=Hd (BL.older hb3 HF.out.size)
      have HBL:=Hd (HBL.out.keep hf3)
      have HF3:=Hd (HF.out.trans hf3)
      have hl3:(treeNb true nAlign 4 (r%16) 4 1).length=4:=treeNb_len ..
      clear hf3 hb3
      rw[hl3] at HB3 ⊢
      go_wp2_with (at_builtin;refine append_bits rfl _ _ rfl (w0:=w) (.slice p l.length cap) (.slice p3 4 cap3) l (treeNb true nAlign 4 (r%16) 4 1) rfl rfl HBL.out HB3.out HF3.out.size (by rw[hl3];omega) ?_;intro p4 cap4 n4 w4 hn4 hb4 hf4;have HB4:=Hd hb4;have HF4:=Hd hf4;clear hb4 hf4 hn4)
      go_ret
      refine⟨_,rfl,HF3.out.trans' HF4.out (fun i h1 h2=>by have:=HBL.out.new i h2;omega),?_⟩
      have he:=HE.out
      rw[halvesNb,List.append_nil] at he
      rw[HLL.out,←List.append_assoc,←he]
      exact HB4.out
    |succ f=>
      obtain rfl:z=(f:Int):=by omega
      have HTW:=Hd (two_calls f (by omega) wr)
      have d1:decide ((f:Int)≥0)=true:=decide_eq_true (by omega)
      have d2:decide ((0:Int)≤(f:Int))=true:=decide_eq_true (by omega)
      obtain⟨y,hy⟩:∃y,y=x/2^f:=⟨_,rfl⟩
      obtain⟨b,hb⟩:∃b,b=y%2:=⟨_,rfl⟩
      have HST:=Hd (show halvesNb x (f+1)=.half b::halvesNb x f by rw[halvesNb,←hy,←hb])
      have hye:=div_fact hy (show x≤1099511627776 by omega)
      have hyx:=hye.1
      have e1:=hye.2
      have HY:=Hd hy
      clear hy hye
      have e2:(y:Int).tmod 2=(b:Int):=by rw[(half_facts hyx).2.2.2,←hb]
      have hb1:b≤1:=by rw[hb];exact Nat.le_of_lt_succ (Nat.mod_lt _ (by decide))
      have hll:l.length≤36:=by omega
      clear hz hb hl
      have hq0:=Nat.two_pow_pos f
      generalize 2^f=q at*
      go_wp2_with fail
      refine HTW.out.mono ?_
      rintro e w1 ⟨rfl,rfl⟩
      have HX:=Hd (heap_alloc_new wr (.cells #[bstr [],.int .i64 0,.int .i64 b] 156))
      have HAL:=Hd ((Fr.refl (fun _=>False) wr).alloc (.cells #[bstr [],.int .i64 0,.int .i64 b] 156))
      have HB1:=Hd (BL.made (w0:=w) (l:=[.half b]) (n:=1) HX.out rfl HF.out.size (by simp))
      have HBK:=Hd (HBL.out.keep HAL.out)
      go_wp2_with (at_builtin;refine append_bits rfl _ _ rfl (w0:=w) (.slice p l.length cap) (.slice (some ⟨wr.heap.size,0,none⟩) 1 1) l [.half b] rfl rfl HBK.out HB1.out (Nat.le_trans HF.out.size HAL.out.size) (by simp only[List.length_singleton];omega) ?_;intro p2 cap2 n2 w2 hn2 hb2 hf2;have HB2:=Hd hb2;have HF2:=Hd hf2;have HN2:=Hd hn2;clear hb2 hf2 hn2)
      go_roundw
      case rel=>
       exact⟨f,(f:Int)-1,l++[.half b],p2,cap2,by omega,rfl,by go_num,by rw[HN2.out],by rw[List.length_append,List.length_singleton];have:=HLN.out;omega,by rw[←HN2.out];exact HB2.out,by rw[←HE.out,HST.out,List.append_assoc];rfl,(HF.out.trans HAL.out).trans' HF2.out (fun i h1 h2=>by have:=HBL.out.new i h2;omega)⟩
      case measure=>simp[intOf]
end Rf
namespace Rf
open Mem Rc Prob St Lz Win En Ga
theorem quiet_more14{P:Program}{f:FuncId}{args:Array Value}{w:World}{n:Nat}{v:Value}
 (h:Calls P f args (w.drewN n) fun e w'=>e=.returned v∧∃m,w'=(w.drewN n).drewN m):Calls P f args (w.drewN n) fun e w''=>e=.returned v∧∃m,w''=w.drewN m:=
 h.mono fun _ _ ⟨he,m,hm⟩=>⟨he,n+m,by rw[hm,World.drewN_drewN]⟩
theorem beq_nat(x y:Nat):((x:Int)==(y:Int))=decide (x=y):=by rw[Bool.eq_iff_iff];simp;omega
theorem matNb_len(u:Nat)(a:Nm)(b:Nat):∀k m same,(matNb u a b k m same).length=k
 |0,_,_=>rfl
 |k+1,m,same=>by rw[matNb,List.length_cons,matNb_len u a b k]
set_option maxRecDepth 100000 in
theorem literal14_calls{l:RL}{c:C}{ps:Nat→List Nat}{w:World}(h:Cod w l c ps)(b:Nat)(hb:b<256):
 Calls Tryz.prog 128 #[ptr l.K,.int .i64 b] w fun e w'=>∃v,e=.returned v∧Fr (fun _=>False) w w'∧BL w w' v (litNb c b):=by
 have HN:=Hd (literal_name h)
 have H:=Hd h
 have hu:=lastB_lt c c.s.r0
 obtain⟨L,hL⟩:∃L,L=litNb c b:=⟨_,rfl⟩
 rw[←hL]
 unfold litNb at hL
 have HL:=Hd hL
 clear hL h
 go_enter Tryz.func128,Tryz.ntmps128
 go_wp2_with fail
 refine HN.out.mono ?_
 rintro e w1 ⟨rfl,hf1⟩
 have hA1:=H.out.keep hf1
 have HLS:=fun n=>Hd (rlast_calls (hA1.keep ((Fr.refl (fun _=>False) w1).drewN n)) c.s.r0)
 obtain⟨p0,p1,p2,p3,p4,p5,p6,p7,p8,p9,v0,v1⟩:=hA1.cells
 have HF1:=Hd hf1
 clear hf1 hA1 HN H
 obtain⟨a,ha⟩:∃a,a=nLiteral (C.lit c):=⟨_,rfl⟩
 have hs:num sLiteral (C.lit c)=a.str:=by rw[ha];rfl
 rw[hs]
 rw[←ha] at HL
 clear ha hs
 by_cases h7:c.s.num<7
 ·have t7:decide ((c.s.num:Int)<7)=true:=decide_eq_true (by omega)
  have hLL:L=treeNb false a 8 b 8 1:=by rw[HL.out,if_pos h7]
  have HT:=fun W=>Hd (rtree_calls a 8 b (by decide) (by omega) W)
  rw[←hLL] at HT
  clear HL hLL
  go_wp2_with fail
  refine(HT _).out.mono ?_
  rintro e w2 ⟨v2,rfl,hf2,hb2⟩
  have HB2:=Hd (BL.older hb2 HF1.out.size)
  have HF2:=Hd (HF1.out.trans hf2)
  clear hf2 hb2
  go_wp2_with fail
  go_ret
  exact⟨_,rfl,HF2.out,HB2.out⟩
 ·have t7:decide ((c.s.num:Int)<7)=false:=decide_eq_false (by omega)
  have hLL:L=matNb (c.lastB c.s.r0) a b 8 1 true:=by rw[HL.out,if_neg h7]
  have HLL:=Hd hLL
  have hub:(Win.last c.size c.all c.s.r0).1=c.lastB c.s.r0:=rfl
  simp only[hub] at HLS
  clear HL hLL h7
  go_wp2_with fail
  go_quiet (with_reducible exact quiet_more14 (HLS _).out)
  go_wp2_with fail
  have HF2:=Hd (HF1.out.drewN nq)
  clear HLS HF1 p0 p1 p2 p3 p4 p5 p6 p7 p8 p9 v0 v1
  generalize w1.drewN nq=w2 at*
  try rw[hub]
  clear hub
  generalize c.lastB c.s.r0=u at*
  go_loopw [8,9,10,11] (fun lv mv al i wr=>∃(k m:Nat)(z:Int)(same:Bool)(L':List Nb)(p:Option Addr)(cap:Nat),k≤8∧z=(k:Int)-1∧i=.int .i64 z∧mv=.int .i64 m∧al=.bool same∧m<2^(8-k+1)∧lv=.slice p L'.length cap∧L'.length+k=8∧BL w wr (.slice p L'.length cap) L'∧L'++matNb u a b k m same=matNb u a b 8 1 true∧Fr (fun _=>False) w wr) (fun _ _ _ i _=>(intOf i+1).toNat)
  case atStart=>exact⟨8,1,_,true,[],none,0,by omega,rfl,by go_num,rfl,rfl,by decide,rfl,rfl,BL.nil _ _,rfl,HF2.out⟩
  case round=>
   obtain⟨k,m,z,same,L',p,cap,hk,hz,rfl,rfl,rfl,hm,rfl,hl,hbl,he,hfr⟩:=hrel
   have HBL:=Hd hbl
   have HE:=Hd he
   have HF:=Hd hfr
   have HLN:=Hd hl
   have hm2:m<512:=Nat.lt_of_lt_of_le hm (Nat.le_trans (Nat.pow_le_pow_right (by decide) (show _≤9 by omega)) (by decide))
   clear hbl he hfr
   cases k with
   |zero=>
     obtain rfl:z=-1:=by omega
     clear hz hl hm hm2
     go_wp2_with fail
     go_ret
     refine⟨_,rfl,HF.out,?_⟩
     have he:=HE.out
     rw[matNb,List.append_nil] at he
     rw[HLL.out,←he]
     exact HBL.out
   |succ k=>
     obtain rfl:z=(k:Int):=by omega
     have HTW:=fun W=>Hd (two_calls k (by omega) W)
     have d1:decide ((k:Int)≥0)=true:=decide_eq_true (by omega)
     have d2:decide ((0:Int)≤(k:Int))=true:=decide_eq_true (by omega)
     obtain⟨y,hy⟩:∃y,y=b/2^k:=⟨_,rfl⟩
     obtain⟨x,hx⟩:∃x,x=u/2^k:=⟨_,rfl⟩
     obtain⟨bb,hbb⟩:∃bb,bb=y%2:=⟨_,rfl⟩
     obtain⟨uu,huu⟩:∃uu,uu=x%2:=⟨_,rfl⟩
     have HST:=Hd (show matNb u a b (k+1) m same=.bit a (m+if same then 256*(1+uu) else 0) bb::matNb u a b k (2*m+bb) (same&&decide (bb=uu)) by rw[matNb,←hy,←hx,←hbb,←huu])
     have hye:=div_fact hy (show b≤1099511627776 by omega)
     have hxe:=div_fact hx (show u≤1099511627776 by omega)
     have e1:=hye.2
     have e2:=hxe.2
     have e3:(y:Int).tmod 2=(bb:Int):=by rw[(half_facts hye.1).2.2.2,←hbb]
     have e4:(x:Int).tmod 2=(uu:Int):=by rw[(half_facts hxe.1).2.2.2,←huu]
     have hb1:bb≤1:=by rw[hbb];exact Nat.le_of_lt_succ (Nat.mod_lt _ (by decide))
     have hu1:uu≤1:=by rw[huu];exact Nat.le_of_lt_succ (Nat.mod_lt _ (by decide))
     have HM3:=Hd (show 2*m+bb<2^(8-k+1) by rw[show 8-k+1=8-(k+1)+1+1 by omega];exact twice_lt hm hb1)
     have hll:L'.length≤8:=by omega
     have hbe:((bb:Int)==(uu:Int))=decide (bb=uu):=beq_nat bb uu
     clear hz hm hl hy hx hbb huu hye hxe
     have hq0:=Nat.two_pow_pos k
     generalize 2^k=q at*
     cases same
     all_goals
      go_wp2_with fail
      refine(HTW _).out.mono ?_
      rintro e w' ⟨rfl,rfl⟩
      go_wp2_with fail
      refine(HTW _).out.mono ?_
      rintro e w' ⟨rfl,rfl⟩
     ·have HST2:=Hd (show matNb u a b (k+1) m false=.bit a m bb::matNb u a b k (2*m+bb) false from HST.out)
      have HAL:=Hd ((Fr.refl (fun _=>False) wr).alloc (.cells #[bstr a.str,.int .i64 m,.int .i64 bb] 156))
      have HB1:=Hd (BL.made (w0:=w) (l:=[.bit a m bb]) (n:=1) (heap_alloc_new wr (.cells #[bstr a.str,.int .i64 m,.int .i64 bb] 156)) rfl HF.out.size (by simp))
      have HBK:=Hd (HBL.out.keep HAL.out)
      go_wp2_with (at_builtin;refine append_bits rfl _ _ rfl (w0:=w) (.slice p L'.length cap) (.slice (some ⟨wr.heap.size,0,none⟩) 1 1) L' [.bit a m bb] rfl rfl HBK.out HB1.out (Nat.le_trans HF.out.size HAL.out.size) (by simp only[List.length_singleton];omega) ?_;intro p2 cap2 n2 w2 hn2 hb2 hf2;have HB2:=Hd hb2;have HF2:=Hd hf2;have HN2:=Hd hn2;clear hb2 hf2 hn2)
      go_roundw
      case rel=>
       exact⟨k,2*m+bb,(k:Int)-1,false,L'++[.bit a m bb],p2,cap2,by omega,rfl,by go_num,by go_num,rfl,HM3.out,by rw[HN2.out],by rw[List.length_append,List.length_singleton];have:=HLN.out;omega,by rw[←HN2.out];exact HB2.out,by rw[←HE.out,HST2.out,List.append_assoc];rfl,(HF.out.trans HAL.out).trans' HF2.out (fun i h1 h2=>by have:=HBL.out.new i h2;omega)⟩
      case measure=>simp[intOf]
     ·obtain⟨t,ht⟩:∃t,t=m+256*(1+uu):=⟨_,rfl⟩
      have et:(256:Int)*(1+(uu:Int))+(m:Int)=(t:Int):=by omega
      have HST2:=Hd (show matNb u a b (k+1) m true=.bit a t bb::matNb u a b k (2*m+bb) (decide (bb=uu)) from by rw[ht];exact HST.out)
      clear ht
      have HAL:=Hd ((Fr.refl (fun _=>False) wr).alloc (.cells #[bstr a.str,.int .i64 t,.int .i64 bb] 156))
      have HB1:=Hd (BL.made (w0:=w) (l:=[.bit a t bb]) (n:=1) (heap_alloc_new wr (.cells #[bstr a.str,.int .i64 t,.int .i64 bb] 156)) rfl HF.out.size (by simp))
      have HBK:=Hd (HBL.out.keep HAL.out)
      go_wp2_with (at_builtin;refine append_bits rfl _ _ rfl (w0:=w) (.slice p L'.length cap) (.slice (some ⟨wr.heap.size,0,none⟩) 1 1) L' [.bit a t bb] rfl rfl HBK.out HB1.out (Nat.le_trans HF.out.size HAL.out.size) (by simp only[List.length_singleton];omega) ?_;intro p2 cap2 n2 w2 hn2 hb2 hf2;have HB2:=Hd hb2;have HF2:=Hd hf2;have HN2:=Hd hn2;clear hb2 hf2 hn2)
      go_roundw
      case rel=>
       exact⟨k,2*m+bb,(k:Int)-1,decide (bb=uu),L'++[.bit a t bb],p2,cap2,by omega,rfl,by go_num,by go_num,rfl,HM3.out,by rw[HN2.out],by rw[List.length_append,List.length_singleton];have:=HLN.out;omega,by rw[←HN2.out];exact HB2.out,by rw[←HE.out,HST2.out,List.append_assoc];rfl,(HF.out.trans HAL.out).trans' HF2.out (fun i h1 h2=>by have:=HBL.out.new i h2;omega)⟩
      case measure=>simp[intOf]
end Rf
end Go.Proofs.YtlgccpjccopdmaaGreatDoor
