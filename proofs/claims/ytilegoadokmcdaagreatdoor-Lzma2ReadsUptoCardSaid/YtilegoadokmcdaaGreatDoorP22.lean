/- Part 22 of 53: lemmas of the last part, each under the conditions that it names. -/
import Derived.LoopN
import Derived.Test.YtilegoadokmcdaaGreatDoorP03
import Derived.Test.YtilegoadokmcdaaGreatDoorP17
import Derived.Test.YtilegoadokmcdaaGreatDoorP20
import Derived.Test.YtilegoadokmcdaaGreatDoorP21
set_option linter.unusedVariables false
set_option linter.unusedSimpArgs false
set_option maxRecDepth 1500
set_option maxHeartbeats 4000000
namespace Go.Proofs.YtilegoadokmcdaaGreatDoor
open Go.RowKit
namespace Lz
open Mem Rc St Win
def TakePost(l:L)(c:C)(ps:Nat→List Nat)(xs:List UInt8)(n:Nat)(w:World)(e:Ending)(w':World):Prop:=
 Fr l.F w w'∧match takeAll c ps xs n with
  |none=>∃lv pv,e=.returned (.tuple #[lv,pv,.int .i64 2])
  |some (ls,outs,c2,ps2)=>∃lv pv,e=.returned (.tuple #[lv,pv,.int .i64 0])∧∃l',Nx w l l'∧Dec w' l' c2 ps2 false∧Mine w w' pv outs∧Syms w w' lv ls∧(∀k,pv.ownBlock=some k→¬l'.F k)∧(∀k,lv.ownBlock=some k→¬l'.F k)
theorem take_calls{l:L}{c:C}{ps:Nat→List Nat}{w:World}(h:Dec w l c ps false)(v:Value)(xs:List UInt8)(hr:Rd w v xs)(hxl:xs.length≤1099511627776)(n:Nat)(hn1:1≤n)(hn:n≤2097152)(hm:c.all.length+n≤1152921504606840000)(hT:Tabs w)(hF:∀k,l.F k→5≤k):
 Calls Tryz.prog 29 #[ptr l.D,v,.int .i64 n] w (TakePost l c ps xs n w):=by
 have HAC:=Hd (all_calls h v xs hr hxl n hn hm hT hF)
 have hd:w.cell? ⟨l.D,2,none⟩=some (.bool false):=cell_in h.d rfl
 have HD:=Hd h.d
 clear h hr hT hF
 unfold AllPost at HAC
 unfold TakePost
 cases ht:takeAll c ps xs n with
 |none=>
   rw[ht] at HAC
   simp only at HAC
   clear ht
   go_enter Tryz.func29,Tryz.ntmps29
   go_wp2_with fail
   refine HAC.out.mono ?_
   rintro e w1 ⟨lv,pv,ok,rfl,hfr,hdd,rfl⟩
   rw[HD.out] at hdd
   have z0:w1.cell? ⟨l.D,2,none⟩=some (.bool false):=cell_in hdd rfl
   have zf:=frozen_in hdd 2
   have HF:=Hd hfr
   clear hfr hdd
   go_wp2_with fail
   go_ret3
   exact⟨Fr.setCell HF.out (.inl (.inl rfl)) _,_,_,rfl⟩
 |some r=>
   obtain⟨ls,outs,c2,ps2⟩:=r
   rw[ht] at HAC
   simp only at HAC
   clear ht
   go_enter Tryz.func29,Tryz.ntmps29
   go_wp2_with fail
   refine HAC.out.mono ?_
   rintro e w1 ⟨lv,pv,ok,rfl,hfr,hdd,rfl,hrest⟩
   have HF:=Hd hfr
   have HR:=Hd hrest
   clear hfr hdd hrest
   go_wp2_with fail
   go_ret3
   exact⟨HF.out,_,_,rfl,HR.out⟩
end Lz
namespace Ck
open Mem Wire
def rowV(bv:Value)(at' plain:Nat)(packed size:Int)(Ob:Nat):Array Value:=#[bv,.int .i64 at',.int .i64 plain,.int .i64 packed,.int .i64 size,.pointer (some ⟨Ob,0,none⟩)]
def RowAt(w:World)(Rb:Nat)(bv:Value)(at' plain:Nat)(packed size:Int)(Ob:Nat):Prop:=w.heap[Rb]? =some (.cells (rowV bv at' plain packed size Ob) 104 (0,0))
def ends(packed size:Int)(at' plain:Nat):Bool:=decide ((packed<0∨packed=(at':Int)+1)∧(size<0∨size=(plain:Int)))
set_option maxRecDepth 100000 in
theorem ends_calls(Rb Ob at' plain:Nat)(bv:Value)(packed size:Int)(w:World)(h:RowAt w Rb bv at' plain packed size Ob)(ha:at'≤1099511627776)(q:Bool)(hq:ends packed size at' plain=q):
 Calls Tryz.prog 71 #[.pointer (some ⟨Rb,0,none⟩)] w fun e w'=>e=.returned (.bool q)∧∃m,w'=w.drewN m:=by
 have c1:w.cell? ⟨Rb,1,none⟩=some (.int .i64 at'):=cell_in h rfl
 have c2:w.cell? ⟨Rb,2,none⟩=some (.int .i64 plain):=cell_in h rfl
 have c3:w.cell? ⟨Rb,3,none⟩=some (.int .i64 packed):=cell_in h rfl
 have c4:w.cell? ⟨Rb,4,none⟩=some (.int .i64 size):=cell_in h rfl
 clear h
 unfold ends at hq
 obtain⟨a1,ha1⟩:∃a1:Int,a1=(at':Int)+1:=⟨_,rfl⟩
 have hw:IntKind.i64.wrap ((at':Int)+1)=a1:=by rw[IntWalk.i64_in _ (by omega)];exact ha1.symm
 have hw2:(at':Int)+1=a1:=ha1.symm
 rw[←ha1] at hq
 have HQ:=Hd hq
 clear hq ha1
 by_cases h1:packed<0
 ·have e1:decide (packed<0)=true:=by simp[h1]
  have H1:=Hd h1
  clear h1
  by_cases h2:size<0
  ·have e2:decide (size<0)=true:=by simp[h2]
   have H2:=Hd h2
   clear h2
   go_enter Tryz.func71,Tryz.ntmps71
   go_wp2_with fail
   go_quiet (fail)
   go_wp2_with fail
   go_ret
   exact⟨ret_bool (by rw[←HQ.out];simp[H1.out,H2.out]),_,rfl⟩
  ·have e2:decide (size<0)=false:=by simp;omega
   have H2:=Hd h2
   clear h2
   by_cases h3:size=plain
   ·have e3:(size==(plain:Int))=true:=by simp[h3]
    have H3:=Hd h3
    clear h3
    go_enter Tryz.func71,Tryz.ntmps71
    go_wp2_with fail
    go_quiet (fail)
    go_wp2_with fail
    go_ret
    exact⟨ret_bool (by rw[←HQ.out];simp[H1.out,H2.out,H3.out]),_,rfl⟩
   ·have e3:(size==(plain:Int))=false:=by simp[h3]
    have H3:=Hd h3
    clear h3
    go_enter Tryz.func71,Tryz.ntmps71
    go_wp2_with fail
    go_quiet (fail)
    go_wp2_with fail
    go_ret
    exact⟨ret_bool (by rw[←HQ.out];simp[H1.out,H2.out,H3.out]),_,rfl⟩
 ·have e1:decide (packed<0)=false:=by simp;omega
  have H1:=Hd h1
  clear h1
  by_cases h4:packed=a1
  ·have e4:(packed==a1)=true:=by simp[h4]
   have H4:=Hd h4
   clear h4
   by_cases h2:size<0
   ·have e2:decide (size<0)=true:=by simp[h2]
    have H2:=Hd h2
    clear h2
    go_enter Tryz.func71,Tryz.ntmps71
    go_wp2_with fail
    go_quiet (fail)
    go_wp2_with fail
    go_ret
    exact⟨ret_bool (by rw[←HQ.out];simp[H1.out,H4.out,H2.out]),_,rfl⟩
   ·have e2:decide (size<0)=false:=by simp;omega
    have H2:=Hd h2
    clear h2
    by_cases h3:size=plain
    ·have e3:(size==(plain:Int))=true:=by simp[h3]
     have H3:=Hd h3
     clear h3
     go_enter Tryz.func71,Tryz.ntmps71
     go_wp2_with fail
     go_quiet (fail)
     go_wp2_with fail
     go_ret
     exact⟨ret_bool (by rw[←HQ.out];simp[H1.out,H4.out,H2.out,H3.out]),_,rfl⟩
    ·have e3:(size==(plain:Int))=false:=by simp[h3]
     have H3:=Hd h3
     clear h3
     go_enter Tryz.func71,Tryz.ntmps71
     go_wp2_with fail
     go_quiet (fail)
     go_wp2_with fail
     go_ret
     exact⟨ret_bool (by rw[←HQ.out];simp[H1.out,H4.out,H2.out,H3.out]),_,rfl⟩
  ·have e4:(packed==a1)=false:=by simp[h4]
   have H4:=Hd h4
   clear h4
   go_enter Tryz.func71,Tryz.ntmps71
   go_wp2_with fail
   go_quiet (fail)
   go_wp2_with fail
   go_ret
   exact⟨ret_bool (by rw[←HQ.out];simp[H4.out];intro h;have:=H1.out;omega),_,rfl⟩
structure Sr where
 at':Nat
 plain:Nat
 now:Nat
def nextP(b:List UInt8)(packed size:Int)(s:Sr):Except (Nat×Nat) (Head×List UInt8×Nat×Sr):=
 if beyond packed (s.at'+1) then .error (s.at',2)
 else if s.at'=b.length then .error (s.at',1)
 else match kindOf (b.getD s.at' 0).toNat with
  |none=>.error (s.at',2)
  |some k=>
    if move s.now k=4 then .error (s.at',2)
    else if k=0∧ends packed size s.at' s.plain=false then .error (s.at',2)
    else if(get ((b.drop s.at').take 6)).2.2≠0 then .error (s.at',(get ((b.drop s.at').take 6)).2.2)
    else if beyond packed (s.at'+(get ((b.drop s.at').take 6)).2.1+(get ((b.drop s.at').take 6)).1.packed)=true∨beyond size (s.plain+(get ((b.drop s.at').take 6)).1.size)=true then .error (s.at',2)
    else if b.length-(s.at'+(get ((b.drop s.at').take 6)).2.1)<(get ((b.drop s.at').take 6)).1.packed then .error (s.at'+(get ((b.drop s.at').take 6)).2.1,1)
    else .ok ((get ((b.drop s.at').take 6)).1,(b.drop (s.at'+(get ((b.drop s.at').take 6)).2.1)).take (get ((b.drop s.at').take 6)).1.packed,s.at'+(get ((b.drop s.at').take 6)).2.1,
     ⟨s.at'+(get ((b.drop s.at').take 6)).2.1+(get ((b.drop s.at').take 6)).1.packed,s.plain+(get ((b.drop s.at').take 6)).1.size,move s.now k⟩)
theorem kindOf_lt{x k:Nat}(hx:x<256)(h:kindOf x=some k):k<7:=by
 unfold kindOf at h
 split at h
 ·have:=Option.some.inj h
  omega
 ·split at h
  ·cases h
  ·have:=Option.some.inj h
   omega
theorem get_le_len(xs:List UInt8)(h:(get xs).2.2=0):(get xs).2.1≤xs.length:=by
 unfold get at*
 simp only at*
 by_cases h0:xs.length=0
 ·rw[if_pos h0] at h
  simp at h
 rw[if_neg h0] at h ⊢
 by_cases h1:(xs.getD 0 0).toNat=0
 ·rw[if_pos h1]
  simp only
  omega
 rw[if_neg h1] at h ⊢
 by_cases h2:(xs.getD 0 0).toNat≤2
 ·rw[if_pos h2] at h ⊢
  by_cases h3:xs.length<3
  ·rw[if_pos h3] at h
   simp at h
  ·rw[if_neg h3]
   simp only
   omega
 rw[if_neg h2] at h ⊢
 by_cases h3:(xs.getD 0 0).toNat<128
 ·rw[if_pos h3] at h
  simp at h
 rw[if_neg h3] at h ⊢
 by_cases h4:xs.length<5
 ·rw[if_pos h4] at h
  simp at h
 rw[if_neg h4] at h ⊢
 by_cases h5:((xs.getD 0 0).toNat-128)/32<2
 ·rw[if_pos h5]
  simp only
  omega
 rw[if_neg h5] at h ⊢
 by_cases h6:xs.length<6
 ·rw[if_pos h6] at h
  simp at h
 rw[if_neg h6] at h ⊢
 by_cases h7:St.bytePropsOk (xs.getD 5 0).toNat=true
 ·rw[if_pos h7]
  simp only
  omega
 ·rw[if_neg h7] at h
  simp at h
theorem get_small(xs:List UInt8):(get xs).1.size≤2097152∧(get xs).1.packed≤65536∧(get xs).1.kind≤6∧(get xs).2.2≤2∧(get xs).1.lc+(get xs).1.lp≤4∧(get xs).1.pb≤4:=by
 have hb1:=beV2_lt (xs.drop 1)
 have hb3:=beV2_lt (xs.drop 3)
 have hx:=UInt8.toNat_lt (xs.getD 0 0)
 have hm:(xs.getD 0 0).toNat%32<32:=Nat.mod_lt _ (by omega)
 unfold get Head.none
 simp only
 generalize beV (xs.drop 1) 2=n1 at*
 generalize beV (xs.drop 3) 2=n3 at*
 split
 ·simp
 ·split
  ·simp
  ·split
   ·split
    ·simp
    ·simp only;omega
   ·split
    ·simp
    ·split
     ·simp
     ·split
      ·simp only;omega
      ·split
       ·simp
       ·split
        ·rename_i h
         unfold St.bytePropsOk at h
         have h:=of_decide_eq_true h
         simp only
         omega
        ·simp
end Ck
namespace Ck
open Mem Wire Win
def OutAt(w:World)(Vb:Nat)(v:Value):Prop:=w.heap[Vb]? =some (.cells #[v] 22 (0,0))
theorem decode1_calls(Vb:Nat)(ov pv lv:Value)(h:Head)(out plain:List UInt8)(w0 w:World)(hV:OutAt w Vb ov)(hM:Mine w0 w ov out)(h0:w0.heap.size≤w.heap.size)(hr:Rd w pv plain)(hb:out.length+plain.length≤70368744177664):
    Calls Tryz.prog 17 #[.agg h.cells,lv,pv,Lz.ptr Vb] w fun e w'=>e=.returned (.tuple #[])∧∃ov',OutAt w' Vb ov'∧Mine w0 w' ov' (out++plain)∧Fr (fun k=>k=Vb∨ov.ownBlock=some k) w w'∧(∀k,ov'.ownBlock=some k→ov.ownBlock=some k∨w.heap.size≤k):=by
  have hf:=(Fr.refl (fun _=>False) w).alloc (.cells h.cells 52)
  have hV1:=hf.keep hV (fun h=>h)
  have c0:=cell_in (i:=0) hV1 rfl
  have hoff:∀k,ov.ownBlock=some k→k≠Vb:=by
    intro k hk e
    obtain⟨cur,hc⟩:=Lz.own_block hM.own hk
    rw[e,hV] at hc
    simp at hc
  have HV1:=Hd hV1
  have HM:=Hd (hM.keep hf)
  have HR:=Hd (hr.keep hf)
  have HF:=Hd hf
  have HOFF:=Hd hoff
  obtain⟨ph,capv,hov⟩:=hM.slice
  subst hov
  unfold Head.cells at*
  clear hV hM hr hf hV1 hoff
  go_enter Tryz.func17,Tryz.ntmps17
  go_wp2_with (at_builtin
               refine append_mine rfl _ _ rfl (w0:=w0) (.slice ph out.length capv) pv out plain rfl rfl HM.out (Nat.le_trans h0 HF.out.size) HR.out hb ?_
               intro p5 cap5 n5 w5 hn5 hM5 hfr5 hnew5
               have hV5:=hfr5.keep HV1.out (fun(e:(Value.slice ph out.length capv).ownBlock=some Vb)=>HOFF.out _ e rfl)
               have d0:=cell_in (i:=0) hV5 rfl
               have df:=fun i=>frozen_in hV5 i
               have HV5:=Hd hV5
               have HM5:=Hd hM5
               have HF5:=Hd hfr5
               have HN5:=Hd hnew5
               clear hM5 hfr5 hnew5 hn5 hV5)
  go_end0
  have hset:Fr (fun k=>k=Vb) w5 (w5.setCell ⟨Vb,0,none⟩ (.slice p5 n5 cap5)):=Fr.one _ _ _ _
  have hVm:∀k,(Value.slice p5 n5 cap5).ownBlock=some k→¬k=Vb:=by
    intro k hk e
    obtain⟨cur,hc⟩:=Lz.own_block HM5.out.own hk
    have:=HV5.out
    rw[e] at hc
    rw[hc] at this
    simp at this
  refine⟨rfl,_,set_in HV5.out 0 _,HM5.out.step hset hVm,((HF.out.mono (fun _ _ h=>h.elim)).trans (HF5.out.mono (fun _ _ h=>.inr h))).trans (hset.mono (fun _ _ h=>.inl h)),fun k hk=> ?_⟩
  have:=HF.out.size
  exact(HN5.out k hk).imp id (fun h=>Nat.le_trans this h)
end Ck
namespace Rf
open Mem Rc Prob Win
def New8Post(xs:List UInt8)(w:World)(e:Ending)(w':World):Prop:=Fr (fun _=>False) w w'∧match init xs with
 |.error x=>e=.returned (.tuple #[.pointer none,.int .i64 x])
 |.ok d=>∃Q bv,e=.returned (.tuple #[.pointer (some ⟨Q,0,none⟩),.int .i64 0])∧RDec w' Q bv d∧w.heap.size≤Q∧∀k,bv.ownBlock=some k→w.heap.size≤k
theorem get_at{w:World}{p:Option Addr}{n cap:Nat}{xs:List UInt8}(hr:Rd w (.slice p n cap) xs)(i:Nat)(hi:i<xs.length):∃b o,p=some ⟨b,o,none⟩∧w.cell? ⟨b,o+i,none⟩=some (.int .u8 ((xs.getD i 0).toNat:Int)):=by
 have hx:xs[i]? =some (xs.getD i 0):=by rw[List.getD_eq_getElem?_getD,List.getElem?_eq_getElem hi];rfl
 exact Win.byte_at hr hx
set_option maxRecDepth 100000 in
theorem rnew8_calls(xv:Value)(xs:List UInt8)(w:World)(hr:Rd w xv xs)(hl:xs.length≤1099511627776):Calls Tryz.prog 87 #[xv] w (New8Post xs w):=by
  obtain⟨xp,xc,rfl,hx1,hx2,hx3⟩:=hr
  have hr:Rd w (.slice xp xs.length xc) xs:=⟨xp,xc,rfl,hx1,hx2,hx3⟩
  clear hx1 hx2 hx3
  by_cases h5:xs.length<5
  · have hi:init xs=.error 1:=if_pos h5
    have t1:decide ((xs.length:Int)<5)=true:=by rw[decide_eq_true_eq];omega
    have HI:=Hd hi
    clear hi h5 hr
    go_enter Tryz.func87,Tryz.ntmps87
    go_wp2_with fail
    go_ret2
    unfold New8Post
    rw[HI.out]
    exact⟨Fr.refl _ _,rfl⟩
  have t1:decide ((xs.length:Int)<5)=false:=by rw[decide_eq_false_iff_not];omega
  obtain⟨b',o',hpb,c0⟩:=get_at hr 0 (by omega)
  subst hpb
  have hat:∀i,i<5→w.cell? ⟨b',o'+i,none⟩=some (.int .u8 ((xs.getD i 0).toNat:Int)):=fun i hi=>by
    obtain⟨b2,o2,e,h⟩:=get_at hr i (by omega)
    simp only[Option.some.injEq,Addr.mk.injEq] at e
    obtain⟨rfl,rfl,_⟩:=e
    exact h
  have c1:=hat 1 (by omega)
  have c2:=hat 2 (by omega)
  have c3:=hat 3 (by omega)
  have c4:=hat 4 (by omega)
  rw[Nat.add_zero] at c0
  have n5:(5:Int)≤(xs.length:Int):=by omega
  have hb1:=UInt8.toNat_lt (xs.getD 1 0)
  have hb2:=UInt8.toNat_lt (xs.getD 2 0)
  have hb3:=UInt8.toNat_lt (xs.getD 3 0)
  have hb4:=UInt8.toNat_lt (xs.getD 4 0)
  have hb0:xs.getD 0 0≠0↔(xs.getD 0 0).toNat≠0:=by
    constructor
    · intro h e
      exact h (UInt8.toNat_inj.1 e)
    · intro h e
      exact h (by rw[e];rfl)
  have hbe:beN xs 4=((((xs.getD 1 0).toNat*256+(xs.getD 2 0).toNat)*256+(xs.getD 3 0).toNat)*256+(xs.getD 4 0).toNat):=by
    simp only[beN,Nat.zero_add,Nat.zero_mul,Nat.reduceAdd]
  have hinit:init xs=if(xs.getD 0 0).toNat≠0∨((((xs.getD 1 0).toNat*256+(xs.getD 2 0).toNat)*256+(xs.getD 3 0).toNat)*256+(xs.getD 4 0).toNat)=4294967295 then .error 2 else .ok ⟨xs,5,4294967295,((((xs.getD 1 0).toNat*256+(xs.getD 2 0).toNat)*256+(xs.getD 3 0).toNat)*256+(xs.getD 4 0).toNat)⟩:=by
    unfold init
    rw[if_neg h5,hbe]
    by_cases h:(xs.getD 0 0).toNat≠0∨((((xs.getD 1 0).toNat*256+(xs.getD 2 0).toNat)*256+(xs.getD 3 0).toNat)*256+(xs.getD 4 0).toNat)=4294967295
    · rw[if_pos h,if_pos (h.imp hb0.2 id)]
    · rw[if_neg h,if_neg (fun hh=>h (hh.imp hb0.1 id))]
  have HR:=Hd hr
  clear hat hbe hb0 h5 hr
  generalize(xs.getD 0 0).toNat=x0 at*
  generalize(xs.getD 1 0).toNat=x1 at*
  generalize(xs.getD 2 0).toNat=x2 at*
  generalize(xs.getD 3 0).toNat=x3 at*
  generalize(xs.getD 4 0).toNat=x4 at*
  have HI:=Hd hinit
  clear hinit
  go_enter Tryz.func87,Tryz.ntmps87
  go_wp2_with fail
  go_loopw [4,5] (fun cv iv wr=>wr=w∧((iv=.int .i64 1∧cv=.int .i64 0)∨(iv=.int .i64 2∧cv=.int .i64 x1)∨(iv=.int .i64 3∧cv=.int .i64 (x1*256+x2:Nat))∨(iv=.int .i64 4∧cv=.int .i64 ((x1*256+x2)*256+x3:Nat))∨(iv=.int .i64 5∧cv=.int .i64 (((x1*256+x2)*256+x3)*256+x4:Nat)))) (fun _ iv _=>5-(intOf iv).toNat)
  case atStart=>exact⟨rfl,.inl ⟨rfl,rfl⟩⟩
  case round=>
    obtain⟨rfl,⟨rfl,rfl⟩|⟨rfl,rfl⟩|⟨rfl,rfl⟩|⟨rfl,rfl⟩|⟨rfl,rfl⟩⟩:=hrel
    · go_wp2_with fail
      go_roundw
      case rel=>exact⟨by first|rfl|trivial,.inr (.inl ⟨rfl,by go_num⟩)⟩
      case measure=>first|(simp[intOf];done)|decide
    · go_wp2_with fail
      go_roundw
      case rel=>exact⟨by first|rfl|trivial,.inr (.inr (.inl ⟨rfl,by go_num⟩))⟩
      case measure=>first|(simp[intOf];done)|decide
    · go_wp2_with fail
      go_roundw
      case rel=>exact⟨by first|rfl|trivial,.inr (.inr (.inr (.inl ⟨rfl,by go_num⟩)))⟩
      case measure=>first|(simp[intOf];done)|decide
    · go_wp2_with fail
      go_roundw
      case rel=>exact⟨by first|rfl|trivial,.inr (.inr (.inr (.inr ⟨rfl,by go_num⟩)))⟩
      case measure=>first|(simp[intOf];done)|decide
    · have hc32:((x1*256+x2)*256+x3)*256+x4<4294967296:=by omega
      generalize((x1*256+x2)*256+x3)*256+x4=cc at*
      by_cases h0:x0=0
      · have t2:((x0:Int) !=0)=false:=by simp[h0]
        by_cases hc:cc=4294967295
        · have t3:((cc:Int)==4294967295)=true:=by simp;omega
          have HI2:=Hd (HI.out.trans (if_pos (.inr hc)))
          clear hc h0
          go_wp2_with fail
          go_ret2
          unfold New8Post
          rw[HI2.out]
          exact⟨Fr.refl _ _,rfl⟩
        · have t3:((cc:Int)==4294967295)=false:=by simp only[beq_eq_false_iff_ne,ne_eq];omega
          have HI2:=Hd (HI.out.trans (if_neg (by rintro(h|h);exact h h0;exact hc h)))
          have hx:=heap_alloc_new wr (.cells #[.slice none 0 0,.int .i64 5,.int .i64 4294967295,.int .i64 cc] 239)
          have HAL:=Hd ((Fr.refl (fun _=>False) wr).alloc (.cells #[.slice none 0 0,.int .i64 5,.int .i64 4294967295,.int .i64 cc] 239))
          have HRA:=Hd (HR.out.keep HAL.out)
          have HX:=Hd hx
          have z0:(wr.alloc (.cells #[.slice none 0 0,.int .i64 5,.int .i64 4294967295,.int .i64 cc] 239)).cell? ⟨wr.heap.size,0,none⟩=some (.slice none 0 0):=cell_in hx rfl
          have zf:=frozen_in hx 0
          have hsz:(wr.alloc (.cells #[.slice none 0 0,.int .i64 5,.int .i64 4294967295,.int .i64 cc] 239)).heap.size=wr.heap.size+1:=by simp
          have HSZ:=Hd hsz
          clear hc h0 hx hsz
          go_wp2_with (at_builtin
                       refine append_mine rfl _ _ rfl (w0:=wr) (.slice none 0 0) (.slice (some ⟨b',o',none⟩) xs.length xc) [] xs rfl rfl (Mine.nil _ _) HAL.out.size HRA.out (by simp only[List.length_nil];omega) ?_
                       intro p5 cap5 n5 w5 hn5 hM5 hfr5 hnew5
                       have hf5:Fr (fun _=>False) (wr.alloc (.cells #[.slice none 0 0,.int .i64 5,.int .i64 4294967295,.int .i64 cc] 239)) w5:=hfr5.mono (fun k _ h=>by simp[Value.ownBlock] at h)
                       have hx5:=hf5.keep HX.out (fun h=>h)
                       have z1:w5.cell? ⟨wr.heap.size,0,none⟩=some (.slice none 0 0):=cell_in hx5 rfl
                       have z2:=frozen_in hx5 0
                       have HX5:=Hd hx5
                       have HM5:=Hd hM5
                       have HF5:=Hd (HAL.out.trans hf5)
                       have HN5:=Hd hnew5
                       have HL5:=Hd hn5
                       clear hn5 hM5 hfr5 hnew5 hf5 hx5)
          go_ret2
          unfold New8Post
          rw[HI2.out]
          have hf6:=Fr.one w5 wr.heap.size 0 (.slice p5 n5 cap5)
          have hM6:=HM5.out.step hf6 (fun k hk e=>by
            have h1:=HM5.out.new k hk
            rcases HN5.out k hk with h|h
            · simp[Value.ownBlock] at h
            · have:=HSZ.out
              omega)
          refine⟨HF5.out.trans' hf6 (fun k hk e=>by omega),wr.heap.size,.slice p5 n5 cap5,rfl,⟨set_in HX5.out 0 _,?_⟩,Nat.le_refl _,fun k hk=>HM5.out.new k hk⟩
          have h7:=hM6.rd
          simpa using h7
      · have t2:((x0:Int) !=0)=true:=by simp[h0]
        have HI2:=Hd (HI.out.trans (if_pos (.inl h0)))
        clear h0
        go_wp2_with fail
        go_ret2
        unfold New8Post
        rw[HI2.out]
        exact⟨Fr.refl _ _,rfl⟩
theorem rdone_calls(Q:Nat)(bv:Value)(d:D)(w:World)(h:RDec w Q bv d):Calls Tryz.prog 91 #[.pointer (some ⟨Q,0,none⟩)] w fun e w'=>e=.returned (.bool (decide (d.read=d.b.length∧d.now=0)))∧∃m,w'=w.drewN m:=by
 obtain⟨p,cap,rfl,_⟩:=id h.rd
 have c0:w.cell? ⟨Q,0,none⟩=some (.slice p d.b.length cap):=cell_in h.box rfl
 have c1:w.cell? ⟨Q,1,none⟩=some (.int .i64 d.read):=cell_in h.box rfl
 have c3:w.cell? ⟨Q,3,none⟩=some (.int .i64 d.now):=cell_in h.box rfl
 generalize hq:decide (d.read=d.b.length∧d.now=0)=q
 have HQ:=Hd hq
 clear hq h
 by_cases h1:d.read=d.b.length
 ·have t1:((d.read:Int)==(d.b.length:Int))=true:=by simp;omega
  by_cases h2:d.now=0
  ·have t2:((d.now:Int)==0)=true:=by simp;omega
   have hq:q=true:=by rw[←HQ.out];simp[h1,h2]
   have HQ2:=Hd hq
   clear h1 h2 hq
   go_enter Tryz.func91,Tryz.ntmps91
   go_wp2_with fail
   go_quiet (fail)
   go_wp2_with fail
   go_ret
   exact⟨by rw[HQ2.out];rfl,_,rfl⟩
  ·have t2:((d.now:Int)==0)=false:=by simp only[beq_eq_false_iff_ne,ne_eq];omega
   have hq:q=false:=by rw[←HQ.out];simp[h2]
   have HQ2:=Hd hq
   clear h1 h2 hq
   go_enter Tryz.func91,Tryz.ntmps91
   go_wp2_with fail
   go_quiet (fail)
   go_wp2_with fail
   go_ret
   exact⟨by rw[HQ2.out];rfl,_,rfl⟩
 ·have t1:((d.read:Int)==(d.b.length:Int))=false:=by simp only[beq_eq_false_iff_ne,ne_eq];omega
  have hq:q=false:=by rw[←HQ.out];simp[h1]
  have HQ2:=Hd hq
  clear h1 hq
  go_enter Tryz.func91,Tryz.ntmps91
  go_wp2_with fail
  go_quiet (fail)
  go_wp2_with fail
  go_ret
  exact⟨by rw[HQ2.out];rfl,_,rfl⟩
end Rf
end Go.Proofs.YtilegoadokmcdaaGreatDoor
