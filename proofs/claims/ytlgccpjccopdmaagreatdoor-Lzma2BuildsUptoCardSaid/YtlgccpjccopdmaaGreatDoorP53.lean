/- Part 53 of 54: lemmas of the last part, each under the conditions that it names. -/
import Derived.Test.YtlgccpjccopdmaaGreatDoorP29
import Derived.Test.YtlgccpjccopdmaaGreatDoorP39
import Derived.Test.YtlgccpjccopdmaaGreatDoorP52
set_option linter.unusedVariables false
set_option linter.unusedSimpArgs false
set_option maxRecDepth 1500
set_option maxHeartbeats 16000000
namespace Go.Proofs.YtlgccpjccopdmaaGreatDoor
open Go.RowKit
namespace Qm
open Mem Win Ga Lz St En Pa
def Both(w:World)(bs:List UInt8)(er:Nat)(e:Ending)(w':World):Prop:=Fr (fun _=>False) w w'∧∃p cap,e=.returned (.tuple #[.slice p bs.length cap,.int .i64 er])∧Mine w w' (.slice p bs.length cap) bs
def told:Except Nat (List UInt8)→List UInt8
 |.ok b=>b
 |.error _=>[]
def tolde:Except Nat (List UInt8)→Nat
 |.ok _=>0
 |.error n=>n
theorem both_of{w w':World}{res:Except Nat (List UInt8)}{e:Ending}(h:BuildPost w res e w'):Both w (told res) (tolde res) e w':=by
 obtain⟨hf,h⟩:=h
 cases res with
 |ok b=>
   obtain⟨v,rfl,hm⟩:=h
   obtain⟨p,cap,rfl⟩:=hm.slice
   exact⟨hf,p,cap,rfl,hm⟩
 |error n=>
   obtain⟨_,rfl⟩:=h
   exact⟨hf,none,0,rfl,Mine.nil _ _⟩
theorem told_bd{dict:Int}{l:List Pz}(hb:∀p ∈ l,∀z ∈ p.ys,z.byte<256):(told (buildP dict l)).length≤costs l+1:=by
 cases h:buildP dict l with
 |ok b=>exact buildP_bd hb h
 |error n=>exact Nat.zero_le _
set_option maxRecDepth 100000 in
theorem builds_calls(dict:Int)(l:List Pz)(lv:Value)(w:World)(hT:Tabs w)(hM:Ck.Moves w)(hr:RdP w lv l)(hwf:∀p ∈ l,p.Wf)(hc:costs l≤11534336):
    Calls Tryz.prog 5 #[.int .i64 dict,lv] w fun e w'=>e=.returned (.bool true)∧Fr (fun _=>False) w w':=by
  have hcl:=costs_len l
  have hbd:=told_bd (dict:=dict) (l:=l) (fun p hp=>(hwf p hp).byte)
  have HPA:=Hd (parts_calls l lv w hr (by omega) (fun q hq=>by have:=cost_le l q hq;unfold Pz.cost at this;omega) (fun q hq=>by have:=cost_le l q hq;unfold Pz.cost at this;omega))
  have HB:=Hd (show∀(W:World)(pv:Value),Fr (fun _=>False) w W→RdP W pv l→Calls Tryz.prog 17 #[.int .i64 dict,pv] W (Both W (told (buildP dict l)) (tolde (buildP dict l))) from fun W pv hW hp=>
    (build_calls dict l pv W (hT.keep hW) (hM.step hW (fun _ h=>h.elim)) hp hwf hc).mono fun e w' h=>both_of h)
  have HC:=Hd (show∀(W:World),Fr (fun _=>False) w W→Calls Tryz.prog 18 #[.int .i64 dict,lv] W (Both W (told (buildP dict l)) (tolde (buildP dict l))) from fun W hW=>
    (Rf.rbuild_calls dict l lv W (hr.keep hW) hwf (by omega) (by omega)).mono fun e w' h=>both_of h)
  have HK:=Hd (show∀(W w0:World)(g cc:Nat)(L:List (Pz×Value×Value)),Fr (fun _=>False) w W→KeptI w0 W g cc l L→Calls Tryz.prog 19 #[.slice (some ⟨g,0,none⟩) l.length cc,lv] W fun e w'=>e=.returned (.bool true)∧Fr (fun _=>False) W w' from fun W w0 g cc L hW hk=>
    kept_calls w0 W g cc l L lv hk (hr.keep hW) (by omega) (fun q hq=>by have:=cost_le l q hq;unfold Pz.cost at this;omega) (fun q hq=>by have:=cost_le l q hq;unfold Pz.cost at this;omega))
  have HT:=Hd hT
  have HM:=Hd hM
  have hbs:(told (buildP dict l)).length≤16777216:=by omega
  obtain⟨p0,cap0,rfl,hp1,hp2⟩:=hr.slice
  clear hcl hbd hT hM hwf hc hr hp1 hp2
  generalize told (buildP dict l)=bs at*
  generalize tolde (buildP dict l)=er at*
  obtain⟨n,hn⟩:∃n,n=bs.length:=⟨_,rfl⟩
  have HN:=Hd hn
  obtain⟨q,hq⟩:∃q,q=l.length:=⟨_,rfl⟩
  have HQ:=Hd hq
  rw[←hn] at hbs
  rw[←hq] at HPA HC HK ⊢
  have HNB:=Hd hbs
  clear hn hq
  go_enter Tryz.func5,Tryz.ntmps5
  go_wp2_with fail
  refine HPA.out.mono ?_
  rintro e w1 ⟨hf1,pc,cc,L,rfl,hcc,hL,hEach,hOwn⟩
  rw[←HQ.out]
  obtain⟨g,hg,_⟩:∃g,pc=some ⟨g,0,none⟩∧w1.cell? ⟨g,l.length*6,none⟩=some (.int .i64 99):=hOwn.cell (i:=l.length*6) (u:=.int .i64 99) (by
    have hl:L.length=l.length:=by rw[←hL,List.length_map]
    rw[List.getElem?_append_right (by rw[pcs_len,hl];exact Nat.le_refl _),pcs_len,hl,Nat.sub_self]
    rfl)
  subst hg
  have HKI:=Hd (show KeptI w w1 g cc l L from⟨hcc,hL,hEach,hOwn⟩)
  have HRP:=Hd (show∀W,Fr (fun _=>False) w1 W→RdP W (.slice (some ⟨g,0,none⟩) q cc) l from fun W hW=>by
    rw[HQ.out]
    exact(rdp_of hL hcc hEach hOwn).keep hW)
  have HF1:=Hd hf1
  have HBX:=Hd (HB.out w1 _ hf1 (HRP.out w1 (Fr.refl _ _)))
  clear hf1 hcc hL hEach hOwn
  go_wp2_with fail
  refine HBX.out.mono ?_
  rintro e w2 ⟨hf2,pb,cb,rfl,hMb⟩
  rw[←HN.out] at hMb ⊢
  have HF2:=Hd (HF1.out.trans hf2)
  have HF12:=Hd hf2
  have HMB:=Hd hMb
  have HCX:=Hd (HC.out w2 (HF1.out.trans hf2))
  clear hf2 hMb HBX
  go_wp2_with fail
  refine HCX.out.mono ?_
  rintro e w3 ⟨hf3,pr,cr,rfl,hMc⟩
  rw[←HN.out] at hMc ⊢
  have HF3:=Hd (HF2.out.trans hf3)
  have HF13:=Hd (HF12.out.trans hf3)
  have HMB3:=Hd (HMB.out.keep hf3)
  have HMC:=Hd hMc
  have hcv1:=Ck.conv_str HMB3.out.rd
  have hcv2:=Ck.conv_str hMc.rd
  have hne1:((er:Int) !=(er:Int))=false:=by simp
  have hne2:((Ck.str bs).toList !=(Ck.str bs).toList)=false:=by simp
  have HKX:=Hd (HK.out w3 w g cc L HF3.out (HKI.out.keep HF13.out))
  clear hf3 hMc HCX
  generalize Ck.str bs=zs at*
  go_wp2_with fail
  refine HKX.out.mono ?_
  rintro e w4 ⟨rfl,hf4⟩
  have HF4:=Hd (HF3.out.trans hf4)
  have HF34:=Hd hf4
  clear hf4 HKX hcv1 hcv2
  go_wp2_with fail
  refine(Ck.fixed_calls w4 (HT.out.keep HF4.out) (HM.out.step HF4.out (fun _ h=>h.elim))).mono ?_
  rintro e w5 ⟨rfl,hf5⟩
  have HF35:=Hd (HF34.out.trans hf5)
  have HF15:=Hd (HF13.out.trans HF35.out)
  have HONE:=Hd (show One w1 w5 (.slice pb n cb) n 0 from by
    have h:=One.of (Own.of_mine (HMB3.out.keep HF35.out))
    rw[←HN.out] at h
    exact h)
  have HMC5:=Hd (HMC.out.keep HF35.out)
  have HLT:=Hd HMB.out.lt
  have HNEW:=Hd HMB.out.new
  have HCN:=Hd HMC.out.new
  clear hf5 HMB HMB3 HMC HPA HC
  go_wp2_with fail
  go_loopw [10](fun i wr=>∃k:Nat,k≤n∧i=.int .i64 k∧One w1 wr (.slice pb n cb) n k∧Fr (fun k=>(Value.slice pb n cb).ownBlock=some k) w5 wr) (fun i _=>n-(intOf i).toNat)
  case atStart=>exact⟨0,Nat.zero_le _,rfl,HONE.out,Fr.refl _ _⟩
  clear HONE
  obtain⟨k,hkn,rfl,hO,hfr⟩:=hrel
  have HO:=Hd hO
  have HFR:=Hd hfr
  by_cases hlt:k<n
  · obtain⟨gb,cur,hgb,hgc,hgs⟩:=hO.at hlt
    subst hgb
    have hcell:∃u,wr.cell? ⟨gb,k,none⟩=some u:=⟨cur[k]'(by omega),cell_in hgc (Array.getElem?_eq_getElem _)⟩
    obtain⟨u,hu⟩:=hcell
    have huf:=frozen_in hgc k
    have hidx:(k:Int)<n:=by omega
    clear hO hfr hgc hgs
    go_wp2_with fail
    go_roundw
    case rel=>exact⟨k+1,by omega,by go_num,HO.out.put hlt,HFR.out.trans (fr_one _ _ _ _)⟩
    case measure=>simp[intOf];omega
  have hk2:n=k:=by omega
  subst hk2
  clear hO hfr hlt
  go_upto_region 10 with fail
  have hal:=(Fr.refl (fun _=>False) wr).alloc (.cells #[.int .u8 2] 5)
  have hnw:=heap_alloc_new wr (.cells #[.int .u8 2] 5)
  obtain⟨xd,hxd,hmd⟩:=(HO.out.keep hal).ex
  have HXD:=Hd (And.intro hxd hmd)
  have HNW:=Hd hnw
  have HSZ:=Hd (show w1.heap.size≤(wr.alloc (.cells #[.int .u8 2] 5)).heap.size from Nat.le_trans HF15.out.size (HFR.out.trans (hal.mono (fun _ _ h=>h.elim))).size)
  have HFA:=Hd (HFR.out.trans (hal.mono (fun _ _ h=>h.elim)))
  clear hxd hmd hal hnw HO HFR
  go_upto_region 11 with (at_builtin
                          refine append_own2 rfl _ _ rfl Tryz.underlying22 infoU8 rfl (by decide) (by have:=HNB.out;omega) (w0:=w1) (.slice pb n cb) xd _ _ rfl rfl HXD.out.1 HSZ.out HNW.out rfl (two_one 2) (by have:=HNB.out;omega) ?_
                          intro v10 w10 hO10 hf10 hn10 hst10
                          obtain⟨p10,k10,rfl⟩:=hO10.slice
                          have HON:=Hd (One.longer (k:=n) hO10 (by have:=HXD.out.1.own.1;omega) HXD.out.2 (Nat.le_refl _))
                          have HOB:=Hd (show One w1 w10 (.slice pb n cb) n n from⟨xd,hst10,HXD.out.2⟩)
                          have HF10:=Hd (HFA.out.trans hf10)
                          clear hO10 hf10 hn10 hst10)
  have HF1A:=Hd (HF15.out.trans' HF10.out (fun k hk e=>by have:=HNEW.out k e;omega))
  have HFA:=Hd (HF1.out.trans HF1A.out)
  have HMCA:=Hd (HMC5.out.step HF10.out (fun k hk e=>by have h1:=HCN.out k hk;have h2:=HLT.out k e;omega))
  have HBX:=Hd (HB.out w10 _ HFA.out (HRP.out w10 HF1A.out))
  clear HF10 HXD HNW HSZ HMC5 HB
  go_wp2_with fail
  refine HBX.out.mono ?_
  rintro e w11 ⟨hf11,pa,ca,rfl,hMa⟩
  rw[←HN.out] at hMa ⊢
  have HFB:=Hd (HFA.out.trans hf11)
  have HF1B:=Hd (HF1A.out.trans hf11)
  have HOB2:=Hd (HOB.out.keep hf11)
  have HON2:=Hd (HON.out.keep hf11)
  have HMCB:=Hd (HMCA.out.keep hf11)
  have HMA:=Hd hMa
  clear hf11 hMa HBX HOB HON HMCA
  go_wp2_with fail
  go_loopw [14](fun i wr=>∃k:Nat,k≤n∧i=.int .i64 k∧wr=w11) (fun i _=>n-(intOf i).toNat)
  case atStart=>exact⟨0,Nat.zero_le _,rfl,rfl⟩
  obtain⟨k,hkn,rfl,rfl⟩:=hrel
  by_cases hlt:k<n
  · obtain⟨g1,hg1,e1⟩:=HOB2.out.read hlt hlt
    subst hg1
    obtain⟨g2,hg2,e2⟩:=HON2.out.read (i:=k) hlt (by omega)
    subst hg2
    have hidx:(k:Int)<n:=by omega
    have hidx2:(k:Int)<(n:Int)+1:=by omega
    go_wp2_with fail
    go_roundw
    case rel=>exact⟨k+1,by omega,by go_num,by first|rfl|trivial⟩
    case measure=>simp[intOf];omega
  have hk2:n=k:=by omega
  subst hk2
  clear hlt
  have hcv1:=Ck.conv_str HMA.out.rd
  have hcv2:=Ck.conv_str HMCB.out.rd
  have heq1:((Ck.str bs).toList==(Ck.str bs).toList)=true:=by simp
  have HKX:=Hd (HK.out wr w g cc L HFB.out (HKI.out.keep HF1B.out))
  generalize Ck.str bs=zs at*
  clear HMA HMCB
  go_wp2_with fail
  refine HKX.out.mono ?_
  rintro e w12 ⟨rfl,hf12⟩
  have HFC:=Hd (HFB.out.trans hf12)
  clear hf12
  go_wp2_with fail
  go_ret
  exact⟨rfl,HFC.out⟩
end Qm
end Go.Proofs.YtlgccpjccopdmaaGreatDoor
