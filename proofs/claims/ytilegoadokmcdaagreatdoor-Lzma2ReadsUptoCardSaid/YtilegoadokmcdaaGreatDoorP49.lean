/- Part 49 of 53: lemmas of the last part, each under the conditions that it names. -/
import Derived.BigQuiet
import Derived.Test.YtilegoadokmcdaaGreatDoorP28
import Derived.Test.YtilegoadokmcdaaGreatDoorP31
import Derived.Test.YtilegoadokmcdaaGreatDoorP32
import Derived.Test.YtilegoadokmcdaaGreatDoorP48
set_option linter.unusedVariables false
set_option linter.unusedSimpArgs false
set_option maxRecDepth 1500
set_option maxHeartbeats 2000000
namespace Go.Proofs.YtilegoadokmcdaaGreatDoor
open Go.RowKit
namespace Rf
open Mem Rc Prob St Win Ck Wire Lz Ga
def rowX(b:List UInt8)(dict packed size:Int):Except (Nat×Nat) (Nat×XS):=readG XS.step b packed size (b.length+2) ⟨0,0,0⟩ ⟨US.start dict.toNat,[],[]⟩
def decBad(dict packed size:Int):Prop:=dict<1∨4294967295<dict∨packed< -1∨size< -1
instance (dict packed size:Int):Decidable (decBad dict packed size):=by unfold decBad;infer_instance
def RDecPost(w:World)(b:List UInt8)(dict packed size:Int)(e:Ending)(w':World):Prop:=
 Fr (fun _=>False) w w'∧if decBad dict packed size then e=.returned (.tuple #[nilS,.int .i64 0,.int .i64 7]) else match rowX b dict packed size with
  |.error (p,er)=>er≠0∧e=.returned (.tuple #[nilS,.int .i64 p,.int .i64 er])
  |.ok (n,x)=>∃v,e=.returned (.tuple #[v,.int .i64 n,.int .i64 0])∧Mine w w' v x.u.out
theorem rdecode_calls(b:List UInt8)(bv:Value)(dict packed size:Int)(w:World)(hr:Rd w bv b)(hb:b.length≤4194304)(hp:packed≤9223372036854775807)(hs:size≤9223372036854775807):
 Calls Tryz.prog 6 #[bv,.int .i64 dict,.int .i64 packed,.int .i64 size] w (RDecPost w b dict packed size):=by
 obtain⟨post,hpost⟩:∃post:Ending→World→Prop,post=RDecPost w b dict packed size:=⟨_,rfl⟩
 have HBAD:=Hd (show decBad dict packed size→post (.returned (.tuple #[nilS,.int .i64 0,.int .i64 7])) w from fun h=>by
  rw[hpost]
  unfold RDecPost
  rw[if_pos h]
  exact⟨Fr.refl _ _,rfl⟩)
 by_cases h1:dict<1
 ·have HB:=Hd (HBAD.out (.inl h1))
  rw[←hpost]
  clear hpost
  go_enter Tryz.func6,Tryz.ntmps6
  go_wp2_with fail
  go_ret3
  exact HB.out
 by_cases h2:4294967295<dict
 ·have HB:=Hd (HBAD.out (.inr (.inl h2)))
  rw[←hpost]
  clear hpost
  go_enter Tryz.func6,Tryz.ntmps6
  go_wp2_with fail
  go_ret3
  exact HB.out
 by_cases h3:packed< -1
 ·have HB:=Hd (HBAD.out (.inr (.inr (.inl h3))))
  rw[←hpost]
  clear hpost
  go_enter Tryz.func6,Tryz.ntmps6
  go_wp2_with fail
  go_ret3
  exact HB.out
 by_cases h4:size< -1
 ·have HB:=Hd (HBAD.out (.inr (.inr (.inr h4))))
  rw[←hpost]
  clear hpost
  go_enter Tryz.func6,Tryz.ntmps6
  go_wp2_with fail
  go_ret3
  exact HB.out
 obtain⟨dn,rfl⟩:∃dn:Nat,dict=dn:=⟨dict.toNat,by omega⟩
 have HRW:=Hd (rrow_full b bv dn packed size w hr hb (by omega) (by omega) hp hs)
 have hnb:¬decBad (dn:Int) packed size:=by unfold decBad;omega
 unfold RowPost at HRW
 rw[←hpost]
 unfold RDecPost rowX at hpost
 simp only[if_neg hnb,Int.toNat_natCast] at hpost
 clear hr hnb HBAD
 cases hrx:readG XS.step b packed size (b.length+2) ⟨0,0,0⟩ ⟨US.start dn,[],[]⟩ with
 |error x=>
   obtain⟨p,er⟩:=x
   rw[hrx] at HRW hpost
   simp only at HRW hpost
   have HPO:=Hd hpost
   clear hrx hpost
   go_enter Tryz.func6,Tryz.ntmps6
   go_wp2_with fail
   refine HRW.out.mono ?_
   rintro e w2 ⟨hf2,her,rfl⟩
   have hx3:=heap_alloc_new w2 (.cells #[nilS,nilS,nilS,.int .i64 er,.int .i64 p] 56)
   have c2:=cell_in (i:=2) hx3 rfl
   have c3:=cell_in (i:=3) hx3 rfl
   have c4:=cell_in (i:=4) hx3 rfl
   have HF:=Hd (hf2.alloc (.cells #[nilS,nilS,nilS,.int .i64 er,.int .i64 p] 56))
   have HER:=Hd her
   clear hf2 her hx3
   go_wp2_with fail
   go_quiet (fail)
   go_wp2_with fail
   go_ret3
   rw[HPO.out]
   exact⟨HF.out.drewN _,HER.out,rfl⟩
 |ok x=>
   obtain⟨n,x⟩:=x
   rw[hrx] at HRW hpost
   simp only at HRW hpost
   have HPO:=Hd hpost
   clear hrx hpost
   go_enter Tryz.func6,Tryz.ntmps6
   go_wp2_with fail
   refine HRW.out.mono ?_
   rintro e w2 ⟨hf2,hv,sv,dv,rfl,hh,hr,hm⟩
   obtain⟨p1,k1,rfl⟩:=Own.slice hh
   obtain⟨p2,k2,rfl⟩:=hr.slice
   obtain⟨p3,k3,rfl⟩:=hm.slice
   have hx3:=heap_alloc_new w2 (.cells #[.slice p1 x.hs.length k1,.slice p2 x.sy.length k2,.slice p3 x.u.out.length k3,.int .i64 0,.int .i64 n] 56)
   have c2:=cell_in (i:=2) hx3 rfl
   have c3:=cell_in (i:=3) hx3 rfl
   have c4:=cell_in (i:=4) hx3 rfl
   have hal:=(Fr.refl (fun _=>False) w2).alloc (.cells #[.slice p1 x.hs.length k1,.slice p2 x.sy.length k2,.slice p3 x.u.out.length k3,.int .i64 0,.int .i64 n] 56)
   have HF:=Hd (hf2.trans hal)
   have HM:=Hd (hm.keep hal)
   clear hf2 hx3 hal hh hr hm
   go_wp2_with fail
   go_quiet (fail)
   go_wp2_with fail
   go_ret3
   rw[HPO.out]
   exact⟨HF.out.drewN _,_,rfl,HM.out.keep ((Fr.refl _ _).drewN _)⟩
def RChPost(w:World)(b:List UInt8)(e:Ending)(w':World):Prop:=
 Fr (fun _=>False) w w'∧match readG hStep b (-1) (-1) (b.length+2) ⟨0,0,0⟩ [] with
  |.error (p,er)=>er≠0∧e=.returned (.tuple #[nilS,.int .i64 0,.int .i64 er])
  |.ok (n,hs)=>∃v,e=.returned (.tuple #[v,.int .i64 n,.int .i64 0])∧Cc.Heads w w' v hs
theorem rchunks_calls(b:List UInt8)(bv:Value)(w:World)(hr:Rd w bv b)(hb:b.length≤4194304):
 Calls Tryz.prog 10 #[bv] w (RChPost w b):=by
 have HRW:=Hd (show Calls Tryz.prog 18 #[bv,.int .i64 1,.agg #[.int .i64 (-1),.int .i64 (-1)],.bool true] w _ from rrow_bare b bv 1 (-1) (-1) w hr hb (by decide) (by decide) (by decide) (by decide))
 unfold RowBare at HRW
 unfold RChPost
 clear hr
 cases hrx:readG hStep b (-1) (-1) (b.length+2) ⟨0,0,0⟩ [] with
 |error x=>
   obtain⟨p,er⟩:=x
   rw[hrx] at HRW
   simp only at HRW
   clear hrx
   go_enter Tryz.func10,Tryz.ntmps10
   go_wp2_with fail
   refine HRW.out.mono ?_
   rintro e w2 ⟨hf2,her,rfl⟩
   have hx3:=heap_alloc_new w2 (.cells #[nilS,nilS,nilS,.int .i64 er,.int .i64 p] 56)
   have c3:=cell_in (i:=3) hx3 rfl
   have HF:=Hd (hf2.alloc (.cells #[nilS,nilS,nilS,.int .i64 er,.int .i64 p] 56))
   have hne:((er:Int) !=0)=true:=by simp[her]
   have HER:=Hd her
   clear hf2 her hx3
   go_wp2_with fail
   go_quiet (fail)
   go_wp2_with fail
   go_ret3
   exact⟨HF.out.drewN _,HER.out,rfl⟩
 |ok x=>
   obtain⟨n,hs⟩:=x
   rw[hrx] at HRW
   simp only at HRW
   clear hrx
   go_enter Tryz.func10,Tryz.ntmps10
   go_wp2_with fail
   refine HRW.out.mono ?_
   rintro e w2 ⟨hf2,hv,sv,dv,rfl,hh,⟨p2,n2,k2,rfl⟩,⟨p3,n3,k3,rfl⟩⟩
   obtain⟨p1,k1,rfl⟩:=Own.slice hh
   have hx3:=heap_alloc_new w2 (.cells #[.slice p1 hs.length k1,.slice p2 n2 k2,.slice p3 n3 k3,.int .i64 0,.int .i64 n] 56)
   have c0:=cell_in (i:=0) hx3 rfl
   have c3:=cell_in (i:=3) hx3 rfl
   have c4:=cell_in (i:=4) hx3 rfl
   have hal:=(Fr.refl (fun _=>False) w2).alloc (.cells #[.slice p1 hs.length k1,.slice p2 n2 k2,.slice p3 n3 k3,.int .i64 0,.int .i64 n] 56)
   have HF:=Hd (hf2.trans hal)
   have HM:=Hd (Own.keep hh hal)
   clear hf2 hx3 hal hh
   go_wp2_with fail
   go_quiet (fail)
   go_wp2_with fail
   go_ret3
   exact⟨HF.out.drewN _,_,rfl,Own.keep HM.out ((Fr.refl _ _).drewN _)⟩
def symBad(dict:Int):Prop:=dict<1∨4294967295<dict
instance (dict:Int):Decidable (symBad dict):=by unfold symBad;infer_instance
def RSyPost(w:World)(b:List UInt8)(dict:Int)(e:Ending)(w':World):Prop:=
 Fr (fun _=>False) w w'∧if symBad dict then e=.returned (.tuple #[nilS,.int .i64 7]) else match rowX b dict (-1) (-1) with
  |.error (p,er)=>er≠0∧e=.returned (.tuple #[nilS,.int .i64 er])
  |.ok (n,x)=>∃v,e=.returned (.tuple #[v,.int .i64 0])∧RowsY w w' v x.sy
theorem rsymbols_calls(b:List UInt8)(bv:Value)(dict:Int)(w:World)(hr:Rd w bv b)(hb:b.length≤4194304):
 Calls Tryz.prog 13 #[bv,.int .i64 dict] w (RSyPost w b dict):=by
 obtain⟨post,hpost⟩:∃post:Ending→World→Prop,post=RSyPost w b dict:=⟨_,rfl⟩
 have HBAD:=Hd (show symBad dict→post (.returned (.tuple #[nilS,.int .i64 7])) w from fun h=>by
  rw[hpost]
  unfold RSyPost
  rw[if_pos h]
  exact⟨Fr.refl _ _,rfl⟩)
 by_cases h1:dict<1
 ·have HB:=Hd (HBAD.out (.inl h1))
  rw[←hpost]
  clear hpost
  go_enter Tryz.func13,Tryz.ntmps13
  go_wp2_with fail
  try go_ret2
  exact HB.out
 by_cases h2:4294967295<dict
 ·have HB:=Hd (HBAD.out (.inr h2))
  rw[←hpost]
  clear hpost
  go_enter Tryz.func13,Tryz.ntmps13
  go_wp2_with fail
  try go_ret2
  exact HB.out
 obtain⟨dn,rfl⟩:∃dn:Nat,dict=dn:=⟨dict.toNat,by omega⟩
 have HRW:=Hd (rrow_full b bv dn (-1) (-1) w hr hb (by omega) (by omega) (by decide) (by decide))
 have hnb:¬symBad (dn:Int):=by unfold symBad;omega
 unfold RowPost at HRW
 rw[←hpost]
 unfold RSyPost rowX at hpost
 simp only[if_neg hnb,Int.toNat_natCast] at hpost
 clear hr hnb HBAD
 cases hrx:readG XS.step b (-1) (-1) (b.length+2) ⟨0,0,0⟩ ⟨US.start dn,[],[]⟩ with
 |error x=>
   obtain⟨p,er⟩:=x
   rw[hrx] at HRW hpost
   simp only at HRW hpost
   have HPO:=Hd hpost
   clear hrx hpost
   go_enter Tryz.func13,Tryz.ntmps13
   go_wp2_with fail
   refine HRW.out.mono ?_
   rintro e w2 ⟨hf2,her,rfl⟩
   have hx3:=heap_alloc_new w2 (.cells #[nilS,nilS,nilS,.int .i64 er,.int .i64 p] 56)
   have c1:=cell_in (i:=1) hx3 rfl
   have c3:=cell_in (i:=3) hx3 rfl
   have HF:=Hd (hf2.alloc (.cells #[nilS,nilS,nilS,.int .i64 er,.int .i64 p] 56))
   have HER:=Hd her
   clear hf2 her hx3
   go_wp2_with fail
   go_quiet (fail)
   go_wp2_with fail
   try go_ret2
   rw[HPO.out]
   exact⟨HF.out.drewN _,HER.out,rfl⟩
 |ok x=>
   obtain⟨n,x⟩:=x
   rw[hrx] at HRW hpost
   simp only at HRW hpost
   have HPO:=Hd hpost
   clear hrx hpost
   go_enter Tryz.func13,Tryz.ntmps13
   go_wp2_with fail
   refine HRW.out.mono ?_
   rintro e w2 ⟨hf2,hv,sv,dv,rfl,hh,hr,hm⟩
   obtain⟨p1,k1,rfl⟩:=Own.slice hh
   obtain⟨p2,k2,rfl⟩:=hr.slice
   obtain⟨p3,k3,rfl⟩:=hm.slice
   have hx3:=heap_alloc_new w2 (.cells #[.slice p1 x.hs.length k1,.slice p2 x.sy.length k2,.slice p3 x.u.out.length k3,.int .i64 0,.int .i64 n] 56)
   have c1:=cell_in (i:=1) hx3 rfl
   have c3:=cell_in (i:=3) hx3 rfl
   have hal:=(Fr.refl (fun _=>False) w2).alloc (.cells #[.slice p1 x.hs.length k1,.slice p2 x.sy.length k2,.slice p3 x.u.out.length k3,.int .i64 0,.int .i64 n] 56)
   have HF:=Hd (hf2.trans hal)
   have HM:=Hd (hr.keep hal)
   clear hf2 hx3 hal hh hr hm
   go_wp2_with fail
   go_quiet (fail)
   go_wp2_with fail
   try go_ret2
   rw[HPO.out]
   exact⟨HF.out.drewN _,_,rfl,HM.out.keep ((Fr.refl _ _).drewN _)⟩
end Rf
namespace Re
open Mem Win Ck Ga Wire Lz St
theorem readP_S(b:List UInt8)(packed size:Int):∀(f:Nat)(s:Sr)(u:Cs.US),Cs.readP b packed size f s u=readG Cs.US.step b packed size f s u
 |0,s,u=>rfl
 |f+1,s,u=>by
   unfold Cs.readP readG
   by_cases h3:s.now=3
   ·rw[if_pos h3,if_pos h3]
   rw[if_neg h3,if_neg h3]
   cases nextP b packed size s with
   |error x=>rfl
   |ok r=>
     obtain⟨h,part,fr,s2⟩:=r
     simp only
     cases u.step h part with
     |none=>rfl
     |some u2=>exact readP_S b packed size f s2 u2
def sOf(x:XS):Cs.US:=⟨x.u.c,x.u.ps,x.u.pr,x.sy⟩
theorem s_step(x:XS)(h:Head)(p:List UInt8)(hk:h.kind≤6):Cs.US.step (sOf x) h p=(XS.step x h p).map sOf:=by
 have key:∀(v:Ck.US)(v':Cs.US),v'.c=v.c→v'.ps=v.ps→v'.pr=v.pr→v'.out=x.sy→3≤h.kind→x.u.step h p=v.take p h.size→x.u.syms h p=(match takeAll v.c v.ps p h.size with|none=>[]|some r=>r.1)→v'.take p h.size=(XS.step x h p).map sOf:=by
  intro v v' h1 h2 h3 h4 h5 h6 h7
  unfold XS.step
  rw[h6,h7]
  unfold Cs.US.take Ck.US.take
  rw[h1,h2]
  cases takeAll v.c v.ps p h.size with
  |none=>rfl
  |some r=>simp[sOf,h3,h4,show¬h.kind=0 by omega]
 unfold Cs.US.step
 obtain h0|h0|h0|h0|h0|h0|h0:h.kind=0∨h.kind=1∨h.kind=2∨h.kind=3∨h.kind=4∨h.kind=5∨h.kind=6:=by omega
 ·unfold XS.step Ck.US.step
  simp[h0,sOf,Cs.US.raw,Ck.US.raw]
 ·unfold XS.step Ck.US.step Ck.US.syms
  simp[h0,sOf,Cs.US.raw,Ck.US.raw,Cs.US.clear,Ck.US.clear]
 ·unfold XS.step Ck.US.step Ck.US.syms
  simp[h0,sOf,Cs.US.raw,Ck.US.raw]
 ·simp only[h0,Nat.reduceEqDiff,or_self,if_false,if_true]
  have:=key x.u (sOf x) rfl rfl rfl rfl (by omega) (by unfold Ck.US.step;simp[h0]) (by unfold Ck.US.syms;simp[h0];split<;>simp_all)
  exact this
 ·simp only[h0,Nat.reduceEqDiff,or_self,if_false,if_true]
  exact key x.u.reset (sOf x).reset rfl rfl rfl rfl (by omega) (by unfold Ck.US.step;simp[h0]) (by unfold Ck.US.syms;simp[h0];split<;>simp_all)
 ·simp only[h0,Nat.reduceEqDiff,or_self,if_false,if_true]
  exact key (x.u.props h).reset ((sOf x).props h).reset rfl rfl rfl rfl (by omega) (by unfold Ck.US.step;simp[h0]) (by unfold Ck.US.syms;simp[h0];split<;>simp_all)
 ·simp only[h0,Nat.reduceEqDiff,or_self,if_false,if_true]
  exact key (x.u.clear.props h).reset ((sOf x).clear.props h).reset rfl rfl rfl rfl (by omega) (by unfold Ck.US.step;simp[h0]) (by unfold Ck.US.syms;simp[h0];split<;>simp_all)
end Re
namespace Re
open Mem Win Ck Ga Wire Lz St
theorem readG_mapK{σ τ:Type}(g:σ→τ){step:σ→Head→List UInt8→Option σ}{step':τ→Head→List UInt8→Option τ}(hs:∀u h p,h.kind≤6→step' (g u) h p=(step u h p).map g)(b:List UInt8)(packed size:Int):
 ∀(f:Nat)(s:Sr)(u:σ),s.now<4→s.at'≤b.length→readG step' b packed size f s (g u)=(readG step b packed size f s u).map fun x=>(x.1,g x.2)
 |0,s,u,_,_=>rfl
 |f+1,s,u,hn,ha=>by
   unfold readG
   by_cases h3:s.now=3
   ·rw[if_pos h3,if_pos h3]
    rfl
   rw[if_neg h3,if_neg h3]
   cases hx:nextP b packed size s with
   |error x=>rfl
   |ok r=>
     obtain⟨h,part,fr,s2⟩:=r
     have hok:=nextP_ok hn ha hx
     simp only
     rw[hs u h part hok.kind]
     cases step u h part with
     |none=>rfl
     |some u2=>exact readG_mapK g hs b packed size f s2 u2 hok.now hok.le
def dR(b:List UInt8)(dict packed size:Int):Nat×Nat×List UInt8:=match unpackP b dict packed size with
 |.error (p,er)=>(p,er,[])
 |.ok (n,out)=>(n,0,out)
def cR(b:List UInt8):Nat×Nat×List Head:=match readG hStep b (-1) (-1) (b.length+2) ⟨0,0,0⟩ [] with
 |.error (_,er)=>(0,er,[])
 |.ok (n,hs)=>(n,0,hs)
def sR(b:List UInt8)(dict:Int):Nat×List (List Sy):=match Cs.unpackP b dict (-1) (-1) with
 |.error (_,er)=>(er,[])
 |.ok (_,sy)=>(0,sy)
def DP(r:Nat×Nat×List UInt8)(w:World)(e:Ending)(w':World):Prop:=Fr (fun _=>False) w w'∧∃v,e=.returned (.tuple #[v,.int .i64 r.1,.int .i64 r.2.1])∧Mine w w' v r.2.2
def CP(r:Nat×Nat×List Head)(w:World)(e:Ending)(w':World):Prop:=Fr (fun _=>False) w w'∧∃v,e=.returned (.tuple #[v,.int .i64 r.1,.int .i64 r.2.1])∧Cc.Heads w w' v r.2.2
def SP(r:Nat×List (List Sy))(w:World)(e:Ending)(w':World):Prop:=Fr (fun _=>False) w w'∧∃v,e=.returned (.tuple #[v,.int .i64 r.1])∧RowsY w w' v r.2
theorem dec_calls(b:List UInt8)(dict packed size:Int)(w:World)(bv:Value)(hT:St.Tabs w)(hr:Rd w bv b)(hM:Moves w)(hb:b.length≤4194304):
 Calls Tryz.prog 5 #[bv,.int .i64 dict,.int .i64 packed,.int .i64 size] w (DP (dR b dict packed size) w):=by
 refine(decode_calls b dict packed size w bv hT hr hM hb).mono fun e w' h=> ?_
 unfold DecodePost at h
 unfold DP dR
 cases hu:unpackP b dict packed size with
 |error x=>
   obtain⟨p,er⟩:=x
   rw[hu] at h
   obtain⟨h1,h2,h3⟩:=h
   exact⟨h1,_,h3,Mine.nil _ _⟩
 |ok x=>
   obtain⟨n,out⟩:=x
   rw[hu] at h
   obtain⟨h1,v,h2,h3⟩:=h
   exact⟨h1,v,h2,h3⟩
theorem chu_calls(b:List UInt8)(w:World)(bv:Value)(hr:Rd w bv b)(hM:Moves w)(h5:5≤w.heap.size)(hb:b.length≤4194304):
 Calls Tryz.prog 9 #[bv] w (CP (cR b) w):=by
 refine(Cc.chunks_calls b w bv hr hM h5 hb).mono fun e w' h=> ?_
 unfold Cc.ChunksPost at h
 unfold CP cR
 cases hu:readG hStep b (-1) (-1) (b.length+2) ⟨0,0,0⟩ [] with
 |error x=>
   obtain⟨p,er⟩:=x
   rw[hu] at h
   obtain⟨h1,h2,h3⟩:=h
   exact⟨h1,_,h3,Own.nil _ _ _ _⟩
 |ok x=>
   obtain⟨n,hs⟩:=x
   rw[hu] at h
   obtain⟨h1,v,h2,h3⟩:=h
   exact⟨h1,v,h2,h3⟩
theorem sym_calls(b:List UInt8)(dict:Int)(w:World)(bv:Value)(hT:St.Tabs w)(hr:Rd w bv b)(hM:Moves w)(hb:b.length≤4194304):
 Calls Tryz.prog 12 #[bv,.int .i64 dict] w (SP (sR b dict) w):=by
 refine(Cs.symbols_calls b dict w bv hT hr hM hb).mono fun e w' h=> ?_
 unfold Cs.DecodePost at h
 unfold SP sR
 cases hu:Cs.unpackP b dict (-1) (-1) with
 |error x=>
   obtain⟨p,er⟩:=x
   rw[hu] at h
   obtain⟨h1,h2,h3⟩:=h
   exact⟨h1,_,h3,RowsY.nil _ _⟩
 |ok x=>
   obtain⟨n,out⟩:=x
   rw[hu] at h
   obtain⟨h1,v,h2,h3⟩:=h
   exact⟨h1,v,h2,h3⟩
theorem rdec_calls(b:List UInt8)(bv:Value)(dict packed size:Int)(w:World)(hr:Rd w bv b)(hb:b.length≤4194304)(hp:packed≤9223372036854775807)(hs:size≤9223372036854775807):
 Calls Tryz.prog 6 #[bv,.int .i64 dict,.int .i64 packed,.int .i64 size] w (DP (dR b dict packed size) w):=by
 refine(Rf.rdecode_calls b bv dict packed size w hr hb hp hs).mono fun e w' h=> ?_
 unfold Rf.RDecPost at h
 unfold DP dR unpackP
 by_cases hbad:Rf.decBad dict packed size
 ·rw[if_pos hbad] at h
  unfold Rf.decBad at hbad
  rw[if_pos hbad]
  exact⟨h.1,_,h.2,Mine.nil _ _⟩
 ·rw[if_neg hbad] at h
  unfold Rf.decBad at hbad
  rw[if_neg hbad]
  have hx:=x_u b packed size (b.length+2) ⟨0,0,0⟩ ⟨US.start dict.toNat,[],[]⟩
  simp only at hx
  rw[hx]
  unfold Rf.rowX at h
  cases hu:readG XS.step b packed size (b.length+2) ⟨0,0,0⟩ ⟨US.start dict.toNat,[],[]⟩ with
  |error x=>
    obtain⟨p,er⟩:=x
    rw[hu] at h
    obtain⟨h1,h2,h3⟩:=h
    exact⟨h1,_,h3,Mine.nil _ _⟩
  |ok x=>
    obtain⟨n,x⟩:=x
    rw[hu] at h
    obtain⟨h1,v,h2,h3⟩:=h
    exact⟨h1,v,h2,h3⟩
theorem rchu_calls(b:List UInt8)(w:World)(bv:Value)(hr:Rd w bv b)(hb:b.length≤4194304):
 Calls Tryz.prog 10 #[bv] w (CP (cR b) w):=by
 refine(Rf.rchunks_calls b bv w hr hb).mono fun e w' h=> ?_
 unfold Rf.RChPost at h
 unfold CP cR
 cases hu:readG hStep b (-1) (-1) (b.length+2) ⟨0,0,0⟩ [] with
 |error x=>
   obtain⟨p,er⟩:=x
   rw[hu] at h
   obtain⟨h1,h2,h3⟩:=h
   exact⟨h1,_,h3,Own.nil _ _ _ _⟩
 |ok x=>
   obtain⟨n,hs⟩:=x
   rw[hu] at h
   obtain⟨h1,v,h2,h3⟩:=h
   exact⟨h1,v,h2,h3⟩
theorem rsym_calls(b:List UInt8)(dict:Int)(w:World)(bv:Value)(hr:Rd w bv b)(hb:b.length≤4194304):
 Calls Tryz.prog 13 #[bv,.int .i64 dict] w (SP (sR b dict) w):=by
 refine(Rf.rsymbols_calls b bv dict w hr hb).mono fun e w' h=> ?_
 unfold Rf.RSyPost at h
 unfold SP sR Cs.unpackP
 by_cases hbad:Rf.symBad dict
 ·rw[if_pos hbad] at h
  unfold Rf.symBad at hbad
  rw[if_pos (by rcases hbad with h|h;exact .inl h;exact .inr (.inl h))]
  exact⟨h.1,_,h.2,RowsY.nil _ _⟩
 ·rw[if_neg hbad] at h
  unfold Rf.symBad at hbad
  rw[if_neg (by omega)]
  have hx:=(readP_S b (-1) (-1) (b.length+2) ⟨0,0,0⟩ (Cs.US.start dict.toNat)).trans (readG_mapK sOf (fun u h p hk=>s_step u h p hk) b (-1) (-1) (b.length+2) ⟨0,0,0⟩ ⟨US.start dict.toNat,[],[]⟩ (by decide) (Nat.zero_le _))
  rw[hx]
  unfold Rf.rowX at h
  cases hu:readG XS.step b (-1) (-1) (b.length+2) ⟨0,0,0⟩ ⟨US.start dict.toNat,[],[]⟩ with
  |error x=>
    obtain⟨p,er⟩:=x
    rw[hu] at h
    obtain⟨h1,h2,h3⟩:=h
    exact⟨h1,_,h3,RowsY.nil _ _⟩
  |ok x=>
    obtain⟨n,x⟩:=x
    rw[hu] at h
    obtain⟨h1,v,h2,h3⟩:=h
    exact⟨h1,v,h2,h3⟩
end Re
namespace Re
open Mem Win Ck Ga Wire Lz St
theorem takeGo_lls(n:Nat):∀(f:Nat)(c:C)(y:Y)(l:List Sy)(out:List UInt8){c2:C}{y2:Y}{l2:List Sy}{out2:List UInt8},y.Ok c.lc c.lp→l.length≤out.length→takeGo n f c y l out=some (c2,y2,l2,out2)→l2.length≤out2.length
 |0,c,y,l,out,c2,y2,l2,out2,hy,hle,h=>by cases h
 |f+1,c,y,l,out,c2,y2,l2,out2,hy,hle,h=>by
   rw[takeGo_succ] at h
   have hsy:=Y.symbol_ok (c:=c) hy
   by_cases h1:n≤out.length
   ·rw[if_pos h1] at h
    simp only[Option.some.injEq,Prod.mk.injEq] at h
    obtain⟨rfl,rfl,rfl,rfl⟩:=h
    exact hle
   ·rw[if_neg h1] at h
    split at h
    ·cases h
    ·rename_i h2
     split at h
     ·cases h
     ·rename_i h3
      have h3':(St.apply c.size c.all c.s (y.symbol c).1).1=0:=by simpa using h3
      have hal:=apply_len h3' hsy.2.kind
      have h2c:¬(St.size (y.symbol c).1<1):=fun h=>h2 (.inr (.inl h))
      exact takeGo_lls n f ((c.on (St.apply c.size c.all c.s (y.symbol c).1).2.1).to (St.apply c.size c.all c.s (y.symbol c).1).2.2) (y.symbol c).2 _ _ (show(y.symbol c).2.Ok c.lc c.lp from hsy.1) (by rw[List.length_append,List.length_append,List.length_singleton,hal];omega) h
theorem take_lls{c c2:C}{ps ps2:Nat→List Nat}{part outs:List UInt8}{ls:List Sy}{n:Nat}(h:takeAll c ps part n=some (ls,outs,c2,ps2))(hy:∀d,Rc.init part=.ok d→Y.Ok c.lc c.lp ⟨d,false,ps⟩):ls.length≤n:=by
 have hl:=Ck.take_len h hy
 unfold takeAll at h
 split at h
 ·cases h
 ·rename_i d hd
  split at h
  ·cases h
  ·rename_i c3 y3 l3 out3 hg
   split at h
   ·simp only[Option.some.injEq,Prod.mk.injEq] at h
    obtain⟨rfl,rfl,rfl,rfl⟩:=h
    have:=takeGo_lls n _ _ _ _ _ (hy d hd) (Nat.le_refl _) hg
    omega
   ·cases h
theorem syms_le{u:US}(hU:POk u){h:Head}{part:List UInt8}(hp:part.length≤65536)(hs:h.size≤2097152):(u.syms h part).length≤2097152:=by
 have fin:∀(v:US)(r:List Sy×List UInt8×C×(Nat→List Nat)),POk v→takeAll v.c v.ps part h.size=some r→r.1.length≤2097152:=by
  intro v r hv ht
  obtain⟨ls,outs,c2,ps2⟩:=r
  have:=take_lls ht (fun d hd=>⟨(Rc.init_ok hd (by omega)).1,hv.p,hv.len⟩)
  simp only
  omega
 unfold US.syms
 split
 ·exact Nat.zero_le _
 ·split
  ·exact Nat.zero_le _
  ·rename_i r heq
   split at heq
   ·exact fin u r hU heq
   ·split at heq
    ·exact fin u.reset r ⟨(fresh_pok _ _).1,(fresh_pok _ _).2⟩ heq
    ·split at heq
     ·exact fin (u.props h).reset r ⟨(fresh_pok _ _).1,(fresh_pok _ _).2⟩ heq
     ·exact fin (u.clear.props h).reset r ⟨(fresh_pok _ _).1,(fresh_pok _ _).2⟩ heq
theorem nextP_small{b:List UInt8}{packed size:Int}{s s2:Sr}{h:Head}{part:List UInt8}{fr:Nat}(e:nextP b packed size s=.ok (h,part,fr,s2))(hk:h.kind<3):h.size=h.packed:=by
 rw[nextP_head] at e
 unfold headP at e
 split at e
 ·cases e
 ·rename_i h1 n1 now1 heq
  split at e
  ·cases e
  ·simp only[Except.ok.injEq,Prod.mk.injEq] at e
   obtain⟨rfl,_⟩:=e
   split at heq
   ·cases heq
   ·split at heq
    ·cases heq
    ·split at heq
     ·cases heq
     ·split at heq
      ·cases heq
      ·split at heq
       ·cases heq
       ·split at heq
        ·cases heq
        ·rename_i hge
         split at heq
         ·cases heq
         ·simp only[Except.ok.injEq,Prod.mk.injEq] at heq
          obtain⟨rfl,_⟩:=heq
          exact(get_sizes _ (by simpa using hge)).2 hk
theorem readG_inv{σ:Type}{step:σ→Head→List UInt8→Option σ}{b:List UInt8}{packed size:Int}{I:Sr→σ→Prop}(hI:∀s u h part fr s2 u2,I s u→NextOk b s h part fr s2→(h.kind<3→part.length=h.size)→step u h part=some u2→I s2 u2):
 ∀(f:Nat)(s:Sr)(u:σ){n:Nat}{v:σ},s.now<4→s.at'≤b.length→I s u→readG step b packed size f s u=.ok (n,v)→∃s',I s' v∧s'.at'≤b.length
 |0,s,u,n,v,_,_,_,h=>by cases h
 |f+1,s,u,n,v,hn,ha,hu,h=>by
   unfold readG at h
   by_cases h3:s.now=3
   ·rw[if_pos h3] at h
    simp only[Except.ok.injEq,Prod.mk.injEq] at h
    obtain⟨_,rfl⟩:=h
    exact⟨s,hu,ha⟩
   rw[if_neg h3] at h
   cases hx:nextP b packed size s with
   |error x=>rw[hx] at h;cases h
   |ok r=>
     obtain⟨hd,part,fr,s2⟩:=r
     have hok:=nextP_ok hn ha hx
     rw[hx] at h
     simp only at h
     cases hst:step u hd part with
     |none=>rw[hst] at h;cases h
     |some u2=>
       rw[hst] at h
       exact readG_inv hI f s2 u2 hok.now hok.le (hI _ _ _ _ _ _ _ hu hok (fun hk=>by rw[nextP_small hx hk];exact hok.plen) hst) h
theorem cR_le(b:List UInt8):(cR b).2.2.length≤b.length:=by
 unfold cR
 cases hu:readG hStep b (-1) (-1) (b.length+2) ⟨0,0,0⟩ [] with
 |error x=>exact Nat.zero_le _
 |ok x=>
   obtain⟨n,hs⟩:=x
   obtain⟨s',h1,h2⟩:=readG_inv (I:=fun s hs=>hs.length≤s.at') (fun s u h part fr s2 u2 hi hok _ hst=>by
    simp only[hStep,Option.some.injEq] at hst
    subst hst
    have h1:=hok.more
    have h2:=hok.at2
    simp only[List.length_append,List.length_singleton]
    omega) _ _ _ (by decide) (Nat.zero_le _) (Nat.le_refl _) hu
   exact Nat.le_trans h1 h2
structure XI(s:Sr)(x:XS):Prop where
 ok:POk x.u
 out:x.u.out.length≤2097152*s.at'
 sy:x.sy.length≤s.at'
 each:∀l ∈ x.sy,l.length≤2097152
theorem XI.step{b:List UInt8}{s:Sr}{x:XS}{h:Head}{part:List UInt8}{fr:Nat}{s2:Sr}{x2:XS}(hx:XI s x)(hok:NextOk b s h part fr s2)(hpl:h.kind<3→part.length=h.size)(hst:x.step h part=some x2):XI s2 x2:=by
 unfold XS.step at hst
 cases hu:x.u.step h part with
 |none=>rw[hu] at hst;cases hst
 |some u2=>
   rw[hu] at hst
   simp only[Option.map_some,Option.some.injEq] at hst
   subst hst
   have hp:part.length≤65536:=by rw[hok.plen];exact hok.packed
   have h1:=step_pok hx.ok hp hpl hok.kind hu
   have h2:=hok.more
   have h3:=hok.at2
   have h4:=hok.size
   have h5:=hx.out
   have h6:=hx.sy
   have h7:=syms_le hx.ok hp h4 (h:=h)
   refine⟨h1.1,by simp only;omega,?_,?_⟩
   ·simp only
    split
    ·omega
    ·rw[List.length_append,List.length_singleton]
     omega
   ·simp only
    intro l hl
    split at hl
    ·exact hx.each l hl
    ·rcases List.mem_append.1 hl with hl|hl
     ·exact hx.each l hl
     ·simp only[List.mem_singleton] at hl
      rw[hl]
      exact h7
theorem rowX_le{b:List UInt8}{dict packed size:Int}{n:Nat}{x:XS}(h:Rf.rowX b dict packed size=.ok (n,x)):x.u.out.length≤2097152*b.length∧x.sy.length≤b.length∧∀l ∈ x.sy,l.length≤2097152:=by
 obtain⟨s',h1,h2⟩:=readG_inv (I:=XI) (fun s u h part fr s2 u2 hi hok hpl hst=>hi.step hok hpl hst) _ _ _ (by decide) (Nat.zero_le _) ⟨start_pok dict.toNat,Nat.zero_le _,Nat.zero_le _,fun l hl=>by simp at hl⟩ h
 have:=h1.out
 have:=h1.sy
 exact⟨by omega,by omega,h1.each⟩
theorem dR_le(b:List UInt8)(dict packed size:Int):(dR b dict packed size).2.2.length≤2097152*b.length:=by
 unfold dR unpackP
 by_cases hbad:dict<1∨4294967295<dict∨packed< -1∨size< -1
 ·rw[if_pos hbad]
  exact Nat.zero_le _
 rw[if_neg hbad]
 have hx:=x_u b packed size (b.length+2) ⟨0,0,0⟩ ⟨US.start dict.toNat,[],[]⟩
 simp only at hx
 rw[hx]
 cases hu:readG XS.step b packed size (b.length+2) ⟨0,0,0⟩ ⟨US.start dict.toNat,[],[]⟩ with
 |error x=>exact Nat.zero_le _
 |ok x=>
   obtain⟨n,x⟩:=x
   exact(rowX_le hu).1
theorem sR_le(b:List UInt8)(dict:Int):(sR b dict).2.length≤b.length∧∀l ∈ (sR b dict).2,l.length≤2097152:=by
 unfold sR Cs.unpackP
 by_cases hbad:dict<1∨4294967295<dict∨(-1:Int)< -1∨(-1:Int)< -1
 ·rw[if_pos hbad]
  exact⟨Nat.zero_le _,fun l hl=>by cases hl⟩
 rw[if_neg hbad]
 have hx:=(readP_S b (-1) (-1) (b.length+2) ⟨0,0,0⟩ (Cs.US.start dict.toNat)).trans (readG_mapK sOf (fun u h p hk=>s_step u h p hk) b (-1) (-1) (b.length+2) ⟨0,0,0⟩ ⟨US.start dict.toNat,[],[]⟩ (by decide) (Nat.zero_le _))
 rw[hx]
 cases hu:readG XS.step b (-1) (-1) (b.length+2) ⟨0,0,0⟩ ⟨US.start dict.toNat,[],[]⟩ with
 |error x=>exact⟨Nat.zero_le _,fun l hl=>by cases hl⟩
 |ok x=>
   obtain⟨n,x⟩:=x
   exact(rowX_le hu).2
end Re
end Go.Proofs.YtilegoadokmcdaaGreatDoor
