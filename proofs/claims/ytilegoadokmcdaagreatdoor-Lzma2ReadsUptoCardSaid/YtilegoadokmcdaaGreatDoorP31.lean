/- Part 31 of 53: lemmas of the last part, each under the conditions that it names. -/
import Derived.Deep.RegionHeld3
import Derived.Deep.CutBlock
import Derived.Deep.DeepCutAuto
import Derived.BigQuiet
import Derived.Test.YtilegoadokmcdaaGreatDoorP17
import Derived.Test.YtilegoadokmcdaaGreatDoorP18
import Derived.Test.YtilegoadokmcdaaGreatDoorP19
import Derived.Test.YtilegoadokmcdaaGreatDoorP22
import Derived.Test.YtilegoadokmcdaaGreatDoorP24
import Derived.Test.YtilegoadokmcdaaGreatDoorP28
set_option linter.unusedVariables false
set_option linter.unusedSimpArgs false
set_option maxRecDepth 1500
set_option maxHeartbeats 4000000
namespace Go.Proofs.YtilegoadokmcdaaGreatDoor
open Go.RowKit
namespace Rf
open Mem Rc Prob St Win Ck Wire Lz
def getN(n a0 a1 a2 a3 a4 a5:Nat):Head×Nat×Nat:=
 if n=0 then(Head.none,0,1) else if a0=0 then(Head.none,1,0)
 else if a0≤2 then if n<3 then(Head.none,0,1) else(⟨a0,a1*256+a2+1,a1*256+a2+1,0,0,0⟩,3,0)
 else if a0<128 then(Head.none,0,2)
 else if n<5 then(Head.none,0,1)
 else if(a0-128)/32<2 then(⟨3+(a0-128)/32,a0%32*65536+(a1*256+a2)+1,a3*256+a4+1,0,0,0⟩,5,0)
 else if n<6 then(Head.none,0,1)
 else if St.bytePropsOk a5 then(⟨3+(a0-128)/32,a0%32*65536+(a1*256+a2)+1,a3*256+a4+1,a5%9,a5/9%5,a5/45⟩,6,0)
 else(Head.none,0,2)
theorem get_getN(xs:List UInt8):Ck.get (xs.take 6)=getN xs.length (xs.getD 0 0).toNat (xs.getD 1 0).toNat (xs.getD 2 0).toNat (xs.getD 3 0).toNat (xs.getD 4 0).toNat (xs.getD 5 0).toNat:=by
 match xs with
 |[]=>simp[Ck.get,getN]
 |[a]=>simp[Ck.get,getN]
 |[a,b]=>simp[Ck.get,getN]
 |[a,b,c]=>simp[Ck.get,getN,beV]
 |[a,b,c,d]=>simp[Ck.get,getN,beV]
 |[a,b,c,d,e]=>simp[Ck.get,getN,beV]
 |a::b::c::d::e::f::r=>
   have e1:¬(r.length+1+1+1+1+1+1<3):=by omega
   have e2:¬(r.length+1+1+1+1+1+1<5):=by omega
   have e3:¬(r.length+1+1+1+1+1+1<6):=by omega
   simp[Ck.get,getN,beV,e1,e2,e3]
theorem six_fr(w:World)(z:Nat)(a b c d e f:Value):Fr (fun k=>k=z) w ((((((w.setCell ⟨z,0,none⟩ a).setCell ⟨z,1,none⟩ b).setCell ⟨z,2,none⟩ c).setCell ⟨z,3,none⟩ d).setCell ⟨z,4,none⟩ e).setCell ⟨z,5,none⟩ f):=
 ((((((Fr.one _ _ _ _).trans (Fr.one _ _ _ _)).trans (Fr.one _ _ _ _)).trans (Fr.one _ _ _ _)).trans (Fr.one _ _ _ _)).trans (Fr.one _ _ _ _))
theorem rd_cells{w:World}{b o n cap:Nat}{xs:List UInt8}(hr:Rd w (.slice (some ⟨b,o,none⟩) n cap) xs)(i:Nat)(hi:i<xs.length):w.cell? ⟨b,o+i,none⟩=some (.int .u8 ((xs.getD i 0).toNat:Int)):=by
 obtain⟨b',o',hp,hc⟩:=get_at hr i hi
 simp only[Option.some.injEq,Addr.mk.injEq,and_true] at hp
 obtain⟨rfl,rfl⟩:=hp
 exact hc
theorem rd_off0{w w':World}{z:Nat}(h:Fr (fun _=>False) w w'){w2:World}(hz:w.heap.size≤z)(hf:Fr (fun k=>k=z) w' w2):Fr (fun _=>False) w w2:=h.trans' hf (fun k hk(e:k=z)=>by omega)
def GetC(W:World)(p:Option Addr)(n a0 a1 a2 a3 a4 a5:Nat):Prop:=
 n≠0→∃b o,p=some ⟨b,o,none⟩∧W.cell? ⟨b,o,none⟩=some (.int .u8 a0)∧(3≤n→W.cell? ⟨b,o+1,none⟩=some (.int .u8 a1)∧W.cell? ⟨b,o+2,none⟩=some (.int .u8 a2))∧(5≤n→W.cell? ⟨b,o+3,none⟩=some (.int .u8 a3)∧W.cell? ⟨b,o+4,none⟩=some (.int .u8 a4))∧(6≤n→W.cell? ⟨b,o+5,none⟩=some (.int .u8 a5))
theorem getC_of{W:World}{p:Option Addr}{cap:Nat}{xs:List UInt8}(hr:Rd W (.slice p xs.length cap) xs):GetC W p xs.length (xs.getD 0 0).toNat (xs.getD 1 0).toNat (xs.getD 2 0).toNat (xs.getD 3 0).toNat (xs.getD 4 0).toNat (xs.getD 5 0).toNat:=by
 intro hn
 obtain⟨b,o,rfl,hc⟩:=get_at hr 0 (by omega)
 exact⟨b,o,rfl,hc,fun h=>⟨rd_cells hr 1 (by omega),rd_cells hr 2 (by omega)⟩,fun h=>⟨rd_cells hr 3 (by omega),rd_cells hr 4 (by omega)⟩,fun h=>rd_cells hr 5 (by omega)⟩
set_option maxRecDepth 100000 in
theorem rget_calls(v:Value)(xs:List UInt8)(w:World)(hr:Rd w v xs):Calls Tryz.prog 53 #[v] w fun e w'=>e=.returned (.tuple #[.agg (Ck.get (xs.take 6)).1.cells,.int .i64 (Ck.get (xs.take 6)).2.1,.int .i64 (Ck.get (xs.take 6)).2.2])∧Fr (fun _=>False) w w':=by
 rw[get_getN]
 have hf:=(Fr.refl (fun _=>False) w).alloc (.cells #[.int .i64 0,.int .i64 0,.int .i64 0,.int .i64 0,.int .i64 0,.int .i64 0] 52)
 have hx:=heap_alloc_new w (.cells #[.int .i64 0,.int .i64 0,.int .i64 0,.int .i64 0,.int .i64 0,.int .i64 0] 52)
 have hrW:=hr.keep hf
 obtain⟨p,cap,rfl,hc1,hc2,hc3⟩:=hr
 obtain⟨r0,r1,r2,r3,r4,r5,rf⟩:=cf6 hx rfl rfl rfl rfl rfl rfl
 have HX:=Hd hx
 have HF:=Hd hf
 have hxl:xs.length≤9223372036854775807:=by simp only[maxLen] at hc2;omega
 have HGC:=Hd (fun W'(h:Fr (fun _=>False) _ W')=>getC_of (hrW.keep h))
 have hb0:=UInt8.toNat_lt (xs.getD 0 0)
 have hb1:=UInt8.toNat_lt (xs.getD 1 0)
 have hb2:=UInt8.toNat_lt (xs.getD 2 0)
 have hb3:=UInt8.toNat_lt (xs.getD 3 0)
 have hb4:=UInt8.toNat_lt (xs.getD 4 0)
 have hb5:=UInt8.toNat_lt (xs.getD 5 0)
 obtain⟨g,hg⟩:∃g,g=getN xs.length (xs.getD 0 0).toNat (xs.getD 1 0).toNat (xs.getD 2 0).toNat (xs.getD 3 0).toNat (xs.getD 4 0).toNat (xs.getD 5 0).toNat:=⟨_,rfl⟩
 rw[←hg]
 have HG:=Hd hg
 obtain⟨post,hpost⟩:∃post:Ending→World→Prop,post=fun e w'=>e=.returned (.tuple #[.agg g.1.cells,.int .i64 g.2.1,.int .i64 g.2.2])∧Fr (fun _=>False) w w':=⟨_,rfl⟩
 have HP:Hid (∀(k sz pk lc lp pb n er:Int)(W:World),k=g.1.kind→sz=g.1.size→pk=g.1.packed→lc=g.1.lc→lp=g.1.lp→pb=g.1.pb→n=g.2.1→er=g.2.2→Fr (fun _=>False) w W→post (.returned (.tuple #[.agg #[.int .i64 k,.int .i64 sz,.int .i64 pk,.int .i64 lc,.int .i64 lp,.int .i64 pb],.int .i64 n,.int .i64 er])) W):=Hd (fun k sz pk lc lp pb n er W h1 h2 h3 h4 h5 h6 h7 h8 hf=>by
  rw[hpost,h1,h2,h3,h4,h5,h6,h7,h8]
  exact⟨rfl,hf⟩)
 rw[←hpost]
 have HBP:=fun(W:World)=>Hd (byteProps_calls (xs.getD 5 0).toNat hb5 W)
 clear hpost hf hg hrW hc1 hc2 hc3 hx
 generalize(xs.getD 0 0).toNat=a0 at*
 generalize(xs.getD 1 0).toNat=a1 at*
 generalize(xs.getD 2 0).toNat=a2 at*
 generalize(xs.getD 3 0).toNat=a3 at*
 generalize(xs.getD 4 0).toNat=a4 at*
 generalize(xs.getD 5 0).toNat=a5 at*
 generalize xs.length=n at*
 go_enter Tryz.func53,Tryz.ntmps53
 go_upto_region 1 with fail
 generalize hz:w.heap.size=z at*
 have HZ:=Hd hz
 clear hz
 generalize World.alloc w _=W at*
 have FIN:Hid (∀(k sz pk lc lp pb m er:Int)(wk:World)(v0 v1 v2 v3 v4 v5:Value),k=g.1.kind→sz=g.1.size→pk=g.1.packed→lc=g.1.lc→lp=g.1.lp→pb=g.1.pb→m=g.2.1→er=g.2.2→Fr (fun k=>k=z) W wk→post (.returned (.tuple #[.agg #[.int .i64 k,.int .i64 sz,.int .i64 pk,.int .i64 lc,.int .i64 lp,.int .i64 pb],.int .i64 m,.int .i64 er])) ((((((wk.setCell ⟨z,0,none⟩ v0).setCell ⟨z,1,none⟩ v1).setCell ⟨z,2,none⟩ v2).setCell ⟨z,3,none⟩ v3).setCell ⟨z,4,none⟩ v4).setCell ⟨z,5,none⟩ v5)):=
  Hd (fun k sz pk lc lp pb m er wk v0 v1 v2 v3 v4 v5 h1 h2 h3 h4 h5 h6 h7 h8 hf=>HP.out _ _ _ _ _ _ _ _ _ h1 h2 h3 h4 h5 h6 h7 h8 (rd_off0 HF.out (Nat.le_of_eq HZ.out) (hf.trans (six_fr wk z v0 v1 v2 v3 v4 v5))))
 by_cases h0:n=0
 ·have hg:=HG.out.trans (if_pos h0)
  have HGG:=Hd hg
  clear hg
  subst h0
  go_wp2_with fail
  refine bodyPost_ret (v:=.tuple #[.agg #[.int .i64 0,.int .i64 0,.int .i64 0,.int .i64 0,.int .i64 0,.int .i64 0],.int .i64 0,.int .i64 1]) (by simp[results,Tryz.results53,go_sem,r0,r1,r2,r3,r4,r5]) rfl ?_
  exact FIN.out _ _ _ _ _ _ _ _ _ _ _ _ _ _ _ (by rw[HGG.out];rfl) (by rw[HGG.out];rfl) (by rw[HGG.out];rfl) (by rw[HGG.out];rfl) (by rw[HGG.out];rfl) (by rw[HGG.out];rfl) (by rw[HGG.out];rfl) (by rw[HGG.out];rfl) (Fr.refl _ _)
 obtain⟨b,o,rfl,k0,k12,k34,k5⟩:=HGC.out W (Fr.refl _ _) h0
 have HG1:=Hd (HG.out.trans (if_neg h0))
 have HK12:=Hd k12
 have HK34:=Hd k34
 have HK5:=Hd k5
 clear k12 k34 k5
 by_cases h1:a0=0
 ·have hg:=HG1.out.trans (if_pos h1)
  have HGG:=Hd hg
  clear hg
  subst h1
  go_wp2_with fail
  refine bodyPost_ret (v:=.tuple #[.agg #[.int .i64 0,.int .i64 0,.int .i64 0,.int .i64 0,.int .i64 0,.int .i64 0],.int .i64 1,.int .i64 0]) (by simp[results,Tryz.results53,go_sem,r0,r1,r2,r3,r4,r5]) rfl ?_
  exact FIN.out _ _ _ _ _ _ _ _ _ _ _ _ _ _ _ (by rw[HGG.out];rfl) (by rw[HGG.out];rfl) (by rw[HGG.out];rfl) (by rw[HGG.out];rfl) (by rw[HGG.out];rfl) (by rw[HGG.out];rfl) (by rw[HGG.out];rfl) (by rw[HGG.out];rfl) (Fr.refl _ _)
 have HG2:=Hd (HG1.out.trans (if_neg h1))
 by_cases h2:a0≤2
 ·have HG3:=Hd (HG2.out.trans (if_pos h2))
  by_cases h3:n<3
  ·have hg:=HG3.out.trans (if_pos h3)
   have HGG:=Hd hg
   clear hg
   go_wp2_with fail
   refine bodyPost_ret (v:=.tuple #[.agg #[.int .i64 0,.int .i64 0,.int .i64 0,.int .i64 0,.int .i64 0,.int .i64 0],.int .i64 0,.int .i64 1]) (by simp[results,Tryz.results53,go_sem,r0,r1,r2,r3,r4,r5]) rfl ?_
   exact FIN.out _ _ _ _ _ _ _ _ _ _ _ _ _ _ _ (by rw[HGG.out];rfl) (by rw[HGG.out];rfl) (by rw[HGG.out];rfl) (by rw[HGG.out];rfl) (by rw[HGG.out];rfl) (by rw[HGG.out];rfl) (by rw[HGG.out];rfl) (by rw[HGG.out];rfl) (Fr.refl _ _)
  ·have hg:=HG3.out.trans (if_neg h3)
   have HGG:=Hd hg
   clear hg
   obtain⟨k1,k2⟩:=HK12.out (by omega)
   go_wp2_with fail
   go_quiet (fail)
   generalize hwq:W.drewN nq=Wq at*
   have HQ:=Hd (show Fr (fun k=>k=z) W Wq from hwq ▸ (Fr.refl _ W).drewN nq)
   have hxq:Wq.heap[z]? =some (.cells #[.int .i64 0,.int .i64 0,.int .i64 0,.int .i64 0,.int .i64 0,.int .i64 0] 52 (0,0)):=by rw[←hwq];simpa using HX.out
   obtain⟨r0,r1,r2,r3,r4,r5,rf⟩:=cf6 hxq rfl rfl rfl rfl rfl rfl
   have HXQ:=Hd hxq
   clear hxq
   clear hwq
   go_wp2_with fail
   refine bodyPost_ret (v:=.tuple #[.agg #[.int .i64 a0,.int .i64 (256*(a1:Int)+a2+1),.int .i64 (256*(a1:Int)+a2+1),.int .i64 0,.int .i64 0,.int .i64 0],.int .i64 3,.int .i64 0]) (by simp[results,Tryz.results53,go_sem,r0,r1,r2,r3,r4,r5]) rfl ?_
   exact FIN.out _ _ _ _ _ _ _ _ _ _ _ _ _ _ _ (by rw[HGG.out]) (by rw[HGG.out];simp only;omega) (by rw[HGG.out];simp only;omega) (by rw[HGG.out];rfl) (by rw[HGG.out];rfl) (by rw[HGG.out];rfl) (by rw[HGG.out];rfl) (by rw[HGG.out];rfl) HQ.out
 have HG3:=Hd (HG2.out.trans (if_neg h2))
 by_cases h3:a0<128
 ·have HGG:=Hd (HG3.out.trans (if_pos h3))
  go_wp2_with fail
  refine bodyPost_ret (v:=.tuple #[.agg #[.int .i64 0,.int .i64 0,.int .i64 0,.int .i64 0,.int .i64 0,.int .i64 0],.int .i64 0,.int .i64 2]) (by simp[results,Tryz.results53,go_sem,r0,r1,r2,r3,r4,r5]) rfl ?_
  exact FIN.out _ _ _ _ _ _ _ _ _ _ _ _ _ _ _ (by rw[HGG.out];rfl) (by rw[HGG.out];rfl) (by rw[HGG.out];rfl) (by rw[HGG.out];rfl) (by rw[HGG.out];rfl) (by rw[HGG.out];rfl) (by rw[HGG.out];rfl) (by rw[HGG.out];rfl) (Fr.refl _ _)
 have HG4:=Hd (HG3.out.trans (if_neg h3))
 by_cases h4:n<5
 ·have HGG:=Hd (HG4.out.trans (if_pos h4))
  by_cases h5:a0<192
  ·go_wp2_with fail
   refine bodyPost_ret (v:=.tuple #[.agg #[.int .i64 0,.int .i64 0,.int .i64 0,.int .i64 0,.int .i64 0,.int .i64 0],.int .i64 0,.int .i64 1]) (by simp[results,Tryz.results53,go_sem,r0,r1,r2,r3,r4,r5]) rfl ?_
   exact FIN.out _ _ _ _ _ _ _ _ _ _ _ _ _ _ _ (by rw[HGG.out];rfl) (by rw[HGG.out];rfl) (by rw[HGG.out];rfl) (by rw[HGG.out];rfl) (by rw[HGG.out];rfl) (by rw[HGG.out];rfl) (by rw[HGG.out];rfl) (by rw[HGG.out];rfl) (Fr.refl _ _)
  ·go_wp2_with fail
   refine bodyPost_ret (v:=.tuple #[.agg #[.int .i64 0,.int .i64 0,.int .i64 0,.int .i64 0,.int .i64 0,.int .i64 0],.int .i64 0,.int .i64 1]) (by simp[results,Tryz.results53,go_sem,r0,r1,r2,r3,r4,r5]) rfl ?_
   exact FIN.out _ _ _ _ _ _ _ _ _ _ _ _ _ _ _ (by rw[HGG.out];rfl) (by rw[HGG.out];rfl) (by rw[HGG.out];rfl) (by rw[HGG.out];rfl) (by rw[HGG.out];rfl) (by rw[HGG.out];rfl) (by rw[HGG.out];rfl) (by rw[HGG.out];rfl) (Fr.refl _ _)
 have HG5:=Hd (HG4.out.trans (if_neg h4))
 obtain⟨k1,k2⟩:=HK12.out (by omega)
 obtain⟨k3,k4⟩:=HK34.out (by omega)
 by_cases h5:(a0-128)/32<2
 ·have HGG:=Hd (HG5.out.trans (if_pos h5))
  have h5:a0<192:=by omega
  go_wp2_with fail
  go_quiet (fail)
  generalize hwq:W.drewN nq=Wq at*
  have HQ:=Hd (show Fr (fun k=>k=z) W Wq from hwq ▸ (Fr.refl _ W).drewN nq)
  have hxq:Wq.heap[z]? =some (.cells #[.int .i64 0,.int .i64 0,.int .i64 0,.int .i64 0,.int .i64 0,.int .i64 0] 52 (0,0)):=by rw[←hwq];simpa using HX.out
  obtain⟨r0,r1,r2,r3,r4,r5,rf⟩:=cf6 hxq rfl rfl rfl rfl rfl rfl
  have HXQ:=Hd hxq
  clear hxq
  have k3:Wq.cell? ⟨b,o+3,none⟩=some (.int .u8 a3):=by rw[←hwq];simpa using k3
  have k4:Wq.cell? ⟨b,o+4,none⟩=some (.int .u8 a4):=by rw[←hwq];simpa using k4
  have i3:(3:Int)<n:=by omega
  have i4:(4:Int)<n:=by omega
  have wr3:IntKind.i64.wrap (a3:Int)=a3:=IntWalk.i64_in _ (by omega)
  have wr4:IntKind.i64.wrap (a4:Int)=a4:=IntWalk.i64_in _ (by omega)
  have wr5:IntKind.i64.wrap (256*(a3:Int))=256*a3:=IntWalk.i64_in _ (by omega)
  have wr6:IntKind.i64.wrap (256*(a3:Int)+a4)=256*a3+a4:=IntWalk.i64_in _ (by omega)
  have wr7:IntKind.i64.wrap (256*(a3:Int)+a4+1)=256*a3+a4+1:=IntWalk.i64_in _ (by omega)
  have tm:(a0:Int).tmod 32=(a0:Int)%32:=Int.tmod_eq_emod_of_nonneg (by omega)
  have wa1:IntKind.i64.wrap ((a0:Int)/32)=(a0:Int)/32:=IntWalk.i64_in _ (by omega)
  have wa2:IntKind.i64.wrap (3+(a0:Int)/32)=3+(a0:Int)/32:=IntWalk.i64_in _ (by omega)
  have wa3:IntKind.i64.wrap (3+(a0:Int)/32-4)=3+(a0:Int)/32-4:=IntWalk.i64_in _ (by omega)
  have wa4:IntKind.i64.wrap (65536*((a0:Int)%32))=65536*((a0:Int)%32):=IntWalk.i64_in _ (by omega)
  have wa5:IntKind.i64.wrap (256*(a1:Int)+a2+1+65536*((a0:Int)%32))=256*(a1:Int)+a2+1+65536*((a0:Int)%32):=IntWalk.i64_in _ (by omega)
  have wa6:IntKind.i64.wrap ((a0:Int)%32)=(a0:Int)%32:=IntWalk.i64_in _ (by omega)
  have hbk:b<Wq.heap.size:=block_lt_of_cell k3
  have HKP:=Hd (show∀W':World,Fr (fun k=>Wq.heap.size≤k) Wq W'→W'.cell? ⟨b,o+3,none⟩=some (.int .u8 a3)∧W'.cell? ⟨b,o+4,none⟩=some (.int .u8 a4) from fun W' hf=>by
   have h1:=hf.block b hbk (by omega)
   exact⟨(World.cell?_of_block (w:=Wq) h1).trans k3,(World.cell?_of_block (w:=Wq) h1).trans k4⟩)
  have HSC:=Hd (HKP.out _ (Fr.refl _ Wq).drew)
  clear hwq
  go_wp2_with fail
  go_region_held3 (fun w'=>w'.cell? ⟨b,o+3,none⟩=some (.int .u8 a3)∧w'.cell? ⟨b,o+4,none⟩=some (.int .u8 a4)) (first|with_reducible exact HSC.out|(refine HKP.out _ ?_;(repeat refine Fr.setCell ?_ (by simp) _);first|exact(Fr.refl _ _).drew.alloc _|exact((Fr.refl _ _).alloc _).drew)) (fail)
  generalize hw8:World.drew (World.alloc Wq _)=W8
  have hx8:W8.heap[Wq.heap.size]? =some (.cells #[.int .i64 (3+(a0:Int)/32-4),.int .i64 (256*(a1:Int)+a2+1+65536*((a0:Int)%32)),.int .i64 (256*(a3:Int)+a4+1),.int .i64 0,.int .i64 0,.int .i64 0] 52 (0,0)):=by rw[←hw8];(try simp only[tm,wa1,wa2,wa3,wa4,wa5,wa6,wr3,wr4,wr5,wr6,wr7]);exact heap_alloc_new _ _
  have hf8:Fr (fun _=>False) Wq W8:=by rw[←hw8];exact((Fr.refl _ _).alloc _).drew
  clear hw8
  obtain⟨x0,x1,x2,x3,x4,x5⟩:=cs6 hx8 rfl rfl rfl rfl rfl rfl
  have hxz:=hf8.keep HXQ.out (fun h=>h)
  obtain⟨r0,r1,r2,r3,r4,r5,rf⟩:=cf6 hxz rfl rfl rfl rfl rfl rfl
  have HF8:=Hd hf8
  have HX8:=Hd hx8
  generalize hz8:Wq.heap.size=z8 at*
  have HZ8:=Hd hz8
  clear hx8 hf8 hz8 hxz
  go_wp2_with fail
  refine bodyPost_ret (v:=.tuple #[.agg #[.int .i64 (3+(a0:Int)/32-4),.int .i64 (256*(a1:Int)+a2+1+65536*((a0:Int)%32)),.int .i64 (256*(a3:Int)+a4+1),.int .i64 0,.int .i64 0,.int .i64 0],.int .i64 5,.int .i64 0]) (by simp[results,Tryz.results53,go_sem,r0,r1,r2,r3,r4,r5]) rfl ?_
  exact FIN.out _ _ _ _ _ _ _ _ _ _ _ _ _ _ _ (by rw[HGG.out];simp only;omega) (by rw[HGG.out];simp only;omega) (by rw[HGG.out];simp only;omega) (by rw[HGG.out];rfl) (by rw[HGG.out];rfl) (by rw[HGG.out];rfl) (by rw[HGG.out];rfl) (by rw[HGG.out];rfl) (HQ.out.trans (lift HF8.out))
 have HG6:=Hd (HG5.out.trans (if_neg h5))
 by_cases h6:n<6
 ·have HGG:=Hd (HG6.out.trans (if_pos h6))
  have h5:192≤a0:=by omega
  go_wp2_with fail
  refine bodyPost_ret (v:=.tuple #[.agg #[.int .i64 0,.int .i64 0,.int .i64 0,.int .i64 0,.int .i64 0,.int .i64 0],.int .i64 0,.int .i64 1]) (by simp[results,Tryz.results53,go_sem,r0,r1,r2,r3,r4,r5]) rfl ?_
  exact FIN.out _ _ _ _ _ _ _ _ _ _ _ _ _ _ _ (by rw[HGG.out];rfl) (by rw[HGG.out];rfl) (by rw[HGG.out];rfl) (by rw[HGG.out];rfl) (by rw[HGG.out];rfl) (by rw[HGG.out];rfl) (by rw[HGG.out];rfl) (by rw[HGG.out];rfl) (Fr.refl _ _)
 ·have HG7:=Hd (HG6.out.trans (if_neg h6))
  have k5:=HK5.out (by omega)
  have h5:192≤a0:=by omega
  go_wp2_with fail
  go_quiet (fail)
  generalize hwq:W.drewN nq=Wq at*
  have HQ:=Hd (show Fr (fun k=>k=z) W Wq from hwq ▸ (Fr.refl _ W).drewN nq)
  have hxq:Wq.heap[z]? =some (.cells #[.int .i64 0,.int .i64 0,.int .i64 0,.int .i64 0,.int .i64 0,.int .i64 0] 52 (0,0)):=by rw[←hwq];simpa using HX.out
  obtain⟨r0,r1,r2,r3,r4,r5,rf⟩:=cf6 hxq rfl rfl rfl rfl rfl rfl
  have HXQ:=Hd hxq
  clear hxq
  have k3:Wq.cell? ⟨b,o+3,none⟩=some (.int .u8 a3):=by rw[←hwq];simpa using k3
  have k4:Wq.cell? ⟨b,o+4,none⟩=some (.int .u8 a4):=by rw[←hwq];simpa using k4
  have k5:Wq.cell? ⟨b,o+5,none⟩=some (.int .u8 a5):=by rw[←hwq];simpa using k5
  have i3:(3:Int)<n:=by omega
  have i4:(4:Int)<n:=by omega
  have wr3:IntKind.i64.wrap (a3:Int)=a3:=IntWalk.i64_in _ (by omega)
  have wr4:IntKind.i64.wrap (a4:Int)=a4:=IntWalk.i64_in _ (by omega)
  have wr5:IntKind.i64.wrap (256*(a3:Int))=256*a3:=IntWalk.i64_in _ (by omega)
  have wr6:IntKind.i64.wrap (256*(a3:Int)+a4)=256*a3+a4:=IntWalk.i64_in _ (by omega)
  have wr7:IntKind.i64.wrap (256*(a3:Int)+a4+1)=256*a3+a4+1:=IntWalk.i64_in _ (by omega)
  have tm:(a0:Int).tmod 32=(a0:Int)%32:=Int.tmod_eq_emod_of_nonneg (by omega)
  have wa1:IntKind.i64.wrap ((a0:Int)/32)=(a0:Int)/32:=IntWalk.i64_in _ (by omega)
  have wa2:IntKind.i64.wrap (3+(a0:Int)/32)=3+(a0:Int)/32:=IntWalk.i64_in _ (by omega)
  have wa3:IntKind.i64.wrap (3+(a0:Int)/32-4)=3+(a0:Int)/32-4:=IntWalk.i64_in _ (by omega)
  have wa4:IntKind.i64.wrap (65536*((a0:Int)%32))=65536*((a0:Int)%32):=IntWalk.i64_in _ (by omega)
  have wa5:IntKind.i64.wrap (256*(a1:Int)+a2+1+65536*((a0:Int)%32))=256*(a1:Int)+a2+1+65536*((a0:Int)%32):=IntWalk.i64_in _ (by omega)
  have wa6:IntKind.i64.wrap ((a0:Int)%32)=(a0:Int)%32:=IntWalk.i64_in _ (by omega)
  have hbk:b<Wq.heap.size:=block_lt_of_cell k3
  have HKP:=Hd (show∀W':World,Fr (fun k=>Wq.heap.size≤k) Wq W'→W'.cell? ⟨b,o+3,none⟩=some (.int .u8 a3)∧W'.cell? ⟨b,o+4,none⟩=some (.int .u8 a4) from fun W' hf=>by
   have h1:=hf.block b hbk (by omega)
   exact⟨(World.cell?_of_block (w:=Wq) h1).trans k3,(World.cell?_of_block (w:=Wq) h1).trans k4⟩)
  have HSC:=Hd (HKP.out _ (Fr.refl _ Wq).drew)
  clear hwq
  go_wp2_with fail
  go_region_held3 (fun w'=>w'.cell? ⟨b,o+3,none⟩=some (.int .u8 a3)∧w'.cell? ⟨b,o+4,none⟩=some (.int .u8 a4)) (first|with_reducible exact HSC.out|(refine HKP.out _ ?_;(repeat refine Fr.setCell ?_ (by simp) _);first|exact(Fr.refl _ _).drew.alloc _|exact((Fr.refl _ _).alloc _).drew)) (fail)
  generalize hw8:World.drew (World.alloc Wq _)=W8
  have hx8:W8.heap[Wq.heap.size]? =some (.cells #[.int .i64 (3+(a0:Int)/32-4),.int .i64 (256*(a1:Int)+a2+1+65536*((a0:Int)%32)),.int .i64 (256*(a3:Int)+a4+1),.int .i64 0,.int .i64 0,.int .i64 0] 52 (0,0)):=by rw[←hw8];(try simp only[tm,wa1,wa2,wa3,wa4,wa5,wa6,wr3,wr4,wr5,wr6,wr7]);exact heap_alloc_new _ _
  have hf8:Fr (fun _=>False) Wq W8:=by rw[←hw8];exact((Fr.refl _ _).alloc _).drew
  clear hw8
  obtain⟨x0,x1,x2,x3,x4,x5⟩:=cs6 hx8 rfl rfl rfl rfl rfl rfl
  have k5:W8.cell? ⟨b,o+5,none⟩=some (.int .u8 a5):=(World.cell?_of_block (w:=Wq) (hf8.block b hbk (fun h=>h))).trans k5
  have hxz:=hf8.keep HXQ.out (fun h=>h)
  obtain⟨r0,r1,r2,r3,r4,r5,rf⟩:=cf6 hxz rfl rfl rfl rfl rfl rfl
  have HF8:=Hd hf8
  have HX8:=Hd hx8
  have HBP8:=HBP W8
  unfold bpPost at HBP8
  have i5:(5:Int)<n:=by omega
  clear tm wa1 wa2 wa3 wa4 wa5 wa6 wr3 wr4 wr5 wr6 wr7 HKP HSC
  generalize hz8:Wq.heap.size=z8 at*
  have HZ8:=Hd (And.intro (show z<z8 from hz8 ▸ block_lt_of_cell (cell_in (i:=0) HXQ.out rfl)) hz8)
  clear hz8 hx8 hf8
  cases hok:St.bytePropsOk a5 with
  |false=>
    rw[if_neg (by rw[hok];simp)] at HBP8
    have HGG:=Hd (HG7.out.trans (if_neg (by rw[hok];simp)))
    clear hok
    unfold propV at HBP8
    go_wp2_with fail
    refine HBP8.out.mono ?_
    rintro e w9 ⟨hf9,rfl⟩
    have hf10:=(Fr.refl (fun _=>False) w9).alloc (.cells #[.int .i64 0,.int .i64 0,.int .i64 0] 50)
    have hx10:=hf10.keep (hf9.keep HX8.out (fun h=>h)) (fun h=>h)
    have hz10:=hf10.keep (hf9.keep hxz (fun h=>h)) (fun h=>h)
    have hp10:=heap_alloc_new w9 (.cells #[.int .i64 0,.int .i64 0,.int .i64 0] 50)
    have HF10:=Hd ((HF8.out.trans hf9).trans hf10)
    have hsz:=(HF8.out.trans hf9).size
    clear x0 x1 x2 x3 x4 x5 r0 r1 r2 r3 r4 r5 rf k0 k1 k2 k3 k4 k5
    obtain⟨x0,x1,x2,x3,x4,x5,xf⟩:=cf6 hx10 rfl rfl rfl rfl rfl rfl
    obtain⟨r0,r1,r2,r3,r4,r5,rf⟩:=cf6 hz10 rfl rfl rfl rfl rfl rfl
    obtain⟨p0,p1,p2⟩:=cs3 hp10 rfl rfl rfl
    clear hf9 hf10 hx10 hz10 hp10 hxz
    go_wp2_with fail
    refine bodyPost_ret (v:=.tuple #[.agg #[.int .i64 0,.int .i64 0,.int .i64 0,.int .i64 0,.int .i64 0,.int .i64 0],.int .i64 0,.int .i64 2]) (by simp[results,Tryz.results53,go_sem,r0,r1,r2,r3,r4,r5]) rfl ?_
    exact FIN.out _ _ _ _ _ _ _ _ _ _ _ _ _ _ _ (by rw[HGG.out];rfl) (by rw[HGG.out];rfl) (by rw[HGG.out];rfl) (by rw[HGG.out];rfl) (by rw[HGG.out];rfl) (by rw[HGG.out];rfl) (by rw[HGG.out];rfl) (by rw[HGG.out];rfl) (HQ.out.trans (lift HF10.out))
  |true=>
    rw[if_pos hok] at HBP8
    have HGG:=Hd (HG7.out.trans (if_pos hok))
    clear hok
    unfold propV at HBP8
    obtain⟨q1,hq1⟩:∃q,q=a5%9:=⟨_,rfl⟩
    obtain⟨q2,hq2⟩:∃q,q=a5/9%5:=⟨_,rfl⟩
    obtain⟨q3,hq3⟩:∃q,q=a5/45:=⟨_,rfl⟩
    rw[←hq1,←hq2,←hq3] at HBP8
    have HQ1:=Hd hq1
    have HQ2:=Hd hq2
    have HQ3:=Hd hq3
    clear hq1 hq2 hq3
    go_wp2_with fail
    refine HBP8.out.mono ?_
    rintro e w9 ⟨hf9,rfl⟩
    have hf10:=(Fr.refl (fun _=>False) w9).alloc (.cells #[(.int .i64 (q1:Int)),(.int .i64 (q2:Int)),(.int .i64 (q3:Int))] 50)
    have hx10:=hf10.keep (hf9.keep HX8.out (fun h=>h)) (fun h=>h)
    have hz10:=hf10.keep (hf9.keep hxz (fun h=>h)) (fun h=>h)
    have hp10:=heap_alloc_new w9 (.cells #[(.int .i64 (q1:Int)),(.int .i64 (q2:Int)),(.int .i64 (q3:Int))] 50)
    have HF10:=Hd ((HF8.out.trans hf9).trans hf10)
    have hsz:=(HF8.out.trans hf9).size
    clear x0 x1 x2 x3 x4 x5 r0 r1 r2 r3 r4 r5 rf k0 k1 k2 k3 k4 k5
    obtain⟨x0,x1,x2,x3,x4,x5,xf⟩:=cf6 hx10 rfl rfl rfl rfl rfl rfl
    obtain⟨r0,r1,r2,r3,r4,r5,rf⟩:=cf6 hz10 rfl rfl rfl rfl rfl rfl
    obtain⟨p0,p1,p2⟩:=cs3 hp10 rfl rfl rfl
    clear hf9 hf10 hx10 hz10 hp10 hxz
    have hzz:z8≠z:=by have:=HZ8.out.1;omega
    have hzz2:z≠z8:=Ne.symm hzz
    go_wp2_with fail
    refine bodyPost_ret (v:=.tuple #[.agg #[(.int .i64 (3+(a0:Int)/32-4)),(.int .i64 (256*(a1:Int)+a2+1+65536*((a0:Int)%32))),(.int .i64 (256*(a3:Int)+a4+1)),(.int .i64 (q1:Int)),(.int .i64 (q2:Int)),(.int .i64 (q3:Int))],.int .i64 6,.int .i64 0]) (by simp[results,Tryz.results53,go_sem,r0,r1,r2,r3,r4,r5]) rfl ?_
    refine FIN.out _ _ _ _ _ _ _ _ _ _ _ _ _ _ _ (by rw[HGG.out];simp only;omega) (by rw[HGG.out];simp only;omega) (by rw[HGG.out];simp only;omega) (by rw[HGG.out,HQ1.out]) (by rw[HGG.out,HQ2.out]) (by rw[HGG.out,HQ3.out]) (by rw[HGG.out];rfl) (by rw[HGG.out];rfl) ?_
    refine(HQ.out.trans (lift HF10.out)).trans' (((Fr.one _ z8 3 _).trans (Fr.one _ _ _ _)).trans (Fr.one _ _ _ _)) (fun k hk(e:k=z8)=> ?_)
    have h1:=HZ8.out.2
    have h2:=HQ.out.size
    omega
end Rf
namespace Ck
open Mem Wire Win
def US.start(dict:Nat):US:=⟨⟨0,0,0,St.S.new,dict,[]⟩,Lz.fresh 0 0,(0,0,0),[]⟩
def unpackP(b:List UInt8)(dict packed size:Int):Except (Nat×Nat) (Nat×List UInt8):=
 if dict<1∨4294967295<dict∨packed< -1∨size< -1 then .error (0,7)
 else match readP b packed size (b.length+2) ⟨0,0,0⟩ (US.start dict.toNat) with
  |.error x=>.error x
  |.ok (n,u)=>.ok (n,u.out)
def UnpackPost(w0 w:World)(Vb:Nat)(res:Except (Nat×Nat) (Nat×List UInt8))(e:Ending)(w':World):Prop:=
 Fr (fun k=>w0.heap.size≤k) w w'∧match res with
  |.error (p,er)=>er≠0∧e=.returned (.tuple #[.int .i64 p,.int .i64 er])
  |.ok (n,out)=>e=.returned (.tuple #[.int .i64 n,.int .i64 0])∧∃ov,OutAt w' Vb ov∧Mine w0 w' ov out
set_option maxRecDepth 100000 in
theorem unpack_calls(b:List UInt8)(dict packed size:Int)(w0 w:World)(Vb:Nat)(bv:Value)(hO:OutAt w Vb (.slice none 0 0))(hV:w0.heap.size≤Vb)(h0:w0.heap.size≤w.heap.size)(hT:St.Tabs w)(hT0:5≤w0.heap.size)(hr:Rd w bv b)(hbv:0<b.length→∀k,bv.ownBlock=some k→k<w0.heap.size)(hM:Moves w)(hb:b.length≤4194304):
 Calls Tryz.prog 16 #[bv,.int .i64 dict,.int .i64 packed,.int .i64 size,.func (.func 17) #[] #[Lz.ptr Vb]] w (UnpackPost w0 w Vb (unpackP b dict packed size)):=by
 have hmf:∀(fn:Fn)(first cap:Array Value)(w:World),(Instr.makeFunc fn first cap).run Tryz.prog w=.ok (.func fn first cap) w:=fun _ _ _ _=>rfl
 obtain⟨res,hres⟩:∃res,res=unpackP b dict packed size:=⟨_,rfl⟩
 rw[←hres]
 unfold unpackP at hres
 obtain⟨bp,bc,rfl,hbc1,hbc2,hbc3⟩:=hr
 have hr:Rd w (.slice bp b.length bc) b:=⟨bp,bc,rfl,hbc1,hbc2,hbc3⟩
 clear hbc1 hbc2 hbc3
 have hf1:=(Fr.refl (fun _=>False) w).alloc (.cells #[.func (.func 17) #[] #[Lz.ptr Vb]] 54)
 have hx1:=heap_alloc_new w (.cells #[.func (.func 17) #[] #[Lz.ptr Vb]] 54)
 have HF1:=Hd hf1
 have HX1:=Hd hx1
 have HR:=Hd hr
 have HO:=Hd hO
 have HT:=Hd hT
 have HM:=Hd hM
 have HRES:=Hd hres
 have HBV:=Hd hbv
 clear hf1 hx1 hr hO hT hM hres hbv
 by_cases hd:dict<1∨4294967295<dict
 ·have HN:=fun W=>Hd (Lz.dnew_out dict W hd)
  have HRE:=Hd (HRES.out.trans (if_pos (by rcases hd with h|h;exact .inl h;exact .inr (.inl h))))
  clear hd
  go_enter Tryz.func16,Tryz.ntmps16
  go_wp2_with fail
  refine(HN _).out.mono ?_
  rintro e w2 ⟨hfr,rfl⟩
  have HF:=Hd (HF1.out.trans hfr)
  clear hfr
  go_wp2_with fail
  go_ret2
  rw[HRE.out]
  exact⟨(HF.out.alloc _).mono (fun _ _ h=>h.elim),by decide,rfl⟩
 ·obtain⟨dn,rfl⟩:∃dn:Nat,dict=dn:=⟨dict.toNat,by omega⟩
  have HN:=fun W=>Hd (Lz.dnew_in dn W (by omega) (by omega))
  go_enter Tryz.func16,Tryz.ntmps16
  go_wp2_with fail
  refine(HN _).out.mono ?_
  rintro e w2 ⟨hfr,l,rfl,hdec,hlow⟩
  have hf3:=(Fr.refl (fun _=>False) w2).alloc (.cells #[Lz.ptr l.D] 69)
  have hx3:=heap_alloc_new w2 (.cells #[Lz.ptr l.D] 69)
  have hs1:=HF1.out.size
  have hs2:=hfr.size
  have HF:=Hd ((HF1.out.trans hfr).trans hf3)
  by_cases hpk:packed< -1
  ·have HRE:=Hd (HRES.out.trans (if_pos (.inr (.inr (.inl hpk)))))
   clear hfr hdec hlow hf3 hx3
   go_wp2_with fail
   go_ret2
   rw[HRE.out]
   exact⟨HF.out.mono (fun _ _ h=>h.elim),by decide,rfl⟩
  ·by_cases hsz:size< -1
   ·have HRE:=Hd (HRES.out.trans (if_pos (.inr (.inr (.inr hsz)))))
    clear hfr hdec hlow hf3 hx3
    go_wp2_with fail
    go_ret2
    rw[HRE.out]
    exact⟨HF.out.mono (fun _ _ h=>h.elim),by decide,rfl⟩
   ·have HRE:=Hd (HRES.out.trans (if_neg (show¬((dn:Int)<1∨4294967295<(dn:Int)∨packed< -1∨size< -1) from fun h=>by
     rcases h with h|h|h|h
     ·exact hd (.inl h)
     ·exact hd (.inr h)
     ·exact hpk h
     ·exact hsz h)))
    rw[Int.toNat_natCast] at HRE
    have hf4:=(Fr.refl (fun _=>False) (w2.alloc (.cells #[Lz.ptr l.D] 69))).alloc (.cells #[.int .i64 0,.int .i64 0,.int .i64 0] 50)
    have hx4:=heap_alloc_new (w2.alloc (.cells #[Lz.ptr l.D] 69)) (.cells #[.int .i64 0,.int .i64 0,.int .i64 0] 50)
    simp only[World.size_alloc] at hx4 hs1 hs2 hlow
    have hf14:=(HF.out).trans hf4
    have hU:UAt w0 ((w2.alloc (.cells #[Lz.ptr l.D] 69)).alloc (.cells #[.int .i64 0,.int .i64 0,.int .i64 0] 50)) w2.heap.size (w2.heap.size+1) w.heap.size Vb l (.slice none 0 0) (US.start dn):=by
     refine⟨hf4.keep hx3 (fun h=>h),hx4,hf4.keep (hf3.keep (hfr.keep HX1.out (fun h=>h)) (fun h=>h)) (fun h=>h),(hdec.keep0 hf3).keep0 hf4,hf14.keep HO.out (fun h=>h),Mine.nil _ _,HT.out.keep hf14,fun k hk=> ?_,hT0,⟨by omega,by omega,h0,hV⟩,fun k hk=>by simp[Value.ownBlock] at hk,by simp[US.start],Nat.le_trans h0 hf14.size⟩
     have:=hlow k hk
     omega
    have HRC:=Hd (read_calls b packed size w0 _ w2.heap.size (w2.heap.size+1) w.heap.size Vb l (.slice none 0 0) (.slice bp b.length bc) (US.start dn) hU (HR.out.keep hf14) HBV.out (HM.out.step hf14 (fun _ h=>h.elim)) hb rfl rfl)
    have HF14:=Hd hf14
    clear hfr hdec hlow hf3 hx3 hf4 hx4 hf14 hU
    unfold ReadPost at HRC
    cases hrp:readP b packed size (b.length+2) ⟨0,0,0⟩ (US.start dn) with
    |error x=>
      obtain⟨p,er⟩:=x
      rw[hrp] at HRC HRE
      simp only at HRC HRE
      clear hrp
      go_wp2_with fail
      refine HRC.out.mono ?_
      rintro e w5 ⟨hfr5,her,rfl⟩
      have HF5:=Hd ((HF14.out.mono (T:=fun k=>w0.heap.size≤k) (fun _ _ h=>h.elim)).trans hfr5)
      have HER:=Hd her
      clear hfr5 her
      go_wp2_with fail
      go_ret2
      rw[HRE.out]
      exact⟨HF5.out,HER.out,rfl⟩
    |ok x=>
      obtain⟨n,u2⟩:=x
      rw[hrp] at HRC HRE
      simp only at HRC HRE
      clear hrp
      go_wp2_with fail
      refine HRC.out.mono ?_
      rintro e w5 ⟨hfr5,rfl,l2,ov2,hU2⟩
      have HF5:=Hd ((HF14.out.mono (T:=fun k=>w0.heap.size≤k) (fun _ _ h=>h.elim)).trans hfr5)
      have HU2:=Hd hU2
      clear hfr5 hU2
      go_wp2_with fail
      go_ret2
      rw[HRE.out]
      exact⟨HF5.out,rfl,ov2,HU2.out.out,HU2.out.mine⟩
def DecodePost(w:World)(res:Except (Nat×Nat) (Nat×List UInt8))(e:Ending)(w':World):Prop:=
 Fr (fun _=>False) w w'∧match res with
  |.error (p,er)=>er≠0∧e=.returned (.tuple #[.slice none 0 0,.int .i64 p,.int .i64 er])
  |.ok (n,out)=>∃v,e=.returned (.tuple #[v,.int .i64 n,.int .i64 0])∧Mine w w' v out
set_option maxRecDepth 100000 in
theorem decode_calls(b:List UInt8)(dict packed size:Int)(w:World)(bv:Value)(hT:St.Tabs w)(hr:Rd w bv b)(hM:Moves w)(hb:b.length≤4194304):
 Calls Tryz.prog 5 #[bv,.int .i64 dict,.int .i64 packed,.int .i64 size] w (DecodePost w (unpackP b dict packed size)):=by
 have hmf:∀(fn:Fn)(first cap:Array Value)(w:World),(Instr.makeFunc fn first cap).run Tryz.prog w=.ok (.func fn first cap) w:=fun _ _ _ _=>rfl
 obtain⟨bp,bc,rfl,hbc1,hbc2,hbc3⟩:=hr
 have hr:Rd w (.slice bp b.length bc) b:=⟨bp,bc,rfl,hbc1,hbc2,hbc3⟩
 clear hbc1 hbc2 hbc3
 have hf1:=(Fr.refl (fun _=>False) w).alloc (.cells #[.slice none 0 0] 22)
 have hx1:=heap_alloc_new w (.cells #[.slice none 0 0] 22)
 have HUC:=Hd (unpack_calls b dict packed size w _ w.heap.size (.slice bp b.length bc) hx1 (Nat.le_refl _) hf1.size (hT.keep hf1) hT.size (hr.keep hf1) (fun h0 k hk=>rd_lt hr h0 k hk) (hM.step hf1 (fun _ h=>h.elim)) hb)
 have HF1:=Hd hf1
 clear hf1 hx1 hT hr hM
 unfold UnpackPost at HUC
 unfold DecodePost
 cases hup:unpackP b dict packed size with
 |error x=>
   obtain⟨p,er⟩:=x
   rw[hup] at HUC
   simp only at HUC
   clear hup
   go_enter Tryz.func5,Tryz.ntmps5
   go_wp2_with fail
   refine HUC.out.mono ?_
   rintro e w2 ⟨hfr,her,rfl⟩
   have HF:=Hd (HF1.out.trans' hfr (fun i hi(h:w.heap.size≤i)=>by omega))
   have hne:((er:Int) !=0)=true:=by simp[her]
   have HER:=Hd her
   clear hfr her
   go_wp2_with fail
   go_ret3
   exact⟨HF.out,HER.out,rfl⟩
 |ok x=>
   obtain⟨n,out⟩:=x
   rw[hup] at HUC
   simp only at HUC
   clear hup
   go_enter Tryz.func5,Tryz.ntmps5
   go_wp2_with fail
   refine HUC.out.mono ?_
   rintro e w2 ⟨hfr,rfl,ov,hO,hM⟩
   have HF:=Hd (HF1.out.trans' hfr (fun i hi(h:w.heap.size≤i)=>by omega))
   have c0:=cell_in (i:=0) hO rfl
   have HM:=Hd hM
   clear hfr hO hM
   go_wp2_with fail
   go_ret3
   exact⟨HF.out,_,rfl,HM.out⟩
end Ck
end Go.Proofs.YtilegoadokmcdaaGreatDoor
