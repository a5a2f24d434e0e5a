/- Part 13 of 52: lemmas of the last part, each under the conditions that it names. -/
import Derived.LoopN
import Derived.Test.YtffoddpjfgjelaaGreatDoorP02
import Derived.Test.YtffoddpjfgjelaaGreatDoorP12
set_option linter.unusedVariables false
set_option linter.unusedSimpArgs false
set_option maxRecDepth 1500
set_option maxHeartbeats 4000000
namespace Go.Proofs.YtffoddpjfgjelaaGreatDoor
open Go.RowKit
namespace Rc
open Mem
theorem three(w:World)(o1 o2 o3:Obj):Fr (fun _=>False) w (((w.alloc o1).alloc o2).alloc o3)∧(((w.alloc o1).alloc o2).alloc o3).heap.size=w.heap.size+3∧
 (((w.alloc o1).alloc o2).alloc o3).heap[w.heap.size]? =some o1∧(((w.alloc o1).alloc o2).alloc o3).heap[w.heap.size+1]? =some o2∧(((w.alloc o1).alloc o2).alloc o3).heap[w.heap.size+1+1]? =some o3:=by
 have k:=fun(W:World)(o:Obj)=>(Fr.refl (fun _=>False) W).alloc o
 have h1:=heap_alloc_new w o1
 have h2:=heap_alloc_new (w.alloc o1) o2
 have h3:=heap_alloc_new ((w.alloc o1).alloc o2) o3
 simp only[World.size_alloc] at h2 h3
 exact⟨((k w o1).alloc o2).alloc o3,by simp,((k _ o2).alloc o3).keep h1 (fun h=>h),(k _ o3).keep h2 (fun h=>h),h3⟩
def directV:Except Nat (Nat×D)→Value
 |.ok (v,_)=>.tuple #[.int .u32 v,.int .i64 0]
 |.error x=>.tuple #[.int .u32 0,.int .i64 x]
def directD(d:D):Except Nat (Nat×D)→D
 |.ok (_,e)=>e
 |.error _=>d
theorem or_one(v:Nat)(h:v<2147483648):bits BinOp.or IntKind.u32 ((v:Int)*2) 1=((2*v+1:Nat):Int):=by
 have:=bits_or_u32_nat (v*2) 1 (by omega) (by omega)
 have e:((v*2:Nat):Int)=(v:Int)*2:=by omega
 rw[e] at this
 rw[show(1:Int)=((1:Nat):Int) by rfl,this]
 congr 1
 rw[Nat.mul_comm,show(2:Nat)=2^1 by rfl,←Nat.two_pow_add_eq_or_of_lt (by omega)]
theorem direct_panicked(B z n x:Nat)(bv:Value)(d e:D)(r:Except Nat (Nat×D))(w W w10:World)(a:Act)(v0:Int)(hz:w.heap.size=z)(hBl:B<z)(hx:x≠0)(hr:r=.error x)
 (ha4:a.tmps[4]? =some (.pointer (some ⟨z+1,0,none⟩)))(ha5:a.tmps[5]? =some (.pointer (some ⟨z+1+1,0,none⟩)))
 (had:a.defers=[{target:=.fn (Fn.func 310) #[.pointer (some ⟨z,0,none⟩),.pointer (some ⟨z+1+1,0,none⟩),.pointer (some ⟨z+1,0,none⟩)],args:=#[placeV d]}])
 (hF:Fr (fun _=>False) w W)(hF10:Fr (fun k=>k=B∨k=z+1) W w10)(hA:At w10 B bv e)(he:e.b=d.b)(h0:0<d.b.length)
 (hb1:W.heap[z]? =some (.cells #[.pointer (some ⟨B,0,none⟩)] 339 (0,0)))(hb2:w10.heap[z+1]? =some (.cells #[.int .u32 v0] 180 (0,0)))(hb3:W.heap[z+1+1]? =some (.cells #[.int .i64 0] 28 (0,0))):
 bodyPostD Tryz.prog Tryz.f297 (fun q w'=>q=.returned (directV r)∧Fr (fun k=>k=B) w w'∧At w' B bv (directD d r)) (Exit.panic [{v:=refusedV x,recovered:=false}]) a w10:=by
 obtain⟨tmps,defers⟩:=a
 simp only at ha4 ha5 had
 subst had
 refine leaves_cons (f:=310) (args:=#[placeV d,.pointer (some ⟨z,0,none⟩),.pointer (some ⟨z+1+1,0,none⟩),.pointer (some ⟨z+1,0,none⟩)]) (by simp) (by simp[go_sem,placeV]) ?_
 refine(dcatch_bad B z (z+1+1) (z+1) bv e d x v0 0 [] w10 hA (by rw[he];exact h0) he.symm (hF10.keep hb1 (fun h=>by omega)) (hF10.keep hb3 (fun h=>by omega)) hb2 hx).mono ?_
 rintro q u w12 ⟨rfl,rfl,hfr12,hA12,he12,hb12⟩
 have m1:=cell_in (i:=0) hb12 rfl
 have m2:=cell_in (i:=0) he12 rfl
 simp[Leaves,settle,results,Tryz.results297,go_sem,m1,m2,ha4,ha5]
 subst hr
 exact⟨rfl,(hF.mono (fun _ _ h=>h.elim)).trans' ((hF10.mono (T:=fun k=>k=B∨k=z+1+1∨k=z+1) (fun _ _ h=>by omega)).trans hfr12) (fun k hk h=>by omega),hA12⟩
set_option maxRecDepth 100000 in
theorem direct_calls(B n:Nat)(bv:Value)(d:D)(w:World)(h:At w B bv d)(hok:d.ok)(hn:n≤32):
 Calls Tryz.prog 297 #[.pointer (some ⟨B,0,none⟩),.int .i64 n] w fun r w'=>r=.returned (directV (D.direct n 0 d))∧Fr (fun k=>k=B) w w'∧At w' B bv (directD d (D.direct n 0 d)):=by
 have hmf:∀(fn:Fn)(first cap:Array Value)(w:World),(Instr.makeFunc fn first cap).run Tryz.prog w=.ok (.func fn first cap) w:=fun _ _ _ _=>rfl
 obtain⟨hfr,hsz,b1,b2,b3⟩:=three w (.cells #[.pointer (some ⟨B,0,none⟩)] 339) (.cells #[.int .u32 0] 180) (.cells #[.int .i64 0] 28)
 have hA:=h.keep hfr (fun h=>h) (fun _ _ h=>h)
 obtain⟨c0,c1,c2,c3,cf⟩:=hA.cells
 have HF:=Hd hfr
 have HA:=Hd hA
 have HB:=Hd (And.intro b1 (And.intro b2 b3))
 have HSZ:=Hd hsz
 have hBl:=lt_of_block h.1
 have g1:decide ((n:Int)<0)=false:=by simp
 have g2:decide ((n:Int)>32)=false:=by simp;omega
 have g3:decide ((32:Int)<n)=false:=by simp;omega
 clear hfr h hA b1 b2 b3 hsz cf
 go_enter_defers Tryz.func297,Tryz.ntmps297
 go_wp2_with fail
 generalize hz:w.heap.size=z at*
 generalize World.alloc (World.alloc (World.alloc w _) _) _=W at*
 go_loopw [6,19] (fun _ i wr=>∃(k v:Nat)(e:D),k≤n∧i=.int .i64 k∧v<2^k∧e.ok∧e.b=d.b∧At wr B bv e∧wr.heap[z+1]? =some (.cells #[.int .u32 v] 180 (0,0))∧Fr (fun k=>k=B∨k=z+1) W wr∧D.direct (n-k) v e=D.direct n 0 d) (fun _ i _=>n-(intOf i).toNat)
 case atStart=>exact⟨0,0,d,by omega,rfl,by omega,hok,rfl,HA.out,HB.out.2.1,Fr.refl _ _,by simp⟩
 case round=>
  obtain⟨k,v,e,hk,rfl,hv,hek,heb,hAe,hvb,hfr,hdir⟩:=hrel
  have hdb:=hfr.keep HB.out.1 (fun h=>by omega)
  have herb:=hfr.keep HB.out.2.2 (fun h=>by omega)
  have x0:=cell_in (i:=0) hdb rfl
  have x1:=cell_in (i:=0) hvb rfl
  have x2:=frozen_in hvb 0
  obtain⟨e0,e1,e2,e3,ef⟩:=hAe.cells
  by_cases hlt:k<n
  ·obtain⟨m,hm⟩:∃m,n-k=m+1:=⟨n-k-1,by omega⟩
   have hm2:n-(k+1)=m:=by omega
   have hp:2^k≤2147483648:=Nat.le_trans (Nat.pow_le_pow_right (by omega) (show k≤31 by omega)) (by decide)
   have hv31:v<2147483648:=by omega
   rw[hm] at hdir
   obtain⟨eb,er,eg,en⟩:=e
   simp only at heb
   obtain⟨q1,q2,q3,q4,q5⟩:=id hek
   simp only at q1 q2 q3 q4 q5 e1 e2 e3
   have hA1:=hAe.keep (Fr.one wr (z+1) 0 (.int .u32 ((v:Int)*2))) (fun h=>by omega) (fun k hk h=>rd_off hAe.2 q5 hvb (no_byte1 (by simp)) k hk h)
   have hvb1:(wr.setCell ⟨z+1,0,none⟩ (.int .u32 ((v:Int)*2))).heap[z+1]? =some (.cells #[.int .u32 ((v:Int)*2)] 180 (0,0)):=set_in hvb 0 _
   have hF1:=hfr.trans ((Fr.one wr (z+1) 0 (.int .u32 ((v:Int)*2))).mono (fun _ _ h=>.inr h))
   have hdb1:=hF1.keep HB.out.1 (fun h=>by omega)
   have y0:=cell_in (i:=0) hdb1 rfl
   have y1:=cell_in (i:=0) hvb1 rfl
   have y2:=frozen_in hvb1 0
   obtain⟨d0,d1,d2,d3,df⟩:=hA1.cells
   have f2:=df 2
   have f3:=df 3
   simp only at d1 d2 d3
   have hc2:((eg/2:Nat):Int)=(eg:Int)/2:=by omega
   clear e0 e1 e3 ef df
   by_cases hge:eg/2≤en
   ·have t1:decide ((en:Int)≥(eg:Int)/2)=true:=by simp;omega
    have t2:decide ((eg:Int)/2≤(en:Int))=true:=by simp;omega
    simp only[D.direct,if_pos hge] at hdir
    have hsn:((en-eg/2:Nat):Int)=(en:Int)-(eg:Int)/2:=by omega
    have s3:((wr.setCell ⟨z+1,0,none⟩ (.int .u32 ((v:Int)*2))).setCell ⟨B,3,none⟩ (.int .u32 ((en:Int)-(eg:Int)/2))).heap[B]? =some (.cells (decV bv ⟨eb,er,eg,en-eg/2⟩) 381 (0,0)):=by
     rw[set_in hA1.1 3 _,←hsn]
     rfl
    have hf3:=Fr.one (wr.setCell ⟨z+1,0,none⟩ (.int .u32 ((v:Int)*2))) B 3 (.int .u32 ((en:Int)-(eg:Int)/2))
    have hA3:=hA1.new (e:=⟨eb,er,eg,en-eg/2⟩) q5 rfl hf3 s3
    have hvb3:=hf3.keep hvb1 (by omega)
    have hdb3:=hf3.keep hdb1 (by omega)
    have hf4:=Fr.one ((wr.setCell ⟨z+1,0,none⟩ (.int .u32 ((v:Int)*2))).setCell ⟨B,3,none⟩ (.int .u32 ((en:Int)-(eg:Int)/2))) (z+1) 0 (.int .u32 (bits BinOp.or IntKind.u32 ((v:Int)*2) 1))
    have hvb4:(((wr.setCell ⟨z+1,0,none⟩ (.int .u32 ((v:Int)*2))).setCell ⟨B,3,none⟩ (.int .u32 ((en:Int)-(eg:Int)/2))).setCell ⟨z+1,0,none⟩ (.int .u32 (bits BinOp.or IntKind.u32 ((v:Int)*2) 1))).heap[z+1]? =some (.cells #[.int .u32 (bits BinOp.or IntKind.u32 ((v:Int)*2) 1)] 180 (0,0)):=set_in hvb3 0 _
    have hA4:=hA3.keep hf4 (fun h=>by omega) (fun k hk h=>rd_off hA3.2 q5 hvb3 (no_byte1 (by simp)) k hk h)
    have hdb4:=hf4.keep hdb3 (by omega)
    have hF4:=(hF1.trans (hf3.mono (fun _ _ h=>.inl h))).trans (hf4.mono (fun _ _ h=>.inr h))
    have u0:=cell_in (i:=0) hdb3 rfl
    have u1:=cell_in (i:=0) hvb3 rfl
    have u2:=frozen_in hvb3 0
    have u3:=cell_in (i:=0) hdb4 rfl
    obtain⟨_,_,_,u4,uf⟩:=hA4.cells
    have u5:=uf 2
    simp only[hsn] at u4
    clear uf
    by_cases heq:en-eg/2=eg/2
    ·have t3:((en:Int)-(eg:Int)/2==(eg:Int)/2)=true:=by simp;omega
     rw[if_pos heq] at hdir
     have HBAD:=Hd hdir.symm
     have HA4:=Hd hA4
     have HF4:=Hd hF4
     have HV4:=Hd hvb4
     clear hdir hA1 hvb1 hdb1 hF1 s3 hf3 hA3 hvb3 hdb3 hf4 hvb4 hA4 hdb4 hF4
     go_wp2_with fail
     exact direct_panicked B z n 2 bv d ⟨eb,er,eg,en-eg/2⟩ _ w W _ _ _ hz hBl (by omega) HBAD.out rfl rfl rfl HF.out HF4.out HA4.out heb (by rw[←heb];exact q5) HB.out.1 HV4.out HB.out.2.2
    ·have t3:((en:Int)-(eg:Int)/2==(eg:Int)/2)=false:=by simp;omega
     rw[if_neg heq] at hdir
     have hst:=hdir.symm
     have hok2:(⟨eb,er,eg/2,en-eg/2⟩:D).ok:=⟨by simp only;omega,by simp only;omega,q3,q4,q5⟩
     have s2:((((wr.setCell ⟨z+1,0,none⟩ (.int .u32 ((v:Int)*2))).setCell ⟨B,3,none⟩ (.int .u32 ((en:Int)-(eg:Int)/2))).setCell ⟨z+1,0,none⟩ (.int .u32 (bits BinOp.or IntKind.u32 ((v:Int)*2) 1))).setCell ⟨B,2,none⟩ (.int .u32 ((eg:Int)/2))).heap[B]? =some (.cells (decV bv ⟨eb,er,eg/2,en-eg/2⟩) 381 (0,0)):=by
      rw[set_in hA4.1 2 _,←hc2]
      rfl
     have hf2:=Fr.one (((wr.setCell ⟨z+1,0,none⟩ (.int .u32 ((v:Int)*2))).setCell ⟨B,3,none⟩ (.int .u32 ((en:Int)-(eg:Int)/2))).setCell ⟨z+1,0,none⟩ (.int .u32 (bits BinOp.or IntKind.u32 ((v:Int)*2) 1))) B 2 (.int .u32 ((eg:Int)/2))
     have HA2:=Hd (hA4.new (e:=⟨eb,er,eg/2,en-eg/2⟩) q5 rfl hf2 s2)
     have hv2:((((wr.setCell ⟨z+1,0,none⟩ (.int .u32 ((v:Int)*2))).setCell ⟨B,3,none⟩ (.int .u32 ((en:Int)-(eg:Int)/2))).setCell ⟨z+1,0,none⟩ (.int .u32 (bits BinOp.or IntKind.u32 ((v:Int)*2) 1))).setCell ⟨B,2,none⟩ (.int .u32 ((eg:Int)/2))).heap[z+1]? =some (.cells #[.int .u32 ((2*v+1:Nat):Int)] 180 (0,0)):=by
      rw[←or_one v hv31]
      exact hf2.keep hvb4 (by omega)
     have HV2:=Hd hv2
     have HF2:=Hd (hF4.trans (hf2.mono (fun _ _ h=>.inl h)))
     have z0:=cell_in (i:=0) (hf2.keep hdb4 (by omega)) rfl
     rw[←hm2] at hst
     clear hdir s2 hf2 hA1 hvb1 hdb1 hF1 hv2 s3 hf3 hA3 hvb3 hdb3 hf4 hvb4 hA4 hdb4 hF4
     have HT:=Hd hst
     have hbl2:0<eb.length:=hek.2.2.2.2
     cases hw:(⟨eb,er,eg/2,en-eg/2⟩:D).widen with
     |none=>
       have hbad:D.direct n 0 d=.error 1:=by rw[HT.out,hw]
       have HW:=Hd hw
       have HBAD:=Hd hbad
       clear hw hbad hst
       go_wp2_with fail
       refine(widen_none B bv ⟨eb,er,eg/2,en-eg/2⟩ _ HA2.out hok2 HW.out).mono ?_
       rintro r w10 ⟨rfl,hfr10⟩
       exact direct_panicked B z n 1 bv d ⟨eb,er,eg/2,en-eg/2⟩ _ w W w10 _ _ hz hBl (by omega) HBAD.out rfl rfl rfl HF.out (HF2.out.trans (hfr10.mono (fun _ _ h=>h.elim))) (HA2.out.keep hfr10 (fun h=>h) (fun _ _ h=>h)) heb (by rw[←heb];exact hbl2) HB.out.1 (hfr10.keep HV2.out (fun h=>h)) HB.out.2.2
     |some e'=>
       have hgo:D.direct (n-(k+1)) (2*v+1) e'=D.direct n 0 d:=by rw[HT.out,hw]
       have HW:=Hd hw
       have HGO:=Hd hgo
       have hwok:=D.widen_ok hok2 hw
       clear hw hgo hst
       go_wp2_with fail
       refine(widen_some B bv ⟨eb,er,eg/2,en-eg/2⟩ e' _ HA2.out hok2 HW.out).mono ?_
       rintro r w10 ⟨rfl,hfr10,hA10⟩
       go_wp2_with fail
       go_roundw
       case rel=>
        refine⟨k+1,(2*v+1),e',by omega,by go_num,by rw[Nat.pow_succ];omega,hwok.1,hwok.2.trans heb,hA10,?_,HF2.out.trans (hfr10.mono (fun _ _ h=>.inl h)),HGO.out⟩
        exact hfr10.keep HV2.out (by omega)
       case measure=>simp[intOf];omega
   ·have t1:decide ((en:Int)≥(eg:Int)/2)=false:=by simp;omega
    have t2:decide ((eg:Int)/2≤(en:Int))=false:=by simp;omega
    have t3:((en:Int)==(eg:Int)/2)=false:=by simp;omega
    simp only[D.direct,if_neg hge] at hdir
    rw[if_neg (by omega)] at hdir
    have hst:=hdir.symm
    have hok2:(⟨eb,er,eg/2,en⟩:D).ok:=⟨by simp only;omega,by simp only;omega,q3,q4,q5⟩
    have s2:((wr.setCell ⟨z+1,0,none⟩ (.int .u32 ((v:Int)*2))).setCell ⟨B,2,none⟩ (.int .u32 ((eg:Int)/2))).heap[B]? =some (.cells (decV bv ⟨eb,er,eg/2,en⟩) 381 (0,0)):=by
     rw[set_in hA1.1 2 _,←hc2]
     rfl
    have hf2:=Fr.one (wr.setCell ⟨z+1,0,none⟩ (.int .u32 ((v:Int)*2))) B 2 (.int .u32 ((eg:Int)/2))
    have HA2:=Hd (hA1.new (e:=⟨eb,er,eg/2,en⟩) q5 rfl hf2 s2)
    have hv2:((wr.setCell ⟨z+1,0,none⟩ (.int .u32 ((v:Int)*2))).setCell ⟨B,2,none⟩ (.int .u32 ((eg:Int)/2))).heap[z+1]? =some (.cells #[.int .u32 ((2*v:Nat):Int)] 180 (0,0)):=by
     rw[show((2*v:Nat):Int)=(v:Int)*2 by omega]
     exact hf2.keep hvb1 (by omega)
    have HV2:=Hd hv2
    have HF2:=Hd (hF1.trans (hf2.mono (fun _ _ h=>.inl h)))
    have z0:=cell_in (i:=0) (hf2.keep hdb1 (by omega)) rfl
    rw[←hm2] at hst
    clear hdir s2 hf2 hA1 hvb1 hdb1 hF1 hv2
    have HT:=Hd hst
    have hbl2:0<eb.length:=hek.2.2.2.2
    cases hw:(⟨eb,er,eg/2,en⟩:D).widen with
    |none=>
      have hbad:D.direct n 0 d=.error 1:=by rw[HT.out,hw]
      have HW:=Hd hw
      have HBAD:=Hd hbad
      clear hw hbad hst
      go_wp2_with fail
      refine(widen_none B bv ⟨eb,er,eg/2,en⟩ _ HA2.out hok2 HW.out).mono ?_
      rintro r w10 ⟨rfl,hfr10⟩
      exact direct_panicked B z n 1 bv d ⟨eb,er,eg/2,en⟩ _ w W w10 _ _ hz hBl (by omega) HBAD.out rfl rfl rfl HF.out (HF2.out.trans (hfr10.mono (fun _ _ h=>h.elim))) (HA2.out.keep hfr10 (fun h=>h) (fun _ _ h=>h)) heb (by rw[←heb];exact hbl2) HB.out.1 (hfr10.keep HV2.out (fun h=>h)) HB.out.2.2
    |some e'=>
      have hgo:D.direct (n-(k+1)) (2*v) e'=D.direct n 0 d:=by rw[HT.out,hw]
      have HW:=Hd hw
      have HGO:=Hd hgo
      have hwok:=D.widen_ok hok2 hw
      clear hw hgo hst
      go_wp2_with fail
      refine(widen_some B bv ⟨eb,er,eg/2,en⟩ e' _ HA2.out hok2 HW.out).mono ?_
      rintro r w10 ⟨rfl,hfr10,hA10⟩
      go_wp2_with fail
      go_roundw
      case rel=>
       refine⟨k+1,(2*v),e',by omega,by go_num,by rw[Nat.pow_succ];omega,hwok.1,hwok.2.trans heb,hA10,?_,HF2.out.trans (hfr10.mono (fun _ _ h=>.inl h)),HGO.out⟩
       exact hfr10.keep HV2.out (by omega)
      case measure=>simp[intOf];omega
  ·obtain rfl:k=n:=by omega
   have hq:D.direct k 0 d=.ok (v,e):=by rw[←hdir,Nat.sub_self];rfl
   have herb1:(wr.setCell ⟨z+1,0,none⟩ (.int .u32 v)).heap[z+1+1]? =some (.cells #[.int .i64 0] 28 (0,0)):=set_out herb (by omega) _
   have k3:=cell_in (i:=0) herb1 rfl
   have k4:=frozen_in herb1 0
   have hvb1:(wr.setCell ⟨z+1,0,none⟩ (.int .u32 v)).heap[z+1]? =some (.cells #[.int .u32 v] 180 (0,0)):=set_in hvb 0 _
   have herb2:((wr.setCell ⟨z+1,0,none⟩ (.int .u32 v)).setCell ⟨z+1+1,0,none⟩ (.int .i64 0)).heap[z+1+1]? =some (.cells #[.int .i64 0] 28 (0,0)):=set_in herb1 0 _
   have hvb2:=set_out (i:=0) hvb1 (show z+1≠z+1+1 by omega) (.int .i64 0)
   have hf12:=(Fr.one wr (z+1) 0 (.int .u32 v)).mono (T:=fun k=>k=z+1∨k=z+1+1) (fun _ _ h=>.inl h)|>.trans ((Fr.one _ (z+1+1) 0 (.int .i64 0)).mono (fun _ _ h=>.inr h))
   have hbl:0<e.b.length:=hek.2.2.2.2
   have hA2:=hAe.keep hf12 (fun h=>by omega) (fun k hk h=>by
    rcases h with h|h
    ·exact rd_off hAe.2 hbl hvb (no_byte1 (by simp)) k hk h
    ·exact rd_off hAe.2 hbl herb (no_byte1 (by simp)) k hk h)
   have hF2:=(hfr.mono (T:=fun k=>k=B∨k=z+1∨k=z+1+1) (fun _ _ h=>by omega)).trans (hf12.mono (fun _ _ h=>.inr h))
   have HQ:=Hd hq
   have HDB:=Hd (hf12.keep hdb (fun h=>by omega))
   clear hdir hq
   go_wp2_with fail
   generalize(wr.setCell ⟨z+1,0,none⟩ (.int .u32 v)).setCell ⟨z+1+1,0,none⟩ (.int .i64 0)=w11 at*
   refine leaves_cons (f:=310) (args:=#[placeV d,.pointer (some ⟨z,0,none⟩),.pointer (some ⟨z+1+1,0,none⟩),.pointer (some ⟨z+1,0,none⟩)]) (by simp) (by simp[go_sem,placeV]) ?_
   refine(dcatch_ok B z (z+1+1) (z+1) d 0 w11 HDB.out herb2).mono ?_
   rintro r u w12 ⟨rfl,rfl,hfr12,he12⟩
   have m1:=cell_in (i:=0) (hfr12.keep hvb2 (by omega)) rfl
   have m2:=cell_in (i:=0) he12 rfl
   simp[Leaves,settle,results,Tryz.results297,go_sem,m1,m2]
   rw[HQ.out]
   exact⟨rfl,(HF.out.mono (fun _ _ h=>h.elim)).trans' (hF2.trans (hfr12.mono (fun _ _ h=>.inr (.inr h)))) (fun k hk h=>by omega),hA2.keep hfr12 (fun h=>by omega) (fun k hk h=>rd_off hA2.2 hbl herb2 (no_byte1 (by simp)) k hk h)⟩
end Rc
namespace Rc
open Mem
def beN(xs:List UInt8):Nat→Nat
 |0=>0
 |k+1=>beN xs k*256+(xs.getD (k+1) 0).toNat
theorem beN_lt(xs:List UInt8):∀k,beN xs k<256^k
 |0=>by simp[beN]
 |k+1=>by
   have h1:=beN_lt xs k
   have h2:=UInt8.toNat_lt (xs.getD (k+1) 0)
   rw[beN,Nat.pow_succ]
   omega
def init(xs:List UInt8):Except Nat D:=
 if xs.length<5 then .error 1 else if xs.getD 0 0≠0∨beN xs 4=4294967295 then .error 2 else .ok ⟨xs,5,4294967295,beN xs 4⟩
theorem init_ok{xs:List UInt8}{d:D}(h:init xs=.ok d)(hl:xs.length≤1099511627776):d.ok∧d.b=xs:=by
 unfold init at h
 split at h
 ·cases h
 ·split at h
  ·cases h
  ·rename_i h1 h2
   obtain rfl:=Except.ok.inj h
   have h3:=beN_lt xs 4
   exact⟨⟨by simp only;omega,by simp only;omega,by simp only;omega,hl,by simp only;omega⟩,rfl⟩
set_option maxRecDepth 100000 in
theorem done_calls(B:Nat)(bv:Value)(d:D)(w:World)(h:At w B bv d):
 Calls Tryz.prog 222 #[.pointer (some ⟨B,0,none⟩)] w fun r w'=>r=.returned (.bool (decide (d.read=d.b.length∧d.now=0)))∧Fr (fun _=>False) w w':=by
 obtain⟨c0,c1,c2,c3,cf⟩:=h.cells
 obtain⟨pb,cb,rfl⟩:∃p c,bv=.slice p d.b.length c:=by obtain⟨p,c,h,_⟩:=h.2;exact⟨p,c,h⟩
 clear h cf
 generalize hq:decide (d.read=d.b.length∧d.now=0)=q
 have HQ:=Hd hq
 clear hq
 generalize d.read=rd at*
 generalize d.b.length=n at*
 generalize d.now=now at*
 by_cases h1:rd=n
 ·have t1:((rd:Int)==(n:Int))=true:=by simp;omega
  by_cases h2:now=0
  ·have t2:((now:Int)==0)=true:=by simp;omega
   go_enter Tryz.func222,Tryz.ntmps222
   go_wp2_with fail
   go_quiet (fail)
   go_wp2_with fail
   go_ret
   exact⟨by rw[←HQ.out];simp[h1,h2],(Fr.refl _ _).drewN _⟩
  ·have t2:((now:Int)==0)=false:=by simp;omega
   go_enter Tryz.func222,Tryz.ntmps222
   go_wp2_with fail
   go_quiet (fail)
   go_wp2_with fail
   go_ret
   exact⟨by rw[←HQ.out];simp[h1,h2],(Fr.refl _ _).drewN _⟩
 ·have t1:((rd:Int)==(n:Int))=false:=by simp;omega
  go_enter Tryz.func222,Tryz.ntmps222
  go_wp2_with fail
  go_quiet (fail)
  go_wp2_with fail
  go_ret
  exact⟨by rw[←HQ.out];simp[h1],(Fr.refl _ _).drewN _⟩
theorem rd_byte{w:World}{p:Option Addr}{n cap i:Nat}{xs:List UInt8}{x:UInt8}(h:Rd w (.slice p n cap) xs)(hx:xs[i]? =some x):∃b o,p=some ⟨b,o,none⟩∧w.cell? ⟨b,o+i,none⟩=some (.int .u8 (x.toNat:Int)):=by
 obtain⟨q,c,he,h1,h2,h3⟩:=h
 simp only[Value.slice.injEq] at he
 obtain⟨rfl,_,rfl⟩:=he
 obtain⟨b,o,hp,hc⟩:=h3 (by have:=(List.getElem?_eq_some_iff.1 hx).1;omega)
 exact⟨b,o,hp,hc i x hx⟩
theorem decV_nb(p:Option Addr)(n c:Nat)(d:D):∀(i:Nat)(m:Int),(decV (.slice p n c) d)[i]? ≠some (Value.int .u8 m)
 |0,m=>by simp[decV]
 |1,m=>by simp[decV]
 |2,m=>by simp[decV]
 |3,m=>by simp[decV]
 |i+4,m=>by simp[decV]
def NewPost(xs:List UInt8)(w:World)(r:Ending)(w':World):Prop:=
 Fr (fun _=>False) w w'∧match init xs with
  |.error x=>r=.returned (.tuple #[.pointer none,.int .i64 x])
  |.ok d=>∃B bv,r=.returned (.tuple #[.pointer (some ⟨B,0,none⟩),.int .i64 0])∧w.heap.size≤B∧At w' B bv d∧∀k,bv.ownBlock=some k→w.heap.size≤k
set_option maxRecDepth 100000 in
theorem new_calls(v:Value)(xs:List UInt8)(w:World)(hr:Rd w v xs)(hl:xs.length≤1099511627776):
    Calls Tryz.prog 250 #[v] w (NewPost xs w):=by
  have HR:=Hd hr
  obtain⟨p,cap,rfl,hcap,hm,_⟩:=hr
  by_cases h5:xs.length<5
  · have hi:init xs=.error 1:=by unfold init;rw[if_pos h5]
    have t1:decide ((xs.length:Int)<5)=true:=by simp;omega
    unfold NewPost
    rw[hi]
    clear hi hm
    generalize xs.length=n at*
    go_enter Tryz.func250,Tryz.ntmps250
    go_wp2_with fail
    go_ret2
    exact⟨Fr.refl _ _,rfl⟩
  · have t1:decide ((xs.length:Int)<5)=false:=by simp;omega
    have hsl:=slice_lhI p xs.length cap 1 5 1 5 rfl rfl (by omega) (by omega)
    have hmid:=rd_mid (a:=1) (b:=5) HR.out (by omega) (by omega)
    have hx0:xs[0]? =some (xs.getD 0 0):=by rw[List.getD_eq_getElem?_getD,List.getElem?_eq_getElem (by omega)];rfl
    have HX0:=Hd hx0
    have HMID:=Hd hmid
    have HL:=Hd h5
    have HN0:=Hd (Acc.nil w)
    clear hm hmid hx0 h5
    generalize hn:xs.length=n at*
    have HN:=Hd hn
    clear hn
    go_enter Tryz.func250,Tryz.ntmps250
    go_wp2_with (at_builtin
                 refine append_bytes rfl _ _ rfl (w0:=w) (.slice none 0 0) (.slice p n cap) [] xs rfl rfl HN0.out HR.out (by have:=HN.out;simp only[List.length_nil];omega) ?_
                 intro p1 cap1 n1 w1 hn1 hA1 hfr1
                 have hA1':Acc w w1 (.slice p1 n1 cap1) xs:=by rw[List.nil_append] at hA1;exact hA1
                 have HA1:=Hd hA1'
                 clear hn1 hA1 hfr1 hA1')
    have hbx:=heap_alloc_new w1 (.cells #[.slice p1 n1 cap1,.int .i64 5,.int .u32 4294967295,.int .u32 0] 381)
    have hfa:=(Fr.refl (fun _=>False) w1).alloc (.cells #[.slice p1 n1 cap1,.int .i64 5,.int .u32 4294967295,.int .u32 0] 381)
    have hBw:w.heap.size≤w1.heap.size:=HA1.out.fr.size
    have HFA:=Hd (HA1.out.fr.trans hfa)
    have HAA:=Hd (HA1.out.keep hfa)
    generalize hW:World.alloc w1 _=W at*
    generalize hB:w1.heap.size=B at*
    have hbx0:W.heap[B]? =some (.cells (decV (.slice p1 n1 cap1) ⟨xs,5,4294967295,beN xs 0⟩) 381 (0,0)):=hbx
    have HBX:=Hd hbx0
    clear hbx hbx0 hfa
    go_loopw [6,18](fun _ i wr=>∃k:Nat,k≤4∧i=.int .i64 k∧wr.heap[B]? =some (.cells (decV (.slice p1 n1 cap1) ⟨xs,5,4294967295,beN xs k⟩) 381 (0,0))∧Fr (fun k=>k=B) W wr) (fun _ i _=>4-(intOf i).toNat)
    case atStart=>exact⟨0,by omega,rfl,HBX.out,Fr.refl _ _⟩
    case round=>
      obtain⟨k,hk,rfl,hbk,hfr⟩:=hrel
      by_cases hlt:k<4
      · have hel:((xs.drop 1).take (5-1))[k]? =some (xs.getD (k+1) 0):=by
          rw[List.getElem?_take,if_pos (by omega),List.getElem?_drop,List.getD_eq_getElem?_getD,Nat.add_comm 1 k,List.getElem?_eq_getElem (by have:=HN.out;have:=HL.out;omega)]
          rfl
        have hrw:Rd wr (.slice (dropP p cap 1) (5-1) (cap-1)) ((xs.drop 1).take (5-1)):=by
          have h1:=HMID.out.keep HFA.out
          refine h1.step hfr (fun j hj=>rd_off h1 ?_ HBX.out (decV_nb _ _ _ _) j hj)
          rw[List.length_take,List.length_drop];have:=HN.out;have:=HL.out;omega
        obtain⟨b',o',hp',hc'⟩:=rd_byte hrw hel
        have hx1:wr.cell? ⟨B,3,none⟩=some (.int .u32 (beN xs k)):=cell_in hbk rfl
        have hx2:=frozen_in hbk 3
        have hbe:=beN_lt xs k
        have hpk:256^k≤16777216:=Nat.le_trans (Nat.pow_le_pow_right (by omega) (show k≤3 by omega)) (by decide)
        have hcb:=UInt8.toNat_lt (xs.getD (k+1) 0)
        have hor:=or_byte (beN xs k) (xs.getD (k+1) 0).toNat (by omega) hcb
        rw[show((beN xs k*256:Nat):Int)=(beN xs k:Int)*256 by omega] at hor
        have hbe1:beN xs (k+1)=beN xs k*256+(xs.getD (k+1) 0).toNat:=rfl
        have HO:=Hd hor
        have HBE:=Hd hbe1
        have HBK:=Hd hbk
        have hb24:beN xs k<16777216:=by omega
        rw[hp'] at hsl ⊢
        clear hrw hel hor hbe hpk hbe1 hbk hp'
        generalize beN xs k=a at*
        generalize(xs.getD (k+1) 0).toNat=y at*
        go_wp2_with fail
        go_roundw
        case rel=>
          refine ⟨k+1,by omega,by go_num,?_,hfr.trans (Fr.one wr B 3 (.int .u32 (bits BinOp.or IntKind.u32 ((a:Int)*256) (y:Int))))⟩
          rw[set_in HBK.out 3 _,HO.out,HBE.out]
          rfl
        case measure=>simp[intOf];omega
      · obtain rfl:k=4:=by omega
        have hF:=HFA.out.trans' hfr (fun i hi h=>by omega)
        have hA:At wr B (.slice p1 n1 cap1) ⟨xs,5,4294967295,beN xs 4⟩:=
          ⟨hbk,(HAA.out.rd).step hfr (fun j hj=>rd_off HAA.out.rd (by have:=HN.out;have:=HL.out;omega) HBX.out (decV_nb _ _ _ _) j hj)⟩
        have hnew:∀j,(Value.slice p1 n1 cap1).ownBlock=some j→w.heap.size≤j:=HAA.out.new
        obtain⟨b0,o0,rfl,hx0⟩:=rd_byte (i:=0) ((HR.out.keep hF).step (S:=fun _=>False) (Fr.refl _ _) (fun _ _ h=>h)) HX0.out
        have hx00:=hx0
        rw[Nat.add_zero] at hx00
        have hc3:wr.cell? ⟨B,3,none⟩=some (.int .u32 (beN xs 4)):=cell_in hbk rfl
        have hc2:wr.cell? ⟨B,2,none⟩=some (.int .u32 4294967295):=cell_in hbk rfl
        have hl5:¬xs.length<5:=by have:=HN.out;have:=HL.out;omega
        have HA:=Hd hA
        have HF:=Hd hF
        have HNEW:=Hd hnew
        have hi:init xs=if xs.getD 0 0≠0∨beN xs 4=4294967295 then .error 2 else .ok ⟨xs,5,4294967295,beN xs 4⟩:=by unfold init;rw[if_neg hl5]
        have hz:(xs.getD 0 0=0)↔(xs.getD 0 0).toNat=0:=⟨fun h=>by rw[h];rfl,fun h=>UInt8.toNat_inj.1 (by rw[h];rfl)⟩
        have hn0:(0:Int)<(n:Int):=by have:=HL.out;omega
        have hn1:0<n:=by have:=HL.out;omega
        generalize beN xs 4=a at*
        clear hbk hA hF hnew hsl
        by_cases hx:xs.getD 0 0=0
        · have hb0:(((xs.getD 0 0).toNat:Int) !=0)=false:=by rw[hx];rfl
          by_cases ha:a=4294967295
          · have hb1:((a:Int)==4294967295)=true:=by simp;omega
            have HI:=Hd (hi.trans (if_pos (.inr ha)))
            generalize(xs.getD 0 0).toNat=y at*
            clear hx hi
            go_wp2_with fail
            go_quiet (fail)
            go_wp2_with fail
            go_ret2
            refine⟨HF.out.drewN _,?_⟩
            rw[HI.out]
            rfl
          · have hb1:((a:Int)==4294967295)=false:=by simp;omega
            have HI:=Hd (hi.trans (if_neg (by rintro(h|h);exact h hx;exact ha h)))
            generalize(xs.getD 0 0).toNat=y at*
            clear hx hi
            go_wp2_with fail
            go_quiet (fail)
            go_wp2_with fail
            go_ret2
            refine⟨HF.out.drewN _,?_⟩
            rw[HI.out]
            exact⟨B,_,rfl,by omega,HA.out.keep ((Fr.refl (fun _=>False) _).drewN _) (fun h=>h) (fun _ _ h=>h),HNEW.out⟩
        · have hb0:(((xs.getD 0 0).toNat:Int) !=0)=true:=by
            have h9:(xs.getD 0 0).toNat≠0:=fun h=>hx (hz.2 h)
            simp only[bne_iff_ne,ne_eq]
            omega
          have HI:=Hd (hi.trans (if_pos (.inl hx)))
          generalize(xs.getD 0 0).toNat=y at*
          clear hx hi
          go_wp2_with fail
          go_quiet (fail)
          go_wp2_with fail
          go_ret2
          refine⟨HF.out.drewN _,?_⟩
          rw[HI.out]
          rfl
end Rc
end Go.Proofs.YtffoddpjfgjelaaGreatDoor
