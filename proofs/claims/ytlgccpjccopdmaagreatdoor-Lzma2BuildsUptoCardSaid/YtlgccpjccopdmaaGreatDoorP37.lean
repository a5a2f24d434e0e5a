/- Part 37 of 54: lemmas of the last part, each under the conditions that it names. -/
import Derived.Test.YtlgccpjccopdmaaGreatDoorP35
set_option linter.unusedVariables false
set_option linter.unusedSimpArgs false
set_option maxRecDepth 1500
set_option maxHeartbeats 8000000
namespace Go.Proofs.YtlgccpjccopdmaaGreatDoor
open Go.RowKit
namespace En
open Mem Rc Win Lz St
set_option maxRecDepth 100000 in
theorem part_k5{w0 w:World}{l:XL}{x:Xe}(k:Nat)(hk:k=5)(lc lp pb:Int)(qc qp qb:Nat)(raw:List UInt8)(ys:List Sz)(sv rv:Value)(h:XE w l x)(hT:Tabs w0)(hq:qc+qp≤4∧qb≤4)(hk0:x.e.k=K.new)(hby:∀z ∈ ys,z.byte<256)
 (hf0:Fr (fun _=>False) w0 w)(hfoot:∀k,XFoot l k→w0.heap.size≤k)(hsv:RdZ w0 sv ys)(hrv:Rd w0 rv raw)(hyl:ys.length≤1048576)(ha:x.c.all.length≤1099511627776):
 Calls Tryz.prog 48 #[ptr l.D,.agg #[.int .i64 k,.int .i64 lc,.int .i64 lp,.int .i64 pb,sv,rv],.agg #[.int .i64 qc,.int .i64 qp,.int .i64 qb]] w (PartPost l w0 w (partP x ⟨k,lc,lp,pb,raw,ys⟩ (qc,qp,qb))):=by
 obtain⟨rp,rc,rfl,h1,h2,h3⟩:=hrv
 clear h1 h2 h3
 obtain⟨sp,sc,rfl,_,_⟩:=hsv.slice
 have HH:=Hd h
 have HF0:=Hd hf0
 have HFT:=Hd hfoot
 have HSV:=Hd hsv
 have HT:=Hd hT
 have HBY:=Hd hby
 have HYL:=Hd hyl
 obtain⟨ny,hny⟩:∃ny,ny=ys.length:=⟨_,rfl⟩
 have HNY:=Hd hny
 rw[←hny] at HSV ⊢
 have hgb:=good_bad hq
 obtain⟨RS,hRS⟩:∃RS,RS=partP x ⟨k,lc,lp,pb,raw,ys⟩ (qc,qp,qb):=⟨_,rfl⟩
 rw[←hRS]
 clear h hf0 hfoot hsv hT hby hyl hny
 subst hk
 go_enter Tryz.func48,Tryz.ntmps48
 go_wp2_with fail
 have hf3:=(((Fr.refl (fun _=>False) w).alloc (.cells #[.int .i64 5,.int .i64 lc,.int .i64 lp,.int .i64 pb,.slice sp ny sc,.slice rp raw.length rc] 108)).alloc (.cells #[.int .i64 qc,.int .i64 qp,.int .i64 qb] 24)).alloc (.cells #[.int .i64 5,.int .i64 0,.int .i64 0,.int .i64 qc,.int .i64 qp,.int .i64 qb] 47)
 have hx3:=heap_alloc_new ((w.alloc (.cells #[.int .i64 5,.int .i64 lc,.int .i64 lp,.int .i64 pb,.slice sp ny sc,.slice rp raw.length rc] 108)).alloc (.cells #[.int .i64 qc,.int .i64 qp,.int .i64 qb] 24)) (.cells #[.int .i64 5,.int .i64 0,.int .i64 0,.int .i64 qc,.int .i64 qp,.int .i64 qb] 47)
 have hxp:=alloc_cells (alloc_cells (heap_alloc_new w (.cells #[.int .i64 5,.int .i64 lc,.int .i64 lp,.int .i64 pb,.slice sp ny sc,.slice rp raw.length rc] 108)) (.cells #[.int .i64 qc,.int .i64 qp,.int .i64 qb] 24)) (.cells #[.int .i64 5,.int .i64 0,.int .i64 0,.int .i64 qc,.int .i64 qp,.int .i64 qb] 47)
 have hxq:=alloc_cells (heap_alloc_new (w.alloc (.cells #[.int .i64 5,.int .i64 lc,.int .i64 lp,.int .i64 pb,.slice sp ny sc,.slice rp raw.length rc] 108)) (.cells #[.int .i64 qc,.int .i64 qp,.int .i64 qb] 24)) (.cells #[.int .i64 5,.int .i64 0,.int .i64 0,.int .i64 qc,.int .i64 qp,.int .i64 qb] 47)
 simp only[World.size_alloc] at hx3 hxp hxq
 have HF3:=Hd hf3
 have HE3:=Hd (HH.out.keep hf3)
 have HX3:=Hd hx3
 have HXP:=Hd hxp
 have HXQ:=Hd hxq
 clear hf3 hx3 hxp hxq
 have hres:RS=packP 5 (x.reset (qc,qp,qb)) ys (qc,qp,qb):=by
  rw[hRS]
  unfold partP
  simp only
  rw[if_neg (show¬((5:Nat):Int)≤2 by decide),if_neg (by simp[hgb])]
  rfl
 have HRES:=Hd hres
 clear hres hRS
 generalize hW3:((w.alloc (.cells #[.int .i64 5,.int .i64 lc,.int .i64 lp,.int .i64 pb,.slice sp ny sc,.slice rp raw.length rc] 108)).alloc (.cells #[.int .i64 qc,.int .i64 qp,.int .i64 qb] 24)).alloc (.cells #[.int .i64 5,.int .i64 0,.int .i64 0,.int .i64 qc,.int .i64 qp,.int .i64 qb] 47)=W3 at*
 obtain⟨w2,l2,hw2,f2,n2,e2⟩:∃w2 l2,w2=W3∧Fr (XFoot l) W3 w2∧XNx W3 l l2∧XE w2 l2 x:=⟨_,l,rfl,Fr.refl _ _,XNx.same,HE3.out⟩
 rw[←hw2]
 have hx2:=f2.keep HX3.out (fun e=>by have:=HH.out.lt _ e;omega)
 have hxp2:=f2.keep HXP.out (fun e=>by have:=HH.out.lt _ e;omega)
 have hxq2:=f2.keep HXQ.out (fun e=>by have:=HH.out.lt _ e;omega)
 have b0:=cell_in (i:=0) hxp2 rfl
 have b4:=cell_in (i:=4) hxp2 rfl
 obtain⟨d0,d1,d2⟩:=cs3 hxq2 rfl rfl rfl
 have HXS:=Hd (xreset_calls e2 qc qp qb hq.1 hq.2)
 rw[n2.D] at HXS
 have HX2:=Hd hx2
 have HXP2:=Hd hxp2
 have HF2:=Hd f2
 have HN2:=Hd n2
 have HE2:=Hd e2
 clear f2 n2 e2 hx2 hxp2 hxq2
 go_wp2_with fail
 refine HXS.out.mono ?_
 rintro e w3 ⟨rfl,hp3⟩
 obtain⟨f3,l3,n3,e3⟩:=hp3
 have hx3:=f3.keep HX2.out (fun e=>HN2.out.off (lt_of_block HX3.out) (fun e=>by have:=HH.out.lt _ e;omega) e)
 have hxp3:=f3.keep HXP2.out (fun e=>HN2.out.off (lt_of_block HXP.out) (fun e=>by have:=HH.out.lt _ e;omega) e)
 have HF3':=Hd (show Fr (XFoot l) W3 w3 from HF2.out.trans' f3 (fun k hk e=>(HN2.out.F k e).elim id (fun e=>by omega)))
 have HN3:=Hd (HN2.out.trans n3 HF2.out.size)
 rw[hk0] at e3
 have HE3':=Hd (show XE w3 l3 (x.reset (qc,qp,qb)) from e3)
 clear f3 n3 e3 b0 b4 d0 d1 d2
 have HX3':=Hd hx3
 have g0:=cell_in (i:=0) hxp3 rfl
 have g4:=cell_in (i:=4) hxp3 rfl
 have HK1:=Hd (show(x.reset (qc,qp,qb)).e.k=K.new from rfl)
 have HA1:=Hd (show(x.reset (qc,qp,qb)).c.all.length≤1099511627776 from ha)
 generalize x.reset (qc,qp,qb)=x1 at*
 clear hx3 hxp3
 go_wp2_with fail
 go_loopw [69] (fun i wr=>PtRel l W3 ys x1 5 qc qp qb (w.heap.size+1+1) i wr) (fun i _=>ny-(intOf i).toNat)
 case atStart=>
  exact⟨0,x1,0,_,Nat.zero_le _,rfl,HF3'.out.mono (fun _ _ h=>.inl h),HN3.out,HE3'.out,HX3'.out,rfl,by rw[HK1.out];exact Nat.le_refl _,by omega,by omega⟩
 case round=>
  obtain⟨k,x',n,l',hkn,rfl,hfr,hnx,hE,hx,hputs,hbs,hba,hbn⟩:=hrel
  have hf0r:Fr (fun _=>False) w0 wr:=HF0.out.trans' (lif_new HF3.out hfr (T:=fun k=>XFoot l k∨w.heap.size≤k) (fun k h1 h2=>h2.imp id (fun e=>by omega))) (fun k h1 h2=>by
   rcases h2 with h2|h2
   ·have:=HFT.out k h2;omega
   ·have:=HF0.out.size;omega)
  have hnb:(ny:Int)≤1048576:=by have:=HYL.out;have:=HNY.out;omega
  by_cases hlt:k<ny
  ·obtain⟨z,hz⟩:∃z,ys[k]? =some z:=⟨ys[k]'(HNY.out ▸ hlt),List.getElem?_eq_getElem (HNY.out ▸ hlt)⟩
   rw[drop_cons' hz,putsZ] at hputs
   have hzb:=HBY.out z (List.mem_of_getElem? hz)
   obtain⟨b,o,rfl,c0,c1,c2,c3⟩:=HSV.out.at hz
   have c0:=cell_keep c0 hf0r
   have c1:=cell_keep c1 hf0r
   have c2:=cell_keep c2 hf0r
   have c3:=cell_keep c3 hf0r
   have hidx:(k:Int)<ny:=by omega
   have hfy:=(Fr.refl (fun _=>False) wr).alloc (.cells z.cells 96)
   have hyy:=heap_alloc_new wr (.cells z.cells 96)
   have hputz:=fun h0=>apZ_put (x:=x') (z:=z) h0 hzb
   have hapok:=fun h0=>(apZ_ok (x:=x') (z:=z) h0).1
   have HXPT:=Hd (xput_calls (hE.keep hfy) (HT.out.keep (hf0r.trans hfy)) z hzb (by have:=HYL.out;omega) (by have:=HYL.out;have:=HA1.out;omega))
   rw[hnx.D] at HXPT
   have HSZ:=fun h0 W hW=>Hd (size_any z (hapok h0) hzb W (HT.out.keep (hf0r.trans hW)))
   have HPZ:=Hd hputz
   have HPUTS:=Hd hputs
   have HYY:=Hd hyy
   have HFY:=Hd hfy
   have HFR:=Hd hfr
   have HNX:=Hd hnx
   have HXC:=Hd hx
   have HEE:=Hd hE
   have HF0R:=Hd hf0r
   have HBS:=Hd hbs
   have HBA:=Hd hba
   have HBN:=Hd hbn
   clear hputz hapok hputs hyy hfy hfr hnx hx hE hf0r hbs hba hbn hz
   obtain⟨er,her⟩:∃er,er=(applyZ x'.c.size x'.c.all x'.c.s z).1:=⟨_,rfl⟩
   rw[←her] at HXPT
   have HER:=Hd (show er=(x'.apZ z).1 from her)
   clear her
   obtain⟨zk,zb,zl,zd⟩:=z
   simp only[Sz.cells] at HXPT HYY HFY HSZ c0 c1 c2 c3
   go_wp2_with fail
   refine HXPT.out.mono ?_
   rintro e w4 ⟨rfl,hp4⟩
   by_cases he:er=0
   ·subst he
    rw[if_pos rfl] at hp4
    rw[if_pos HER.out.symm] at HPUTS
    obtain⟨p1,p2,p3,p4⟩:=HPZ.out HER.out.symm
    obtain⟨f4,l4,n4,e4⟩:=hp4
    have hoffB:¬XFoot l' (w.heap.size+1+1):=HNX.out.off (lt_of_block HX3.out) (fun e=>by have:=HH.out.lt _ e;omega)
    have hxc4:=f4.keep (HFY.out.keep HXC.out (fun h=>h)) hoffB
    have hyy4:=f4.keep HYY.out (fun e=>by have:=HEE.out.lt _ e;omega)
    have hf04:Fr (fun _=>False) w0 w4:=(HF0R.out.trans HFY.out).trans' f4 (fun k h1 h2=>by
     rcases HNX.out.F k h2 with h2|h2
     ·have:=HFT.out k h2;omega
     ·have:=HF0.out.size;have:=HF3.out.size;omega)
    have HSZ4:=Hd (show∀W,Fr (fun _=>False) w4 W→Calls Tryz.prog 94 #[.agg #[.int .i64 zk,.int .u8 zb,.int .i64 zl,.int .i64 zd]] W fun e w'=>e=.returned (.int .i64 (St.size (Sz.sy ⟨zk,zb,zl,zd⟩)))∧Fr (fun _=>False) W w' from fun W hW=>size_any ⟨zk,zb,zl,zd⟩ ((apZ_ok HER.out.symm).1) hzb W (HT.out.keep (hf04.trans hW)))
    obtain⟨sz,hsz⟩:∃sz,sz=St.size (Sz.sy ⟨zk,zb,zl,zd⟩):=⟨_,rfl⟩
    rw[←hsz] at HSZ4 HPUTS p2 p3
    have hszb:(sz:Int)≤273:=by omega
    have hnb2:(n:Int)≤400000000:=by have:=HBN.out;have:=HYL.out;have:=HNY.out;omega
    have HKEEP:=Hd (show∀W,Fr (fun _=>False) w4 W→(W.cell? ⟨w.heap.size+1+1,1,none⟩=some (.int .i64 n)∧W.cell? ⟨wr.heap.size,0,none⟩=some (.int .i64 zk)∧W.cell? ⟨wr.heap.size,1,none⟩=some (.int .u8 zb)∧W.cell? ⟨wr.heap.size,2,none⟩=some (.int .i64 zl)∧W.cell? ⟨wr.heap.size,3,none⟩=some (.int .i64 zd)) from fun W hW=>⟨cell_in (hW.keep hxc4 (fun h=>h)) rfl,cell_in (hW.keep hyy4 (fun h=>h)) rfl,cell_in (hW.keep hyy4 (fun h=>h)) rfl,cell_in (hW.keep hyy4 (fun h=>h)) rfl,cell_in (hW.keep hyy4 (fun h=>h)) rfl⟩)
    have FC:=Hd (Fr.refl (fun _=>False) w4).drew
    have HXC4:=Hd hxc4
    have HF4:=Hd (show Fr (fun k=>XFoot l k∨k=w.heap.size+1+1) W3 w4 from(HFR.out.trans (lif HFY.out)).trans' f4 (fun k h1 h2=>by
     rcases HNX.out.F k h2 with h2|h2
     ·exact .inl h2
     ·omega))
    have HN4:=Hd (HNX.out.trans n4 (Nat.le_trans HFR.out.size HFY.out.size))
    have HE4:=Hd e4
    have HP:=Hd (⟨p1,p2,p3⟩:_∧_∧_)
    have yf:=fun i=>frozen_in hxc4 i
    have tt:=HKEEP.out _ FC.out
    obtain⟨t0,t1,t2,t3,t4⟩:=tt
    clear f4 n4 e4 hxc4 hyy4 hf04 p1 p2 p3 p4 hsz hoffB
    go_wp2_with fail
    go_region_law (first
     | (go_simp
        go_at_call 94
        refine(HSZ4.out _ FC.out).mono ?_
        rintro e w5 ⟨rfl,hf5⟩
        have FC:=Hd (FC.out.trans hf5)
        have tt:=HKEEP.out _ FC.out
        obtain⟨t0,t1,t2,t3,t4⟩:=tt
        have yg:=fun i=>frozen_in (FC.out.keep HXC4.out (fun h=>h)) i
        clear hf5))
    all_goals
     have hx5:=set_in (FC.out.keep HXC4.out (fun h=>h)) 1 (.int .i64 (IntKind.i64.wrap ((n:Int)+sz)))
     have hfs:Fr (fun k=>k=w.heap.size+1+1) w4 (World.setCell _ ⟨w.heap.size+1+1,1,none⟩ (.int .i64 (IntKind.i64.wrap ((n:Int)+sz)))):=(lif FC.out).trans (Fr.one _ _ _ _)
     clear t0 t1 t2 t3 t4 yg HKEEP HSZ4
     generalize World.setCell _ ⟨w.heap.size+1+1,1,none⟩ (Value.int IntKind.i64 (IntKind.i64.wrap ((n:Int)+sz)))=wz at*
     have hwn:IntKind.i64.wrap ((n:Int)+sz)=((n+sz:Nat):Int):=by rw[IntWalk.i64_in _ (by omega)];omega
     rw[hwn] at hx5
     have HX5:=Hd hx5
     have HFS:=Hd hfs
     clear hx5 hfs hwn
     go_wp2_with fail
     go_roundw
     case rel=>
      first
       |exact⟨k+1,_,n+sz,l4,by have:=HNY.out;omega,by go_num,HF4.out.trans (HFS.out.mono (fun _ _ h=>.inr h)),HN4.out,HE4.out.aside HXC4.out HFS.out,HX5.out,HPUTS.out,by have:=HP.out.1;have:=HBS.out;omega,by have:=HP.out.2.1;have:=HBA.out;omega,by have:=HBN.out;omega⟩
       | (refine ⟨_,_,_,_,_,_,_,_,_,_,_,_,_,_,_,_,_,_,_,_,_,_,?_,rfl⟩
          exact⟨k+1,_,n+sz,l4,by have:=HNY.out;omega,by go_num,HF4.out.trans (HFS.out.mono (fun _ _ h=>.inr h)),HN4.out,HE4.out.aside HXC4.out HFS.out,HX5.out,HPUTS.out,by have:=HP.out.1;have:=HBS.out;omega,by have:=HP.out.2.1;have:=HBA.out;omega,by have:=HBN.out;omega⟩)
     case measure=>simp[intOf];omega
   ·rw[if_neg he] at hp4
    have h1:((er:Int) !=0)=true:=by simp;omega
    have hpp:packP 5 x1 ys (qc,qp,qb)=.error er:=by
     unfold packP
     rw[HPUTS.out,if_neg (fun h=>he (HER.out.trans h)),HER.out]
    have HP:=Hd (show PartPost l w0 w RS (.returned (.tuple #[.slice none 0 0,.slice none 0 0,.int .i64 er])) w4 from by
     rw[HRES.out,hpp]
     exact⟨he,lif_new HF3.out (HFR.out.trans (lif (HFY.out.trans hp4))) (fun k h1 h2=>h2.elim id (fun e=>by omega)),_,_,rfl⟩)
    clear hpp hp4
    go_wp2_with fail
    go_ret3
    exact HP.out
  ·obtain rfl:k=ny:=by have:=HNY.out;omega
   have hd0:ys.drop k=[]:=List.drop_eq_nil_of_le (by have:=HNY.out;omega)
   rw[hd0,putsZ] at hputs
   have HPUTS:=Hd hputs
   have HXCU:=Hd (xcut_calls hE (by have:=HYL.out;have:=HNY.out;omega))
   rw[hnx.D] at HXCU
   have HFR:=Hd hfr
   have HNX:=Hd hnx
   have HXC:=Hd hx
   have HEE:=Hd hE
   clear hfr hnx hx hE hputs hd0 hbs hba hbn hf0r
   go_wp2_with fail
   refine HXCU.out.mono ?_
   rintro e w4 ⟨v,rfl,hmv,hp4⟩
   obtain⟨pv,cv,rfl⟩:=hmv.slice
   obtain⟨f4,l4,n4,e4⟩:=hp4
   have hoffB:¬XFoot l' (w.heap.size+1+1):=HNX.out.off (lt_of_block HX3.out) (fun e=>by have:=HH.out.lt _ e;omega)
   have hxc4:=f4.keep HXC.out hoffB
   obtain⟨m,hm⟩:∃m,m=x'.e.k.bytes.length:=⟨_,rfl⟩
   have HM:=Hd hm
   rw[←hm] at hmv ⊢
   have hxc5:=set_in hxc4 2 (.int .i64 m)
   obtain⟨z0,z1,z2,z3,z4,z5,zf⟩:=cf6 hxc4 rfl rfl rfl rfl rfl rfl
   have HXC4:=Hd hxc4
   have HMV:=Hd hmv
   have HF4:=Hd (show Fr (fun k=>XFoot l k∨k=w.heap.size+1+1) W3 w4 from HFR.out.trans' f4 (fun k h1 h2=>by
    rcases HNX.out.F k h2 with h2|h2
    ·exact .inl h2
    ·omega))
   have HN4:=Hd (HNX.out.trans n4 HFR.out.size)
   have HE4:=Hd e4
   have HSZW:=Hd (show w.heap.size≤wr.heap.size from Nat.le_trans HF3.out.size HFR.out.size)
   clear hxc4 hxc5 hmv f4 n4 e4 hm hoffB
   go_wp2_with fail
   refine(Enc.hput_any 5 n m qc qp qb (by decide) (fun h=>absurd h (by decide)) hq.1 hq.2 _).mono ?_
   rintro e w6 ⟨hf6,hv,rfl,hM6⟩
   have HF6:=Hd (show Fr (fun k=>XFoot l k∨k=w.heap.size+1+1) w4 w6 from(Fr.one w4 (w.heap.size+1+1) 2 (.int .i64 m)).mono (fun _ _ h=>.inr h)|>.trans (lif hf6))
   have HFS6:=Hd (show Fr (fun k=>k=w.heap.size+1+1) w4 w6 from(Fr.one w4 (w.heap.size+1+1) 2 (.int .i64 m)).trans (lif hf6))
   have hf6f:=hf6
   clear hf6f
   obtain⟨q,hq5⟩:∃q,q=Enc.okS 5 n m:=⟨_,rfl⟩
   have hqs:Enc.okS 5 n m=sizedP n m:=by unfold Enc.okS;rw[if_neg (by decide)]
   by_cases hok:Enc.okS 5 n m=true
   ·have hb6:=hM6 hok
    rw[if_pos hok]
    have HP:=Hd (show PartPost l w0 w RS (.returned (.tuple #[hv,.slice pv m cv,.int .i64 0])) w6 from by
     have hpp:packP 5 x1 ys (qc,qp,qb)=.ok (headB (if(5:Nat)<5 then⟨5,n,m,0,0,0⟩ else⟨5,n,m,qc,qp,qb⟩)++x'.e.k.bytes,x'.cut):=by
      unfold packP
      rw[HPUTS.out]
      simp only
      rw[←HM.out,if_pos (by rw[←hqs];exact hok)]
      rfl
     rw[HRES.out,hpp]
     refine⟨(show EPst l w x'.cut w6 from EPstB.out HF3.out (by omega) ⟨HF4.out.trans HF6.out,l4,HN4.out,(HE4.out.aside HXC4.out (Fr.one _ _ _ _)).keep hf6⟩),_,_,_,_,rfl,rfl,hb6.rd,(HMV.out.step HFS6.out (fun k hk e=> ?_)).rd,fun k hk=>.inr (Nat.le_trans HSZW.out (HMV.out.new k hk))⟩
     have:=HMV.out.new k hk
     have:=lt_of_block HXC.out
     omega)
    go_wp2_with fail
    go_ret3
    exact HP.out
   ·rw[if_neg hok]
    have HP:=Hd (show PartPost l w0 w RS (.returned (.tuple #[hv,.slice pv m cv,.int .i64 7])) w6 from by
     have hpp:packP 5 x1 ys (qc,qp,qb)=.error 7:=by
      unfold packP
      rw[HPUTS.out]
      simp only
      rw[←HM.out,if_neg (by rw[←hqs];exact hok)]
     rw[HRES.out,hpp]
     exact⟨by decide,lif_new HF3.out (HF4.out.trans HF6.out) (fun k h1 h2=>h2.elim id (fun e=>by omega)),_,_,rfl⟩)
    go_wp2_with fail
    go_ret3
    exact HP.out
end En
namespace En
open Mem Rc Win Lz St
set_option maxRecDepth 100000 in
theorem part_k6{w0 w:World}{l:XL}{x:Xe}(k:Nat)(hk:k=6)(lc lp pb:Int)(qc qp qb:Nat)(raw:List UInt8)(ys:List Sz)(sv rv:Value)(h:XE w l x)(hT:Tabs w0)(hq:qc+qp≤4∧qb≤4)(hk0:x.e.k=K.new)(hby:∀z ∈ ys,z.byte<256)
 (hf0:Fr (fun _=>False) w0 w)(hfoot:∀k,XFoot l k→w0.heap.size≤k)(hsv:RdZ w0 sv ys)(hrv:Rd w0 rv raw)(hyl:ys.length≤1048576)(ha:x.c.all.length≤1099511627776):
 Calls Tryz.prog 48 #[ptr l.D,.agg #[.int .i64 k,.int .i64 lc,.int .i64 lp,.int .i64 pb,sv,rv],.agg #[.int .i64 qc,.int .i64 qp,.int .i64 qb]] w (PartPost l w0 w (partP x ⟨k,lc,lp,pb,raw,ys⟩ (qc,qp,qb))):=by
 obtain⟨rp,rc,rfl,h1,h2,h3⟩:=hrv
 clear h1 h2 h3
 obtain⟨sp,sc,rfl,_,_⟩:=hsv.slice
 have HH:=Hd h
 have HF0:=Hd hf0
 have HFT:=Hd hfoot
 have HSV:=Hd hsv
 have HT:=Hd hT
 have HBY:=Hd hby
 have HYL:=Hd hyl
 obtain⟨ny,hny⟩:∃ny,ny=ys.length:=⟨_,rfl⟩
 have HNY:=Hd hny
 rw[←hny] at HSV ⊢
 have hgb:=good_bad hq
 obtain⟨RS,hRS⟩:∃RS,RS=partP x ⟨k,lc,lp,pb,raw,ys⟩ (qc,qp,qb):=⟨_,rfl⟩
 rw[←hRS]
 clear h hf0 hfoot hsv hT hby hyl hny
 subst hk
 go_enter Tryz.func48,Tryz.ntmps48
 go_wp2_with fail
 have hf3:=(((Fr.refl (fun _=>False) w).alloc (.cells #[.int .i64 6,.int .i64 lc,.int .i64 lp,.int .i64 pb,.slice sp ny sc,.slice rp raw.length rc] 108)).alloc (.cells #[.int .i64 qc,.int .i64 qp,.int .i64 qb] 24)).alloc (.cells #[.int .i64 6,.int .i64 0,.int .i64 0,.int .i64 qc,.int .i64 qp,.int .i64 qb] 47)
 have hx3:=heap_alloc_new ((w.alloc (.cells #[.int .i64 6,.int .i64 lc,.int .i64 lp,.int .i64 pb,.slice sp ny sc,.slice rp raw.length rc] 108)).alloc (.cells #[.int .i64 qc,.int .i64 qp,.int .i64 qb] 24)) (.cells #[.int .i64 6,.int .i64 0,.int .i64 0,.int .i64 qc,.int .i64 qp,.int .i64 qb] 47)
 have hxp:=alloc_cells (alloc_cells (heap_alloc_new w (.cells #[.int .i64 6,.int .i64 lc,.int .i64 lp,.int .i64 pb,.slice sp ny sc,.slice rp raw.length rc] 108)) (.cells #[.int .i64 qc,.int .i64 qp,.int .i64 qb] 24)) (.cells #[.int .i64 6,.int .i64 0,.int .i64 0,.int .i64 qc,.int .i64 qp,.int .i64 qb] 47)
 have hxq:=alloc_cells (heap_alloc_new (w.alloc (.cells #[.int .i64 6,.int .i64 lc,.int .i64 lp,.int .i64 pb,.slice sp ny sc,.slice rp raw.length rc] 108)) (.cells #[.int .i64 qc,.int .i64 qp,.int .i64 qb] 24)) (.cells #[.int .i64 6,.int .i64 0,.int .i64 0,.int .i64 qc,.int .i64 qp,.int .i64 qb] 47)
 simp only[World.size_alloc] at hx3 hxp hxq
 have HF3:=Hd hf3
 have HE3:=Hd (HH.out.keep hf3)
 have HX3:=Hd hx3
 have HXP:=Hd hxp
 have HXQ:=Hd hxq
 clear hf3 hx3 hxp hxq
 have hres:RS=packP 6 (x.clear.reset (qc,qp,qb)) ys (qc,qp,qb):=by
  rw[hRS]
  unfold partP
  simp only
  rw[if_neg (show¬((6:Nat):Int)≤2 by decide),if_neg (by simp[hgb])]
  rfl
 have HRES:=Hd hres
 clear hres hRS
 generalize hW3:((w.alloc (.cells #[.int .i64 6,.int .i64 lc,.int .i64 lp,.int .i64 pb,.slice sp ny sc,.slice rp raw.length rc] 108)).alloc (.cells #[.int .i64 qc,.int .i64 qp,.int .i64 qb] 24)).alloc (.cells #[.int .i64 6,.int .i64 0,.int .i64 0,.int .i64 qc,.int .i64 qp,.int .i64 qb] 47)=W3 at*
 refine(xclear_calls HE3.out).mono ?_
 rintro e w2 ⟨rfl,hp2⟩
 obtain⟨f2,l2,n2,e2⟩:=hp2
 rw[hk0] at e2
 have hx2:=f2.keep HX3.out (fun e=>by have:=HH.out.lt _ e;omega)
 have hxp2:=f2.keep HXP.out (fun e=>by have:=HH.out.lt _ e;omega)
 have hxq2:=f2.keep HXQ.out (fun e=>by have:=HH.out.lt _ e;omega)
 have b0:=cell_in (i:=0) hxp2 rfl
 have b4:=cell_in (i:=4) hxp2 rfl
 obtain⟨d0,d1,d2⟩:=cs3 hxq2 rfl rfl rfl
 have HXS:=Hd (xreset_calls e2 qc qp qb hq.1 hq.2)
 rw[n2.D] at HXS
 have HX2:=Hd hx2
 have HXP2:=Hd hxp2
 have HF2:=Hd f2
 have HN2:=Hd n2
 have HE2:=Hd e2
 clear f2 n2 e2 hx2 hxp2 hxq2
 go_wp2_with fail
 refine HXS.out.mono ?_
 rintro e w3 ⟨rfl,hp3⟩
 obtain⟨f3,l3,n3,e3⟩:=hp3
 have hx3:=f3.keep HX2.out (fun e=>HN2.out.off (lt_of_block HX3.out) (fun e=>by have:=HH.out.lt _ e;omega) e)
 have hxp3:=f3.keep HXP2.out (fun e=>HN2.out.off (lt_of_block HXP.out) (fun e=>by have:=HH.out.lt _ e;omega) e)
 have HF3':=Hd (show Fr (XFoot l) W3 w3 from HF2.out.trans' f3 (fun k hk e=>(HN2.out.F k e).elim id (fun e=>by omega)))
 have HN3:=Hd (HN2.out.trans n3 HF2.out.size)
 skip
 have HE3':=Hd (show XE w3 l3 (x.clear.reset (qc,qp,qb)) from e3)
 clear f3 n3 e3 b0 b4 d0 d1 d2
 have HX3':=Hd hx3
 have g0:=cell_in (i:=0) hxp3 rfl
 have g4:=cell_in (i:=4) hxp3 rfl
 have HK1:=Hd (show(x.clear.reset (qc,qp,qb)).e.k=K.new from rfl)
 have HA1:=Hd (show(x.clear.reset (qc,qp,qb)).c.all.length≤1099511627776 from Nat.zero_le _)
 generalize x.clear.reset (qc,qp,qb)=x1 at*
 clear hx3 hxp3
 go_wp2_with fail
 go_loopw [69] (fun i wr=>PtRel l W3 ys x1 6 qc qp qb (w.heap.size+1+1) i wr) (fun i _=>ny-(intOf i).toNat)
 case atStart=>
  exact⟨0,x1,0,_,Nat.zero_le _,rfl,HF3'.out.mono (fun _ _ h=>.inl h),HN3.out,HE3'.out,HX3'.out,rfl,by rw[HK1.out];exact Nat.le_refl _,by omega,by omega⟩
 case round=>
  obtain⟨k,x',n,l',hkn,rfl,hfr,hnx,hE,hx,hputs,hbs,hba,hbn⟩:=hrel
  have hf0r:Fr (fun _=>False) w0 wr:=HF0.out.trans' (lif_new HF3.out hfr (T:=fun k=>XFoot l k∨w.heap.size≤k) (fun k h1 h2=>h2.imp id (fun e=>by omega))) (fun k h1 h2=>by
   rcases h2 with h2|h2
   ·have:=HFT.out k h2;omega
   ·have:=HF0.out.size;omega)
  have hnb:(ny:Int)≤1048576:=by have:=HYL.out;have:=HNY.out;omega
  by_cases hlt:k<ny
  ·obtain⟨z,hz⟩:∃z,ys[k]? =some z:=⟨ys[k]'(HNY.out ▸ hlt),List.getElem?_eq_getElem (HNY.out ▸ hlt)⟩
   rw[drop_cons' hz,putsZ] at hputs
   have hzb:=HBY.out z (List.mem_of_getElem? hz)
   obtain⟨b,o,rfl,c0,c1,c2,c3⟩:=HSV.out.at hz
   have c0:=cell_keep c0 hf0r
   have c1:=cell_keep c1 hf0r
   have c2:=cell_keep c2 hf0r
   have c3:=cell_keep c3 hf0r
   have hidx:(k:Int)<ny:=by omega
   have hfy:=(Fr.refl (fun _=>False) wr).alloc (.cells z.cells 96)
   have hyy:=heap_alloc_new wr (.cells z.cells 96)
   have hputz:=fun h0=>apZ_put (x:=x') (z:=z) h0 hzb
   have hapok:=fun h0=>(apZ_ok (x:=x') (z:=z) h0).1
   have HXPT:=Hd (xput_calls (hE.keep hfy) (HT.out.keep (hf0r.trans hfy)) z hzb (by have:=HYL.out;omega) (by have:=HYL.out;have:=HA1.out;omega))
   rw[hnx.D] at HXPT
   have HSZ:=fun h0 W hW=>Hd (size_any z (hapok h0) hzb W (HT.out.keep (hf0r.trans hW)))
   have HPZ:=Hd hputz
   have HPUTS:=Hd hputs
   have HYY:=Hd hyy
   have HFY:=Hd hfy
   have HFR:=Hd hfr
   have HNX:=Hd hnx
   have HXC:=Hd hx
   have HEE:=Hd hE
   have HF0R:=Hd hf0r
   have HBS:=Hd hbs
   have HBA:=Hd hba
   have HBN:=Hd hbn
   clear hputz hapok hputs hyy hfy hfr hnx hx hE hf0r hbs hba hbn hz
   obtain⟨er,her⟩:∃er,er=(applyZ x'.c.size x'.c.all x'.c.s z).1:=⟨_,rfl⟩
   rw[←her] at HXPT
   have HER:=Hd (show er=(x'.apZ z).1 from her)
   clear her
   obtain⟨zk,zb,zl,zd⟩:=z
   simp only[Sz.cells] at HXPT HYY HFY HSZ c0 c1 c2 c3
   go_wp2_with fail
   refine HXPT.out.mono ?_
   rintro e w4 ⟨rfl,hp4⟩
   by_cases he:er=0
   ·subst he
    rw[if_pos rfl] at hp4
    rw[if_pos HER.out.symm] at HPUTS
    obtain⟨p1,p2,p3,p4⟩:=HPZ.out HER.out.symm
    obtain⟨f4,l4,n4,e4⟩:=hp4
    have hoffB:¬XFoot l' (w.heap.size+1+1):=HNX.out.off (lt_of_block HX3.out) (fun e=>by have:=HH.out.lt _ e;omega)
    have hxc4:=f4.keep (HFY.out.keep HXC.out (fun h=>h)) hoffB
    have hyy4:=f4.keep HYY.out (fun e=>by have:=HEE.out.lt _ e;omega)
    have hf04:Fr (fun _=>False) w0 w4:=(HF0R.out.trans HFY.out).trans' f4 (fun k h1 h2=>by
     rcases HNX.out.F k h2 with h2|h2
     ·have:=HFT.out k h2;omega
     ·have:=HF0.out.size;have:=HF3.out.size;omega)
    have HSZ4:=Hd (show∀W,Fr (fun _=>False) w4 W→Calls Tryz.prog 94 #[.agg #[.int .i64 zk,.int .u8 zb,.int .i64 zl,.int .i64 zd]] W fun e w'=>e=.returned (.int .i64 (St.size (Sz.sy ⟨zk,zb,zl,zd⟩)))∧Fr (fun _=>False) W w' from fun W hW=>size_any ⟨zk,zb,zl,zd⟩ ((apZ_ok HER.out.symm).1) hzb W (HT.out.keep (hf04.trans hW)))
    obtain⟨sz,hsz⟩:∃sz,sz=St.size (Sz.sy ⟨zk,zb,zl,zd⟩):=⟨_,rfl⟩
    rw[←hsz] at HSZ4 HPUTS p2 p3
    have hszb:(sz:Int)≤273:=by omega
    have hnb2:(n:Int)≤400000000:=by have:=HBN.out;have:=HYL.out;have:=HNY.out;omega
    have HKEEP:=Hd (show∀W,Fr (fun _=>False) w4 W→(W.cell? ⟨w.heap.size+1+1,1,none⟩=some (.int .i64 n)∧W.cell? ⟨wr.heap.size,0,none⟩=some (.int .i64 zk)∧W.cell? ⟨wr.heap.size,1,none⟩=some (.int .u8 zb)∧W.cell? ⟨wr.heap.size,2,none⟩=some (.int .i64 zl)∧W.cell? ⟨wr.heap.size,3,none⟩=some (.int .i64 zd)) from fun W hW=>⟨cell_in (hW.keep hxc4 (fun h=>h)) rfl,cell_in (hW.keep hyy4 (fun h=>h)) rfl,cell_in (hW.keep hyy4 (fun h=>h)) rfl,cell_in (hW.keep hyy4 (fun h=>h)) rfl,cell_in (hW.keep hyy4 (fun h=>h)) rfl⟩)
    have FC:=Hd (Fr.refl (fun _=>False) w4).drew
    have HXC4:=Hd hxc4
    have HF4:=Hd (show Fr (fun k=>XFoot l k∨k=w.heap.size+1+1) W3 w4 from(HFR.out.trans (lif HFY.out)).trans' f4 (fun k h1 h2=>by
     rcases HNX.out.F k h2 with h2|h2
     ·exact .inl h2
     ·omega))
    have HN4:=Hd (HNX.out.trans n4 (Nat.le_trans HFR.out.size HFY.out.size))
    have HE4:=Hd e4
    have HP:=Hd (⟨p1,p2,p3⟩:_∧_∧_)
    have yf:=fun i=>frozen_in hxc4 i
    have tt:=HKEEP.out _ FC.out
    obtain⟨t0,t1,t2,t3,t4⟩:=tt
    clear f4 n4 e4 hxc4 hyy4 hf04 p1 p2 p3 p4 hsz hoffB
    go_wp2_with fail
    go_region_law (first
     | (go_simp
        go_at_call 94
        refine(HSZ4.out _ FC.out).mono ?_
        rintro e w5 ⟨rfl,hf5⟩
        have FC:=Hd (FC.out.trans hf5)
        have tt:=HKEEP.out _ FC.out
        obtain⟨t0,t1,t2,t3,t4⟩:=tt
        have yg:=fun i=>frozen_in (FC.out.keep HXC4.out (fun h=>h)) i
        clear hf5))
    all_goals
     have hx5:=set_in (FC.out.keep HXC4.out (fun h=>h)) 1 (.int .i64 (IntKind.i64.wrap ((n:Int)+sz)))
     have hfs:Fr (fun k=>k=w.heap.size+1+1) w4 (World.setCell _ ⟨w.heap.size+1+1,1,none⟩ (.int .i64 (IntKind.i64.wrap ((n:Int)+sz)))):=(lif FC.out).trans (Fr.one _ _ _ _)
     clear t0 t1 t2 t3 t4 yg HKEEP HSZ4
     generalize World.setCell _ ⟨w.heap.size+1+1,1,none⟩ (Value.int IntKind.i64 (IntKind.i64.wrap ((n:Int)+sz)))=wz at*
     have hwn:IntKind.i64.wrap ((n:Int)+sz)=((n+sz:Nat):Int):=by rw[IntWalk.i64_in _ (by omega)];omega
     rw[hwn] at hx5
     have HX5:=Hd hx5
     have HFS:=Hd hfs
     clear hx5 hfs hwn
     go_wp2_with fail
     go_roundw
     case rel=>
      first
       |exact⟨k+1,_,n+sz,l4,by have:=HNY.out;omega,by go_num,HF4.out.trans (HFS.out.mono (fun _ _ h=>.inr h)),HN4.out,HE4.out.aside HXC4.out HFS.out,HX5.out,HPUTS.out,by have:=HP.out.1;have:=HBS.out;omega,by have:=HP.out.2.1;have:=HBA.out;omega,by have:=HBN.out;omega⟩
       | (refine ⟨_,_,_,_,_,_,_,_,_,_,_,_,_,_,_,_,_,_,_,_,_,_,?_,rfl⟩
          exact⟨k+1,_,n+sz,l4,by have:=HNY.out;omega,by go_num,HF4.out.trans (HFS.out.mono (fun _ _ h=>.inr h)),HN4.out,HE4.out.aside HXC4.out HFS.out,HX5.out,HPUTS.out,by have:=HP.out.1;have:=HBS.out;omega,by have:=HP.out.2.1;have:=HBA.out;omega,by have:=HBN.out;omega⟩)
     case measure=>simp[intOf];omega
   ·rw[if_neg he] at hp4
    have h1:((er:Int) !=0)=true:=by simp;omega
    have hpp:packP 6 x1 ys (qc,qp,qb)=.error er:=by
     unfold packP
     rw[HPUTS.out,if_neg (fun h=>he (HER.out.trans h)),HER.out]
    have HP:=Hd (show PartPost l w0 w RS (.returned (.tuple #[.slice none 0 0,.slice none 0 0,.int .i64 er])) w4 from by
     rw[HRES.out,hpp]
     exact⟨he,lif_new HF3.out (HFR.out.trans (lif (HFY.out.trans hp4))) (fun k h1 h2=>h2.elim id (fun e=>by omega)),_,_,rfl⟩)
    clear hpp hp4
    go_wp2_with fail
    go_ret3
    exact HP.out
  ·obtain rfl:k=ny:=by have:=HNY.out;omega
   have hd0:ys.drop k=[]:=List.drop_eq_nil_of_le (by have:=HNY.out;omega)
   rw[hd0,putsZ] at hputs
   have HPUTS:=Hd hputs
   have HXCU:=Hd (xcut_calls hE (by have:=HYL.out;have:=HNY.out;omega))
   rw[hnx.D] at HXCU
   have HFR:=Hd hfr
   have HNX:=Hd hnx
   have HXC:=Hd hx
   have HEE:=Hd hE
   clear hfr hnx hx hE hputs hd0 hbs hba hbn hf0r
   go_wp2_with fail
   refine HXCU.out.mono ?_
   rintro e w4 ⟨v,rfl,hmv,hp4⟩
   obtain⟨pv,cv,rfl⟩:=hmv.slice
   obtain⟨f4,l4,n4,e4⟩:=hp4
   have hoffB:¬XFoot l' (w.heap.size+1+1):=HNX.out.off (lt_of_block HX3.out) (fun e=>by have:=HH.out.lt _ e;omega)
   have hxc4:=f4.keep HXC.out hoffB
   obtain⟨m,hm⟩:∃m,m=x'.e.k.bytes.length:=⟨_,rfl⟩
   have HM:=Hd hm
   rw[←hm] at hmv ⊢
   have hxc5:=set_in hxc4 2 (.int .i64 m)
   obtain⟨z0,z1,z2,z3,z4,z5,zf⟩:=cf6 hxc4 rfl rfl rfl rfl rfl rfl
   have HXC4:=Hd hxc4
   have HMV:=Hd hmv
   have HF4:=Hd (show Fr (fun k=>XFoot l k∨k=w.heap.size+1+1) W3 w4 from HFR.out.trans' f4 (fun k h1 h2=>by
    rcases HNX.out.F k h2 with h2|h2
    ·exact .inl h2
    ·omega))
   have HN4:=Hd (HNX.out.trans n4 HFR.out.size)
   have HE4:=Hd e4
   have HSZW:=Hd (show w.heap.size≤wr.heap.size from Nat.le_trans HF3.out.size HFR.out.size)
   clear hxc4 hxc5 hmv f4 n4 e4 hm hoffB
   go_wp2_with fail
   refine(Enc.hput_any 6 n m qc qp qb (by decide) (fun h=>absurd h (by decide)) hq.1 hq.2 _).mono ?_
   rintro e w6 ⟨hf6,hv,rfl,hM6⟩
   have HF6:=Hd (show Fr (fun k=>XFoot l k∨k=w.heap.size+1+1) w4 w6 from(Fr.one w4 (w.heap.size+1+1) 2 (.int .i64 m)).mono (fun _ _ h=>.inr h)|>.trans (lif hf6))
   have HFS6:=Hd (show Fr (fun k=>k=w.heap.size+1+1) w4 w6 from(Fr.one w4 (w.heap.size+1+1) 2 (.int .i64 m)).trans (lif hf6))
   have hf6f:=hf6
   clear hf6f
   obtain⟨q,hq5⟩:∃q,q=Enc.okS 6 n m:=⟨_,rfl⟩
   have hqs:Enc.okS 6 n m=sizedP n m:=by unfold Enc.okS;rw[if_neg (by decide)]
   by_cases hok:Enc.okS 6 n m=true
   ·have hb6:=hM6 hok
    rw[if_pos hok]
    have HP:=Hd (show PartPost l w0 w RS (.returned (.tuple #[hv,.slice pv m cv,.int .i64 0])) w6 from by
     have hpp:packP 6 x1 ys (qc,qp,qb)=.ok (headB (if(6:Nat)<5 then⟨6,n,m,0,0,0⟩ else⟨6,n,m,qc,qp,qb⟩)++x'.e.k.bytes,x'.cut):=by
      unfold packP
      rw[HPUTS.out]
      simp only
      rw[←HM.out,if_pos (by rw[←hqs];exact hok)]
      rfl
     rw[HRES.out,hpp]
     refine⟨(show EPst l w x'.cut w6 from EPstB.out HF3.out (by omega) ⟨HF4.out.trans HF6.out,l4,HN4.out,(HE4.out.aside HXC4.out (Fr.one _ _ _ _)).keep hf6⟩),_,_,_,_,rfl,rfl,hb6.rd,(HMV.out.step HFS6.out (fun k hk e=> ?_)).rd,fun k hk=>.inr (Nat.le_trans HSZW.out (HMV.out.new k hk))⟩
     have:=HMV.out.new k hk
     have:=lt_of_block HXC.out
     omega)
    go_wp2_with fail
    go_ret3
    exact HP.out
   ·rw[if_neg hok]
    have HP:=Hd (show PartPost l w0 w RS (.returned (.tuple #[hv,.slice pv m cv,.int .i64 7])) w6 from by
     have hpp:packP 6 x1 ys (qc,qp,qb)=.error 7:=by
      unfold packP
      rw[HPUTS.out]
      simp only
      rw[←HM.out,if_neg (by rw[←hqs];exact hok)]
     rw[HRES.out,hpp]
     exact⟨by decide,lif_new HF3.out (HF4.out.trans HF6.out) (fun k h1 h2=>h2.elim id (fun e=>by omega)),_,_,rfl⟩)
    go_wp2_with fail
    go_ret3
    exact HP.out
end En
end Go.Proofs.YtlgccpjccopdmaaGreatDoor
