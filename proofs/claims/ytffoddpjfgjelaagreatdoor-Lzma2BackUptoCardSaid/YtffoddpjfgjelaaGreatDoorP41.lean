/- Part 41 of 52: lemmas of the last part, each under the conditions that it names. -/
import Derived.Test.YtffoddpjfgjelaaGreatDoorP40
set_option linter.unusedVariables false
set_option linter.unusedSimpArgs false
set_option maxRecDepth 1500
set_option maxHeartbeats 4000000
namespace Go.Proofs.YtffoddpjfgjelaaGreatDoor
open Go.RowKit
namespace Ps
open Mem Win St Fi Pk
structure ClAt(w:World)(Br Bf R fm N:Nat):Prop where
 br:∃cap,w.heap[Br]? =some (.cells #[.slice (some ⟨R,0,none⟩) N cap] 94 (0,0))
 bf:w.heap[Bf]? =some (.cells #[.int .i64 fm] 3 (0,0))
 row:∃cs,w.heap[R]? =some (.cells cs 3 (0,0))∧cs.size=N∧∀j,j<N→∃z:Int,cs[j]? =some (.int .i64 z)
theorem ClAt.keep{w w':World}{Br Bf R fm N:Nat}(h:ClAt w Br Bf R fm N)(hf:Fr (fun _=>False) w w'):ClAt w' Br Bf R fm N:=by
 obtain⟨⟨cap,h1⟩,h2,cs,h3,h4⟩:=h
 exact⟨⟨cap,hf.keep h1 (fun h=>h)⟩,hf.keep h2 (fun h=>h),cs,hf.keep h3 (fun h=>h),h4⟩
theorem behind_calls(Br Bf R fm N x:Nat)(w:World)(h:ClAt w Br Bf R fm N)(h1:fm≤x)(h2:x<fm+N)(hb:x≤1099511627776):
 Calls Tryz.prog 190 #[.int .i64 x,ptr Br,ptr Bf] w fun e w'=>(∃z:Int,e=.returned (.int .i64 z))∧w=w':=by
 obtain⟨⟨cap,hb1⟩,hb2,cs,hr,hsz,hcs⟩:=h
 obtain⟨z,hz⟩:=hcs (x-fm) (by omega)
 have c0:=cell_in (i:=0) hb1 rfl
 have c1:=cell_in (i:=0) hb2 rfl
 have c2:=cell_in (i:=x-fm) hr hz
 obtain⟨k,rfl⟩:∃k,x=fm+k:=⟨x-fm,by omega⟩
 rw[Nat.add_sub_cancel_left] at c2
 have hw:IntKind.i64.wrap (((fm+k:Nat):Int)-(fm:Int))=(k:Int):=by
  rw[IntWalk.i64_in _ (by omega)]
  omega
 have e1:(0:Int)≤(k:Int):=by omega
 have e2:(k:Int)<(N:Int):=by omega
 clear hb1 hb2 hr hcs
 go_enter Tryz.func190,Tryz.ntmps190
 go_wp2_with fail
 go_ret
 exact⟨⟨_,rfl⟩,rfl⟩
def StepOk(data:List UInt8)(tp p:Nat)(y:Sy):Prop:=
 (y.kind=1∧data[p]? =some (UInt8.ofNat y.byte)∧y.byte<256∧y.len=0∧y.dist=0)∨(y.kind=2∧y.byte=0∧3≤y.len∧y.len≤273∧Run data p y.len y.dist∧p+y.len≤tp)
theorem mt_cell{w0 w:World}{pm:Option Addr}{cap i:Nat}{l:List (Nat×Nat)}(h:Mts w0 w (.slice pm l.length cap) l)(hi:i<l.length):
 ∃g,pm=some ⟨g,0,none⟩∧w.cell? ⟨g,i*2,none⟩=some (.int .i64 (l[i].1:Nat))∧w.cell? ⟨g,i*2+1,none⟩=some (.int .i64 (l[i].2:Nat)):=by
 have key:∀(l:List (Nat×Nat))(i:Nat)(hi:i<l.length),(mtCells l)[i*2]? =some (.int .i64 (l[i].1:Nat))∧(mtCells l)[i*2+1]? =some (.int .i64 (l[i].2:Nat)):=by
  intro l
  induction l with
  |nil=>intro i hi;simp at hi
  |cons x l ih=>
    intro i hi
    cases i with
    |zero=>simp[mtCells]
    |succ i=>
      have:=ih i (by simpa using hi)
      simp only[mtCells,List.flatMap_cons,List.getElem_cons_succ] at this ⊢
      rw[show(i+1)*2=i*2+2 by omega,show i*2+2+1=i*2+1+2 by omega]
      simpa using this
 obtain⟨k0,k1⟩:=key l i hi
 obtain⟨g,e,h0⟩:=h.cell k0
 obtain⟨g',e',h1⟩:=h.cell k1
 rw[e] at e'
 simp only[Option.some.injEq,Addr.mk.injEq,and_true] at e'
 exact⟨g,e,h0,by rw[e'];exact h1⟩
set_option maxRecDepth 100000 in
theorem cheapest_calls(P tp dict p Br Bf R fm:Nat)(pv fv lv:Value)(data:List UInt8)(l:List (Nat×Nat))(w0 w:World)(hpc:PcAt w P tp dict pv fv data)(hT:Tabs w)(hm:Mts w0 w lv l)(hok:∀x ∈ l,MOk data dict p (min 273 (tp-p)) x)(hcl:ClAt w Br Bf R fm (tp-fm+1))(hfp:fm≤p)(hp:p<tp)(ht:tp≤data.length)(hb:data.length≤1073741824)(hd:dict≤4294967295)(hll:l.length≤1073741824):
 Calls Tryz.prog 189 #[ptr P,.int .i64 p,lv,.func (.func 190) #[] #[ptr Br,ptr Bf]] w fun e w'=>Fr (fun _=>False) w w'∧∃(y:Sy)(z:Int),e=.returned (.tuple #[.agg y.cells,.int .i64 z])∧StepOk data tp p y:=by
 obtain⟨pm,cap,rfl⟩:=hm.slice
 have hf1:=(Fr.refl (fun _=>False) w).alloc (.cells #[.int .i64 0,.int .u8 0,.int .i64 0,.int .i64 0] 110)
 have hB1:=heap_alloc_new w (.cells #[.int .i64 0,.int .u8 0,.int .i64 0,.int .i64 0] 110)
 have hpc1:=hpc.keep hf1
 have hrd:=hpc1.rd
 have c0:=cell_in (i:=0) hpc1.box rfl
 obtain⟨pa,pcap,rfl,_,_,hcells⟩:=hrd
 obtain⟨g,o,rfl,hby⟩:=hcells (by omega)
 obtain⟨x,hx⟩:∃x,data[p]? =some x:=⟨data[p],List.getElem?_eq_getElem (by omega)⟩
 have q1:(w.alloc (.cells #[.int .i64 0,.int .u8 0,.int .i64 0,.int .i64 0] 110)).cell? ⟨g,o+p,none⟩=some (.int .u8 x.toNat):=hby p x hx
 obtain⟨b0,b1,b2,b3,bf⟩:=cf4 hB1 rfl rfl rfl rfl
 have i1:(0:Int)≤(p:Int):=by omega
 have i2:(p:Int)<(data.length:Int):=by omega
 have HPC:=Hd hpc
 have HT:=Hd hT
 have HM:=Hd hm
 have HOK:=Hd hok
 have HCL:=Hd hcl
 have HX:=Hd hx
 have HB1:=Hd hB1
 clear hpc hpc1 hT hm hok hcl hby hcells hx hf1 hB1
 go_enter Tryz.func189,Tryz.ntmps189
 go_wp2_with fail
 have hfa:=((Fr.refl (fun _=>False) w).alloc (.cells #[.int .i64 0,.int .u8 0,.int .i64 0,.int .i64 0] 110)).alloc (.cells #[.int .i64 1,.int .u8 x.toNat,.int .i64 0,.int .i64 0] 110)
 refine(behind_calls Br Bf R fm (tp-fm+1) (p+1) _ (HCL.out.keep hfa) (by omega) (by omega) (by omega)).mono ?_
 rintro e w2 ⟨⟨z,rfl⟩,rfl⟩
 have hBB:=((Fr.refl (fun _=>False) _).alloc (.cells #[.int .i64 1,.int .u8 x.toNat,.int .i64 0,.int .i64 0] 110)).keep HB1.out (fun h=>h)
 have hBY:=heap_alloc_new (w.alloc (.cells #[.int .i64 0,.int .u8 0,.int .i64 0,.int .i64 0] 110)) (.cells #[.int .i64 1,.int .u8 x.toNat,.int .i64 0,.int .i64 0] 110)
 rw[World.size_alloc] at hBY
 generalize(w.alloc (.cells #[.int .i64 0,.int .u8 0,.int .i64 0,.int .i64 0] 110)).alloc (.cells #[.int .i64 1,.int .u8 x.toNat,.int .i64 0,.int .i64 0] 110)=W2 at*
 have HFA:=Hd hfa
 have HBB:=Hd hBB
 have HBY:=Hd hBY
 clear hfa hBB hBY c0 q1 b0 b1 b2 b3 bf HB1
 go_wp2_with fail
 have H0:=Hd (show StepOk data tp p ⟨1,x.toNat,0,0⟩ from .inl ⟨rfl,by simpa using HX.out,x.toNat_lt,rfl,rfl⟩)
 go_loopw [34,11,12] (fun s34 s11 s12 wr=>∃(k n:Nat)(z:Int)(y:Sy),s34=.int .i64 k∧s11=.int .i64 z∧s12=.int .i64 n∧k≤l.length∧3≤n∧n≤274∧StepOk data tp p y∧Fr (fun j=>j=w.heap.size+1) W2 wr∧wr.heap[w.heap.size+1]? =some (.cells y.cells 110 (0,0))) (fun s34 _ _ _=>l.length-(intOf s34).toNat)
 case atStart=>exact⟨0,3,_,⟨1,x.toNat,0,0⟩,rfl,rfl,rfl,by omega,by omega,by omega,H0.out,Fr.refl _ _,HBY.out⟩
 case round=>
  obtain⟨k,n,z1,y,rfl,rfl,rfl,hk,hn3,hn4,hst,hfr,hby⟩:=hrel
  by_cases hlt:k<l.length
  ·have hfw:=HFA.out.trans' hfr (fun j hj e=>by omega)
   obtain⟨g2,rfl,m0,m1⟩:=mt_cell (HM.out.keep hfw) hlt
   have hmk:=HOK.out l[k] (List.getElem_mem hlt)
   generalize l[k]=m at*
   obtain⟨mn,md⟩:=m
   have HMK:=Hd hmk
   have HFR:=Hd hfr
   have HBK:=Hd hby
   have HST:=Hd hst
   clear hmk hfr hby hst hfw
   go_wp2_with fail
   have hfy:=(Fr.refl (fun _=>False) wr).alloc (.cells #[.int .i64 mn,.int .i64 md] 310)
   have hbm:=heap_alloc_new wr (.cells #[.int .i64 mn,.int .i64 md] 310)
   have HF3:=Hd (HFR.out.alloc (.cells #[.int .i64 mn,.int .i64 md] 310))
   have HBK3:=Hd (hfy.keep HBK.out (fun h=>h))
   have hs2:=HFR.out.size
   have hs1:=lt_of_block HBY.out
   generalize wr.alloc (.cells #[.int .i64 mn,.int .i64 md] 310)=W3 at*
   obtain⟨bm,hbme⟩:∃bm,wr.heap.size=bm:=⟨_,rfl⟩
   rw[hbme] at hbm ⊢
   have HBM:=Hd hbm
   clear hfy hbm m0 m1
   go_loopw [11,12] (fun s11 s12 wy=>∃(n:Nat)(z:Int)(y:Sy),s11=.int .i64 z∧s12=.int .i64 n∧3≤n∧n≤274∧StepOk data tp p y∧Fr (fun j=>j=w.heap.size+1) W2 wy∧wy.heap[w.heap.size+1]? =some (.cells y.cells 110 (0,0))∧wy.heap[bm]? =some (.cells #[.int .i64 mn,.int .i64 md] 310 (0,0))) (fun _ s12 _=>mn+1-(intOf s12).toNat)
   case atStart=>exact⟨n,z1,y,rfl,rfl,hn3,hn4,HST.out,HF3.out,HBK3.out,HBM.out⟩
   case round=>
    obtain⟨n5,z5,y5,rfl,rfl,h53,h54,hst5,hfr5,hby5,hbm5⟩:=hrel
    obtain⟨m0,m1⟩:=cs2 hbm5 rfl rfl
    by_cases hle:n5≤mn
    ·have hle':(n5:Int)≤(mn:Int):=by omega
     have h1:=HMK.out.le
     have h2:=HMK.out.d1
     have h3:=HMK.out.dd
     simp only at h1 h2 h3
     have HF5:=Hd hfr5
     have HST5:=Hd hst5
     have HBY5:=Hd hby5
     have HBM5:=Hd hbm5
     clear hfr5 hst5 hby5 hbm5
     go_wp2_with fail
     refine(match_calls n5 md _).mono ?_
     rintro e w6 ⟨rfl,hf6⟩
     simp only[Sy.cells]
     have hfy:=(Fr.refl (fun _=>False) w6).alloc (.cells (Sy.cells ⟨2,0,n5,md⟩) 110)
     have hyn:=heap_alloc_new w6 (.cells (Sy.cells ⟨2,0,n5,md⟩) 110)
     simp only[Sy.cells] at hfy hyn
     obtain⟨y0,y1,y2,y3⟩:=cs4 hyn rfl rfl rfl rfl
     have HF7:=Hd (HF5.out.trans ((hf6.trans hfy).mono (fun _ _ h=>h.elim)))
     have HYN:=Hd hyn
     have HBY7:=Hd ((hf6.trans hfy).keep HBY5.out (fun h=>h))
     have HBM7:=Hd ((hf6.trans hfy).keep HBM5.out (fun h=>h))
     clear hfy hyn hf6 m0 m1
     go_wp2_with fail
     refine(price_calls n5 md _ (HT.out.keep (HFA.out.trans' HF7.out (fun j hj e=>by omega))) (by omega) (by omega) h2 (by omega)).mono ?_
     rintro e w8 ⟨⟨a8,b8,rfl⟩,hf8⟩
     have HF8:=Hd (HF7.out.trans (hf8.mono (fun _ _ h=>h.elim)))
     have HYN8:=Hd (hf8.keep HYN.out (fun h=>h))
     have HBY8:=Hd (hf8.keep HBY7.out (fun h=>h))
     have HBM8:=Hd (hf8.keep HBM7.out (fun h=>h))
     clear hf8 y0 y1 y2 y3
     obtain⟨y0,y1,y2,y3⟩:=cs4 HYN8.out rfl rfl rfl rfl
     have m0:=cell_in (i:=0) HBM8.out rfl
     have z0:=cell_in (i:=0) HBY8.out rfl
     have z1':=cell_in (i:=1) HBY8.out rfl
     have z2:=cell_in (i:=2) HBY8.out rfl
     have z3:=cell_in (i:=3) HBY8.out rfl
     have zf:=fun i=>frozen_in HBY8.out i
     go_wp2_with fail
     refine(behind_calls Br Bf R fm (tp-fm+1) (p+n5) _ (HCL.out.keep (HFA.out.trans' HF8.out (fun j hj e=>by omega))) (by omega) (by omega) (by omega)).mono ?_
     rintro e w9 ⟨⟨zb,rfl⟩,rfl⟩
     have HS6:=Hd (show StepOk data tp p ⟨2,0,n5,md⟩ from .inr ⟨rfl,rfl,h53,(by show n5≤273;omega),⟨h2,HMK.out.dp,fun j hj=>HMK.out.run j (Nat.lt_of_lt_of_le hj hle)⟩,(by show p+n5≤tp;omega)⟩)
     have hne:¬bm=w.heap.size+1:=by omega
     by_cases hc:wrap64 (a8+zb)≤z5
     ·go_wp2_with fail
      go_roundw
      ·refine⟨n5+1,_,⟨2,0,n5,md⟩,rfl,by simp,by omega,by omega,HS6.out,?_,?_,?_⟩
       ·exact(((HF8.out.setCell (p:=⟨w.heap.size+1,0,none⟩) (.inl rfl) _).setCell (p:=⟨w.heap.size+1,1,none⟩) (.inl rfl) _).setCell (p:=⟨w.heap.size+1,2,none⟩) (.inl rfl) _).setCell (p:=⟨w.heap.size+1,3,none⟩) (.inl rfl) _
       ·exact set_in (set_in (set_in (set_in HBY8.out 0 (.int .i64 2)) 1 (.int .u8 0)) 2 (.int .i64 n5)) 3 (.int .i64 md)
       ·exact((((Fr.one _ (w.heap.size+1) 0 _).trans (Fr.one _ (w.heap.size+1) 1 _)).trans (Fr.one _ (w.heap.size+1) 2 _)).trans (Fr.one _ (w.heap.size+1) 3 _)).keep HBM8.out hne
      ·simp[intOf];omega
     ·go_wp2_with fail
      go_roundw
      ·exact⟨n5+1,z5,y5,rfl,by simp,by omega,by omega,HST5.out,HF8.out,HBY8.out,HBM8.out⟩
      ·simp[intOf];omega
    ·have hle':¬(n5:Int)≤(mn:Int):=by omega
     go_wp2_with fail
     go_roundw
     ·exact⟨k+1,n5,z5,y5,by simp,rfl,rfl,by omega,h53,h54,hst5,hfr5,hby5⟩
     ·simp[intOf];omega
  ·have hk':k=l.length:=by omega
   subst hk'
   have hlt':¬((l.length:Int)<(l.length:Int)):=by omega
   obtain⟨yk,yb,yl,yd⟩:=y
   simp only[Sy.cells] at hby
   have z0:=cell_in (i:=0) hby rfl
   have z1':=cell_in (i:=1) hby rfl
   have z2:=cell_in (i:=2) hby rfl
   have z3:=cell_in (i:=3) hby rfl
   have hbb:=hfr.keep HBB.out (by omega)
   obtain⟨b0,b1,b2,b3,bf⟩:=cf4 hbb rfl rfl rfl rfl
   go_wp2_with fail
   refine bodyPost_ret (v:=.tuple #[.agg #[.int .i64 yk,.int .u8 yb,.int .i64 yl,.int .i64 yd],.int .i64 z1]) (by simp[results,Tryz.results189,go_sem,b0,b1,b2,b3]) rfl ?_
   refine⟨?_,⟨yk,yb,yl,yd⟩,⟨z1,rfl⟩,hst⟩
   repeat refine Fr.setCell ?_ (.inr (Nat.le_refl _)) _
   exact HFA.out.trans' hfr (fun j hj e=>by omega)
end Ps
end Go.Proofs.YtffoddpjfgjelaaGreatDoor
