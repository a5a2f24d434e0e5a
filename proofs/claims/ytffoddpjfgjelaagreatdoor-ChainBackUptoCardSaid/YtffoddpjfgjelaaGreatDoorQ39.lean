/- Part 39 of 48: lemmas of the last part, each under the conditions that it names. -/
import Derived.Deep.OwnRows
import Derived.Test.YtffoddpjfgjelaaGreatDoorQ38
set_option linter.unusedVariables false
set_option linter.unusedSimpArgs false
set_option maxRecDepth 1500
set_option maxHeartbeats 4000000
namespace Go.Proofs.YtffoddpjfgjelaaGreatDoor
open Go.RowKit
namespace Ps
open Mem Win St Fi Pk
structure ClAt(w:World)(Br Bf R fm N:Nat):Prop where
 br:∃cap,w.heap[Br]? =some (.cells #[.slice (some ⟨R,0,none⟩) N cap] 94 (0,0))
 bf:w.heap[Bf]? =some (.cells #[.int .i64 fm] 3 (0,0))
 row:∃cs,w.heap[R]? =some (.cells cs 3 (0,0))∧cs.size=N∧∀j,j<N→∃z:Int,cs[j]? =some (.int .i64 z)
theorem ClAt.keep{w w':World}{Br Bf R fm N:Nat}(h:ClAt w Br Bf R fm N)(hf:Fr (fun _=>False) w w'):ClAt w' Br Bf R fm N:=by
 obtain⟨⟨cap,h1⟩,h2,cs,h3,h4⟩:=h
 exact⟨⟨cap,hf.keep h1 (fun h=>h)⟩,hf.keep h2 (fun h=>h),cs,hf.keep h3 (fun h=>h),h4⟩
theorem behind_calls(Br Bf R fm N x:Nat)(w:World)(h:ClAt w Br Bf R fm N)(h1:fm≤x)(h2:x<fm+N)(hb:x≤1099511627776):
 Calls Tryz.prog 190 #[.int .i64 x,ptr Br,ptr Bf] w fun e w'=>(∃z:Int,e=.returned (.int .i64 z))∧w=w':=by
 obtain⟨⟨cap,hb1⟩,hb2,cs,hr,hsz,hcs⟩:=h
 obtain⟨z,hz⟩:=hcs (x-fm) (by omega)
 have c0:=cell_in (i:=0) hb1 rfl
 have c1:=cell_in (i:=0) hb2 rfl
 have c2:=cell_in (i:=x-fm) hr hz
 obtain⟨k,rfl⟩:∃k,x=fm+k:=⟨x-fm,by omega⟩
 rw[Nat.add_sub_cancel_left] at c2
 have hw:IntKind.i64.wrap (((fm+k:Nat):Int)-(fm:Int))=(k:Int):=by
  rw[IntWalk.i64_in _ (by omega)]
  omega
 have e1:(0:Int)≤(k:Int):=by omega
 have e2:(k:Int)<(N:Int):=by omega
 clear hb1 hb2 hr hcs
 go_enter Tryz.func190,Tryz.ntmps190
 go_wp2_with fail
 go_ret
 exact⟨⟨_,rfl⟩,rfl⟩
def StepOk(data:List UInt8)(tp p:Nat)(y:Sy):Prop:=
 (y.kind=1∧data[p]? =some (UInt8.ofNat y.byte)∧y.byte<256∧y.len=0∧y.dist=0)∨(y.kind=2∧y.byte=0∧3≤y.len∧y.len≤273∧Run data p y.len y.dist∧p+y.len≤tp)
theorem mt_cell{w0 w:World}{pm:Option Addr}{cap i:Nat}{l:List (Nat×Nat)}(h:Mts w0 w (.slice pm l.length cap) l)(hi:i<l.length):
 ∃g,pm=some ⟨g,0,none⟩∧w.cell? ⟨g,i*2,none⟩=some (.int .i64 (l[i].1:Nat))∧w.cell? ⟨g,i*2+1,none⟩=some (.int .i64 (l[i].2:Nat)):=by
 have key:∀(l:List (Nat×Nat))(i:Nat)(hi:i<l.length),(mtCells l)[i*2]? =some (.int .i64 (l[i].1:Nat))∧(mtCells l)[i*2+1]? =some (.int .i64 (l[i].2:Nat)):=by
  intro l
  induction l with
  |nil=>intro i hi;simp at hi
  |cons x l ih=>
    intro i hi
    cases i with
    |zero=>simp[mtCells]
    |succ i=>
      have:=ih i (by simpa using hi)
      simp only[mtCells,List.flatMap_cons,List.getElem_cons_succ] at this ⊢
      rw[show(i+1)*2=i*2+2 by omega,show i*2+2+1=i*2+1+2 by omega]
      simpa using this
 obtain⟨k0,k1⟩:=key l i hi
 obtain⟨g,e,h0⟩:=h.cell k0
 obtain⟨g',e',h1⟩:=h.cell k1
 rw[e] at e'
 simp only[Option.some.injEq,Addr.mk.injEq,and_true] at e'
 exact⟨g,e,h0,by rw[e'];exact h1⟩
set_option maxRecDepth 100000 in
theorem cheapest_calls(P tp dict p Br Bf R fm:Nat)(pv fv lv:Value)(data:List UInt8)(l:List (Nat×Nat))(w0 w:World)(hpc:PcAt w P tp dict pv fv data)(hT:Tabs w)(hm:Mts w0 w lv l)(hok:∀x ∈ l,MOk data dict p (min 273 (tp-p)) x)(hcl:ClAt w Br Bf R fm (tp-fm+1))(hfp:fm≤p)(hp:p<tp)(ht:tp≤data.length)(hb:data.length≤1073741824)(hd:dict≤4294967295)(hll:l.length≤1073741824):
 Calls Tryz.prog 189 #[ptr P,.int .i64 p,lv,.func (.func 190) #[] #[ptr Br,ptr Bf]] w fun e w'=>Fr (fun _=>False) w w'∧∃(y:Sy)(z:Int),e=.returned (.tuple #[.agg y.cells,.int .i64 z])∧StepOk data tp p y:=by
 obtain⟨pm,cap,rfl⟩:=hm.slice
 have hf1:=(R0 w).alloc (.cells #[.int .i64 0,.int .u8 0,.int .i64 0,.int .i64 0] 110)
 have hB1:=heap_alloc_new w (.cells #[.int .i64 0,.int .u8 0,.int .i64 0,.int .i64 0] 110)
 have hpc1:=hpc.keep hf1
 have hrd:=hpc1.rd
 have c0:=cell_in (i:=0) hpc1.box rfl
 obtain⟨pa,pcap,rfl,_,_,hcells⟩:=hrd
 obtain⟨g,o,rfl,hby⟩:=hcells (by omega)
 obtain⟨x,hx⟩:∃x,data[p]? =some x:=⟨data[p],List.getElem?_eq_getElem (by omega)⟩
 have q1:(w.alloc (.cells #[.int .i64 0,.int .u8 0,.int .i64 0,.int .i64 0] 110)).cell? ⟨g,o+p,none⟩=some (.int .u8 x.toNat):=hby p x hx
 obtain⟨b0,b1,b2,b3,bf⟩:=cf4 hB1 rfl rfl rfl rfl
 have i1:(0:Int)≤(p:Int):=by omega
 have i2:(p:Int)<(data.length:Int):=by omega
 have HPC:=Hd hpc
 have HT:=Hd hT
 have HM:=Hd hm
 have HOK:=Hd hok
 have HCL:=Hd hcl
 have HX:=Hd hx
 have HB1:=Hd hB1
 clear hpc hpc1 hT hm hok hcl hby hcells hx hf1 hB1
 go_enter Tryz.func189,Tryz.ntmps189
 go_wp2_with fail
 have hfa:=((R0 w).alloc (.cells #[.int .i64 0,.int .u8 0,.int .i64 0,.int .i64 0] 110)).alloc (.cells #[.int .i64 1,.int .u8 x.toNat,.int .i64 0,.int .i64 0] 110)
 refine(behind_calls Br Bf R fm (tp-fm+1) (p+1) _ (HCL.out.keep hfa) (by omega) (by omega) (by omega)).mono ?_
 rintro e w2 ⟨⟨z,rfl⟩,rfl⟩
 have hBB:=((R0 _).alloc (.cells #[.int .i64 1,.int .u8 x.toNat,.int .i64 0,.int .i64 0] 110)).keep HB1.out (fun h=>h)
 have hBY:=heap_alloc_new (w.alloc (.cells #[.int .i64 0,.int .u8 0,.int .i64 0,.int .i64 0] 110)) (.cells #[.int .i64 1,.int .u8 x.toNat,.int .i64 0,.int .i64 0] 110)
 rw[World.size_alloc] at hBY
 generalize(w.alloc (.cells #[.int .i64 0,.int .u8 0,.int .i64 0,.int .i64 0] 110)).alloc (.cells #[.int .i64 1,.int .u8 x.toNat,.int .i64 0,.int .i64 0] 110)=W2 at*
 have HFA:=Hd hfa
 have HBB:=Hd hBB
 have HBY:=Hd hBY
 clear hfa hBB hBY c0 q1 b0 b1 b2 b3 bf HB1
 go_wp2_with fail
 have H0:=Hd (show StepOk data tp p ⟨1,x.toNat,0,0⟩ from .inl ⟨rfl,by simpa using HX.out,x.toNat_lt,rfl,rfl⟩)
 go_loopw [34,11,12] (fun s34 s11 s12 wr=>∃(k n:Nat)(z:Int)(y:Sy),s34=.int .i64 k∧s11=.int .i64 z∧s12=.int .i64 n∧k≤l.length∧3≤n∧n≤274∧StepOk data tp p y∧Fr (fun j=>j=w.heap.size+1) W2 wr∧wr.heap[w.heap.size+1]? =some (.cells y.cells 110 (0,0))) (fun s34 _ _ _=>l.length-(intOf s34).toNat)
 case atStart=>exact⟨0,3,_,⟨1,x.toNat,0,0⟩,rfl,rfl,rfl,by omega,by omega,by omega,H0.out,Fr.refl _ _,HBY.out⟩
 case round=>
  obtain⟨k,n,z1,y,rfl,rfl,rfl,hk,hn3,hn4,hst,hfr,hby⟩:=hrel
  by_cases hlt:k<l.length
  ·have hfw:=HFA.out.trans' hfr (fun j hj e=>by omega)
   obtain⟨g2,rfl,m0,m1⟩:=mt_cell (HM.out.keep hfw) hlt
   have hmk:=HOK.out l[k] (List.getElem_mem hlt)
   generalize l[k]=m at*
   obtain⟨mn,md⟩:=m
   have HMK:=Hd hmk
   have HFR:=Hd hfr
   have HBK:=Hd hby
   have HST:=Hd hst
   clear hmk hfr hby hst hfw
   go_wp2_with fail
   have hfy:=(R0 wr).alloc (.cells #[.int .i64 mn,.int .i64 md] 310)
   have hbm:=heap_alloc_new wr (.cells #[.int .i64 mn,.int .i64 md] 310)
   have HF3:=Hd (HFR.out.alloc (.cells #[.int .i64 mn,.int .i64 md] 310))
   have HBK3:=Hd (hfy.keep HBK.out (fun h=>h))
   have hs2:=HFR.out.size
   have hs1:=lt_of_block HBY.out
   generalize wr.alloc (.cells #[.int .i64 mn,.int .i64 md] 310)=W3 at*
   obtain⟨bm,hbme⟩:∃bm,wr.heap.size=bm:=⟨_,rfl⟩
   rw[hbme] at hbm ⊢
   have HBM:=Hd hbm
   clear hfy hbm m0 m1
   go_loopw [11,12] (fun s11 s12 wy=>∃(n:Nat)(z:Int)(y:Sy),s11=.int .i64 z∧s12=.int .i64 n∧3≤n∧n≤274∧StepOk data tp p y∧Fr (fun j=>j=w.heap.size+1) W2 wy∧wy.heap[w.heap.size+1]? =some (.cells y.cells 110 (0,0))∧wy.heap[bm]? =some (.cells #[.int .i64 mn,.int .i64 md] 310 (0,0))) (fun _ s12 _=>mn+1-(intOf s12).toNat)
   case atStart=>exact⟨n,z1,y,rfl,rfl,hn3,hn4,HST.out,HF3.out,HBK3.out,HBM.out⟩
   case round=>
    obtain⟨n5,z5,y5,rfl,rfl,h53,h54,hst5,hfr5,hby5,hbm5⟩:=hrel
    obtain⟨m0,m1⟩:=cs2 hbm5 rfl rfl
    by_cases hle:n5≤mn
    ·have hle':(n5:Int)≤(mn:Int):=by omega
     have h1:=HMK.out.le
     have h2:=HMK.out.d1
     have h3:=HMK.out.dd
     simp only at h1 h2 h3
     have HF5:=Hd hfr5
     have HST5:=Hd hst5
     have HBY5:=Hd hby5
     have HBM5:=Hd hbm5
     clear hfr5 hst5 hby5 hbm5
     go_wp2_with fail
     refine(match_calls n5 md _).mono ?_
     rintro e w6 ⟨rfl,hf6⟩
     simp only[Sy.cells]
     have hfy:=(R0 w6).alloc (.cells (Sy.cells ⟨2,0,n5,md⟩) 110)
     have hyn:=heap_alloc_new w6 (.cells (Sy.cells ⟨2,0,n5,md⟩) 110)
     simp only[Sy.cells] at hfy hyn
     obtain⟨y0,y1,y2,y3⟩:=cs4 hyn rfl rfl rfl rfl
     have HF7:=Hd (HF5.out.trans ((hf6.trans hfy).mono (fun _ _ h=>h.elim)))
     have HYN:=Hd hyn
     have HBY7:=Hd ((hf6.trans hfy).keep HBY5.out (fun h=>h))
     have HBM7:=Hd ((hf6.trans hfy).keep HBM5.out (fun h=>h))
     clear hfy hyn hf6 m0 m1
     go_wp2_with fail
     refine(price_calls n5 md _ (HT.out.keep (HFA.out.trans' HF7.out (fun j hj e=>by omega))) (by omega) (by omega) h2 (by omega)).mono ?_
     rintro e w8 ⟨⟨a8,b8,rfl⟩,hf8⟩
     have HF8:=Hd (HF7.out.trans (hf8.mono (fun _ _ h=>h.elim)))
     have HYN8:=Hd (hf8.keep HYN.out (fun h=>h))
     have HBY8:=Hd (hf8.keep HBY7.out (fun h=>h))
     have HBM8:=Hd (hf8.keep HBM7.out (fun h=>h))
     clear hf8 y0 y1 y2 y3
     obtain⟨y0,y1,y2,y3⟩:=cs4 HYN8.out rfl rfl rfl rfl
     have m0:=cell_in (i:=0) HBM8.out rfl
     have z0:=cell_in (i:=0) HBY8.out rfl
     have z1':=cell_in (i:=1) HBY8.out rfl
     have z2:=cell_in (i:=2) HBY8.out rfl
     have z3:=cell_in (i:=3) HBY8.out rfl
     have zf:=fun i=>frozen_in HBY8.out i
     go_wp2_with fail
     refine(behind_calls Br Bf R fm (tp-fm+1) (p+n5) _ (HCL.out.keep (HFA.out.trans' HF8.out (fun j hj e=>by omega))) (by omega) (by omega) (by omega)).mono ?_
     rintro e w9 ⟨⟨zb,rfl⟩,rfl⟩
     have HS6:=Hd (show StepOk data tp p ⟨2,0,n5,md⟩ from .inr ⟨rfl,rfl,h53,(by show n5≤273;omega),⟨h2,HMK.out.dp,fun j hj=>HMK.out.run j (Nat.lt_of_lt_of_le hj hle)⟩,(by show p+n5≤tp;omega)⟩)
     have hne:¬bm=w.heap.size+1:=by omega
     by_cases hc:wrap64 (a8+zb)≤z5
     ·go_wp2_with fail
      go_roundw
      ·refine⟨n5+1,_,⟨2,0,n5,md⟩,rfl,by simp,by omega,by omega,HS6.out,?_,?_,?_⟩
       ·exact(((HF8.out.setCell (p:=⟨w.heap.size+1,0,none⟩) (.inl rfl) _).setCell (p:=⟨w.heap.size+1,1,none⟩) (.inl rfl) _).setCell (p:=⟨w.heap.size+1,2,none⟩) (.inl rfl) _).setCell (p:=⟨w.heap.size+1,3,none⟩) (.inl rfl) _
       ·exact set_in (set_in (set_in (set_in HBY8.out 0 (.int .i64 2)) 1 (.int .u8 0)) 2 (.int .i64 n5)) 3 (.int .i64 md)
       ·exact((((Fr.one _ (w.heap.size+1) 0 _).trans (Fr.one _ (w.heap.size+1) 1 _)).trans (Fr.one _ (w.heap.size+1) 2 _)).trans (Fr.one _ (w.heap.size+1) 3 _)).keep HBM8.out hne
      ·simp[intOf];omega
     ·go_wp2_with fail
      go_roundw
      ·exact⟨n5+1,z5,y5,rfl,by simp,by omega,by omega,HST5.out,HF8.out,HBY8.out,HBM8.out⟩
      ·simp[intOf];omega
    ·have hle':¬(n5:Int)≤(mn:Int):=by omega
     go_wp2_with fail
     go_roundw
     ·exact⟨k+1,n5,z5,y5,by simp,rfl,rfl,by omega,h53,h54,hst5,hfr5,hby5⟩
     ·simp[intOf];omega
  ·have hk':k=l.length:=by omega
   subst hk'
   have hlt':¬((l.length:Int)<(l.length:Int)):=by omega
   obtain⟨yk,yb,yl,yd⟩:=y
   simp only[Sy.cells] at hby
   have z0:=cell_in (i:=0) hby rfl
   have z1':=cell_in (i:=1) hby rfl
   have z2:=cell_in (i:=2) hby rfl
   have z3:=cell_in (i:=3) hby rfl
   have hbb:=hfr.keep HBB.out (by omega)
   obtain⟨b0,b1,b2,b3,bf⟩:=cf4 hbb rfl rfl rfl rfl
   go_wp2_with fail
   refine bodyPost_ret (v:=.tuple #[.agg #[.int .i64 yk,.int .u8 yb,.int .i64 yl,.int .i64 yd],.int .i64 z1]) (by simp[results,Tryz.results189,go_sem,b0,b1,b2,b3]) rfl ?_
   refine⟨?_,⟨yk,yb,yl,yd⟩,⟨z1,rfl⟩,hst⟩
   repeat refine Fr.setCell ?_ (.inr (Nat.le_refl _)) _
   exact HFA.out.trans' hfr (fun j hj e=>by omega)
end Ps
namespace Ps
open Mem Win St Fi Pk
def stepSize(y:Sy):Nat:=if y.len≤1 then 1 else y.len
theorem StepOk.fits{data:List UInt8}{tp p:Nat}{y:Sy}(h:StepOk data tp p y)(hp:p<tp):p+stepSize y≤tp∧1≤stepSize y:=by
 unfold stepSize
 rcases h with⟨_,_,_,h,_⟩|⟨_,_,h3,_,_,h⟩
 ·rw[if_pos (by omega)]
  omega
 ·rw[if_neg (by omega)]
  omega
def PlanOk(data:List UInt8)(tp:Nat):List Sy→Nat→Nat→Prop
 |[],p,q=>q=p
 |y::l,p,q=>StepOk data tp p y∧p<tp∧PlanOk data tp l (p+stepSize y) q
theorem PlanOk.snoc{data:List UInt8}{tp:Nat}{y:Sy}:∀{l:List Sy}{p q:Nat},PlanOk data tp l p q→StepOk data tp q y→q<tp→PlanOk data tp (l++[y]) p (q+stepSize y)
 |[],p,q,h,hy,hq=>by subst h;exact⟨hy,hq,rfl⟩
 |z::l,p,q,⟨h1,h2,h3⟩,hy,hq=>⟨h1,h2,h3.snoc hy hq⟩
theorem make_rows(n:Nat)(h:n≤1073741824)(W:World):
 (Instr.makeSlice 316 (.int .i64 n) (.int .i64 n)).run Tryz.prog W=.ok (.slice (some ⟨W.heap.size,0,none⟩) n n) (W.alloc (.cells (madeCells #[.slice none 0 0] n) 317)):=
 run_make_row' 316 317 (.slice none 0 0) 24 Tryz.underlying316 (by kernel_rfl) rfl .i64 .i64 n (by omega) (by omega) W
theorem make_nums(n:Nat)(h:n≤1073741825)(W:World):
 (Instr.makeSlice 94 (.int .i64 n) (.int .i64 n)).run Tryz.prog W=.ok (.slice (some ⟨W.heap.size,0,none⟩) n n) (W.alloc (.cells (madeCells #[.int .i64 0] n) 3)):=
 run_make_row' 94 3 (.int .i64 0) 8 Tryz.underlying94 (by kernel_rfl) rfl .i64 .i64 n (by omega) (by omega) W
theorem make_syms(n:Nat)(h:n≤1073741824)(W:World):
 (Instr.makeSlice 98 (.int .i64 n) (.int .i64 n)).run Tryz.prog W=.ok (.slice (some ⟨W.heap.size,0,none⟩) n n) (W.alloc (.cells (madeCells #[.int .i64 0,.int .u8 0,.int .i64 0,.int .i64 0] (n*4)) 110)):=by
 obtain⟨i,hi,hz,hs,hb⟩:=info_parts Lz.infoSym
 have:=run_make (P:=Tryz.prog) W 98 110 i _ Tryz.underlying98 hi hz .i64 .i64 n n (by omega) (by omega) (by rw[hb];omega) (by omega)
 rw[this,hs,Int.toNat_natCast]
 rfl
structure RowsAt(w wr:World)(A n k fm dict tp:Nat)(data:List UInt8):Prop where
 ex:∃cs,wr.heap[A]? =some (.cells cs 317 (0,0))∧cs.size=n∧∀j,j<k→∃(v:Value)(l:List (Nat×Nat)),cs[j]? =some v∧Mts w wr v l∧(∀x ∈ l,MOk data dict (fm+j) (min 273 (tp-(fm+j))) x)∧l.length≤273
theorem RowsAt.step{S:Nat→Prop}{w wr wr':World}{A n k fm dict tp:Nat}{data:List UInt8}(h:RowsAt w wr A n k fm dict tp data)(hf:Fr S wr wr')(hA:¬S A)(hS:∀j cs fr,wr.heap[j]? =some (.cells cs 310 fr)→¬S j):RowsAt w wr' A n k fm dict tp data:=by
 obtain⟨cs,h1,h2,h3⟩:=h.ex
 refine⟨cs,hf.keep h1 hA,h2,fun j hj=> ?_⟩
 obtain⟨v,l,e1,e2,e3,e4⟩:=h3 j hj
 refine⟨v,l,e1,e2.step hf (fun b hb=> ?_),e3,e4⟩
 obtain⟨cur,hc⟩:=e2.block hb
 exact hS b _ _ hc
theorem RowsAt.keep{w wr wr':World}{A n k fm dict tp:Nat}{data:List UInt8}(h:RowsAt w wr A n k fm dict tp data)(hf:Fr (fun _=>False) wr wr'):RowsAt w wr' A n k fm dict tp data:=h.step hf (fun h=>h) (fun _ _ _ _ h=>h)
theorem RowsAt.put{w wr:World}{A n k fm dict tp:Nat}{data:List UInt8}(h:RowsAt w wr A n k fm dict tp data)(hk:k<n){v:Value}{l:List (Nat×Nat)}(hv:Mts w wr v l)(hl:∀x ∈ l,MOk data dict (fm+k) (min 273 (tp-(fm+k))) x)(h273:l.length≤273):
 RowsAt w (wr.setCell ⟨A,k,none⟩ v) A n (k+1) fm dict tp data:=by
 obtain⟨cs,h1,h2,h3⟩:=h.ex
 have hf:=Fr.one wr A k v
 have hoff:∀{u:Value}{l:List (Nat×Nat)},Mts w wr u l→Mts w (wr.setCell ⟨A,k,none⟩ v) u l:=fun hu=>hu.step hf (fun b hb e=>by
  subst e
  exact hu.off h1 (by decide) hb)
 refine⟨cs.set! k v,set_in h1 k v,by simp[h2],fun j hj=> ?_⟩
 by_cases e:j=k
 ·subst e
  exact⟨v,l,by simp[h2,hk],hoff hv,hl,h273⟩
 ·obtain⟨u,l',e1,e2,e3,e4⟩:=h3 j (by omega)
  exact⟨u,l',by simpa [Array.set!,Array.getElem?_setIfInBounds,Ne.symm e] using e1,hoff e2,e3,e4⟩
structure PB(w wr:World)(P tp dict fm:Nat)(pv fv:Value)(data:List UInt8):Prop where
 fr:Fr (fun _=>False) w wr
 bf:wr.heap[w.heap.size]? =some (.cells #[.int .i64 fm] 3 (0,0))
 pc:PcAt wr P tp dict pv fv data
theorem PB.step{S:Nat→Prop}{w wr wr':World}{P tp dict fm:Nat}{pv fv:Value}{data:List UInt8}(h:PB w wr P tp dict fm pv fv data)(hf:Fr S wr wr')(h1:¬S w.heap.size)(h2:¬S P)(h3:∀k,S k→w.heap.size≤k)(hr:Rd w pv data):PB w wr' P tp dict fm pv fv data:=by
 have hf':=h.fr.trans' hf (fun k hk hs=>by have:=h3 k hs;omega)
 exact⟨hf',hf.keep h.bf h1,hf.keep h.pc.box h2,hr.keep hf'⟩
theorem PB.keep{w wr wr':World}{P tp dict fm:Nat}{pv fv:Value}{data:List UInt8}(h:PB w wr P tp dict fm pv fv data)(hf:Fr (fun _=>False) wr wr'):PB w wr' P tp dict fm pv fv data:=⟨h.fr.trans hf,hf.keep h.bf (fun h=>h),h.pc.keep hf⟩
structure BestAt(wr:World)(Q n m fm tp:Nat)(data:List UInt8):Prop where
 ex:∃cs,wr.heap[Q]? =some (.cells cs 110 (0,0))∧cs.size=n*4∧∀j,m≤j→j<n→∃y:Sy,cs[j*4]? =some (.int .i64 y.kind)∧cs[j*4+1]? =some (.int .u8 y.byte)∧cs[j*4+2]? =some (.int .i64 y.len)∧cs[j*4+3]? =some (.int .i64 y.dist)∧StepOk data tp (fm+j) y
theorem BestAt.step{S:Nat→Prop}{wr wr':World}{Q n m fm tp:Nat}{data:List UInt8}(h:BestAt wr Q n m fm tp data)(hf:Fr S wr wr')(hQ:¬S Q):BestAt wr' Q n m fm tp data:=by
 obtain⟨cs,h1,h2⟩:=h.ex
 exact⟨cs,hf.keep h1 hQ,h2⟩
theorem BestAt.put{wr:World}{Q n i fm tp:Nat}{data:List UInt8}(h:BestAt wr Q n (i+1) fm tp data)(hi:i<n)(y:Sy)(hy:StepOk data tp (fm+i) y):
 BestAt ((((wr.setCell ⟨Q,i*4,none⟩ (.int .i64 y.kind)).setCell ⟨Q,i*4+1,none⟩ (.int .u8 y.byte)).setCell ⟨Q,i*4+2,none⟩ (.int .i64 y.len)).setCell ⟨Q,i*4+3,none⟩ (.int .i64 y.dist)) Q n i fm tp data:=by
 obtain⟨cs,h1,h2,h3⟩:=h.ex
 refine⟨_,set_in (set_in (set_in (set_in h1 (i*4) (.int .i64 y.kind)) (i*4+1) (.int .u8 y.byte)) (i*4+2) (.int .i64 y.len)) (i*4+3) (.int .i64 y.dist),by simp[h2],fun j hj hn=> ?_⟩
 by_cases e:j=i
 ·subst e
  refine⟨y,?_,?_,?_,?_,hy⟩
  all_goals
   simp only[Array.set!,Array.getElem?_setIfInBounds,Array.size_setIfInBounds]
   repeat' split
   all_goals first|rfl|omega|exact absurd trivial (by assumption)
 ·obtain⟨y',e0,e1,e2,e3,e4⟩:=h3 j (by omega) hn
  refine⟨y',?_,?_,?_,?_,e4⟩
  all_goals
   simp only[Array.set!,Array.getElem?_setIfInBounds,Array.size_setIfInBounds]
   repeat' split
   all_goals first|assumption|omega
theorem ClAt.step{S:Nat→Prop}{w w':World}{Br Bf R fm N:Nat}(h:ClAt w Br Bf R fm N)(hf:Fr S w w')(h1:¬S Br)(h2:¬S Bf)(h3:¬S R):ClAt w' Br Bf R fm N:=by
 obtain⟨⟨cap,k1⟩,k2,cs,k3,k4⟩:=h
 exact⟨⟨cap,hf.keep k1 h1⟩,hf.keep k2 h2,cs,hf.keep k3 h3,k4⟩
theorem ClAt.put{w:World}{Br Bf R fm N i:Nat}(h:ClAt w Br Bf R fm N)(h1:¬Br=R)(h2:¬Bf=R)(hi:i<N)(z:Int):ClAt (w.setCell ⟨R,i,none⟩ (.int .i64 z)) Br Bf R fm N:=by
 obtain⟨⟨cap,k1⟩,k2,cs,k3,k4,k5⟩:=h
 have hf:=Fr.one w R i (.int .i64 z)
 refine⟨⟨cap,hf.keep k1 h1⟩,hf.keep k2 h2,cs.set! i (.int .i64 z),set_in k3 i _,by simp[k4],fun j hj=> ?_⟩
 by_cases e:j=i
 ·subst e
  exact⟨z,by simp[k4,hi]⟩
 ·obtain⟨u,hu⟩:=k5 j hj
  exact⟨u,by simpa [Array.set!,Array.getElem?_setIfInBounds,Ne.symm e] using hu⟩
set_option maxRecDepth 100000 in
theorem plan_calls(pv:Value)(data:List UInt8)(fm tp dict:Nat)(w:World)(h:Rd w pv data)(hT:Tabs w)(hft:fm<tp)(ht:tp≤data.length)(hb:data.length≤1073741824)(hd1:1≤dict)(hd2:dict≤4294967295):
    Calls Tryz.prog 129 #[pv,.int .i64 fm,.int .i64 tp,.int .i64 dict] w fun e w'=>Fr (fun _=>False) w w'∧∃v l,e=.returned (.tuple #[v,.int .i64 0])∧Lz.Syms w w' v l∧PlanOk data tp l fm tp:=by
  have hfa:=(R0 w).alloc (.cells #[.int .i64 fm] 3)
  have hbf:=heap_alloc_new w (.cells #[.int .i64 fm] 3)
  have HN:=Hd (newPiece_calls pv data fm tp dict _ (h.keep hfa) (by omega) ht (by omega) hd1 hd2)
  have HFA:=Hd hfa
  have HBF:=Hd hbf
  have HR:=Hd h
  have HRD:=Hd h
  have HT:=Hd hT
  obtain⟨pa,pc,rfl,_⟩:=h
  have c0:=cell_in (i:=0) hbf rfl
  clear hfa hbf hT
  go_enter Tryz.func129,Tryz.ntmps129
  go_wp2_with fail
  refine HN.out.mono ?_
  rintro e w2 ⟨hf2,P,F,dv,M,B,rfl,hpc,hfi,hF0,hP0⟩
  have HF2:=Hd (HFA.out.trans hf2)
  have HB2:=Hd (hf2.keep HBF.out (fun h=>h))
  have HPC:=Hd hpc
  have HFI:=Hd hfi
  have c0:=cell_in (i:=0) HB2.out rfl
  clear hf2 hpc hfi HBF HFA HN
  obtain⟨n,rfl⟩:∃n,tp=fm+n:=⟨tp-fm,by omega⟩
  have hmk:=make_rows n (by omega)
  have hw1:(fm:Int)+(n:Int)-(fm:Int)=(n:Int):=by omega
  go_wp2_with fail
  have hfy:=(R0 w2).alloc (.cells (madeCells #[.slice none 0 0] n) 317)
  have hA:=heap_alloc_new w2 (.cells (madeCells #[.slice none 0 0] n) 317)
  rw[World.size_alloc] at hF0 hP0
  have H0:=Hd (show PB w (w2.alloc (.cells (madeCells #[.slice none 0 0] n) 317)) P (fm+n) dict fm (.slice pa data.length pc) (ptr F) data from⟨HF2.out.trans hfy,hfy.keep HB2.out (fun h=>h),HPC.out.keep hfy⟩)
  have H1:=Hd (HFI.out.still hfy)
  have H2:=Hd (show RowsAt w (w2.alloc (.cells (madeCells #[.slice none 0 0] n) 317)) w2.heap.size n 0 fm dict (fm+n) data from⟨_,hA,by simp[madeCells],fun j hj=>by omega⟩)
  have hA0:=HF2.out.size
  clear hfy hA HF2 HB2 HPC HFI c0 hmk
  obtain⟨A,hAe⟩:∃A,w2.heap.size=A:=⟨_,rfl⟩
  rw[hAe] at H2 hA0 ⊢
  generalize w2.alloc (.cells (madeCells #[.slice none 0 0] n) 317)=W2 at*
  go_loopw [38](fun s38 wr=>∃k:Nat,s38=.int .i64 k∧k≤n∧PB w wr P (fm+n) dict fm (.slice pa data.length pc) (ptr F) data∧FiAt wr F data dict (fm+k) dv M B∧RowsAt w wr A n k fm dict (fm+n) data) (fun s38 _=>n-(intOf s38).toNat)
  case atStart=>exact⟨0,rfl,by omega,H0.out,H1.out,H2.out⟩
  case round=>
    obtain⟨k,rfl,hk,hpb,hfi,hro⟩:=hrel
    by_cases hlt:k<n
    · have HST:=Hd (steps_calls P F (fm+n) dict (fm+k) M B (.slice pa data.length pc) dv data wr hpb.pc hfi (by omega) ht hb hd2)
      have c0:=cell_in (i:=0) hpb.bf rfl
      have HPB:=Hd hpb
      have HFI:=Hd hfi
      have HRO:=Hd hro
      clear hpb hfi hro
      go_wp2_with fail
      refine HST.out.mono ?_
      rintro e w5 ⟨hf5,v,l,rfl,hm,hok,h273⟩
      have hs5:=HPB.out.fr.size
      have hm5:Mts w w5 v l:=⟨hm.own,fun j hj=>Nat.le_trans hs5 (hm.new j hj)⟩
      obtain⟨pm,cap,rfl⟩:=hm.slice
      have hro5:=HRO.out.keep hf5
      have hpb5:=HPB.out.keep hf5
      have hfi5:=HFI.out.still hf5
      obtain⟨cs,hcs,hcn,_⟩:=hro5.ex
      have q0:=cell_in (i:=k) hcs (Array.getElem?_eq_getElem (by omega))
      have qf:=fun i=>frozen_in hcs i
      have hset:=Fr.one w5 A k (.slice pm l.length cap)
      have hne:¬w.heap.size=A:=neOf hpb5.bf hcs (by decide)
      have hnp:¬P=A:=neOf hpb5.pc.box hcs (by decide)
      have hpb6:=hpb5.step hset (fun e=>hne e) (fun e=>hnp e) (fun j hj=>by omega) HR.out
      have hro6:=hro5.put hlt hm5 hok h273
      have hfi6:=hfi5.keep hset (fun j hj _=>by
        subst hj
        exact⟨_,_,(0,0),hcs,by decide,by decide,by decide⟩)
      have p3:=cell_in (i:=3) hpb6.pc.box rfl
      have HPB6:=Hd hpb6
      have HRO6:=Hd hro6
      have HFI6:=Hd hfi6
      have i1:(0:Int)≤(k:Int):=by omega
      have i2:(k:Int)<(n:Int):=by omega
      clear hm hm5 hok h273 hro5 hpb5 hfi5 hcs hset hpb6 hro6 hfi6 hf5
      go_wp2_with fail
      refine(skip_calls F dict (fm+k) 1 M B data dv _ HFI6.out (by omega) (by omega)).mono ?_
      rintro e w7 ⟨rfl,hf7,hfi7⟩
      have hpb7:=HPB6.out.step hf7 (fun e=>by omega) (fun e=>neOf HPB6.out.pc.box HFI6.out.box (by decide) e) (fun j hj=>by omega) HR.out
      have hro7:=HRO6.out.step hf7 (fun e=>by
        obtain⟨cs',hcs',_⟩:=HRO6.out.ex
        exact neOf hcs' HFI6.out.box (by decide) e) (fun j cs' fr hj e=>by
        have hx:=HFI6.out.box
        subst e
        rw[hj] at hx
        cases hx)
      have HPB7:=Hd hpb7
      have HRO7:=Hd hro7
      have HFI7:=Hd hfi7
      clear hpb7 hro7 hfi7 hf7
      go_wp2_with fail
      go_roundw
      · exact⟨k+1,by simp,by omega,HPB7.out,HFI7.out,HRO7.out⟩
      · simp[intOf];omega
    · have hk':k=n:=by omega
      subst hk'
      have HPB:=Hd hpb
      have HRO:=Hd hro
      clear hpb hfi hro H0 H1 H2
      have hmr:∀W:World,(Instr.makeSlice 94 (.int .i64 ((k:Int)+1)) (.int .i64 ((k:Int)+1))).run Tryz.prog W=.ok (.slice (some ⟨W.heap.size,0,none⟩) (k+1) (k+1)) (W.alloc (.cells (madeCells #[.int .i64 0] (k+1)) 3)):=fun W=>make_nums (k+1) (by omega) W
      have hms:=make_syms k (by omega)
      have hlt':¬((k:Int)<(k:Int)):=by omega
      go_wp2_with fail
      have hf3:=((((R0 wr).alloc (.cells (madeCells #[.int .i64 0] (k+1)) 3)).alloc (.cells #[.slice (some ⟨wr.heap.size,0,none⟩) (k+1) (k+1)] 94)).alloc (.cells (madeCells #[.int .i64 0,.int .u8 0,.int .i64 0,.int .i64 0] (k*4)) 110))
      have hb1:=(((R0 _).alloc (.cells #[.slice (some ⟨wr.heap.size,0,none⟩) (k+1) (k+1)] 94)).alloc (.cells (madeCells #[.int .i64 0,.int .u8 0,.int .i64 0,.int .i64 0] (k*4)) 110)).keep (heap_alloc_new wr (.cells (madeCells #[.int .i64 0] (k+1)) 3)) (fun h=>h)
      have hb2:=((R0 _).alloc (.cells (madeCells #[.int .i64 0,.int .u8 0,.int .i64 0,.int .i64 0] (k*4)) 110)).keep (heap_alloc_new (wr.alloc (.cells (madeCells #[.int .i64 0] (k+1)) 3)) (.cells #[.slice (some ⟨wr.heap.size,0,none⟩) (k+1) (k+1)] 94)) (fun h=>h)
      have hb3:=heap_alloc_new ((wr.alloc (.cells (madeCells #[.int .i64 0] (k+1)) 3)).alloc (.cells #[.slice (some ⟨wr.heap.size,0,none⟩) (k+1) (k+1)] 94)) (.cells (madeCells #[.int .i64 0,.int .u8 0,.int .i64 0,.int .i64 0] (k*4)) 110)
      simp only[World.size_alloc] at hb2 hb3
      have H0:=Hd (HPB.out.keep hf3)
      have H1:=Hd (HRO.out.keep hf3)
      have hs3:=lt_of_block HPB.out.bf
      obtain⟨R,hRe⟩:∃R,wr.heap.size=R:=⟨_,rfl⟩
      rw[hRe] at H0 H1 hb1 hb2 hb3 hs3 ⊢
      generalize((wr.alloc (.cells (madeCells #[.int .i64 0] (k+1)) 3)).alloc (.cells #[.slice (some ⟨R,0,none⟩) (k+1) (k+1)] 94)).alloc (.cells (madeCells #[.int .i64 0,.int .u8 0,.int .i64 0,.int .i64 0] (k*4)) 110)=W3 at*
      have H2:=Hd (show ClAt W3 (R+1) w.heap.size R fm (k+1) from⟨⟨_,hb2⟩,H0.out.bf,_,hb1,by simp[madeCells],fun j hj=>⟨0,by simp[madeCells,hj,Nat.mod_one]⟩⟩)
      have H3:=Hd (show BestAt W3 (R+1+1) k k fm (fm+k) data from⟨_,hb3,by simp[madeCells],fun j h1 h2=>by omega⟩)
      clear hf3 hb1 hb2 hb3 hmr hms HPB HRO c0
      go_loopw [17](fun s17 wr=>∃m:Nat,s17=.int .i64 ((m:Int)-1)∧m≤k∧PB w wr P (fm+k) dict fm (.slice pa data.length pc) (ptr F) data∧RowsAt w wr A k k fm dict (fm+k) data∧ClAt wr (R+1) w.heap.size R fm (k+1)∧BestAt wr (R+1+1) k m fm (fm+k) data) (fun s17 _=>(intOf s17+1).toNat)
      case atStart=>exact⟨k,rfl,by omega,H0.out,H1.out,H2.out,H3.out⟩
      case round=>
        obtain⟨m,rfl,hm,hpb,hro,hcl,hbe⟩:=hrel
        rcases m with _|i
        · have hi:((0:Nat):Int)-1=-1:=by omega
          rw[hi]
          have HPB:=Hd hpb
          have HBE:=Hd hbe
          clear hpb hro hcl hbe H0 H1 H2 H3
          obtain⟨w9,rfl⟩:∃w9,w9=wr:=⟨_,rfl⟩
          have hq0:R+1+1<w9.heap.size:=by
            obtain⟨cs,hcs,_⟩:=HBE.out.ex
            exact lt_of_block hcs
          go_wp2_with fail
          go_loopw [18,19] (fun s18 s19 wr=>∃(j:Nat)(l:List Sy),s19=.int .i64 j∧j≤k∧Fr (fun _=>False) w wr∧w9.heap.size≤wr.heap.size∧BestAt wr (R+1+1) k 0 fm (fm+k) data∧Lz.Syms w9 wr s18 l∧PlanOk data (fm+k) l fm (fm+j)∧l.length≤j) (fun _ s19 _=>k-(intOf s19).toNat)
          case atStart=>exact⟨0,[],rfl,by omega,HPB.out.fr,Nat.le_refl _,HBE.out,⟨World.ownsRow_nil _ _ _ _,fun k hk=>by simp[Value.ownBlock] at hk⟩,rfl,by simp⟩
          case round=>
            obtain⟨j,l,rfl,hj,hfx,hsx,hbx,hsy,hpl,hll⟩:=hrel
            by_cases hlt:j<k
            · obtain⟨cs,hcs,hcn,hat⟩:=hbx.ex
              obtain⟨⟨yk,yb,yl,yd⟩,y0,y1,y2,y3,hst⟩:=hat j (by omega) hlt
              have q0:=cell_in (i:=j*4) hcs y0
              have q1:=cell_in (i:=j*4+1) hcs y1
              have q2:=cell_in (i:=j*4+2) hcs y2
              have q3:=cell_in (i:=j*4+3) hcs y3
              have i1:(0:Int)≤(j:Int):=by omega
              have i2:(j:Int)<(k:Int):=by omega
              simp only at q0 q1 q2 q3
              have hfy:=(R0 wr).alloc (.cells #[.int .i64 yk,.int .u8 yb,.int .i64 yl,.int .i64 yd] 110)
              have HB9:=Hd (heap_alloc_new wr (.cells #[.int .i64 yk,.int .u8 yb,.int .i64 yl,.int .i64 yd] 110))
              have HSY:=Hd (hsy.step hfy (fun _ _ h=>h))
              have HBX:=Hd (hbx.step hfy (fun h=>h))
              have HFX:=Hd (hfx.trans hfy)
              have HCS:=Hd (hfy.keep hcs (fun h=>h))
              have HYY:=Hd (show cs[j*4]? =some (.int .i64 yk)∧cs[j*4+1]? =some (.int .u8 yb)∧cs[j*4+2]? =some (.int .i64 yl)∧cs[j*4+3]? =some (.int .i64 yd) from⟨y0,y1,y2,y3⟩)
              have HST:=Hd hst
              have HPL:=Hd hpl
              have HLT:=Hd (show∀b,u18.ownBlock=some b→w9.heap.size≤b from hsy.new)
              go_wp2_with (at_builtin
                           refine Lz.append_sym rfl _ _ rfl (w0:=w9) u18 l ⟨yk,yb,yl,yd⟩ wr.heap.size rfl rfl HSY.out (by rw[World.size_alloc];omega) HB9.out (by omega) ?_
                           intro v10 w10 hS10 hf10 hn10
                           have hbx10:=HBX.out.step hf10 (fun e=>by
                             have:=HLT.out _ e
                             omega)
                           have HFX10:=Hd (HFX.out.trans' hf10 (fun b hb e=>by
                             have:=HLT.out _ e
                             have:=HPB.out.fr.size
                             omega))
                           have hcs10:=hf10.keep HCS.out (fun e=>by
                             have:=HLT.out _ e
                             omega)
                           have q0:=cell_in (i:=j*4) hcs10 HYY.out.1
                           have q1:=cell_in (i:=j*4+1) hcs10 HYY.out.2.1
                           have q2:=cell_in (i:=j*4+2) hcs10 HYY.out.2.2.1
                           have q3:=cell_in (i:=j*4+3) hcs10 HYY.out.2.2.2
                           have HSY10:=Hd hS10
                           have HBX10:=Hd hbx10
                           have hs10:=hf10.size
                           rw[World.size_alloc] at hs10
                           clear hbx10 hcs10 hS10 hf10 hn10)
              have hsz:(if(yl:Int)≤1 then(1:Int) else(yl:Int))=((stepSize ⟨yk,yb,yl,yd⟩:Nat):Int):=by
                unfold stepSize
                by_cases h:yl≤1
                · rw[if_pos (by omega),if_pos h];rfl
                · rw[if_neg (by omega),if_neg h]
              obtain⟨hfit,h1⟩:=StepOk.fits HST.out (by omega)
              have HPL2:=Hd (HPL.out.snoc HST.out (by omega))
              generalize stepSize ⟨yk,yb,yl,yd⟩=n5 at*
              refine(size_calls _ _ _ _ _ (by omega)).mono ?_
              rintro e w11 ⟨rfl,hf11⟩
              rw[hsz]
              have HSY11:=Hd (HSY10.out.step hf11 (fun _ _ h=>h))
              have HBX11:=Hd (HBX10.out.step hf11 (fun h=>h))
              have HFX11:=Hd (HFX10.out.trans hf11)
              have hs11:=hf11.size
              clear hf11
              go_wp2_with fail
              go_roundw
              · exact⟨j+n5,_,by simp,by omega,HFX11.out,by omega,HBX11.out,HSY11.out,by rw[←Nat.add_assoc];exact HPL2.out,by rw[List.length_append,List.length_singleton];omega⟩
              · simp[intOf];omega
            · have hjk:j=k:=by omega
              subst hjk
              have hlt'':¬((j:Int)<(j:Int)):=by omega
              have HSY:=Hd hsy
              have HFX:=Hd hfx
              have HPL:=Hd hpl
              clear hsy hfx hpl hbx HPB HBE
              go_wp2_with fail
              go_ret2
              exact⟨HFX.out,u18,rfl,l,⟨HSY.out.own,fun b hb=>Nat.le_trans (by omega) (HSY.out.new b hb)⟩,HPL.out⟩
        · have hi:((i+1:Nat):Int)-1=(i:Int):=by omega
          rw[hi]
          have hge:(0:Int)≤(i:Int):=by omega
          go_wp2_with fail
          obtain⟨cs,hcs,hcn,hat⟩:=hro.ex
          obtain⟨v,l,hv,hml,hmok,h273⟩:=hat i (by omega)
          obtain⟨pm,cap,rfl⟩:=hml.slice
          obtain⟨⟨capr,hbr⟩,hbf,crs,hrr,hrn,hrz⟩:=hcl
          obtain⟨zi,hzi⟩:=hrz i (by omega)
          obtain⟨cq,hcq,hqn,hqa⟩:=hbe.ex
          have HCH:=Hd (show∀w':World,Fr (fun _=>False) wr w'→Calls Tryz.prog 189 #[ptr P,.int .i64 (IntKind.i64.wrap ((fm:Int)+(i:Int))),.slice pm l.length cap,.func (.func 190) #[] #[.pointer (some ⟨R+1,0,none⟩),.pointer (some ⟨w.heap.size,0,none⟩)]] w' (fun e w''=>Fr (fun _=>False) w' w''∧∃(y:Sy)(z:Int),e=.returned (.tuple #[.agg y.cells,.int .i64 z])∧StepOk data (fm+k) (fm+i) y) from fun(w':World)(hf:Fr (fun _=>False) wr w')=>by
            rw[IntWalk.i64_in _ (by omega)]
            exact cheapest_calls P (fm+k) dict (fm+i) (R+1) w.heap.size R fm (.slice pa data.length pc) (ptr F) (.slice pm l.length cap) data l w w' (hpb.pc.keep hf) (HT.out.keep (hpb.fr.trans hf)) (hml.keep hf) hmok (by rw[Nat.add_sub_cancel_left];exact ClAt.keep ⟨⟨capr,hbr⟩,hbf,crs,hrr,hrn,hrz⟩ hf) (by omega) (by omega) ht hb hd2 (by omega))
          have HPB:=Hd hpb
          have HRO:=Hd hro
          have HBE:=Hd hbe
          have HCL:=Hd (show ClAt wr (R+1) w.heap.size R fm (k+1) from⟨⟨capr,hbr⟩,hbf,crs,hrr,hrn,hrz⟩)
          have hs4:=hpb.fr.size
          have n1:¬A=R:=neOf hcs hrr (by decide)
          have n2:¬A=R+1+1:=neOf hcs hcq (by decide)
          have n3:¬w.heap.size=R+1+1:=neOf hpb.bf hcq (by decide)
          have HR:=Hd ((R0 wr).drew)
          have HS:=Hd (show∀w':World,Fr (fun j=>j=R∨j=R+1+1) wr w'→(w'.cell? ⟨R+1,0,none⟩=some (.slice (some ⟨R,0,none⟩) (k+1) capr)∧w'.cell? ⟨w.heap.size,0,none⟩=some (.int .i64 fm)∧w'.cell? ⟨A,i,none⟩=some (.slice pm l.length cap)) from fun w' hf=>
            ⟨cell_in (i:=0) (hf.keep hbr (by omega)) rfl,cell_in (i:=0) (hf.keep hbf (by omega)) rfl,cell_in (i:=i) (hf.keep hcs (by omega)) hv⟩)
          have HSC:=Hd (HS.out _ (HR.out.mono (fun _ _ h=>h.elim)))
          obtain⟨e0,e1,e2⟩:=HS.out wr (Fr.refl _ _)
          have i1:(0:Int)≤(i:Int):=by omega
          have i2:(i:Int)<(k:Int):=by omega
          have i3:(i:Int)<(k:Int)+1:=by omega
          have i4:(i:Int)<((k+1:Nat):Int):=by omega
          have HCQ:=Hd hcq
          have HRR:=Hd hrr
          clear hpb hro hbe hcs hbr hbf hrr hcq hml hmok hrz hqa hat hv
          go_region_held3 (fun w'=>w'.cell? ⟨R+1,0,none⟩=some (.slice (some ⟨R,0,none⟩) (k+1) capr)∧w'.cell? ⟨w.heap.size,0,none⟩=some (.int .i64 fm)∧w'.cell? ⟨A,i,none⟩=some (.slice pm l.length cap)) (first|with_reducible exact HSC.out|(refine HS.out _ ?_;(repeat refine Fr.setCell ?_ (.inl (by simp)) _);exact HR.out.mono (fun _ _ h=>h.elim))) ((
            (go_at_call 189
             with_reducible refine(HCH.out _ HR.out).mono ?_
             rintro e wc ⟨hfrc,y,z,rfl,hst⟩
             obtain⟨yk,yb,yl,yd⟩:=y
             simp only[Sy.cells]
             have HR:=Hd (HR.out.trans hfrc)
             have HSC:=Hd (HS.out _ (HR.out.mono (fun _ _ h=>h.elim)))
             have HSTY:=Hd hst
             have hq:=HR.out.keep HCQ.out (fun h=>h)
             have hr:=HR.out.keep HRR.out (fun h=>h)
             have q0:=cell_in (i:=i*4) hq (Array.getElem?_eq_getElem (by omega))
             have q1:=cell_in (i:=i*4+1) hq (Array.getElem?_eq_getElem (by omega))
             have q2:=cell_in (i:=i*4+2) hq (Array.getElem?_eq_getElem (by omega))
             have q3:=cell_in (i:=i*4+3) hq (Array.getElem?_eq_getElem (by omega))
             have qf:=fun j=>frozen_in hq j
             have r0:=cell_in (i:=i) hr (Array.getElem?_eq_getElem (by omega))
             have rf:=fun j=>frozen_in hr j
             clear hfrc hst hq hr)))
          all_goals go_wp2_with fail
          all_goals
            have hset:Fr (fun j=>j=R∨j=R+1+1) wc (((((wc.setCell ⟨R+1+1,i*4,none⟩ (.int .i64 yk)).setCell ⟨R+1+1,i*4+1,none⟩ (.int .u8 yb)).setCell ⟨R+1+1,i*4+2,none⟩ (.int .i64 yl)).setCell ⟨R+1+1,i*4+3,none⟩ (.int .i64 yd)).setCell ⟨R,i,none⟩ (.int .i64 z)):=by
              refine Fr.setCell ?_ (.inl (.inl rfl)) _
              refine Fr.setCell ?_ (.inl (.inr rfl)) _
              refine Fr.setCell ?_ (.inl (.inr rfl)) _
              refine Fr.setCell ?_ (.inl (.inr rfl)) _
              exact Fr.setCell (Fr.refl _ _) (.inl (.inr rfl)) _
            have hq4:Fr (fun j=>j=R+1+1) wc ((((wc.setCell ⟨R+1+1,i*4,none⟩ (.int .i64 yk)).setCell ⟨R+1+1,i*4+1,none⟩ (.int .u8 yb)).setCell ⟨R+1+1,i*4+2,none⟩ (.int .i64 yl)).setCell ⟨R+1+1,i*4+3,none⟩ (.int .i64 yd)):=
              (((Fr.one _ _ _ _).trans (Fr.one _ _ _ _)).trans (Fr.one _ _ _ _)).trans (Fr.one _ _ _ _)
            have hcq:=HR.out.keep HCQ.out (fun h=>h)
            have hrr:=HR.out.keep HRR.out (fun h=>h)
            have hpbc:=HPB.out.keep HR.out
            have hne1:=neOf hpbc.pc.box hcq (by decide)
            have hne2:=neOf hpbc.pc.box hrr (by decide)
            refine⟨⟨i,rfl,by omega,hpbc.step hset (by omega) (by omega) (fun j hj=>by omega) HRD.out,(HRO.out.keep HR.out).step hset (by omega) (fun j cs' fr' hj e=> ?_),((HCL.out.keep HR.out).step hq4 (by omega) (by omega) (by omega)).put (by omega) (by omega) (by omega) z,((HBE.out.step HR.out (fun h=>h)).put (by omega) ⟨yk,yb,yl,yd⟩ HSTY.out).step (Fr.one _ R i _) (by omega)⟩,?_⟩
            · rcases e with e|e
              · exact neOf hj hrr (by decide) e
              · exact neOf hj hcq (by decide) e
            · first|(simp[intOf];done)|(simp[intOf];omega)
end Ps
end Go.Proofs.YtffoddpjfgjelaaGreatDoor
