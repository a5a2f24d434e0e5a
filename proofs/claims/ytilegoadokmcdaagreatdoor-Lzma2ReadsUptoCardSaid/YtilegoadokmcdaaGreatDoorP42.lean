/- Part 42 of 53: lemmas of the last part, each under the conditions that it names. -/
import Derived.Deep.RegionHeld3
import Derived.Deep.CutBlock
import Derived.Deep.DeepCutAuto
import Derived.Test.YtilegoadokmcdaaGreatDoorP22
import Derived.Test.YtilegoadokmcdaaGreatDoorP39
import Derived.Test.YtilegoadokmcdaaGreatDoorP41
set_option linter.unusedVariables false
set_option linter.unusedSimpArgs false
set_option maxRecDepth 1500
set_option maxHeartbeats 8000000
namespace Go.Proofs.YtilegoadokmcdaaGreatDoor
open Go.RowKit
namespace Rf
open Mem Rc Prob St Lz Win
def SymPost(l:RL)(c:C)(w:World)(r:Sy×Y)(e:Ending)(w':World):Prop:=
 e=.returned (.agg r.1.cells)∧Fr l.S w w'∧∃st',RAt w' {l with st:=st'} c r.2∧∀k,SF l.M st' k→SF l.M l.st k∨w.heap.size≤k
theorem RAt.step{S:Nat→Prop}{w w':World}{l:RL}{c:C}{y:Y}(h:RAt w l c y)(hfr:Fr S w w')(hx:¬S l.X)(hq:¬S l.Q)(hc:∀k,l.CF k→¬S k)(hb:∀k,l.bv.ownBlock=some k→¬S k):RAt w' l c y:=
 ⟨hfr.keep h.x hx,h.cod.step hfr hc,⟨hfr.keep h.rd.box hq,h.rd.rd.step hfr hb⟩,h.d,h.bva⟩
theorem Cod.offT{w:World}{l:RL}{c:C}{ps:Nat→List Nat}(h:Cod w l c ps){k:Nat}{cs:Array Value}{t:TypeId}{fr:Nat×Nat}(hk:w.heap[k]? =some (.cells cs t fr))(h1:t≠136)(h2:t≠182)(h3:t≠5)(h4:t≠337)(h5:t≠3):∀j,l.CF j→j≠k:=by
 rintro j (rfl|rfl|hj|hj) he
 ·exact blk_ne h.k hk (fun e=>h1 e.symm) he
 ·exact blk_ne h.v hk (fun e=>h2 e.symm) he
 ·obtain⟨cur,hc⟩:=own_block h.all hj
  exact blk_ne hc hk (fun e=>h3 e.symm) he
 ·exact h.sets.off hk h4 h5 (he ▸ hj)
theorem sym_end{w wk:World}{o:Obj}{l:RL}{c:C}{y:Y}{st':List Ent}{v a0 a1 a2 a3:Value}{cs:Array Value}{fr:Nat×Nat}(h0:∀k,l.bv.ownBlock=some k→k<w.heap.size)(hz:wk.heap[w.heap.size]? =some (.cells cs 68 fr))(hf:Fr l.S (w.alloc o) wk)(hg:∀k,SF l.M st' k→SF l.M l.st k∨(w.alloc o).heap.size≤k)(hA:RAt wk {l with st:=st'} c y):
 Ending.returned v=.returned v∧Fr l.S w ((((wk.setCell ⟨w.heap.size,0,none⟩ a0).setCell ⟨w.heap.size,1,none⟩ a1).setCell ⟨w.heap.size,2,none⟩ a2).setCell ⟨w.heap.size,3,none⟩ a3)∧
  ∃st',RAt ((((wk.setCell ⟨w.heap.size,0,none⟩ a0).setCell ⟨w.heap.size,1,none⟩ a1).setCell ⟨w.heap.size,2,none⟩ a2).setCell ⟨w.heap.size,3,none⟩ a3) {l with st:=st'} c y∧∀k,SF l.M st' k→SF l.M l.st k∨w.heap.size≤k:=by
 have f:=(((Fr.one wk w.heap.size 0 a0).trans (Fr.one _ w.heap.size 1 a1)).trans (Fr.one _ w.heap.size 2 a2)).trans (Fr.one _ w.heap.size 3 a3)
 refine⟨rfl,(((Fr.refl l.S w).alloc o).trans hf).trans' f (fun k hk(e:k=w.heap.size)=>by omega),st',hA.step f (fun e=>blk_ne hA.x hz (by decide) e) (fun e=>blk_ne hA.rd.box hz (by decide) e) (fun k hk e=>hA.cod.offT hz (by decide) (by decide) (by decide) (by decide) (by decide) k hk e) (fun k hk(e:k=w.heap.size)=>by have:=h0 k hk;omega),fun k hk=>(hg k hk).imp id (fun h=>by rw[World.size_alloc] at h;omega)⟩
theorem rlit_lt(y:Y)(c:C):(rlit y c).1-256<256:=by
 have h:∀(k m n:Nat)(same:Bool)(y:Y),m<2^n→(litGo (c.lastB c.s.r0) c.context k m same y).1<2^(n+k):=by
  intro k
  induction k with
  |zero=>intro m n same y h;exact h
  |succ k ih=>
    intro m n same y h
    rw[lit_succ]
    have hb:=bit_le y 6 (c.context+m+if same then 256*(1+c.lastB c.s.r0/2^k%2) else 0)
    have:=ih (2*m+(y.bit 6 (c.context+m+if same then 256*(1+c.lastB c.s.r0/2^k%2) else 0)).1) (n+1) (same&&decide ((y.bit 6 (c.context+m+if same then 256*(1+c.lastB c.s.r0/2^k%2) else 0)).1=c.lastB c.s.r0/2^k%2)) (y.bit 6 (c.context+m+if same then 256*(1+c.lastB c.s.r0/2^k%2) else 0)).2 (by rw[Nat.pow_succ];omega)
    rw[show n+(k+1)=n+1+k by omega]
    exact this
 have:=h 8 1 1 (decide (7≤c.s.num)) y (by decide)
 unfold rlit
 omega
theorem rlength_two(y:Y)(c:C)(q:Nat):2≤(rlength y c q).1∧(rlength y c q).1≤1000:=by
 unfold rlength
 split
 ·have:=rtree_lt (y.bit q 0).2 (q+1) (8*c.place) 3
  exact⟨by simp only;omega,by simp only;omega⟩
 ·split
  ·have:=rtree_lt ((y.bit q 0).2.bit q 1).2 (q+2) (8*c.place) 3
   exact⟨by simp only;omega,by simp only;omega⟩
  ·have:=rtree_lt ((y.bit q 0).2.bit q 1).2 (q+3) 0 8
   exact⟨by simp only;omega,by simp only;omega⟩
set_option maxRecDepth 100000 in
theorem symbol_calls{l:RL}{c:C}{y:Y}{w:World}(h:RAt w l c y):
 Calls Tryz.prog 88 #[ptr l.X] w (SymPost l c w (rsymbol y c)):=by
 have hnum:=h.cod.okc.s.num
 have hplace:=h.cod.okc.place
 have hold:=h.old
 have HF:=Hd (Fr.refl l.S (w.alloc (.cells #[.int .i64 0,.int .u8 0,.int .i64 0,.int .i64 0] 68)))
 have HZ:=Hd (heap_alloc_new w (.cells #[.int .i64 0,.int .u8 0,.int .i64 0,.int .i64 0] 68))
 have HNZ:=Hd (show¬l.S w.heap.size from fun hs=>by have:=hold _ hs;omega)
 have hA:=h.keep ((Fr.refl (fun _=>False) w).alloc (.cells #[.int .i64 0,.int .u8 0,.int .i64 0,.int .i64 0] 68))
 have HG0:=Hd (show∀k,SF l.M l.st k→SF l.M l.st k∨(w.alloc (.cells #[.int .i64 0,.int .u8 0,.int .i64 0,.int .i64 0] 68)).heap.size≤k from fun k hk=>.inl hk)
 have HG:=HG0
 have H0:=Hd (show∀k,l.bv.ownBlock=some k→k<w.heap.size from fun k hk=>rd_lt h.rd.rd h.d.2.2.2.2 k hk)
 have x0:(w.alloc (.cells #[.int .i64 0,.int .u8 0,.int .i64 0,.int .i64 0] 68)).cell? ⟨l.X,0,none⟩=some (ptr l.K):=cell_in (i:=0) hA.x rfl
 have p4:=hA.cod.cells.p4
 obtain⟨res,hres⟩:∃res,res=rsymbol y c:=⟨_,rfl⟩
 rw[←hres]
 unfold rsymbol at hres
 have HR:=Hd hres
 clear hres h hold
 go_enter Tryz.func88,Tryz.ntmps88
 go_wp2_with fail
 clear x0 p4
 have x0:(w.alloc (.cells #[.int .i64 0,.int .u8 0,.int .i64 0,.int .i64 0] 68)).cell? ⟨l.X,0,none⟩=some (ptr l.K):=cell_in (i:=0) hA.x rfl
 have HS1:=Hd (fun W=>set_calls [73,115,77,97,116,99,104] c.s.num (by decide) (by omega) W)
 have HS2:=Hd (fun W=>set_calls (num [73,115,77,97,116,99,104] c.s.num) c.place (by have:=num_len [73,115,77,97,116,99,104] c.s.num;have:([73,115,77,97,116,99,104]:List UInt8).length≤10:=(by decide);omega) (by omega) W)
 have HPL:=Hd (Rf.place_calls (hA.keep (Fr.refl (fun _=>False) (w.alloc (.cells #[.int .i64 0,.int .u8 0,.int .i64 0,.int .i64 0] 68))).drew).cod)
 have HBC:=Hd (fun m=>bit0_calls (hA.keep ((Fr.refl (fun _=>False) (w.alloc (.cells #[.int .i64 0,.int .u8 0,.int .i64 0,.int .i64 0] 68))).drewN m)) (nIsMatch c.s.num c.place) (mem_isMatch hnum hplace) (num (num [73,115,77,97,116,99,104] c.s.num) c.place) rfl Nat.zero_lt_one (show c.s.num*16+c.place<192 by omega))
 unfold nIsMatch at HBC
 simp only at HBC
 have hb:=bit_le y 0 (c.s.num*16+c.place)
 have HFD:=Hd (fun m=>HF.out.drewN m)
 have hcat:c.at=c.s.num*16+c.place:=rfl
 rw[hcat] at HR
 clear hcat
 generalize y.bit 0 (c.s.num*16+c.place)=r at*
 obtain⟨v,y1⟩:=r
 simp only at hb HR
 clear hA
 have HCC:=Hd (show(w.alloc (.cells #[.int .i64 0,.int .u8 0,.int .i64 0,.int .i64 0] 68)).drew.cell? ⟨l.X,0,none⟩=some (ptr l.K) from x0)
 have HCM:=Hd (fun m=>show((w.alloc (.cells #[.int .i64 0,.int .u8 0,.int .i64 0,.int .i64 0] 68)).drewN m).cell? ⟨l.X,0,none⟩=some (ptr l.K) from x0)
 go_wp2_with fail
 go_region_held3 (fun w'=>w'.cell? ⟨l.X,0,none⟩=some (ptr l.K)) (first|with_reducible exact HCC.out|with_reducible exact HCM.out _) ((first
  | (go_at_call 128
     first
      | (with_reducible refine (HS1.out _).mono ?_
         rintro e w' ⟨rfl,rfl⟩)
      | (with_reducible refine (HS2.out _).mono ?_
         rintro e w' ⟨rfl,rfl⟩))
  | (go_at_call 129
     with_reducible refine HPL.out.mono ?_
     rintro e w' ⟨rfl,mm,rfl⟩)
  | (go_at_call 127
     with_reducible refine(HBC.out _).mono ?_
     rintro e w1 ⟨rfl,hf2,st1,hA,hg2⟩
     simp only at hA
     replace HG:=Hd (sf_trans (HFD.out _).size HG0.out hg2)
     replace HF:=Hd (S_trans (HFD.out _) HG0.out hf2)
     have HCC:=Hd (show w1.cell? ⟨l.X,0,none⟩=some (ptr l.K) from cell_in (i:=0) hA.x rfl)
     have HA:=Hd hA
     clear hf2 hg2 hA)))
 have hA:=HA.out
 replace HG0:=HG
 clear HBC HS1 HS2 HPL HFD HCC HCM HA x0
 obtain rfl|rfl:v=0∨v=1:=by omega
 ·clear hb
  replace HR:=Hd (show res=rlitS y1 c from HR.out.trans (if_pos (show(0:Nat)=0 from rfl)))
  unfold rlitS at HR
  have HBC:=Hd (literal_calls hA)
  have hb:=rlit_lt y1 c
  clear hA
  generalize rlit y1 c=r at*
  obtain⟨v2,y2⟩:=r
  simp only at HR hb
  go_wp2_with fail
  refine HBC.out.mono ?_
  rintro e w2 ⟨rfl,hf2,st2,hA,hg2⟩
  simp only at hA
  replace HG:=Hd (sf_trans HF.out.size HG0.out hg2)
  replace HF:=Hd (S_trans HF.out HG0.out hf2)
  replace HG0:=HG
  clear hf2 hg2
  clear HBC
  obtain⟨b,hbb⟩:∃b,b=v2-256:=⟨_,rfl⟩
  rw[←hbb] at HR hb
  simp only[←hbb]
  have hw:IntKind.u8.wrap (b:Int)=(b:Int):=by rw[IntKind.wrap_u8];omega
  clear hbb
  have HZ2:=Hd (HF.out.keep HZ.out HNZ.out)
  have HA:=Hd hA
  obtain⟨z0,z1,z2,z3,zf⟩:=cf4 HZ2.out rfl rfl rfl rfl
  clear hA
  go_wp2_with fail
  refine bodyPost_ret (v:=.agg #[.int .i64 1,.int .u8 b,.int .i64 0,.int .i64 0]) (by simp[results,Tryz.results88,go_sem,z0,z1,z2,z3]) rfl ?_
  rw[show res=(⟨1,b,0,0⟩,y2) from HR.out]
  exact sym_end H0.out HZ2.out HF.out HG0.out HA.out
 ·clear hb
  replace HR:=Hd (show res=rsymbol1 y1 c from HR.out.trans (if_neg (show¬(1:Nat)=0 by decide)))
  unfold rsymbol1 at HR
  have HS:=Hd (set_calls [73,115,82,101,112] c.s.num (by decide) (by omega) w1)
  have HBC:=Hd (bit0_calls hA (nIsRep c.s.num) (mem_isRep hnum) (num [73,115,82,101,112] c.s.num) rfl Nat.zero_lt_one (show c.s.num<12 from hnum))
  unfold nIsRep at HBC
  simp only at HBC
  have hb:=bit_le y1 2 c.s.num
  generalize y1.bit 2 c.s.num=r at*
  obtain⟨v,y3⟩:=r
  simp only at hb HR
  clear hA
  go_wp2_with fail
  refine HS.out.mono ?_
  rintro e w' ⟨rfl,rfl⟩
  go_wp2_with fail
  refine HBC.out.mono ?_
  rintro e w3 ⟨rfl,hf2,st3,hA,hg2⟩
  simp only at hA
  replace HG:=Hd (sf_trans HF.out.size HG0.out hg2)
  replace HF:=Hd (S_trans HF.out HG0.out hf2)
  replace HG0:=HG
  clear hf2 hg2
  clear HBC HS
  obtain rfl|rfl:v=0∨v=1:=by omega
  ·clear hb
   replace HR:=Hd (show res=rmatch y3 c from HR.out.trans (if_pos (show(0:Nat)=0 from rfl)))
   unfold rmatch at HR
   have HBC:=Hd ((show Calls _ 131 #[ptr l.X,bstr [77,97,116,99,104]] _ _ from length_calls hA 7 (by omega)))
   have hb:=rlength_two y3 c 7
   clear hA
   generalize rlength y3 c 7=r at*
   obtain⟨v4,y4⟩:=r
   simp only at HR hb
   go_wp2_with fail
   refine HBC.out.mono ?_
   rintro e w4 ⟨rfl,hf2,st4,hA,hg2⟩
   simp only at hA
   replace HG:=Hd (sf_trans HF.out.size HG0.out hg2)
   replace HF:=Hd (S_trans HF.out HG0.out hf2)
   replace HG0:=HG
   clear hf2 hg2
   clear HBC
   have HBC:=Hd (distance_calls hA v4 hb.1 (by omega))
   clear hA
   generalize rdist y4 v4=r at*
   obtain⟨v5,y5⟩:=r
   simp only at HR
   go_wp2_with fail
   refine HBC.out.mono ?_
   rintro e w5 ⟨rfl,hf2,st5,hA,hg2⟩
   simp only at hA
   replace HG:=Hd (sf_trans HF.out.size HG0.out hg2)
   replace HF:=Hd (S_trans HF.out HG0.out hf2)
   replace HG0:=HG
   clear hf2 hg2
   clear HBC
   have HZ2:=Hd (HF.out.keep HZ.out HNZ.out)
   have HA:=Hd hA
   obtain⟨z0,z1,z2,z3,zf⟩:=cf4 HZ2.out rfl rfl rfl rfl
   clear hA
   go_wp2_with fail
   refine bodyPost_ret (v:=.agg #[.int .i64 2,.int .u8 0,.int .i64 v4,.int .i64 v5]) (by simp[results,Tryz.results88,go_sem,z0,z1,z2,z3]) rfl ?_
   rw[show res=(⟨2,0,v4,v5⟩,y5) from HR.out]
   exact sym_end H0.out HZ2.out HF.out HG0.out HA.out
  ·clear hb
   replace HR:=Hd (show res=rsymbol2 y3 c from HR.out.trans (if_neg (show¬(1:Nat)=0 by decide)))
   unfold rsymbol2 at HR
   have HS:=Hd (set_calls [73,115,82,101,112,48] c.s.num (by decide) (by omega) w3)
   have HBC:=Hd (bit0_calls hA (nIsRep0 c.s.num) (mem_isRep0 hnum) (num [73,115,82,101,112,48] c.s.num) rfl Nat.zero_lt_one (show c.s.num<12 from hnum))
   unfold nIsRep0 at HBC
   simp only at HBC
   have hb:=bit_le y3 3 c.s.num
   generalize y3.bit 3 c.s.num=r at*
   obtain⟨v,y6⟩:=r
   simp only at hb HR
   clear hA
   go_wp2_with fail
   refine HS.out.mono ?_
   rintro e w' ⟨rfl,rfl⟩
   go_wp2_with fail
   refine HBC.out.mono ?_
   rintro e w6 ⟨rfl,hf2,st6,hA,hg2⟩
   simp only at hA
   replace HG:=Hd (sf_trans HF.out.size HG0.out hg2)
   replace HF:=Hd (S_trans HF.out HG0.out hf2)
   replace HG0:=HG
   clear hf2 hg2
   clear HBC HS
   obtain rfl|rfl:v=0∨v=1:=by omega
   ·clear hb
    replace HR:=Hd (show res=rshort y6 c from HR.out.trans (if_pos (show(0:Nat)=0 from rfl)))
    unfold rshort at HR
    go_wp2_with fail
    have x0:w6.cell? ⟨l.X,0,none⟩=some (ptr l.K):=cell_in (i:=0) hA.x rfl
    have HS1:=Hd (fun W=>set_calls [73,115,76,111,110,103] c.s.num (by decide) (by omega) W)
    have HS2:=Hd (fun W=>set_calls (num [73,115,76,111,110,103] c.s.num) c.place (by have:=num_len [73,115,76,111,110,103] c.s.num;have:([73,115,76,111,110,103]:List UInt8).length≤10:=(by decide);omega) (by omega) W)
    have HPL:=Hd (Rf.place_calls (hA.keep (Fr.refl (fun _=>False) w6).drew).cod)
    have HBC:=Hd (fun m=>bit0_calls (hA.keep ((Fr.refl (fun _=>False) w6).drewN m)) (nIsLong c.s.num c.place) (mem_isLong hnum hplace) (num (num [73,115,76,111,110,103] c.s.num) c.place) rfl Nat.zero_lt_one (show c.s.num*16+c.place<192 by omega))
    unfold nIsLong at HBC
    simp only at HBC
    have hb:=bit_le y6 1 (c.s.num*16+c.place)
    have HFD:=Hd (fun m=>HF.out.drewN m)
    have hcat:c.at=c.s.num*16+c.place:=rfl
    rw[hcat] at HR
    clear hcat
    generalize y6.bit 1 (c.s.num*16+c.place)=r at*
    obtain⟨v,y7⟩:=r
    simp only at hb HR
    clear hA
    have HCC:=Hd (show w6.drew.cell? ⟨l.X,0,none⟩=some (ptr l.K) from x0)
    have HCM:=Hd (fun m=>show(w6.drewN m).cell? ⟨l.X,0,none⟩=some (ptr l.K) from x0)
    go_wp2_with fail
    go_region_held3 (fun w'=>w'.cell? ⟨l.X,0,none⟩=some (ptr l.K)) (first|with_reducible exact HCC.out|with_reducible exact HCM.out _) ((first
     | (go_at_call 128
        first
         | (with_reducible refine (HS1.out _).mono ?_
            rintro e w' ⟨rfl,rfl⟩)
         | (with_reducible refine (HS2.out _).mono ?_
            rintro e w' ⟨rfl,rfl⟩))
     | (go_at_call 129
        with_reducible refine HPL.out.mono ?_
        rintro e w' ⟨rfl,mm,rfl⟩)
     | (go_at_call 127
        with_reducible refine(HBC.out _).mono ?_
        rintro e w7 ⟨rfl,hf2,st7,hA,hg2⟩
        simp only at hA
        replace HG:=Hd (sf_trans (HFD.out _).size HG0.out hg2)
        replace HF:=Hd (S_trans (HFD.out _) HG0.out hf2)
        have HCC:=Hd (show w7.cell? ⟨l.X,0,none⟩=some (ptr l.K) from cell_in (i:=0) hA.x rfl)
        have HA:=Hd hA
        clear hf2 hg2 hA)))
    have hA:=HA.out
    replace HG0:=HG
    clear HBC HS1 HS2 HPL HFD HCC HCM HA x0
    obtain rfl|rfl:v=0∨v=1:=by omega
    ·clear hb
     replace HR:=Hd (show res=(⟨4,0,0,0⟩,y7) from HR.out.trans (if_pos (show(0:Nat)=0 from rfl)))
     have HZ2:=Hd (HF.out.keep HZ.out HNZ.out)
     have HA:=Hd hA
     obtain⟨z0,z1,z2,z3,zf⟩:=cf4 HZ2.out rfl rfl rfl rfl
     clear hA
     go_wp2_with fail
     refine bodyPost_ret (v:=.agg #[.int .i64 4,.int .u8 0,.int .i64 0,.int .i64 0]) (by simp[results,Tryz.results88,go_sem,z0,z1,z2,z3]) rfl ?_
     rw[show res=(⟨4,0,0,0⟩,y7) from HR.out]
     exact sym_end H0.out HZ2.out HF.out HG0.out HA.out
    ·clear hb
     replace HR:=Hd (show res=rrepeat y7 c 0 from HR.out.trans (if_neg (show¬(1:Nat)=0 by decide)))
     unfold rrepeat at HR
     have HBC:=Hd ((show Calls _ 131 #[ptr l.X,bstr [82,101,112]] _ _ from length_calls hA 11 (by omega)))
     have hb:=rlength_two y7 c 11
     clear hA
     generalize rlength y7 c 11=r at*
     obtain⟨v8,y8⟩:=r
     simp only at HR hb
     go_wp2_with fail
     refine HBC.out.mono ?_
     rintro e w8 ⟨rfl,hf2,st8,hA,hg2⟩
     simp only at hA
     replace HG:=Hd (sf_trans HF.out.size HG0.out hg2)
     replace HF:=Hd (S_trans HF.out HG0.out hf2)
     replace HG0:=HG
     clear hf2 hg2
     clear HBC
     have HZ2:=Hd (HF.out.keep HZ.out HNZ.out)
     have HA:=Hd hA
     obtain⟨z0,z1,z2,z3,zf⟩:=cf4 HZ2.out rfl rfl rfl rfl
     clear hA
     go_wp2_with fail
     refine bodyPost_ret (v:=.agg #[.int .i64 3,.int .u8 0,.int .i64 v8,.int .i64 0]) (by simp[results,Tryz.results88,go_sem,z0,z1,z2,z3]) rfl ?_
     rw[show res=(⟨3,0,v8,0⟩,y8) from HR.out]
     exact sym_end H0.out HZ2.out HF.out HG0.out HA.out
   ·clear hb
    replace HR:=Hd (show res=rolder y6 c from HR.out.trans (if_neg (show¬(1:Nat)=0 by decide)))
    unfold rolder at HR
    have HS:=Hd (set_calls [73,115,82,101,112,49] c.s.num (by decide) (by omega) w6)
    have HBC:=Hd (bit0_calls hA (nIsRep1 c.s.num) (mem_isRep1 hnum) (num [73,115,82,101,112,49] c.s.num) rfl Nat.zero_lt_one (show c.s.num<12 from hnum))
    unfold nIsRep1 at HBC
    simp only at HBC
    have hb:=bit_le y6 4 c.s.num
    generalize y6.bit 4 c.s.num=r at*
    obtain⟨v,y9⟩:=r
    simp only at hb HR
    clear hA
    go_wp2_with fail
    refine HS.out.mono ?_
    rintro e w' ⟨rfl,rfl⟩
    go_wp2_with fail
    refine HBC.out.mono ?_
    rintro e w9 ⟨rfl,hf2,st9,hA,hg2⟩
    simp only at hA
    replace HG:=Hd (sf_trans HF.out.size HG0.out hg2)
    replace HF:=Hd (S_trans HF.out HG0.out hf2)
    replace HG0:=HG
    clear hf2 hg2
    clear HBC HS
    obtain rfl|rfl:v=0∨v=1:=by omega
    ·clear hb
     replace HR:=Hd (show res=rrepeat y9 c 1 from HR.out.trans (if_neg (show¬(0:Nat)=1 by decide)))
     unfold rrepeat at HR
     have HBC:=Hd ((show Calls _ 131 #[ptr l.X,bstr [82,101,112]] _ _ from length_calls hA 11 (by omega)))
     have hb:=rlength_two y9 c 11
     clear hA
     generalize rlength y9 c 11=r at*
     obtain⟨v10,y10⟩:=r
     simp only at HR hb
     go_wp2_with fail
     refine HBC.out.mono ?_
     rintro e w10 ⟨rfl,hf2,st10,hA,hg2⟩
     simp only at hA
     replace HG:=Hd (sf_trans HF.out.size HG0.out hg2)
     replace HF:=Hd (S_trans HF.out HG0.out hf2)
     replace HG0:=HG
     clear hf2 hg2
     clear HBC
     have HZ2:=Hd (HF.out.keep HZ.out HNZ.out)
     have HA:=Hd hA
     obtain⟨z0,z1,z2,z3,zf⟩:=cf4 HZ2.out rfl rfl rfl rfl
     clear hA
     go_wp2_with fail
     refine bodyPost_ret (v:=.agg #[.int .i64 3,.int .u8 0,.int .i64 v10,.int .i64 1]) (by simp[results,Tryz.results88,go_sem,z0,z1,z2,z3]) rfl ?_
     rw[show res=(⟨3,0,v10,1⟩,y10) from HR.out]
     exact sym_end H0.out HZ2.out HF.out HG0.out HA.out
    ·clear hb
     replace HR:=Hd (show res=rrepeat (y9.bit 5 c.s.num).2 c (2+(y9.bit 5 c.s.num).1) from HR.out.trans (if_pos (show(1:Nat)=1 from rfl)))
     have HS:=Hd (set_calls [73,115,82,101,112,50] c.s.num (by decide) (by omega) w9)
     have HBC:=Hd (bit0_calls hA (nIsRep2 c.s.num) (mem_isRep2 hnum) (num [73,115,82,101,112,50] c.s.num) rfl Nat.zero_lt_one (show c.s.num<12 from hnum))
     unfold nIsRep2 at HBC
     simp only at HBC
     have hb:=bit_le y9 5 c.s.num
     generalize y9.bit 5 c.s.num=r at*
     obtain⟨v,y11⟩:=r
     simp only at hb HR
     clear hA
     go_wp2_with fail
     refine HS.out.mono ?_
     rintro e w' ⟨rfl,rfl⟩
     go_wp2_with fail
     refine HBC.out.mono ?_
     rintro e w11 ⟨rfl,hf2,st11,hA,hg2⟩
     simp only at hA
     replace HG:=Hd (sf_trans HF.out.size HG0.out hg2)
     replace HF:=Hd (S_trans HF.out HG0.out hf2)
     replace HG0:=HG
     clear hf2 hg2
     clear HBC HS
     obtain rfl|rfl:v=0∨v=1:=by omega
     ·clear hb
      replace HR:=Hd (show res=rrepeat y11 c 2 from HR.out)
      unfold rrepeat at HR
      have HBC:=Hd ((show Calls _ 131 #[ptr l.X,bstr [82,101,112]] _ _ from length_calls hA 11 (by omega)))
      have hb:=rlength_two y11 c 11
      clear hA
      generalize rlength y11 c 11=r at*
      obtain⟨v12,y12⟩:=r
      simp only at HR hb
      go_wp2_with fail
      refine HBC.out.mono ?_
      rintro e w12 ⟨rfl,hf2,st12,hA,hg2⟩
      simp only at hA
      replace HG:=Hd (sf_trans HF.out.size HG0.out hg2)
      replace HF:=Hd (S_trans HF.out HG0.out hf2)
      replace HG0:=HG
      clear hf2 hg2
      clear HBC
      have HZ2:=Hd (HF.out.keep HZ.out HNZ.out)
      have HA:=Hd hA
      obtain⟨z0,z1,z2,z3,zf⟩:=cf4 HZ2.out rfl rfl rfl rfl
      clear hA
      go_wp2_with fail
      refine bodyPost_ret (v:=.agg #[.int .i64 3,.int .u8 0,.int .i64 v12,.int .i64 2]) (by simp[results,Tryz.results88,go_sem,z0,z1,z2,z3]) rfl ?_
      rw[show res=(⟨3,0,v12,2⟩,y12) from HR.out]
      exact sym_end H0.out HZ2.out HF.out HG0.out HA.out
     ·clear hb
      replace HR:=Hd (show res=rrepeat y11 c 3 from HR.out)
      unfold rrepeat at HR
      have HBC:=Hd ((show Calls _ 131 #[ptr l.X,bstr [82,101,112]] _ _ from length_calls hA 11 (by omega)))
      have hb:=rlength_two y11 c 11
      clear hA
      generalize rlength y11 c 11=r at*
      obtain⟨v13,y13⟩:=r
      simp only at HR hb
      go_wp2_with fail
      refine HBC.out.mono ?_
      rintro e w13 ⟨rfl,hf2,st13,hA,hg2⟩
      simp only at hA
      replace HG:=Hd (sf_trans HF.out.size HG0.out hg2)
      replace HF:=Hd (S_trans HF.out HG0.out hf2)
      replace HG0:=HG
      clear hf2 hg2
      clear HBC
      have HZ2:=Hd (HF.out.keep HZ.out HNZ.out)
      have HA:=Hd hA
      obtain⟨z0,z1,z2,z3,zf⟩:=cf4 HZ2.out rfl rfl rfl rfl
      clear hA
      go_wp2_with fail
      refine bodyPost_ret (v:=.agg #[.int .i64 3,.int .u8 0,.int .i64 v13,.int .i64 3]) (by simp[results,Tryz.results88,go_sem,z0,z1,z2,z3]) rfl ?_
      rw[show res=(⟨3,0,v13,3⟩,y13) from HR.out]
      exact sym_end H0.out HZ2.out HF.out HG0.out HA.out
end Rf
namespace Rf
open Mem Rc Prob St Lz Win
def RL.DF(l:RL)(k:Nat):Prop:=k=l.X∨l.CF k
structure Dcd(w:World)(l:RL)(c:C)(ps:Nat→List Nat)(sp:Bool):Prop where
 x:∃dv bad,w.heap[l.X]? =some (.cells #[ptr l.K,dv,.bool bad,.bool sp] 127 (0,0))
 cod:Cod w l c ps
structure NxR(w:World)(l l':RL):Prop where
 X:l'.X=l.X
 K:l'.K=l.K
 V:l'.V=l.V
 F:∀k,l'.DF k→l.DF k∨w.heap.size≤k
theorem NxR.refl(w:World)(l:RL):NxR w l l:=⟨rfl,rfl,rfl,fun k h=>.inl h⟩
theorem Dcd.step{S:Nat→Prop}{w w':World}{l:RL}{c:C}{ps:Nat→List Nat}{sp:Bool}(h:Dcd w l c ps sp)(hfr:Fr S w w')(hS:∀k,l.DF k→¬S k):Dcd w' l c ps sp:=by
 obtain⟨dv,bad,hx⟩:=h.x
 exact⟨⟨dv,bad,hfr.keep hx (hS _ (.inl rfl))⟩,h.cod.step hfr (fun k hk=>hS k (.inr hk))⟩
theorem Dcd.keep{w w':World}{l:RL}{c:C}{ps:Nat→List Nat}{sp:Bool}(h:Dcd w l c ps sp)(hfr:Fr (fun _=>False) w w'):Dcd w' l c ps sp:=h.step hfr (fun _ _ h=>h)
theorem Dcd.old{w:World}{l:RL}{c:C}{ps:Nat→List Nat}{sp:Bool}(h:Dcd w l c ps sp):∀k,l.DF k→k<w.heap.size:=by
 rintro k (rfl|hk)
 ·obtain⟨dv,bad,hx⟩:=h.x
  exact lt_of_block hx
 ·exact h.cod.old k hk
def ownedR(t:TypeId):Prop:=t=127∨t=136∨t=182∨t=5∨t=337∨t=3
instance (t:TypeId):Decidable (ownedR t):=by unfold ownedR;infer_instance
theorem Dcd.off{w:World}{l:RL}{c:C}{ps:Nat→List Nat}{sp:Bool}(h:Dcd w l c ps sp){k:Nat}{cs:Array Value}{t:TypeId}{fr:Nat×Nat}(hk:w.heap[k]? =some (.cells cs t fr))(ht:¬ownedR t):¬l.DF k:=by
 rintro(rfl|hc)
 ·obtain⟨dv,bad,hx⟩:=h.x
  exact blk_ne hx hk (fun e=>ht (.inl e.symm)) rfl
 ·exact h.cod.offT hk (fun e=>ht (.inr (.inl e))) (fun e=>ht (.inr (.inr (.inl e)))) (fun e=>ht (.inr (.inr (.inr (.inl e))))) (fun e=>ht (.inr (.inr (.inr (.inr (.inl e)))))) (fun e=>ht (.inr (.inr (.inr (.inr (.inr e)))))) k hc rfl
theorem Dcd.xk{w:World}{l:RL}{c:C}{ps:Nat→List Nat}{sp:Bool}(h:Dcd w l c ps sp):∀k,l.CF k→k≠l.X:=by
 obtain⟨dv,bad,hx⟩:=h.x
 exact h.cod.offT hx (by decide) (by decide) (by decide) (by decide) (by decide)
theorem Dcd.cod'{w w':World}{l l':RL}{c c':C}{ps ps':Nat→List Nat}{sp:Bool}(h:Dcd w l c ps sp)(hfr:Fr l.CF w w')(hX:l'.X=l.X)(hK:l'.K=l.K)(hc:Cod w' l' c' ps'):Dcd w' l' c' ps' sp:=by
 obtain⟨dv,bad,hx⟩:=h.x
 refine⟨⟨dv,bad,?_⟩,hc⟩
 rw[hX,hK]
 exact hfr.keep hx (fun hk=>h.xk _ hk rfl)
theorem reset15_calls{l:RL}{c:C}{ps:Nat→List Nat}{sp:Bool}{w:World}(h:Dcd w l c ps sp)(lc lp pb:Nat)(hl:lc+lp≤4)(hp:pb≤4):
 Calls Tryz.prog 55 #[ptr l.X,propV lc lp pb] w fun e w'=>e=.returned (.int .i64 0)∧Fr l.DF w w'∧∃l',NxR w l l'∧Dcd w' l' (c.fresh lc lp pb) (Lz.fresh lc lp) sp:=by
 have H:=Hd h
 obtain⟨dv,bad,hx⟩:=h.x
 have x0:w.cell? ⟨l.X,0,none⟩=some (ptr l.K):=cell_in hx rfl
 have hx1:=heap_alloc_new w (.cells #[.int .i64 lc,.int .i64 lp,.int .i64 pb] 50)
 have hal:=(Fr.refl (fun _=>False) w).alloc (.cells #[.int .i64 lc,.int .i64 lp,.int .i64 pb] 50)
 have y0:(w.alloc (.cells #[.int .i64 lc,.int .i64 lp,.int .i64 pb] 50)).cell? ⟨l.X,0,none⟩=some (ptr l.K):=cell_in (hal.keep hx (fun h=>h)) rfl
 obtain⟨c0,c1,c2⟩:=cs3 hx1 rfl rfl rfl
 have HAL:=Hd hal
 have HX1:=Hd hx1
 have HXX:=Hd hx
 have HS1:=Hd (show w.heap.size<(w.alloc (.cells #[.int .i64 lc,.int .i64 lp,.int .i64 pb] 50)).heap.size by simp)
 have HXL:=Hd (lt_of_block hx)
 clear h hx hal hx1 y0 c0 c1 c2
 go_enter Tryz.func55,Tryz.ntmps55
 go_upto_region 1 with fail
 generalize hz:w.heap.size=z at*
 have HZ:=Hd hz
 clear hz
 generalize World.alloc w _=w1 at*
 have HRS:=Hd (fun W(hf:Fr (fun _=>False) w1 W)=>reset_calls ((H.out.keep (HAL.out.trans hf)).cod) lc lp pb hl hp)
 have HKP:=Hd (show∀W,Fr (fun k=>k=l.K) w1 W→W.cell? ⟨l.X,0,none⟩=some (ptr l.K)∧W.cell? ⟨z,0,none⟩=some (.int .i64 lc)∧W.cell? ⟨z,1,none⟩=some (.int .i64 lp)∧W.cell? ⟨z,2,none⟩=some (.int .i64 pb) from fun W hf=>by
  have h1:=hf.keep (HAL.out.keep HXX.out (fun h=>h)) (fun e=>H.out.xk _ (.inl rfl) e.symm)
  have hk:=(H.out.keep HAL.out).cod.k
  have h2:=hf.keep HX1.out (fun e=>blk_ne HX1.out hk (by decide) e)
  exact⟨cell_in h1 rfl,cell_in h2 rfl,cell_in h2 rfl,cell_in h2 rfl⟩)
 have HR:=Hd (Fr.refl (fun _=>False) w1).drew
 have HSC:=Hd (HKP.out _ (lift HR.out))
 go_region_held3 (fun w'=>w'.cell? ⟨l.X,0,none⟩=some (ptr l.K)∧w'.cell? ⟨z,0,none⟩=some (.int .i64 lc)∧w'.cell? ⟨z,1,none⟩=some (.int .i64 lp)∧w'.cell? ⟨z,2,none⟩=some (.int .i64 pb)) (first|with_reducible exact HSC.out) ((
  (go_at_call 86
   with_reducible refine(HRS.out _ HR.out).mono ?_
   rintro e w2 ⟨rfl,hf,M',hM,hc⟩
   have HSC:=Hd (HKP.out _ ((lift HR.out).trans hf))
   have HF2:=Hd hf
   have HC2:=Hd hc
   have HM2:=Hd hM
   clear hf hc hM)))
 all_goals
  go_wp2_with fail
  go_ret
  refine⟨rfl,((lift HAL.out).trans (lift HR.out)).trans (HF2.out.mono (fun k _(e:k=l.K)=>.inr (.inl e))),{l with M:=M',st:=[]},⟨rfl,rfl,rfl,fun k hk=> ?_⟩,((H.out.keep HAL.out).keep HR.out).cod' (HF2.out.mono (fun k _(e:k=l.K)=>.inl e)) rfl rfl HC2.out⟩
  rcases hk with hk|hk|hk|hk|hk|⟨e,he,_⟩
  ·exact .inl (.inl hk)
  ·exact .inl (.inr (.inl hk))
  ·exact .inl (.inr (.inr (.inl hk)))
  ·exact .inl (.inr (.inr (.inr (.inl hk))))
  ·have h1:=HM2.out
   have h2:=HR.out.size
   have h3:=HS1.out
   have h4:=HZ.out
   simp only at hk
   exact .inr (by omega)
  ·cases he
theorem clear15_calls{l:RL}{c:C}{ps:Nat→List Nat}{sp:Bool}{w:World}(h:Dcd w l c ps sp):
 Calls Tryz.prog 54 #[ptr l.X] w fun e w'=>e=.returned (.tuple #[])∧Fr l.DF w w'∧∃l',NxR w l l'∧Dcd w' l' {c.fresh c.lc c.lp c.pb with all:=[]} (Lz.fresh c.lc c.lp) false:=by
 have H:=Hd h
 obtain⟨dv,bad,hx⟩:=h.x
 have x0:w.cell? ⟨l.X,0,none⟩=some (ptr l.K):=cell_in hx rfl
 have HRS:=Hd (clear14_calls h.cod)
 have HX:=Hd hx
 clear h hx
 go_enter Tryz.func54,Tryz.ntmps54
 go_wp2_with fail
 refine HRS.out.mono ?_
 rintro e w2 ⟨rfl,hf,M',hM,hc⟩
 have hx2:=hf.keep HX.out (fun e=>by
  rcases e with e|e
  ·exact H.out.xk _ (.inl rfl) e.symm
  ·exact H.out.xk _ (.inr (.inl rfl)) e.symm)
 have x3:w2.cell? ⟨l.X,3,none⟩=some (.bool sp):=cell_in hx2 rfl
 have xf:=frozen_in hx2 3
 have HF:=Hd hf
 have HC:=Hd hc
 have HX2:=Hd hx2
 clear hf hc hx2
 go_wp2_with fail
 go_end0
 have f3:=Fr.one w2 l.X 3 (.bool false)
 have hd:Dcd w2 {l with M:=M',st:=[],av:=.slice none 0 0} {c.fresh c.lc c.lp c.pb with all:=[]} (Lz.fresh c.lc c.lp) sp:=⟨⟨dv,bad,HX2.out⟩,HC.out⟩
 refine⟨rfl,(HF.out.mono (fun k _ hk=> ?_)).trans (f3.mono (fun k _(e:k=l.X)=>.inl e)),{l with M:=M',st:=[],av:=.slice none 0 0},⟨rfl,rfl,rfl,fun k hk=> ?_⟩,⟨⟨dv,bad,set_in HX2.out 3 _⟩,HC.out.step f3 (fun k hk e=>hd.xk k hk e)⟩⟩
 ·rcases hk with hk|hk
  ·exact .inr (.inl hk)
  ·exact .inr (.inr (.inl hk))
 ·rcases hk with hk|hk|hk|hk|hk|⟨e,he,_⟩
  ·exact .inl (.inl hk)
  ·exact .inl (.inr (.inl hk))
  ·exact .inl (.inr (.inr (.inl hk)))
  ·simp[Value.ownBlock] at hk
  ·simp only at hk
   exact .inr (by omega)
  ·cases he
theorem raw15_calls{l:RL}{c:C}{ps:Nat→List Nat}{sp:Bool}{w:World}(h:Dcd w l c ps sp)(v:Value)(xs:List UInt8)(hr:Rd w v xs)(hm:c.all.length+xs.length≤70368744177664):
 Calls Tryz.prog 34 #[ptr l.X,v] w fun e w'=>e=.returned (.tuple #[])∧Fr l.DF w w'∧∃l',NxR w l l'∧Dcd w' l' (c.on xs) ps sp:=by
 have H:=Hd h
 obtain⟨dv,bad,hx⟩:=h.x
 have x0:w.cell? ⟨l.X,0,none⟩=some (ptr l.K):=cell_in hx rfl
 have k3:w.cell? ⟨l.K,3,none⟩=some (ptr l.V):=cell_in h.cod.k rfl
 have HPC:=Hd (put_calls l.V c.size l.av v c.all xs w ⟨h.cod.v,h.cod.all⟩ hr hm)
 clear h hx hr
 go_enter Tryz.func34,Tryz.ntmps34
 go_wp2_with fail
 refine HPC.out.mono ?_
 rintro e w2 ⟨rfl,av',hW,hf,hn⟩
 have HW:=Hd hW
 have HF:=Hd hf
 have HN:=Hd hn
 clear hW hf hn
 go_wp2_with fail
 go_end0
 have hsub:Fr l.CF w w2:=HF.out.mono (fun k _ hk=>by
  rcases hk with hk|hk
  ·exact .inr (.inl hk)
  ·exact .inr (.inr (.inl hk)))
 have hc:=H.out.cod
 have hcod:Cod w2 {l with av:=av'} (c.on xs) ps:=by
  refine⟨HF.out.keep hc.k (fun e=> ?_),HW.out.v,HW.out.own,hc.sets.step HF.out (fun k hk e=> ?_),hc.has,⟨hc.okc.l,hc.okc.pb,hc.okc.s⟩,hc.len,hc.okp,hc.size,by simp only[C.on,List.length_append];omega⟩
  ·rcases e with e|e
   ·exact blk_ne hc.k hc.v (by decide) e
   ·obtain⟨cur,hcu⟩:=own_block hc.all e
    exact blk_ne hcu hc.k (by decide) rfl
  ·rcases e with e|e
   ·exact hc.sfV (e ▸ hk)
   ·exact hc.sfA k e hk
 refine⟨rfl,hsub.mono (fun k _ hk=>.inr hk),{l with av:=av'},⟨rfl,rfl,rfl,fun k hk=> ?_⟩,H.out.cod' hsub rfl rfl hcod⟩
 rcases hk with hk|hk|hk|hk|hk
 ·exact .inl (.inl hk)
 ·exact .inl (.inr (.inl hk))
 ·exact .inl (.inr (.inr (.inl hk)))
 ·rcases HN.out k hk with h1|h1
  ·exact .inl (.inr (.inr (.inr (.inl h1))))
  ·exact .inr h1
 ·exact .inl (.inr (.inr (.inr (.inr hk))))
end Rf
end Go.Proofs.YtilegoadokmcdaaGreatDoor
