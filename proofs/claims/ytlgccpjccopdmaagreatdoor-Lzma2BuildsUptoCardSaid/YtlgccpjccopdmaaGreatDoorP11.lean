/- Part 11 of 54: lemmas of the last part, each under the conditions that it names. -/
import Derived.BigRegion
import Derived.Test.YtlgccpjccopdmaaGreatDoorP09
import Derived.Test.YtlgccpjccopdmaaGreatDoorP10
set_option linter.unusedVariables false
set_option linter.unusedSimpArgs false
set_option maxRecDepth 1500
set_option maxHeartbeats 1000000
namespace Go.Proofs.YtlgccpjccopdmaaGreatDoor
open Go.RowKit
namespace En
open Mem Rc Win Lz
def G.halves(x:Nat):Nat→G→G
 |0,g=>g
 |n+1,g=>G.halves x n (g.half (x/2^n%2))
def K.halves(x:Nat):Nat→K→K
 |0,k=>k
 |n+1,k=>K.halves x n (k.half (x/2^n%2))
theorem Is.fit{g:G}{k:K}(h:Is g k)(hs:k.s≤1099511627776):g.Fit∧16777216≤g.rng∧g.rng<4294967296∧g.low+g.rng≤8589934592:=by
 have h1:=h.ab.low
 have h2:=h.ok.lo
 have h3:=h.ok.hi
 have h4:=h.rng
 have h5:=h.ab.s
 exact⟨⟨by omega,h.ab.held,by omega⟩,by omega,by omega,by omega⟩
theorem K.half_s(k:K)(b:Nat):(k.half b).s≤k.s+1:=by
 unfold K.half K.widen K.half0
 split<;>simp
theorem K.bit_s(k:K)(p b:Nat):(k.bit p b).s≤k.s+1:=by
 unfold K.bit K.widen K.cut
 split<;>split<;>simp
theorem and1_u32(a:Nat)(h:a<4294967296):bits BinOp.and IntKind.u32 (a:Int) 1=((a%2:Nat):Int):=by
 have h2:(BitVec.ofInt 32 (1:Int)).toNat=2^1-1:=by decide
 have h1:(BitVec.ofInt 32 (a:Int)).toNat=a:=by
  rw[BitVec.ofInt_natCast,BitVec.toNat_ofNat];exact Nat.mod_eq_of_lt (by omega)
 show IntKind.u32.wrap ((BitVec.ofInt 32 (a:Int)&&&BitVec.ofInt 32 (1:Int)).toNat:Int)=_
 rw[BitVec.toNat_and,h1,h2,Nat.and_two_pow_sub_one_eq_mod]
 exact IntWalk.u32_in _ (by omega)
theorem bit_at(x j:Nat)(h:x<4294967296):(bits BinOp.and IntKind.u32 ((x:Int)/2^j) 1==1)=decide (x/2^j%2=1):=by
 have e:(x:Int)/2^j=((x/2^j:Nat):Int):=by simp
 have hl:x/2^j≤x:=Nat.div_le_self _ _
 rw[e,and1_u32 _ (by omega)]
 generalize x/2^j%2=b
 rw[Bool.eq_iff_iff]
 simp
 omega
def DRel(B:Nat)(v:Value)(w:World)(fin:G)(x n:Nat)(wr:World):Prop:=∃g k,Is g k∧k.s+n≤1099511627776∧g.halves x n=fin∧EPost B v w g wr
theorem direct_calls{w:World}{B:Nat}{v:Value}{g:G}{k:K}(x n:Nat)(h:EAt w B v g)(hk:Is g k)(hs:k.s+n≤1099511627776)(hn:n≤32)(hx:x<4294967296):
 Calls Tryz.prog 291 #[ptr B,.int .u32 x,.int .i64 n] w fun e w'=>e=.returned (.int .i64 0)∧EPost B v w (g.halves x n) w':=by
 have HR:=Hd (show DRel B v w (g.halves x n) x n w from⟨g,k,hk,hs,rfl,h.same⟩)
 generalize g.halves x n=fin at*
 have hbit:=fun(j:Nat)(c:Nat)(hc:c=x/2^j%2)=>Hd (show(bits BinOp.and IntKind.u32 ((x:Int)/2^j) 1==1)=decide (c=1) from by rw[hc];exact bit_at x j hx)
 clear h hk hs g k
 go_enter Tryz.func291,Tryz.ntmps291
 go_wp2_with fail
 go_loopw [2](fun s2 wr=>∃j:Nat,j≤n∧s2=.int .i64 ((j:Int)-1)∧DRel B v w fin x j wr) (fun s2 _=>(intOf s2+1).toNat)
 case atStart=>exact⟨n,Nat.le_refl _,rfl,HR.out⟩
 case round=>
  obtain⟨j,hj,rfl,g,k,hk,hs,hfin,hp⟩:=hrel
  have HP:=Hd hp
  obtain⟨hfr,v1,ha,hnw⟩:=hp
  have HA:=Hd ha
  have HF:=Hd hfr
  have HN:=Hd hnw
  have HK:=Hd hk
  have HS:=Hd hs
  have HFIN:=Hd hfin
  have c0:wr.cell? ⟨B,0,none⟩=some (.int .u64 g.low):=cell_in ha.box rfl
  have c1:wr.cell? ⟨B,1,none⟩=some (.int .u32 g.rng):=cell_in ha.box rfl
  have cf:=fun i=>frozen_in ha.box i
  clear hfr ha hnw hk hs hfin
  rcases Nat.eq_zero_or_pos j with rfl|hj0
  ·have e:G.halves x 0 g=fin:=HFIN.out
   clear c0 c1 cf
   go_wp2_with fail
   go_ret
   rw[←e]
   exact⟨rfl,HP.out⟩
  ·obtain⟨m,rfl⟩:∃m,j=m+1:=⟨j-1,by omega⟩
   obtain⟨b,hb⟩:∃b,b=x/2^m%2:=⟨_,rfl⟩
   have hB:=(hbit m b hb).out
   have hb1:b≤1:=by omega
   have HB:=Hd hb
   obtain⟨f1,f2,f3,f4⟩:=HK.out.fit (by have:=HS.out;omega)
   obtain⟨h,hh⟩:∃h,h=g.rng/2:=⟨_,rfl⟩
   obtain⟨l2,hl2⟩:∃l,l=g.low+h:=⟨_,rfl⟩
   have hwh:(g.rng:Int)/2%4294967296=(h:Int):=by omega
   have hwc:IntKind.u64.wrap (h:Int)=(h:Int):=IntWalk.u64_in _ (by omega)
   have hwl:IntKind.u64.wrap ((g.low:Int)+(h:Int))=(l2:Int):=by rw[IntWalk.u64_in _ (by omega),hl2];rfl
   have HWD:=Hd (show∀(w1:World)(l:Nat),EAt w1 B v1 ⟨l,h,g.held,g.wait,g.out⟩→l=g.low+b*h→Calls Tryz.prog 294 #[ptr B] w1 fun e w'=>e=.returned (.tuple #[])∧EPost B v1 w1 (g.half b) w' from fun w1 l ha hl=>by
    have:=widen_calls ha ⟨by simp only;rcases(show b=0∨b=1 by omega) with rfl|rfl<;>omega,f1.held,f1.len⟩ (by simp only;omega) (by simp only;omega)
    unfold G.half
    rw[←hh,←hl]
    exact this)
   have HD:=Hd (show∀w2,EPost B v1 wr (g.half b) w2→DRel B v w fin x m w2 from fun w2 hp=>⟨_,_,HK.out.half hb1,by have:=HS.out;have:=K.half_s k b;omega,by rw[←HFIN.out,G.halves,hb],EPost.trans HF.out HN.out hp⟩)
   have s1:=EAt.set (g':=⟨g.low,h,g.held,g.wait,g.out⟩) HA.out 1 (.int .u32 h) rfl rfl
   have s2:=EAt.set (g':=⟨l2,h,g.held,g.wait,g.out⟩) s1.1 0 (.int .u64 l2) rfl rfl
   have HS1:=Hd s1
   have HS2:=Hd s2
   have HL2:=Hd hl2
   have d0:(wr.setCell ⟨B,1,none⟩ (.int .u32 h)).cell? ⟨B,0,none⟩=some (.int .u64 g.low):=cell_in s1.1.box rfl
   have d1:(wr.setCell ⟨B,1,none⟩ (.int .u32 h)).cell? ⟨B,1,none⟩=some (.int .u32 h):=cell_in s1.1.box rfl
   have df:=fun i=>frozen_in s1.1.box i
   clear f1 f2 f3 f4 hb hh hl2 s1 s2
   generalize g.low=L at c0 d0 hwl
   generalize g.rng=R at c1 hwh
   rcases(show b=0∨b=1 by omega) with rfl|rfl
   ·rw[show decide ((0:Nat)=1)=false from rfl] at hB
    go_wp2_with fail
    refine(HWD.out _ _ HS1.out.1 (by omega)).mono ?_
    rintro e w2 ⟨rfl,hp⟩
    have HP2:=Hd (HD.out w2 (EPost.trans HS1.out.2 (fun k hk=>.inl hk) hp))
    clear hp c0 c1 cf hwl hwh hwc d0 d1 df
    go_wp2_with fail
    go_roundw
    case rel=>exact⟨m,by omega,by go_num,HP2.out⟩
    case measure=>simp[intOf]
   ·rw[show decide ((1:Nat)=1)=true from rfl] at hB
    go_wp2_with fail
    go_region
    go_wp2_with fail
    refine(HWD.out _ l2 (HS2.out.1.keep (Fr.refl (fun _=>False) _).drew (fun h=>h) (fun _ _ h=>h)) (by rw[HL2.out];omega)).mono ?_
    rintro e w2 ⟨rfl,hp⟩
    have HP2:=Hd (HD.out w2 (EPost.trans ((HS1.out.2.trans HS2.out.2).trans (Fr.refl (EF B v1) _).drew) (fun k hk=>.inl hk) hp))
    clear hp c0 c1 cf hwl hwh hwc d0 d1 df
    go_wp2_with fail
    go_roundw
    case rel=>exact⟨m,by omega,by go_num,HP2.out⟩
    case measure=>simp[intOf]
theorem fork_calls{w:World}{B:Nat}{v:Value}{g:G}(h:EAt w B v g)(h3:g.out.length+g.wait≤1099511627776):
    Calls Tryz.prog 108 #[ptr B] w fun e w'=>∃B',e=.returned (ptr B')∧w.heap.size≤B'∧Fr (fun _=>False) w w'∧∃v',EAt w' B' v' g∧∀k,v'.ownBlock=some k→w.heap.size≤k:=by
  obtain⟨p,cap,rfl⟩:=own_slice h.own
  have HH:=Hd h
  have H3:=Hd h3
  have c0:w.cell? ⟨B,0,none⟩=some (.int .u64 g.low):=cell_in h.box rfl
  have c1:w.cell? ⟨B,1,none⟩=some (.int .u32 g.rng):=cell_in h.box rfl
  have c2:w.cell? ⟨B,2,none⟩=some (.int .u8 g.held):=cell_in h.box rfl
  have c3:w.cell? ⟨B,3,none⟩=some (.int .i64 g.wait):=cell_in h.box rfl
  have c4:w.cell? ⟨B,4,none⟩=some (.slice p g.out.length cap):=cell_in h.box rfl
  have hBl:=lt_of_block h.box
  obtain⟨n,hn⟩:∃n,n=g.out.length:=⟨_,rfl⟩
  rw[←hn] at c4
  have hnb:n+g.wait≤1099511627776:=by omega
  have hmk:∀W:World,(Instr.makeSlice 22 (.int .i64 0) (.int .i64 ((n:Int)+g.wait+8))).run Tryz.prog W=.ok (.slice (some ⟨W.heap.size,0,none⟩) 0 (n+g.wait+8)) (W.alloc (.cells (madeCells [Value.int .u8 0].toArray (n+g.wait+8)) 5)):=fun W=>by
    rw[←make_bytes (n+g.wait+8) (by omega) W]
    rfl
  have hx1:=heap_alloc_new w (.cells (boxV g.low g.rng g.held g.wait (.slice p n cap)) 191)
  have hf1:=(Fr.refl (fun _=>False) w).alloc (.cells (boxV g.low g.rng g.held g.wait (.slice p n cap)) 191)
  have HX1:=Hd hx1
  have HF1:=Hd hf1
  have HN:=Hd hn
  clear h h3 hn hx1 hf1
  go_enter Tryz.func108,Tryz.ntmps108
  go_wp2_with fail
  have HB:=Hd (show∀W,W=w.alloc (.cells #[.int .u64 g.low,.int .u32 g.rng,.int .u8 g.held,.int .i64 g.wait,.slice p n cap] 191)→W.heap.size=w.heap.size+1∧Fr (fun _=>False) w W∧W.heap[w.heap.size]? =some (.cells (boxV g.low g.rng g.held g.wait (.slice p n cap)) 191 (0,0))∧EAt W B (.slice p n cap) g from fun W hW=>by
    subst hW
    exact⟨by simp,HF1.out,HX1.out,by have:=HH.out.keep HF1.out (fun h=>h) (fun _ _ h=>h);rw[←HN.out] at this;exact this⟩)
  generalize hW:w.alloc (.cells #[.int .u64 g.low,.int .u32 g.rng,.int .u8 g.held,.int .i64 g.wait,.slice p n cap] 191)=W
  obtain⟨w1,w2,w3,w4⟩:=HB.out W hW.symm
  generalize hz:w.heap.size=z at*
  have HW1:=Hd w1
  have HW2:=Hd w2
  have HW3:=Hd w3
  have HW4:=Hd w4
  have HZ:=Hd hz
  have d3:W.cell? ⟨B,3,none⟩=some (.int .i64 g.wait):=cell_in w4.box rfl
  have d4:W.cell? ⟨B,4,none⟩=some (.slice p n cap):=cell_in w4.box rfl
  have d3':=alloc_keep d3 (.cells (madeCells [Value.int .u8 0].toArray (n+g.wait+8)) 5)
  have d4':=alloc_keep d4 (.cells (madeCells [Value.int .u8 0].toArray (n+g.wait+8)) 5)
  have HA:=Hd ((Fr.refl (fun _=>False) W).drew.alloc (.cells (madeCells [Value.int .u8 0].toArray (n+g.wait+8)) 5))
  have HO:=Hd (show(W.drew.alloc (.cells (madeCells [Value.int .u8 0].toArray (n+g.wait+8)) 5)).ownsRow 0 5 1 (.slice (some ⟨W.heap.size,0,none⟩) 0 (n+g.wait+8)) 0 [] from World.ownsRow_made W.drew _ (n+g.wait+8) (Nat.zero_le _) (by simp only[maxLen];omega) (by rw[size_madeCells,Nat.mul_one]))
  have HRD:=Hd (Rd.of_own (w4.keep HA.out (fun h=>h) (fun _ _ h=>h)).own)
  clear w1 w2 w3 w4 c0 c1 c2 c3 c4 hz hW HB HF1 HX1
  have hwa:IntKind.i64.wrap ((n:Int)+g.wait)=(n:Int)+g.wait:=IntWalk.i64_in _ (by omega)
  have hwb:IntKind.i64.wrap ((n:Int)+g.wait+8)=(n:Int)+g.wait+8:=IntWalk.i64_in _ (by omega)
  go_region_law (refine step_own rfl _ _ rfl (.slice (some ⟨W.heap.size,0,none⟩) 0 (n+g.wait+8)) (.slice p n cap) [] g.out (by simp[Act.eval,Act.put]) (by simp[Act.eval,Act.put]) HO.out HRD.out (by have:=HN.out;simp only[List.length_nil];omega) ?_
                 intro v2 w2 hown2 hfr2 hnew2
                 obtain⟨p2,cap2,hv2⟩:=own_slice hown2
                 generalize([]++g.out).length=n2 at hv2
                 subst hv2
                 have hb2:=hfr2.keep (HA.out.keep HW3.out (fun h=>h)) (fun e=>by simp only[Value.ownBlock,Option.some.injEq] at e;have:=HW1.out;omega)
                 have HOWN:=Hd hown2
                 have HFR:=Hd hfr2
                 have HNEW:=Hd hnew2
                 have HB2:=Hd hb2
                 have z4:=cell_in (i:=4) hb2 rfl
                 have zf:=frozen_in hb2 4
                 clear hown2 hfr2 hnew2 hb2)
  all_goals
    go_wp2_with fail
    go_ret
    have hnw:∀k,(Value.slice p2 n2 cap2).ownBlock=some k→W.heap.size≤k:=fun k hk=>by
      rcases HNEW.out k hk with e|e
      · simp only[Value.ownBlock,Option.some.injEq] at e
        omega
      · exact Nat.le_trans HA.out.size e
    have hf2:=(HA.out.trans' HFR.out (fun k hk e=>by simp only[Value.ownBlock,Option.some.injEq] at e;omega))
    refine⟨z,rfl,by have:=HZ.out;omega,(HW2.out.trans hf2).trans' (Fr.one w2 z 4 _) (fun k hk e=>by have:=HZ.out;omega),_,⟨?_,own_step HOWN.out (Fr.one w2 z 4 _) (fun k hk e=>by have:=hnw k hk;have:=HW1.out;omega)⟩,fun k hk=>by have:=hnw k hk;have:=HW1.out;have:=HZ.out;omega⟩
    rw[set_in HB2.out 4]
    rfl
end En
namespace En
open Mem Rc Win Lz
theorem shifts_succ:∀(n:Nat)(g:G),g.shifts (n+1)=(g.shifts n).shift
 |0,g=>rfl
 |n+1,g=>shifts_succ n g.shift
theorem Is.shifts{g:G}{k:K}(h:Is g k):∀j,j≤4→∃a,Ab (g.shifts j) a (k.s+j) (256^j)
 |0,_=>⟨k.a,h.ab.mono (by have:=h.ok.lo;simp;omega) (Nat.le_refl _)⟩
 |j+1,hj=>by
   obtain⟨a,ha⟩:=h.shifts j (by omega)
   have hp:256^j≤16777216:=Nat.le_trans (Nat.pow_le_pow_right (by omega) (show j≤3 by omega)) (by decide)
   rw[shifts_succ,Nat.pow_succ]
   exact⟨_,ha.shift hp⟩
theorem new_calls(w:World):Calls Tryz.prog 59 #[] w fun e w'=>e=.returned (ptr w.heap.size)∧Fr (fun _=>False) w w'∧EAt w' w.heap.size (.slice none 0 0) G.new:=by
 go_enter Tryz.func59,Tryz.ntmps59
 go_wp2_with fail
 go_ret
 exact⟨rfl,(Fr.refl _ w).alloc _,heap_alloc_new w _,World.ownsRow_nil _ _ _ _⟩
theorem bytes_calls{w:World}{B:Nat}{v:Value}{g:G}{k:K}(h:EAt w B v g)(hk:Is g k)(hs:k.s≤1099511627000):
 Calls Tryz.prog 118 #[ptr B] w fun e w'=>∃v',e=.returned v'∧Fr (fun _=>False) w w'∧Mine w w' v' k.bytes:=by
 have HF:=Hd (fork_calls h (by have:=hk.ab.s;omega))
 have HSH:=Hd (show∀(w1:World)(B1:Nat)(v1:Value)(j:Nat),EAt w1 B1 v1 (g.shifts j)→j<5→Calls Tryz.prog 172 #[ptr B1] w1 fun e w'=>e=.returned (.tuple #[])∧EPost B1 v1 w1 (g.shifts (j+1)) w' from fun w1 B1 v1 j ha hj=>by
  obtain⟨a,hab⟩:=hk.shifts j (by omega)
  have hp:=hab.pos
  have hlo:=hab.low
  rw[shifts_succ]
  exact shift_calls ha (by omega) hab.held (by have:=hab.s;omega))
 have HKB:=Hd hk.bytes
 unfold G.bytes at HKB
 clear h hk hs
 go_enter Tryz.func118,Tryz.ntmps118
 go_wp2_with fail
 refine HF.out.mono ?_
 rintro e w1 ⟨B1,rfl,hB1,hfr,v1,ha,hn⟩
 have H0:=Hd (show EPost B1 v1 w1 (g.shifts 0) w1 from ha.same)
 have HFR:=Hd hfr
 have HN:=Hd hn
 clear hfr ha hn HF
 go_wp2_with fail
 go_loopw [6](fun s6 wr=>∃j:Nat,j≤5∧s6=.int .i64 j∧EPost B1 v1 w1 (g.shifts j) wr) (fun s6 _=>5-(intOf s6).toNat)
 case atStart=>exact⟨0,by omega,rfl,H0.out⟩
 case round=>
  obtain⟨j,hj,rfl,f2,v2,a2,n2⟩:=hrel
  have HP:=Hd (show EPost B1 v1 w1 (g.shifts j) wr from⟨f2,v2,a2,n2⟩)
  by_cases h5:j<5
  ·have hc:=HSH.out wr B1 v2 j a2 h5
   have HC:=Hd hc
   have HF2:=Hd f2
   have HN2:=Hd n2
   clear f2 a2 n2 hc
   go_wp2_with fail
   refine HC.out.mono ?_
   rintro e w3 ⟨rfl,hp⟩
   have HP3:=Hd (EPost.trans HF2.out HN2.out hp)
   clear hp
   go_wp2_with fail
   go_roundw
   case rel=>exact⟨j+1,by omega,by go_num,HP3.out⟩
   case measure=>simp[intOf];omega
  ·obtain rfl:j=5:=by omega
   have c4:wr.cell? ⟨B1,4,none⟩=some v2:=cell_in a2.box rfl
   have HA2:=Hd a2
   have HF2:=Hd f2
   have HN2:=Hd n2
   clear f2 a2 n2 h5
   go_wp2_with fail
   go_ret
   have hl:∀k,v2.ownBlock=some k→w.heap.size≤k:=fun k hk=>(HN2.out k hk).elim (HN.out k) (fun e=>Nat.le_trans HFR.out.size e)
   refine⟨v2,rfl,HFR.out.trans' HF2.out (fun i hi e=> ?_),?_⟩
   ·rcases e with e|e
    ·omega
    ·have:=HN.out i e
     omega
   ·rw[←HKB.out]
    exact⟨HA2.out.own,hl⟩
end En
namespace En
open Mem Rc St Lz
inductive Op where
 |bit (j i b:Nat)
 |half (b:Nat)
structure Es where
 k:K
 ps:Nat→List Nat
def Es.op(e:Es):Op→Es
 |.bit j i b=>⟨e.k.bit ((e.ps j).getD i 0) b,upd e.ps j ((e.ps j).set i (Prob.nextN ((e.ps j).getD i 0) b))⟩
 |.half b=>⟨e.k.half b,e.ps⟩
def Es.run(e:Es):List Op→Es
 |[]=>e
 |o::l=>(e.op o).run l
theorem Es.run_append(e:Es)(l m:List Op):e.run (l++m)=(e.run l).run m:=by
 induction l generalizing e with
 |nil=>rfl
 |cons o l ih=>exact ih _
def Op.Ok(lc lp:Nat):Op→Prop
 |.bit j i b=>j<18∧i<Lz.rowLen lc lp j∧b≤1
 |.half b=>b≤1
def okQ(ps:List Nat):Prop:=∀p ∈ ps,31≤p∧p≤2017
theorem nextQ{p:Nat}(b:Nat)(h:31≤p∧p≤2017):31≤Prob.nextN p b∧Prob.nextN p b≤2017:=by
 unfold Prob.nextN
 split<;>omega
structure Es.Ok(lc lp:Nat)(e:Es):Prop where
 k:e.k.Ok
 q:∀j,j<18→okQ (e.ps j)
 len:∀j,j<18→(e.ps j).length=Lz.rowLen lc lp j
theorem Es.Ok.at{lc lp:Nat}{e:Es}(h:e.Ok lc lp){j i:Nat}(hj:j<18)(hi:i<Lz.rowLen lc lp j):(e.ps j)[i]? =some ((e.ps j).getD i 0)∧31≤(e.ps j).getD i 0∧(e.ps j).getD i 0≤2017:=by
 rw[←h.len j hj] at hi
 rw[List.getD_eq_getElem?_getD,List.getElem?_eq_getElem hi]
 exact⟨rfl,h.q j hj _ (List.getElem_mem hi)⟩
theorem Es.Ok.op{lc lp:Nat}{e:Es}(h:e.Ok lc lp){o:Op}(ho:o.Ok lc lp):(e.op o).Ok lc lp∧e.k.In (e.op o).k:=by
 cases o with
 |bit j i b=>
   obtain⟨hj,hi,hb⟩:=ho
   obtain⟨h1,h2,h3⟩:=h.at hj hi
   have hc:=cut_bd h.k.lo h2 h3
   refine⟨⟨K.bit_ok h.k b h2 h3,fun k hk=> ?_,fun k hk=> ?_⟩,(K.in_cut b (by omega)).trans (K.in_widen _)⟩
   ·simp only[Es.op,upd]
    split
    ·intro p hp
     rcases List.mem_or_eq_of_mem_set hp with hp|rfl
     ·exact h.q j hj p hp
     ·exact nextQ b ⟨h2,h3⟩
    ·exact h.q k hk
   ·simp only[Es.op,upd]
    split
    ·rename_i e
     rw[List.length_set,←e]
     subst e
     exact h.len k hk
    ·exact h.len k hk
 |half b=>exact⟨⟨K.half_ok h.k ho,h.q,h.len⟩,(K.in_half0 _ ho).trans (K.in_widen _)⟩
theorem Es.Ok.run{lc lp:Nat}{e:Es}(h:e.Ok lc lp){l:List Op}(hl:∀o ∈ l,o.Ok lc lp):(e.run l).Ok lc lp∧e.k.In (e.run l).k:=by
 induction l generalizing e with
 |nil=>exact⟨h,.refl _⟩
 |cons o l ih=>
   have h1:=h.op (hl o (by simp))
   have h2:=ih h1.1 (fun x hx=>hl x (by simp[hx]))
   exact⟨h2.1,h1.2.trans h2.2⟩
structure Syn(f:K)(lc lp:Nat)(e:Es)(y:Y):Prop where
 s:Sync f e.k y.d
 bad:y.bad=false
 ps:y.ps=e.ps
 ok:e.Ok lc lp
def Reads{α:Type}(lc lp:Nat)(l:List Op)(g:Y→α×Y)(v:α):Prop:=
 (∀o ∈ l,o.Ok lc lp)∧∀(f:K)(e:Es)(y:Y),0<f.r→Syn f lc lp e y→(e.run l).k.In f→(g y).1=v∧Syn f lc lp (e.run l) (g y).2
theorem Reads.nil{α:Type}{lc lp:Nat}(v:α):Reads lc lp [] (fun y=>(v,y)) v:=⟨fun _ h=>by simp at h,fun _ _ _ _ h _=>⟨rfl,h⟩⟩
theorem Reads.bind{α β:Type}{lc lp:Nat}{l m:List Op}{g:Y→α×Y}{v:α}{g2:α→Y→β×Y}{v2:β}(h:Reads lc lp l g v)(h2:Reads lc lp m (g2 v) v2):Reads lc lp (l++m) (fun y=>g2 (g y).1 (g y).2) v2:=by
 refine⟨fun o ho=> ?_,fun f e y hf hs hin=> ?_⟩
 ·rcases List.mem_append.1 ho with h3|h3
  ·exact h.1 o h3
  ·exact h2.1 o h3
 ·rw[Es.run_append] at hin ⊢
  have k1:=(hs.ok.run h.1)
  have k2:=(k1.1.run h2.1)
  obtain⟨r1,r2⟩:=h.2 f e y hf hs (k2.2.trans hin)
  have r3:=h2.2 f _ _ hf r2 hin
  simp only[r1]
  exact r3
theorem Reads.of{α:Type}{lc lp:Nat}{l:List Op}{g g2:Y→α×Y}{v v2:α}(h:Reads lc lp l g v)(hg:∀y,(g2 y)=g y)(hv:v=v2):Reads lc lp l g2 v2:=by
 have:g2=g:=funext hg
 rw[this,←hv]
 exact h
theorem Reads.map{α β:Type}{lc lp:Nat}{l:List Op}{g:Y→α×Y}{v:α}(F:α→β)(h:Reads lc lp l g v):Reads lc lp l (fun y=>(F (g y).1,(g y).2)) (F v):=
 ⟨h.1,fun f e y hf hs hin=>by
  obtain⟨r1,r2⟩:=h.2 f e y hf hs hin
  exact⟨by simp only;rw[r1],r2⟩⟩
theorem bit_reads{lc lp j i b:Nat}(hj:j<18)(hi:i<Lz.rowLen lc lp j)(hb:b≤1):Reads lc lp [.bit j i b] (fun y=>y.bit j i) b:=by
 refine⟨fun o ho=> ?_,fun f e y hf hs hin=> ?_⟩
 ·simp only[List.mem_singleton] at ho
  subst ho
  exact⟨hj,hi,hb⟩
 ·obtain⟨h1,h2,h3⟩:=hs.ok.at hj hi
  obtain⟨d,hd,hs2⟩:=hs.s.bit hb hs.ok.k.lo h2 h3 hin hf
  have e1:y.bit j i=y.put j (bitAt y.d (y.ps j) i):=by
   unfold Y.bit
   rw[if_neg (by rw[hs.bad];decide)]
  have e2:bitAt y.d (y.ps j) i=⟨b,0,d,(e.ps j).set i (Prob.nextN ((e.ps j).getD i 0) b)⟩:=by
   unfold bitAt
   rw[hs.ps,h1]
   simp only[hd]
  simp only[e1,e2]
  refine⟨rfl,hs2,rfl,?_,(hs.ok.op (o:=.bit j i b) ⟨hj,hi,hb⟩).1⟩
  simp only[Y.put,hs.ps]
  rfl
def treeOps(back:Bool)(j a n x:Nat):Nat→Nat→List Op
 |0,_=>[]
 |f+1,m=>.bit j (a+m) (x/2^Tr.ord back n (n-(f+1))%2)::treeOps back j a n x f (2*m+x/2^Tr.ord back n (n-(f+1))%2)
def later(back:Bool)(n f i:Nat):Bool:=if back then decide (n-f≤i∧i<n) else decide (i<f)
theorem tree_go{lc lp:Nat}(back:Bool){j a n x:Nat}(hj:j<18)(hx:x<2^n)(ha:a+2^n≤Lz.rowLen lc lp j):∀(q m:Nat),q≤n→m<2^(n-q+1)→
 (∀o ∈ treeOps back j a n x q m,o.Ok lc lp)∧∀(f:K)(e:Es)(d:D)(P:Nat→List Nat)(v:Nat),0<f.r→Syn f lc lp e ⟨d,false,P⟩→(e.run (treeOps back j a n x q m)).k.In f→
   (Tr.go back n a q m v d (P j)).err=0∧(∀i,(Tr.go back n a q m v d (P j)).v.testBit i=(v.testBit i||(x.testBit i&&later back n q i)))∧Syn f lc lp (e.run (treeOps back j a n x q m)) ⟨(Tr.go back n a q m v d (P j)).d,false,upd P j (Tr.go back n a q m v d (P j)).ps⟩
 |0,m,hq,hm=>by
   refine⟨fun o ho=>by simp[treeOps] at ho,fun f e d P v hf hs hin=>⟨rfl,fun i=> ?_,?_⟩⟩
   ·unfold Tr.go later
    cases back
    ·simp
    ·simp only[if_true]
     rw[show decide (n-0≤i∧i<n)=false from decide_eq_false (by omega)]
     simp
   ·have e:upd P j (Tr.go back n a 0 m v d (P j)).ps=P:=by
     funext k
     simp only[upd,Tr.go]
     split
     ·rename_i h;rw[h]
     ·rfl
    rw[e]
    exact hs
 |q+1,m,hq,hm=>by
   have hb:x/2^Tr.ord back n (n-(q+1))%2≤1:=by omega
   have ho:Tr.ord back n (n-(q+1))<n:=by unfold Tr.ord;split<;>omega
   have hpw:(2:Nat)^(n-(q+1)+1)≤2^n:=Nat.pow_le_pow_right (by omega) (by omega)
   have hi:a+m<Lz.rowLen lc lp j:=by omega
   have hm2:2*m+x/2^Tr.ord back n (n-(q+1))%2<2^(n-q+1):=by
    rw[show n-q+1=(n-(q+1)+1)+1 by omega,Nat.pow_succ]
    omega
   have ih:=tree_go (lc:=lc) (lp:=lp) back (a:=a) hj hx ha q _ (by omega) hm2
   have hB:=bit_reads (lc:=lc) (lp:=lp) hj hi hb
   refine⟨fun o ho=> ?_,fun f e d P v hf hs hin=> ?_⟩
   ·rw[treeOps,List.mem_cons] at ho
    rcases ho with rfl|ho
    ·exact⟨hj,hi,hb⟩
    ·exact ih.1 o ho
   ·have hbit:(x/2^Tr.ord back n (n-(q+1))%2)=(x>>>Tr.ord back n (n-(q+1)))%2:=by rw[Nat.shiftRight_eq_div_pow]
    rw[treeOps] at hin ⊢
    have hin2:=hin
    rw[Es.run] at hin2 ⊢
    have k1:=(hs.ok.op (o:=.bit j (a+m) (x/2^Tr.ord back n (n-(q+1))%2)) ⟨hj,hi,hb⟩)
    have k2:=k1.1.run ih.1
    obtain⟨r1,r2⟩:=hB.2 f e ⟨d,false,P⟩ hf hs (k2.2.trans hin2)
    have e1:(⟨d,false,P⟩:Y).bit j (a+m)=(⟨d,false,P⟩:Y).put j (bitAt d (P j) (a+m)):=rfl
    simp only[e1] at r1 r2
    have herr:(bitAt d (P j) (a+m)).err=0:=by
     have:=r2.bad
     simpa [Y.put] using this
    have hv:(bitAt d (P j) (a+m)).bit=x/2^Tr.ord back n (n-(q+1))%2:=by
     have:=r1
     simpa [Y.put,gotN,herr] using this
    have r2':Syn f lc lp (e.op (.bit j (a+m) (x/2^Tr.ord back n (n-(q+1))%2))) ⟨(bitAt d (P j) (a+m)).d,false,upd P j (bitAt d (P j) (a+m)).ps⟩:=by
     have:=r2
     simp only[Y.put,herr,ne_eq,not_true,decide_false] at this
     exact this
    rw[Tr.go,if_neg (by omega),hv]
    have r4:=ih.2 f _ _ (upd P j (bitAt d (P j) (a+m)).ps) (v|||(x/2^Tr.ord back n (n-(q+1))%2)<<<Tr.ord back n (n-(q+1))) hf r2' hin2
    rw[upd_same] at r4
    refine⟨r4.1,fun i=> ?_,?_⟩
    ·rw[r4.2.1 i,Nat.testBit_or,Nat.testBit_shiftLeft]
     have hx2:∀t,(x/2^t%2).testBit 0=x.testBit t:=fun t=>by
      rw[Nat.testBit_zero]
      unfold Nat.testBit
      rw[Nat.shiftRight_eq_div_pow,Nat.one_and_eq_mod_two,Nat.mod_mod_of_dvd _ (by exact Nat.dvd_refl 2)]
      rcases(show x/2^t%2=0∨x/2^t%2=1 by omega) with h|h<;>rw[h]<;>rfl
     by_cases hi:i=Tr.ord back n (n-(q+1))
     ·subst hi
      rw[Nat.sub_self,hx2]
      have hl:later back n (q+1) (Tr.ord back n (n-(q+1)))=true:=by
       unfold later Tr.ord
       cases back
       ·simp only[Bool.false_eq_true,if_false];exact decide_eq_true (by omega)
       ·simp only[if_true];exact decide_eq_true (by omega)
      rw[hl]
      cases v.testBit (Tr.ord back n (n-(q+1)))<;>cases x.testBit (Tr.ord back n (n-(q+1)))<;>simp
     ·have hl:later back n (q+1) i=later back n q i:=by
       unfold later Tr.ord at*
       cases back
       ·simp only[Bool.false_eq_true,if_false] at hi ⊢
        exact decide_eq_decide.2 (by omega)
       ·simp only[if_true] at hi ⊢
        exact decide_eq_decide.2 (by omega)
      rw[hl]
      have h0:(decide (Tr.ord back n (n-(q+1))≤i)&&(x/2^Tr.ord back n (n-(q+1))%2).testBit (i-Tr.ord back n (n-(q+1))))=false:=by
       by_cases hle:Tr.ord back n (n-(q+1))≤i
       ·have:(x/2^Tr.ord back n (n-(q+1))%2).testBit (i-Tr.ord back n (n-(q+1)))=false:=by
         refine Nat.testBit_lt_two_pow (Nat.lt_of_lt_of_le (show _<2^1 by omega) (Nat.pow_le_pow_right (by omega) (by omega)))
        rw[this]
        simp
       ·simp[hle]
      rw[h0]
      simp
    ·have hu:∀(L:List Nat),upd (upd P j (bitAt d (P j) (a+m)).ps) j L=upd P j L:=fun L=>by
      funext k
      simp only[upd]
      split<;>rfl
     rw[hu] at r4
     exact r4.2.2
theorem tree_reads{lc lp:Nat}(back:Bool){j a n x:Nat}(hj:j<18)(hx:x<2^n)(hn:n≤16)(ha:a+2^n≤Lz.rowLen lc lp j):Reads lc lp (treeOps back j a n x n 1) (fun y=>y.tree back j a n) x:=by
 have h:=tree_go (lc:=lc) (lp:=lp) back hj hx ha n 1 (Nat.le_refl _) (by rw[Nat.sub_self];decide)
 refine⟨h.1,fun f e y hf hs hin=> ?_⟩
 have hy:y=⟨y.d,false,y.ps⟩:=by cases y;have:=hs.bad;simp only at this;subst this;rfl
 have hs2:=hs
 rw[hy] at hs2
 obtain⟨r1,r2,r3⟩:=h.2 f e y.d y.ps 0 hf hs2 hin
 have hl:=hs.ok.len j hj
 rw[←hs.ps] at hl
 have e1:y.tree back j a n=y.put j ⟨x,0,(Tr.go back n a n 1 0 y.d (y.ps j)).d,(Tr.go back n a n 1 0 y.d (y.ps j)).ps⟩:=by
  unfold Y.tree
  rw[if_neg (by rw[hs.bad];decide)]
  unfold Tr.get
  rw[if_pos ⟨hn,by omega,by omega⟩,if_pos r1,r1]
  congr 2
  refine Nat.eq_of_testBit_eq fun i=> ?_
  rw[r2 i]
  unfold later
  by_cases hi:i<n
  ·cases back
   ·simp[hi]
   ·simp[hi]
  ·have:x.testBit i=false:=Nat.testBit_lt_two_pow (Nat.lt_of_lt_of_le hx (Nat.pow_le_pow_right (by omega) (by omega)))
   rw[this]
   simp
 simp only[e1]
 exact⟨rfl,r3⟩
def halves(x:Nat):Nat→List Op
 |0=>[]
 |n+1=>.half (x/2^n%2)::halves x n
theorem direct_go{lc lp x:Nat}:∀n,(∀o ∈ halves x n,o.Ok lc lp)∧∀(f:K)(e:Es)(d:D)(P:Nat→List Nat)(v:Nat),0<f.r→Syn f lc lp e ⟨d,false,P⟩→(e.run (halves x n)).k.In f→
 ∃d2,D.direct n v d=.ok (v*2^n+x%2^n,d2)∧Syn f lc lp (e.run (halves x n)) ⟨d2,false,P⟩
 |0=>⟨fun o ho=>by simp[halves] at ho,fun f e d P v hf hs hin=>⟨d,by simp[D.direct,Nat.mod_one],hs⟩⟩
 |n+1=>by
   have ih:=direct_go (lc:=lc) (lp:=lp) (x:=x) n
   have hb:x/2^n%2≤1:=by omega
   refine⟨fun o ho=> ?_,fun f e d P v hf hs hin=> ?_⟩
   ·rw[halves,List.mem_cons] at ho
    rcases ho with rfl|ho
    ·exact hb
    ·exact ih.1 o ho
   ·rw[halves,Es.run] at hin ⊢
    have k1:=hs.ok.op (o:=.half (x/2^n%2)) hb
    have k2:=k1.1.run ih.1
    obtain⟨h1,h2,d3,h3,h4⟩:=hs.s.half hb (k2.2.trans hin) hf
    have e1:(if d.rng/2≤d.now then 2*v+1 else 2*v)=2*v+x/2^n%2:=by
     have:decide (d.rng/2≤d.now)=decide (x/2^n%2=1):=h2
     by_cases hc:d.rng/2≤d.now
     ·rw[if_pos hc]
      rw[decide_eq_true hc] at this
      have:=of_decide_eq_true this.symm
      omega
     ·rw[if_neg hc]
      rw[decide_eq_false hc] at this
      have:=of_decide_eq_false this.symm
      omega
    obtain⟨d2,h5,h6⟩:=ih.2 f (e.op (.half (x/2^n%2))) d3 P (2*v+x/2^n%2) hf ⟨h4,rfl,hs.ps,k1.1⟩ hin
    refine⟨d2,?_,h6⟩
    rw[D.direct,if_neg h1]
    rw[h3]
    simp only
    rw[e1,h5,Nat.pow_succ]
    congr 2
    have hm:=Nat.mod_mul (x:=x) (a:=2^n) (b:=2)
    rw[hm,Nat.add_mul,Nat.mul_comm 2 v,Nat.mul_assoc,Nat.mul_comm (x/2^n%2),Nat.mul_comm 2 (2^n)]
    omega
theorem direct_reads{lc lp x n:Nat}(hx:x<2^n):Reads lc lp (halves x n) (fun y=>y.direct n) x:=by
 have h:=direct_go (lc:=lc) (lp:=lp) (x:=x) n
 refine⟨h.1,fun f e y hf hs hin=> ?_⟩
 have hy:y=⟨y.d,false,y.ps⟩:=by cases y;have:=hs.bad;simp only at this;subst this;rfl
 have hs2:=hs
 rw[hy] at hs2
 obtain⟨d2,h1,h2⟩:=h.2 f e y.d y.ps 0 hf hs2 hin
 rw[Nat.mod_eq_of_lt hx,Nat.zero_mul,Nat.zero_add] at h1
 have e1:y.direct n=(x,⟨d2,false,y.ps⟩):=by
  unfold Y.direct
  rw[if_neg (by rw[hs.bad];decide),h1]
 show(y.direct n).1=x∧Syn f lc lp _ (y.direct n).2
 rw[e1]
 exact⟨rfl,h2⟩
end En
end Go.Proofs.YtlgccpjccopdmaaGreatDoor
