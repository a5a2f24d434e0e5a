/- Part 31 of 48: lemmas of the last part, each under the conditions that it names. -/
import Derived.Deep.RegionLaw
import Derived.Deep.DeepCutAuto
import Derived.Deep.LoopGhost
import Derived.BigRegion
import Derived.Test.YtffoddpjfgjelaaGreatDoorQ02
import Derived.Test.YtffoddpjfgjelaaGreatDoorQ11
import Derived.Test.YtffoddpjfgjelaaGreatDoorQ30
set_option linter.unusedVariables false
set_option linter.unusedSimpArgs false
set_option maxRecDepth 1500
set_option maxHeartbeats 1000000
namespace Go.Proofs.YtffoddpjfgjelaaGreatDoor
open Go.RowKit
namespace En
open Mem Rc Win Lz
theorem step_own{ops:Array Oper}{o:Oper}{a:Act}{K:Act→World→Prop}{Q:Exit→Act→World→Prop}{E:Prop}(hgd:o.guard=none)(s y:Operand)
 (ho:o.op=.call {callee:=.builtin .append,args:=#[s,y],argTypes:=#[22,22]}){w:World}(v x:Value)(xs ys:List UInt8)(hv:a.eval s=v)(hx:a.eval y=x)(hown:w.ownsRow 0 5 1 v xs.length (bvs xs))(hrd:Rd w x ys)
 (hb:xs.length+ys.length≤70368744177664)
 (h:∀v' w',w'.ownsRow 0 5 1 v' (xs++ys).length (bvs (xs++ys))→Fr (fun k=>v.ownBlock=some k) w w'→(∀k,v'.ownBlock=some k→v.ownBlock=some k∨w.heap.size≤k)→K (a.put o.dst v') w'):
 if Region.wanted o (yielded ops a.tmps)=true then Oper.wp Tryz.prog o a w K Q else E:=by
 obtain⟨i0,hi,hz0,hz1,hz2⟩:=info_parts infoU8
 refine step_append_any w hgd s y 22 22 ho 5 i0 (.int .u8 0) 1 1 Tryz.underlying22 hi hz0 hz1 hz2 rfl (by decide) v xs.length (bvs xs) hv hown x ys.length (bvs ys) hx (src_rd Tryz.underlying22 hrd) (by simp only[maxLen];omega) (by omega) ?_
 intro v' w' hown hfr hnew _
 exact h v' w' (by rw[List.length_append];simpa [bvs] using hown) hfr hnew
theorem append_own{ops:Array Oper}{rest:List Oper}{o:Oper}{a:Act}{Q:Exit→Act→World→Prop}(hgd:o.guard=none)(s y:Operand)
 (ho:o.op=.call {callee:=.builtin .append,args:=#[s,y],argTypes:=#[22,22]}){w:World}(v x:Value)(xs ys:List UInt8)(hv:a.eval s=v)(hx:a.eval y=x)(hown:w.ownsRow 0 5 1 v xs.length (bvs xs))(hrd:Rd w x ys)
 (hb:xs.length+ys.length≤70368744177664)
 (h:∀p n cap w',w'.ownsRow 0 5 1 (.slice p n cap) (xs++ys).length (bvs (xs++ys))→Fr (fun k=>v.ownBlock=some k) w w'→(∀k,(Value.slice p n cap).ownBlock=some k→v.ownBlock=some k∨w.heap.size≤k)→wpList Tryz.prog ops Q rest (a.put o.dst (.slice p n cap)) w'):
 wpList Tryz.prog ops Q (o::rest) a w:=by
 obtain⟨i0,hi,hz0,hz1,hz2⟩:=info_parts infoU8
 refine wpList_append_any w hgd s y 22 22 ho 5 i0 (.int .u8 0) 1 1 Tryz.underlying22 hi hz0 hz1 hz2 rfl (by decide) v xs.length (bvs xs) hv hown x ys.length (bvs ys) hx (src_rd Tryz.underlying22 hrd) (by simp only[maxLen];omega) (by omega) ?_
 intro v' w' hown hfr hnew _
 obtain⟨p,cap,rfl⟩:=own_slice hown
 exact h _ _ _ w' (by rw[List.length_append];simpa [bvs] using hown) hfr hnew
theorem off_box{w:World}{T T':TypeId}{v:Value}{z n:Nat}{xs:List Value}(h:w.ownsRow 0 T z v n xs){R:Nat}{cs:Array Value}{fr:Nat×Nat}(hR:w.heap[R]? =some (.cells cs T' fr))(hT:T'≠T):∀k,v.ownBlock=some k→k≠R:=by
 rintro k hk rfl
 obtain⟨cur,hc⟩:=own_block h hk
 rw[hR] at hc
 simp only[Option.some.injEq,Obj.cells.injEq] at hc
 exact hT hc.2.1
def boxV(low rng held wait:Nat)(v:Value):Array Value:=#[.int .u64 low,.int .u32 rng,.int .u8 held,.int .i64 wait,v]
structure EAt(w:World)(B:Nat)(v:Value)(g:G):Prop where
 box:w.heap[B]? =some (.cells (boxV g.low g.rng g.held g.wait v) 219 (0,0))
 own:w.ownsRow 0 5 1 v g.out.length (bvs g.out)
theorem EAt.off{w:World}{B:Nat}{v:Value}{g:G}(h:EAt w B v g):∀k,v.ownBlock=some k→k≠B:=fun k hk=>off_box h.own h.box (by decide) k hk
def EF(B:Nat)(v:Value)(k:Nat):Prop:=k=B∨v.ownBlock=some k
def EPost(B:Nat)(v:Value)(w:World)(g:G)(w':World):Prop:=Fr (EF B v) w w'∧∃v',EAt w' B v' g∧∀k,v'.ownBlock=some k→v.ownBlock=some k∨w.heap.size≤k
theorem EAt.keep{S:Nat→Prop}{w w':World}{B:Nat}{v:Value}{g:G}(h:EAt w B v g)(hfr:Fr S w w')(hB:¬S B)(hv:∀k,v.ownBlock=some k→¬S k):EAt w' B v g:=
 ⟨hfr.keep h.box hB,own_step h.own hfr hv⟩
theorem EPost.trans{B:Nat}{v v1:Value}{w w1 w2:World}{g2:G}(h1:Fr (EF B v) w w1)(hn:∀k,v1.ownBlock=some k→v.ownBlock=some k∨w.heap.size≤k)(h2:EPost B v1 w1 g2 w2):EPost B v w g2 w2:=by
 obtain⟨f,v2,a,n⟩:=h2
 refine⟨h1.trans' f (fun k hk e=> ?_),v2,a,fun k hk=> ?_⟩
 ·rcases e with e|e
  ·exact .inl e
  ·rcases hn k e with e|e
   ·exact .inr e
   ·omega
 ·rcases n k hk with e|e
  ·exact hn k e
  ·exact .inr (Nat.le_trans h1.size e)
theorem EAt.app{w W w2:World}{B:Nat}{v v2:Value}{g:G}{ys:List UInt8}(h:EAt w B v g)(hW:Fr (fun _=>False) w W)(hown:w2.ownsRow 0 5 1 v2 (g.out++ys).length (bvs (g.out++ys)))(hfr:Fr (fun k=>v.ownBlock=some k) W w2)
 (hnew:∀k,v2.ownBlock=some k→v.ownBlock=some k∨W.heap.size≤k):Fr (EF B v) w (w2.setCell ⟨B,4,none⟩ v2)∧EAt (w2.setCell ⟨B,4,none⟩ v2) B v2 {g with out:=g.out++ys}∧∀k,v2.ownBlock=some k→v.ownBlock=some k∨w.heap.size≤k:=by
 have hn:∀k,v2.ownBlock=some k→v.ownBlock=some k∨w.heap.size≤k:=fun k hk=>(hnew k hk).imp id (fun e=>Nat.le_trans hW.size e)
 have hb2:=hfr.keep (hW.keep h.box (fun h=>h)) (fun e=>h.off B e rfl)
 have f2:=Fr.one w2 B 4 v2
 refine⟨((hW.mono (fun _ _ h=>h.elim)).trans (hfr.mono (fun k _ e=>.inr e))).trans (f2.mono (fun k _ e=>.inl e)),⟨?_,own_step hown f2 (fun k hk e=> ?_)⟩,hn⟩
 ·rw[set_in hb2 4]
  rfl
 ·have e:k=B:=e
  subst e
  rcases hn k hk with e|e
  ·exact h.off k e rfl
  ·have:=lt_of_block h.box
   omega
theorem toU8(x:Nat):((x%256:Nat):Int)=((UInt8.ofNat x).toNat:Int):=by rw[UInt8.toNat_ofNat']
theorem wrapU8(x:Nat):IntKind.u8.wrap (x:Int)=((UInt8.ofNat x).toNat:Int):=by rw[IntKind.wrap_u8,←toU8];omega
theorem and24(a:Nat):bits BinOp.and IntKind.u64 (a:Int) 16777215=((a%16777216:Nat):Int):=by
 have hx:a%16777216<16777216:=Nat.mod_lt _ (by decide)
 have h2:(BitVec.ofInt 64 (16777215:Int)).toNat=2^24-1:=by decide
 have h1:(BitVec.ofInt 64 (a:Int)).toNat=a%2^64:=by rw[BitVec.ofInt_natCast,BitVec.toNat_ofNat]
 show IntKind.u64.wrap ((BitVec.ofInt 64 (a:Int)&&&BitVec.ofInt 64 (16777215:Int)).toNat:Int)=_
 rw[BitVec.toNat_and,h1,h2,Nat.and_two_pow_sub_one_eq_mod,Nat.mod_mod_of_dvd _ (by decide)]
 exact IntWalk.u64_in _ (by omega)
theorem EAt.set{w:World}{B:Nat}{v:Value}{g g':G}(h:EAt w B v g)(i:Nat)(x:Value)(hx:(boxV g.low g.rng g.held g.wait v).setIfInBounds i x=boxV g'.low g'.rng g'.held g'.wait v)(ho:g'.out=g.out):EAt (w.setCell ⟨B,i,none⟩ x) B v g'∧Fr (EF B v) w (w.setCell ⟨B,i,none⟩ x):=
 ⟨⟨by rw[set_in h.box i,hx],by rw[ho];exact own_step h.own (Fr.one w B i x) (fun k hk e=>h.off k hk e)⟩,(Fr.one w B i x).mono (fun _ _ e=>.inl e)⟩
theorem rep_snoc(l:List UInt8)(x y:UInt8)(n f:Nat)(h:f+1≤n):l++x::List.replicate (n-f) y=(l++x::List.replicate (n-(f+1)) y)++[y]:=by
 rw[show n-f=(n-(f+1))+1 by omega,List.replicate_succ']
 simp
theorem emit_eq(g:G)(c L q m:Nat)(x1 x2:UInt8)(hc:c=carry g)(h1:x1=UInt8.ofNat (g.held+c))(h2:x2=UInt8.ofNat (255+c))(hL:L=g.low)(hq:q=L/16777216%256)(hm:m=L%16777216)(hs:g.low<4278190080∨4294967295<g.low):
 g.shift=⟨m*256,g.rng,q,0,g.out++x1::List.replicate (g.wait-0) x2⟩:=by
 unfold G.shift G.fixed
 rw[if_pos hs,←hc,←h1,←h2,hq,hm,hL]
 rfl
theorem shift_rel{w w1 w2 w3:World}{B:Nat}{v v1 v2:Value}{g:G}(h1:Fr (EF B v) w w1)(n1:∀k,v1.ownBlock=some k→v.ownBlock=some k∨w.heap.size≤k)(h2:Fr (EF B v1) w1 w2)(n2:∀k,v2.ownBlock=some k→v1.ownBlock=some k∨w1.heap.size≤k)(h3:EAt w3 B v2 g∧Fr (EF B v2) w2 w3):
 Fr (EF B v) w w3∧EAt w3 B v2 g∧∀k,v2.ownBlock=some k→v.ownBlock=some k∨w.heap.size≤k:=by
 have hn:∀k,v2.ownBlock=some k→v.ownBlock=some k∨w.heap.size≤k:=fun k hk=>by
  rcases n2 k hk with e|e
  ·exact n1 k e
  ·exact .inr (Nat.le_trans h1.size e)
 have f2:Fr (EF B v) w w2:=h1.trans' h2 (fun k hk e=>by
  rcases e with e|e
  ·exact .inl e
  ·exact(n1 k e).elim .inr (fun e=>by omega))
 exact⟨f2.trans' h3.2 (fun k hk e=>by
  rcases e with e|e
  ·exact .inl e
  ·exact(hn k e).elim .inr (fun e=>by omega)),h3.1,hn⟩
set_option maxRecDepth 20000 in
theorem shift_emit{w:World}{B:Nat}{v:Value}{g:G}(h:EAt w B v g)(h2:g.held≤255)(h3:g.out.length+g.wait≤1099511627776)(c:Nat)(hc:c=carry g)(hc1:c≤1)(hl:g.low<4278190080∨4294967295<g.low):
    Calls Tryz.prog 198 #[ptr B] w fun e w'=>e=.returned (.tuple #[])∧EPost B v w g.shift w':=by
  have c0:w.cell? ⟨B,0,none⟩=some (.int .u64 g.low):=cell_in h.box rfl
  have c2:w.cell? ⟨B,2,none⟩=some (.int .u8 g.held):=cell_in h.box rfl
  have c3:w.cell? ⟨B,3,none⟩=some (.int .i64 g.wait):=cell_in h.box rfl
  have c4:w.cell? ⟨B,4,none⟩=some v:=cell_in h.box rfl
  have cf:=fun i=>frozen_in h.box i
  have hq:(g.low:Int)/4294967296=(c:Int):=by rw[hc];unfold carry;omega
  obtain⟨t1,h4⟩:∃t,t=decide ((g.low:Int)<4278190080):=⟨_,rfl⟩
  obtain⟨t2,h5⟩:∃t,t=decide ((4294967295:Int)<g.low):=⟨_,rfl⟩
  have h6:t1=true∨t1=false∧t2=true:=by
    rcases hl with h|h
    · exact .inl (h4.trans (decide_eq_true (by omega)))
    · exact .inr ⟨h4.trans (decide_eq_false (by omega)),h5.trans (decide_eq_true (by omega))⟩
  have HH:=Hd h
  have H2:=Hd h2
  have H3:=Hd h3
  have HC:=Hd hc
  have HS:=Hd hl
  clear h h2 h3 hl hc
  have h7:=h4.symm
  have h8:=h5.symm
  clear h4 h5
  obtain⟨L,hL0⟩:∃L,L=g.low:=⟨_,rfl⟩
  rw[←hL0] at c0 hq h7 h8
  have HL0:=Hd hL0
  clear hL0
  obtain⟨x1,hx1⟩:∃x,x=UInt8.ofNat (g.held+c):=⟨_,rfl⟩
  obtain⟨x2,hx2⟩:∃x,x=UInt8.ofNat (255+c):=⟨_,rfl⟩
  have hw1:IntKind.u8.wrap ((g.held:Int)+c)=(x1.toNat:Int):=by rw[hx1,←wrapU8];rfl
  have hw2:IntKind.u8.wrap (255+(c:Int))=(x2.toNat:Int):=by rw[hx2,←wrapU8];rfl
  have HQ6:=Hd (show IntKind.u8.wrap ((L:Int)/16777216)=((L/16777216%256:Nat):Int) by rw[IntKind.wrap_u8];omega)
  have HQ8:=Hd (and24 L)
  have hm8:L%16777216≤16777215:=by omega
  have HM8:=Hd hm8
  clear hm8
  have HX1:=Hd hx1
  have HX2:=Hd hx2
  have HW1:=Hd hw1
  have HW2:=Hd hw2
  clear hx1 hx2 hw2
  have c4':=alloc_keep c4 (.cells #[.int .u8 x1.toNat] 5)
  have HW:=Hd ((R0 w).drew.alloc (.cells #[.int .u8 x1.toNat] 5))
  have HRD:=Hd (rd_one w.drew w.heap.size rfl x1 _ rfl)
  have HOW:=Hd (own_step HH.out.own HW.out (fun _ _ h=>h))
  have HL:=Hd (show∃v1,Fr (EF B v) w w∧EAt w B v1 g∧∀k,v1.ownBlock=some k→v.ownBlock=some k∨w.heap.size≤k from⟨v,Fr.refl _ _,HH.out,fun k hk=>.inl hk⟩)
  rcases h6 with rfl|⟨rfl,rfl⟩
  all_goals
    go_enter Tryz.func198,Tryz.ntmps198
    go_upto_region 2 with fail
    go_cut [] (fun wx=>∃p n cap,Fr (EF B v) w wx∧EAt wx B (.slice p n cap) {g with out:=g.out++[x1]}∧∀k,(Value.slice p n cap).ownBlock=some k→v.ownBlock=some k∨w.heap.size≤k)
    case first=>
      go_region_law (refine step_own rfl _ _ rfl v (.slice (some ⟨w.heap.size,0,none⟩) 1 1) g.out [x1] (by simp[Act.eval,Act.put]) (by simp[Act.eval,Act.put]) HOW.out HRD.out (by have:=H3.out;simp only[List.length_singleton];omega) ?_
                     intro v2 w2 hown2 hfr2 hnew2
                     obtain⟨p2,cap2,hv2⟩:=own_slice hown2
                     generalize(g.out++[x1]).length=n2 at hv2
                     subst hv2
                     obtain⟨f3,a3,n3⟩:=HH.out.app HW.out hown2 hfr2 hnew2
                     have HF3:=Hd f3
                     have HA3:=Hd a3
                     have HN3:=Hd n3
                     have hb2:=hfr2.keep (HW.out.keep HH.out.box (fun h=>h)) (fun e=>HH.out.off B e rfl)
                     have z4:=cell_in (i:=4) hb2 rfl
                     have zf:=frozen_in hb2 4
                     clear f3 a3 n3 hown2 hfr2 hnew2 hb2)
      all_goals
        go_wp2_with fail
        go_meet
        exact⟨_,_,_,HF3.out,HA3.out,HN3.out⟩
    case rest=>
      obtain⟨p1,n1,cap1,hf1,ha1,hn1⟩:=hcut
      have HF1:=Hd hf1
      have HA1:=Hd ha1
      have HN1:=Hd hn1
      clear hf1 ha1 hn1 c0 c2 c3 c4 c4' cf hq h7 h8
      go_wp2_with fail
      go_loopg [] g.wait (fun f wr=>f≤g.wait∧∃p n cap,Fr (EF B v) w wr∧EAt wr B (.slice p n cap) ⟨g.low,g.rng,g.held,f,g.out++x1::List.replicate (g.wait-f) x2⟩∧∀k,(Value.slice p n cap).ownBlock=some k→v.ownBlock=some k∨w.heap.size≤k)
      case atStart=>exact⟨Nat.le_refl _,p1,n1,cap1,HF1.out,by rw[Nat.sub_self];exact HA1.out,HN1.out⟩
      case round=>
        obtain⟨hle,p4,n4,cap4,hf4,ha4,hn4⟩:=hrel
        have d0:wr.cell? ⟨B,0,none⟩=some (.int .u64 L):=HL0.out ▸ cell_in ha4.box rfl
        have d2:wr.cell? ⟨B,2,none⟩=some (.int .u8 g.held):=cell_in ha4.box rfl
        have d3:wr.cell? ⟨B,3,none⟩=some (.int .i64 gk):=cell_in ha4.box rfl
        have d4:wr.cell? ⟨B,4,none⟩=some (.slice p4 n4 cap4):=cell_in ha4.box rfl
        have df:=fun i=>frozen_in ha4.box i
        have HF4:=Hd hf4
        have HA4:=Hd ha4
        have HN4:=Hd hn4
        have HLE:=Hd hle
        clear hf4 ha4 hn4 hle
        by_cases h0:gk=0
        · subst h0
          have hq6:=HQ6.out
          have hq8:=HQ8.out
          have hm8:=HM8.out
          obtain⟨q6,hqq⟩:∃q,q=L/16777216%256:=⟨_,rfl⟩
          obtain⟨m8,hmm⟩:∃q,q=L%16777216:=⟨_,rfl⟩
          rw[←hqq] at hq6
          rw[←hmm] at hq8 hm8
          have HQQ:=Hd hqq
          have HMM:=Hd hmm
          clear hqq hmm
          go_wp2_with fail
          go_end0
          refine⟨rfl,?_⟩
          have s1:=EAt.set (g':=⟨g.low,g.rng,q6,0,g.out++x1::List.replicate (g.wait-0) x2⟩) HA4.out 2 (.int .u8 q6) rfl rfl
          have s2:=EAt.set (g':=⟨m8*256,g.rng,q6,0,g.out++x1::List.replicate (g.wait-0) x2⟩) s1.1 0 (.int .u64 ((m8:Int)*256)) (by simp[boxV]) rfl
          have e:=emit_eq g c L q6 m8 x1 x2 HC.out HX1.out HX2.out HL0.out HQQ.out HMM.out HS.out
          rw[e]
          exact EPost.trans HF4.out HN4.out ⟨s1.2.trans s2.2,_,s2.1,fun k hk=>.inl hk⟩
        · obtain⟨f,rfl⟩:∃f,gk=f+1:=⟨gk-1,by omega⟩
          have hfb:f≤1099511627776:=by have:=HLE.out;have:=H3.out;omega
          have hw2:=HW2.out
          have d4':=alloc_keep d4 (.cells #[.int .u8 x2.toNat] 5)
          have HWr:=Hd ((R0 wr).alloc (.cells #[.int .u8 x2.toNat] 5))
          have HRDr:=Hd (rd_one wr wr.heap.size rfl x2 _ rfl)
          have HOWr:=Hd (own_step HA4.out.own HWr.out (fun _ _ h=>h))
          go_wp2_with (at_builtin;refine append_own rfl _ _ rfl (.slice p4 n4 cap4) (.slice (some ⟨wr.heap.size,0,none⟩) 1 1) (g.out++x1::List.replicate (g.wait-(f+1)) x2) [x2] rfl rfl HOWr.out HRDr.out (by have:=H3.out;simp;omega) ?_;intro p2 n2 cap2 w2 hown2 hfr2 hnew2;obtain ⟨f3,a3,n3⟩:=HA4.out.app HWr.out hown2 hfr2 hnew2;have HF3:=Hd f3;have HA3:=Hd a3;have HN3:=Hd n3;have hb2:=hfr2.keep (HWr.out.keep HA4.out.box (fun h=>h)) (fun e=>HA4.out.off B e rfl);have z4:=cell_in (i:=4) hb2 rfl;have z3:w2.cell? ⟨B,3,none⟩=some (.int .i64 ((f+1:Nat):Int)):=cell_in hb2 rfl;have zf:=fun i=>frozen_in hb2 i;clear f3 a3 n3 hown2 hfr2 hnew2 hb2)
          go_roundg f
          case rel=>
            have s1:=EAt.set (g':=⟨g.low,g.rng,g.held,f,g.out++x1::List.replicate (g.wait-f) x2⟩) HA3.out 3 (.int .i64 f) rfl (rep_snoc g.out x1 x2 g.wait f HLE.out)
            exact⟨by have:=HLE.out;omega,p2,n2,cap2,shift_rel HF4.out HN4.out HF3.out HN3.out s1⟩
          case measure=>omega
set_option maxRecDepth 20000 in
theorem shift_wait{w:World}{B:Nat}{v:Value}{g:G}(h:EAt w B v g)(h3:g.out.length+g.wait≤1099511627776)(hl:¬(g.low<4278190080∨4294967295<g.low)):
 Calls Tryz.prog 198 #[ptr B] w fun e w'=>e=.returned (.tuple #[])∧EPost B v w g.shift w':=by
 have c0:w.cell? ⟨B,0,none⟩=some (.int .u64 g.low):=cell_in h.box rfl
 have c3:w.cell? ⟨B,3,none⟩=some (.int .i64 g.wait):=cell_in h.box rfl
 have cf:=fun i=>frozen_in h.box i
 have hd1:decide ((g.low:Int)<4278190080)=false:=decide_eq_false (by omega)
 have hd2:decide ((4294967295:Int)<g.low)=false:=decide_eq_false (by omega)
 have e:g.shift=⟨g.low%16777216*256,g.rng,g.held,g.wait+1,g.out⟩:=by unfold G.shift;rw[if_neg hl]
 have hq8:=and24 g.low
 have hm8:g.low%16777216≤16777215:=by omega
 have hwb:g.wait≤1099511627776:=by omega
 have HH:=Hd h
 have HE:=Hd e
 clear h h3 hl e
 obtain⟨m8,hmm⟩:∃q,q=g.low%16777216:=⟨_,rfl⟩
 rw[←hmm] at hq8 hm8
 have HMM:=Hd hmm
 clear hmm
 generalize hL:g.low=L at c0 hd1 hd2 hq8
 clear hL
 go_enter Tryz.func198,Tryz.ntmps198
 go_wp2_with fail
 go_end0
 have s1:=EAt.set (g':=⟨g.low,g.rng,g.held,g.wait+1,g.out⟩) HH.out 3 (.int .i64 ((g.wait:Int)+1)) (by simp[boxV]) rfl
 have s2:=EAt.set (g':=⟨m8*256,g.rng,g.held,g.wait+1,g.out⟩) s1.1 0 (.int .u64 ((m8:Int)*256)) (by simp[boxV]) rfl
 rw[HE.out,←HMM.out]
 exact⟨rfl,s1.2.trans s2.2,_,s2.1,fun k hk=>.inl hk⟩
theorem shift_calls{w:World}{B:Nat}{v:Value}{g:G}(h:EAt w B v g)(h1:g.low<8589934592)(h2:g.held≤255)(h3:g.out.length+g.wait≤1099511627776):
 Calls Tryz.prog 198 #[ptr B] w fun e w'=>e=.returned (.tuple #[])∧EPost B v w g.shift w':=by
 by_cases hl:g.low<4278190080∨4294967295<g.low
 ·exact shift_emit h h2 h3 (carry g) rfl (by unfold carry;omega) hl
 ·exact shift_wait h h3 hl
end En
namespace En
open Mem Rc Win Lz
structure G.Fit(g:G):Prop where
 low:g.low<8589934592
 held:g.held≤255
 len:g.out.length+g.wait≤1099511627776
theorem EAt.same{w:World}{B:Nat}{v:Value}{g:G}(h:EAt w B v g):EPost B v w g w:=⟨Fr.refl _ _,v,h,fun k hk=>.inl hk⟩
theorem widen_calls{w:World}{B:Nat}{v:Value}{g:G}(h:EAt w B v g)(hf:g.Fit)(h0:65536≤g.rng)(h1:g.rng<4294967296):
 Calls Tryz.prog 347 #[ptr B] w fun e w'=>e=.returned (.tuple #[])∧EPost B v w g.widen w':=by
 have c1:w.cell? ⟨B,1,none⟩=some (.int .u32 g.rng):=cell_in h.box rfl
 by_cases hr:16777216≤g.rng
 ·have hd:decide ((g.rng:Int)<16777216)=false:=decide_eq_false (by omega)
  have HP:=Hd (show EPost B v w g.widen w by unfold G.widen;rw[if_pos hr];exact h.same)
  clear h hf h0 h1 hr
  generalize g.rng=r at*
  go_enter Tryz.func347,Tryz.ntmps347
  go_wp2_with fail
  go_loopw [] (fun wr=>wr=w) (fun _=>0)
  case atStart=>rfl
  case round=>
   obtain rfl:=hrel
   go_wp2_with fail
   go_end0
   exact⟨rfl,HP.out⟩
 ·have hd:decide ((g.rng:Int)<16777216)=true:=decide_eq_true (by omega)
  have hr2:g.rng<16777216:=by omega
  have HH:=Hd h
  have HF:=Hd hf
  have HE:=Hd (show g.widen=G.shift ⟨g.low,g.rng*256,g.held,g.wait,g.out⟩ by unfold G.widen;rw[if_neg hr])
  have H0:=Hd (show decide (((g.rng*256:Nat):Int)<16777216)=false from decide_eq_false (by omega))
  obtain⟨r,hR⟩:∃r,r=g.rng:=⟨_,rfl⟩
  rw[←hR] at c1 hd hr2
  have HR:=Hd hR
  have cf:=frozen_in h.box 1
  clear h hf h0 h1 hr hR
  go_enter Tryz.func347,Tryz.ntmps347
  go_wp2_with fail
  go_loopg [] 2 (fun f wr=>f=2∧wr=w∨f=1∧EPost B v w g.widen wr)
  case atStart=>exact .inl ⟨rfl,rfl⟩
  case round=>
   rcases hrel with⟨rfl,rfl⟩|⟨rfl,hp⟩
   ·go_wp2_with fail
    have s1:=EAt.set (g':=⟨g.low,g.rng*256,g.held,g.wait,g.out⟩) HH.out 1 (.int .u32 ((r:Int)*256)) (by simp[boxV,HR.out]) rfl
    have hs:=shift_calls s1.1 HF.out.low HF.out.held HF.out.len
    have HS:=Hd hs
    have HF1:=Hd s1.2
    clear s1 hs c1 cf
    refine HS.out.mono ?_
    rintro e w2 ⟨rfl,hp⟩
    have HP:=Hd (EPost.trans HF1.out (fun k hk=>.inl hk) hp)
    clear hp
    go_wp2_with fail
    go_roundg 1
    case rel=>exact .inr ⟨rfl,by rw[HE.out];exact HP.out⟩
    case measure=>omega
   ·have HP:=Hd hp
    obtain⟨hfr,v1,ha,hn⟩:=hp
    have hrg:g.widen.rng=g.rng*256:=by rw[HE.out];unfold G.shift;split<;>rfl
    have e1:wr.cell? ⟨B,1,none⟩=some (.int .u32 ((g.rng*256:Nat):Int)):=by rw[←hrg];exact cell_in ha.box rfl
    have hd2:=H0.out
    clear hfr ha hn hrg c1 cf hd
    generalize g.rng*256=r2 at e1 hd2
    go_wp2_with fail
    go_end0
    exact⟨rfl,HP.out⟩
theorem g_bit(g:G)(p b:Nat):g.bit p b=(⟨if b=0 then g.low else g.low+cutAt g.rng p,if b=0 then cutAt g.rng p else g.rng-cutAt g.rng p,g.held,g.wait,g.out⟩:G).widen:=by
 unfold G.bit
 split<;>rfl
def BPost(B:Nat)(v:Value)(b gb:Nat)(w:World)(g:G)(ps:List Nat)(w':World):Prop:=Fr (fun k=>EF B v k∨k=gb) w w'∧(∃v',EAt w' B v' g∧∀k,v'.ownBlock=some k→v.ownBlock=some k∨w.heap.size≤k)∧Prob.SetAt w' b gb ps
theorem EAt.offSet{w:World}{B:Nat}{v:Value}{g:G}(h:EAt w B v g){b gb:Nat}{ps:List Nat}(hs:Prob.SetAt w b gb ps):¬EF B v b∧¬EF B v gb:=by
 obtain⟨_,_,h1,h2,_⟩:=hs
 refine⟨?_,?_⟩
 ·rintro(rfl|e)
  ·rw[h.box] at h1
   simp at h1
  ·exact off_box h.own h1 (by decide) _ e rfl
 ·rintro(rfl|e)
  ·rw[h.box] at h2
   simp at h2
  ·exact off_box h.own h2 (by decide) _ e rfl
theorem BPost.of{w w1 w2:World}{B b gb:Nat}{v v1:Value}{g:G}{ps ps2:List Nat}(hs:Prob.SetAt w b gb ps)(f1:Fr (EF B v) w w1)(a1:EAt w1 B v1 g)(n1:∀k,v1.ownBlock=some k→v.ownBlock=some k∨w.heap.size≤k)(hs1:Prob.SetAt w1 b gb ps)(f2:Fr (fun k=>k=gb) w1 w2)(hs2:Prob.SetAt w2 b gb ps2):BPost B v b gb w g ps2 w2:=by
 have ho:=a1.offSet hs1
 refine⟨(f1.mono (fun _ _ h=>.inl h)).trans' f2 (fun k _ e=>.inr e),⟨v1,a1.keep f2 (fun e=>ho.2 (.inl e.symm)) (fun k hk e=>ho.2 (.inr (by rw[←e];exact hk))),n1⟩,hs2⟩
theorem ebit_calls{w:World}{B b gb i p bit:Nat}{v:Value}{g:G}{ps:List Nat}(h:EAt w B v g)(hf:g.Fit)(h0:16777216≤g.rng)(h1:g.rng<4294967296)(h2:g.low+g.rng≤8589934592)(hs:Prob.SetAt w b gb ps)(hp:ps[i]? =some p)(hp1:31≤p)(hp2:p≤2017)(hb:bit≤1):
 Calls Tryz.prog 343 #[ptr B,ptr b,.int .i64 i,.int .i64 bit] w fun e w'=>e=.returned (.int .i64 0)∧BPost B v b gb w (g.bit p bit) (ps.set i (Prob.nextN p bit)) w':=by
 have hc:=cut_bd h0 hp1 hp2
 have c0:w.cell? ⟨B,0,none⟩=some (.int .u64 g.low):=cell_in h.box rfl
 have c1:w.cell? ⟨B,1,none⟩=some (.int .u32 g.rng):=cell_in h.box rfl
 have cf:=fun i=>frozen_in h.box i
 have HAT:=Hd (Prob.at_set b gb i p ps w hs hp)
 have HBD:=Hd (bound_cut g.rng p w (by omega) (by omega))
 obtain⟨ct,hct⟩:∃c,c=cutAt g.rng p:=⟨_,rfl⟩
 have HCT:=Hd hct
 rw[←hct] at HBD hc
 obtain⟨l2,hl2⟩:∃l,l=g.low+ct:=⟨_,rfl⟩
 obtain⟨r2,hr2⟩:∃r,r=g.rng-ct:=⟨_,rfl⟩
 have hwl:IntKind.u64.wrap ((g.low:Int)+(ct:Int))=(l2:Int):=by rw[IntWalk.u64_in _ (by omega),hl2];rfl
 have hwc:IntKind.u64.wrap (ct:Int)=(ct:Int):=IntWalk.u64_in _ (by omega)
 have hwr:IntKind.u32.wrap ((g.rng:Int)-(ct:Int))=(r2:Int):=by rw[IntWalk.u32_in _ (by omega)];omega
 have HWD:=Hd (show∀(w1:World)(l r:Nat),EAt w1 B v ⟨l,r,g.held,g.wait,g.out⟩→(l=g.low∧r=ct∨l=l2∧r=r2)→Calls Tryz.prog 347 #[ptr B] w1 fun e w'=>e=.returned (.tuple #[])∧EPost B v w1 (G.widen ⟨l,r,g.held,g.wait,g.out⟩) w' from fun w1 l r ha hr=>widen_calls ha ⟨by simp only;omega,hf.held,hf.len⟩ (by simp only;omega) (by simp only;omega))
 have HG:=Hd (g_bit g p bit)
 have HH:=Hd h
 have HS:=Hd hs
 have HP:=Hd hp
 have HL2:=Hd hl2
 have HR2:=Hd hr2
 clear h hf h0 h1 h2 hs hp hp1 hp2 hc hct hl2 hr2
 generalize hL:g.low=L at c0 hwl
 generalize hR:g.rng=R at c1 hwr HBD
 have HL:=Hd hL
 have HR:=Hd hR
 clear hL hR
 go_enter Tryz.func343,Tryz.ntmps343
 go_wp2_with fail
 refine HAT.out.mono ?_
 rintro e w1 ⟨rfl,rfl⟩
 go_wp2_with fail
 refine HBD.out.mono ?_
 rintro e w1 ⟨rfl,rfl⟩
 rcases(show bit=0∨bit=1 by omega) with rfl|rfl
 ·go_wp2_with fail
  have sz:=EAt.set (g':=⟨g.low,ct,g.held,g.wait,g.out⟩) HH.out 1 (.int .u32 ct) rfl rfl
  refine(HWD.out _ g.low ct sz.1 (.inl ⟨rfl,rfl⟩)).mono ?_
  rintro e w2 ⟨rfl,hp2⟩
  obtain⟨f2,v2,a2,n2⟩:=EPost.trans sz.2 (fun k hk=>.inl hk) hp2
  have ho:=HH.out.offSet HS.out
  have hs2:=HS.out.step f2 ho.1 ho.2
  have HT:=Hd (Prob.turn_set b gb i p 0 ps w2 hs2 HP.out)
  have HF2:=Hd f2
  have HA2:=Hd a2
  have HN2:=Hd n2
  have HS2:=Hd hs2
  clear sz hp2 f2 a2 n2 ho hs2 c0 c1 cf hwl hwr hwc
  go_wp2_with fail
  refine HT.out.mono ?_
  rintro e w3 ⟨rfl,f3,s3⟩
  have KEY:=Hd (BPost.of HS.out HF2.out HA2.out HN2.out HS2.out f3 s3)
  clear f3 s3
  go_wp2_with fail
  go_ret
  rw[HG.out,←HCT.out]
  exact⟨rfl,by simpa [HL2.out,HR2.out] using KEY.out⟩
 ·go_wp2_with fail
  have s0:=EAt.set (g':=⟨l2,g.rng,g.held,g.wait,g.out⟩) HH.out 0 (.int .u64 l2) rfl rfl
  have s1:=EAt.set (g':=⟨l2,r2,g.held,g.wait,g.out⟩) s0.1 1 (.int .u32 r2) rfl rfl
  have sz:=And.intro s1.1 (s0.2.trans s1.2)
  clear s0 s1
  refine(HWD.out _ l2 r2 sz.1 (.inr ⟨rfl,rfl⟩)).mono ?_
  rintro e w2 ⟨rfl,hp2⟩
  obtain⟨f2,v2,a2,n2⟩:=EPost.trans sz.2 (fun k hk=>.inl hk) hp2
  have ho:=HH.out.offSet HS.out
  have hs2:=HS.out.step f2 ho.1 ho.2
  have HT:=Hd (Prob.turn_set b gb i p 1 ps w2 hs2 HP.out)
  have HF2:=Hd f2
  have HA2:=Hd a2
  have HN2:=Hd n2
  have HS2:=Hd hs2
  clear sz hp2 f2 a2 n2 ho hs2 c0 c1 cf hwl hwr hwc
  go_wp2_with fail
  refine HT.out.mono ?_
  rintro e w3 ⟨rfl,f3,s3⟩
  have KEY:=Hd (BPost.of HS.out HF2.out HA2.out HN2.out HS2.out f3 s3)
  clear f3 s3
  go_wp2_with fail
  go_ret
  rw[HG.out,←HCT.out]
  exact⟨rfl,by simpa [HL2.out,HR2.out] using KEY.out⟩
end En
namespace En
open Mem Rc Win Lz
def G.halves(x:Nat):Nat→G→G
 |0,g=>g
 |n+1,g=>G.halves x n (g.half (x/2^n%2))
def K.halves(x:Nat):Nat→K→K
 |0,k=>k
 |n+1,k=>K.halves x n (k.half (x/2^n%2))
theorem Is.fit{g:G}{k:K}(h:Is g k)(hs:k.s≤1099511627776):g.Fit∧16777216≤g.rng∧g.rng<4294967296∧g.low+g.rng≤8589934592:=by
 have h1:=h.ab.low
 have h2:=h.ok.lo
 have h3:=h.ok.hi
 have h4:=h.rng
 have h5:=h.ab.s
 exact⟨⟨by omega,h.ab.held,by omega⟩,by omega,by omega,by omega⟩
theorem K.half_s(k:K)(b:Nat):(k.half b).s≤k.s+1:=by
 unfold K.half K.widen K.half0
 split<;>simp
theorem K.bit_s(k:K)(p b:Nat):(k.bit p b).s≤k.s+1:=by
 unfold K.bit K.widen K.cut
 split<;>split<;>simp
theorem and1_u32(a:Nat)(h:a<4294967296):bits BinOp.and IntKind.u32 (a:Int) 1=((a%2:Nat):Int):=by
 have h2:(BitVec.ofInt 32 (1:Int)).toNat=2^1-1:=by decide
 have h1:(BitVec.ofInt 32 (a:Int)).toNat=a:=by
  rw[BitVec.ofInt_natCast,BitVec.toNat_ofNat];exact Nat.mod_eq_of_lt (by omega)
 show IntKind.u32.wrap ((BitVec.ofInt 32 (a:Int)&&&BitVec.ofInt 32 (1:Int)).toNat:Int)=_
 rw[BitVec.toNat_and,h1,h2,Nat.and_two_pow_sub_one_eq_mod]
 exact IntWalk.u32_in _ (by omega)
theorem bit_at(x j:Nat)(h:x<4294967296):(bits BinOp.and IntKind.u32 ((x:Int)/2^j) 1==1)=decide (x/2^j%2=1):=by
 have e:(x:Int)/2^j=((x/2^j:Nat):Int):=by simp
 have hl:x/2^j≤x:=Nat.div_le_self _ _
 rw[e,and1_u32 _ (by omega)]
 generalize x/2^j%2=b
 rw[Bool.eq_iff_iff]
 simp
 omega
def DRel(B:Nat)(v:Value)(w:World)(fin:G)(x n:Nat)(wr:World):Prop:=∃g k,Is g k∧k.s+n≤1099511627776∧g.halves x n=fin∧EPost B v w g wr
theorem direct_calls{w:World}{B:Nat}{v:Value}{g:G}{k:K}(x n:Nat)(h:EAt w B v g)(hk:Is g k)(hs:k.s+n≤1099511627776)(hn:n≤32)(hx:x<4294967296):
 Calls Tryz.prog 344 #[ptr B,.int .u32 x,.int .i64 n] w fun e w'=>e=.returned (.int .i64 0)∧EPost B v w (g.halves x n) w':=by
 have HR:=Hd (show DRel B v w (g.halves x n) x n w from⟨g,k,hk,hs,rfl,h.same⟩)
 generalize g.halves x n=fin at*
 have hbit:=fun(j:Nat)(c:Nat)(hc:c=x/2^j%2)=>Hd (show(bits BinOp.and IntKind.u32 ((x:Int)/2^j) 1==1)=decide (c=1) from by rw[hc];exact bit_at x j hx)
 clear h hk hs g k
 go_enter Tryz.func344,Tryz.ntmps344
 go_wp2_with fail
 go_loopw [2](fun s2 wr=>∃j:Nat,j≤n∧s2=.int .i64 ((j:Int)-1)∧DRel B v w fin x j wr) (fun s2 _=>(intOf s2+1).toNat)
 case atStart=>exact⟨n,Nat.le_refl _,rfl,HR.out⟩
 case round=>
  obtain⟨j,hj,rfl,g,k,hk,hs,hfin,hp⟩:=hrel
  have HP:=Hd hp
  obtain⟨hfr,v1,ha,hnw⟩:=hp
  have HA:=Hd ha
  have HF:=Hd hfr
  have HN:=Hd hnw
  have HK:=Hd hk
  have HS:=Hd hs
  have HFIN:=Hd hfin
  have c0:wr.cell? ⟨B,0,none⟩=some (.int .u64 g.low):=cell_in ha.box rfl
  have c1:wr.cell? ⟨B,1,none⟩=some (.int .u32 g.rng):=cell_in ha.box rfl
  have cf:=fun i=>frozen_in ha.box i
  clear hfr ha hnw hk hs hfin
  rcases Nat.eq_zero_or_pos j with rfl|hj0
  ·have e:G.halves x 0 g=fin:=HFIN.out
   clear c0 c1 cf
   go_wp2_with fail
   go_ret
   rw[←e]
   exact⟨rfl,HP.out⟩
  ·obtain⟨m,rfl⟩:∃m,j=m+1:=⟨j-1,by omega⟩
   obtain⟨b,hb⟩:∃b,b=x/2^m%2:=⟨_,rfl⟩
   have hB:=(hbit m b hb).out
   have hb1:b≤1:=by omega
   have HB:=Hd hb
   obtain⟨f1,f2,f3,f4⟩:=HK.out.fit (by have:=HS.out;omega)
   obtain⟨h,hh⟩:∃h,h=g.rng/2:=⟨_,rfl⟩
   obtain⟨l2,hl2⟩:∃l,l=g.low+h:=⟨_,rfl⟩
   have hwh:(g.rng:Int)/2%4294967296=(h:Int):=by omega
   have hwc:IntKind.u64.wrap (h:Int)=(h:Int):=IntWalk.u64_in _ (by omega)
   have hwl:IntKind.u64.wrap ((g.low:Int)+(h:Int))=(l2:Int):=by rw[IntWalk.u64_in _ (by omega),hl2];rfl
   have HWD:=Hd (show∀(w1:World)(l:Nat),EAt w1 B v1 ⟨l,h,g.held,g.wait,g.out⟩→l=g.low+b*h→Calls Tryz.prog 347 #[ptr B] w1 fun e w'=>e=.returned (.tuple #[])∧EPost B v1 w1 (g.half b) w' from fun w1 l ha hl=>by
    have:=widen_calls ha ⟨by simp only;rcases(show b=0∨b=1 by omega) with rfl|rfl<;>omega,f1.held,f1.len⟩ (by simp only;omega) (by simp only;omega)
    unfold G.half
    rw[←hh,←hl]
    exact this)
   have HD:=Hd (show∀w2,EPost B v1 wr (g.half b) w2→DRel B v w fin x m w2 from fun w2 hp=>⟨_,_,HK.out.half hb1,by have:=HS.out;have:=K.half_s k b;omega,by rw[←HFIN.out,G.halves,hb],EPost.trans HF.out HN.out hp⟩)
   have s1:=EAt.set (g':=⟨g.low,h,g.held,g.wait,g.out⟩) HA.out 1 (.int .u32 h) rfl rfl
   have s2:=EAt.set (g':=⟨l2,h,g.held,g.wait,g.out⟩) s1.1 0 (.int .u64 l2) rfl rfl
   have HS1:=Hd s1
   have HS2:=Hd s2
   have HL2:=Hd hl2
   have d0:(wr.setCell ⟨B,1,none⟩ (.int .u32 h)).cell? ⟨B,0,none⟩=some (.int .u64 g.low):=cell_in s1.1.box rfl
   have d1:(wr.setCell ⟨B,1,none⟩ (.int .u32 h)).cell? ⟨B,1,none⟩=some (.int .u32 h):=cell_in s1.1.box rfl
   have df:=fun i=>frozen_in s1.1.box i
   clear f1 f2 f3 f4 hb hh hl2 s1 s2
   generalize g.low=L at c0 d0 hwl
   generalize g.rng=R at c1 hwh
   rcases(show b=0∨b=1 by omega) with rfl|rfl
   ·rw[show decide ((0:Nat)=1)=false from rfl] at hB
    go_wp2_with fail
    refine(HWD.out _ _ HS1.out.1 (by omega)).mono ?_
    rintro e w2 ⟨rfl,hp⟩
    have HP2:=Hd (HD.out w2 (EPost.trans HS1.out.2 (fun k hk=>.inl hk) hp))
    clear hp c0 c1 cf hwl hwh hwc d0 d1 df
    go_wp2_with fail
    go_roundw
    case rel=>exact⟨m,by omega,by go_num,HP2.out⟩
    case measure=>simp[intOf]
   ·rw[show decide ((1:Nat)=1)=true from rfl] at hB
    go_wp2_with fail
    go_region
    go_wp2_with fail
    refine(HWD.out _ l2 (HS2.out.1.keep (R0 _).drew (fun h=>h) (fun _ _ h=>h)) (by rw[HL2.out];omega)).mono ?_
    rintro e w2 ⟨rfl,hp⟩
    have HP2:=Hd (HD.out w2 (EPost.trans ((HS1.out.2.trans HS2.out.2).trans (Fr.refl (EF B v1) _).drew) (fun k hk=>.inl hk) hp))
    clear hp c0 c1 cf hwl hwh hwc d0 d1 df
    go_wp2_with fail
    go_roundw
    case rel=>exact⟨m,by omega,by go_num,HP2.out⟩
    case measure=>simp[intOf]
theorem fork_calls{w:World}{B:Nat}{v:Value}{g:G}(h:EAt w B v g)(h3:g.out.length+g.wait≤1099511627776):
    Calls Tryz.prog 121 #[ptr B] w fun e w'=>∃B',e=.returned (ptr B')∧w.heap.size≤B'∧Fr (fun _=>False) w w'∧∃v',EAt w' B' v' g∧∀k,v'.ownBlock=some k→w.heap.size≤k:=by
  obtain⟨p,cap,rfl⟩:=own_slice h.own
  have HH:=Hd h
  have H3:=Hd h3
  have c0:w.cell? ⟨B,0,none⟩=some (.int .u64 g.low):=cell_in h.box rfl
  have c1:w.cell? ⟨B,1,none⟩=some (.int .u32 g.rng):=cell_in h.box rfl
  have c2:w.cell? ⟨B,2,none⟩=some (.int .u8 g.held):=cell_in h.box rfl
  have c3:w.cell? ⟨B,3,none⟩=some (.int .i64 g.wait):=cell_in h.box rfl
  have c4:w.cell? ⟨B,4,none⟩=some (.slice p g.out.length cap):=cell_in h.box rfl
  have hBl:=lt_of_block h.box
  obtain⟨n,hn⟩:∃n,n=g.out.length:=⟨_,rfl⟩
  rw[←hn] at c4
  have hnb:n+g.wait≤1099511627776:=by omega
  have hmk:∀W:World,(Instr.makeSlice 22 (.int .i64 0) (.int .i64 ((n:Int)+g.wait+8))).run Tryz.prog W=.ok (.slice (some ⟨W.heap.size,0,none⟩) 0 (n+g.wait+8)) (W.alloc (.cells (madeCells [Value.int .u8 0].toArray (n+g.wait+8)) 5)):=fun W=>by
    rw[←make_bytes (n+g.wait+8) (by omega) W]
    rfl
  have hx1:=heap_alloc_new w (.cells (boxV g.low g.rng g.held g.wait (.slice p n cap)) 219)
  have hf1:=(R0 w).alloc (.cells (boxV g.low g.rng g.held g.wait (.slice p n cap)) 219)
  have HX1:=Hd hx1
  have HF1:=Hd hf1
  have HN:=Hd hn
  clear h h3 hn hx1 hf1
  go_enter Tryz.func121,Tryz.ntmps121
  go_wp2_with fail
  have HB:=Hd (show∀W,W=w.alloc (.cells #[.int .u64 g.low,.int .u32 g.rng,.int .u8 g.held,.int .i64 g.wait,.slice p n cap] 219)→W.heap.size=w.heap.size+1∧Fr (fun _=>False) w W∧W.heap[w.heap.size]? =some (.cells (boxV g.low g.rng g.held g.wait (.slice p n cap)) 219 (0,0))∧EAt W B (.slice p n cap) g from fun W hW=>by
    subst hW
    exact⟨by simp,HF1.out,HX1.out,by have:=HH.out.keep HF1.out (fun h=>h) (fun _ _ h=>h);rw[←HN.out] at this;exact this⟩)
  generalize hW:w.alloc (.cells #[.int .u64 g.low,.int .u32 g.rng,.int .u8 g.held,.int .i64 g.wait,.slice p n cap] 219)=W
  obtain⟨w1,w2,w3,w4⟩:=HB.out W hW.symm
  generalize hz:w.heap.size=z at*
  have HW1:=Hd w1
  have HW2:=Hd w2
  have HW3:=Hd w3
  have HW4:=Hd w4
  have HZ:=Hd hz
  have d3:W.cell? ⟨B,3,none⟩=some (.int .i64 g.wait):=cell_in w4.box rfl
  have d4:W.cell? ⟨B,4,none⟩=some (.slice p n cap):=cell_in w4.box rfl
  have d3':=alloc_keep d3 (.cells (madeCells [Value.int .u8 0].toArray (n+g.wait+8)) 5)
  have d4':=alloc_keep d4 (.cells (madeCells [Value.int .u8 0].toArray (n+g.wait+8)) 5)
  have HA:=Hd ((R0 W).drew.alloc (.cells (madeCells [Value.int .u8 0].toArray (n+g.wait+8)) 5))
  have HO:=Hd (show(W.drew.alloc (.cells (madeCells [Value.int .u8 0].toArray (n+g.wait+8)) 5)).ownsRow 0 5 1 (.slice (some ⟨W.heap.size,0,none⟩) 0 (n+g.wait+8)) 0 [] from World.ownsRow_made W.drew _ (n+g.wait+8) (Nat.zero_le _) (by simp only[maxLen];omega) (by rw[size_madeCells,Nat.mul_one]))
  have HRD:=Hd (Rd.of_own (w4.keep HA.out (fun h=>h) (fun _ _ h=>h)).own)
  clear w1 w2 w3 w4 c0 c1 c2 c3 c4 hz hW HB HF1 HX1
  have hwa:IntKind.i64.wrap ((n:Int)+g.wait)=(n:Int)+g.wait:=IntWalk.i64_in _ (by omega)
  have hwb:IntKind.i64.wrap ((n:Int)+g.wait+8)=(n:Int)+g.wait+8:=IntWalk.i64_in _ (by omega)
  go_region_law (refine step_own rfl _ _ rfl (.slice (some ⟨W.heap.size,0,none⟩) 0 (n+g.wait+8)) (.slice p n cap) [] g.out (by simp[Act.eval,Act.put]) (by simp[Act.eval,Act.put]) HO.out HRD.out (by have:=HN.out;simp only[List.length_nil];omega) ?_
                 intro v2 w2 hown2 hfr2 hnew2
                 obtain⟨p2,cap2,hv2⟩:=own_slice hown2
                 generalize([]++g.out).length=n2 at hv2
                 subst hv2
                 have hb2:=hfr2.keep (HA.out.keep HW3.out (fun h=>h)) (fun e=>by simp only[Value.ownBlock,Option.some.injEq] at e;have:=HW1.out;omega)
                 have HOWN:=Hd hown2
                 have HFR:=Hd hfr2
                 have HNEW:=Hd hnew2
                 have HB2:=Hd hb2
                 have z4:=cell_in (i:=4) hb2 rfl
                 have zf:=frozen_in hb2 4
                 clear hown2 hfr2 hnew2 hb2)
  all_goals
    go_wp2_with fail
    go_ret
    have hnw:∀k,(Value.slice p2 n2 cap2).ownBlock=some k→W.heap.size≤k:=fun k hk=>by
      rcases HNEW.out k hk with e|e
      · simp only[Value.ownBlock,Option.some.injEq] at e
        omega
      · exact Nat.le_trans HA.out.size e
    have hf2:=(HA.out.trans' HFR.out (fun k hk e=>by simp only[Value.ownBlock,Option.some.injEq] at e;omega))
    refine⟨z,rfl,by have:=HZ.out;omega,(HW2.out.trans hf2).trans' (Fr.one w2 z 4 _) (fun k hk e=>by have:=HZ.out;omega),_,⟨?_,own_step HOWN.out (Fr.one w2 z 4 _) (fun k hk e=>by have:=hnw k hk;have:=HW1.out;omega)⟩,fun k hk=>by have:=hnw k hk;have:=HW1.out;have:=HZ.out;omega⟩
    rw[set_in HB2.out 4]
    rfl
end En
end Go.Proofs.YtffoddpjfgjelaaGreatDoor
