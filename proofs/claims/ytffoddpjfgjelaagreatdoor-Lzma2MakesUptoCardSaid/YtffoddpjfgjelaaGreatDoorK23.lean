/- Part 23 of 54: lemmas of the last part, each under the conditions that it names. -/
import Derived.RangeFuncNested
import Derived.RangeFuncBound
import Derived.RangeFuncCalls
import Derived.RangeFuncLeaves
import Derived.Shelf.Abstract
import Derived.Shelf.RegionOpen
import Derived.OwnWalkIn
import Derived.TacticsInMore
import Derived.LoopNIn
import Derived.LoopIn
import Derived.RangeFuncBox
import Derived.Deep.CutBlock
import Derived.Deep.DeepCutAuto
import Derived.Deep.RegionHeld3
import Derived.Test.YtffoddpjfgjelaaGreatDoorK10
import Derived.Test.YtffoddpjfgjelaaGreatDoorK11
set_option linter.unusedVariables false
set_option linter.unusedSimpArgs false
set_option maxRecDepth 1500
set_option maxHeartbeats 4000000
namespace Go.Proofs.YtffoddpjfgjelaaGreatDoor
open Go.RowKit Go.Shelf
namespace Fi
open Mem Win
attribute [local go_sem] Oper.semAt_some
structure MOk(data:List UInt8)(dict p most:Nat)(x:Nat×Nat):Prop where
 d1:1≤x.2
 dp:x.2≤p
 dd:x.2≤dict
 le:x.1≤most
 fit:p+x.1≤data.length
 run:∀j,j<x.1→data[p+j]? =data[p+j-x.2]?
abbrev Mt(data:List UInt8)(dict p most:Nat):Type:={x:Nat×Nat//MOk data dict p most x}
set_option maxRecDepth 100000 in
theorem slice_hI(p:Option Addr)(n a b:Nat)(e:b≤a)(W:World):
 (Instr.slice 94 (.slice p n a) none (some (.int .i64 (b:Int))) none).run Tryz.prog W=.ok (.slice p b a) W:=by
 obtain⟨i,c,f,d,_⟩:=info_parts infoInt;rw[run_slice_h (P:=Tryz.prog) W 94 p n a Tryz.underlying94 .i64 b (by omega) (by omega)];cases p<;>simp[sizeOf,typeInfo,c,d,Result.andThen,sliced,Addr.add,show Tryz.prog.elem 94=3 by kernel_rfl]
theorem grown_fr{w w':World}(h:Fr (fun _=>False) w w'):w.grownBy w' none:=⟨h.os,h.tape,h.output,h.size,fun i a _=>h.block i a (fun h=>h)⟩
abbrev KpF(S0:Nat→Prop)(N:Nat)(W W':World):Prop:=Fr (fun k=>S0 k∨N≤k) W W'
set_option maxRecDepth 100000 in
theorem matches_stops(n G F Bm M B dict p most:Nat)(data:List UInt8)(dv:Value)(wo w:World)(f:Nat→Prop)(h:FiAt wo G data dict p dv M B)(e5:Fr (fun k=>wo.heap.size≤k) wo w)(g5:∀k,f k→wo.heap.size≤k)(e1:¬f F)(h5:¬f Bm)(hf:w.cell? ⟨F,0,none⟩=some (ptr G))(hm:w.cell? ⟨Bm,0,none⟩=some (.int .i64 most))(hp:p+most≤data.length)(hb:data.length≤1099511627776)(hd:dict≤4294967295)(i6:most≤273):
 SeqStopsK Fence.wide n Tryz.prog 263 #[ptr F,ptr Bm] (fun x:Mt data dict p most=>#[Value.agg #[.int .i64 (x.1.1:Nat),.int .i64 (x.1.2:Nat)]]) (KpF f w.heap.size) (fun xs=>xs.map (·.1)=Px.mtsM data dict p most) (fun _=>True) (data.length+1) w:=fun l J Jx W hW Z j0 hY h0=>by
 have L:KpF f w.heap.size w W:=Fr.of_below hW _;have j5:=e5.size;have C:=Hd (show∀d:World,KpF f w.heap.size w d→Fr (fun k=>wo.heap.size≤k) wo d from fun d hk=>e5.trans' hk (fun k a9 hs=>hs.elim (fun h=>g5 k h) (fun h=>by omega)));have b7:=Hd (show∀d:World,KpF f w.heap.size w d→FiAt d G data dict p dv M B from fun d hk=>h.keep (C.out d hk) (fun k h1 h2=>by omega));have b6:=Hd (show∀d:World,KpF f w.heap.size w d→d.cell? ⟨F,0,none⟩=some (ptr G) from fun d hk=>by
  have a9:=block_lt_of_cell hf;simp only at a9;rw[World.cell?_of_block (w:=w) (hk.block F a9 (fun h=>h.elim e1 (fun h=>by omega)))];exact hf)
 have H0:=Hd h;have HH:=Hd (b7.out W L);have HC:=Hd (show W.cell? ⟨F,0,none⟩=some (ptr G)∧W.cell? ⟨Bm,0,none⟩=some (.int .i64 most) from⟨b6.out W L,(hW.cell (p:=⟨Bm,0,none⟩) (block_lt_of_cell hm)).trans hm⟩);obtain⟨a,a4,rfl,i7⟩:=h.dslice;obtain⟨cf,cm⟩:=HC.out;obtain⟨c0,c1,c2,c3⟩:=cs4 HH.out.box rfl rfl rfl rfl;clear h hf hm e1 h5;have j1:Tryz.prog.follows .mixedOrders=true:=by kernel_rfl
 refine callsIn_of_wp Tryz.func263 rfl trivial ?_ rfl;simp only[Tryz.ntmps263,List.size_toArray,List.length_cons,List.length_nil,Nat.reduceAdd,Nat.reduceSub,Array.replicate_succ,Array.replicate_zero,List.push_toArray,List.append_toArray,List.nil_append,List.cons_append];have hw:IntKind.i64.wrap ((data.length:Int)-(p:Int))=(data.length:Int)-(p:Int):=IntWalk.i64_in _ (by omega);have m1:(most:Int)≤273:=by omega
 have m2:(most:Int)≤(data.length:Int)-(p:Int):=by omega
 have a1:=Hd h0;have f3:=Hd (R0 W);have g1:=Hd hY;clear h0 hY;gi_wp2;gi_quiet_th (fail);generalize nq=q1 at*;by_cases h3:(3:Int)≤(most:Int)
 ·obtain⟨g,cp,e,O⟩:=HH.out.bytes (by omega)
  simp only[Value.slice.injEq,true_and] at e;obtain⟨rfl,rfl⟩:=e;obtain⟨x0,b2⟩:∃x,data[p]? =some x:=⟨data[p],by simp⟩;obtain⟨x1,b3⟩:∃x,data[p+1]? =some x:=⟨data[p+1],by simp⟩;obtain⟨x2,b4⟩:∃x,data[p+2]? =some x:=⟨data[p+2],by simp⟩;have d0:W.cell? ⟨g,p,none⟩=some (.int .u8 x0.toNat):=O _ _ b2;have d1:W.cell? ⟨g,p+1,none⟩=some (.int .u8 x1.toNat):=O _ _ b3;have d2:W.cell? ⟨g,p+2,none⟩=some (.int .u8 x2.toNat):=O _ _ b4;have e2:=slice_l (some ⟨g,0,none⟩) data.length a4 p (by omega);rw[show dropP (some ⟨g,0,none⟩) a4 p=some ⟨g,p,none⟩ by unfold dropP;rw[if_neg (by omega)];simp[add_mid]] at e2;have d3:=array_at (some ⟨g,p,none⟩) (data.length-p) (a4-p) (by omega);obtain⟨kl,d6⟩:=word_key x0 x1 x2;obtain⟨v,R,t⟩:=H0.out.map.look d6;have A:=Hd (wkey_eq b2 b3 b4);obtain⟨o,E⟩:∃o,wl data data.length (wordV x0 x1 x2)=o:=⟨_,rfl⟩;have b1:Up data.length o:=E ▸ wl_up _ _ _;have j9:o.length≤data.length:=E ▸ wl_len _ _ _;rw[E] at t;have a3:=Hd E;clear E;obtain⟨va,vc,rfl,j6,j7,e4⟩:=t.slice;have a5:W.heap[M]? =wo.heap[M]? :=by
   obtain⟨es,c,d9⟩:=H0.out.map;exact(C.out W L).block M (lt_of_block d9.box) (fun h=>by have:=lt_of_block d9.box;omega)
  simp only[wordV,bv] at R;have d7:∀m,(Instr.lookup 313 (.map (some M)) (.agg #[.int .u8 x0.toNat,.int .u8 x1.toNat,.int .u8 x2.toNat]) false).run Tryz.prog (W.drewN m)=.ok (.slice va o.length vc) (W.drewN m):=fun m=>R _ a5;have d8:∀k m,(Instr.lookup 313 (.map (some M)) (.agg #[.int .u8 x0.toNat,.int .u8 x1.toNat,.int .u8 x2.toNat]) false).run Tryz.prog ((W.drewN k).drewN m)=.ok (.slice va o.length vc) ((W.drewN k).drewN m):=fun k m=>R _ a5;have HV:=Hd t;have f9:=Hd e4;have i8:=Hd b1;have g0:=Hd L;have HZ:=Hd (show∀d:World,KpF f w.heap.size w d→VRow d (.slice va o.length vc) o from fun d hk=>t.step (C.out d hk) (fun k hkk hs=>by
   obtain⟨cs,hc⟩:=t.block hkk;have:=lt_of_block hc;omega))
  have HS:=fun d(hb:KpF f w.heap.size w d)=>Hd (searchInts_calls _ o data.length p d (HZ.out d hb) b1 (by omega));clear O b2 b3 b4 R t b1 d6 e4;gi_wp2;gi_quiet_th (fail);gi_wp2;have a6:KpF f w.heap.size w (W.drewN (q1+nq)):=g0.out.drewN _;have b8:=Hd (Z _ _ (W.drewN (q1+nq)) none a1.out ⟨rfl,rfl,rfl,Nat.le_refl _,fun _ _ _=>rfl⟩ (fun r e=>by cases e));have c4:=HS _ a6;clear d0 d1 d2 e2 d3 d7 d8 a5 c0 c1 c2 c3 cf cm HS;generalize W.drewN (q1+nq)=W2 at*;refine⟨trivial,fun h=>by simp[Fence.wide] at h,(callsIn_wide.2 c4.out).mono ?_⟩;rintro e W3 ⟨a7,k,rfl,hk,a8,d5⟩;have U:Hid (((o.take k).reverse.map fun z=>p-z)=Px.alls data p):=Hd (by
   have e:=Px.alls_map (D:=data) (p:=p) (k:=k) (by omega) (by rw[A.out,a3.out];exact a8) (by rw[A.out,a3.out];exact d5);rw[A.out,a3.out] at e;exact e)
  have b5:Hid ((Px.alls data p).length=k):=Hd (by
   rw[←U.out,List.length_map,List.length_reverse,List.length_take];omega)
  have e8:Hid (∀j z m,j+1+m=k→o[j]? =some z→(Px.alls data p)[m]? =some (p-z)):=Hd (fun j z m hj hz=>by
   rw[←U.out,List.getElem?_map,List.getElem?_reverse (by rw[List.length_take];omega),List.length_take,List.getElem?_take,if_pos (by omega),show min k o.length-1-m=j by omega,hz];rfl)
  have b9:=Hd (show¬most<3 by omega);clear d5;have h8:=slice_hI va o.length vc k (by omega);gi_wp2;have f5:=Hd (Z _ _ W3 none b8.out (grown_fr a7) (fun r e=>by cases e));have e9:=Hd (a6.trans (a7.mono (T:=fun k=>f k∨w.heap.size≤k) (fun _ _ h=>h.elim)));clear a6 a7 b8 c4 h8 a1 f3 HC HH;gi_loopw [7] (fun s7 wr=>∃(s:Int)(b:List (Mt data dict p most)),s7=.int .i64 s∧-1≤s∧s<(k:Int)∧(b.length:Int)+s+1=(k:Int)∧(b.length≤32∧Hid (Px.Got data dict p most (b.map (·.1))))∧J b wr∧KpF f w.heap.size w wr) (fun s7 _=>(intOf s7+1).toNat);case atStart=>exact⟨(k:Int)-1,[],rfl,by omega,by omega,by simp only[List.length_nil];omega,⟨by simp,Hd Px.Got.nil⟩,f5.out,e9.out⟩
  case round=>
   obtain⟨s,b,rfl,j2,j3,j4,⟨g4,HG⟩,c8,c6⟩:=hrel;have H:=Hd c8;have u:=Hd c6;clear c8 c6;have j8:IntKind.i64.wrap ((k:Int)-32)=(k:Int)-32:=IntWalk.i64_in _ (by omega);obtain⟨X,c9,hX⟩:∃X:Int,(if(32:Int)<(k:Int) then(k:Int)-32 else 0)=X∧0≤X:=⟨_,rfl,by split<;>omega⟩;by_cases N:X≤s
   ·have g8:decide (X≤s)=true:=decide_eq_true N
    obtain⟨j,rfl⟩:=Int.eq_ofNat_of_zero_le (Int.le_trans hX N);have g9:j<k:=by omega
    have h4:j<o.length:=by omega
    obtain⟨z,hz⟩:∃z,o[j]? =some z:=⟨o[j],by simp[h4]⟩;obtain⟨g2,rfl,i0⟩:=f9.out (by omega);have a2:=Hd (b7.out wr u.out);have q0:wr.cell? ⟨g2,j,none⟩=some (.int .i64 z):=(by
     obtain⟨k3,i9,e',_,_,h9⟩:=(HZ.out wr u.out).slice;obtain⟨g3,e3,g6⟩:=h9 (by omega);simp only[Value.slice.injEq] at e';rw[←e'.1] at e3;simp only[Option.some.injEq,Addr.mk.injEq,and_true] at e3;rw[e3];exact g6 j z hz)
    have q1:wr.cell? ⟨F,0,none⟩=some (ptr G):=b6.out wr u.out;have q2:=cell_in (i:=1) a2.out.box rfl;have k0:=a8 j z g9 hz;have V:=Hd (e8.out j z b.length (by omega) hz);have Y:=Hd (show b.length<32 by split at c9<;>omega);have i1:(0:Int)≤(j:Int):=by omega
    have i2:(j:Int)<(k:Int):=by omega
    have i3:IntKind.i64.wrap ((p:Int)-(z:Int))=(p:Int)-(z:Int):=IntWalk.i64_in _ (by omega);clear hX N a8 i0 hz;by_cases d4:(p:Int)-(z:Int)≤(dict:Int)
    ·have g7:decide ((p:Int)-(z:Int)≤(dict:Int))=true:=decide_eq_true d4
     gi_wp2;gi_quiet (fail);gi_wp2;have Q:=(R0 wr).drewN nq;have p0:(wr.drewN nq).cell? ⟨g2,j,none⟩=some (.int .i64 z):=q0;have p1:(wr.drewN nq).cell? ⟨F,0,none⟩=some (ptr G):=q1;have f6:=Hd (Z _ _ (wr.drewN nq) none H.out (grown_fr Q) (fun r e=>by cases e));have f1:=Hd (u.out.trans (Q.mono (T:=fun k=>f k∨w.heap.size≤k) (fun _ _ h=>h.elim)));have f2:=Hd (a2.out.still Q);clear q0 q1 q2 Q H u a2;generalize wr.drewN nq=wq at*;have f7:=Hd (fun m=>long_calls G dict p z p most M B data _ (wq.drewN m) (f2.out.still ((R0 wq).drewN m)) (by omega) hp hb);have k1:wq.drew.cell? ⟨g2,j,none⟩=some (.int .i64 z):=p0;have k2:wq.drew.cell? ⟨F,0,none⟩=some (ptr G):=p1;have I:=Hd (show(-1:Int)≤(j:Int)-1∧(j:Int)-1<(k:Int)∧(∀x:Mt data dict p most,(((b++[x]).length:Nat):Int)+((j:Int)-1)+1=(k:Int))∧(intOf (Value.int .i64 ((j:Int)-1))+1).toNat<(intOf (Value.int .i64 (j:Int))+1).toNat from
      ⟨by omega,by omega,fun x=>by rw[List.length_append,List.length_singleton];omega,by simp only[intOf];omega⟩)
     have i4:Fence.wide.fn 265:=trivial;have i5:Fence.wide.depth=none:=rfl;gi_region_with_o (first
      | (gi_at_call 265
         refine((callsIn_wide (n:=n-1)).2 (f7.out 1)).mono ?_;rintro e w5 ⟨P,S,rfl,e0,b0,e6⟩;have a0:S=Px.run data p (p-z) most:=Px.IsRun.uniq ⟨e0,fun i hi=>by rw[b0 i hi];congr 1;omega,fun h=>by
          have h1:=e6 h;rw[show z+S=p+S-(p-z) by omega] at h1;exact h1⟩ (Px.run_is _ _ _ _)
         have f4:Hid (∀q,Px.Got data dict p most ((b++[(⟨(S,p-z),q⟩:Mt data dict p most)]).map (·.1))):=Hd (fun q=>by
          rw[List.map_append];simp only[List.map_cons,List.map_nil];rw[a0];refine HG.out.step ?_ (by omega);rw[List.length_map];exact V.out)
         clear a0 e6;have p5:w5.cell? ⟨g2,j,none⟩=some (.int .i64 z):=by
          rw[World.cell?_of_block (P.block g2 (block_lt_of_cell p0) (fun h=>h))];exact p0
         have c7:=Z _ _ w5 none (Z _ _ wq.drew none f6.out (grown_fr (R0 wq).drew) (fun r e=>by cases e)) (grown_fr P) (fun r e=>by cases e);have f0:=Hd (f1.out.trans (((R0 wq).drew.trans P).mono (T:=fun k=>f k∨w.heap.size≤k) (fun _ _ h=>h.elim)));have q:MOk data dict p most (S,p-z):=⟨by simp only;omega,by simp only;omega,by simp only;omega,e0,by simp only;omega,fun i hi=>by simp only at hi ⊢;rw[b0 i hi];congr 1;omega⟩;obtain⟨fn,e7,K,c5,hy,hR⟩:=g1.out b ⟨(S,p-z),q⟩ w5 c7 (by omega);simp only[show((p-z:Nat):Int)=(p:Int)-(z:Int) by omega] at hy;have f8:Hid (RoundIn Fence.wide (n-1) Tryz.prog l fn e7 K c5 w5 fun e W6=>∃bb:Bool,e=.returned (.bool bb)∧(bb=true→J (b++[⟨(S,p-z),q⟩]) W6∧KpF f w.heap.size w5 W6)∧(bb=false→Jx (b++[⟨(S,p-z),q⟩]) W6)):=Hd (hR.mono (by
          rintro e W6 (⟨rfl,h1,h2⟩|⟨rfl,h1⟩)
          ·exact⟨true,rfl,fun _=>⟨h1,h2⟩,(fun h=>(by cases h))⟩
          ·exact⟨false,rfl,(fun h=>(by cases h)),fun _=>h1⟩))
         clear hR c7 P b0)
      | (refine f8.out.mono ?_
         rintro e W6 ⟨bb,rfl,h6,h7⟩;have H6:=Hd h6;have H7:=Hd h7;clear h6 h7))
     all_goals
      cases bb
      ·gi_wp2
       refine bodyPost_ret (results_none rfl _ _ _) rfl ?_;exact⟨⟨_,rfl⟩,.inr ⟨_,H7.out trivial⟩⟩
      ·obtain⟨h6,h7⟩:=H6.out rfl
       gi_wp2;go_roundw
       ·exact⟨(j:Int)-1,b++[⟨(S,p-z),q⟩],rfl,I.out.1,I.out.2.1,I.out.2.2.1 _,⟨by rw[List.length_append,List.length_singleton];exact Y.out,Hd (f4.out _)⟩,h6,f0.out.trans h7⟩
       ·exact I.out.2.2.2
    ·have g7:decide ((p:Int)-(z:Int)≤(dict:Int))=false:=decide_eq_false d4
     have y:=Hd (show b.map (·.1)=Px.mtsM data dict p most from HG.out.far b9.out (by rw[List.length_map];exact Y.out) (by rw[List.length_map];exact V.out) (by omega));gi_wp2;gi_quiet (fail);gi_wp2;go_end0;exact⟨⟨_,rfl⟩,.inl ⟨b,y.out,Z _ _ _ none H.out (grown_fr ((R0 wr).drewN _)) (fun r e=>by cases e)⟩⟩
   ·have g8:decide (X≤s)=false:=decide_eq_false N
    have y:=Hd (show b.map (·.1)=Px.mtsM data dict p most from HG.out.full b9.out (by rw[List.length_map];exact g4) (by rw[List.length_map,b5.out];split at c9<;>omega));gi_wp2;gi_quiet (fail);gi_wp2;go_end0;exact⟨⟨_,rfl⟩,.inl ⟨b,y.out,Z _ _ _ none H.out (grown_fr ((R0 wr).drewN _)) (fun r e=>by cases e)⟩⟩
 ·gi_wp2
  refine bodyPost_ret (results_none rfl _ _ _) rfl ?_;exact⟨⟨_,rfl⟩,.inl ⟨[],by unfold Px.mtsM;rw[if_pos (by omega)];rfl,Z _ _ _ none a1.out ⟨rfl,rfl,rfl,Nat.le_refl _,fun _ _ _=>rfl⟩ (fun r e=>by cases e)⟩⟩
end Fi
namespace Fi
open Mem Win
attribute [local go_sem] Oper.semAt_some
theorem matches_calls(a most:Nat)(w:World):
 Calls Tryz.prog 235 #[ptr a,.int .i64 most] w fun e b=>e=.returned (.func (.func 263) #[] #[ptr w.heap.size,ptr (w.heap.size+1)])∧b=(w.alloc (.cells #[ptr a] 233)).alloc (.cells #[.int .i64 most] 3):=by
 go_enter Tryz.func235,Tryz.ntmps235;go_wp2_with fail;go_ret;exact⟨rfl,rfl⟩
theorem fr_own{a:World}{B:Nat}(b:a.heap.size≤B){β:Type}:OwnFrom B (fun(_:β) W=>Fr (fun k=>a.heap.size≤k) a W):=
 fun _ _ _ _ f c d=>f.grown c (fun k e=>.inl (Nat.le_trans b (d k e).1))
theorem cells_own{B b:Nat}{β:Type}(f:β→Array Value)(t:TypeId):OwnFrom B (fun(s:β) W=>W.heap[b]? =some (.cells (f s) t (0,0))):=
 fun s W j i a g h=>(g.block b (lt_of_block a) (fun e=>by
  obtain⟨_,o,c,d⟩:=h b e.symm;rw[a] at c;cases c
  cases d)).trans a
theorem kpf_t{a:Nat→Prop}{N:Nat}{A B C:World}(h:KpF a N A B)(k:KpF a N B C):KpF a N A C:=Fr.trans h k
theorem kpf_b{b:Nat→Prop}{N:Nat}(W:World)(l:Nat)(o a:Obj)(c:N≤l)(h:W.heap[l]? =some o)(_:o.isCells=false)(_:o.isWalk=false):KpF b N W (W.putObj l a):=
 (Fr.refl _ W).grown (grownBy_putObj' W l a) (fun k e=>by cases e;exact .inl (.inr c))
def Good(data:List UInt8)(dict p most n d:Nat):Prop:=n=0∨MOk data dict p most (n,d)
set_option maxRecDepth 100000 in
theorem best_calls(j M B dict p most:Nat)(data:List UInt8)(dv:Value)(w:World)(h:FiAt w j data dict p dv M B)(hp:p+most≤data.length)(hb:data.length≤1099511627776)(hd:dict≤4294967295)(I:most≤273):
 Calls Tryz.prog 182 #[ptr j,.int .i64 most] w fun e w'=>Fr (fun _=>False) w w'∧∃n d:Nat,e=.returned (.agg #[.int .i64 n,.int .i64 d])∧Good data dict p most n d∧(n,d)=Px.bestM (Px.mtsM data dict p most):=by
 have O:=heap_alloc_new w (.cells #[.int .i64 0,.int .i64 0] 310);have J:=(R0 w).alloc (.cells #[.int .i64 0,.int .i64 0] 310);have HH:=Hd h;have a8:Tryz.prog.follows .mixedOrders=true:=by kernel_rfl
 refine(callsIn_wide (n:=5)).1 ?_;refine callsIn_of_wp_marks Tryz.func182 rfl trivial ?_ rfl;simp only[Tryz.ntmps182,List.size_toArray,List.length_cons,List.length_nil,Nat.reduceAdd,Nat.reduceSub,Array.replicate_succ,Array.replicate_zero,List.push_toArray,List.append_toArray,List.nil_append,List.cons_append];have a3:Fence.wide.fn 235:=trivial;have a4:Fence.wide.depth=none:=rfl;gi_wp2_with (gi_at_call 235;refine(callsIn_wide.2 (matches_calls j most _)).mono ?_;rintro e w' ⟨rfl,rfl⟩);have L:=(J.alloc (.cells #[ptr j] 233)).alloc (.cells #[.int .i64 most] 3);have E:=(((R0 _).alloc (.cells #[ptr j] 233)).alloc (.cells #[.int .i64 most] 3)).keep O (fun h=>h);have v:=((R0 _).alloc (.cells #[.int .i64 most] 3)).keep (heap_alloc_new (w.alloc (.cells #[.int .i64 0,.int .i64 0] 310)) (.cells #[ptr j] 233)) (fun h=>h);have y:=heap_alloc_new ((w.alloc (.cells #[.int .i64 0,.int .i64 0] 310)).alloc (.cells #[ptr j] 233)) (.cells #[.int .i64 most] 3);have a2:(((w.alloc (.cells #[.int .i64 0,.int .i64 0] 310)).alloc (.cells #[ptr j] 233)).alloc (.cells #[.int .i64 most] 3)).heap.size=w.heap.size+3:=by simp
 simp only[World.size_alloc] at v y;clear J O;generalize((w.alloc (.cells #[.int .i64 0,.int .i64 0] 310)).alloc (.cells #[ptr j] 233)).alloc (.cells #[.int .i64 most] 3)=W0 at*;obtain⟨a,z⟩:∃a,w.heap.size=a:=⟨_,rfl⟩;rw[z] at E v y a2;rw[z];have m:=Hd z;clear z;refine wpIn_rangeFunc_ownH rfl (by omega) (gf:=263) (lb:=#[ptr (a+1),ptr (a+1+1)]) rfl trivial (enters_of Tryz.func263 (by kernel_rfl) rfl)
  (matches_stops (5-1) j (a+1) (a+1+1) M B dict p most data dv w W0 (fun k=>k=a) h (L.mono (fun _ _ h=>h.elim)) (fun k e=>by have:=m.out;omega) (by omega) (by omega) (cell_in (i:=0) v rfl) (cell_in (i:=0) y rfl) hp hb hd I)
  kpf_t (fun W l o o' hl=>kpf_b W l o o' hl) (Below.refl _ _) (fun _=>rfl)
  (fun(g:List (Mt data dict p most)) W=>(∃n d:Nat,W.heap[a]? =some (.cells #[.int .i64 n,.int .i64 d] 310 (0,0))∧Good data dict p most n d∧Hid ((n,d)=Px.bestM (g.map (·.1))))∧Fr (fun k=>w.heap.size≤k) w W∧W0.heap.size≤W.heap.size)
  (fun _ _ _=>False) ?hI (fun _ _ _ _ _ h _ _=>h) ⟨⟨0,0,E,.inl rfl,Hd rfl⟩,L.mono (fun _ _ h=>h.elim),Nat.le_refl _⟩
  (fun(x:Mt data dict p most) T W=>∃F,W0.heap.size≤F∧W.heap[F]? =some (.cells #[.int .i64 (x.1.1:Nat),.int .i64 (x.1.2:Nat)] 310 (0,0))∧T={tmps:=#[ptr j,.int .i64 most,undef,undef,ptr a,ptr F,ptr j,.int .i64 most,.func (.func 263) #[] #[ptr (a+1),ptr (a+1+1)],.agg #[.int .i64 (x.1.1:Nat),.int .i64 (x.1.2:Nat)],undef,undef,undef,undef,undef,undef,undef],defers:=[]})
  ?hAx ?assign ?body ?done ?stop
 case hI=>
  intro g W Q A hs t N;obtain⟨⟨n,d,U,V,X⟩,Y,h4⟩:=hs;exact⟨⟨n,d,cells_own (B:=W0.heap.size) (b:=a) (fun(_:Unit)=>#[Value.int .i64 (n:Int),.int .i64 (d:Int)]) 310 () W Q A U t N,V,X⟩,fr_own (B:=W0.heap.size) (by have:=m.out;omega) () W Q A Y t N,Nat.le_trans h4 t.size⟩
 case hAx=>
  intro x T s W Q A hs t N;obtain⟨F,U,V,Y⟩:=hs;exact⟨F,U,cells_own (B:=W0.heap.size) (b:=F) (fun(_:Unit)=>#[Value.int .i64 (x.1.1:Nat),.int .i64 (x.1.2:Nat)]) 310 () W Q A V t N,Y⟩
 case assign=>
  rintro l g x W K hi R;obtain⟨⟨n,d,C,t,G⟩,f,q⟩:=hi;have HK:=Hd R;clear R;gi_wp2;exact HK.out _ _ ((KeepsOthers.alloc _ _).from _) ((Fr.refl _ W).alloc _) ⟨⟨n,d,((R0 W).alloc _).keep C (fun h=>h),t,G⟩,f.alloc _,by rw[World.size_alloc];omega⟩ ⟨W.heap.size,q,heap_alloc_new _ _,rfl⟩
 case body=>
  rintro l g x T W hl ⟨r,N⟩ ⟨⟨n,d,C,t,G⟩,f,q⟩ ⟨F,a5,hx,rfl⟩ a7;obtain⟨x0,x1⟩:=cs2 hx rfl rfl;obtain⟨c0,c1,cf⟩:=cf2 C rfl rfl;have H:=Hd (show Px.bestM ((g++[x]).map (·.1))=if n<x.1.1 then x.1 else(n,d) by
   rw[List.map_append];simp only[List.map_cons,List.map_nil];rw[Px.bestM_snoc,←G.out])
  by_cases a6:(n:Int)<((x.1.1:Nat):Int)
  ·gi_wp2
   have u:w.heap.size≤a:=by have:=m.out;omega
   exact⟨((KeepsOthers.setCell _ _ _).trans (KeepsOthers.setCell _ _ _)).from _,((Fr.refl _ W).setCell (p:=⟨a,0,none⟩) (.inl (.inl rfl)) _).setCell (p:=⟨a,1,none⟩) (.inl (.inl rfl)) _,⟨_,_,set_in (set_in C 0 _) 1 _,.inr x.2,Hd (by rw[H.out,if_pos (by omega)])⟩,(f.setCell (p:=⟨a,0,none⟩) (.inl u) _).setCell (p:=⟨a,1,none⟩) (.inl u) _,by simpa [World.setCell] using q⟩
  ·gi_wp2
   exact⟨KeepsFrom.refl _ _,Fr.refl _ _,⟨n,d,C,t,Hd (by rw[H.out,if_neg (by omega)])⟩,f,by first|exact q|omega⟩
 case done=>
  rintro D xs W hD P ⟨⟨n,d,C,t,G⟩,f,q⟩ R;have S:=Hd P;clear P;obtain⟨c0,c1,cf⟩:=cf2 C rfl rfl;gi_wp2;have u:w.heap.size≤a:=by have:=m.out;omega
  have Z:=((KeepsOthers.setCell W ⟨a,0,none⟩ (.int .i64 n)).trans (KeepsOthers.setCell _ ⟨a,1,none⟩ (.int .i64 d))).same D _ R rfl;have a0:=set_in (set_in C 0 (.int .i64 n)) 1 (.int .i64 d);have a1:=(f.setCell (p:=⟨a,0,none⟩) (.inl u) (.int .i64 n)).setCell (p:=⟨a,1,none⟩) (.inl u) (.int .i64 d);refine⟨by simp,.inl ⟨_,_,rfl,run_takeDeferred Z,?_⟩⟩;refine⟨_,results_cell_row rfl _ _ a 310 #[.int .i64 n,.int .i64 d] (0,0) _ rfl ((World.putObj_heap_other (by omega)).trans a0) Tryz.underlying310 rfl (by kernel_rfl),?_⟩;refine⟨(a1.grown (grownBy_putObj' _ D _) (fun k e=>by cases e;exact .inl (by have:=m.out;omega))).mono (fun k hk h=>by omega),n,d,rfl,t,by rw[←S.out];exact G.out⟩
 case stop=>
  rintro D c g W _ _ h _;exact h.elim
end Fi
end Go.Proofs.YtffoddpjfgjelaaGreatDoor
namespace Go.Proofs.YtffoddpjfgjelaaGreatDoor
open Go.RowKit
namespace Ps
open Mem Win St Fi Pk
structure PcAt(w:World)(P tp dict:Nat)(pv fv:Value)(data:List UInt8):Prop where
 box:w.heap[P]? =some (.cells #[pv,.int .i64 tp,.int .i64 dict,fv] 235 (0,0))
 rd:Rd w pv data
theorem PcAt.keep{w w':World}{P tp dict:Nat}{pv a:Value}{data:List UInt8}(h:PcAt w P tp dict pv a data)(b:Fr (fun _=>False) w w'):PcAt w' P tp dict pv a data:=⟨b.keep h.box (fun h=>h),h.rd.keep b⟩
def most(tp p:Nat):Nat:=min 273 (tp-p)
theorem most_calls(P tp dict p:Nat)(pv a:Value)(data:List UInt8)(w:World)(h:PcAt w P tp dict pv a data)(g:p≤tp)(d:tp≤1099511627776):
 Calls Tryz.prog 183 #[ptr P,.int .i64 p] w fun e b=>e=.returned (.int .i64 (most tp p))∧w=b:=by
 have c:=cell_in (i:=1) h.box rfl;have j:IntKind.i64.wrap ((tp:Int)-(p:Int))=(tp:Int)-(p:Int):=IntWalk.i64_in _ (by omega);clear h;by_cases f:(tp:Int)-(p:Int)<273
 ·have e:((most tp p:Nat):Int)=(tp:Int)-(p:Int):=by unfold most;omega
  rw[e];clear e;go_enter Tryz.func183,Tryz.ntmps183;go_wp2_with fail;go_ret;exact⟨rfl,rfl⟩
 ·have e:((most tp p:Nat):Int)=273:=by unfold most;omega
  rw[e];clear e;go_enter Tryz.func183,Tryz.ntmps183;go_wp2_with fail;go_ret;exact⟨rfl,rfl⟩
theorem most_le(tp p:Nat)(h:p≤tp):p+most tp p≤tp∧most tp p≤273:=by unfold most;omega
set_option maxRecDepth 100000 in
theorem run_calls(P tp dict p d:Nat)(pv I:Value)(data:List UInt8)(w:World)(h:PcAt w P tp dict pv I data)(M:p≤tp)(ht:tp≤data.length)(hb:data.length≤1099511627776):
 Calls Tryz.prog 184 #[ptr P,.int .i64 p,.int .i64 d] w fun e W=>Fr (fun _=>False) w W∧∃n:Nat,e=.returned (.int .i64 n)∧p+n≤tp∧(n=0∨Run data p n d)∧n=Px.rn data tp dict p d:=by
 have O:=Hd h;have Z:=cell_in (i:=2) h.box rfl;obtain⟨a,R,rfl,K,_,_⟩:=h.rd;by_cases b:(d<1∨p<d)∨dict<d
 ·clear h
  rcases b with(J|J)|J
  ·have t:decide ((d:Int)<1)=true:=by simp;omega
   go_enter Tryz.func184,Tryz.ntmps184;go_wp2_with fail;go_ret;exact⟨Fr.refl _ _,0,rfl,by omega,.inl rfl,by unfold Px.rn;rw[if_neg (by omega)]⟩
  ·have z:decide ((p:Int)<(d:Int))=true:=by simp;omega
   by_cases T:d<1
   ·omega
   have t:decide ((d:Int)<1)=false:=by simp;omega
   go_enter Tryz.func184,Tryz.ntmps184;go_wp2_with fail;go_ret;exact⟨Fr.refl _ _,0,rfl,by omega,.inl rfl,by unfold Px.rn;rw[if_neg (by omega)]⟩
  ·by_cases T:d<1
   ·have t:decide ((d:Int)<1)=true:=by simp;omega
    go_enter Tryz.func184,Tryz.ntmps184;go_wp2_with fail;go_ret;exact⟨Fr.refl _ _,0,rfl,by omega,.inl rfl,by unfold Px.rn;rw[if_neg (by omega)]⟩
   have t:decide ((d:Int)<1)=false:=by simp;omega
   by_cases h2:p<d
   ·have z:decide ((p:Int)<(d:Int))=true:=by simp;omega
    go_enter Tryz.func184,Tryz.ntmps184;go_wp2_with fail;go_ret;exact⟨Fr.refl _ _,0,rfl,by omega,.inl rfl,by unfold Px.rn;rw[if_neg (by omega)]⟩
   have z:decide ((p:Int)<(d:Int))=false:=by simp;omega
   have S:decide ((dict:Int)<(d:Int))=true:=by simp;omega
   go_enter Tryz.func184,Tryz.ntmps184;go_wp2_with fail;go_ret;exact⟨Fr.refl _ _,0,rfl,by omega,.inl rfl,by unfold Px.rn;rw[if_neg (by omega)]⟩
 ·have t:decide ((d:Int)<1)=false:=by simp;omega
  have z:decide ((p:Int)<(d:Int))=false:=by simp;omega
  have S:decide ((dict:Int)<(d:Int))=false:=by simp;omega
  have Q:=Hd (most_calls P tp dict p _ I data w h M (by omega));have hm:=(most_le tp p M).1;clear h;go_enter Tryz.func184,Tryz.ntmps184;go_wp2_with fail;refine Q.out.mono ?_;rintro e w1 ⟨rfl,rfl⟩;go_wp2_with fail;have r:Hid (∀n,Px.IsRun data p d (most tp p) n→n=Px.rn data tp dict p d):=Hd (fun n u=>by unfold Px.rn;rw[if_pos (by omega)];exact u.uniq (Px.run_is _ _ _ _));generalize most tp p=m at*;go_loopw [7](fun s7 wr=>∃n:Nat,s7=.int .i64 n∧n≤m∧(∀j,j<n→data[p+j]? =data[p+j-d]?)∧Fr (fun _=>False) w wr) (fun s7 _=>m-(intOf s7).toNat);case atStart=>exact⟨0,rfl,Nat.zero_le _,fun j L=>absurd L (Nat.not_lt_zero _),Fr.refl _ _⟩
  case round=>
   obtain⟨n,rfl,u,k,c⟩:=hrel;by_cases C:n<m
   ·have U:decide ((n:Int)<(m:Int))=true:=by simp;omega
    have D:=O.out.keep c;obtain⟨X,cp,e,_,_,s⟩:=D.rd;obtain⟨g,o,rfl,A⟩:=s (by omega);simp only[Value.slice.injEq,true_and] at e;obtain⟨rfl,rfl⟩:=e;obtain⟨x,E⟩:∃x,data[p+n]? =some x:=⟨data[p+n],by simp⟩;obtain⟨y,F⟩:∃y,data[p+n-d]? =some y:=⟨data[p+n-d]'(by omega),List.getElem?_eq_getElem _⟩;have Y:=cell_in (i:=0) D.box rfl;have N:(p:Int)+(n:Int)-(d:Int)=((p+n-d:Nat):Int):=by omega
    have cx:wr.cell? ⟨g,o+(p+n),none⟩=some (.int .u8 x.toNat):=A _ _ E;have cy:wr.cell? ⟨g,o+(p+n-d),none⟩=some (.int .u8 y.toNat):=A _ _ F;have i1:(0:Int)≤(p:Int)+(n:Int):=by omega
    have i2:(p:Int)+(n:Int)<(data.length:Int):=by omega
    have i3:(0:Int)≤((p+n-d:Nat):Int):=by omega
    have i4:((p+n-d:Nat):Int)<(data.length:Int):=by omega
    have i6:IntKind.i64.wrap ((p:Int)+(n:Int)-(d:Int))=((p+n-d:Nat):Int):=by rw[IntWalk.i64_in _ (by omega)];exact N
    have f:=Hd c;have q:=Hd k;have G:=Hd E;have H:=Hd F;have v:=Hd b;clear D A s c k E F N b;by_cases l:x=y
    ·have V:((x.toNat:Int)==(y.toNat:Int))=true:=by subst l;simp
     go_wp2_with fail;go_quiet (fail);go_wp2_with fail;go_roundw;case rel=>
      refine⟨n+1,by go_num,by omega,fun j L=> ?_,f.out.drewN _⟩;by_cases B:j<n
      ·exact q.out j B
      ·obtain rfl:j=n:=by omega
       rw[G.out,H.out,l]
     case measure=>simp[intOf];omega
    ·have V:((x.toNat:Int)==(y.toNat:Int))=false:=by
      simp only[beq_eq_false_iff_ne,ne_eq,Int.natCast_inj];exact fun e=>l (UInt8.toNat_inj.1 e)
     go_wp2_with fail;go_quiet (fail);go_wp2_with fail;go_ret;have b:=v.out;exact⟨f.out.drewN _,n,rfl,by omega,.inr ⟨by omega,by omega,q.out⟩,r.out n ⟨u,q.out,fun _ e=>by
      rw[G.out,H.out] at e;exact l (Option.some.inj e)⟩⟩
   ·have U:decide ((n:Int)<(m:Int))=false:=by simp;omega
    have f:=Hd c;clear c;go_wp2_with fail;go_quiet (fail);go_wp2_with fail;go_ret;exact⟨f.out.drewN _,n,rfl,by omega,.inr ⟨by omega,by omega,k⟩,r.out n ⟨u,k,fun h=>absurd h C⟩⟩
end Ps
namespace Ps
open Mem Win St Fi Pk
def RepOk(data:List UInt8)(tp p:Nat)(s:S)(b k:Nat):Prop:=b=0∨(2≤b∧k<4∧p+b≤tp∧Run data p b (repAt s k))
def repTo(f:Nat→Nat)(s:S):Nat→Nat×Nat
 |0=>(0,0)
 |i+1=>if 2≤f (repAt s i)∧(repTo f s i).1<f (repAt s i) then(f (repAt s i),i) else repTo f s i
theorem repTo_all(f:Nat→Nat)(s:S):repTo f s 4=Px.repB f s:=rfl
theorem index4(d a b r2 c i:Nat)(e:i<4)(W:World):(Instr.index 82 (.agg #[.int .i64 a,.int .i64 b,.int .i64 r2,.int .i64 c]) (.int .i64 i)).run Tryz.prog W=.ok (.int .i64 (repAt ⟨d,a,b,r2,c⟩ i)) W:=by
 rcases(show i=0∨i=1∨i=2∨i=3 by omega) with rfl|rfl|rfl|rfl<;>kernel_rfl
set_option maxRecDepth 100000 in
theorem rep_calls(P tp dict p:Nat)(pv F:Value)(data:List UInt8)(s:S)(w:World)(h:PcAt w P tp dict pv F data)(L:p≤tp)(M:tp≤data.length)(J:data.length≤1099511627776):
 Calls Tryz.prog 181 #[ptr P,.int .i64 p,.agg s.cells] w fun e A=>Fr (fun _=>False) w A∧∃b k:Nat,e=.returned (.tuple #[.int .i64 b,.int .i64 k])∧RepOk data tp p s b k∧(b,k)=Px.repB (Px.rn data tp dict p) s:=by
 have I:=Hd (fun(d:Nat)(A:World)(hf:Fr (fun _=>False) w A)=>run_calls P tp dict p d pv F data A (h.keep hf) L M J);have r:=heap_alloc_new w (.cells s.cells 84);have D:=Hd ((R0 w).alloc (.cells s.cells 84));obtain⟨a,c,f,g,j⟩:=s;simp only[S.cells] at r D ⊢;have R:=cell_in (i:=1) r rfl;have T:=cell_in (i:=2) r rfl;have U:=cell_in (i:=3) r rfl;have V:=cell_in (i:=4) r rfl;clear h r;go_enter Tryz.func181,Tryz.ntmps181;go_wp2_with fail;go_loopw [8,9,15](fun s8 s9 s15 wr=>∃b k i:Nat,s8=.int .i64 b∧s9=.int .i64 k∧s15=.int .i64 i∧i≤4∧(RepOk data tp p ⟨a,c,f,g,j⟩ b k∧(b,k)=repTo (Px.rn data tp dict p) ⟨a,c,f,g,j⟩ i)∧Fr (fun _=>False) w wr) (fun _ _ s15 _=>4-(intOf s15).toNat);case atStart=>exact⟨0,0,0,rfl,rfl,rfl,by omega,⟨.inl rfl,rfl⟩,D.out⟩
 case round=>
  obtain⟨b,k,i,rfl,rfl,rfl,Q,z,u⟩:=hrel;have l:=Hd z;have o:=Hd u;clear z u;by_cases v:i<4
  ·have K:=index4 a c f g j i v
   have B:=Hd (I.out (repAt ⟨a,c,f,g,j⟩ i) wr o.out);generalize G:repAt ⟨a,c,f,g,j⟩ i=d at*;have E:=Hd G;clear G;go_wp2_with fail;refine B.out.mono ?_;rintro e W ⟨t,n,rfl,C,x,y⟩;have q:=Hd (show repTo (Px.rn data tp dict p) ⟨a,c,f,g,j⟩ (i+1)=if 2≤n∧b<n then(n,i) else(b,k) by
    rw[show repTo (Px.rn data tp dict p) ⟨a,c,f,g,j⟩ (i+1)=if 2≤Px.rn data tp dict p (repAt ⟨a,c,f,g,j⟩ i)∧(repTo (Px.rn data tp dict p) ⟨a,c,f,g,j⟩ i).1<Px.rn data tp dict p (repAt ⟨a,c,f,g,j⟩ i) then(Px.rn data tp dict p (repAt ⟨a,c,f,g,j⟩ i),i) else repTo (Px.rn data tp dict p) ⟨a,c,f,g,j⟩ i from rfl,E.out,←l.out.2,←y])
   clear y;have m:=Hd (o.out.trans t);have H:=Hd x;clear t x;by_cases N:(2:Int)≤(n:Int)
   ·by_cases O:(b:Int)<(n:Int)
    ·go_wp2_with fail
     go_roundw;case rel=>exact⟨n,i,i+1,rfl,rfl,by go_num,by omega,⟨.inr ⟨by omega,v,C,by rw[E.out];exact H.out.resolve_left (by omega)⟩,by rw[q.out,if_pos (by omega)]⟩,m.out⟩
     case measure=>simp[intOf];omega
    ·go_wp2_with fail
     go_roundw;case rel=>exact⟨b,k,i+1,rfl,rfl,by go_num,by omega,⟨l.out.1,by rw[q.out,if_neg (by omega)]⟩,m.out⟩
     case measure=>simp[intOf];omega
   ·go_wp2_with fail
    go_roundw;case rel=>exact⟨b,k,i+1,rfl,rfl,by go_num,by omega,⟨l.out.1,by rw[q.out,if_neg (by omega)]⟩,m.out⟩
    case measure=>simp[intOf];omega
  ·obtain rfl:i=4:=by omega
   go_wp2_with fail;go_ret2;exact⟨o.out,b,k,rfl,l.out.1,by rw[←repTo_all];exact l.out.2⟩
theorem size_calls(k y n d:Int)(w:World)(g:0≤n):Calls Tryz.prog 128 #[.agg #[.int .i64 k,.int .u8 y,.int .i64 n,.int .i64 d]] w fun e c=>e=.returned (.int .i64 (if n≤1 then 1 else n))∧Fr (fun _=>False) w c:=by
 have b:=heap_alloc_new w (.cells #[.int .i64 k,.int .u8 y,.int .i64 n,.int .i64 d] 110);have a:=Hd ((R0 w).alloc (.cells #[.int .i64 k,.int .u8 y,.int .i64 n,.int .i64 d] 110));have f:=cell_in (i:=2) b rfl;clear b;by_cases h:n≤1
 ·rw[if_pos h]
  go_enter Tryz.func128,Tryz.ntmps128;go_wp2_with fail;go_ret;exact⟨by first|rfl|(congr 2;omega),a.out⟩
 ·rw[if_neg h]
  go_enter Tryz.func128,Tryz.ntmps128;go_wp2_with fail;go_ret;exact⟨by first|rfl|(congr 2;omega),a.out⟩
set_option maxRecDepth 100000 in
theorem right_calls(s:S)(i:s.Ok)(w:World)(h:Tabs w):Calls Tryz.prog 124 #[.agg s.cells] w fun e j=>e=.returned (.int .i64 0)∧Fr (fun _=>False) w j:=by
 have d:=heap_alloc_new w (.cells s.cells 84);have c:=(R0 w).alloc (.cells s.cells 84);have g:=Hd (next_lit s i 0 0 0 (w.alloc (.cells s.cells 84)) (h.keep c));have f:=Hd c;obtain⟨k,l,m,n,o⟩:=s;simp only[S.cells] at d f g ⊢;obtain⟨p,q,r,t,u⟩:=cs5 d rfl rfl rfl rfl rfl;clear d c;go_enter Tryz.func124,Tryz.ntmps124;go_wp2_with fail;refine g.out.mono ?_;rintro e v ⟨rfl,a⟩;have b:=Hd (f.out.trans a);clear a;go_wp2_with fail;go_ret;exact⟨rfl,b.out.alloc _⟩
end Ps
namespace Ps
open Mem Win St Fi Pk
set_option maxRecDepth 100000 in
theorem newPiece_calls(pv:Value)(data:List UInt8)(i tp dict:Nat)(w:World)(h:Rd w pv data)(L:i≤tp)(O:tp≤data.length)(y:data.length≤1099511627776)(t:1≤dict)(u:dict≤4294967295):
 Calls Tryz.prog 123 #[pv,.int .i64 i,.int .i64 tp,.int .i64 dict] w fun e v=>Fr (fun _=>False) w v∧∃P F o M B,e=.returned (.tuple #[ptr P,.int .i64 0])∧PcAt v P tp dict pv (ptr F) data∧FiAt v F data dict i o M B∧w.heap.size≤F∧w.heap.size≤P:=by
 have A:=Hd (new_calls pv data dict w h y t u);have C:=Hd h;obtain⟨a,m,rfl,_⟩:=h;have I:decide ((i:Int)<0)=false:=by simp
 have J:decide ((tp:Int)<(i:Int))=false:=by simp;omega
 have K:decide ((data.length:Int)<(tp:Int))=false:=by simp;omega
 go_enter Tryz.func123,Tryz.ntmps123;go_wp2_with fail;refine A.out.mono ?_;rintro e x ⟨d,F,o,M,rfl,g,s⟩;have f:=(R0 x).alloc (.cells #[.slice a data.length m,.int .i64 tp,.int .i64 dict,ptr F] 235);have D:=Hd (skip_calls F dict 0 i M w.heap.size data o _ (g.still f) (by omega) y);have z:=Hd (heap_alloc_new x (.cells #[.slice a data.length m,.int .i64 tp,.int .i64 dict,ptr F] 235));have q:=Hd (d.trans f);have p:=Hd d;have r:=Hd (lt_of_block g.box);clear g d f;go_wp2_with fail;refine D.out.mono ?_;rintro e H ⟨rfl,n,b⟩;have j:=Hd n;have l:=Hd b;clear n b;go_wp2_with fail;go_ret2;have E:=r.out;have G:=p.out.size;rw[Nat.zero_add] at l;have c:Fr (fun _=>False) w H:=q.out.trans' j.out (fun k N e=>by omega);exact⟨c,x.heap.size,F,o,M,w.heap.size,rfl,⟨j.out.keep z.out (by omega),C.out.keep c⟩,l.out,s,G⟩
structure Cand(data:List UInt8)(tp p:Nat)(s:S)(y:Sy):Prop where
 ok:y.Ok
 lit:y.kind=1→data[p]? =some (UInt8.ofNat y.byte)∧p+1≤tp∧y.len=0
 run:y.kind≠1→Run data p (lenOfSy y) (distOf s y)∧p+lenOfSy y≤tp
 len:y.kind=4→y.len=0
theorem Cand.right{data:List UInt8}{tp p:Nat}{s:S}{y:Sy}(h:Cand data tp p s y)(b:(s.next y).1=0):Right data tp p s y:=by
 obtain⟨c,d⟩:=size_of b h.ok;refine⟨h.ok,b,?_,fun a=>(h.lit a).1,fun a=>(h.run a).1⟩;by_cases a:y.kind=1
 ·rw[c a]
  exact(h.lit a).2.1
 ·rw[d a]
  exact(h.run a).2
theorem Cand.size{data:List UInt8}{tp p:Nat}{s:S}{y:Sy}(h:Cand data tp p s y)(a:(s.next y).1=0):(if(y.len:Int)≤1 then(1:Int) else(y.len:Int))=(St.size y:Nat):=by
 obtain⟨f,g⟩:=size_of a h.ok;have i:=h.ok.kind;by_cases b:y.kind=1
 ·rw[f b,(h.lit b).2.2]
  rfl
 ·rw[g b]
  by_cases c:y.kind=4
  ·unfold lenOfSy
   rw[if_pos c,h.len c];rfl
  ·have d:isL y.len:=by
    unfold S.next at a;by_cases d:isL y.len
    ·exact d
    ·rw[if_neg b,if_neg c] at a
     by_cases e:y.kind=2
     ·rw[if_pos e,if_neg d] at a
      simp at a
     ·rw[if_neg e,if_neg d] at a
      simp at a
   unfold lenOfSy;rw[if_neg c];split<;>omega
end Ps
namespace Ps
open Mem Win St Fi Pk
theorem fr4z{w wc:World}{Y:Nat}(h:Fr (fun _=>False) w wc)(e:w.heap.size≤Y)(a b c d:Value):Fr (fun _=>False) w ((((wc.setCell ⟨Y,0,none⟩ a).setCell ⟨Y,1,none⟩ b).setCell ⟨Y,2,none⟩ c).setCell ⟨Y,3,none⟩ d):=
 (((h.setCell (p:=⟨Y,0,none⟩) (.inr e) _).setCell (p:=⟨Y,1,none⟩) (.inr e) _).setCell (p:=⟨Y,2,none⟩) (.inr e) _).setCell (p:=⟨Y,3,none⟩) (.inr e) _
theorem y4{W:World}{Y:Nat}{x y z u:Value}(h:W.heap[Y]? =some (.cells #[x,y,z,u] 110 (0,0)))(a b c d:Value):
 ((((W.setCell ⟨Y,0,none⟩ a).setCell ⟨Y,1,none⟩ b).setCell ⟨Y,2,none⟩ c).setCell ⟨Y,3,none⟩ d).heap[Y]? =some (.cells #[a,b,c,d] 110 (0,0)):=set_in (set_in (set_in (set_in h 0 a) 1 b) 2 c) 3 d
theorem first_eq{D:List UInt8}{tp dict p b d a c:Nat}{s:S}(e:(b,d)=Px.repB (Px.rn D tp dict p) s)(f:(a,c)=Px.bestM (Px.mts D tp dict p)):
 Px.first D tp dict p s=if b≠0∧a≤b+1 then⟨3,0,b,d⟩ else if a≠0 then⟨2,0,a,c⟩ else if 0<Px.rn D tp dict p s.r0 then⟨4,0,0,0⟩ else⟨1,(D.getD p 0).toNat,0,0⟩:=by
 unfold Px.first;rw[←e,←f]
theorem symSize:(Tryz.prog.info? 110).map (·.size)=some 4:=by kernel_rfl
set_option maxRecDepth 100000 in
theorem first_calls(P F tp dict p M B:Nat)(pv dv:Value)(data:List UInt8)(s:S)(w:World)(h:PcAt w P tp dict pv (ptr F) data)(c6:FiAt w F data dict p dv M B)(hp:p<tp)(ht:tp≤data.length)(hb:data.length≤1099511627776)(hd:dict≤4294967295):
 Calls Tryz.prog 125 #[ptr P,.int .i64 p,.agg s.cells] w fun e w'=>Fr (fun _=>False) w w'∧∃y:Sy,e=.returned (.agg y.cells)∧Cand data tp p s y∧Hid (y=Px.first data tp dict p s):=by
 obtain⟨a,e7,rfl,e5,e9,c7⟩:=h.rd;obtain⟨g,o,rfl,hc⟩:=c7 (by omega);obtain⟨x,hx⟩:∃x,data[p]? =some x:=⟨data[p],by simp⟩;have e8:w.cell? ⟨g,o+p,none⟩=some (.int .u8 x.toNat):=hc p x hx;have HX:=Hd hx;have HH:=Hd (fun(w':World)(A:Fr (fun _=>False) w w')=>h.keep A);have N:=Hd (fun(w':World)(A:Fr (fun _=>False) w w')=>rep_calls P tp dict p _ (ptr F) data s w' (h.keep A) (by omega) ht hb);have HM:=Hd (fun(w':World)(A:Fr (fun _=>False) w w')=>most_calls P tp dict p _ (ptr F) data w' (h.keep A) (by omega) (by omega));have d8:=most_le tp p (by omega);have b3:=Hd (fun(w':World)(A:Fr (fun _=>False) w w')=>best_calls F M B dict p (most tp p) data dv w' (c6.still A) (by omega) hb hd d8.2);have b6:=Hd (fun(d:Nat)(w':World)(A:Fr (fun _=>False) w w')=>run_calls P tp dict p d _ (ptr F) data w' (h.keep A) (by omega) ht hb);have d1:Hid (Px.mtsM data dict p (most tp p)=Px.mts data tp dict p):=Hd rfl;generalize most tp p=m at*;have b1:=heap_alloc_new w (.cells s.cells 84);have a7:=((R0 w).alloc (.cells s.cells 84)).alloc (.cells #[.int .i64 0,.int .u8 0,.int .i64 0,.int .i64 0] 110);obtain⟨nn,r0,r1,r2,r3⟩:=s;simp only[S.cells] at b1 a7 N ⊢;have D:=((R0 (w.alloc (.cells #[.int .i64 nn,.int .i64 r0,.int .i64 r1,.int .i64 r2,.int .i64 r3] 84))).alloc (.cells #[.int .i64 0,.int .u8 0,.int .i64 0,.int .i64 0] 110)).keep b1 (fun h=>h);have b2:=heap_alloc_new (w.alloc (.cells #[.int .i64 nn,.int .i64 r0,.int .i64 r1,.int .i64 r2,.int .i64 r3] 84)) (.cells #[.int .i64 0,.int .u8 0,.int .i64 0,.int .i64 0] 110);simp only[World.size_alloc] at b2;obtain⟨s0,s1,s2,s3,s4⟩:=cs5 D rfl rfl rfl rfl rfl;have b7:=Hd D;have b8:=Hd b2;have a0:=Hd a7;clear h c6 hc c7 b1 D b2 a7 hx;go_enter Tryz.func125,Tryz.ntmps125;go_wp2_with fail;generalize(w.alloc (.cells #[.int .i64 nn,.int .i64 r0,.int .i64 r1,.int .i64 r2,.int .i64 r3] 84)).alloc (.cells #[.int .i64 0,.int .u8 0,.int .i64 0,.int .i64 0] 110)=W1 at*;generalize k:w.heap.size=z at*;have d7:=Hd k;clear k;refine(N.out _ a0.out).mono ?_;rintro e I ⟨J,u,rk,rfl,X,V⟩;have b5:=Hd V;clear V;have O:=Hd X;have c:=Hd (a0.out.trans J);have Q:=Hd (J.keep b7.out (fun h=>h));have T:=Hd (J.keep b8.out (fun h=>h));clear X J b7 b8 a0 s0 s1 s2 s3 s4;go_upto_region 2 with fail;go_cut [9] (fun s9 wx=>∃(b9 n d:Nat),s9=ptr b9∧wx.heap[b9]? =some (.cells #[.int .i64 n,.int .i64 d] 310 (0,0))∧Fi.Good data dict p m n d∧Hid ((n,d)=Px.bestM (Px.mtsM data dict p m))∧Fr (fun _=>False) I wx);case first=>
  have r:=Hd ((R0 I).drew);have d4:=Hd (show I.drew.cell? ⟨P,3,none⟩=some (ptr F) from cell_in (i:=3) (HH.out _ (c.out.trans r.out)).box rfl);have HS:=Hd (show∀w':World,Fr (fun _=>False) I w'→w'.cell? ⟨P,3,none⟩=some (ptr F) from fun w' A=>cell_in (i:=3) (HH.out _ (c.out.trans A)).box rfl);have e3:=HS.out I (Fr.refl _ _);have G:=Hd (((R0 I).alloc (.cells #[.int .i64 0,.int .i64 0] 310)).drew);have c9:((I.alloc (.cells #[.int .i64 0,.int .i64 0] 310)).drew).heap[I.heap.size]? =some (.cells #[.int .i64 0,.int .i64 0] 310 (0,0)):=heap_alloc_new I _;have d6:=Hd c9;clear c9;go_region_held3 (fun w'=>w'.cell? ⟨P,3,none⟩=some (ptr F)) (first|with_reducible exact d4.out|with_reducible exact HS.out _ r.out|with_reducible exact HS.out _ G.out|with_reducible exact HS.out _ (r.out.alloc _)|(refine HS.out _ ?_;(repeat refine Fr.setCell ?_ (.inr (by first|exact Nat.le_refl _|exact r.out.size)) _);first|exact r.out|exact r.out.alloc _)) ((first
   | (go_at_call 183
      first
       | (with_reducible refine (HM.out _ (c.out.trans r.out)).mono ?_
          rintro e wc ⟨rfl,rfl⟩)
       | (with_reducible refine (HM.out _ (c.out.trans G.out)).mono ?_
          rintro e wc ⟨rfl,rfl⟩))
   | (go_at_call 182
      first
       | (with_reducible refine (b3.out _ (c.out.trans r.out)).mono ?_
          rintro e wc ⟨b,q,U,rfl,f,C⟩;have v:=Hd C;clear C;have r:=Hd (r.out.trans b);have a5:=Hd f;clear b f)
       | (with_reducible refine (b3.out _ (c.out.trans G.out)).mono ?_
          rintro e wc ⟨b,q,U,rfl,f,C⟩;have v:=Hd C;clear C;have hz:=b.keep d6.out (fun h=>h);have zf:=fun i=>frozen_in hz i;obtain⟨z0,z1⟩:=cs2 hz rfl rfl;have HZ:=Hd hz;have r:=Hd (G.out.trans b);have a5:=Hd f;clear b f hz))))
  all_goals go_wp2_with fail
  all_goals go_meet
  all_goals first
   |exact⟨_,q,U,rfl,heap_alloc_new _ _,a5.out,v,r.out.alloc _⟩
   |exact⟨_,q,U,rfl,set_in (set_in HZ.out 0 (.int .i64 q)) 1 (.int .i64 U),a5.out,v,(r.out.setCell (.inr (Nat.le_refl _)) _).setCell (.inr (Nat.le_refl _)) _⟩
 case rest=>
  obtain⟨b9,q,U,rfl,c3,f,v,K⟩:=hcut;have a4:=Hd (first_eq b5.out (d1.out ▸ v.out));obtain⟨c0,c1⟩:=cs2 c3 rfl rfl;have L:=K.keep T.out (fun h=>h);have yf:=fun i=>frozen_in L i;obtain⟨y0,y1,y2,y3⟩:=cs4 L rfl rfl rfl rfl;have HG:=Hd f;have E:=Hd (c.out.trans K);have H:=Hd L;have d5:=Hd (K.keep Q.out (fun h=>h));clear c3 f K L c Q T;have k:w.heap.size≤z+1:=by have:=d7.out;omega
  have e6:u≤tp:=by rcases O.out with h|⟨_,_,h,_⟩<;>omega
  by_cases c8:u≠0∧q≤u+1
  ·have e1:((u:Int) !=0)=true:=by simp;omega
   have e2:decide ((q:Int)≤(u:Int)+1)=true:=by simp;omega
   obtain⟨k1,k2,k3,k4⟩:=O.out.resolve_left c8.1;have d0:=Hd k4;clear k4;go_wp2_with fail;refine bodyPost_ret (results_cell_row Tryz.results125 _ _ (z+1) _ _ _ _ rfl (y4 H.out _ _ _ _) Tryz.underlying110 rfl symSize) rfl ?_;refine⟨fr4z E.out k _ _ _ _,⟨3,0,u,rk⟩,rfl,⟨⟨.inr (.inr (.inl rfl)),fun _=>by simp only;omega,by simp only;omega⟩,fun h=>absurd h (by simp),fun _=>⟨?_,?_⟩,fun h=>absurd h (by simp)⟩,Hd (by rw[a4.out,if_pos (by omega)])⟩
   ·exact d0.out
   ·exact k3
  ·have a9:u=0∨¬q≤u+1:=by omega
   by_cases a8:q=0
   ·subst a8
    have e4:u=0:=by omega
    subst e4;have d3:=Hd (b6.out r0 wc E.out);have x1:=cell_in (i:=1) d5.out rfl;clear HG a9;go_wp2_with fail;refine d3.out.mono ?_;rintro e w5 ⟨a6,n5,rfl,f0,Y,W⟩;have b4:=Hd (show Px.first data tp dict p ⟨nn,r0,r1,r2,r3⟩=if 0<n5 then⟨4,0,0,0⟩ else⟨1,(data.getD p 0).toNat,0,0⟩ by
     rw[a4.out,if_neg (by omega),if_neg (by omega),W])
    clear W;have l:=a6.keep H.out (fun h=>h);have R:=Hd l;have yf:=fun i=>frozen_in l i;obtain⟨y0,y1,y2,y3⟩:=cs4 l rfl rfl rfl rfl;have Z:=Hd (E.out.trans a6);have d2:=Hd Y;clear a6 Y l;by_cases h5:(0:Int)<(n5:Int)
    ·go_wp2_with fail
     refine bodyPost_ret (results_cell_row Tryz.results125 _ _ (z+1) _ _ _ _ rfl (y4 R.out _ _ _ _) Tryz.underlying110 rfl symSize) rfl ?_;refine⟨fr4z Z.out k _ _ _ _,⟨4,0,0,0⟩,rfl,⟨⟨.inr (.inr (.inr rfl)),fun h=>absurd h (by simp),by simp⟩,fun h=>absurd h (by simp),fun _=>⟨?_,by simp only[lenOfSy,if_true];omega⟩,fun _=>rfl⟩,Hd (by rw[b4.out,if_pos (by omega)])⟩;obtain⟨a1,a2,a3⟩:=d2.out.resolve_left (by omega);exact⟨a1,a2,fun j hj=>a3 j (by simp only[lenOfSy,if_true] at hj;omega)⟩
    ·have b0:=HH.out w5 Z.out
     have q0:=cell_in (i:=0) b0.box rfl;obtain⟨a',cp,e',_,_,c4⟩:=b0.rd;obtain⟨g',o',e2,c5⟩:=c4 (by omega);simp only[Value.slice.injEq] at e';rw[e2] at e';simp only[Option.some.injEq,Addr.mk.injEq,and_true] at e';have q1:w5.cell? ⟨g,o+p,none⟩=some (.int .u8 x.toNat):=by
      rw[e'.1.1,e'.1.2];exact c5 p x HX.out
     have i1:(0:Int)≤(p:Int):=by omega
     have i2:(p:Int)<(data.length:Int):=by omega
     clear b0 c4 c5 e' e2;go_wp2_with fail;refine bodyPost_ret (results_cell_row Tryz.results125 _ _ (z+1) _ _ _ _ rfl (y4 R.out _ _ _ _) Tryz.underlying110 rfl symSize) rfl ?_;refine⟨fr4z Z.out k _ _ _ _,⟨1,x.toNat,0,0⟩,rfl,⟨⟨.inl rfl,fun h=>absurd h (by simp),x.toNat_lt⟩,fun _=>⟨by simpa using HX.out,by omega,rfl⟩,fun h=>absurd rfl h,fun h=>absurd h (by simp)⟩,Hd (by rw[b4.out,if_neg (by omega),List.getD_eq_getElem?_getD,HX.out];rfl)⟩
   ·have t:=Hd (HG.out.resolve_left a8)
    have e3:((q:Int) !=0)=true:=by simp;omega
    have c2:Hid (Fr (fun _=>False) w ((((wc.setCell ⟨z+1,0,none⟩ (.int .i64 2)).setCell ⟨z+1,1,none⟩ (.int .u8 0)).setCell ⟨z+1,2,none⟩ (.int .i64 q)).setCell ⟨z+1,3,none⟩ (.int .i64 U))∧∃y:Sy,Ending.returned (.agg #[.int .i64 2,.int .u8 0,.int .i64 q,.int .i64 U])=.returned (.agg y.cells)∧Cand data tp p ⟨nn,r0,r1,r2,r3⟩ y∧Hid (y=Px.first data tp dict p ⟨nn,r0,r1,r2,r3⟩)):=Hd (by
     refine⟨fr4z E.out k _ _ _ _,⟨2,0,q,U⟩,rfl,⟨⟨.inr (.inl rfl),fun h=>absurd h (by simp),by simp⟩,fun h=>absurd h (by simp),fun _=>⟨?_,?_⟩,fun h=>absurd h (by simp)⟩,Hd (by rw[a4.out,if_neg (by omega),if_pos a8])⟩
     ·exact⟨t.out.d1,t.out.dp,fun j hj=>t.out.run j (by simpa [lenOfSy] using hj)⟩
     ·have:=t.out.le
      simp only[lenOfSy] at this ⊢;rw[if_neg (by decide)];omega)
    by_cases e0:u=0
    ·subst e0
     clear t HG a9;go_wp2_with fail;refine bodyPost_ret (results_cell_row Tryz.results125 _ _ (z+1) _ _ _ _ rfl (y4 H.out _ _ _ _) Tryz.underlying110 rfl symSize) rfl ?_;exact c2.out
    ·have e1:((u:Int) !=0)=true:=by simp;omega
     have e2:¬(q:Int)≤(u:Int)+1:=by omega
     clear t HG a9;go_wp2_with fail;all_goals
      refine bodyPost_ret (results_cell_row Tryz.results125 _ _ (z+1) _ _ _ _ rfl (y4 H.out _ _ _ _) Tryz.underlying110 rfl symSize) rfl ?_;first
       |exact c2.out
       |(exfalso;omega)
end Ps
end Go.Proofs.YtffoddpjfgjelaaGreatDoor
