/- Part 2 of 48: lemmas of the last part, each under the conditions that it names. -/
import Derived.Test.YtffoddpjfgjelaaGreatDoorRows
import Derived.WalkLawsBesides
import Derived.Laws.CopyOwn
import Derived.Test.YtffoddpjfgjelaaGreatDoorQ01
set_option linter.unusedVariables false
set_option linter.unusedSimpArgs false
set_option maxRecDepth 1500
set_option maxHeartbeats 1000000
namespace Go.Proofs.YtffoddpjfgjelaaGreatDoor
open Go.RowKit
namespace Mem
theorem infoU8:(Tryz.prog.info? 5).map (fun i=>(i.zero,i.size,i.bytes))=some (some (.int .u8 0),1,1):=by kernel_rfl
structure Acc(w0 w:World)(v:Value)(xs:List UInt8):Prop where
 fr:Fr (fun _=>False) w0 w
 own:w.ownsRow 0 5 1 v xs.length (bvs xs)
 new:∀k,v.ownBlock=some k→w0.heap.size≤k
theorem Acc.nil(w:World):Acc w w (.slice none 0 0) []:=⟨Fr.refl _ _,World.ownsRow_nil _ _ _ _,fun k hk=>by simp[Value.ownBlock] at hk⟩
theorem Acc.rd{w0 w:World}{v:Value}{xs:List UInt8}(h:Acc w0 w v xs):Rd w v xs:=Rd.of_own h.own
theorem Acc.step{S:Nat→Prop}{w0 w w':World}{v:Value}{xs:List UInt8}(h:Acc w0 w v xs)(hfr:Fr S w w')(hS:∀k,k<w.heap.size→S k→w0.heap.size≤k)(hv:∀k,v.ownBlock=some k→¬S k):Acc w0 w' v xs:=
 ⟨h.fr.trans' hfr (fun i hi hs=>absurd (hS i (Nat.lt_of_lt_of_le hi h.fr.size) hs) (by omega)),own_step h.own hfr hv,h.new⟩
theorem Acc.keep{w0 w w':World}{v:Value}{xs:List UInt8}(h:Acc w0 w v xs)(hfr:Fr (fun _=>False) w w'):Acc w0 w' v xs:=h.step hfr (fun _ _ f=>f.elim) (fun _ _ f=>f)
theorem Acc.slice{w0 w:World}{v:Value}{xs:List UInt8}(h:Acc w0 w v xs):∃p cap,v=.slice p xs.length cap:=by
 rcases h.own.2 with⟨rfl,h0⟩|⟨g,cap,cur,rfl,_⟩
 ·exact⟨none,0,by rw[h0]⟩
 ·exact⟨_,cap,rfl⟩
def dropP(p:Option Addr)(cap a:Nat):Option Addr:=if cap=a then p else p.map (·.add a)
set_option maxRecDepth 100000 in
theorem slice_l(p:Option Addr)(n cap a:Nat)(ha:a≤n)(W:World):
 (Instr.slice 22 (.slice p n cap) (some (.int .i64 (a:Int))) none none).run Tryz.prog W=.ok (.slice (dropP p cap a) (n-a) (cap-a)) W:=by
 obtain⟨i,hi,hz,hs,hb⟩:=info_parts infoU8
 rw[run_slice_l (P:=Tryz.prog) W 22 p n cap Tryz.underlying22 .i64 a (by omega) (by omega)]
 simp[sizeOf,typeInfo,hi,hs,Result.andThen,sliced,dropP,show Tryz.prog.elem 22=5 by kernel_rfl]
set_option maxRecDepth 100000 in
theorem slice_lh(p:Option Addr)(n cap a b:Nat)(ha:a≤b)(hb:b≤cap)(W:World):
 (Instr.slice 22 (.slice p n cap) (some (.int .i64 (a:Int))) (some (.int .i64 (b:Int))) none).run Tryz.prog W=.ok (.slice (dropP p cap a) (b-a) (cap-a)) W:=by
 obtain⟨i,hi,hz,hs,_⟩:=info_parts infoU8
 rw[run_slice_lh (P:=Tryz.prog) W 22 p n cap Tryz.underlying22 .i64 .i64 a b (by omega) (by omega) (by omega)]
 simp[sizeOf,typeInfo,hi,hs,Result.andThen,sliced,dropP,show Tryz.prog.elem 22=5 by kernel_rfl]
theorem slice_lhI(p:Option Addr)(n cap a b:Nat)(l h:Int)(hl:l=a)(hh:h=b)(ha:a≤b)(hb:b≤cap)(W:World):
 (Instr.slice 22 (.slice p n cap) (some (.int .i64 l)) (some (.int .i64 h)) none).run Tryz.prog W=.ok (.slice (dropP p cap a) (b-a) (cap-a)) W:=by
 subst hl hh
 exact slice_lh p n cap a b ha hb W
theorem slice_lI(p:Option Addr)(n cap a:Nat)(l:Int)(hl:l=a)(ha:a≤n)(W:World):
 (Instr.slice 22 (.slice p n cap) (some (.int .i64 l)) none none).run Tryz.prog W=.ok (.slice (dropP p cap a) (n-a) (cap-a)) W:=by
 subst hl
 exact slice_l p n cap a ha W
theorem rd_drop{w:World}{p:Option Addr}{n cap a:Nat}{xs:List UInt8}(h:Rd w (.slice p n cap) xs)(ha:a≤xs.length):
 Rd w (.slice (dropP p cap a) (n-a) (cap-a)) (xs.drop a):=by
 obtain⟨q,c,he,h1,h2,h3⟩:=h
 simp only[Value.slice.injEq] at he
 obtain⟨rfl,rfl,rfl⟩:=he
 refine⟨_,_,by rw[List.length_drop],by rw[List.length_drop];omega,by omega,fun h0=> ?_⟩
 rw[List.length_drop] at h0
 obtain⟨b,o,rfl,hc⟩:=h3 (by omega)
 unfold dropP
 rw[if_neg (by omega)]
 refine⟨b,o+a,by simp[add_mid],fun i x hx=> ?_⟩
 rw[List.getElem?_drop] at hx
 rw[Nat.add_assoc]
 exact hc _ x hx
theorem rd_take{w:World}{p:Option Addr}{n cap m:Nat}{xs:List UInt8}(h:Rd w (.slice p n cap) xs)(hm:m≤xs.length):Rd w (.slice p m cap) (xs.take m):=by
 obtain⟨q,c,he,h1,h2,h3⟩:=h
 simp only[Value.slice.injEq] at he
 obtain⟨rfl,rfl,rfl⟩:=he
 refine⟨_,_,by rw[List.length_take,Nat.min_eq_left hm],by rw[List.length_take];omega,h2,fun h0=> ?_⟩
 rw[List.length_take] at h0
 obtain⟨b,o,rfl,hc⟩:=h3 (by omega)
 refine⟨b,o,rfl,fun i x hx=> ?_⟩
 rw[List.getElem?_take] at hx
 split at hx
 ·exact hc _ x hx
 ·cases hx
theorem rd_mid{w:World}{p:Option Addr}{n cap a b:Nat}{xs:List UInt8}(h:Rd w (.slice p n cap) xs)(ha:a≤b)(hb:b≤xs.length):
 Rd w (.slice (dropP p cap a) (b-a) (cap-a)) ((xs.drop a).take (b-a)):=by
 have h1:=rd_drop h (show a≤xs.length by omega)
 exact rd_take h1 (by rw[List.length_drop];omega)
theorem Acc.older{w00 w0 w:World}{v:Value}{xs:List UInt8}(h:Acc w0 w v xs)(hfr:Fr (fun _=>False) w00 w0):Acc w00 w v xs:=⟨hfr.trans h.fr,h.own,fun k hk=>Nat.le_trans hfr.size (h.new k hk)⟩
theorem Acc.of_new{w0 w:World}{v:Value}{xs:List UInt8}(h:NewB 5 w0 w v xs)(hfr:Fr (fun _=>False) w0 w):Acc w0 w v xs:=⟨hfr,h.1,h.2⟩
theorem Acc.drew{w0 w:World}{v:Value}{xs:List UInt8}(h:Acc w0 w v xs):Acc w0 w.drew v xs:=h.keep (R0 w).drew
theorem src_rd{P:Program}{t e:TypeId}(hk:P.underlying t=some (.slice e)){w:World}{x:Value}{ys:List UInt8}(h:Rd w x ys):Src P 1 t x ys.length (bvs ys) w:=by
 obtain⟨p,cap,rfl,h1,h2,h3⟩:=h
 cases p with
 |none=>
   by_cases h0:0<ys.length
   ·obtain⟨b,o,h,_⟩:=h3 h0
    cases h
   ·have:ys=[]:=List.eq_nil_of_length_eq_zero (by omega)
    subst this
    exact Src.ofNil w hk cap
 |some a=>
   refine Src.ofSlice w hk a ys.length cap (bvs ys) (by rw[bvs_length,Nat.mul_one]) (fun j u hj=> ?_) (one_bvs ys)
   have hj':j<ys.length:=by
    have:=(List.getElem?_eq_some_iff.1 hj).1
    rwa [bvs_length] at this
   obtain⟨b,o,he,hc⟩:=h3 (by omega)
   cases he
   have:=hc j ys[j] (List.getElem?_eq_getElem hj')
   rw[add_mid,this]
   rw[bvs,List.getElem?_map,List.getElem?_eq_getElem hj'] at hj
   exact hj
theorem rd_one(w:World)(B:Nat)(hB:B=w.heap.size)(c:UInt8)(x:Int)(hx:x=(c.toNat:Int)):Rd (w.alloc (.cells #[.int .u8 x] 5)) (.slice (some ⟨B,0,none⟩) 1 1) [c]:=by
 subst hB hx
 refine⟨_,1,rfl,by simp,by simp[maxLen],fun _=>⟨_,0,rfl,fun i y hy=> ?_⟩⟩
 match i,hy with
 |0,hy=>simp at hy;subst hy;simp[bv]
 |i+1,hy=>simp at hy
section
variable {P:Program}{w0 w:World}{v x:Value}{xs ys:List UInt8}
theorem append_post(hacc:Acc w0 w v xs){v':Value}{w':World}(hown:w'.ownsRow 0 5 1 v' (xs.length+ys.length) (bvs xs++bvs ys))(hfr:Fr (fun k=>v.ownBlock=some k) w w')
 (hnew:∀k,v'.ownBlock=some k→v.ownBlock=some k∨w.heap.size≤k):∃p cap,v'=.slice p (xs++ys).length cap∧Acc w0 w' v' (xs++ys):=by
 have ho:w'.ownsRow 0 5 1 v' (xs++ys).length (bvs (xs++ys)):=by rw[bvs_append,List.length_append];exact hown
 have hA:Acc w0 w' v' (xs++ys):=⟨hacc.fr.trans' hfr (fun i hi hk=>absurd (hacc.new i hk) (by omega)),ho,fun k hk=>by
  rcases hnew k hk with h|h
  ·exact hacc.new k h
  ·exact Nat.le_trans hacc.fr.size h⟩
 obtain⟨p,cap,he⟩:=hA.slice
 exact⟨p,cap,he,hA⟩
end
theorem append_bytes{ops:Array Oper}{rest:List Oper}{o:Oper}{a:Act}{Q:Exit→Act→World→Prop}(hgd:o.guard=none)(s y:Operand)
 (ho:o.op=.call {callee:=.builtin .append,args:=#[s,y],argTypes:=#[22,22]}){w0 w:World}(v x:Value)(xs ys:List UInt8)(hv:a.eval s=v)(hx:a.eval y=x)(hacc:Acc w0 w v xs)(hrd:Rd w x ys)
 (hb:xs.length+ys.length≤70368744177664)
 (h:∀p cap n w',n=xs.length+ys.length→Acc w0 w' (.slice p n cap) (xs++ys)→Fr (fun k=>v.ownBlock=some k) w w'→wpList Tryz.prog ops Q rest (a.put o.dst (.slice p n cap)) w'):
 wpList Tryz.prog ops Q (o::rest) a w:=by
 obtain⟨i0,hi,hz0,hz1,hz2⟩:=info_parts infoU8
 refine wpList_append_any w hgd s y 22 22 ho 5 i0 (.int .u8 0) 1 1 Tryz.underlying22 hi hz0 hz1 hz2 rfl (by decide) v xs.length (bvs xs) hv hacc.own x ys.length (bvs ys) hx (src_rd Tryz.underlying22 hrd) (by simp only[maxLen];omega) (by omega) ?_
 intro v' w' hown hfr hnew _
 obtain⟨p,cap,rfl,hA⟩:=append_post hacc hown hfr hnew
 exact h p cap _ w' List.length_append hA hfr
theorem step_bytes{ops:Array Oper}{o:Oper}{a:Act}{K:Act→World→Prop}{Q:Exit→Act→World→Prop}{E:Prop}(hgd:o.guard=none)(s y:Operand)
 (ho:o.op=.call {callee:=.builtin .append,args:=#[s,y],argTypes:=#[22,22]}){w0 w:World}(v x:Value)(xs ys:List UInt8)(hv:a.eval s=v)(hx:a.eval y=x)(hacc:Acc w0 w v xs)(hrd:Rd w x ys)
 (hb:xs.length+ys.length≤70368744177664)
 (h:∀p cap n w',n=xs.length+ys.length→Acc w0 w' (.slice p n cap) (xs++ys)→Fr (fun k=>v.ownBlock=some k) w w'→K (a.put o.dst (.slice p n cap)) w'):
 if Region.wanted o (yielded ops a.tmps)=true then Oper.wp Tryz.prog o a w K Q else E:=by
 obtain⟨i0,hi,hz0,hz1,hz2⟩:=info_parts infoU8
 refine step_append_any w hgd s y 22 22 ho 5 i0 (.int .u8 0) 1 1 Tryz.underlying22 hi hz0 hz1 hz2 rfl (by decide) v xs.length (bvs xs) hv hacc.own x ys.length (bvs ys) hx (src_rd Tryz.underlying22 hrd) (by simp only[maxLen];omega) (by omega) ?_
 intro v' w' hown hfr hnew _
 obtain⟨p,cap,rfl,hA⟩:=append_post hacc hown hfr hnew
 exact h p cap _ w' List.length_append hA hfr
end Mem
namespace Win
open Mem
structure At(w:World)(B:Nat)(rv:Value)(size:Nat)(all ring:List UInt8)(t:Nat):Prop where
 box:w.heap[B]? =some (.cells #[.int .i64 size,rv,.int .i64 t,.int .i64 all.length] 210 (0,0))
 own:w.ownsRow 0 5 1 rv ring.length (bvs ring)
 of:RingOf size all ring t
 pos:0<size
 top:size≤4294967295
 much:all.length≤1152921504606846976
 apart:∀k,rv.ownBlock=some k→k≠B
theorem At.keep{S:Nat→Prop}{w w':World}{B size t:Nat}{rv:Value}{all ring:List UInt8}(h:At w B rv size all ring t)(hfr:Fr S w w')(hB:¬S B)(hr:∀k,rv.ownBlock=some k→¬S k):At w' B rv size all ring t:=
 ⟨hfr.keep h.box hB,own_step h.own hfr hr,h.of,h.pos,h.top,h.much,h.apart⟩
theorem At.slice{w:World}{B size t:Nat}{rv:Value}{all ring:List UInt8}(h:At w B rv size all ring t):∃p cap,rv=.slice p ring.length cap:=own_slice h.own
theorem At.rd{w:World}{B size t:Nat}{rv:Value}{all ring:List UInt8}(h:At w B rv size all ring t):Rd w rv ring:=Rd.of_own h.own
theorem new_in(n:Nat)(w:World)(h1:0<n)(h2:n≤4294967295):
 Calls Tryz.prog 64 #[.int .i64 n] w fun e w'=>e=.returned (.tuple #[.pointer (some ⟨w.heap.size,0,none⟩),.int .i64 0])∧Fr (fun _=>False) w w'∧At w' w.heap.size (.slice none 0 0) n [] [] 0:=by
 have t1:decide ((n:Int)<1)=false:=by simp;omega
 have t2:decide ((n:Int)>4294967295)=false:=by simp;omega
 have t3:decide ((4294967295:Int)<n)=false:=by simp;omega
 go_enter Tryz.func64,Tryz.ntmps64
 go_wp2_with fail
 go_ret2
 exact⟨rfl,(Fr.refl _ _).alloc _,heap_alloc_new w _,World.ownsRow_nil _ _ _ _,RingOf.empty n h1,h1,h2,by simp,fun k hk=>by simp[Value.ownBlock] at hk⟩
theorem new_out(n:Int)(w:World)(h:n<1∨4294967295<n):
 Calls Tryz.prog 64 #[.int .i64 n] w fun e w'=>e=.returned (.tuple #[.pointer none,.int .i64 7])∧w=w':=by
 by_cases h1:n<1
 ·have t1:decide (n<1)=true:=by simp;omega
  go_enter Tryz.func64,Tryz.ntmps64
  go_wp2_with fail
  go_ret2
  exact⟨rfl,rfl⟩
 ·have t1:decide (n<1)=false:=by simp;omega
  have t2:decide (n>4294967295)=true:=by simp;omega
  have t3:decide ((4294967295:Int)<n)=true:=by simp;omega
  go_enter Tryz.func64,Tryz.ntmps64
  go_wp2_with fail
  go_ret2
  exact⟨rfl,rfl⟩
theorem pos_calls(B size t:Nat)(rv:Value)(all ring:List UInt8)(w:World)(h:At w B rv size all ring t):
 Calls Tryz.prog 193 #[.pointer (some ⟨B,0,none⟩)] w fun e w'=>e=.returned (.int .i64 all.length)∧w=w':=by
 have c3:=cell_in (i:=3) h.box rfl
 generalize all.length=n at*
 go_enter Tryz.func193,Tryz.ntmps193
 go_wp2_with fail
 go_ret
 exact⟨rfl,rfl⟩
theorem in_calls(B size t d:Nat)(rv:Value)(all ring:List UInt8)(w:World)(h:At w B rv size all ring t):
 Calls Tryz.prog 238 #[.pointer (some ⟨B,0,none⟩),.int .i64 d] w fun e w'=>e=.returned (.bool (decide (1≤d∧d≤ring.length)))∧w=w':=by
 obtain⟨p,cap,rfl⟩:=h.slice
 have c1:=cell_in (i:=1) h.box rfl
 generalize hq:decide (1≤d∧d≤ring.length)=q
 have HQ:=Hd hq
 clear hq h
 generalize ring.length=n at*
 by_cases h1:1≤d
 ·have t1:decide ((d:Int)≥1)=true:=by simp;omega
  have t2:decide ((1:Int)≤d)=true:=by simp;omega
  by_cases h2:d≤n
  ·have t3:decide ((d:Int)≤n)=true:=by simp;omega
   go_enter Tryz.func238,Tryz.ntmps238
   go_wp2_with fail
   go_ret
   exact⟨by rw[←HQ.out];simp[h1,h2],rfl⟩
  ·have t3:decide ((d:Int)≤n)=false:=by simp;omega
   go_enter Tryz.func238,Tryz.ntmps238
   go_wp2_with fail
   go_ret
   exact⟨by rw[←HQ.out];simp[h2],rfl⟩
 ·have t1:decide ((d:Int)≥1)=false:=by simp;omega
  have t2:decide ((1:Int)≤d)=false:=by simp;omega
  go_enter Tryz.func238,Tryz.ntmps238
  go_wp2_with fail
  go_ret
  exact⟨by rw[←HQ.out];simp[h1],rfl⟩
theorem byte_at{w:World}{p:Option Addr}{n cap i:Nat}{xs:List UInt8}{x:UInt8}(h:Rd w (.slice p n cap) xs)(hx:xs[i]? =some x):∃b o,p=some ⟨b,o,none⟩∧w.cell? ⟨b,o+i,none⟩=some (.int .u8 (x.toNat:Int)):=by
 obtain⟨q,c,he,h1,h2,h3⟩:=h
 simp only[Value.slice.injEq] at he
 obtain⟨rfl,_,rfl⟩:=he
 obtain⟨b,o,hp,hc⟩:=h3 (by have:=(List.getElem?_eq_some_iff.1 hx).1;omega)
 exact⟨b,o,hp,hc i x hx⟩
theorem back_calls(B size t d:Nat)(rv:Value)(all ring:List UInt8)(c:UInt8)(w:World)(h:At w B rv size all ring t)(h1:1≤d)(h2:d≤ring.length)(hc:all[all.length-d]? =some c):
 Calls Tryz.prog 239 #[.pointer (some ⟨B,0,none⟩),.int .i64 d] w fun e w'=>e=.returned (.int .u8 c.toNat)∧w=w':=by
 have hb:=h.of.back h1 h2
 rw[hc] at hb
 have htl:=h.of.t_le
 have hlen:ring.length≤4294967295:=by have:=h.of.len;have:=h.top;omega
 have c2:=cell_in (i:=2) h.box rfl
 obtain⟨p,cap,rfl⟩:=h.slice
 have c1:=cell_in (i:=1) h.box rfl
 have HRD:=Hd h.rd
 clear h hc
 by_cases hd:d≤t
 ·rw[if_pos hd] at hb
  obtain⟨b,o,rfl,hcell⟩:=byte_at HRD.out hb
  have t1:decide ((t:Int)-d<0)=false:=by simp;omega
  have hi:((t-d:Nat):Int)=(t:Int)-d:=by omega
  generalize hj:t-d=j at*
  have hjn:j<ring.length:=(List.getElem?_eq_some_iff.1 hb).1
  clear hb
  generalize ring.length=n at*
  generalize c.toNat=y at*
  go_enter Tryz.func239,Tryz.ntmps239
  go_wp2_with fail
  go_ret
  exact⟨rfl,rfl⟩
 ·rw[if_neg hd] at hb
  obtain⟨b,o,rfl,hcell⟩:=byte_at HRD.out hb
  have t1:decide ((t:Int)-d<0)=true:=by simp;omega
  have hi:((t+ring.length-d:Nat):Int)=(t:Int)-d+ring.length:=by omega
  generalize hj:t+ring.length-d=j at*
  have hjn:j<ring.length:=(List.getElem?_eq_some_iff.1 hb).1
  clear hb
  generalize ring.length=n at*
  have hi2:((t:Int)-d+n).toNat=j:=by omega
  rw[←hi2] at hcell
  have i1:(0:Int)≤(t:Int)-d+n:=by omega
  have i2:(t:Int)-d+n<n:=by omega
  clear hi hi2 hj hjn
  generalize c.toNat=y at*
  go_enter Tryz.func239,Tryz.ntmps239
  go_wp2_with fail
  go_ret
  exact⟨rfl,rfl⟩
def last(size:Nat)(all:List UInt8)(d:Nat):Nat×Nat:=if 1≤d∧d≤min size all.length then((all.getD (all.length-d) 0).toNat,0) else(0,7)
theorem last_calls(B size t d:Nat)(rv:Value)(all ring:List UInt8)(w:World)(h:At w B rv size all ring t):
 Calls Tryz.prog 191 #[.pointer (some ⟨B,0,none⟩),.int .i64 d] w fun e w'=>e=.returned (.tuple #[.int .u8 (last size all d).1,.int .i64 (last size all d).2])∧w=w':=by
 have HA:=Hd h
 have hlen:=h.of.len
 by_cases hin:1≤d∧d≤ring.length
 ·have hl:last size all d=((all.getD (all.length-d) 0).toNat,0):=by unfold last;rw[if_pos (by omega)]
  have hc:all[all.length-d]? =some (all.getD (all.length-d) 0):=by rw[List.getD_eq_getElem?_getD,List.getElem?_eq_getElem (by omega)];rfl
  rw[hl]
  have HC:=Hd hc
  have hd:decide (1≤d∧d≤ring.length)=true:=decide_eq_true hin
  have HD:=Hd hd
  clear hl hc hd h hlen
  generalize all.getD (all.length-d) 0=c at*
  go_enter Tryz.func191,Tryz.ntmps191
  go_wp2_with fail
  refine(in_calls B size t d rv all ring _ HA.out).mono ?_
  rintro e w' ⟨rfl,rfl⟩
  rw[HD.out]
  go_wp2_with fail
  refine(back_calls B size t d rv all ring c _ HA.out hin.1 hin.2 HC.out).mono ?_
  rintro e w' ⟨rfl,rfl⟩
  go_wp2_with fail
  go_ret2
  exact⟨rfl,rfl⟩
 ·have hl:last size all d=(0,7):=by unfold last;rw[if_neg (by omega)]
  rw[hl]
  have hd:decide (1≤d∧d≤ring.length)=false:=decide_eq_false hin
  have HD:=Hd hd
  clear hl hd h hlen hin
  go_enter Tryz.func191,Tryz.ntmps191
  go_wp2_with fail
  refine(in_calls B size t d rv all ring _ HA.out).mono ?_
  rintro e w' ⟨rfl,rfl⟩
  rw[HD.out]
  go_wp2_with fail
  go_ret2
  exact⟨rfl,rfl⟩
set_option maxRecDepth 100000 in
theorem clear_calls(B size t:Nat)(rv:Value)(all ring:List UInt8)(w:World)(h:At w B rv size all ring t):
 Calls Tryz.prog 158 #[.pointer (some ⟨B,0,none⟩)] w fun e w'=>e=.returned (.tuple #[])∧Fr (fun k=>k=B) w w'∧At w' B (.slice none 0 0) size [] [] 0:=by
 have HA:=Hd h
 obtain⟨c0,c1,c2,c3⟩:=cs4 h.box rfl rfl rfl rfl
 have f0:=frozen_in h.box 0
 have s0:=set_in h.box 0 (.int .i64 size)
 have s1:=set_in s0 1 (.slice none 0 0)
 have s2:=set_in s1 2 (.int .i64 0)
 have s3:=set_in s2 3 (.int .i64 0)
 have a1:=cell_in (v:=rv) s0 (i:=1) rfl
 have b1:=frozen_in s0 1
 have a2:=cell_in (v:=.int .i64 t) s1 (i:=2) rfl
 have b2:=frozen_in s1 2
 have a3:=cell_in (v:=.int .i64 all.length) s2 (i:=3) rfl
 have b3:=frozen_in s2 3
 have HS:=Hd s3
 have hfr:=(((Fr.one w B 0 (.int .i64 size)).trans (Fr.one _ B 1 (.slice none 0 0))).trans (Fr.one _ B 2 (.int .i64 0))).trans (Fr.one _ B 3 (.int .i64 0))
 have HF:=Hd hfr
 clear h s0 s1 s2 s3 hfr
 go_enter Tryz.func158,Tryz.ntmps158
 go_wp2_with fail
 go_end0
 exact⟨rfl,HF.out,HS.out,World.ownsRow_nil _ _ _ _,RingOf.empty size HA.out.pos,HA.out.pos,HA.out.top,by simp,fun k hk=>by simp[Value.ownBlock] at hk⟩
end Win
namespace Mem
theorem run_copy_any{P:Program}(w:World)(dT sT ty elem:TypeId)(hu:P.underlying dT=some (.slice elem))(hs:(P.info? elem).map (·.size)=some 1)
 (rp:Option Addr)(rl rc u:Nat)(ring:List UInt8)(T:TypeId)(hown:w.ownsRow 0 T 1 (.slice rp rl rc) rl (bvs ring))(hu1:u<rl)
 (p:Option Addr)(n cap:Nat)(b:List UInt8)(hb:Rd w (.slice p n cap) b)(h0:0<n)(m:Nat)(hm:m=min n (rl-u)):
 ∃w',(Builtin.copy_ #[dT,sT] ty #[.slice (dropP rp rc u) (rl-u) (rc-u),.slice p n cap]).run P w=.ok (goInt m) w'∧
  w'.ownsRow 0 T 1 (.slice rp rl rc) rl (bvs (ring.take u++b.take m++ring.drop (u+m)))∧Fr (fun k=>(Value.slice rp rl rc).ownBlock=some k) w w':=by
 have hrl:=hown.1
 rw[bvs_length,Nat.mul_one] at hrl
 obtain⟨q,c,he,h1,h2,h3⟩:=hb
 simp only[Value.slice.injEq] at he
 obtain⟨rfl,rfl,rfl⟩:=he
 obtain⟨bb,o,rfl,hc⟩:=h3 h0
 rcases hown.2 with⟨hn,h9⟩|⟨g,cap',cur,hv,_,hg,hle,hcm,hcs,ht⟩
 ·omega
 ·simp only[Value.slice.injEq] at hv
  obtain⟨rfl,_,rfl⟩:=hv
  rw[Nat.mul_one] at hcs ht
  have hd:dropP (some ⟨g,0,none⟩) rc u=some ⟨g,u,none⟩:=by
   unfold dropP
   rw[if_neg (by omega)]
   simp[add_mid]
  have hml:(bvs (b.take m)).length=m:=by rw[bvs_length,List.length_take];omega
  rw[hd]
  have hr:=run_copy_row (P:=P) w dT sT ty elem g u (rl-u) (rc-u) ⟨bb,o,none⟩ b.length cap cur T (bvs (b.take m)) hu hs hg (by rw[hml,hm])
   (fun j v hj=>by
     rw[bvs,List.getElem?_map] at hj
     cases hx:(b.take m)[j]? with
     |none=>rw[hx] at hj;cases hj
     |some x=>
       rw[hx] at hj
       rw[List.getElem?_take] at hx
       split at hx
       ·rw[add_mid,hc j x hx];exact hj
       ·cases hx)
   (by rw[hml];omega) (one_bvs _)
  rw[hml] at hr
  have hh:=setRow_heap w g cur (cur.toList.take u++bvs (b.take m)++cur.toList.drop (u+m)).toArray T _ hg
  refine⟨_,hr,⟨by rw[bvs_length];simp only[List.length_append,List.length_take,List.length_drop];omega,.inr ⟨g,rc,_,rfl,Nat.zero_le _,hh,hle,hcm,?_,?_⟩⟩,⟨rfl,rfl,rfl,by simp[World.setRow],fun k hk hne=>setRow_other w g k _ (fun e=>hne (by rw[e];rfl))⟩⟩
  ·simp only[List.size_toArray,List.length_append,List.length_take,List.length_drop,Array.length_toList,hml]
   omega
  ·have e:ring.length=rl:=hrl
   rw[Nat.mul_one]
   have hring:∀i,i<rl→cur.toList[i]? =(bvs ring)[i]? :=fun i hi=>by rw[←ht,List.getElem?_take,if_pos hi]
   apply List.ext_getElem?
   intro i
   rw[List.getElem?_take]
   have hcl:cur.toList.length=rc:=by simp[hcs]
   by_cases hi:i<rl
   ·rw[if_pos hi]
    have e1:(bvs (ring.take u++b.take m++ring.drop (u+m)))[i]? =if i<u then(bvs ring)[i]? else if i<u+m then(bvs (b.take m))[i-u]? else(bvs ring)[i]? :=by
     simp only[bvs,List.getElem?_map]
     by_cases c1:i<u
     ·rw[if_pos c1,List.append_assoc,List.getElem?_append_left (by rw[List.length_take];omega),List.getElem?_take,if_pos c1]
     ·rw[if_neg c1]
      by_cases c2:i<u+m
      ·rw[if_pos c2,List.append_assoc,List.getElem?_append_right (by rw[List.length_take];omega),List.getElem?_append_left (by simp only[List.length_take];omega)]
       congr 2
       rw[List.length_take];omega
      ·rw[if_neg c2,List.getElem?_append_right (by simp only[List.length_append,List.length_take];omega),List.getElem?_drop]
       congr 2
       simp only[List.length_append,List.length_take];omega
    rw[e1]
    by_cases c1:i<u
    ·rw[if_pos c1,List.append_assoc,List.getElem?_append_left (by rw[List.length_take];omega),List.getElem?_take,if_pos c1,hring i hi]
    ·rw[if_neg c1]
     by_cases c2:i<u+m
     ·rw[if_pos c2,List.append_assoc,List.getElem?_append_right (by rw[List.length_take];omega),List.getElem?_append_left (by rw[List.length_take,hml];omega)]
      congr 1
      rw[List.length_take];omega
     ·rw[if_neg c2,List.getElem?_append_right (by rw[List.length_append,List.length_take,hml];omega),List.getElem?_drop,←hring i hi]
      congr 1
      rw[List.length_append,List.length_take,hml];omega
   ·rw[if_neg hi]
    symm
    rw[List.getElem?_eq_none_iff,bvs_length]
    simp only[List.length_append,List.length_take,List.length_drop]
    omega
theorem step_copy_any{P:Program}{ops:Array Oper}{o:Oper}{a:Act}{w:World}{K:Act→World→Prop}{Q:Exit→Act→World→Prop}{E:Prop}(hgd:o.guard=none)(d s:Operand)(dT sT elem:TypeId)
 (ho:o.op=.call {callee:=.builtin .copy,args:=#[d,s],argTypes:=#[dT,sT]})(hu:P.underlying dT=some (.slice elem))(hs:(P.info? elem).map (·.size)=some 1)
 (rp:Option Addr)(rl rc u:Nat)(ring:List UInt8)(T:TypeId)(hd:a.eval d=.slice (dropP rp rc u) (rl-u) (rc-u))(hown:w.ownsRow 0 T 1 (.slice rp rl rc) rl (bvs ring))(hu1:u<rl)
 (p:Option Addr)(n cap:Nat)(b:List UInt8)(hv:a.eval s=.slice p n cap)(hb:Rd w (.slice p n cap) b)(h0:0<n)(m:Nat)(hm:m=min n (rl-u))
 (h:∀w',w'.ownsRow 0 T 1 (.slice rp rl rc) rl (bvs (ring.take u++b.take m++ring.drop (u+m)))→Fr (fun k=>(Value.slice rp rl rc).ownBlock=some k) w w'→K (a.put o.dst (.int .i64 (m:Int))) w'):
 if Region.wanted o (yielded ops a.tmps)=true then Oper.wp P o a w K Q else E:=by
 have hw:Region.wanted o (yielded ops a.tmps)=true:=by simp[Region.wanted,hgd]
 rw[if_pos hw]
 obtain⟨w',hr,h2,h3⟩:=run_copy_any (P:=P) w dT sT o.type elem hu hs rp rl rc u ring T hown hu1 p n cap b hb h0 m hm
 unfold Oper.wp
 simp[execOp,ho,resolve,invoke,builtin,hd,hv,hr,Result.andThen]
 exact h w' h2 h3
end Mem
end Go.Proofs.YtffoddpjfgjelaaGreatDoor
