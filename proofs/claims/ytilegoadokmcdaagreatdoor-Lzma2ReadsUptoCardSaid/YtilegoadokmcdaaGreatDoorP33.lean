/- Part 33 of 53: lemmas of the last part, each under the conditions that it names. -/
import Derived.Deep.RegionLaw
import Derived.Deep.RegionHeld3
import Derived.Test.YtilegoadokmcdaaGreatDoorP02
import Derived.Test.YtilegoadokmcdaaGreatDoorP03
import Derived.Test.YtilegoadokmcdaaGreatDoorP07
import Derived.Test.YtilegoadokmcdaaGreatDoorP11
import Derived.Test.YtilegoadokmcdaaGreatDoorP16
import Derived.Test.YtilegoadokmcdaaGreatDoorP24
set_option linter.unusedVariables false
set_option linter.unusedSimpArgs false
set_option maxRecDepth 1500
set_option maxHeartbeats 2000000
namespace Go.Proofs.YtilegoadokmcdaaGreatDoor
open Go.RowKit
namespace Mem
theorem splice_keep(vs:List Value)(cur:Array Value)(o:Nat)(h:o+vs.length≤cur.size):(splice cur o vs).toList.take o=cur.toList.take o:=by
 have h1:=congrArg (List.take o) (splice_take vs cur o h)
 rw[List.take_take,show min o (o+vs.length)=o by omega] at h1
 rw[h1]
 exact List.take_left' (by rw[List.length_take,Array.length_toList];omega)
section
variable {P:Program}(w:World)
theorem run_append_any2(t tx ty e:TypeId)(i:TypeInfo)(z:Value)(size bytes:Nat)(ht:P.underlying t=some (.slice e))(hi:P.info? e=some i)(hz:i.zero=some z)
 (hsize:i.size=size)(hby:i.bytes=bytes)(hzs:z.cells.size=size)(hsz:0<size)
 (v:Value)(n:Nat)(xs:List Value)(hown:w.ownsRow 0 e size v n xs)(x:Value)(m:Nat)(news:List Value)(hs:Src P size tx x m news w)
 (h63:n+m≤maxLen)(hbytes:(n+m)*bytes≤140737488355328):
 ∃v' w',(Builtin.append_ #[t,tx] ty #[v,x]).run P w=.ok v' w'∧w'.ownsRow 0 e size v' (n+m) (xs++news)∧Fr (fun k=>v.ownBlock=some k) w w'∧
  (∀k,v'.ownBlock=some k→v.ownBlock=some k∨w.heap.size≤k)∧w'.ownsRow 0 e size v n xs:=by
 subst hsize
 subst hby
 have hsmall:n+m≤9223372036854775807:=by simp only[maxLen] at h63;omega
 have hlen:(xs++news).length=(n+m)*i.size:=by rw[List.length_append,hown.1,hs.newsLen,Nat.add_mul]
 have grown:∀(old:Nat),old<n+m→
  (w.drew.alloc (.cells ((xs++news).toArray++Builtin.zeroCells z.cells (grownCap w (n+m) old e-(n+m))) e)).ownsRow 0 e i.size
    (.slice (some ⟨w.heap.size,0,none⟩) (n+m) (grownCap w (n+m) old e)) (n+m) (xs++news):=by
  intro old ho
  have hge:=grownCap_ge w (n+m) old e
  have hcm:grownCap w (n+m) old e≤maxLen:=grownCap_le_maxLen w (n+m) old e h63
  refine⟨hlen,.inr ⟨w.heap.size,_,_,rfl,Nat.zero_le _,heap_alloc_new w.drew _,hge,hcm,?_,?_⟩⟩
  ·simp only[Array.size_append,List.size_toArray,size_zeroCells,hzs,hlen,←Nat.add_mul]
   congr 1
   omega
  ·simp only[Array.toList_append]
   rw[←hlen]
   exact List.take_left
 rcases hown.2 with⟨rfl,rfl⟩|⟨g,cap,cur,rfl,hbg,hg,hnc,hcm,hcs,htake⟩
 ·have hx:xs=[]:=List.eq_nil_of_length_eq_zero (by simpa using hown.1)
  subst hx
  by_cases hm:m=0
  ·subst hm
   have hn:news=[]:=List.eq_nil_of_length_eq_zero (by simpa using hs.newsLen)
   subst hn
   refine⟨.slice none 0 0,w,?_,World.ownsRow_nil w 0 e i.size,Fr.refl _ _,by simp[Value.ownBlock],World.ownsRow_nil w 0 e i.size⟩
   have hc:=hs.cells
   rcases hs.kind with⟨e',hk⟩|hk<;>simp[Builtin.append_,run_underlying ht,run_underlying hk,sizeOf,typeInfo,hi,hs.len,hc]
  ·have hr:=run_append_grow_src (P:=P) w t tx ty e i z ht hi hz none 0 0 [] (run_firstCells_none w.drew i.size 0 0 0) x m news hs (by omega) (by omega) (growslice_fits (by omega) (by simpa using hbytes))
   have hgr:=grown 0 (by omega)
   simp only[Nat.zero_add,List.nil_append] at hgr hr ⊢
   exact⟨_,_,hr,hgr,(Fr.refl _ _).drew.alloc _,by simp[Value.ownBlock],World.ownsRow_nil _ 0 e i.size⟩
 ·by_cases hroom:n+m≤cap
  ·have hfit:n*i.size+news.length≤cur.size:=by rw[hs.newsLen,hcs,←Nat.add_mul];exact Nat.mul_le_mul_right _ hroom
   have hr:=run_append_room_src (P:=P) w t tx ty e i ht hi g 0 n cap x m news hs hroom (fun j hj=>by rw[cell_of_row w g _ cur e _ hg];simp;omega) (fun j hj=>frozen_in hg _)
   rw[Nat.zero_add] at hr
   refine⟨_,_,hr,⟨hlen,.inr ⟨g,cap,_,rfl,Nat.zero_le _,setCells_heap g e news _ w cur hg,hroom,hcm,by rw[splice_size];exact hcs,?_⟩⟩,(setCells_fr g news _ w).mono (fun k _ h=>by rw[Value.ownBlock];exact congrArg some h),by simp[Value.ownBlock],⟨hown.1,.inr ⟨g,cap,_,rfl,Nat.zero_le _,setCells_heap g e news _ w cur hg,hnc,hcm,by rw[splice_size];exact hcs,by rw[splice_keep news cur _ hfit];exact htake⟩⟩⟩
   rw[show(n+m)*i.size=n*i.size+news.length by rw[hs.newsLen,Nat.add_mul],splice_take news cur _ hfit,htake]
  ·have holds:∀j u,xs[j]? =some u→w.cell? ((⟨g,0,none⟩:Addr).add j)=some u:=hown.cells (g:=g) rfl
   have hold:(Builtin.firstCells i.size n (.slice (some ⟨g,0,none⟩) n cap)).run P w.drew=.ok xs.toArray w.drew:=run_firstCells_some (P:=P) w.drew i.size n ⟨g,0,none⟩ n cap xs hown.1 (by simpa using holds)
   have hr:=run_append_grow_src (P:=P) w t tx ty e i z ht hi hz (some ⟨g,0,none⟩) n cap xs hold x m news hs (by omega) (by omega) (growslice_fits (by omega) hbytes)
   exact⟨_,_,hr,grown cap (by omega),(Fr.refl _ _).drew.alloc _,by simp[Value.ownBlock],⟨hown.1,.inr ⟨g,cap,cur,rfl,hbg,((Fr.refl (fun _=>False) w).drew.alloc _).keep hg (fun h=>h),hnc,hcm,hcs,htake⟩⟩⟩
end
end Mem
namespace Ga
open Mem Win
theorem append_own2{ops:Array Oper}{rest:List Oper}{o:Oper}{a:Act}{Q:Exit→Act→World→Prop}(hgd:o.guard=none)(s y:Operand){T t:TypeId}{z bytes n:Nat}{zero:Value}
 (ho:o.op=.call {callee:=.builtin .append,args:=#[s,y],argTypes:=#[t,t]})(hu:Tryz.prog.underlying t=some (.slice T))(hinfo:(Tryz.prog.info? T).map (fun i=>(i.zero,i.size,i.bytes))=some (some zero,z,bytes))(hzs:zero.cells.size=z)(hz0:0<z)(hbytes:(n+1)*bytes≤140737488355328)
 {w0 w:World}(v:Value)(xs:List Value)(cs:Array Value)(B:Nat)(hv:a.eval s=v)(hx:a.eval y=.slice (some ⟨B,0,none⟩) 1 1)(hm:Own T z w0 w v n xs)(hle:w0.heap.size≤w.heap.size)
 (hB:w.heap[B]? =some (.cells cs T (0,0)))(hcz:cs.size=z)(h1:∀u ∈ cs.toList,u.oneCell'=true)(hb:n≤70368744177664)
 (h:∀v' w',Own T z w0 w' v' (n+1) (xs++cs.toList)→Fr (fun k=>v.ownBlock=some k) w w'→(∀k,v'.ownBlock=some k→v.ownBlock=some k∨w.heap.size≤k)→Own T z w0 w' v n xs→wpList Tryz.prog ops Q rest (a.put o.dst v') w'):
 wpList Tryz.prog ops Q (o::rest) a w:=by
 obtain⟨i0,hi,hz0',hz1,hz2⟩:=info_parts hinfo
 have hs:Src Tryz.prog z t (.slice (some ⟨B,0,none⟩) 1 1) 1 cs.toList w:=Src.ofSlice w hu ⟨B,0,none⟩ 1 1 cs.toList (by simp[hcz]) (fun j u hu'=>by
  rw[add_mid,Nat.zero_add]
  exact cell_in hB (by simpa using hu')) h1
 refine wpList_plain hgd fun K hK=> ?_
 obtain⟨v',w',hr,h2,h3,h4,h5⟩:=run_append_any2 (P:=Tryz.prog) w t t o.type T i0 _ z bytes hu hi hz0' hz1 hz2 hzs hz0 v n xs hm.own _ 1 cs.toList hs (by simp only[maxLen];omega) hbytes
 unfold Oper.wp execOp
 simp only[ho,resolve,invoke,builtin,Sem.run_bind,Sem.run_pure,Result.andThen_ok,List.map_toArray,List.map_cons,List.map_nil,hv,hx,hr]
 refine hK _ _ (h v' w' ⟨h2,fun k hk=> ?_⟩ h3 h4 ⟨h5,hm.new⟩)
 rcases h4 k hk with h|h
 ·exact hm.new k h
 ·omega
theorem Own.set{T:TypeId}{z n cap g i:Nat}{w0 w:World}{xs:List Value}(h:Own T z w0 w (.slice (some ⟨g,0,none⟩) n cap) n xs)(hn:0<n)(u:Value):Own T z w0 (w.setCell ⟨g,i,none⟩ u) (.slice (some ⟨g,0,none⟩) n cap) n (xs.set i u):=by
 refine⟨?_,h.new⟩
 obtain⟨h1,h2⟩:=h.own
 refine⟨by rw[List.length_set];exact h1,?_⟩
 rcases h2 with⟨hnn,h0⟩|⟨g',cap',cur,hgv,h4,hg,hle,hm,hcs,ht⟩
 ·omega
 ·simp only[Value.slice.injEq,Option.some.injEq,Addr.mk.injEq,and_true] at hgv
  obtain⟨⟨rfl,_⟩,_,rfl⟩:=hgv
  refine .inr ⟨g,cap,_,rfl,h4,set_in hg i u,hle,hm,by simp[hcs],?_⟩
  rw[Array.toList_setIfInBounds,List.take_set,ht]
end Ga
namespace Enc
open Mem Win
def NewP(w:World)(e:Ending)(w':World):Prop:=∃b',e=.returned (.pointer (some ⟨b',0,none⟩))∧Fr (fun _=>False) w w'∧w.heap.size≤b'
theorem src_set{w:World}{b g:Nat}{ps:List Nat}(h:Prob.SetAt w b g ps):∃cap,w.heap[b]? =some (.cells #[.slice (some ⟨g,0,none⟩) ps.length cap] 285 (0,0))∧
 Src Tryz.prog 1 79 (.slice (some ⟨g,0,none⟩) ps.length cap) ps.length (ps.map (fun p:Nat=>Value.int .i64 (p:Int))) w:=by
 obtain⟨cap,cs,h1,h2,h3,h4,h5,h6⟩:=h
 refine⟨cap,h1,Src.ofSlice w Tryz.underlying79 ⟨g,0,none⟩ ps.length cap _ (by simp) (fun j u hj=> ?_) (fun u hu=> ?_)⟩
 ·rw[List.getElem?_map] at hj
  cases hp:ps[j]? with
  |none=>rw[hp] at hj;cases hj
  |some p=>
    rw[hp] at hj
    cases hj
    have:=cell_in h2 (h5 j p hp).1
    simp only[Addr.add,Nat.zero_add]
    split
    ·rename_i hj0
     subst hj0
     exact this
    ·exact this
 ·obtain⟨x,_,rfl⟩:=List.mem_map.1 hu
  rfl
theorem setFork_calls(b g:Nat)(ps:List Nat)(w:World)(h:Prob.SetAt w b g ps)(hn:ps.length≤1048576):Calls Tryz.prog 140 #[.pointer (some ⟨b,0,none⟩)] w (NewP w):=by
 obtain⟨i0,hi,hz0,hz1,hz2⟩:=info_parts Prob.infoInt
 obtain⟨cap,hb,hsrc⟩:=src_set h
 have hb0:w.cell? ⟨b,0,none⟩=some (.slice (some ⟨g,0,none⟩) ps.length cap):=cell_in hb rfl
 have HSRC:=Hd hsrc
 clear hsrc h hb
 go_enter Tryz.func140,Tryz.ntmps140
 go_wp2_with (at_builtin;refine wpList_append_any _ rfl _ _ 79 79 rfl 3 i0 (.int .i64 0) 1 8 Tryz.underlying79 hi hz0 hz1 hz2 rfl (by decide) (.slice none 0 0) 0 [] rfl (World.ownsRow_nil _ _ _ _) _ _ _ rfl HSRC.out (by simp only[maxLen];omega) (by omega) ?_;intro v' w1 hown1 hfr1 hnew1 hnil1;obtain⟨p',cap',rfl⟩:=own_slice hown1)
 go_ret
 exact⟨w1.heap.size,rfl,(hfr1.mono (fun i _ h=>by simp[Value.ownBlock] at h)).alloc _,hfr1.size⟩
theorem winFork_calls(B size t:Nat)(rv:Value)(all ring:List UInt8)(w:World)(h:At w B rv size all ring t)(hr:ring.length≤70368744177664):
 Calls Tryz.prog 98 #[.pointer (some ⟨B,0,none⟩)] w fun e w'=>∃b' rv',e=.returned (.pointer (some ⟨b',0,none⟩))∧Fr (fun _=>False) w w'∧w.heap.size≤b'∧At w' b' rv' size all ring t∧(∀k,rv'.ownBlock=some k→w.heap.size≤k):=by
 obtain⟨p,cap,rfl⟩:=h.slice
 have HH:=Hd h
 have hlB:=lt_of_block h.box
 have c0:w.cell? ⟨B,0,none⟩=some (.int .i64 size):=cell_in h.box rfl
 have c1:w.cell? ⟨B,1,none⟩=some (.slice p ring.length cap):=cell_in h.box rfl
 have c2:w.cell? ⟨B,2,none⟩=some (.int .i64 t):=cell_in h.box rfl
 have c3:w.cell? ⟨B,3,none⟩=some (.int .i64 all.length):=cell_in h.box rfl
 clear h
 have hsz:=(w.alloc (.cells #[.int .i64 size,.slice p ring.length cap,.int .i64 t,.int .i64 all.length] 161)).heap.size
 have hm0:Mine w ((w.alloc (.cells #[.int .i64 size,.slice p ring.length cap,.int .i64 t,.int .i64 all.length] 161)).alloc (.cells #[] 5)) (.slice (some ⟨w.heap.size+1,0,none⟩) 0 0) []:=by
  have h1:=World.ownsRow_made (base:=0) (e:=5) (size:=1) (w.alloc (.cells #[.int .i64 size,.slice p ring.length cap,.int .i64 t,.int .i64 all.length] 161)) #[] 0 (Nat.zero_le _) (by decide) rfl
  rw[World.size_alloc] at h1
  refine⟨h1,fun k hk=> ?_⟩
  simp only[Value.ownBlock,Option.some.injEq] at hk
  omega
 have HM0:=Hd hm0
 have hf0:Fr (fun _=>False) w ((w.alloc (.cells #[.int .i64 size,.slice p ring.length cap,.int .i64 t,.int .i64 all.length] 161)).alloc (.cells #[] 5)):=((Fr.refl _ w).alloc _).alloc _
 have HF0:=Hd hf0
 have hx0:=((Fr.refl (fun _=>False) (w.alloc (.cells #[.int .i64 size,.slice p ring.length cap,.int .i64 t,.int .i64 all.length] 161))).alloc (.cells #[] 5)).keep (heap_alloc_new w (.cells #[.int .i64 size,.slice p ring.length cap,.int .i64 t,.int .i64 all.length] 161)) (fun h=>h)
 have HX0:=Hd hx0
 have hrd0:Rd ((w.alloc (.cells #[.int .i64 size,.slice p ring.length cap,.int .i64 t,.int .i64 all.length] 161)).alloc (.cells #[] 5)) (.slice p ring.length cap) ring:=HH.out.rd.keep hf0
 have HR0:=Hd hrd0
 have hRL:=Hd hr
 obtain⟨rl,hrl⟩:∃rl,rl=ring.length:=⟨_,rfl⟩
 have HRL:=Hd hrl
 rw[←hrl] at c1
 clear hm0 hf0 hx0 hrd0 hr hsz hrl
 go_enter Tryz.func98,Tryz.ntmps98
 go_wp2_with (at_builtin;refine append_mine rfl _ _ rfl (w0:=w) (.slice (some ⟨w.heap.size+1,0,none⟩) 0 0) (.slice p rl cap) [] ring rfl rfl (by rw[HRL.out];exact HM0.out) (by rw[HRL.out];exact HF0.out.size) (by rw[HRL.out];exact HR0.out) (by have:=hRL.out;simp only[List.length_nil];omega) ?_;intro p2 cap2 n2 w2 hn2 hM2 hfr2 hnew2;have hx2:=hfr2.keep (by rw[HRL.out];exact HX0.out) (fun h=>by simp[Value.ownBlock] at h);have z1:=cell_in (i:=1) hx2 rfl;have zf:=frozen_in hx2 1;have HX2:=Hd hx2;have HM2:=Hd hM2;have HF2:=Hd hfr2;have HN2:=Hd hnew2;have HL2:=Hd hn2;clear hx2 hM2 hfr2 hnew2 hn2)
 go_ret
 have hM2:=HM2.out
 rw[List.nil_append] at hM2
 have hl2:=HL2.out
 rw[List.length_nil,Nat.zero_add] at hl2
 subst hl2
 have hne:∀k,(Value.slice p2 ring.length cap2).ownBlock=some k→w.heap.size+1≤k:=fun k hk=>by
  rcases HN2.out k hk with h|h
  ·simp only[Value.ownBlock,Option.some.injEq] at h
   omega
  ·rw[World.size_alloc,World.size_alloc] at h
   omega
 refine⟨w.heap.size,.slice p2 ring.length cap2,rfl,?_,Nat.le_refl _,⟨?_,?_,HH.out.of,HH.out.pos,HH.out.top,HH.out.much,fun k hk=>by have:=hne k hk;omega⟩,fun k hk=>by have:=hne k hk;omega⟩
 ·exact(HF0.out.trans' (by have:=HF2.out;rw[HRL.out] at this;exact this) (fun i hi(h:(Value.slice (some ⟨w.heap.size+1,0,none⟩) 0 0).ownBlock=some i)=>by
   simp only[Value.ownBlock,Option.some.injEq] at h
   omega)).setCell (.inr (Nat.le_refl _)) _
 ·rw[set_in HX2.out]
  rfl
 ·exact ownsRow_setCell_other hM2.own (fun h=>by
   have:=hne _ h
   simp only at this
   omega) _
theorem encNew_calls(w:World):Calls Tryz.prog 58 #[] w fun e w'=>e=.returned (.pointer (some ⟨w.heap.size,0,none⟩))∧Fr (fun _=>False) w w'∧w'.heap[w.heap.size]? =some (.cells #[.int .u64 0,.int .u32 4294967295,.int .u8 0,.int .i64 0,.slice none 0 0] 190 (0,0)):=by
 go_enter Tryz.func58,Tryz.ntmps58
 go_wp2_with fail
 go_ret
 exact⟨rfl,(Fr.refl _ w).alloc _,heap_alloc_new w _⟩
theorem encFork_calls(B:Nat)(w:World)(h:w.heap[B]? =some (.cells #[.int .u64 0,.int .u32 4294967295,.int .u8 0,.int .i64 0,.slice none 0 0] 190 (0,0))):Calls Tryz.prog 99 #[.pointer (some ⟨B,0,none⟩)] w (NewP w):=by
 have hlB:=lt_of_block h
 obtain⟨c0,c1,c2,c3,c4⟩:=cs5 h rfl rfl rfl rfl rfl
 have HH:=Hd h
 clear h
 have hmk:∀w:World,(Instr.makeSlice 22 (.int .i64 0) (.int .i64 8)).run Tryz.prog w=.ok (.slice (some ⟨w.heap.size,0,none⟩) 0 8) (w.alloc (.cells (Array.replicate 8 (.int .u8 0)) 5)):=fun _=>by kernel_rfl
 go_enter Tryz.func99,Tryz.ntmps99
 go_wp2_with fail
 go_region
 all_goals go_wp2_with fail
 all_goals go_ret
 all_goals exact⟨w.heap.size,rfl,(((Fr.refl _ w).alloc _).alloc _).drew,Nat.le_refl _⟩
end Enc
namespace Enc
open Mem Win Lz
abbrev four(wc:World)(z q0 q1 q2 q3:Nat):World:=(((wc.setCell ⟨z,0,none⟩ (.pointer (some ⟨q0,0,none⟩))).setCell ⟨z,1,none⟩ (.pointer (some ⟨q1,0,none⟩))).setCell ⟨z,2,none⟩ (.pointer (some ⟨q2,0,none⟩))).setCell ⟨z,3,none⟩ (.pointer (some ⟨q3,0,none⟩))
theorem len_ret{P:Program}{fn:Func}{a:Act}{w0 wc:World}{z q0 q1 q2 q3:Nat}(hr:(results fn a.tmps).run P (four wc z q0 q1 q2 q3)=.ok (.agg #[ptr q0,ptr q1,ptr q2,ptr q3]) (four wc z q0 q1 q2 q3))(hd:a.defers=[])
 (hfr:Fr (fun _=>False) w0 (four wc z q0 q1 q2 q3)):bodyPost P fn (fun e w'=>∃c0 c1 c2 c3,e=.returned (.agg #[ptr c0,ptr c1,ptr c2,ptr c3])∧Fr (fun _=>False) w0 w') .ret a (four wc z q0 q1 q2 q3):=
 bodyPost_ret hr hd ⟨q0,q1,q2,q3,rfl,hfr⟩
set_option maxRecDepth 100000 in
theorem lenFork_calls(b0 b1 b2 b3:Nat)(w:World)(H:∀x,x=b0∨x=b1∨x=b2∨x=b3→∃g ps,Prob.SetAt w x g ps∧ps.length≤1048576):
 Calls Tryz.prog 141 #[.agg #[ptr b0,ptr b1,ptr b2,ptr b3]] w fun e w'=>∃c0 c1 c2 c3,e=.returned (.agg #[ptr c0,ptr c1,ptr c2,ptr c3])∧Fr (fun _=>False) w w':=by
 have hf0:=((Fr.refl (fun _=>False) w).alloc (.cells #[ptr b0,ptr b1,ptr b2,ptr b3] 117)).alloc (.cells #[.pointer none,.pointer none,.pointer none,.pointer none] 117)
 have hx:=((Fr.refl (fun _=>False) (w.alloc (.cells #[ptr b0,ptr b1,ptr b2,ptr b3] 117))).alloc (.cells #[.pointer none,.pointer none,.pointer none,.pointer none] 117)).keep (heap_alloc_new w (.cells #[ptr b0,ptr b1,ptr b2,ptr b3] 117)) (fun h=>h)
 have hy:=heap_alloc_new (w.alloc (.cells #[ptr b0,ptr b1,ptr b2,ptr b3] 117)) (.cells #[.pointer none,.pointer none,.pointer none,.pointer none] 117)
 rw[World.size_alloc] at hy
 have HF0:=Hd hf0
 have HX:=Hd hx
 have HY:=Hd hy
 have HH:=Hd H
 clear hf0 hx hy H
 go_enter Tryz.func141,Tryz.ntmps141
 go_wp2_with fail
 generalize hW:(w.alloc (.cells #[ptr b0,ptr b1,ptr b2,ptr b3] 117)).alloc (.cells #[.pointer none,.pointer none,.pointer none,.pointer none] 117)=W at*
 clear hW
 have HS:=Hd (show∀w':World,Fr (fun k=>k=w.heap.size+1) W w'→w'.cell? ⟨w.heap.size,0,none⟩=some (ptr b0)∧w'.cell? ⟨w.heap.size,1,none⟩=some (ptr b1)∧w'.cell? ⟨w.heap.size,2,none⟩=some (ptr b2)∧w'.cell? ⟨w.heap.size,3,none⟩=some (ptr b3) from fun w' h=>
  ⟨cell_in (i:=0) (h.keep HX.out (by omega)) rfl,cell_in (i:=1) (h.keep HX.out (by omega)) rfl,cell_in (i:=2) (h.keep HX.out (by omega)) rfl,cell_in (i:=3) (h.keep HX.out (by omega)) rfl⟩)
 have HK:=Hd (show∀(x:Nat)(w':World),(x=b0∨x=b1∨x=b2∨x=b3)→Fr (fun k=>k=w.heap.size+1) W w'→Calls Tryz.prog 140 #[ptr x] w' (NewP w') from fun x w' hx h=>by
  obtain⟨g,ps,h1,h2⟩:=HH.out x hx
  exact setFork_calls x g ps w' (h1.keep (HF0.out.trans' h (fun i hi(e:i=w.heap.size+1)=>by omega))) h2)
 have HR:=Hd ((Fr.refl (fun k=>k=w.heap.size+1) W).drew)
 have HSC:=Hd (HS.out W.drew HR.out)
 obtain⟨c0,c1,c2,c3⟩:=HSC.out
 have HY:=Hd ((Fr.refl (fun _=>False) W).drew.keep HY.out (fun h=>h))
 go_region_held3 (fun w'=>w'.cell? ⟨w.heap.size,0,none⟩=some (ptr b0)∧w'.cell? ⟨w.heap.size,1,none⟩=some (ptr b1)∧w'.cell? ⟨w.heap.size,2,none⟩=some (ptr b2)∧w'.cell? ⟨w.heap.size,3,none⟩=some (ptr b3)) (first|with_reducible exact HSC.out|exact HS.out _ HR.out|exact HS.out _ ((((HR.out.setCell (.inl rfl) _).setCell (.inl rfl) _).setCell (.inl rfl) _).setCell (.inl rfl) _)) ((first
  | (go_at_call 140
     first
      |(with_reducible refine(HK.out b0 _ (.inl rfl) HR.out).mono ?_)
      |(with_reducible refine(HK.out b1 _ (.inr (.inl rfl)) HR.out).mono ?_)
      |(with_reducible refine(HK.out b2 _ (.inr (.inr (.inl rfl))) HR.out).mono ?_)
      |(with_reducible refine(HK.out b3 _ (.inr (.inr (.inr rfl))) HR.out).mono ?_)
     rintro e wc ⟨b,rfl,hfrc,_⟩
     have HR:=Hd (HR.out.trans (hfrc.mono (fun _ _ h=>h.elim)))
     have HSC:=Hd (HS.out _ HR.out)
     obtain⟨c0,c1,c2,c3⟩:=HSC.out
     have hy1:=hfrc.keep HY.out (fun h=>h)
     have HY:=Hd hy1
     obtain⟨y0,y1,y2,y3,yf⟩:=cf4 hy1 rfl rfl rfl rfl
     clear hfrc hy1)))
 all_goals go_wp2_with fail
 all_goals
  refine len_ret ?_ rfl ?_
  ·simp[four,results,Tryz.results141,go_sem,y0,y1,y2,y3,yf]
  ·exact(HF0.out.trans' HR.out (fun i hi(e:i=w.heap.size+1)=>by omega)).trans' ((((Fr.refl (fun k=>k=w.heap.size+1) wc).setCell (.inl rfl) _).setCell (.inl rfl) _).setCell (.inl rfl) _|>.setCell (.inl rfl) _) (fun i hi(e:i=w.heap.size+1)=>by omega)
end Enc
namespace Enc
open Mem Win Lz St
abbrev conf3:Array Value:=#[.int .i64 0,.int .i64 0,.int .i64 3,.int .i64 0,.int .i64 2,.int .i64 4096,.int .i64 0,.int .i64 0]
theorem props3(w:World):Calls Tryz.prog 45 #[.agg #[.int .i64 3,.int .i64 0,.int .i64 2]] w fun e w'=>(∃x,e=.returned (.tuple #[.int .i64 x,.int .i64 0]))∧Fr (fun _=>False) w w':=props_ok 3 0 2 (by omega) (by omega) w
theorem tables3(w:World):Calls Tryz.prog 47 #[.agg #[.int .i64 3,.int .i64 0,.int .i64 2]] w (NewPost 3 0 2 w):=tables_calls 3 0 2 w (by omega)
theorem good_calls(w:World):Calls Tryz.prog 36 #[.agg conf3] w fun e w'=>e=.returned (.bool true)∧Fr (fun _=>False) w w':=by
 have HF:=Hd ((Fr.refl (fun _=>False) w).alloc (.cells conf3 63))
 have HX:=Hd (heap_alloc_new w (.cells conf3 63))
 go_enter Tryz.func36,Tryz.ntmps36
 go_wp2_with fail
 refine(props3 _).mono ?_
 rintro e w1 ⟨⟨x,rfl⟩,hfr⟩
 have hx1:=hfr.keep HX.out (fun h=>h)
 have c5:=cell_in (i:=5) hx1 rfl
 have c7:=cell_in (i:=7) hx1 rfl
 have HF1:=Hd (HF.out.trans hfr)
 clear hfr hx1
 go_wp2_with fail
 go_ret
 exact⟨rfl,HF1.out⟩
structure EncAt(w:World)(D T W E:Nat)(b g:Nat→Nat):Prop where
 d:w.heap[D]? =some (.cells #[ptr T,ptr W,ptr E] 140 (0,0))
 tab:Tab w T b g 3 0 2 S.new (fresh 3 0)
 win:At w W (.slice none 0 0) 4096 [] [] 0
 rc:w.heap[E]? =some (.cells #[.int .u64 0,.int .u32 4294967295,.int .u8 0,.int .i64 0,.slice none 0 0] 190 (0,0))
theorem enew_calls(w:World):Calls Tryz.prog 37 #[.agg #[.int .i64 3,.int .i64 0,.int .i64 2],.int .i64 4096] w fun e w'=>Fr (fun _=>False) w w'∧∃D T W E b g,e=.returned (.tuple #[ptr D,.int .i64 0])∧w.heap.size≤D∧EncAt w' D T W E b g:=by
 have hx:=heap_alloc_new w (.cells #[.int .i64 3,.int .i64 0,.int .i64 2] 50)
 have hf0:=(Fr.refl (fun _=>False) w).alloc (.cells #[.int .i64 3,.int .i64 0,.int .i64 2] 50)
 have HT:=fun W=>Hd (tables3 W)
 unfold NewPost at HT
 have HX:=Hd hx
 have HF:=Hd hf0
 clear hx hf0
 go_enter Tryz.func37,Tryz.ntmps37
 go_wp2_with fail
 refine(props3 _).mono ?_
 rintro e w1 ⟨⟨x,rfl⟩,hfr1⟩
 have hx1:=hfr1.keep HX.out (fun h=>h)
 have HX1:=Hd hx1
 have HF1:=Hd (HF.out.trans hfr1)
 clear hfr1 hx1
 go_wp2_with fail
 refine(Win.new_in 4096 _ (by omega) (by omega)).mono ?_
 rintro e w2 ⟨rfl,hfr2,hW2⟩
 have hx2:=hfr2.keep HX1.out (fun h=>h)
 obtain⟨z0,z1,z2⟩:=cs3 hx2 rfl rfl rfl
 have HF2:=Hd hfr2
 have HW2:=Hd hW2
 clear hfr2 hW2 hx2
 go_wp2_with fail
 refine(HT _).out.mono ?_
 rintro e w3 ⟨T,b,g,rfl,hfr3,hTab,hT0,hn⟩
 have HF3:=Hd hfr3
 have HTab:=Hd hTab
 clear hfr3 hTab hn
 go_wp2_with fail
 refine(encNew_calls _).mono ?_
 rintro e w4 ⟨rfl,hfr4,hE⟩
 have HF4:=Hd hfr4
 have HE:=Hd hE
 clear hfr4 hE
 have FIN:=Hd (show Fr (fun _=>False) w (w4.alloc (.cells #[ptr T,ptr w1.heap.size,ptr w3.heap.size] 140))∧EncAt (w4.alloc (.cells #[ptr T,ptr w1.heap.size,ptr w3.heap.size] 140)) w4.heap.size T w1.heap.size w3.heap.size b g∧w.heap.size≤w4.heap.size from by
  have hf5:=(Fr.refl (fun _=>False) w4).alloc (.cells #[ptr T,ptr w1.heap.size,ptr w3.heap.size] 140)
  have h45:=HF4.out.trans hf5
  have h35:=HF3.out.trans h45
  have hs:=((HF1.out.trans HF2.out).trans HF3.out).trans HF4.out
  refine⟨hs.trans hf5,⟨heap_alloc_new _ _,⟨h45.keep HTab.out.box (fun h=>h),fun j hj=>(HTab.out.set j hj).keep h45,HTab.out.inj⟩,HW2.out.keep h35 (fun h=>h) (fun _ _ h=>h),hf5.keep HE.out (fun h=>h)⟩,hs.size⟩)
 go_wp2_with fail
 go_ret2
 exact⟨FIN.out.1,_,_,_,_,_,_,rfl,FIN.out.2.2,FIN.out.2.1⟩
end Enc
namespace Enc
open Mem Win Lz St
def TabForks:Prop:=∀(T lc lp pb:Nat)(b g:Nat→Nat)(s:S)(ps:Nat→List Nat)(w:World),Tab w T b g lc lp pb s ps→(∀j,j<18→(ps j).length≤1048576)→Calls Tryz.prog 97 #[ptr T] w (NewP w)
theorem fresh_small(j:Nat)(h:j<18):(fresh 3 0 j).length≤1048576:=by
 have h2:∀j,j<18→(fresh 3 0 j).length≤1048576:=by
  unfold fresh
  simp only[List.length_replicate]
  decide
 exact h2 j h
def Forked(w:World)(e:Ending)(w':World):Prop:=∃D T W E rv,e=.returned (ptr D)∧Fr (fun _=>False) w w'∧w.heap.size≤D∧w'.heap[D]? =some (.cells #[ptr T,ptr W,ptr E] 140 (0,0))∧At w' W rv 4096 [] [] 0∧w.heap.size≤W∧∀k,rv.ownBlock=some k→w.heap.size≤k
set_option maxRecDepth 100000 in
theorem efork_calls(TF:TabForks){w:World}{D T W E:Nat}{b g:Nat→Nat}(h:EncAt w D T W E b g):Calls Tryz.prog 60 #[ptr D] w (Forked w):=by
 have HH:=Hd h
 have HR:=Hd ((Fr.refl (fun _=>False) w).drew)
 have HS:=Hd (show∀w':World,Fr (fun _=>False) w w'→w'.cell? ⟨D,0,none⟩=some (ptr T)∧w'.cell? ⟨D,1,none⟩=some (ptr W)∧w'.cell? ⟨D,2,none⟩=some (ptr E) from fun w' hf=>
  ⟨cell_in (i:=0) (hf.keep h.d (fun h=>h)) rfl,cell_in (i:=1) (hf.keep h.d (fun h=>h)) rfl,cell_in (i:=2) (hf.keep h.d (fun h=>h)) rfl⟩)
 have HK0:=Hd (show∀w':World,Fr (fun _=>False) w w'→Calls Tryz.prog 97 #[ptr T] w' (NewP w') from fun w' hf=>
  TF T 3 0 2 b g S.new (fresh 3 0) w' ⟨hf.keep h.tab.box (fun h=>h),fun j hj=>(h.tab.set j hj).keep hf,h.tab.inj⟩ fresh_small)
 have HK1:=Hd (show∀w':World,Fr (fun _=>False) w w'→Calls Tryz.prog 98 #[ptr W] w' (fun e w''=>∃b' rv',e=.returned (.pointer (some ⟨b',0,none⟩))∧Fr (fun _=>False) w' w''∧w'.heap.size≤b'∧At w'' b' rv' 4096 [] [] 0∧(∀k,rv'.ownBlock=some k→w'.heap.size≤k)) from fun w' hf=>
  winFork_calls W 4096 0 (.slice none 0 0) [] [] w' (h.win.keep hf (fun h=>h) (fun _ _ h=>h)) (by decide))
 have HK2:=Hd (show∀w':World,Fr (fun _=>False) w w'→Calls Tryz.prog 99 #[ptr E] w' (NewP w') from fun w' hf=>encFork_calls E w' (hf.keep h.rc (fun h=>h)))
 have HSC:=Hd (HS.out w.drew HR.out)
 obtain⟨c0,c1,c2⟩:=HS.out w (Fr.refl _ _)
 clear h
 go_enter Tryz.func60,Tryz.ntmps60
 go_wp2_with fail
 have HWN:=Hd (show∀w':World,Fr (fun _=>False) w.drew w'→True from fun _ _=>trivial)
 go_region_held3 (fun w'=>w'.cell? ⟨D,0,none⟩=some (ptr T)∧w'.cell? ⟨D,1,none⟩=some (ptr W)∧w'.cell? ⟨D,2,none⟩=some (ptr E)) (first|with_reducible exact HSC.out|with_reducible exact HS.out _ HR.out|with_reducible exact HS.out _ (HR.out.alloc _)) ((first
  | (go_at_call 97
     with_reducible refine(HK0.out _ HR.out).mono ?_
     rintro e wc ⟨bT,rfl,hfrc,_⟩
     have HR:=Hd (HR.out.trans hfrc)
     have HSC:=Hd (HS.out _ HR.out)
     obtain⟨c0,c1,c2⟩:=HSC.out
     have HWN:=Hd (fun(w':World)(hf:Fr (fun _=>False) wc w')=>HWN.out w' (hfrc.trans hf))
     clear hfrc)
  | (go_at_call 99
     with_reducible refine(HK2.out _ HR.out).mono ?_
     rintro e wc ⟨bE,rfl,hfrc,_⟩
     have HR:=Hd (HR.out.trans hfrc)
     have HSC:=Hd (HS.out _ HR.out)
     obtain⟨c0,c1,c2⟩:=HSC.out
     have HWN:=Hd (fun(w':World)(hf:Fr (fun _=>False) wc w')=>HWN.out w' (hfrc.trans hf))
     clear hfrc)
  | (go_at_call 98
     with_reducible refine(HK1.out _ HR.out).mono ?_
     rintro e wc ⟨bW,rvW,rfl,hfrc,hbW,hAt,hrvW⟩
     have hw0:=HR.out.size
     have HR:=Hd (HR.out.trans hfrc)
     have HSC:=Hd (HS.out _ HR.out)
     obtain⟨c0,c1,c2⟩:=HSC.out
     have HWN:=Hd (show∀w':World,Fr (fun _=>False) wc w'→At w' bW rvW 4096 [] [] 0∧w.heap.size≤bW∧∀k,rvW.ownBlock=some k→w.heap.size≤k from fun w' hf=>⟨hAt.keep hf (fun h=>h) (fun _ _ h=>h),Nat.le_trans hw0 hbW,fun k hk=>Nat.le_trans hw0 (hrvW k hk)⟩)
     clear hfrc hbW hAt hrvW hw0)))
 all_goals go_wp2_with fail
 all_goals go_ret
 all_goals
  have hfa:=(Fr.refl (fun _=>False) wc).alloc (.cells #[ptr bT,ptr bW,ptr bE] 140)
  exact⟨_,_,_,_,rvW,rfl,HR.out.trans hfa,HR.out.size,heap_alloc_new _ _,(HWN.out _ hfa).1,(HWN.out wc (Fr.refl _ _)).2⟩
theorem eraw_calls(D T W E:Nat)(rv v:Value)(b:List UInt8)(w:World)(hd:w.heap[D]? =some (.cells #[ptr T,ptr W,ptr E] 140 (0,0)))(hw:At w W rv 4096 [] [] 0)(hb:Rd w v b)(hap:0<b.length→∀k,v.ownBlock=some k→rv.ownBlock≠some k)(hl:b.length≤1048576):
 Calls Tryz.prog 61 #[ptr D,v] w fun e w'=>e=.returned (.tuple #[])∧Fr (fun k=>k=W∨rv.ownBlock=some k) w w':=by
 have c1:w.cell? ⟨D,1,none⟩=some (ptr W):=cell_in hd rfl
 have HP:=Hd (put_calls W 4096 0 rv v [] [] b w hw hb hap (by simp only[List.length_nil];omega))
 clear hd hw hb hap hl
 go_enter Tryz.func61,Tryz.ntmps61
 go_wp2_with fail
 refine HP.out.mono ?_
 rintro e w2 ⟨rfl,rv',ring',t',hfr,_⟩
 have HF:=Hd hfr
 clear hfr
 go_wp2_with fail
 go_end0
 exact⟨rfl,HF.out⟩
end Enc
end Go.Proofs.YtilegoadokmcdaaGreatDoor
