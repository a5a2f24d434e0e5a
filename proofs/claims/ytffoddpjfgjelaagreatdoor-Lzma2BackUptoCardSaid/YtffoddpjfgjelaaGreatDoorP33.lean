/- Part 33 of 52: lemmas of the last part, each under the conditions that it names. -/
import Derived.Deep.RegionLaw
import Derived.Deep.RegionHeld3
import Derived.Deep.WholeRow
import Derived.Test.YtffoddpjfgjelaaGreatDoorP02
import Derived.Test.YtffoddpjfgjelaaGreatDoorP03
import Derived.Test.YtffoddpjfgjelaaGreatDoorP08
set_option linter.unusedVariables false
set_option linter.unusedSimpArgs false
set_option maxRecDepth 1500
set_option maxHeartbeats 4000000
namespace Go.Proofs.YtffoddpjfgjelaaGreatDoor
open Go.RowKit
namespace Enc
open Mem Win
theorem src_set{w:World}{b g:Nat}{ps:List Nat}(h:Prob.SetAt w b g ps):∃cap,w.heap[b]? =some (.cells #[.slice (some ⟨g,0,none⟩) ps.length cap] 360 (0,0))∧
 Src Tryz.prog 1 94 (.slice (some ⟨g,0,none⟩) ps.length cap) ps.length (ps.map (fun p:Nat=>Value.int .i64 (p:Int))) w:=by
 obtain⟨cap,cs,h1,h2,h3,h4,h5,h6⟩:=h
 refine⟨cap,h1,Src.ofSlice w Tryz.underlying94 ⟨g,0,none⟩ ps.length cap _ (by simp) (fun j u hj=> ?_) (fun u hu=> ?_)⟩
 ·rw[List.getElem?_map] at hj
  cases hp:ps[j]? with
  |none=>rw[hp] at hj;cases hj
  |some p=>
    rw[hp] at hj
    cases hj
    have:=cell_in h2 (h5 j p hp).1
    simp only[Addr.add,Nat.zero_add]
    split
    ·rename_i hj0
     subst hj0
     exact this
    ·exact this
 ·obtain⟨x,_,rfl⟩:=List.mem_map.1 hu
  rfl
theorem winFork_calls(B size t:Nat)(rv:Value)(all ring:List UInt8)(w:World)(h:At w B rv size all ring t)(hr:ring.length≤70368744177664):
 Calls Tryz.prog 120 #[.pointer (some ⟨B,0,none⟩)] w fun e w'=>∃b' rv',e=.returned (.pointer (some ⟨b',0,none⟩))∧Fr (fun _=>False) w w'∧w.heap.size≤b'∧At w' b' rv' size all ring t∧(∀k,rv'.ownBlock=some k→w.heap.size≤k):=by
 obtain⟨p,cap,rfl⟩:=h.slice
 have HH:=Hd h
 have hlB:=lt_of_block h.box
 have c0:w.cell? ⟨B,0,none⟩=some (.int .i64 size):=cell_in h.box rfl
 have c1:w.cell? ⟨B,1,none⟩=some (.slice p ring.length cap):=cell_in h.box rfl
 have c2:w.cell? ⟨B,2,none⟩=some (.int .i64 t):=cell_in h.box rfl
 have c3:w.cell? ⟨B,3,none⟩=some (.int .i64 all.length):=cell_in h.box rfl
 clear h
 have hsz:=(w.alloc (.cells #[.int .i64 size,.slice p ring.length cap,.int .i64 t,.int .i64 all.length] 210)).heap.size
 have hm0:Mine w ((w.alloc (.cells #[.int .i64 size,.slice p ring.length cap,.int .i64 t,.int .i64 all.length] 210)).alloc (.cells #[] 5)) (.slice (some ⟨w.heap.size+1,0,none⟩) 0 0) []:=by
  have h1:=World.ownsRow_made (base:=0) (e:=5) (size:=1) (w.alloc (.cells #[.int .i64 size,.slice p ring.length cap,.int .i64 t,.int .i64 all.length] 210)) #[] 0 (Nat.zero_le _) (by decide) rfl
  rw[World.size_alloc] at h1
  refine⟨h1,fun k hk=> ?_⟩
  simp only[Value.ownBlock,Option.some.injEq] at hk
  omega
 have HM0:=Hd hm0
 have hf0:Fr (fun _=>False) w ((w.alloc (.cells #[.int .i64 size,.slice p ring.length cap,.int .i64 t,.int .i64 all.length] 210)).alloc (.cells #[] 5)):=((Fr.refl _ w).alloc _).alloc _
 have HF0:=Hd hf0
 have hx0:=((Fr.refl (fun _=>False) (w.alloc (.cells #[.int .i64 size,.slice p ring.length cap,.int .i64 t,.int .i64 all.length] 210))).alloc (.cells #[] 5)).keep (heap_alloc_new w (.cells #[.int .i64 size,.slice p ring.length cap,.int .i64 t,.int .i64 all.length] 210)) (fun h=>h)
 have HX0:=Hd hx0
 have hrd0:Rd ((w.alloc (.cells #[.int .i64 size,.slice p ring.length cap,.int .i64 t,.int .i64 all.length] 210)).alloc (.cells #[] 5)) (.slice p ring.length cap) ring:=HH.out.rd.keep hf0
 have HR0:=Hd hrd0
 have hRL:=Hd hr
 obtain⟨rl,hrl⟩:∃rl,rl=ring.length:=⟨_,rfl⟩
 have HRL:=Hd hrl
 rw[←hrl] at c1
 clear hm0 hf0 hx0 hrd0 hr hsz hrl
 go_enter Tryz.func120,Tryz.ntmps120
 go_wp2_with (at_builtin;refine append_mine rfl _ _ rfl (w0:=w) (.slice (some ⟨w.heap.size+1,0,none⟩) 0 0) (.slice p rl cap) [] ring rfl rfl (by rw[HRL.out];exact HM0.out) (by rw[HRL.out];exact HF0.out.size) (by rw[HRL.out];exact HR0.out) (by have:=hRL.out;simp only[List.length_nil];omega) ?_;intro p2 cap2 n2 w2 hn2 hM2 hfr2 hnew2;have hx2:=hfr2.keep (by rw[HRL.out];exact HX0.out) (fun h=>by simp[Value.ownBlock] at h);have z1:=cell_in (i:=1) hx2 rfl;have zf:=frozen_in hx2 1;have HX2:=Hd hx2;have HM2:=Hd hM2;have HF2:=Hd hfr2;have HN2:=Hd hnew2;have HL2:=Hd hn2;clear hx2 hM2 hfr2 hnew2 hn2)
 go_ret
 have hM2:=HM2.out
 rw[List.nil_append] at hM2
 have hl2:=HL2.out
 rw[List.length_nil,Nat.zero_add] at hl2
 subst hl2
 have hne:∀k,(Value.slice p2 ring.length cap2).ownBlock=some k→w.heap.size+1≤k:=fun k hk=>by
  rcases HN2.out k hk with h|h
  ·simp only[Value.ownBlock,Option.some.injEq] at h
   omega
  ·rw[World.size_alloc,World.size_alloc] at h
   omega
 refine⟨w.heap.size,.slice p2 ring.length cap2,rfl,?_,Nat.le_refl _,⟨?_,?_,HH.out.of,HH.out.pos,HH.out.top,HH.out.much,fun k hk=>by have:=hne k hk;omega⟩,fun k hk=>by have:=hne k hk;omega⟩
 ·exact(HF0.out.trans' (by have:=HF2.out;rw[HRL.out] at this;exact this) (fun i hi(h:(Value.slice (some ⟨w.heap.size+1,0,none⟩) 0 0).ownBlock=some i)=>by
   simp only[Value.ownBlock,Option.some.injEq] at h
   omega)).setCell (.inr (Nat.le_refl _)) _
 ·rw[set_in HX2.out]
  rfl
 ·exact ownsRow_setCell_other hM2.own (fun h=>by
   have:=hne _ h
   simp only at this
   omega) _
end Enc
namespace Enc
open Mem Win
section
variable {P:Program}(w:World)
theorem run_append_nil(t tx ty e:TypeId)(i:TypeInfo)(z:Value)(size bytes:Nat)(ht:P.underlying t=some (.slice e))(hi:P.info? e=some i)(hz:i.zero=some z)
 (hsize:i.size=size)(hby:i.bytes=bytes)(hzs:z.cells.size=size)(hsz:0<size)(x:Value)(m:Nat)(news:List Value)(hs:Src P size tx x m news w)(hm:0<m)
 (h63:m≤maxLen)(hbytes:m*bytes≤140737488355328):
 (Builtin.append_ #[t,tx] ty #[.slice none 0 0,x]).run P w=.ok (.slice (some ⟨w.heap.size,0,none⟩) m (grownCap w m 0 e)) (w.drew.alloc (.cells (news.toArray++Builtin.zeroCells z.cells (grownCap w m 0 e-m)) e))∧m≤grownCap w m 0 e∧grownCap w m 0 e≤maxLen:=by
 subst hsize
 subst hby
 have hsmall:m≤9223372036854775807:=by simp only[maxLen] at h63;omega
 have hr:=run_append_grow_src (P:=P) w t tx ty e i z ht hi hz none 0 0 [] (run_firstCells_none w.drew i.size 0 0 0) x m news hs (by omega) (by omega) (growslice_fits (by omega) (by simpa using hbytes))
 simp only[Nat.zero_add,List.nil_append] at hr
 exact⟨hr,grownCap_ge w m 0 e,grownCap_le_maxLen w m 0 e h63⟩
end
section
variable {P:Program}(w:World)
theorem wpList_append_nil{ops:Array Oper}{rest:List Oper}{o:Oper}{a:Act}{Q:Exit→Act→World→Prop}(hgd:o.guard=none)(s y:Operand)(t tx:TypeId)
 (ho:o.op=.call {callee:=.builtin .append,args:=#[s,y],argTypes:=#[t,tx]})
 (e:TypeId)(i:TypeInfo)(z:Value)(size bytes:Nat)(ht:P.underlying t=some (.slice e))(hi:P.info? e=some i)(hz:i.zero=some z)
 (hsize:i.size=size)(hby:i.bytes=bytes)(hzs:z.cells.size=size)(hsz:0<size)
 (hv:a.eval s=.slice none 0 0)(x:Value)(m:Nat)(news:List Value)(hx:a.eval y=x)(hs:Src P size tx x m news w)(hm:0<m)
 (h63:m≤maxLen)(hbytes:m*bytes≤140737488355328)
 (h:∀cap,m≤cap→cap≤maxLen→wpList P ops Q rest (a.put o.dst (.slice (some ⟨w.heap.size,0,none⟩) m cap)) (w.drew.alloc (.cells (news.toArray++Builtin.zeroCells z.cells (cap-m)) e))):wpList P ops Q (o::rest) a w:=by
 obtain⟨hr,h1,h2⟩:=run_append_nil (P:=P) w t tx o.type e i z size bytes ht hi hz hsize hby hzs hsz x m news hs hm h63 hbytes
 refine wpList_plain hgd fun _ hK=> ?_
 unfold Oper.wp execOp
 simp only[ho,resolve,invoke,builtin,Sem.run_bind,Sem.run_pure,Result.andThen_ok,List.map_toArray,List.map_cons,List.map_nil,hv,hx,hr]
 exact hK _ _ (h _ h1 h2)
end
def NewSet(w:World)(ps:List Nat)(e:Ending)(w':World):Prop:=∃q,e=.returned (.pointer (some ⟨q+1,0,none⟩))∧Fr (fun _=>False) w w'∧w.heap.size≤q∧q+1<w'.heap.size∧Prob.SetAt w' (q+1) q ps
theorem set_le{w:World}{b g:Nat}{ps:List Nat}(h:Prob.SetAt w b g ps):∀p ∈ ps,p≤2047:=by
 obtain⟨cap,cs,h1,h2,h3,h4,h5,h6⟩:=h
 intro p hp
 obtain⟨i,hi⟩:=List.getElem?_of_mem hp
 exact(h5 i p hi).2
theorem set_new{w:World}{ps:List Nat}{cap:Nat}(h0:0<ps.length)(hc:ps.length≤cap)(hm:cap≤maxLen)(hle:∀p ∈ ps,p≤2047):
 Prob.SetAt ((w.alloc (.cells ((ps.map (fun p:Nat=>Value.int .i64 (p:Int))).toArray++Builtin.zeroCells #[.int .i64 0] (cap-ps.length)) 3)).alloc (.cells #[.slice (some ⟨w.heap.size,0,none⟩) ps.length cap] 360)) (w.heap.size+1) w.heap.size ps:=by
 have h1:=heap_alloc_new w (.cells ((ps.map (fun p:Nat=>Value.int .i64 (p:Int))).toArray++Builtin.zeroCells #[.int .i64 0] (cap-ps.length)) 3)
 have h2:=heap_alloc_new (w.alloc (.cells ((ps.map (fun p:Nat=>Value.int .i64 (p:Int))).toArray++Builtin.zeroCells #[.int .i64 0] (cap-ps.length)) 3)) (.cells #[.slice (some ⟨w.heap.size,0,none⟩) ps.length cap] 360)
 have h3:=((Fr.refl (fun _=>False) (w.alloc (.cells ((ps.map (fun p:Nat=>Value.int .i64 (p:Int))).toArray++Builtin.zeroCells #[.int .i64 0] (cap-ps.length)) 3))).alloc (.cells #[.slice (some ⟨w.heap.size,0,none⟩) ps.length cap] 360)).keep h1 (fun h=>h)
 simp only[World.size_alloc] at h2 h3
 refine⟨cap,_,h2,h3,hc,hm,fun i p hp=>⟨?_,hle p (List.mem_of_getElem? hp)⟩,fun j x hx=> ?_⟩
 ·have hi:=(List.getElem?_eq_some_iff.1 hp).1
  rw[Array.getElem?_append_left (by simp;exact hi)]
  simp[hp]
 ·rw[Array.getElem?_append] at hx
  split at hx
  ·simp only[List.getElem?_toArray,List.getElem?_map] at hx
   cases hp:ps[j]? with
   |none=>rw[hp] at hx;exact absurd hx (by simp)
   |some p=>
     rw[hp] at hx
     simp only[Option.map_some,Option.some.injEq] at hx
     exact⟨p,hx.symm⟩
  ·have hmem:=Array.mem_of_getElem? hx
   have h5:∃a,a<cap-ps.length∧[Value.int IntKind.i64 0][a%1]?.getD default=x:=by simpa [Builtin.zeroCells] using hmem
   obtain⟨a,_,ha⟩:=h5
   rw[Nat.mod_one] at ha
   exact⟨0,ha.symm⟩
theorem setForkP_calls(b g:Nat)(ps:List Nat)(w:World)(h:Prob.SetAt w b g ps)(h0:0<ps.length)(hn:ps.length≤1048576):Calls Tryz.prog 178 #[.pointer (some ⟨b,0,none⟩)] w (NewSet w ps):=by
 obtain⟨i0,hi,hz0,hz1,hz2⟩:=info_parts Prob.infoInt
 have hle:=set_le h
 obtain⟨cap,hb,hsrc⟩:=src_set h
 have hb0:w.cell? ⟨b,0,none⟩=some (.slice (some ⟨g,0,none⟩) ps.length cap):=cell_in hb rfl
 have HSRC:=Hd hsrc
 clear hsrc h hb
 go_enter Tryz.func178,Tryz.ntmps178
 go_wp2_with (at_builtin;refine wpList_append_nil _ rfl _ _ 94 94 rfl 3 i0 (.int .i64 0) 1 8 Tryz.underlying94 hi hz0 hz1 hz2 rfl (by decide) rfl _ _ _ rfl HSRC.out h0 (by simp only[maxLen];omega) (by omega) ?_;intro cap' hc1 hc2;have HS:=Hd (set_new (w:=w) h0 hc1 hc2 hle))
 go_ret
 exact⟨w.heap.size,rfl,(((Fr.refl (fun _=>False) w).alloc _).alloc _).drew,Nat.le_refl _,by simp,HS.out.keep (Fr.refl _ _).drew⟩
end Enc
namespace Enc
open Mem Win Lz
end Enc
namespace Enc
open Mem Win Lz St
def NewLen(w:World)(p0 p1 p2 p3:List Nat)(e:Ending)(w':World):Prop:=∃q0 q1 q2 q3,e=.returned (.agg #[ptr (q0+1),ptr (q1+1),ptr (q2+1),ptr (q3+1)])∧Fr (fun _=>False) w w'∧w.heap.size≤q0∧q0+1<q1∧q1+1<q2∧q2+1<q3∧q3+1<w'.heap.size∧
 Prob.SetAt w' (q0+1) q0 p0∧Prob.SetAt w' (q1+1) q1 p1∧Prob.SetAt w' (q2+1) q2 p2∧Prob.SetAt w' (q3+1) q3 p3
theorem up1{w w':World}{B:Nat}(h:Fr (fun _=>False) w w'):Fr (fun k=>k=B) w w':=h.mono (fun _ _ h=>h.elim)
theorem lenP_ret{P:Program}{fn:Func}{a:Act}{Q:Ending→World→Prop}{wc wx:World}{q0 q1 q2 q3:Nat}(hr:(results fn a.tmps).run P wx=.ok (.agg #[ptr q0,ptr q1,ptr q2,ptr q3]) wx)(hd:a.defers=[])
 (hq:Q (.returned (.agg #[ptr q0,ptr q1,ptr q2,ptr q3])) wx):bodyPost P fn Q .ret a wx:=bodyPost_ret hr hd hq
set_option maxRecDepth 100000 in
theorem lenForkP_calls(b0 b1 b2 b3 g0 g1 g2 g3:Nat)(p0 p1 p2 p3:List Nat)(w:World)(h0:Prob.SetAt w b0 g0 p0)(h1:Prob.SetAt w b1 g1 p1)(h2:Prob.SetAt w b2 g2 p2)(h3:Prob.SetAt w b3 g3 p3)
 (n0:0<p0.length∧p0.length≤1048576)(n1:0<p1.length∧p1.length≤1048576)(n2:0<p2.length∧p2.length≤1048576)(n3:0<p3.length∧p3.length≤1048576):
 Calls Tryz.prog 179 #[.agg #[ptr b0,ptr b1,ptr b2,ptr b3]] w (NewLen w p0 p1 p2 p3):=by
 have hf0:=((Fr.refl (fun _=>False) w).alloc (.cells #[ptr b0,ptr b1,ptr b2,ptr b3] 214)).alloc (.cells #[.pointer none,.pointer none,.pointer none,.pointer none] 214)
 have hx:=((Fr.refl (fun _=>False) (w.alloc (.cells #[ptr b0,ptr b1,ptr b2,ptr b3] 214))).alloc (.cells #[.pointer none,.pointer none,.pointer none,.pointer none] 214)).keep (heap_alloc_new w (.cells #[ptr b0,ptr b1,ptr b2,ptr b3] 214)) (fun h=>h)
 have hy:=heap_alloc_new (w.alloc (.cells #[ptr b0,ptr b1,ptr b2,ptr b3] 214)) (.cells #[.pointer none,.pointer none,.pointer none,.pointer none] 214)
 rw[World.size_alloc] at hy
 have HF0:=Hd hf0
 have HX:=Hd hx
 have HY:=Hd hy
 have H0:=Hd h0
 have H1:=Hd h1
 have H2:=Hd h2
 have H3:=Hd h3
 clear hf0 hx hy h0 h1 h2 h3
 go_enter Tryz.func179,Tryz.ntmps179
 go_wp2_with fail
 generalize hW:(w.alloc (.cells #[ptr b0,ptr b1,ptr b2,ptr b3] 214)).alloc (.cells #[.pointer none,.pointer none,.pointer none,.pointer none] 214)=W at*
 clear hW
 have HS:=Hd (show∀w':World,Fr (fun k=>k=w.heap.size+1) W w'→w'.cell? ⟨w.heap.size,0,none⟩=some (ptr b0)∧w'.cell? ⟨w.heap.size,1,none⟩=some (ptr b1)∧w'.cell? ⟨w.heap.size,2,none⟩=some (ptr b2)∧w'.cell? ⟨w.heap.size,3,none⟩=some (ptr b3) from fun w' h=>
  ⟨cell_in (i:=0) (h.keep HX.out (by omega)) rfl,cell_in (i:=1) (h.keep HX.out (by omega)) rfl,cell_in (i:=2) (h.keep HX.out (by omega)) rfl,cell_in (i:=3) (h.keep HX.out (by omega)) rfl⟩)
 have HR:=Hd ((Fr.refl (fun _=>False) W).drew)
 have HSC:=Hd (HS.out W.drew (up1 (B:=w.heap.size+1) HR.out))
 obtain⟨c0,c1,c2,c3⟩:=HSC.out
 have HSZ:=Hd HF0.out.size
 go_region_held3 (fun w'=>w'.cell? ⟨w.heap.size,0,none⟩=some (ptr b0)∧w'.cell? ⟨w.heap.size,1,none⟩=some (ptr b1)∧w'.cell? ⟨w.heap.size,2,none⟩=some (ptr b2)∧w'.cell? ⟨w.heap.size,3,none⟩=some (ptr b3)) (first|with_reducible exact HSC.out|exact HS.out _ (up1 (B:=w.heap.size+1) HR.out)|exact HS.out _ (((((up1 (B:=w.heap.size+1) HR.out).setCell (.inl rfl) _).setCell (.inl rfl) _).setCell (.inl rfl) _).setCell (.inl rfl) _)) ((first
  | (go_at_call 178
     with_reducible refine(setForkP_calls b0 g0 p0 _ (H0.out.keep (HF0.out.trans HR.out)) n0.1 n0.2).mono ?_
     rintro e wc ⟨q0,rfl,hfrc,hq,hq2,hs⟩
     have HQ0:=Hd (⟨Nat.le_trans (HF0.out.trans HR.out).size hq,hq2⟩:w.heap.size≤q0∧q0+1<wc.heap.size)
     have HS0:=Hd hs
     have HR:=Hd (HR.out.trans hfrc)
     have HSC:=Hd (HS.out _ (up1 (B:=w.heap.size+1) HR.out))
     obtain⟨c0,c1,c2,c3⟩:=HSC.out
     clear hfrc hq hq2 hs)
  | (go_at_call 178
     with_reducible refine(setForkP_calls b1 g1 p1 _ (H1.out.keep (HF0.out.trans HR.out)) n1.1 n1.2).mono ?_
     rintro e wc ⟨q1,rfl,hfrc,hq,hq2,hs⟩
     have HQ1:=Hd (⟨Nat.lt_of_lt_of_le HQ0.out.2 hq,hq2⟩:q0+1<q1∧q1+1<wc.heap.size)
     have HS0:=Hd (HS0.out.keep hfrc)
     have HS1:=Hd hs
     have HR:=Hd (HR.out.trans hfrc)
     have HSC:=Hd (HS.out _ (up1 (B:=w.heap.size+1) HR.out))
     obtain⟨c0,c1,c2,c3⟩:=HSC.out
     clear hfrc hq hq2 hs)
  | (go_at_call 178
     with_reducible refine(setForkP_calls b2 g2 p2 _ (H2.out.keep (HF0.out.trans HR.out)) n2.1 n2.2).mono ?_
     rintro e wc ⟨q2,rfl,hfrc,hq,hq2,hs⟩
     have HQ2:=Hd (⟨Nat.lt_of_lt_of_le HQ1.out.2 hq,hq2⟩:q1+1<q2∧q2+1<wc.heap.size)
     have HS0:=Hd (HS0.out.keep hfrc)
     have HS1:=Hd (HS1.out.keep hfrc)
     have HS2:=Hd hs
     have HR:=Hd (HR.out.trans hfrc)
     have HSC:=Hd (HS.out _ (up1 (B:=w.heap.size+1) HR.out))
     obtain⟨c0,c1,c2,c3⟩:=HSC.out
     clear hfrc hq hq2 hs)
  | (go_at_call 178
     with_reducible refine(setForkP_calls b3 g3 p3 _ (H3.out.keep (HF0.out.trans HR.out)) n3.1 n3.2).mono ?_
     rintro e wc ⟨q3,rfl,hfrc,hq,hq2,hs⟩
     have HQ3:=Hd (⟨Nat.lt_of_lt_of_le HQ2.out.2 hq,hq2⟩:q2+1<q3∧q3+1<wc.heap.size)
     have HS0:=Hd (HS0.out.keep hfrc)
     have HS1:=Hd (HS1.out.keep hfrc)
     have HS2:=Hd (HS2.out.keep hfrc)
     have HS3:=Hd hs
     have HR:=Hd (HR.out.trans hfrc)
     have HSC:=Hd (HS.out _ (up1 (B:=w.heap.size+1) HR.out))
     obtain⟨c0,c1,c2,c3⟩:=HSC.out
     have HY:=Hd (HR.out.keep HY.out (fun h=>h))
     obtain⟨y0,y1,y2,y3,yf⟩:=cf4 HY.out rfl rfl rfl rfl
     clear hfrc hq hq2 hs)))
 go_wp2_with fail
 have hfw:Fr (fun k=>k=w.heap.size+1) wc ((((wc.setCell ⟨w.heap.size+1,0,none⟩ (.pointer (some ⟨q0+1,0,none⟩))).setCell ⟨w.heap.size+1,1,none⟩ (.pointer (some ⟨q1+1,0,none⟩))).setCell ⟨w.heap.size+1,2,none⟩ (.pointer (some ⟨q2+1,0,none⟩))).setCell ⟨w.heap.size+1,3,none⟩ (.pointer (some ⟨q3+1,0,none⟩))):=(((Fr.one _ _ _ _).trans (Fr.one _ _ _ _)).trans (Fr.one _ _ _ _)).trans (Fr.one _ _ _ _)
 have hne:∀{b g:Nat}{ps:List Nat},Prob.SetAt wc b g ps→¬b=w.heap.size+1∧¬g=w.heap.size+1:=fun{b g ps} h=>by
  obtain⟨cap,cs,h1,h2,_⟩:=h
  constructor
  ·rintro rfl
   rw[HY.out] at h1
   simp at h1
  ·rintro rfl
   rw[HY.out] at h2
   simp at h2
 refine lenP_ret (q0:=q0+1) (q1:=q1+1) (q2:=q2+1) (q3:=q3+1) (wc:=wc) ?_ rfl ⟨q0,q1,q2,q3,rfl,(HF0.out.trans HR.out).trans' hfw (fun i hi(e:i=w.heap.size+1)=>by omega),HQ0.out.1,HQ1.out.1,HQ2.out.1,HQ3.out.1,by simpa using HQ3.out.2,HS0.out.step hfw (hne HS0.out).1 (hne HS0.out).2,HS1.out.step hfw (hne HS1.out).1 (hne HS1.out).2,HS2.out.step hfw (hne HS2.out).1 (hne HS2.out).2,HS3.out.step hfw (hne HS3.out).1 (hne HS3.out).2⟩
 simp[results,Tryz.results179,go_sem,y0,y1,y2,y3,yf]
end Enc
namespace Enc
open Mem Win Lz St
def rowK(k:Nat):Nat:=if k<7 then k else k+8
def offK(k:Nat):Nat:=if k<7 then 8+k else 16+k
def updN(c:Nat→Nat)(j q:Nat):Nat→Nat:=fun i=>if i=j then q else c i
theorem tab_off(lc lp pb:Nat)(s:S)(c:Nat→Nat):∀k,k<10→(tabV lc lp pb s c)[offK k]? =some (.pointer (some ⟨c (rowK k),0,none⟩))
 |0,_=>rfl
 |1,_=>rfl
 |2,_=>rfl
 |3,_=>rfl
 |4,_=>rfl
 |5,_=>rfl
 |6,_=>rfl
 |7,_=>rfl
 |8,_=>rfl
 |9,_=>rfl
theorem tab_set(lc lp pb:Nat)(s:S)(c:Nat→Nat)(q:Nat):∀k,k<10→(tabV lc lp pb s c).setIfInBounds (offK k) (.pointer (some ⟨q,0,none⟩))=tabV lc lp pb s (updN c (rowK k) q)
 |0,_=>rfl
 |1,_=>rfl
 |2,_=>rfl
 |3,_=>rfl
 |4,_=>rfl
 |5,_=>rfl
 |6,_=>rfl
 |7,_=>rfl
 |8,_=>rfl
 |9,_=>rfl
def ptrsF(F:Nat):Array Value:=#[.pointer (some ⟨F,8,none⟩),.pointer (some ⟨F,9,none⟩),.pointer (some ⟨F,10,none⟩),.pointer (some ⟨F,11,none⟩),.pointer (some ⟨F,12,none⟩),.pointer (some ⟨F,13,none⟩),.pointer (some ⟨F,14,none⟩),.pointer (some ⟨F,23,none⟩),.pointer (some ⟨F,24,none⟩),.pointer (some ⟨F,25,none⟩)]
theorem ptrs_at(F:Nat):∀k,k<10→(ptrsF F)[k]? =some (.pointer (some ⟨F,offK k,none⟩))
 |0,_=>rfl
 |1,_=>rfl
 |2,_=>rfl
 |3,_=>rfl
 |4,_=>rfl
 |5,_=>rfl
 |6,_=>rfl
 |7,_=>rfl
 |8,_=>rfl
 |9,_=>rfl
theorem rowK_inj{k j:Nat}(h:rowK k=rowK j):k=j:=by
 unfold rowK at h
 split at h<;>split at h<;>omega
theorem fr4{F:Nat}{w0 wc:World}(h:Fr (fun i=>i=F) w0 wc)(i j k l:Nat)(a b c d:Value):Fr (fun i=>i=F) w0 ((((wc.setCell ⟨F,i,none⟩ a).setCell ⟨F,j,none⟩ b).setCell ⟨F,k,none⟩ c).setCell ⟨F,l,none⟩ d):=(((h.setCell (.inl rfl) _).setCell (.inl rfl) _).setCell (.inl rfl) _).setCell (.inl rfl) _
theorem rowK_lt{k:Nat}(h:k<10):rowK k<18:=by
 unfold rowK
 split<;>omega
end Enc
namespace Enc
open Mem Win Lz St
structure Got(w wr:World)(k:Nat)(c h:Nat→Nat)(ps:Nat→List Nat):Prop where
 fwd:∀j,j<k→c (rowK j)=h (rowK j)+1∧w.heap.size+2≤h (rowK j)∧h (rowK j)+1<wr.heap.size∧Prob.SetAt wr (h (rowK j)+1) (h (rowK j)) (ps (rowK j))
 inj:∀i j,i<k→j<k→h (rowK i)=h (rowK j)→i=j
theorem Got.step{w wr wr':World}{k F:Nat}{c h:Nat→Nat}{ps:Nat→List Nat}(hg:Got w wr k c h ps)(hf:Fr (fun i=>i=F) wr wr')(hF:∀{b g:Nat}{p:List Nat},Prob.SetAt wr b g p→¬b=F∧¬g=F):Got w wr' k c h ps:=
 ⟨fun j hj=>⟨(hg.fwd j hj).1,(hg.fwd j hj).2.1,Nat.lt_of_lt_of_le (hg.fwd j hj).2.2.1 hf.size,(hg.fwd j hj).2.2.2.step hf (hF (hg.fwd j hj).2.2.2).1 (hF (hg.fwd j hj).2.2.2).2⟩,hg.inj⟩
theorem Got.keep{w wr wr':World}{k:Nat}{c h:Nat→Nat}{ps:Nat→List Nat}(hg:Got w wr k c h ps)(hf:Fr (fun _=>False) wr wr'):Got w wr' k c h ps:=
 ⟨fun j hj=>⟨(hg.fwd j hj).1,(hg.fwd j hj).2.1,Nat.lt_of_lt_of_le (hg.fwd j hj).2.2.1 hf.size,(hg.fwd j hj).2.2.2.keep hf⟩,hg.inj⟩
theorem rowK_ne{j k:Nat}(h:j<k):rowK j≠rowK k:=fun e=>by have:=rowK_inj e;omega
theorem Got.snoc{w wr wr':World}{k q:Nat}{c h:Nat→Nat}{ps:Nat→List Nat}(hg:Got w wr k c h ps)(hf:Fr (fun _=>False) wr wr')(hw:w.heap.size+2≤wr.heap.size)(h1:wr.heap.size≤q)(h2:q+1<wr'.heap.size)(hs:Prob.SetAt wr' (q+1) q (ps (rowK k))):Got w wr' (k+1) (updN c (rowK k) (q+1)) (updN h (rowK k) q) ps:=by
 have e1:∀(f:Nat→Nat)(x:Nat),updN f (rowK k) x (rowK k)=x:=fun f x=>by unfold updN;rw[if_pos rfl]
 have e2:∀(f:Nat→Nat)(x j:Nat),j<k→updN f (rowK k) x (rowK j)=f (rowK j):=fun f x j hj=>by unfold updN;rw[if_neg (rowK_ne hj)]
 have hk:=hg.keep hf
 refine⟨fun j hj=> ?_,fun i j hi hj he=> ?_⟩
 ·by_cases hjk:j=k
  ·subst hjk
   rw[e1,e1]
   exact⟨rfl,by omega,h2,hs⟩
  ·rw[e2 _ _ _ (by omega),e2 _ _ _ (by omega)]
   exact hk.fwd j (by omega)
 ·by_cases hik:i=k
  ·by_cases hjk:j=k
   ·omega
   ·rw[hik,e1,e2 _ _ _ (by omega)] at he
    have:=(hg.fwd j (by omega)).2.2.1
    omega
  ·by_cases hjk:j=k
   ·rw[hjk,e1,e2 _ _ _ (by omega)] at he
    have:=(hg.fwd i (by omega)).2.2.1
    omega
   ·rw[e2 _ _ _ (by omega),e2 _ _ _ (by omega)] at he
    exact hg.inj i j (by omega) (by omega) he
theorem tab_of{w wr wc wx:World}{F lc lp pb:Nat}{s:S}{c h:Nat→Nat}{ps:Nat→List Nat}{q0 q1 q2 q3 q4 q5 q6 q7:Nat}(H1:Got w wr 10 c h ps)(H2:Got w wc 10 c h ps)(hff:w.heap.size+2≤wr.heap.size)(o0:wr.heap.size≤q0)(o1:q0+1<q1)(o2:q1+1<q2)(o3:q2+1<q3)(o4:q3+1<q4)(o5:q4+1<q5)(o6:q5+1<q6)(o7:q6+1<q7)(s7:Prob.SetAt wc (q0+1) q0 (ps 7))(s8:Prob.SetAt wc (q1+1) q1 (ps 8))(s9:Prob.SetAt wc (q2+1) q2 (ps 9))(s10:Prob.SetAt wc (q3+1) q3 (ps 10))(s11:Prob.SetAt wc (q4+1) q4 (ps 11))(s12:Prob.SetAt wc (q5+1) q5 (ps 12))(s13:Prob.SetAt wc (q6+1) q6 (ps 13))(s14:Prob.SetAt wc (q7+1) q7 (ps 14))
 (hst:∀{b g:Nat}{p:List Nat},Prob.SetAt wc b g p→Prob.SetAt wx b g p)(hbx:wx.heap[F]? =some (.cells (((((((((tabV lc lp pb s c).setIfInBounds 15 (.pointer (some ⟨q0+1,0,none⟩))).setIfInBounds 16 (.pointer (some ⟨q1+1,0,none⟩))).setIfInBounds 17 (.pointer (some ⟨q2+1,0,none⟩))).setIfInBounds 18 (.pointer (some ⟨q3+1,0,none⟩))).setIfInBounds 19 (.pointer (some ⟨q4+1,0,none⟩))).setIfInBounds 20 (.pointer (some ⟨q5+1,0,none⟩))).setIfInBounds 21 (.pointer (some ⟨q6+1,0,none⟩))).setIfInBounds 22 (.pointer (some ⟨q7+1,0,none⟩))) 217 (0,0))):
 ∃h':Nat→Nat,Tab wx F (fun j=>h' j+1) h' lc lp pb s ps∧∀j,j<18→w.heap.size≤h' j:=by
 have hbd:=H1.fwd
 have hfw:=H2.fwd
 have hin:=H2.inj
 obtain⟨h',hh⟩:∃h':Nat→Nat,h'=fun j=>if j<7 then h j else if j<15 then[q0,q1,q2,q3,q4,q5,q6,q7].getD (j-7) 0 else h j:=⟨_,rfl⟩
 have hk7:∀j,j<7→rowK j=j:=fun j hj=>if_pos hj
 have hk15:∀j,15≤j→j<18→rowK (j-8)=j:=fun j h1 h2=>by
  unfold rowK
  rw[if_neg (by omega)]
  omega
 have hv:∀j,j<18→w.heap.size+2≤h' j∧Prob.SetAt wc (h' j+1) (h' j) (ps j)∧(j<7∨15≤j→h' j=h j∧h j+1<q0)∧(7≤j→j<15→q0≤h' j):=by
  intro j hj
  rw[hh]
  simp only
  by_cases h7:j<7
  ·have h1:=hfw j (by omega)
   have h2:=hbd j (by omega)
   rw[hk7 j h7] at h1 h2
   rw[if_pos h7]
   exact⟨h1.2.1,h1.2.2.2,fun _=>⟨rfl,by omega⟩,fun h=>by omega⟩
  ·rw[if_neg h7]
   by_cases h15:j<15
   ·rw[if_pos h15]
    obtain rfl|rfl|rfl|rfl|rfl|rfl|rfl|rfl:j=7∨j=8∨j=9∨j=10∨j=11∨j=12∨j=13∨j=14:=by omega
    ·exact⟨by show w.heap.size+2≤q0;omega,s7,fun h=>by omega,fun _ _=>by show q0≤q0;omega⟩
    ·exact⟨by show w.heap.size+2≤q1;omega,s8,fun h=>by omega,fun _ _=>by show q0≤q1;omega⟩
    ·exact⟨by show w.heap.size+2≤q2;omega,s9,fun h=>by omega,fun _ _=>by show q0≤q2;omega⟩
    ·exact⟨by show w.heap.size+2≤q3;omega,s10,fun h=>by omega,fun _ _=>by show q0≤q3;omega⟩
    ·exact⟨by show w.heap.size+2≤q4;omega,s11,fun h=>by omega,fun _ _=>by show q0≤q4;omega⟩
    ·exact⟨by show w.heap.size+2≤q5;omega,s12,fun h=>by omega,fun _ _=>by show q0≤q5;omega⟩
    ·exact⟨by show w.heap.size+2≤q6;omega,s13,fun h=>by omega,fun _ _=>by show q0≤q6;omega⟩
    ·exact⟨by show w.heap.size+2≤q7;omega,s14,fun h=>by omega,fun _ _=>by show q0≤q7;omega⟩
   ·rw[if_neg h15]
    have h1:=hfw (j-8) (by omega)
    have h2:=hbd (j-8) (by omega)
    rw[hk15 j (by omega) hj] at h1 h2
    exact⟨h1.2.1,h1.2.2.2,fun _=>⟨rfl,by omega⟩,fun _ h=>by omega⟩
 have hlen:∀t,t<8→∀u,u<8→h' (t+7)=h' (u+7)→t=u:=by
  intro t ht u hu he
  rw[hh] at he
  simp only at he
  rw[if_neg (by omega),if_pos (by omega),if_neg (by omega),if_pos (by omega),Nat.add_sub_cancel,Nat.add_sub_cancel] at he
  obtain rfl|rfl|rfl|rfl|rfl|rfl|rfl|rfl:t=0∨t=1∨t=2∨t=3∨t=4∨t=5∨t=6∨t=7:=by omega
  all_goals
   obtain rfl|rfl|rfl|rfl|rfl|rfl|rfl|rfl:u=0∨u=1∨u=2∨u=3∨u=4∨u=5∨u=6∨u=7:=by omega
   all_goals first
    |rfl
    |(simp only[List.getD_cons_zero,List.getD_cons_succ] at he;omega)
 have hinj:∀i j,i<18→j<18→h' i=h' j→i=j:=by
  intro i j hi hj he
  have vi:=hv i hi
  have vj:=hv j hj
  by_cases li:i<7∨15≤i
  ·have a:=vi.2.2.1 li
   by_cases lj:j<7∨15≤j
   ·have b':=vj.2.2.1 lj
    have hr:∀x,x<18→x<7∨15≤x→∃y,y<10∧rowK y=x:=fun x hx hl=>by
     rcases hl with hl|hl
     ·exact⟨x,by omega,hk7 x hl⟩
     ·exact⟨x-8,by omega,hk15 x hl hx⟩
    obtain⟨y,hy,rfl⟩:=hr i hi li
    obtain⟨z,hz,rfl⟩:=hr j hj lj
    rw[a.1,b'.1] at he
    rw[hin y z hy hz he]
   ·have b':=vj.2.2.2 (by omega) (by omega)
    omega
  ·have a:=vi.2.2.2 (by omega) (by omega)
   by_cases lj:j<7∨15≤j
   ·have b':=vj.2.2.1 lj
    omega
   ·have h1:=hlen (i-7) (by omega) (j-7) (by omega) (by rw[show i-7+7=i by omega,show j-7+7=j by omega];exact he)
    omega
 have k0:c 0=h 0+1:=(hfw 0 (by decide)).1
 have k1:c 1=h 1+1:=(hfw 1 (by decide)).1
 have k2:c 2=h 2+1:=(hfw 2 (by decide)).1
 have k3:c 3=h 3+1:=(hfw 3 (by decide)).1
 have k4:c 4=h 4+1:=(hfw 4 (by decide)).1
 have k5:c 5=h 5+1:=(hfw 5 (by decide)).1
 have k6:c 6=h 6+1:=(hfw 6 (by decide)).1
 have k7:c 15=h 15+1:=(hfw 7 (by decide)).1
 have k8:c 16=h 16+1:=(hfw 8 (by decide)).1
 have k9:c 17=h 17+1:=(hfw 9 (by decide)).1
 have hbox:wx.heap[F]? =some (.cells (tabV lc lp pb s (fun j=>h' j+1)) 217 (0,0)):=by
  rw[hbx,hh]
  congr 1
  simp[tabV,k0,k1,k2,k3,k4,k5,k6,k7,k8,k9,ptr]
 exact⟨h',⟨hbox,fun j hj=>hst (hv j hj).2.1,hinj⟩,fun j hj=>by have:=(hv j hj).1;omega⟩
end Enc
end Go.Proofs.YtffoddpjfgjelaaGreatDoor
