/- Part 40 of 48: lemmas of the last part, each under the conditions that it names. -/
import Derived.Test.YtffoddpjfgjelaaGreatDoorQ39
set_option linter.unusedVariables false
set_option linter.unusedSimpArgs false
set_option maxRecDepth 1500
set_option maxHeartbeats 4000000
namespace Go.Proofs.YtffoddpjfgjelaaGreatDoor
open Go.RowKit
namespace Ps
open Mem Win St Fi Pk
theorem StepOk.cand{data:List UInt8}{tp p:Nat}{s:S}{y:Sy}(h:StepOk data tp p y)(hp:p<tp):Cand data tp p s y:=by
 obtain⟨yk,yb,yl,yd⟩:=y
 rcases h with⟨rfl,h1,h2,h3,h4⟩|⟨rfl,rfl,h1,h2,h3,h4⟩
 ·exact⟨⟨.inl rfl,fun h=>absurd h (by simp),h2⟩,fun _=>⟨h1,by omega,h3⟩,fun h=>absurd rfl h,fun h=>absurd h (by simp)⟩
 ·exact⟨⟨.inr (.inl rfl),fun h=>absurd h (by simp),by simp⟩,fun h=>absurd h (by simp),fun _=>⟨h3,h4⟩,fun h=>absurd h (by simp)⟩
set_option maxRecDepth 100000 in
theorem told_calls(P tp dict p:Nat)(pv fv:Value)(data:List UInt8)(y:Sy)(s:S)(w:World)(h:PcAt w P tp dict pv fv data)(hy:StepOk data tp p y)(hp:p<tp)(ht:tp≤data.length)(hb:data.length≤1099511627776):
 Calls Tryz.prog 130 #[ptr P,.int .i64 p,.agg y.cells,.agg s.cells] w fun e w'=>Fr (fun _=>False) w w'∧∃z:Sy,e=.returned (.agg z.cells)∧Cand data tp p s z∧stepSize z=stepSize y:=by
 have HCA:=Hd (hy.cand (s:=s) hp)
 have HY:=Hd hy
 obtain⟨yk,yb,yl,yd⟩:=y
 obtain⟨nn,r0,r1,r2,r3⟩:=s
 simp only[S.cells,Sy.cells]
 have hx0:=(((R0 _).alloc (.cells #[.int .i64 nn,.int .i64 r0,.int .i64 r1,.int .i64 r2,.int .i64 r3] 84)).alloc (.cells #[.int .i64 0,.int .u8 0,.int .i64 0,.int .i64 0] 110)).keep (heap_alloc_new w (.cells #[.int .i64 yk,.int .u8 yb,.int .i64 yl,.int .i64 yd] 110)) (fun h=>h)
 have hx1:=((R0 _).alloc (.cells #[.int .i64 0,.int .u8 0,.int .i64 0,.int .i64 0] 110)).keep (heap_alloc_new (w.alloc (.cells #[.int .i64 yk,.int .u8 yb,.int .i64 yl,.int .i64 yd] 110)) (.cells #[.int .i64 nn,.int .i64 r0,.int .i64 r1,.int .i64 r2,.int .i64 r3] 84)) (fun h=>h)
 have hx2:=heap_alloc_new ((w.alloc (.cells #[.int .i64 yk,.int .u8 yb,.int .i64 yl,.int .i64 yd] 110)).alloc (.cells #[.int .i64 nn,.int .i64 r0,.int .i64 r1,.int .i64 r2,.int .i64 r3] 84)) (.cells #[.int .i64 0,.int .u8 0,.int .i64 0,.int .i64 0] 110)
 have HA:=Hd ((((R0 w).alloc (.cells #[.int .i64 yk,.int .u8 yb,.int .i64 yl,.int .i64 yd] 110)).alloc (.cells #[.int .i64 nn,.int .i64 r0,.int .i64 r1,.int .i64 r2,.int .i64 r3] 84)).alloc (.cells #[.int .i64 0,.int .u8 0,.int .i64 0,.int .i64 0] 110))
 simp only[World.size_alloc] at hx1 hx2
 obtain⟨y0,y1,y2,y3⟩:=cs4 hx0 rfl rfl rfl rfl
 obtain⟨s0,s1,s2,s3,s4⟩:=cs5 hx1 rfl rfl rfl rfl rfl
 have HR:=Hd (fun(d:Nat)(w':World)(hf:Fr (fun _=>False) w w')=>run_calls P tp dict p d pv fv data w' (h.keep hf) (by omega) ht hb)
 have HX0:=Hd hx0
 have HX1:=Hd hx1
 have HX2:=Hd hx2
 have hk:yk=1∨yk=2:=by rcases hy with h|h;exact .inl h.1;exact .inr h.1
 clear h hy hx0 hx1 hx2
 rcases hk with rfl|rfl
 ·go_enter Tryz.func130,Tryz.ntmps130
  go_wp2_with fail
  refine(HR.out r0 _ HA.out).mono ?_
  rintro e w2 ⟨hf2,n,rfl,hn1,hn2⟩
  have HF2:=Hd (HA.out.trans hf2)
  have HZ2:=Hd (hf2.keep HX2.out (fun h=>h))
  have hx0:=hf2.keep HX0.out (fun h=>h)
  clear y0 y1 y2 y3 s0 s1 s2 s3 s4
  obtain⟨y0,y1,y2,y3⟩:=cs4 hx0 rfl rfl rfl rfl
  obtain⟨z0,z1,z2,z3,zf⟩:=cf4 HZ2.out rfl rfl rfl rfl
  have HN:=Hd hn2
  have hz:w.heap.size≤w.heap.size+1+1:=by omega
  have hyl:yl=0:=by
   rcases HY.out with h|h
   ·exact h.2.2.2.1
   ·exact absurd h.1 (by simp)
  subst hyl
  clear hf2 hn2 hx0
  by_cases h5:(0:Int)<(n:Int)
  ·go_wp2_with fail
   refine bodyPost_ret (results_cell_row Tryz.results130 _ _ (w.heap.size+1+1) _ _ _ _ rfl (y4 HZ2.out _ _ _ _) Tryz.underlying110 rfl symSize) rfl ?_
   refine⟨fr4z HF2.out hz _ _ _ _,⟨4,0,0,0⟩,rfl,⟨⟨.inr (.inr (.inr rfl)),fun h=>absurd h (by simp),by simp⟩,fun h=>absurd h (by simp),fun _=>⟨?_,by simp only[lenOfSy,if_true];omega⟩,fun _=>rfl⟩,rfl⟩
   obtain⟨a1,a2,a3⟩:=HN.out.resolve_left (by omega)
   exact⟨a1,a2,fun j hj=>a3 j (by simp only[lenOfSy,if_true] at hj;omega)⟩
  ·go_wp2_with fail
   refine bodyPost_ret (results_cell_row Tryz.results130 _ _ (w.heap.size+1+1) _ _ _ _ rfl (y4 HZ2.out _ _ _ _) Tryz.underlying110 rfl symSize) rfl ?_
   exact⟨fr4z HF2.out hz _ _ _ _,⟨1,yb,0,yd⟩,rfl,HCA.out,rfl⟩
 ·go_enter Tryz.func130,Tryz.ntmps130
  go_wp2_with fail
  have hz:w.heap.size≤w.heap.size+1+1:=by omega
  clear y0 y1 y2 y3 s0 s1 s2 s3 s4
  go_loopw [25](fun s25 wr=>∃i:Nat,s25=.int .i64 i∧i≤4∧Fr (fun _=>False) w wr∧wr.heap[w.heap.size]? =some (.cells #[.int .i64 2,.int .u8 yb,.int .i64 yl,.int .i64 yd] 110 (0,0))∧wr.heap[w.heap.size+1+1]? =some (.cells #[.int .i64 0,.int .u8 0,.int .i64 0,.int .i64 0] 110 (0,0))) (fun s25 _=>4-(intOf s25).toNat)
  case atStart=>exact⟨0,rfl,by omega,HA.out,HX0.out,HX2.out⟩
  case round=>
   obtain⟨i,rfl,hi,hfr,hx0,hx2⟩:=hrel
   obtain⟨y0,y1,y2,y3⟩:=cs4 hx0 rfl rfl rfl rfl
   have zf:=fun i=>frozen_in hx2 i
   obtain⟨z0,z1,z2,z3⟩:=cs4 hx2 rfl rfl rfl rfl
   have HF:=Hd hfr
   have HZ0:=Hd hx0
   have HZ2:=Hd hx2
   clear hfr hx0 hx2
   by_cases hi4:i<4
   ·have hix:=index4 nn r0 r1 r2 r3 i hi4
    generalize hd:repAt ⟨nn,r0,r1,r2,r3⟩ i=d at*
    have HD:=Hd hd
    clear hd
    by_cases hdd:(d:Int)=(yd:Int)
    ·have hdn:d=yd:=by omega
     subst hdn
     go_wp2_with fail
     refine bodyPost_ret (results_cell_row Tryz.results130 _ _ (w.heap.size+1+1) _ _ _ _ rfl (y4 HZ2.out _ _ _ _) Tryz.underlying110 rfl symSize) rfl ?_
     refine⟨fr4z HF.out hz _ _ _ _,⟨3,0,yl,i⟩,rfl,⟨⟨.inr (.inr (.inl rfl)),fun _=>by simp only;omega,by simp⟩,fun h=>absurd h (by simp),fun _=> ?_,fun h=>absurd h (by simp)⟩,rfl⟩
     rcases HY.out with h|h
     ·exact absurd h.1 (by simp)
     ·have h1:distOf ⟨nn,r0,r1,r2,r3⟩ ⟨3,0,yl,i⟩=d:=by
       simp only[distOf]
       exact HD.out
      rw[h1]
      exact⟨h.2.2.2.2.1,h.2.2.2.2.2⟩
    ·go_wp2_with fail
     go_roundw
     ·exact⟨i+1,by simp,by omega,HF.out,HZ0.out,HZ2.out⟩
     ·simp[intOf];omega
   ·obtain rfl:i=4:=by omega
    go_wp2_with fail
    refine bodyPost_ret (results_cell_row Tryz.results130 _ _ (w.heap.size+1+1) _ _ _ _ rfl (y4 HZ2.out _ _ _ _) Tryz.underlying110 rfl symSize) rfl ?_
    exact⟨fr4z HF.out hz _ _ _ _,⟨2,yb,yl,yd⟩,rfl,HCA.out,rfl⟩
end Ps
namespace Ps
open Mem Win St Fi Pk
theorem own_put{w:World}{T:TypeId}{z g cap n:Nat}{xs:List Value}(h:w.ownsRow 0 T z (.slice (some ⟨g,0,none⟩) n cap) n xs)(i:Nat)(u:Value):(w.setCell ⟨g,i,none⟩ u).ownsRow 0 T z (.slice (some ⟨g,0,none⟩) n cap) n (xs.set i u):=by
 obtain⟨h1,h2⟩:=h
 rcases h2 with⟨hnn,h0⟩|⟨g',cap',cur,hgv,h4,hg,hle,hm,hcs,ht⟩
 ·simp at hnn
 ·simp only[Value.slice.injEq,Option.some.injEq,Addr.mk.injEq,and_true,true_and] at hgv
  obtain⟨rfl,rfl⟩:=hgv
  exact⟨by rw[List.length_set];exact h1,.inr ⟨g,cap,_,rfl,h4,set_in hg i u,hle,hm,by simp[hcs],by rw[Array.toList_setIfInBounds,List.take_set,ht]⟩⟩
theorem syCells_length(l:List Sy):(Lz.syCells l).length=l.length*4:=by
 induction l with
 |nil=>rfl
 |cons y l ih=>
   simp only[Lz.syCells,List.flatMap_cons,List.length_append,List.length_cons] at ih ⊢
   rw[ih]
   simp only[Sy.cells,List.length_cons,List.length_nil]
   omega
theorem set_mid{α:Type}(A B:List α)(c0 c1 c2 c3 d0 d1 d2 d3:α)(k:Nat)(h:A.length=k):
 ((((A++(c0::c1::c2::c3::B)).set k d0).set (k+1) d1).set (k+2) d2).set (k+3) d3=A++(d0::d1::d2::d3::B):=by
 subst h
 simp[List.set_append]
theorem syCells_mid(a:List Sy)(y:Sy)(b:List Sy):Lz.syCells (a++y::b)=Lz.syCells a++(.int .i64 y.kind::.int .u8 y.byte::.int .i64 y.len::.int .i64 y.dist::Lz.syCells b):=by
 simp[Lz.syCells,Sy.cells]
theorem sy_open {w0 w:World} {v:Value} {a b:List Sy} {y:Sy} (h:Lz.Syms w0 w v (a++y::b)):∃g cap cur,v=.slice (some ⟨g,0,none⟩) (a++y::b).length cap∧w.heap[g]? =some (.cells cur 110 (0,0))∧
 cur[a.length*4]? =some (.int .i64 y.kind)∧cur[a.length*4+1]? =some (.int .u8 y.byte)∧cur[a.length*4+2]? =some (.int .i64 y.len)∧cur[a.length*4+3]? =some (.int .i64 y.dist)∧(a.length+1)*4≤cur.size∧
 ∀z:Sy,Lz.Syms w0 ((((w.setCell ⟨g,a.length*4,none⟩ (.int .i64 z.kind)).setCell ⟨g,a.length*4+1,none⟩ (.int .u8 z.byte)).setCell ⟨g,a.length*4+2,none⟩ (.int .i64 z.len)).setCell ⟨g,a.length*4+3,none⟩ (.int .i64 z.dist)) v (a++z::b):=by
 obtain⟨h1,h2⟩:=h.own
 rcases h2 with⟨hnn,h0⟩|⟨g,cap,cur,hgv,h4,hg,hle,hm,hcs,ht⟩
 ·simp at h0
 ·have hlen:=syCells_length a
  have key:∀(i:Nat)(u:Value),(Lz.syCells (a++y::b))[i]? =some u→cur[i]? =some u:=by
   intro i u hu
   rw[←ht,List.getElem?_take] at hu
   split at hu
   ·rw[←Array.getElem?_toList]
    exact hu
   ·cases hu
  have hmid:=syCells_mid a y b
  refine⟨g,cap,cur,hgv,hg,key _ _ ?_,key _ _ ?_,key _ _ ?_,key _ _ ?_,?_,fun z=>⟨?_,fun k hk=>h.new k hk⟩⟩
  ·rw[hmid,←hlen];simp
  ·rw[hmid,←hlen,List.getElem?_append_right (by omega)];simp
  ·rw[hmid,←hlen,List.getElem?_append_right (by omega)];simp
  ·rw[hmid,←hlen,List.getElem?_append_right (by omega)];simp
  ·rw[hcs]
   have:a.length+1≤cap:=by simp only[List.length_append,List.length_cons] at hle;omega
   exact Nat.mul_le_mul_right _ this
  ·have ho:=h.own
   rw[hgv] at ho ⊢
   have e:(a++z::b).length=(a++y::b).length:=by simp
   rw[e,syCells_mid,←set_mid (Lz.syCells a) (Lz.syCells b) (.int .i64 y.kind) (.int .u8 y.byte) (.int .i64 y.len) (.int .i64 y.dist) _ _ _ _ (a.length*4) hlen,←hmid]
   exact own_put (own_put (own_put (own_put ho _ _) _ _) _ _) _ _
theorem sy_at {w0 w:World} {g n cap:Nat} {a b:List Sy} {y:Sy} (h:Lz.Syms w0 w (.slice (some ⟨g,0,none⟩) n cap) (a++y::b)):∃cur,w.heap[g]? =some (.cells cur 110 (0,0))∧
 cur[a.length*4]? =some (.int .i64 y.kind)∧cur[a.length*4+1]? =some (.int .u8 y.byte)∧cur[a.length*4+2]? =some (.int .i64 y.len)∧cur[a.length*4+3]? =some (.int .i64 y.dist)∧(a.length+1)*4≤cur.size∧
 ∀z:Sy,Lz.Syms w0 ((((w.setCell ⟨g,a.length*4,none⟩ (.int .i64 z.kind)).setCell ⟨g,a.length*4+1,none⟩ (.int .u8 z.byte)).setCell ⟨g,a.length*4+2,none⟩ (.int .i64 z.len)).setCell ⟨g,a.length*4+3,none⟩ (.int .i64 z.dist)) (.slice (some ⟨g,0,none⟩) n cap) (a++z::b):=by
 obtain⟨g',cap',cur,e,h⟩:=sy_open h
 simp only[Value.slice.injEq,Option.some.injEq,Addr.mk.injEq,and_true] at e
 obtain⟨rfl,_,_⟩:=e
 exact⟨cur,h⟩
theorem fr5z{w wc:World}{Y:Nat}(h:Fr (fun _=>False) w wc)(hY:w.heap.size≤Y)(a b c d e:Value):Fr (fun _=>False) w (((((wc.setCell ⟨Y,0,none⟩ a).setCell ⟨Y,1,none⟩ b).setCell ⟨Y,2,none⟩ c).setCell ⟨Y,3,none⟩ d).setCell ⟨Y,4,none⟩ e):=
 ((((h.setCell (p:=⟨Y,0,none⟩) (.inr hY) _).setCell (p:=⟨Y,1,none⟩) (.inr hY) _).setCell (p:=⟨Y,2,none⟩) (.inr hY) _).setCell (p:=⟨Y,3,none⟩) (.inr hY) _).setCell (p:=⟨Y,4,none⟩) (.inr hY) _
theorem s5{W:World}{Y:Nat}{x y z u v:Value}(h:W.heap[Y]? =some (.cells #[x,y,z,u,v] 84 (0,0)))(a b c d e:Value):
 (((((W.setCell ⟨Y,0,none⟩ a).setCell ⟨Y,1,none⟩ b).setCell ⟨Y,2,none⟩ c).setCell ⟨Y,3,none⟩ d).setCell ⟨Y,4,none⟩ e).heap[Y]? =some (.cells #[a,b,c,d,e] 84 (0,0)):=set_in (set_in (set_in (set_in (set_in h 0 a) 1 b) 2 c) 3 d) 4 e
theorem PlanOk.length{data:List UInt8}{tp:Nat}:∀{l:List Sy}{p q:Nat},PlanOk data tp l p q→l.length+p≤q
 |[],p,q,h=>by subst h;simp
 |y::l,p,q,⟨h1,h2,h3⟩=>by
   have:=h3.length
   have:=(StepOk.fits h1 h2).2
   rw[List.length_cons]
   omega
structure CR(w:World)(data:List UInt8)(tp fm dict:Nat)(s:S)(P:Nat)(pv fv v:Value)(p:Nat)(t:S)(a b:List Sy)(wr:World):Prop where
 fr:Fr (fun _=>False) w wr
 st:wr.heap[w.heap.size]? =some (.cells t.cells 84 (0,0))
 rs:wr.heap[w.heap.size+1]? =some (.cells S.zero.cells 84 (0,0))
 sy:Lz.Syms w wr v (a++b)
 steps:Pk.Steps data tp a fm s p t
 ok:t.Ok
 pl:PlanOk data tp b p tp
 pc:PcAt wr P tp dict pv fv data
theorem CR.keep{w wr wr':World}{data:List UInt8}{tp fm dict P p:Nat}{s t:S}{pv fv v:Value}{a b:List Sy}(h:CR w data tp fm dict s P pv fv v p t a b wr)(hf:Fr (fun _=>False) wr wr'):CR w data tp fm dict s P pv fv v p t a b wr':=
 ⟨h.fr.trans hf,hf.keep h.st (fun h=>h),hf.keep h.rs (fun h=>h),h.sy.step hf (fun _ _ h=>h),h.steps,h.ok,h.pl,h.pc.keep hf⟩
set_option maxRecDepth 100000 in
theorem cheap_calls(pv:Value)(data:List UInt8)(fm tp dict:Nat)(s:S)(w:World)(h:Rd w pv data)(hT:Tabs w)(hs:s.Ok)(hft:fm<tp)(ht:tp≤data.length)(hb:data.length≤1073741824)(hd1:1≤dict)(hd2:dict≤4294967295):
 Calls Tryz.prog 73 #[pv,.int .i64 fm,.int .i64 tp,.int .i64 dict,.agg s.cells] w (ParsePost w data tp fm s):=by
 have hx:=heap_alloc_new w (.cells s.cells 84)
 have hfa:=((R0 w).alloc (.cells s.cells 84)).alloc (.cells S.zero.cells 84)
 have hx1:=((R0 (w.alloc (.cells s.cells 84))).alloc (.cells S.zero.cells 84)).keep hx (fun h=>h)
 have hx2:=heap_alloc_new (w.alloc (.cells s.cells 84)) (.cells S.zero.cells 84)
 rw[World.size_alloc] at hx2
 have HN:=Hd (plan_calls pv data fm tp dict _ (h.keep hfa) (hT.keep hfa) hft ht hb hd1 hd2)
 have HRC:=Hd (fun(w':World)(hf:Fr (fun _=>False) w w')=>right_calls s hs w' (hT.keep hf))
 have HR:=Hd h
 have HT:=Hd hT
 have HS:=Hd hs
 have HFA:=Hd hfa
 have HX1:=Hd hx1
 have HX2:=Hd hx2
 obtain⟨pa,pc,rfl,_⟩:=h
 obtain⟨sn,s0,s1,s2,s3⟩:=s
 simp only[S.cells,S.zero] at HN HRC HX1 HX2 HFA ⊢
 clear hx hfa hx1 hx2 hT hs
 go_enter Tryz.func73,Tryz.ntmps73
 go_wp2_with fail
 refine HN.out.mono ?_
 rintro e w2 ⟨hf2,v,l,rfl,hsy,hpl⟩
 have HF2:=Hd (HFA.out.trans hf2)
 have HY1:=Hd (hf2.keep HX1.out (fun h=>h))
 have HY2:=Hd (hf2.keep HX2.out (fun h=>h))
 obtain⟨pm,cap,rfl⟩:=own_slice hsy.own
 have hnew:∀k,(Value.slice pm l.length cap).ownBlock=some k→w.heap.size+2≤k:=fun k hk=>by
  have:=hsy.new k hk
  simpa using this
 have HSY:=Hd hsy
 have HNEW:=Hd hnew
 have HPL:=Hd hpl
 have hl30:l.length≤1073741824:=by have:=hpl.length;omega
 obtain⟨c0,c1,c2,c3,c4⟩:=cs5 HY1.out rfl rfl rfl rfl rfl
 clear hf2 hsy hpl HX1 HX2 HN hnew
 go_wp2_with fail
 refine(HRC.out w2 HF2.out).mono ?_
 rintro e w3 ⟨rfl,hf3⟩
 clear c0 c1 c2 c3 c4
 have hfp:=hf3.alloc (.cells #[.slice pa data.length pc,.int .i64 tp,.int .i64 dict,.pointer none] 235)
 have hpp:=heap_alloc_new w3 (.cells #[.slice pa data.length pc,.int .i64 tp,.int .i64 dict,.pointer none] 235)
 have hs2:=HFA.out.size
 simp only[World.size_alloc] at hs2
 have H0:=Hd (show CR w data tp fm dict ⟨sn,s0,s1,s2,s3⟩ w3.heap.size (.slice pa data.length pc) (.pointer none) (.slice pm l.length cap) fm ⟨sn,s0,s1,s2,s3⟩ [] l (w3.alloc (.cells #[.slice pa data.length pc,.int .i64 tp,.int .i64 dict,.pointer none] 235)) from
  ⟨HF2.out.trans hfp,hfp.keep HY1.out (fun h=>h),hfp.keep HY2.out (fun h=>h),⟨Lz.own_stepN HSY.out.own hfp (fun _ _ h=>h),fun k hk=>by have:=HNEW.out k hk;omega⟩,⟨rfl,rfl⟩,HS.out,HPL.out,hpp,HR.out.keep (HF2.out.trans hfp)⟩)
 clear hfp hpp hf3 HY1 HY2 HSY HF2 HPL
 go_wp2_with fail
 obtain⟨P,hP⟩:∃P,w3.heap.size=P:=⟨_,rfl⟩
 rw[hP] at H0 ⊢
 generalize w3.alloc (.cells #[.slice pa data.length pc,.int .i64 tp,.int .i64 dict,.pointer none] 235)=W4 at*
 obtain⟨n,hn⟩:∃n,l.length=n:=⟨_,rfl⟩
 rw[hn] at H0 HNEW hl30 ⊢
 have HLN:=Hd hn
 clear hn
 go_loopw [49,17] (fun s49 s17 wr=>∃(p:Nat)(t:S)(a b:List Sy),s49=.int .i64 a.length∧s17=.int .i64 p∧(a++b).length=n∧CR w data tp fm dict ⟨sn,s0,s1,s2,s3⟩ P (.slice pa data.length pc) (.pointer none) (.slice pm n cap) p t a b wr) (fun s49 _ _=>n-(intOf s49).toNat)
 case atStart=>exact⟨fm,_,[],l,rfl,rfl,by simpa using HLN.out,H0.out⟩
 case round=>
  obtain⟨p,t,a,b,rfl,rfl,hab,hcr⟩:=hrel
  rcases b with _|⟨y,b⟩
  ·have hp:tp=p:=hcr.pl
   subst hp
   have hst:=hcr.st
   have hrs:=hcr.rs
   obtain⟨tn,t0,t1,t2,t3⟩:=t
   simp only[S.cells,S.zero] at hst hrs
   obtain⟨c0,c1,c2,c3,c4⟩:=cs5 hst rfl rfl rfl rfl rfl
   obtain⟨z0,z1,z2,z3,z4,zf⟩:=cf5 hrs rfl rfl rfl rfl rfl
   rw[List.append_nil] at hab
   rw[hab]
   have hlt:¬((n:Int)<(n:Int)):=by omega
   have HG:=Hd hcr
   have HSYE:=Hd (show Lz.Syms w wr (.slice pm n cap) a from by simpa using hcr.sy)
   clear hcr hab
   go_upto_region 20 with fail
   go_region
   all_goals go_wp2_with fail
   all_goals
    refine bodyPost_ret (v:=.tuple #[.slice pm n cap,.agg #[.int .i64 tn,.int .i64 t0,.int .i64 t1,.int .i64 t2,.int .i64 t3],.int .i64 0]) (by simp[results,Tryz.results73,go_sem,z0,z1,z2,z3,z4]) rfl ?_
    refine⟨?_,.inr ⟨_,a,⟨tn,t0,t1,t2,t3⟩,rfl,HSYE.out.step (S:=fun k=>k=w.heap.size+1) ?_ (fun k hk e=> ?_),HG.out.steps,HG.out.ok⟩⟩
    ·refine Fr.drew ?_
     repeat refine Fr.setCell ?_ (.inr (Nat.le_succ _)) _
     exact HG.out.fr
    ·refine Fr.drew ?_
     repeat refine Fr.setCell ?_ (.inl (by simp)) _
     exact Fr.refl _ _
    ·subst e
     obtain⟨cur,hc⟩:=Lz.own_block HSYE.out.own hk
     exact neOf hrs hc (by decide) rfl
  ·obtain⟨g,cap',cur,hgv,hcur,y0,y1,y2,y3,hcz,_⟩:=sy_open hcr.sy
   simp only[Value.slice.injEq] at hgv
   obtain⟨rfl, -, -⟩:=hgv
   have hst:=hcr.st
   obtain⟨tn,t0,t1,t2,t3⟩:=t
   obtain⟨yk,yb,yl,yd⟩:=y
   simp only[S.cells] at hst
   simp only at y0 y1 y2 y3
   have q0:=cell_in (i:=a.length*4) hcur y0
   have q1:=cell_in (i:=a.length*4+1) hcur y1
   have q2:=cell_in (i:=a.length*4+2) hcur y2
   have q3:=cell_in (i:=a.length*4+3) hcur y3
   have hfy:=(R0 wr).alloc (.cells #[.int .i64 yk,.int .u8 yb,.int .i64 yl,.int .i64 yd] 110)
   have hyn:=heap_alloc_new wr (.cells #[.int .i64 yk,.int .u8 yb,.int .i64 yl,.int .i64 yd] 110)
   have HC1:=Hd (hcr.keep hfy)
   have HYN:=Hd hyn
   obtain⟨b0,b1,b2,b3⟩:=cs4 hyn rfl rfl rfl rfl
   have hlen:(a.length:Int)<(n:Int):=by
    rw[←hab]
    simp only[List.length_append,List.length_cons]
    omega
   have hgl:=lt_of_block hcur
   obtain⟨k,hk⟩:∃k,a.length=k:=⟨_,rfl⟩
   rw[hk] at q0 q1 q2 q3 hlen ⊢
   have i1:(0:Int)≤(k:Int):=by omega
   have HK:=Hd hk
   have HAB:=Hd hab
   clear hcr hst hfy hyn hcur y0 y1 y2 y3 hcz hk hab
   go_wp2_with fail
   have hsz:(if(yl:Int)≤1 then(1:Int) else(yl:Int))=((stepSize ⟨yk,yb,yl,yd⟩:Nat):Int):=by
    unfold stepSize
    by_cases h:yl≤1
    ·rw[if_pos (by omega),if_pos h];rfl
    ·rw[if_neg (by omega),if_neg h]
   refine(size_calls _ _ _ _ _ (by omega)).mono ?_
   rintro e w5 ⟨rfl,hf5⟩
   rw[hsz]
   have HC5:=Hd (HC1.out.keep hf5)
   have HY5:=Hd (hf5.keep HYN.out (fun h=>h))
   have hst:=HC5.out.st
   obtain⟨c0,c1,c2,c3,c4⟩:=cs5 hst rfl rfl rfl rfl rfl
   obtain⟨d0,d1,d2,d3⟩:=cs4 HY5.out rfl rfl rfl rfl
   have HSTEP:=Hd HC5.out.pl
   obtain⟨hfit,hst1⟩:=StepOk.fits HSTEP.out.1 HSTEP.out.2.1
   have HSZ:=Hd hsz
   clear b0 b1 b2 b3 q0 q1 q2 q3 hst hf5 hsz HC1 HYN
   go_wp2_with fail
   have HTD:=Hd (told_calls P tp dict p (.slice pa data.length pc) (.pointer none) data ⟨yk,yb,yl,yd⟩ ⟨tn,t0,t1,t2,t3⟩ _ HC5.out.pc HSTEP.out.1 HSTEP.out.2.1 ht (by omega))
   refine HTD.out.mono ?_
   rintro e w6 ⟨hf6,⟨zk,zb,zl,zd⟩,rfl,hca,hzy⟩
   have hc6:=HC5.out.keep hf6
   obtain⟨cur6,hcur6,y0,y1,y2,y3,hcz,hput⟩:=sy_at hc6.sy
   rw[HK.out] at y0 y1 y2 y3 hcz hput
   simp only at y0 y1 y2 y3
   have q0:=cell_in (i:=k*4) hcur6 y0
   have q1:=cell_in (i:=k*4+1) hcur6 y1
   have q2:=cell_in (i:=k*4+2) hcur6 y2
   have q3:=cell_in (i:=k*4+3) hcur6 y3
   have qf:=fun j=>frozen_in hcur6 j
   have hgw:w.heap.size+2≤g:=HNEW.out g rfl
   obtain⟨W7,hW7⟩:∃W7,W7=((((w6.setCell ⟨g,k*4,none⟩ (.int .i64 zk)).setCell ⟨g,k*4+1,none⟩ (.int .u8 zb)).setCell ⟨g,k*4+2,none⟩ (.int .i64 zl)).setCell ⟨g,k*4+3,none⟩ (.int .i64 zd)):=⟨_,rfl⟩
   have hset:Fr (fun j=>j=g) w6 W7:=by
    rw[hW7]
    exact(((Fr.one _ _ _ _).trans (Fr.one _ _ _ _)).trans (Fr.one _ _ _ _)).trans (Fr.one _ _ _ _)
   have hsy7:=hput ⟨zk,zb,zl,zd⟩
   simp only at hsy7
   rw[←hW7] at hsy7
   have hfr7:=hc6.fr.trans' hset (fun j hj e=>by omega)
   have hst7:=hset.keep hc6.st (by omega)
   have hrs7:=hset.keep hc6.rs (by omega)
   have hpp7:=hset.keep hc6.pc.box (fun e=>neOf hc6.pc.box hcur6 (by decide) e)
   have hpc7:PcAt W7 P tp dict (.slice pa data.length pc) (.pointer none) data:=⟨hpp7,HR.out.keep hfr7⟩
   have HSY7:=Hd hsy7
   have HFR7:=Hd hfr7
   have HST7:=Hd hst7
   have HRS7:=Hd hrs7
   have HPC7:=Hd hpc7
   have HCA:=Hd hca
   have HZY:=Hd hzy
   have HW7:=Hd hW7
   clear hW7 hset hsy7 hfr7 hst7 hrs7 hpp7 hpc7 hca hzy hc6 hcur6 hput y0 y1 y2 y3 hcz d0 d1 d2 d3 c0 c1 c2 c3 c4 hf6 HTD
   simp only[Sy.cells]
   go_wp2_with fail
   rw[←HW7.out]
   have hst7:=HST7.out
   simp only[S.cells] at hst7
   obtain⟨cur7,hcur7,y0,y1,y2,y3,hcz7,_⟩:=sy_at HSY7.out
   rw[HK.out] at y0 y1 y2 y3 hcz7
   simp only at y0 y1 y2 y3
   have hS:∀w':World,Fr (fun _=>False) W7 w'→(w'.cell? ⟨w.heap.size,0,none⟩=some (.int .i64 tn)∧w'.cell? ⟨w.heap.size,1,none⟩=some (.int .i64 t0)∧w'.cell? ⟨w.heap.size,2,none⟩=some (.int .i64 t1)∧w'.cell? ⟨w.heap.size,3,none⟩=some (.int .i64 t2)∧w'.cell? ⟨w.heap.size,4,none⟩=some (.int .i64 t3)∧w'.cell? ⟨g,k*4,none⟩=some (.int .i64 zk)∧w'.cell? ⟨g,k*4+1,none⟩=some (.int .u8 zb)∧w'.cell? ⟨g,k*4+2,none⟩=some (.int .i64 zl)∧w'.cell? ⟨g,k*4+3,none⟩=some (.int .i64 zd)):=fun w' hf=>
    ⟨cell_in (i:=0) (hf.keep hst7 (fun h=>h)) rfl,cell_in (i:=1) (hf.keep hst7 (fun h=>h)) rfl,cell_in (i:=2) (hf.keep hst7 (fun h=>h)) rfl,cell_in (i:=3) (hf.keep hst7 (fun h=>h)) rfl,cell_in (i:=4) (hf.keep hst7 (fun h=>h)) rfl,
     cell_in (i:=k*4) (hf.keep hcur7 (fun h=>h)) y0,cell_in (i:=k*4+1) (hf.keep hcur7 (fun h=>h)) y1,cell_in (i:=k*4+2) (hf.keep hcur7 (fun h=>h)) y2,cell_in (i:=k*4+3) (hf.keep hcur7 (fun h=>h)) y3⟩
   have herr:=S.next_err ⟨tn,t0,t1,t2,t3⟩ ⟨zk,zb,zl,zd⟩
   have HN:=fun W(h:Tabs W)=>Hd (next_calls ⟨tn,t0,t1,t2,t3⟩ HC5.out.ok ⟨zk,zb,zl,zd⟩ HCA.out.ok W h)
   generalize hrr:S.next ⟨tn,t0,t1,t2,t3⟩ ⟨zk,zb,zl,zd⟩=rr at*
   obtain⟨er,rn,ra,rb,rc,rd⟩:=rr
   have HRR:=Hd hrr
   simp only[S.cells,Sy.cells] at HN herr ⊢
   have HS:=Hd hS
   have FC:=Hd (R0 W7).drew
   have HSC:=Hd (hS W7.drew FC.out)
   have HRA:=Hd (((R0 W7).alloc (.cells #[.int .i64 0,.int .i64 0,.int .i64 0,.int .i64 0,.int .i64 0] 84)).drew)
   have hz0:((W7.alloc (.cells #[.int .i64 0,.int .i64 0,.int .i64 0,.int .i64 0,.int .i64 0] 84)).drew).heap[W7.heap.size]? =some (.cells #[.int .i64 0,.int .i64 0,.int .i64 0,.int .i64 0,.int .i64 0] 84 (0,0)):=heap_alloc_new W7 _
   have HZ0:=Hd hz0
   clear hz0
   obtain⟨e0,e1,e2,e3,e4,e5,e6,e7,e8⟩:=hS W7 (Fr.refl _ _)
   have HT7:=Hd (HT.out.keep HFR7.out)
   clear hS hst7 hcur7 y0 y1 y2 y3 hcz7 hrr
   go_cut [21,22] (fun s21 s22 wx=>∃zs,s21=.pointer (some ⟨zs,0,none⟩)∧s22=.int .i64 er∧wx.heap[zs]? =some (.cells #[.int .i64 rn,.int .i64 ra,.int .i64 rb,.int .i64 rc,.int .i64 rd] 84 (0,0))∧Fr (fun _=>False) W7 wx∧W7.heap.size≤zs)
   case first=>
    go_region_held3 (fun w'=>w'.cell? ⟨w.heap.size,0,none⟩=some (.int .i64 tn)∧w'.cell? ⟨w.heap.size,1,none⟩=some (.int .i64 t0)∧w'.cell? ⟨w.heap.size,2,none⟩=some (.int .i64 t1)∧w'.cell? ⟨w.heap.size,3,none⟩=some (.int .i64 t2)∧w'.cell? ⟨w.heap.size,4,none⟩=some (.int .i64 t3)∧w'.cell? ⟨g,k*4,none⟩=some (.int .i64 zk)∧w'.cell? ⟨g,k*4+1,none⟩=some (.int .u8 zb)∧w'.cell? ⟨g,k*4+2,none⟩=some (.int .i64 zl)∧w'.cell? ⟨g,k*4+3,none⟩=some (.int .i64 zd))
     (first|with_reducible exact HSC.out|with_reducible exact HS.out _ FC.out|with_reducible exact HS.out _ HRA.out|with_reducible exact HS.out _ (FC.out.alloc _)|(refine HS.out _ ?_;(repeat refine Fr.setCell ?_ (.inr (by first|exact Nat.le_refl _|exact FC.out.size)) _);first|exact FC.out|exact FC.out.alloc _)) ((
     (go_at_call 126
      first
       | (with_reducible refine (HN _ (HT7.out.keep FC.out)).out.mono ?_
          rintro e wc ⟨rfl,hfrc⟩
          have FC:=Hd (FC.out.trans hfrc)
          have HSC:=Hd (HS.out _ FC.out)
          clear hfrc)
       | (with_reducible refine (HN _ (HT7.out.keep HRA.out)).out.mono ?_
          rintro e wc ⟨rfl,hfrc⟩
          have hz:=hfrc.keep HZ0.out (fun h=>h)
          have FC:=Hd (HRA.out.trans hfrc)
          have HSC:=Hd (HS.out _ FC.out)
          obtain⟨z0,z1,z2,z3,z4,zf⟩:=cf5 hz rfl rfl rfl rfl rfl
          have HZ:=Hd hz
          clear hz hfrc))))
    all_goals go_wp2_with fail
    all_goals go_meet
    all_goals first
     |with_reducible exact⟨_,rfl,rfl,heap_alloc_new wc _,FC.out.alloc _,FC.out.size⟩
     |with_reducible exact⟨_,rfl,rfl,s5 HZ.out _ _ _ _ _,fr5z FC.out (Nat.le_refl _) _ _ _ _ _,Nat.le_refl _⟩
   case rest=>
    obtain⟨zs,rfl,rfl,hzx,hfx,hzs⟩:=hcut
    have HFX:=Hd hfx
    have HZX:=Hd hzx
    have hstx:=hfx.keep HST7.out (fun h=>h)
    have hrsx:=hfx.keep HRS7.out (fun h=>h)
    have hsw:=lt_of_block HST7.out
    simp only[S.cells,S.zero] at hstx hrsx
    clear e0 e1 e2 e3 e4 e5 e6 e7 e8
    rcases herr with rfl|rfl
    ·have sf:=fun i=>frozen_in hstx i
     obtain⟨x0,x1,x2,x3,x4⟩:=cs5 hstx rfl rfl rfl rfl rfl
     obtain⟨n0,n1,n2,n3,n4⟩:=cs5 hzx rfl rfl rfl rfl rfl
     have HSTX:=Hd hstx
     have HRSX:=Hd hrsx
     clear hzx hstx hrsx hfx
     go_wp2_with fail
     have hset:∀W9,W9=(((((wc.setCell ⟨w.heap.size,0,none⟩ (.int .i64 rn)).setCell ⟨w.heap.size,1,none⟩ (.int .i64 ra)).setCell ⟨w.heap.size,2,none⟩ (.int .i64 rb)).setCell ⟨w.heap.size,3,none⟩ (.int .i64 rc)).setCell ⟨w.heap.size,4,none⟩ (.int .i64 rd))→Fr (fun k=>k=w.heap.size) wc W9:=fun W9 hW9=>by
      rw[hW9]
      exact((((Fr.one _ _ _ _).trans (Fr.one _ _ _ _)).trans (Fr.one _ _ _ _)).trans (Fr.one _ _ _ _)).trans (Fr.one _ _ _ _)
     have hset:=hset _ rfl
     have hstN:=set_in (set_in (set_in (set_in (set_in HSTX.out 0 (.int .i64 rn)) 1 (.int .i64 ra)) 2 (.int .i64 rb)) 3 (.int .i64 rc)) 4 (.int .i64 rd)
     have hnx:S.next ⟨tn,t0,t1,t2,t3⟩ ⟨zk,zb,zl,zd⟩=(0,⟨rn,ra,rb,rc,rd⟩):=HRR.out
     have h01:(S.next ⟨tn,t0,t1,t2,t3⟩ ⟨zk,zb,zl,zd⟩).1=0:=by rw[hnx]
     have hright:=HCA.out.right h01
     have hzsz:=HCA.out.size h01
     have hgood:=S.next_ok HC5.out.ok h01
     have hsteps:=HC5.out.steps.snoc hright
     rw[hnx] at hgood hsteps
     have hss:St.size ⟨zk,zb,zl,zd⟩=stepSize ⟨yk,yb,yl,yd⟩:=by
      have h1:stepSize ⟨zk,zb,zl,zd⟩=stepSize ⟨yk,yb,yl,yd⟩:=HZY.out
      rw[←h1]
      simp only at hzsz
      unfold stepSize
      simp only
      split at hzsz<;>split<;>omega
     rw[hss] at hsteps
     have hpl9:=HSTEP.out.2.2
     have hfr9:=(HFR7.out.trans HFX.out).trans' hset (fun j hj e=>by omega)
     have hrs9:=hset.keep HRSX.out (by omega)
     have hppx:=HFX.out.keep HPC7.out.box (fun h=>h)
     have hpp9:=hset.keep hppx (fun e=>neOf hppx HSTX.out (by decide) e)
     have hsy9:=(HSY7.out.step HFX.out (fun _ _ h=>h)).step hset (fun j hj e=>by
      have:=HNEW.out j hj
      omega)
     have happ:a++(⟨zk,zb,zl,zd⟩:Sy)::b=(a++[(⟨zk,zb,zl,zd⟩:Sy)])++b:=by simp
     rw[happ] at hsy9
     have hab9:((a++[(⟨zk,zb,zl,zd⟩:Sy)])++b).length=n:=by
      rw[←HAB.out]
      simp
     have HCR9:=Hd (show CR w data tp fm dict ⟨sn,s0,s1,s2,s3⟩ P (.slice pa data.length pc) (.pointer none) (.slice (some ⟨g,0,none⟩) n cap) (p+stepSize ⟨yk,yb,yl,yd⟩) ⟨rn,ra,rb,rc,rd⟩ (a++[⟨zk,zb,zl,zd⟩]) b _ from⟨hfr9,hstN,hrs9,hsy9,hsteps,hgood,hpl9,hpp9,HR.out.keep hfr9⟩)
     clear hfr9 hrs9 hppx hpp9 hsy9 happ hpl9 hsteps hgood hss hzsz hright h01 hnx hstN hset
     go_roundw
     ·exact⟨p+stepSize ⟨yk,yb,yl,yd⟩,⟨rn,ra,rb,rc,rd⟩,a++[⟨zk,zb,zl,zd⟩],b,by simp[HK.out],by simp,hab9,HCR9.out⟩
     ·simp[intOf];omega
    ·obtain⟨z0,z1,z2,z3,z4,zf⟩:=cf5 hrsx rfl rfl rfl rfl rfl
     clear hzx hstx hrsx hfx
     go_wp2_with fail
     refine bodyPost_ret (v:=.tuple #[.slice none 0 0,.agg #[.int .i64 0,.int .i64 0,.int .i64 0,.int .i64 0,.int .i64 0],.int .i64 7]) (by simp[results,Tryz.results73,go_sem,z0,z1,z2,z3,z4]) rfl ?_
     refine⟨?_,.inl ⟨7,by decide,rfl⟩⟩
     repeat refine Fr.setCell ?_ (.inr (Nat.le_succ _)) _
     exact HFR7.out.trans HFX.out
end Ps
end Go.Proofs.YtffoddpjfgjelaaGreatDoor
