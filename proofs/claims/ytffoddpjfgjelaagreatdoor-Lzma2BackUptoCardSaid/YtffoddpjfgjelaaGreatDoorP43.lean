/- Part 43 of 52: lemmas of the last part, each under the conditions that it names. -/
import Derived.Deep.RegionHeld3
import Derived.Test.YtffoddpjfgjelaaGreatDoorP34
import Derived.Test.YtffoddpjfgjelaaGreatDoorP40
import Derived.Test.YtffoddpjfgjelaaGreatDoorP42
set_option linter.unusedVariables false
set_option linter.unusedSimpArgs false
set_option maxRecDepth 1500
set_option maxHeartbeats 4000000
namespace Go.Proofs.YtffoddpjfgjelaaGreatDoor
open Go.RowKit
namespace Ps
open Mem Win St Fi Pk
theorem own_put{w:World}{T:TypeId}{z g cap n:Nat}{xs:List Value}(h:w.ownsRow 0 T z (.slice (some ⟨g,0,none⟩) n cap) n xs)(i:Nat)(u:Value):(w.setCell ⟨g,i,none⟩ u).ownsRow 0 T z (.slice (some ⟨g,0,none⟩) n cap) n (xs.set i u):=by
 obtain⟨h1,h2⟩:=h
 rcases h2 with⟨hnn,h0⟩|⟨g',cap',cur,hgv,h4,hg,hle,hm,hcs,ht⟩
 ·simp at hnn
 ·simp only[Value.slice.injEq,Option.some.injEq,Addr.mk.injEq,and_true,true_and] at hgv
  obtain⟨rfl,rfl⟩:=hgv
  exact⟨by rw[List.length_set];exact h1,.inr ⟨g,cap,_,rfl,h4,set_in hg i u,hle,hm,by simp[hcs],by rw[Array.toList_setIfInBounds,List.take_set,ht]⟩⟩
theorem syCells_length(l:List Sy):(Lz.syCells l).length=l.length*4:=by
 induction l with
 |nil=>rfl
 |cons y l ih=>
   simp only[Lz.syCells,List.flatMap_cons,List.length_append,List.length_cons] at ih ⊢
   rw[ih]
   simp only[Sy.cells,List.length_cons,List.length_nil]
   omega
theorem set_mid{α:Type}(A B:List α)(c0 c1 c2 c3 d0 d1 d2 d3:α)(k:Nat)(h:A.length=k):
 ((((A++(c0::c1::c2::c3::B)).set k d0).set (k+1) d1).set (k+2) d2).set (k+3) d3=A++(d0::d1::d2::d3::B):=by
 subst h
 simp[List.set_append]
theorem syCells_mid(a:List Sy)(y:Sy)(b:List Sy):Lz.syCells (a++y::b)=Lz.syCells a++(.int .i64 y.kind::.int .u8 y.byte::.int .i64 y.len::.int .i64 y.dist::Lz.syCells b):=by
 simp[Lz.syCells,Sy.cells]
theorem sy_open {w0 w:World} {v:Value} {a b:List Sy} {y:Sy} (h:Lz.Syms w0 w v (a++y::b)):∃g cap cur,v=.slice (some ⟨g,0,none⟩) (a++y::b).length cap∧w.heap[g]? =some (.cells cur 110 (0,0))∧
 cur[a.length*4]? =some (.int .i64 y.kind)∧cur[a.length*4+1]? =some (.int .u8 y.byte)∧cur[a.length*4+2]? =some (.int .i64 y.len)∧cur[a.length*4+3]? =some (.int .i64 y.dist)∧(a.length+1)*4≤cur.size∧
 ∀z:Sy,Lz.Syms w0 ((((w.setCell ⟨g,a.length*4,none⟩ (.int .i64 z.kind)).setCell ⟨g,a.length*4+1,none⟩ (.int .u8 z.byte)).setCell ⟨g,a.length*4+2,none⟩ (.int .i64 z.len)).setCell ⟨g,a.length*4+3,none⟩ (.int .i64 z.dist)) v (a++z::b):=by
 obtain⟨h1,h2⟩:=h.own
 rcases h2 with⟨hnn,h0⟩|⟨g,cap,cur,hgv,h4,hg,hle,hm,hcs,ht⟩
 ·simp at h0
 ·have hlen:=syCells_length a
  have key:∀(i:Nat)(u:Value),(Lz.syCells (a++y::b))[i]? =some u→cur[i]? =some u:=by
   intro i u hu
   rw[←ht,List.getElem?_take] at hu
   split at hu
   ·rw[←Array.getElem?_toList]
    exact hu
   ·cases hu
  have hmid:=syCells_mid a y b
  refine⟨g,cap,cur,hgv,hg,key _ _ ?_,key _ _ ?_,key _ _ ?_,key _ _ ?_,?_,fun z=>⟨?_,fun k hk=>h.new k hk⟩⟩
  ·rw[hmid,←hlen];simp
  ·rw[hmid,←hlen,List.getElem?_append_right (by omega)];simp
  ·rw[hmid,←hlen,List.getElem?_append_right (by omega)];simp
  ·rw[hmid,←hlen,List.getElem?_append_right (by omega)];simp
  ·rw[hcs]
   have:a.length+1≤cap:=by simp only[List.length_append,List.length_cons] at hle;omega
   exact Nat.mul_le_mul_right _ this
  ·have ho:=h.own
   rw[hgv] at ho ⊢
   have e:(a++z::b).length=(a++y::b).length:=by simp
   rw[e,syCells_mid,←set_mid (Lz.syCells a) (Lz.syCells b) (.int .i64 y.kind) (.int .u8 y.byte) (.int .i64 y.len) (.int .i64 y.dist) _ _ _ _ (a.length*4) hlen,←hmid]
   exact own_put (own_put (own_put (own_put ho _ _) _ _) _ _) _ _
theorem sy_at {w0 w:World} {g n cap:Nat} {a b:List Sy} {y:Sy} (h:Lz.Syms w0 w (.slice (some ⟨g,0,none⟩) n cap) (a++y::b)):∃cur,w.heap[g]? =some (.cells cur 110 (0,0))∧
 cur[a.length*4]? =some (.int .i64 y.kind)∧cur[a.length*4+1]? =some (.int .u8 y.byte)∧cur[a.length*4+2]? =some (.int .i64 y.len)∧cur[a.length*4+3]? =some (.int .i64 y.dist)∧(a.length+1)*4≤cur.size∧
 ∀z:Sy,Lz.Syms w0 ((((w.setCell ⟨g,a.length*4,none⟩ (.int .i64 z.kind)).setCell ⟨g,a.length*4+1,none⟩ (.int .u8 z.byte)).setCell ⟨g,a.length*4+2,none⟩ (.int .i64 z.len)).setCell ⟨g,a.length*4+3,none⟩ (.int .i64 z.dist)) (.slice (some ⟨g,0,none⟩) n cap) (a++z::b):=by
 obtain⟨g',cap',cur,e,h⟩:=sy_open h
 simp only[Value.slice.injEq,Option.some.injEq,Addr.mk.injEq,and_true] at e
 obtain⟨rfl,_,_⟩:=e
 exact⟨cur,h⟩
theorem fr5z{w wc:World}{Y:Nat}(h:Fr (fun _=>False) w wc)(hY:w.heap.size≤Y)(a b c d e:Value):Fr (fun _=>False) w (((((wc.setCell ⟨Y,0,none⟩ a).setCell ⟨Y,1,none⟩ b).setCell ⟨Y,2,none⟩ c).setCell ⟨Y,3,none⟩ d).setCell ⟨Y,4,none⟩ e):=
 ((((h.setCell (p:=⟨Y,0,none⟩) (.inr hY) _).setCell (p:=⟨Y,1,none⟩) (.inr hY) _).setCell (p:=⟨Y,2,none⟩) (.inr hY) _).setCell (p:=⟨Y,3,none⟩) (.inr hY) _).setCell (p:=⟨Y,4,none⟩) (.inr hY) _
theorem s5{W:World}{Y:Nat}{x y z u v:Value}(h:W.heap[Y]? =some (.cells #[x,y,z,u,v] 84 (0,0)))(a b c d e:Value):
 (((((W.setCell ⟨Y,0,none⟩ a).setCell ⟨Y,1,none⟩ b).setCell ⟨Y,2,none⟩ c).setCell ⟨Y,3,none⟩ d).setCell ⟨Y,4,none⟩ e).heap[Y]? =some (.cells #[a,b,c,d,e] 84 (0,0)):=set_in (set_in (set_in (set_in (set_in h 0 a) 1 b) 2 c) 3 d) 4 e
theorem PlanOk.length{data:List UInt8}{tp:Nat}:∀{l:List Sy}{p q:Nat},PlanOk data tp l p q→l.length+p≤q
 |[],p,q,h=>by subst h;simp
 |y::l,p,q,⟨h1,h2,h3⟩=>by
   have:=h3.length
   have:=(StepOk.fits h1 h2).2
   rw[List.length_cons]
   omega
structure CR(w:World)(data:List UInt8)(tp fm dict:Nat)(s:S)(P:Nat)(pv fv v:Value)(p:Nat)(t:S)(a b:List Sy)(wr:World):Prop where
 fr:Fr (fun _=>False) w wr
 st:wr.heap[w.heap.size]? =some (.cells t.cells 84 (0,0))
 rs:wr.heap[w.heap.size+1]? =some (.cells S.zero.cells 84 (0,0))
 sy:Lz.Syms w wr v (a++b)
 steps:Pk.Steps data tp a fm s p t
 ok:t.Ok
 pl:PlanOk data tp b p tp
 pc:PcAt wr P tp dict pv fv data
theorem CR.keep{w wr wr':World}{data:List UInt8}{tp fm dict P p:Nat}{s t:S}{pv fv v:Value}{a b:List Sy}(h:CR w data tp fm dict s P pv fv v p t a b wr)(hf:Fr (fun _=>False) wr wr'):CR w data tp fm dict s P pv fv v p t a b wr':=
 ⟨h.fr.trans hf,hf.keep h.st (fun h=>h),hf.keep h.rs (fun h=>h),h.sy.step hf (fun _ _ h=>h),h.steps,h.ok,h.pl,h.pc.keep hf⟩
set_option maxRecDepth 100000 in
theorem cheap_calls(pv:Value)(data:List UInt8)(fm tp dict:Nat)(s:S)(w:World)(h:Rd w pv data)(hT:Tabs w)(hs:s.Ok)(hft:fm<tp)(ht:tp≤data.length)(hb:data.length≤1073741824)(hd1:1≤dict)(hd2:dict≤4294967295):
 Calls Tryz.prog 73 #[pv,.int .i64 fm,.int .i64 tp,.int .i64 dict,.agg s.cells] w (ParsePost w data tp fm s):=by
 have hx:=heap_alloc_new w (.cells s.cells 84)
 have hfa:=((Fr.refl (fun _=>False) w).alloc (.cells s.cells 84)).alloc (.cells S.zero.cells 84)
 have hx1:=((Fr.refl (fun _=>False) (w.alloc (.cells s.cells 84))).alloc (.cells S.zero.cells 84)).keep hx (fun h=>h)
 have hx2:=heap_alloc_new (w.alloc (.cells s.cells 84)) (.cells S.zero.cells 84)
 rw[World.size_alloc] at hx2
 have HN:=Hd (plan_calls pv data fm tp dict _ (h.keep hfa) (hT.keep hfa) hft ht hb hd1 hd2)
 have HRC:=Hd (fun(w':World)(hf:Fr (fun _=>False) w w')=>right_calls s hs w' (hT.keep hf))
 have HR:=Hd h
 have HT:=Hd hT
 have HS:=Hd hs
 have HFA:=Hd hfa
 have HX1:=Hd hx1
 have HX2:=Hd hx2
 obtain⟨pa,pc,rfl,_⟩:=h
 obtain⟨sn,s0,s1,s2,s3⟩:=s
 simp only[S.cells,S.zero] at HN HRC HX1 HX2 HFA ⊢
 clear hx hfa hx1 hx2 hT hs
 go_enter Tryz.func73,Tryz.ntmps73
 go_wp2_with fail
 refine HN.out.mono ?_
 rintro e w2 ⟨hf2,v,l,rfl,hsy,hpl⟩
 have HF2:=Hd (HFA.out.trans hf2)
 have HY1:=Hd (hf2.keep HX1.out (fun h=>h))
 have HY2:=Hd (hf2.keep HX2.out (fun h=>h))
 obtain⟨pm,cap,rfl⟩:=own_slice hsy.own
 have hnew:∀k,(Value.slice pm l.length cap).ownBlock=some k→w.heap.size+2≤k:=fun k hk=>by
  have:=hsy.new k hk
  simpa using this
 have HSY:=Hd hsy
 have HNEW:=Hd hnew
 have HPL:=Hd hpl
 have hl30:l.length≤1073741824:=by have:=hpl.length;omega
 obtain⟨c0,c1,c2,c3,c4⟩:=cs5 HY1.out rfl rfl rfl rfl rfl
 clear hf2 hsy hpl HX1 HX2 HN hnew
 go_wp2_with fail
 refine(HRC.out w2 HF2.out).mono ?_
 rintro e w3 ⟨rfl,hf3⟩
 clear c0 c1 c2 c3 c4
 have hfp:=hf3.alloc (.cells #[.slice pa data.length pc,.int .i64 tp,.int .i64 dict,.pointer none] 235)
 have hpp:=heap_alloc_new w3 (.cells #[.slice pa data.length pc,.int .i64 tp,.int .i64 dict,.pointer none] 235)
 have hs2:=HFA.out.size
 simp only[World.size_alloc] at hs2
 have H0:=Hd (show CR w data tp fm dict ⟨sn,s0,s1,s2,s3⟩ w3.heap.size (.slice pa data.length pc) (.pointer none) (.slice pm l.length cap) fm ⟨sn,s0,s1,s2,s3⟩ [] l (w3.alloc (.cells #[.slice pa data.length pc,.int .i64 tp,.int .i64 dict,.pointer none] 235)) from
  ⟨HF2.out.trans hfp,hfp.keep HY1.out (fun h=>h),hfp.keep HY2.out (fun h=>h),⟨Lz.own_stepN HSY.out.own hfp (fun _ _ h=>h),fun k hk=>by have:=HNEW.out k hk;omega⟩,⟨rfl,rfl⟩,HS.out,HPL.out,hpp,HR.out.keep (HF2.out.trans hfp)⟩)
 clear hfp hpp hf3 HY1 HY2 HSY HF2 HPL
 go_wp2_with fail
 obtain⟨P,hP⟩:∃P,w3.heap.size=P:=⟨_,rfl⟩
 rw[hP] at H0 ⊢
 generalize w3.alloc (.cells #[.slice pa data.length pc,.int .i64 tp,.int .i64 dict,.pointer none] 235)=W4 at*
 obtain⟨n,hn⟩:∃n,l.length=n:=⟨_,rfl⟩
 rw[hn] at H0 HNEW hl30 ⊢
 have HLN:=Hd hn
 clear hn
 go_loopw [49,17] (fun s49 s17 wr=>∃(p:Nat)(t:S)(a b:List Sy),s49=.int .i64 a.length∧s17=.int .i64 p∧(a++b).length=n∧CR w data tp fm dict ⟨sn,s0,s1,s2,s3⟩ P (.slice pa data.length pc) (.pointer none) (.slice pm n cap) p t a b wr) (fun s49 _ _=>n-(intOf s49).toNat)
 case atStart=>exact⟨fm,_,[],l,rfl,rfl,by simpa using HLN.out,H0.out⟩
 case round=>
  obtain⟨p,t,a,b,rfl,rfl,hab,hcr⟩:=hrel
  rcases b with _|⟨y,b⟩
  ·have hp:tp=p:=hcr.pl
   subst hp
   have hst:=hcr.st
   have hrs:=hcr.rs
   obtain⟨tn,t0,t1,t2,t3⟩:=t
   simp only[S.cells,S.zero] at hst hrs
   obtain⟨c0,c1,c2,c3,c4⟩:=cs5 hst rfl rfl rfl rfl rfl
   obtain⟨z0,z1,z2,z3,z4,zf⟩:=cf5 hrs rfl rfl rfl rfl rfl
   rw[List.append_nil] at hab
   rw[hab]
   have hlt:¬((n:Int)<(n:Int)):=by omega
   have HG:=Hd hcr
   have HSYE:=Hd (show Lz.Syms w wr (.slice pm n cap) a from by simpa using hcr.sy)
   clear hcr hab
   go_upto_region 20 with fail
   go_region
   all_goals go_wp2_with fail
   all_goals
    refine bodyPost_ret (v:=.tuple #[.slice pm n cap,.agg #[.int .i64 tn,.int .i64 t0,.int .i64 t1,.int .i64 t2,.int .i64 t3],.int .i64 0]) (by simp[results,Tryz.results73,go_sem,z0,z1,z2,z3,z4]) rfl ?_
    refine⟨?_,.inr ⟨_,a,⟨tn,t0,t1,t2,t3⟩,rfl,HSYE.out.step (S:=fun k=>k=w.heap.size+1) ?_ (fun k hk e=> ?_),HG.out.steps,HG.out.ok⟩⟩
    ·refine Fr.drew ?_
     repeat refine Fr.setCell ?_ (.inr (Nat.le_succ _)) _
     exact HG.out.fr
    ·refine Fr.drew ?_
     repeat refine Fr.setCell ?_ (.inl (by simp)) _
     exact Fr.refl _ _
    ·subst e
     obtain⟨cur,hc⟩:=Lz.own_block HSYE.out.own hk
     exact neOf hrs hc (by decide) rfl
  ·obtain⟨g,cap',cur,hgv,hcur,y0,y1,y2,y3,hcz,_⟩:=sy_open hcr.sy
   simp only[Value.slice.injEq] at hgv
   obtain⟨rfl, -, -⟩:=hgv
   have hst:=hcr.st
   obtain⟨tn,t0,t1,t2,t3⟩:=t
   obtain⟨yk,yb,yl,yd⟩:=y
   simp only[S.cells] at hst
   simp only at y0 y1 y2 y3
   have q0:=cell_in (i:=a.length*4) hcur y0
   have q1:=cell_in (i:=a.length*4+1) hcur y1
   have q2:=cell_in (i:=a.length*4+2) hcur y2
   have q3:=cell_in (i:=a.length*4+3) hcur y3
   have hfy:=(Fr.refl (fun _=>False) wr).alloc (.cells #[.int .i64 yk,.int .u8 yb,.int .i64 yl,.int .i64 yd] 110)
   have hyn:=heap_alloc_new wr (.cells #[.int .i64 yk,.int .u8 yb,.int .i64 yl,.int .i64 yd] 110)
   have HC1:=Hd (hcr.keep hfy)
   have HYN:=Hd hyn
   obtain⟨b0,b1,b2,b3⟩:=cs4 hyn rfl rfl rfl rfl
   have hlen:(a.length:Int)<(n:Int):=by
    rw[←hab]
    simp only[List.length_append,List.length_cons]
    omega
   have hgl:=lt_of_block hcur
   obtain⟨k,hk⟩:∃k,a.length=k:=⟨_,rfl⟩
   rw[hk] at q0 q1 q2 q3 hlen ⊢
   have i1:(0:Int)≤(k:Int):=by omega
   have HK:=Hd hk
   have HAB:=Hd hab
   clear hcr hst hfy hyn hcur y0 y1 y2 y3 hcz hk hab
   go_wp2_with fail
   have hsz:(if(yl:Int)≤1 then(1:Int) else(yl:Int))=((stepSize ⟨yk,yb,yl,yd⟩:Nat):Int):=by
    unfold stepSize
    by_cases h:yl≤1
    ·rw[if_pos (by omega),if_pos h];rfl
    ·rw[if_neg (by omega),if_neg h]
   refine(size_calls _ _ _ _ _ (by omega)).mono ?_
   rintro e w5 ⟨rfl,hf5⟩
   rw[hsz]
   have HC5:=Hd (HC1.out.keep hf5)
   have HY5:=Hd (hf5.keep HYN.out (fun h=>h))
   have hst:=HC5.out.st
   obtain⟨c0,c1,c2,c3,c4⟩:=cs5 hst rfl rfl rfl rfl rfl
   obtain⟨d0,d1,d2,d3⟩:=cs4 HY5.out rfl rfl rfl rfl
   have HSTEP:=Hd HC5.out.pl
   obtain⟨hfit,hst1⟩:=StepOk.fits HSTEP.out.1 HSTEP.out.2.1
   have HSZ:=Hd hsz
   clear b0 b1 b2 b3 q0 q1 q2 q3 hst hf5 hsz HC1 HYN
   go_wp2_with fail
   have HTD:=Hd (told_calls P tp dict p (.slice pa data.length pc) (.pointer none) data ⟨yk,yb,yl,yd⟩ ⟨tn,t0,t1,t2,t3⟩ _ HC5.out.pc HSTEP.out.1 HSTEP.out.2.1 ht (by omega))
   refine HTD.out.mono ?_
   rintro e w6 ⟨hf6,⟨zk,zb,zl,zd⟩,rfl,hca,hzy⟩
   have hc6:=HC5.out.keep hf6
   obtain⟨cur6,hcur6,y0,y1,y2,y3,hcz,hput⟩:=sy_at hc6.sy
   rw[HK.out] at y0 y1 y2 y3 hcz hput
   simp only at y0 y1 y2 y3
   have q0:=cell_in (i:=k*4) hcur6 y0
   have q1:=cell_in (i:=k*4+1) hcur6 y1
   have q2:=cell_in (i:=k*4+2) hcur6 y2
   have q3:=cell_in (i:=k*4+3) hcur6 y3
   have qf:=fun j=>frozen_in hcur6 j
   have hgw:w.heap.size+2≤g:=HNEW.out g rfl
   obtain⟨W7,hW7⟩:∃W7,W7=((((w6.setCell ⟨g,k*4,none⟩ (.int .i64 zk)).setCell ⟨g,k*4+1,none⟩ (.int .u8 zb)).setCell ⟨g,k*4+2,none⟩ (.int .i64 zl)).setCell ⟨g,k*4+3,none⟩ (.int .i64 zd)):=⟨_,rfl⟩
   have hset:Fr (fun j=>j=g) w6 W7:=by
    rw[hW7]
    exact(((Fr.one _ _ _ _).trans (Fr.one _ _ _ _)).trans (Fr.one _ _ _ _)).trans (Fr.one _ _ _ _)
   have hsy7:=hput ⟨zk,zb,zl,zd⟩
   simp only at hsy7
   rw[←hW7] at hsy7
   have hfr7:=hc6.fr.trans' hset (fun j hj e=>by omega)
   have hst7:=hset.keep hc6.st (by omega)
   have hrs7:=hset.keep hc6.rs (by omega)
   have hpp7:=hset.keep hc6.pc.box (fun e=>neOf hc6.pc.box hcur6 (by decide) e)
   have hpc7:PcAt W7 P tp dict (.slice pa data.length pc) (.pointer none) data:=⟨hpp7,HR.out.keep hfr7⟩
   have HSY7:=Hd hsy7
   have HFR7:=Hd hfr7
   have HST7:=Hd hst7
   have HRS7:=Hd hrs7
   have HPC7:=Hd hpc7
   have HCA:=Hd hca
   have HZY:=Hd hzy
   have HW7:=Hd hW7
   clear hW7 hset hsy7 hfr7 hst7 hrs7 hpp7 hpc7 hca hzy hc6 hcur6 hput y0 y1 y2 y3 hcz d0 d1 d2 d3 c0 c1 c2 c3 c4 hf6 HTD
   simp only[Sy.cells]
   go_wp2_with fail
   rw[←HW7.out]
   have hst7:=HST7.out
   simp only[S.cells] at hst7
   obtain⟨cur7,hcur7,y0,y1,y2,y3,hcz7,_⟩:=sy_at HSY7.out
   rw[HK.out] at y0 y1 y2 y3 hcz7
   simp only at y0 y1 y2 y3
   have hS:∀w':World,Fr (fun _=>False) W7 w'→(w'.cell? ⟨w.heap.size,0,none⟩=some (.int .i64 tn)∧w'.cell? ⟨w.heap.size,1,none⟩=some (.int .i64 t0)∧w'.cell? ⟨w.heap.size,2,none⟩=some (.int .i64 t1)∧w'.cell? ⟨w.heap.size,3,none⟩=some (.int .i64 t2)∧w'.cell? ⟨w.heap.size,4,none⟩=some (.int .i64 t3)∧w'.cell? ⟨g,k*4,none⟩=some (.int .i64 zk)∧w'.cell? ⟨g,k*4+1,none⟩=some (.int .u8 zb)∧w'.cell? ⟨g,k*4+2,none⟩=some (.int .i64 zl)∧w'.cell? ⟨g,k*4+3,none⟩=some (.int .i64 zd)):=fun w' hf=>
    ⟨cell_in (i:=0) (hf.keep hst7 (fun h=>h)) rfl,cell_in (i:=1) (hf.keep hst7 (fun h=>h)) rfl,cell_in (i:=2) (hf.keep hst7 (fun h=>h)) rfl,cell_in (i:=3) (hf.keep hst7 (fun h=>h)) rfl,cell_in (i:=4) (hf.keep hst7 (fun h=>h)) rfl,
     cell_in (i:=k*4) (hf.keep hcur7 (fun h=>h)) y0,cell_in (i:=k*4+1) (hf.keep hcur7 (fun h=>h)) y1,cell_in (i:=k*4+2) (hf.keep hcur7 (fun h=>h)) y2,cell_in (i:=k*4+3) (hf.keep hcur7 (fun h=>h)) y3⟩
   have herr:=S.next_err ⟨tn,t0,t1,t2,t3⟩ ⟨zk,zb,zl,zd⟩
   have HN:=fun W(h:Tabs W)=>Hd (next_calls ⟨tn,t0,t1,t2,t3⟩ HC5.out.ok ⟨zk,zb,zl,zd⟩ HCA.out.ok W h)
   generalize hrr:S.next ⟨tn,t0,t1,t2,t3⟩ ⟨zk,zb,zl,zd⟩=rr at*
   obtain⟨er,rn,ra,rb,rc,rd⟩:=rr
   have HRR:=Hd hrr
   simp only[S.cells,Sy.cells] at HN herr ⊢
   have HS:=Hd hS
   have FC:=Hd (Fr.refl (fun _=>False) W7).drew
   have HSC:=Hd (hS W7.drew FC.out)
   have HRA:=Hd (((Fr.refl (fun _=>False) W7).alloc (.cells #[.int .i64 0,.int .i64 0,.int .i64 0,.int .i64 0,.int .i64 0] 84)).drew)
   have hz0:((W7.alloc (.cells #[.int .i64 0,.int .i64 0,.int .i64 0,.int .i64 0,.int .i64 0] 84)).drew).heap[W7.heap.size]? =some (.cells #[.int .i64 0,.int .i64 0,.int .i64 0,.int .i64 0,.int .i64 0] 84 (0,0)):=heap_alloc_new W7 _
   have HZ0:=Hd hz0
   clear hz0
   obtain⟨e0,e1,e2,e3,e4,e5,e6,e7,e8⟩:=hS W7 (Fr.refl _ _)
   have HT7:=Hd (HT.out.keep HFR7.out)
   clear hS hst7 hcur7 y0 y1 y2 y3 hcz7 hrr
   go_cut [21,22] (fun s21 s22 wx=>∃zs,s21=.pointer (some ⟨zs,0,none⟩)∧s22=.int .i64 er∧wx.heap[zs]? =some (.cells #[.int .i64 rn,.int .i64 ra,.int .i64 rb,.int .i64 rc,.int .i64 rd] 84 (0,0))∧Fr (fun _=>False) W7 wx∧W7.heap.size≤zs)
   case first=>
    go_region_held3 (fun w'=>w'.cell? ⟨w.heap.size,0,none⟩=some (.int .i64 tn)∧w'.cell? ⟨w.heap.size,1,none⟩=some (.int .i64 t0)∧w'.cell? ⟨w.heap.size,2,none⟩=some (.int .i64 t1)∧w'.cell? ⟨w.heap.size,3,none⟩=some (.int .i64 t2)∧w'.cell? ⟨w.heap.size,4,none⟩=some (.int .i64 t3)∧w'.cell? ⟨g,k*4,none⟩=some (.int .i64 zk)∧w'.cell? ⟨g,k*4+1,none⟩=some (.int .u8 zb)∧w'.cell? ⟨g,k*4+2,none⟩=some (.int .i64 zl)∧w'.cell? ⟨g,k*4+3,none⟩=some (.int .i64 zd))
     (first|with_reducible exact HSC.out|with_reducible exact HS.out _ FC.out|with_reducible exact HS.out _ HRA.out|with_reducible exact HS.out _ (FC.out.alloc _)|(refine HS.out _ ?_;(repeat refine Fr.setCell ?_ (.inr (by first|exact Nat.le_refl _|exact FC.out.size)) _);first|exact FC.out|exact FC.out.alloc _)) ((
     (go_at_call 126
      first
       | (with_reducible refine (HN _ (HT7.out.keep FC.out)).out.mono ?_
          rintro e wc ⟨rfl,hfrc⟩
          have FC:=Hd (FC.out.trans hfrc)
          have HSC:=Hd (HS.out _ FC.out)
          clear hfrc)
       | (with_reducible refine (HN _ (HT7.out.keep HRA.out)).out.mono ?_
          rintro e wc ⟨rfl,hfrc⟩
          have hz:=hfrc.keep HZ0.out (fun h=>h)
          have FC:=Hd (HRA.out.trans hfrc)
          have HSC:=Hd (HS.out _ FC.out)
          obtain⟨z0,z1,z2,z3,z4,zf⟩:=cf5 hz rfl rfl rfl rfl rfl
          have HZ:=Hd hz
          clear hz hfrc))))
    all_goals go_wp2_with fail
    all_goals go_meet
    all_goals first
     |with_reducible exact⟨_,rfl,rfl,heap_alloc_new wc _,FC.out.alloc _,FC.out.size⟩
     |with_reducible exact⟨_,rfl,rfl,s5 HZ.out _ _ _ _ _,fr5z FC.out (Nat.le_refl _) _ _ _ _ _,Nat.le_refl _⟩
   case rest=>
    obtain⟨zs,rfl,rfl,hzx,hfx,hzs⟩:=hcut
    have HFX:=Hd hfx
    have HZX:=Hd hzx
    have hstx:=hfx.keep HST7.out (fun h=>h)
    have hrsx:=hfx.keep HRS7.out (fun h=>h)
    have hsw:=lt_of_block HST7.out
    simp only[S.cells,S.zero] at hstx hrsx
    clear e0 e1 e2 e3 e4 e5 e6 e7 e8
    rcases herr with rfl|rfl
    ·have sf:=fun i=>frozen_in hstx i
     obtain⟨x0,x1,x2,x3,x4⟩:=cs5 hstx rfl rfl rfl rfl rfl
     obtain⟨n0,n1,n2,n3,n4⟩:=cs5 hzx rfl rfl rfl rfl rfl
     have HSTX:=Hd hstx
     have HRSX:=Hd hrsx
     clear hzx hstx hrsx hfx
     go_wp2_with fail
     have hset:∀W9,W9=(((((wc.setCell ⟨w.heap.size,0,none⟩ (.int .i64 rn)).setCell ⟨w.heap.size,1,none⟩ (.int .i64 ra)).setCell ⟨w.heap.size,2,none⟩ (.int .i64 rb)).setCell ⟨w.heap.size,3,none⟩ (.int .i64 rc)).setCell ⟨w.heap.size,4,none⟩ (.int .i64 rd))→Fr (fun k=>k=w.heap.size) wc W9:=fun W9 hW9=>by
      rw[hW9]
      exact((((Fr.one _ _ _ _).trans (Fr.one _ _ _ _)).trans (Fr.one _ _ _ _)).trans (Fr.one _ _ _ _)).trans (Fr.one _ _ _ _)
     have hset:=hset _ rfl
     have hstN:=set_in (set_in (set_in (set_in (set_in HSTX.out 0 (.int .i64 rn)) 1 (.int .i64 ra)) 2 (.int .i64 rb)) 3 (.int .i64 rc)) 4 (.int .i64 rd)
     have hnx:S.next ⟨tn,t0,t1,t2,t3⟩ ⟨zk,zb,zl,zd⟩=(0,⟨rn,ra,rb,rc,rd⟩):=HRR.out
     have h01:(S.next ⟨tn,t0,t1,t2,t3⟩ ⟨zk,zb,zl,zd⟩).1=0:=by rw[hnx]
     have hright:=HCA.out.right h01
     have hzsz:=HCA.out.size h01
     have hgood:=S.next_ok HC5.out.ok h01
     have hsteps:=HC5.out.steps.snoc hright
     rw[hnx] at hgood hsteps
     have hss:St.size ⟨zk,zb,zl,zd⟩=stepSize ⟨yk,yb,yl,yd⟩:=by
      have h1:stepSize ⟨zk,zb,zl,zd⟩=stepSize ⟨yk,yb,yl,yd⟩:=HZY.out
      rw[←h1]
      simp only at hzsz
      unfold stepSize
      simp only
      split at hzsz<;>split<;>omega
     rw[hss] at hsteps
     have hpl9:=HSTEP.out.2.2
     have hfr9:=(HFR7.out.trans HFX.out).trans' hset (fun j hj e=>by omega)
     have hrs9:=hset.keep HRSX.out (by omega)
     have hppx:=HFX.out.keep HPC7.out.box (fun h=>h)
     have hpp9:=hset.keep hppx (fun e=>neOf hppx HSTX.out (by decide) e)
     have hsy9:=(HSY7.out.step HFX.out (fun _ _ h=>h)).step hset (fun j hj e=>by
      have:=HNEW.out j hj
      omega)
     have happ:a++(⟨zk,zb,zl,zd⟩:Sy)::b=(a++[(⟨zk,zb,zl,zd⟩:Sy)])++b:=by simp
     rw[happ] at hsy9
     have hab9:((a++[(⟨zk,zb,zl,zd⟩:Sy)])++b).length=n:=by
      rw[←HAB.out]
      simp
     have HCR9:=Hd (show CR w data tp fm dict ⟨sn,s0,s1,s2,s3⟩ P (.slice pa data.length pc) (.pointer none) (.slice (some ⟨g,0,none⟩) n cap) (p+stepSize ⟨yk,yb,yl,yd⟩) ⟨rn,ra,rb,rc,rd⟩ (a++[⟨zk,zb,zl,zd⟩]) b _ from⟨hfr9,hstN,hrs9,hsy9,hsteps,hgood,hpl9,hpp9,HR.out.keep hfr9⟩)
     clear hfr9 hrs9 hppx hpp9 hsy9 happ hpl9 hsteps hgood hss hzsz hright h01 hnx hstN hset
     go_roundw
     ·exact⟨p+stepSize ⟨yk,yb,yl,yd⟩,⟨rn,ra,rb,rc,rd⟩,a++[⟨zk,zb,zl,zd⟩],b,by simp[HK.out],by simp,hab9,HCR9.out⟩
     ·simp[intOf];omega
    ·obtain⟨z0,z1,z2,z3,z4,zf⟩:=cf5 hrsx rfl rfl rfl rfl rfl
     clear hzx hstx hrsx hfx
     go_wp2_with fail
     refine bodyPost_ret (v:=.tuple #[.slice none 0 0,.agg #[.int .i64 0,.int .i64 0,.int .i64 0,.int .i64 0,.int .i64 0],.int .i64 7]) (by simp[results,Tryz.results73,go_sem,z0,z1,z2,z3,z4]) rfl ?_
     refine⟨?_,.inl ⟨7,by decide,rfl⟩⟩
     repeat refine Fr.setCell ?_ (.inr (Nat.le_succ _)) _
     exact HFR7.out.trans HFX.out
end Ps
namespace En
open Mem Rc Win Lz St
theorem XAt.box{w w':World}{l:XL}{x:Xe}(h:XAt w l x){k:Nat}{cs:Array Value}{t:TypeId}{fr:Nat×Nat}(hk:w.heap[k]? =some (.cells cs t fr))(h1:t≠219)(h2:t≠5)(h3:t≠3)(hf:Fr (XF l) w w'):w'.heap[k]? =some (.cells cs t fr):=hf.keep hk (h.off hk h1 h2 h3)
abbrev syV(k by':Nat)(n d:Int):Array Value:=#[.int .i64 k,.int .u8 by',.int .i64 n,.int .i64 d]
theorem and15(r:Nat):bits BinOp.and IntKind.i64 (r:Int) 15=(r:Int)%16:=by
 have hx:r%16<16:=Nat.mod_lt _ (by decide)
 have h2:(BitVec.ofInt 64 (15:Int)).toNat=2^4-1:=by decide
 have h1:(BitVec.ofInt 64 (r:Int)).toNat=r%2^64:=by rw[BitVec.ofInt_natCast,BitVec.toNat_ofNat]
 show IntKind.i64.wrap ((BitVec.ofInt 64 (r:Int)&&&BitVec.ofInt 64 (15:Int)).toNat:Int)=_
 rw[BitVec.toNat_and,h1,h2,Nat.and_two_pow_sub_one_eq_mod,Nat.mod_mod_of_dvd _ (by decide)]
 exact IntWalk.i64_in _ (by omega)
theorem min_slot(n:Nat)(h:2≤n):64*min ((n:Int)-2) 3=((slotAt n:Nat):Int):=by unfold slotAt;omega
set_option maxRecDepth 4000 in
theorem distance_calls{w:World}{l:XL}{x:Xe}(h:XAt w l x)(hp:XSep l){n d by':Nat}(h1:2≤n)(h2:n≤273)(hd:isD d)(hs:x.e.k.s≤1099511620000):
 Calls Tryz.prog 196 #[ptr l.D,iV l.E,.agg (syV 2 by' n d)] w (SPost l w (x.ops (distOps n (slotOf d) d))):=by
 have hf:=(Fr.refl (fun _=>False) w).alloc (.cells (syV 2 by' n d) 110)
 have hx:=heap_alloc_new w (.cells (syV 2 by' n d) 110)
 have hA:=h.keep hf
 obtain⟨s1,s2,s3⟩:=slotOf_in hd.1 hd.2
 have HSL:=fun W=>Hd (slot_calls d W hd.1 hd.2)
 have hsa:slotAt n+64≤256:=by unfold slotAt;omega
 have hms:=min_slot n h1
 have HO:=Hd (show distOps n (slotOf d) d=treeOps false 15 (slotAt n) 6 (slotOf d) 6 1++restOps (slotOf d) (d-(range (slotOf d)).1) from rfl)
 generalize slotOf d=slot at*
 generalize slotAt n=sa at*
 have hr:=range_le ⟨slot,s1⟩
 simp only at hr
 have HRG:=fun W=>Hd (range_calls slot (by omega) W)
 have hR0:(range slot).2=0→restOps slot (d-(range slot).1)=[]:=fun h=>by unfold restOps;rw[if_pos h]
 have hRB:¬(range slot).2=0→slot<14→restOps slot (d-(range slot).1)=treeOps true 16 (restAt slot) (range slot).2 (d-(range slot).1) (range slot).2 1:=fun h h2=>by unfold restOps;rw[if_neg h,if_pos h2]
 have hRC:¬(range slot).2=0→¬slot<14→restOps slot (d-(range slot).1)=halves ((d-(range slot).1)/16) ((range slot).2-4)++treeOps true 17 0 4 ((d-(range slot).1)%16) 4 1:=fun h h2=>by unfold restOps;rw[if_neg h,if_neg h2]
 have hR4:(range slot).2≠0→4≤slot:=fun h=>by
  unfold range at h
  split at h
  ·exact absurd rfl h
  ·omega
 have hRa:4≤slot→slot<14→restAt slot+2^(range slot).2≤128:=fun h h2=>restAt_le ⟨slot,h2⟩ h
 obtain⟨hr1,hr2,hr3,hr4,hr5⟩:=hr
 generalize restOps slot (d-(range slot).1)=ro at*
 generalize(range slot).1=ls at*
 generalize(range slot).2=bits at*
 obtain⟨r,hr⟩:∃r,r=d-ls:=⟨_,rfl⟩
 have hri:(d:Int)-ls=(r:Int):=by omega
 have hrb:r<2^bits:=by omega
 rw[←hr] at hRB hRC
 have HR0:=Hd hR0
 have HRB:=Hd hRB
 have HRC:=Hd hRC
 have HR4:=Hd hR4
 have HRa:=Hd hRa
 have HSR:=Hd (And.intro hr4 hr5)
 clear hR0 hRB hRC hR4 hRa hr4 hr5 hr
 have HF:=Hd hf
 have HFIN:=Hd (show∀(o:List Op)(w':World),distOps n slot d=o→XPost l _ (x.ops o) w'→XPost l w (x.ops (distOps n slot d)) w' from fun o w' e hq=>by rw[e];exact XPost.box hf hq)
 have hm1:=fun k=>m_tree k l.E
 have hm2:=fun k=>m_back k l.E
 have hm3:=fun k=>m_direct k l.E
 have hn1:=fun k=>na_tree k l.E
 have hn2:=fun k=>na_back k l.E
 clear h hf
 go_enter Tryz.func196,Tryz.ntmps196
 go_wp2_with fail
 generalize hz:w.heap.size=z at*
 generalize hW:w.alloc (.cells (syV 2 by' n d) 110)=W at*
 refine(HSL _).out.mono ?_
 rintro e w1 ⟨rfl,rfl⟩
 go_wp2_with fail
 refine(HRG _).out.mono ?_
 rintro e w1 ⟨rfl,rfl⟩
 go_upto_region 3 with fail
 have hx5:W.heap[z]? =some (.cells (syV 2 by' n d) 110 (0,0)):=hx
 have HA:=Hd hA
 have HX:=Hd hx5
 have hc:=ctree_calls (hA.keep (Fr.refl (fun _=>False) W).drew) hp (j:=15) (a:=sa) (n:=6) (v:=slot) (by omega) (by omega) (by omega) (by show sa+64≤256;exact hsa) (by omega)
 rw[show((6:Nat):Int)=6 from rfl] at hc
 have HC:=Hd hc
 have HCC:=Hd (show W.drew.cell? ⟨l.D,0,none⟩=some (ptr l.T)∧W.drew.cell? ⟨l.T,23,none⟩=some (ptr (l.b 15))∧W.drew.cell? ⟨z,2,none⟩=some (.int .i64 n) from⟨hA.cells.d0,hA.cells.row 15 (by omega),cell_in hx5 rfl⟩)
 have HAD:=Hd (hA.keep (Fr.refl (fun _=>False) W).drew)
 have HXD:=Hd ((Fr.refl (fun _=>False) W).drew.keep hx5 (fun h=>h))
 clear hA hx hx5 hc
 go_cut [] (fun wx=>(∃v2,Fr (XF l) W wx∧XAt wx {l with v:=v2} (x.ops (treeOps false 15 sa 6 slot 6 1))∧XSep {l with v:=v2}∧∀k,v2.ownBlock=some k→l.v.ownBlock=some k∨W.heap.size≤k)∧wx.heap[z]? =some (.cells (syV 2 by' n d) 110 (0,0)))
 case first=>
  obtain⟨k0,k1,k2⟩:=HCC.out
  have hw1:IntKind.i64.wrap ((n:Int)-2)=(n:Int)-2:=IntWalk.i64_in _ (by omega)
  have hw2:IntKind.i64.wrap (sa:Int)=(sa:Int):=IntWalk.i64_in _ (by omega)
  go_region_held3 (fun w'=>w'.cell? ⟨l.D,0,none⟩=some (ptr l.T)∧w'.cell? ⟨l.T,23,none⟩=some (ptr (l.b 15))∧w'.cell? ⟨z,2,none⟩=some (.int .i64 n)) (with_reducible exact HCC.out) ((
   (go_at_call 341
    with_reducible refine HC.out.mono ?_
    rintro e w2 ⟨rfl,f2,v2,a2,s2,n2⟩
    have hx2:=HAD.out.box HXD.out (by decide) (by decide) (by decide) f2
    have HCC:=Hd (show w2.cell? ⟨l.D,0,none⟩=some (ptr l.T)∧w2.cell? ⟨l.T,23,none⟩=some (ptr (l.b 15))∧w2.cell? ⟨z,2,none⟩=some (.int .i64 n) from⟨a2.cells.d0,a2.cells.row 15 (by omega),cell_in hx2 rfl⟩)
    have HQ:=Hd (And.intro (show∃v2,Fr (XF l) W w2∧XAt w2 {l with v:=v2} (x.ops (treeOps false 15 sa 6 slot 6 1))∧XSep {l with v:=v2}∧∀k,v2.ownBlock=some k→l.v.ownBlock=some k∨W.heap.size≤k from⟨v2,(Fr.refl (XF l) W).drew.trans f2,a2,s2,n2⟩) hx2)
    clear f2 a2 s2 n2 hx2)))
  all_goals
   go_wp2_with fail
   go_meet
   exact HQ.out
 case rest=>
  obtain⟨⟨v2,f2,a2,s2,n2⟩,hx2⟩:=hcut
  have d3:=cell_in (i:=3) hx2 rfl
  have hu:=run_s (treeOps false 15 sa 6 slot 6 1) x.e
  rw[tree_len] at hu
  by_cases hb0:bits=0
  ·subst hb0
   have HD:=Hd (HO.out.trans (by rw[HR0.out rfl,List.append_nil]))
   have HP:=Hd (HFIN.out _ wc HD.out ⟨f2,v2,a2,s2,n2⟩)
   clear f2 a2 s2 n2 hx2 hu hms
   go_wp2_with fail
   go_end0
   exact⟨rfl,HP.out⟩
  have hb0i:((bits:Int)==0)=false:=by simp[hb0]
  by_cases h14:slot<14
  ·have hb5:=HSR.out.2 (HR4.out hb0) h14
   have hra:=HRa.out (HR4.out hb0) h14
   have HL:=fun W=>Hd (late_no slot h14 W)
   have HRT:=fun W=>Hd (restAt_calls slot W (by omega))
   have HD:=Hd (HO.out.trans (by rw[HRB.out hb0 h14]))
   have hp1:=Nat.two_pow_pos bits
   have hc:=cback_calls (a2.keep (Fr.refl (fun _=>False) wc).drew) s2 (j:=16) (a:=restAt slot) (n:=bits) (v:=r) (by omega) (by omega) hrb (by show restAt slot+2^bits≤128;exact hra) (Nat.le_trans hu (by omega))
   have HC:=Hd hc
   have HF2:=Hd f2
   have HN2:=Hd n2
   have HCC:=Hd (show wc.drew.cell? ⟨l.D,0,none⟩=some (ptr l.T)∧wc.drew.cell? ⟨l.T,24,none⟩=some (ptr (l.b 16)) from⟨a2.cells.d0,a2.cells.row 16 (by omega)⟩)
   clear f2 a2 s2 n2 hx2 hu hms hc hra hp1 hrb hr1
   generalize restAt slot=ra at*
   go_wp2_with fail
   refine(HL _).out.mono ?_
   rintro e w3 ⟨rfl,rfl⟩
   go_wp2_with fail
   obtain⟨k0,k1⟩:=HCC.out
   go_region_held3 (fun w'=>w'.cell? ⟨l.D,0,none⟩=some (ptr l.T)∧w'.cell? ⟨l.T,24,none⟩=some (ptr (l.b 16))) (with_reducible exact HCC.out) ((first
    | (go_at_call 246
       with_reducible refine(HRT _).out.mono ?_
       rintro e wq ⟨rfl,rfl⟩)
    | (go_at_call 338
       with_reducible refine HC.out.mono ?_
       rintro e w4 ⟨rfl,f4,v4,a4,s4,n4⟩
       have HCC:=Hd (show w4.cell? ⟨l.D,0,none⟩=some (ptr l.T)∧w4.cell? ⟨l.T,24,none⟩=some (ptr (l.b 16)) from⟨a4.cells.d0,a4.cells.row 16 (by omega)⟩)
       have HP:=Hd (HFIN.out _ w4 HD.out (by rw[←ops_ops];exact XPost.trans HF2.out HN2.out (XPost.box (Fr.refl (fun _=>False) wc).drew ⟨f4,v4,a4,s4,n4⟩)))
       clear f4 a4 s4 n4)))
   all_goals
    go_wp2_with fail
    go_end0
    exact⟨rfl,HP.out⟩
  ·have hb4:=HSR.out.1 (by omega)
   have HL:=fun W=>Hd (late_yes slot (by omega) W)
   have HD:=Hd (HO.out.trans (by rw[HRC.out hb0 h14]))
   obtain⟨bb,hbb⟩:∃bb,bb=bits-4:=⟨_,rfl⟩
   obtain⟨q,hq⟩:∃q,q=r/16:=⟨_,rfl⟩
   obtain⟨m,hm⟩:∃m,m=r%16:=⟨_,rfl⟩
   rw[←hbb,←hq,←hm] at HD
   have hpw:2^bits=2^bb*16:=by rw[show(16:Nat)=2^4 by rfl,←Nat.pow_add];congr 1;omega
   have hqb:q<2^bb:=by omega
   have hp2:2^bb≤2^26:=Nat.pow_le_pow_right (by omega) (by omega)
   have hc:=cdirect_calls a2 s2 (n:=bb) (v:=q) (by omega) (by omega) (Nat.le_trans hu (by omega))
   rw[show((q:Nat):Int)=(r:Int)/16 by omega,show((bb:Nat):Int)=(bits:Int)-4 by omega] at hc
   have HC:=Hd hc
   have HF2:=Hd f2
   have HN2:=Hd n2
   have hu2:=run_s (halves q bb) (x.ops (treeOps false 15 sa 6 slot 6 1)).e
   have hhl:∀k,(halves q k).length=k:=fun k=>by
    induction k with
    |zero=>rfl
    |succ k ih=>rw[halves,List.length_cons,ih]
   rw[hhl] at hu2
   have HU:=Hd (Nat.le_trans hu2 (Nat.add_le_add_right hu bb))
   have hm16:m<16:=by omega
   have hbbl:bb≤26:=by omega
   have hmi:((m:Nat):Int)=(r:Int)%16:=by omega
   have HMI:=Hd hmi
   have hm15:=and15 r
   clear hmi
   clear f2 a2 s2 n2 hx2 hu hms hc hpw hqb hp2 hq hhl hu2 hrb hr1 s3 hbb hm
   go_wp2_with fail
   refine(HL _).out.mono ?_
   rintro e w3 ⟨rfl,rfl⟩
   go_wp2_with fail
   refine HC.out.mono ?_
   rintro e w4 ⟨rfl,f4,v4,a4,s4,n4⟩
   have hc:=cback_calls (a4.keep (Fr.refl (fun _=>False) w4).drew) s4 (j:=17) (a:=0) (n:=4) (v:=m) (by omega) (by omega) hm16 (show 0+2^4≤16 by decide) (Nat.le_trans HU.out (by omega))
   rw[show((4:Nat):Int)=4 from rfl,show((0:Nat):Int)=0 from rfl,HMI.out] at hc
   have HC5:=Hd hc
   have HF4:=Hd f4
   have HN4:=Hd n4
   have HCC:=Hd (show w4.drew.cell? ⟨l.D,0,none⟩=some (ptr l.T)∧w4.drew.cell? ⟨l.T,25,none⟩=some (ptr (l.b 17)) from⟨a4.cells.d0,a4.cells.row 17 (by omega)⟩)
   clear f4 a4 s4 n4 hc
   go_wp2_with fail
   obtain⟨k0,k1⟩:=HCC.out
   go_region_held3 (fun w'=>w'.cell? ⟨l.D,0,none⟩=some (ptr l.T)∧w'.cell? ⟨l.T,25,none⟩=some (ptr (l.b 17))) (with_reducible exact HCC.out) ((
    (go_at_call 338
     with_reducible refine HC5.out.mono ?_
     rintro e w5 ⟨rfl,f5,v5,a5,s5,n5⟩
     have HCC:=Hd (show w5.cell? ⟨l.D,0,none⟩=some (ptr l.T)∧w5.cell? ⟨l.T,25,none⟩=some (ptr (l.b 17)) from⟨a5.cells.d0,a5.cells.row 17 (by omega)⟩)
     have HP:=Hd (HFIN.out _ w5 HD.out (by rw[←ops_ops,←ops_ops];exact XPost.trans HF2.out HN2.out (XPost.trans HF4.out HN4.out (XPost.box (Fr.refl (fun _=>False) w4).drew ⟨f5,v5,a5,s5,n5⟩))))
     clear f5 a5 s5 n5)))
   all_goals
    go_wp2_with fail
    go_end0
    exact⟨rfl,HP.out⟩
end En
end Go.Proofs.YtffoddpjfgjelaaGreatDoor
