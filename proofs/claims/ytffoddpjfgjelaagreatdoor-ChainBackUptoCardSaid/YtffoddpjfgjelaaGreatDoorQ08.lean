/- Part 8 of 48: lemmas of the last part, each under the conditions that it names. -/
import Derived.Deep.RegionHeld3
import Derived.Test.YtffoddpjfgjelaaGreatDoorQ01
import Derived.Test.YtffoddpjfgjelaaGreatDoorQ04
import Derived.Test.YtffoddpjfgjelaaGreatDoorQ07
set_option linter.unusedVariables false
set_option linter.unusedSimpArgs false
set_option maxRecDepth 1500
set_option maxHeartbeats 4000000
namespace Go.Proofs.YtffoddpjfgjelaaGreatDoor
open Go.RowKit
namespace Prob
open Mem
def nextN(p bit:Nat):Nat:=if bit=0 then p+(2048-p)/32 else p-p/32
theorem next_nat (p bit:Nat) (hp:p≤2047):next (p:Int) (bit:Int)=(nextN p bit:Int):=by
 unfold next nextN
 rw[taken_id _ (by omega) (by omega)]
 by_cases h:bit=0
 ·rw[if_pos (by omega),if_pos h];omega
 ·rw[if_neg (by omega),if_neg h];omega
theorem nextN_le(p bit:Nat)(hp:p≤2047):nextN p bit≤2047:=by unfold nextN;split<;>omega
def SetAt(w:World)(b g:Nat)(ps:List Nat):Prop:=
 ∃cap cs,w.heap[b]? =some (.cells #[.slice (some ⟨g,0,none⟩) ps.length cap] 360 (0,0))∧w.heap[g]? =some (.cells cs 3 (0,0))∧ps.length≤cap∧cap≤maxLen∧
  (∀(i:Nat)(p:Nat),ps[i]? =some p→cs[i]? =some (.int .i64 p)∧p≤2047)∧(∀(j:Nat)(x:Value),cs[j]? =some x→∃n:Int,x=.int .i64 n)
theorem SetAt.apart{w:World}{b g:Nat}{ps:List Nat}(h:SetAt w b g ps):b≠g:=by
 obtain⟨cap,cs,h1,h2,_⟩:=h
 rintro rfl
 rw[h1] at h2
 simp at h2
theorem SetAt.lt{w:World}{b g:Nat}{ps:List Nat}(h:SetAt w b g ps):b<w.heap.size∧g<w.heap.size:=by
 obtain⟨cap,cs,h1,h2,_⟩:=h
 exact⟨lt_of_block h1,lt_of_block h2⟩
theorem SetAt.step{S:Nat→Prop}{w w':World}{b g:Nat}{ps:List Nat}(h:SetAt w b g ps)(hfr:Fr S w w')(hb:¬S b)(hg:¬S g):SetAt w' b g ps:=by
 obtain⟨cap,cs,h1,h2,h3⟩:=h
 exact⟨cap,cs,hfr.keep h1 hb,hfr.keep h2 hg,h3⟩
theorem SetAt.keep{w w':World}{b g:Nat}{ps:List Nat}(h:SetAt w b g ps)(hfr:Fr (fun _=>False) w w'):SetAt w' b g ps:=h.step hfr (fun h=>h) (fun h=>h)
theorem at_set(b g i p:Nat)(ps:List Nat)(w:World)(h:SetAt w b g ps)(hp:ps[i]? =some p):
 Calls Tryz.prog 288 #[.pointer (some ⟨b,0,none⟩),.int .i64 i] w fun e w'=>e=.returned (.tuple #[.int .i64 p,.int .i64 0])∧w=w':=by
 obtain⟨cap,cs,h1,h2,h3,h4,h5,h6⟩:=h
 have hi:=(List.getElem?_eq_some_iff.1 hp).1
 exact at_in b g ps.length cap i p w (cell_in h1 rfl) (cell_in h2 (h5 i p hp).1) hi (by omega)
theorem at_none(b g i:Nat)(ps:List Nat)(w:World)(h:SetAt w b g ps)(hp:ps[i]? =none):
 Calls Tryz.prog 288 #[.pointer (some ⟨b,0,none⟩),.int .i64 i] w fun e w'=>e=.returned (.tuple #[.int .i64 0,.int .i64 7])∧w=w':=by
 obtain⟨cap,cs,h1,h2,h3,h4,h5,h6⟩:=h
 have hi:=List.getElem?_eq_none_iff.1 hp
 exact at_out b _ ps.length cap i w (cell_in h1 rfl) (.inr (by omega))
theorem turn_set(b g i p bit:Nat)(ps:List Nat)(w:World)(h:SetAt w b g ps)(hp:ps[i]? =some p):
 Calls Tryz.prog 291 #[.pointer (some ⟨b,0,none⟩),.int .i64 i,.int .i64 bit] w fun e w'=>e=.returned (.int .i64 0)∧Fr (fun k=>k=g) w w'∧SetAt w' b g (ps.set i (nextN p bit)):=by
 have hbg:=h.apart
 obtain⟨cap,cs,h1,h2,h3,h4,h5,h6⟩:=h
 have hi:=(List.getElem?_eq_some_iff.1 hp).1
 have hc:=h5 i p hp
 refine(turn_in b g ps.length cap i cs p bit w h1 h2 hi (by omega) hc.1 hbg).mono ?_
 rintro e w' ⟨rfl,hfr,hg,_⟩
 refine⟨rfl,hfr,cap,_,by rw[List.length_set];exact hfr.keep h1 hbg,hg,by rw[List.length_set];exact h3,h4,fun j q hq=> ?_,fun j x hx=> ?_⟩
 ·have hcs:=(Array.getElem?_eq_some_iff.1 hc.1).1
  rw[List.getElem?_set] at hq
  rw[Array.getElem?_setIfInBounds]
  by_cases hij:i=j
  ·rw[if_pos hij] at hq ⊢
   rw[if_pos (by omega)] at hq
   rw[if_pos (by omega)]
   obtain rfl:=Option.some.inj hq
   exact⟨by rw[next_nat p bit hc.2],nextN_le p bit hc.2⟩
  ·rw[if_neg hij] at hq ⊢
   exact h5 j q hq
 ·rw[Array.getElem?_setIfInBounds] at hx
  split at hx
  ·split at hx
   ·exact⟨_,(Option.some.inj hx).symm⟩
   ·cases hx
  ·exact h6 j x hx
theorem SetAt.off{w:World}{b g:Nat}{ps:List Nat}{v:Value}{xs:List UInt8}(h:SetAt w b g ps)(hr:Rd w v xs)(h0:0<xs.length):∀k,v.ownBlock=some k→k≠g:=by
 obtain⟨cap,cs,h1,h2,_,_,_,h6⟩:=h
 obtain⟨p,cp,rfl,_,_,h3⟩:=hr
 obtain⟨b',o,rfl,hc⟩:=h3 h0
 intro k hk
 simp only[Value.ownBlock,Option.some.injEq] at hk
 subst hk
 rintro rfl
 have h4:=hc 0 xs[0] (by simp[h0])
 rw[cell_of_row w _ _ _ _ _ h2] at h4
 obtain⟨n,hn⟩:=h6 _ _ h4
 simp[bv] at hn
end Prob
namespace Lz
open Mem St
abbrev ptr(n:Nat):Value:=.pointer (some ⟨n,0,none⟩)
structure Row1(w w':World)(x:Nat×Nat×Nat):Prop where
 fr:Fr (fun _=>False) w w'
 set:Prob.SetAt w' x.1 x.2.1 (List.replicate x.2.2 1024)
 lo:w.heap.size≤x.1∧w.heap.size≤x.2.1
structure Rows(w0 w:World)(l:List (Nat×Nat×Nat)):Prop where
 fr:Fr (fun _=>False) w0 w
 set:∀x ∈ l,Prob.SetAt w x.1 x.2.1 (List.replicate x.2.2 1024)
 lo:∀x ∈ l,w0.heap.size≤x.1∧w0.heap.size≤x.2.1
 pair:l.Pairwise (fun x y=>x.2.1<y.2.1)
theorem Rows.start(w:World):Rows w w []:=⟨Fr.refl _ _,by simp,by simp,by simp⟩
theorem Rows.keep{w0 w w':World}{l:List (Nat×Nat×Nat)}(h:Rows w0 w l)(hfr:Fr (fun _=>False) w w'):Rows w0 w' l:=
 ⟨h.fr.trans hfr,fun x hx=>(h.set x hx).keep hfr,h.lo,h.pair⟩
theorem Rows.snoc{w0 w w':World}{l:List (Nat×Nat×Nat)}(h:Rows w0 w l){x:Nat×Nat×Nat}(h1:Row1 w w' x):Rows w0 w' (l++[x]):=by
 refine⟨h.fr.trans h1.fr,fun y hy=> ?_,fun y hy=> ?_,?_⟩
 ·rcases List.mem_append.1 hy with hy|hy
  ·exact(h.set y hy).keep h1.fr
  ·rw[List.mem_singleton.1 hy]
   exact h1.set
 ·rcases List.mem_append.1 hy with hy|hy
  ·exact h.lo y hy
  ·rw[List.mem_singleton.1 hy]
   have:=h.fr.size
   have:=h1.lo
   omega
 ·rw[List.pairwise_append]
  refine⟨h.pair,by simp,fun y hy z hz=> ?_⟩
  rw[List.mem_singleton.1 hz]
  have h2:=(h.set y hy).lt.2
  have h3:=h1.lo.2
  omega
theorem Rows.join{w0 w w':World}{l m:List (Nat×Nat×Nat)}(h:Rows w0 w l)(k:Rows w w' m):Rows w0 w' (l++m):=by
 refine⟨h.fr.trans k.fr,fun y hy=> ?_,fun y hy=> ?_,?_⟩
 ·rcases List.mem_append.1 hy with hy|hy
  ·exact(h.set y hy).keep k.fr
  ·exact k.set y hy
 ·rcases List.mem_append.1 hy with hy|hy
  ·exact h.lo y hy
  ·have:=h.fr.size
   have:=k.lo y hy
   omega
 ·rw[List.pairwise_append]
  refine⟨h.pair,k.pair,fun y hy z hz=> ?_⟩
  have h2:=(h.set y hy).lt.2
  have h3:=(k.lo z hz).2
  omega
theorem Rows.fin{w0 W w w':World}{l:List (Nat×Nat×Nat)}(h:Rows W w l)(hF:Fr (fun _=>False) w0 W)(hch:Fr (fun k=>w0.heap.size≤k∧k<W.heap.size) w w'):Rows w0 w' l:=by
 have hs:=hF.size
 refine⟨(hF.trans h.fr).trans' hch (fun i hi h=>by omega),fun x hx=>(h.set x hx).step hch ?_ ?_,fun x hx=> ?_,h.pair⟩
 ·have:=(h.lo x hx).1
  omega
 ·have:=(h.lo x hx).2
  omega
 ·have:=h.lo x hx
  omega
theorem row_calls(n:Nat)(w:World)(hn:n≤1048576):
 Calls Tryz.prog 112 #[.int .i64 n] w fun e w'=>∃b g,e=.returned (ptr b)∧Row1 w w' (b,g,n):=by
 have HN:=Hd (Prob.new_in n w hn)
 go_enter Tryz.func112,Tryz.ntmps112
 go_wp2_with fail
 refine HN.out.mono ?_
 rintro e w1 ⟨rfl,hfr,hb,hg,hsz⟩
 have HF:=Hd hfr
 have HB:=Hd hb
 have HG:=Hd hg
 clear hfr hb hg hsz
 go_wp2_with fail
 go_ret
 refine⟨_,w.heap.size,rfl,HF.out,⟨n,_,?_,HG.out,by simp,by simp only[maxLen];omega,?_,?_⟩,by simp⟩
 ·rw[List.length_replicate]
  exact HB.out
 ·intro i p hp
  have hi:=(List.getElem?_eq_some_iff.1 hp).1
  simp only[List.length_replicate] at hi
  rw[List.getElem?_replicate,if_pos hi] at hp
  obtain rfl:=Option.some.inj hp
  simp[hi]
 ·intro j x hx
  obtain⟨h1,h2⟩:=Array.getElem?_eq_some_iff.1 hx
  exact⟨1024,by rw[←h2];simp⟩
theorem lengths_calls(w:World):
 Calls Tryz.prog 113 #[] w fun e w'=>∃b0 g0 b1 g1 b2 g2 b3 g3,e=.returned (.agg #[ptr b0,ptr b1,ptr b2,ptr b3])∧Rows w w' [(b0,g0,2),(b1,g1,128),(b2,g2,128),(b3,g3,256)]:=by
 have hf0:=(R0 w).alloc (.cells #[.pointer none,.pointer none,.pointer none,.pointer none] 214)
 have hx:=heap_alloc_new w (.cells #[.pointer none,.pointer none,.pointer none,.pointer none] 214)
 have HF0:=Hd hf0
 have HX:=Hd hx
 clear hf0 hx
 go_enter Tryz.func113,Tryz.ntmps113
 go_wp2_with fail
 refine(row_calls 2 _ (by omega)).mono ?_
 rintro e w1 ⟨b0,g0,rfl,h1⟩
 have H1:=Hd ((Rows.start _).snoc h1)
 have hx1:=h1.fr.keep HX.out (fun h=>h)
 have HX1:=Hd hx1
 clear h1 hx1
 go_wp2_with fail
 refine(row_calls 128 _ (by omega)).mono ?_
 rintro e w2 ⟨b1,g1,rfl,h2⟩
 have H2:=Hd (H1.out.snoc h2)
 have HX2:=Hd (h2.fr.keep HX1.out (fun h=>h))
 clear h2
 go_wp2_with fail
 refine(row_calls 128 _ (by omega)).mono ?_
 rintro e w3 ⟨b2,g2,rfl,h3⟩
 have H3:=Hd (H2.out.snoc h3)
 have HX3:=Hd (h3.fr.keep HX2.out (fun h=>h))
 clear h3
 go_wp2_with fail
 refine(row_calls 256 _ (by omega)).mono ?_
 rintro e w4 ⟨b3,g3,rfl,h4⟩
 have H4:=Hd (H3.out.snoc h4)
 have hx4:=h4.fr.keep HX3.out (fun h=>h)
 obtain⟨z0,z1,z2,z3,zf⟩:=cf4 hx4 rfl rfl rfl rfl
 clear h4 hx4
 go_wp2_with fail
 refine bodyPost_ret (v:=.agg #[ptr b0,ptr b1,ptr b2,ptr b3]) (by simp[results,Tryz.results113,go_sem,z0,z1,z2,z3]) rfl ?_
 refine⟨b0,g0,b1,g1,b2,g2,b3,g3,rfl,H4.out.fin HF0.out ?_⟩
 repeat refine Fr.setCell ?_ (.inl (by simp)) _
 exact Fr.refl _ _
def tabV(lc lp pb:Nat)(s:S)(b:Nat→Nat):Array Value:=
 #[.int .i64 lc,.int .i64 lp,.int .i64 pb,.int .i64 s.num,.int .i64 s.r0,.int .i64 s.r1,.int .i64 s.r2,.int .i64 s.r3,
  ptr (b 0),ptr (b 1),ptr (b 2),ptr (b 3),ptr (b 4),ptr (b 5),ptr (b 6),ptr (b 7),ptr (b 8),ptr (b 9),ptr (b 10),ptr (b 11),ptr (b 12),ptr (b 13),ptr (b 14),ptr (b 15),ptr (b 16),ptr (b 17)]
structure Tab(w:World)(T:Nat)(b g:Nat→Nat)(lc lp pb:Nat)(s:S)(ps:Nat→List Nat):Prop where
 box:w.heap[T]? =some (.cells (tabV lc lp pb s b) 217 (0,0))
 set:∀j,j<18→Prob.SetAt w (b j) (g j) (ps j)
 inj:∀i j,i<18→j<18→g i=g j→i=j
def fresh(lc lp:Nat):Nat→List Nat:=fun j=>List.replicate (rowLen lc lp j) 1024
theorem pairwise_at{α:Type}{R:α→α→Prop}{l:List α}(h:l.Pairwise R){i j:Nat}{x y:α}(hi:l[i]? =some x)(hj:l[j]? =some y)(hij:i<j):R x y:=by
 obtain⟨h1,rfl⟩:=List.getElem?_eq_some_iff.1 hi
 obtain⟨h2,rfl⟩:=List.getElem?_eq_some_iff.1 hj
 exact List.pairwise_iff_getElem.1 h i j h1 h2 hij
theorem rows_tab{w0 w:World}{l:List (Nat×Nat×Nat)}{T lc lp pb:Nat}{s:S}(h:Rows w0 w l)(hl:l.map (fun x=>x.2.2)=(List.range 18).map (rowLen lc lp))
 (hT:w.heap[T]? =some (.cells (tabV lc lp pb s (fun j=>(l.getD j (0,0,0)).1)) 217 (0,0))):
 Tab w T (fun j=>(l.getD j (0,0,0)).1) (fun j=>(l.getD j (0,0,0)).2.1) lc lp pb s (fresh lc lp)∧∀j,j<18→w0.heap.size≤(l.getD j (0,0,0)).1∧w0.heap.size≤(l.getD j (0,0,0)).2.1:=by
 have hlen:l.length=18:=by
  have:=congrArg List.length hl
  simpa using this
 have hx:∀j,j<18→∃x,l[j]? =some x∧l.getD j (0,0,0)=x∧x ∈ l∧x.2.2=rowLen lc lp j:=by
  intro j hj
  refine⟨l[j]'(by omega),by simp,by simp[List.getD_eq_getElem?_getD,List.getElem?_eq_getElem (show j<l.length by omega)],List.getElem_mem _,?_⟩
  have:=congrArg (fun m=>m[j]?) hl
  simp only[List.getElem?_map,List.getElem?_range,hj,List.getElem?_eq_getElem (show j<l.length by omega)] at this
  simpa using this
 refine⟨⟨hT,fun j hj=> ?_,fun i j hi hj hij=> ?_⟩,fun j hj=> ?_⟩
 ·obtain⟨x,h1,h2,h3,h4⟩:=hx j hj
  simp only[h2,fresh,←h4]
  exact h.set x h3
 ·obtain⟨x,h1,h2,h3,h4⟩:=hx i hi
  obtain⟨y,k1,k2,k3,k4⟩:=hx j hj
  simp only[h2,k2] at hij
  rcases Nat.lt_trichotomy i j with hlt|rfl|hlt
  ·have:=pairwise_at h.pair h1 k1 hlt
   omega
  ·rfl
  ·have:=pairwise_at h.pair k1 h1 hlt
   omega
 ·obtain⟨x,h1,h2,h3,h4⟩:=hx j hj
  rw[h2]
  exact h.lo x h3
theorem row_k(n:Nat)(k:Int)(hk:k=n)(w:World)(hn:n≤1048576):
 Calls Tryz.prog 112 #[.int .i64 k] w fun e w'=>∃b g,e=.returned (ptr b)∧Row1 w w' (b,g,n):=by
 subst hk
 exact row_calls n w hn
theorem new_st(w:World):Calls Tryz.prog 34 #[] w fun e w'=>e=.returned (.agg #[.int .i64 0,.int .i64 1,.int .i64 1,.int .i64 1,.int .i64 1])∧Fr (fun _=>False) w w':=new_calls w
def NewPost(lc lp pb:Nat)(w:World)(e:Ending)(w':World):Prop:=
 ∃T b g,e=.returned (ptr T)∧Fr (fun _=>False) w w'∧Tab w' T b g lc lp pb S.new (fresh lc lp)∧w.heap.size≤T∧∀j,j<18→w.heap.size≤b j∧w.heap.size≤g j
set_option maxRecDepth 100000 in
theorem tables_calls(lc lp pb:Nat)(w:World)(hl:lc+lp≤4):
 Calls Tryz.prog 65 #[.agg #[.int .i64 lc,.int .i64 lp,.int .i64 pb]] w (NewPost lc lp pb w):=by
 have hf0:=(R0 w).alloc (.cells #[.int .i64 lc,.int .i64 lp,.int .i64 pb] 24)
 have hx:=heap_alloc_new w (.cells #[.int .i64 lc,.int .i64 lp,.int .i64 pb] 24)
 have e1:IntKind.i64.wrap ((lc:Int)+lp)=((lc+lp:Nat):Int):=by rw[IntWalk.i64_in _ (by omega)];omega
 have HF0:=Hd hf0
 go_enter Tryz.func65,Tryz.ntmps65
 go_wp2_with fail
 generalize hW:w.alloc (.cells #[.int .i64 lc,.int .i64 lp,.int .i64 pb] 24)=W at*
 have HB:=Hd (hx)
 have HR:=Hd (Rows.start W.drew)
 have HS:=Hd (show∀w':World,Fr (fun _=>False) W w'→w'.cell? ⟨w.heap.size,0,none⟩=some (.int .i64 lc)∧w'.cell? ⟨w.heap.size,1,none⟩=some (.int .i64 lp)∧w'.cell? ⟨w.heap.size,2,none⟩=some (.int .i64 pb) from fun w' h=>
  ⟨cell_in (i:=0) (h.keep hx (fun h=>h)) rfl,cell_in (i:=1) (h.keep hx (fun h=>h)) rfl,cell_in (i:=2) (h.keep hx (fun h=>h)) rfl⟩)
 have HSC:=Hd (HS.out W.drew (Fr.refl _ _).drew)
 obtain⟨c0,c1,c2⟩:=HSC.out
 clear hx hf0 hW
 have HV:Hid (768*2^(lc+lp)≤1048576∧IntKind.i64.wrap (768*2^((lc:Int)+lp).toNat:Int)=((768*2^(lc+lp):Nat):Int)):=by
  have hp:2^(lc+lp)≤16:=Nat.pow_le_pow_right (n:=2) (by omega) hl
  have e2:((lc:Int)+lp).toNat=lc+lp:=by omega
  have e4:(768*2^(lc+lp):Int)=((768*2^(lc+lp):Nat):Int):=by simp
  rw[e2,e4]
  exact Hd ⟨by omega,IntWalk.i64_in _ (by omega)⟩
 have R192:=fun W=>Hd (row_k 192 192 rfl W (by omega))
 have R12:=fun W=>Hd (row_k 12 12 rfl W (by omega))
 have R256:=fun W=>Hd (row_k 256 256 rfl W (by omega))
 have R128:=fun W=>Hd (row_k 128 128 rfl W (by omega))
 have R16:=fun W=>Hd (row_k 16 16 rfl W (by omega))
 have RL:=fun W=>Hd (row_k (768*2^(lc+lp)) _ HV.out.2 W HV.out.1)
 go_region_held3 (fun w'=>w'.cell? ⟨w.heap.size,0,none⟩=some (.int .i64 lc)∧w'.cell? ⟨w.heap.size,1,none⟩=some (.int .i64 lp)∧w'.cell? ⟨w.heap.size,2,none⟩=some (.int .i64 pb)) (first|with_reducible exact HSC.out|exact HS.out _ (((Fr.refl _ W).drew.trans HR.out.fr).alloc _)) ((first
  | (go_at_call 34
     refine(new_st _).mono ?_
     rintro e wc ⟨rfl,hfrc⟩
     have HR:=Hd (HR.out.keep hfrc)
     have HSC:=Hd (HS.out _ ((Fr.refl _ W).drew.trans HR.out.fr))
     obtain⟨c0,c1,c2⟩:=HSC.out
     clear hfrc)
  | (go_at_call 112
     first
      |(with_reducible refine(R192 _).out.mono ?_)
      |(with_reducible refine(R12 _).out.mono ?_)
      |(with_reducible refine(R256 _).out.mono ?_)
      |(with_reducible refine(R128 _).out.mono ?_)
      |(with_reducible refine(R16 _).out.mono ?_)
      |(with_reducible refine(RL _).out.mono ?_)
     rintro e wc ⟨b,g,rfl,h1⟩
     have HR:=Hd (HR.out.snoc h1)
     have HSC:=Hd (HS.out _ ((Fr.refl _ W).drew.trans HR.out.fr))
     obtain⟨c0,c1,c2⟩:=HSC.out
     clear h1)
  | (go_at_call 113
     refine(lengths_calls _).mono ?_
     rintro e wc ⟨b0,g0,b1,g1,b2,g2,b3,g3,rfl,h1⟩
     have HR:=Hd (HR.out.join h1)
     have HSC:=Hd (HS.out _ ((Fr.refl _ W).drew.trans HR.out.fr))
     obtain⟨c0,c1,c2⟩:=HSC.out
     clear h1)))
 have hW:=HF0.out.size
 go_wp2_with fail
 go_ret
 obtain⟨h1,h2⟩:=rows_tab (T:=wc.heap.size) (lc:=lc) (lp:=lp) (pb:=pb) (s:=S.new) (HR.out.keep ((R0 wc).alloc _)) (by rfl) (heap_alloc_new wc _)
 have hfr:=fun o=>HF0.out.trans (((R0 W).drew.trans HR.out.fr).alloc o)
 have hs:=((R0 W).drew.trans HR.out.fr).size
 refine⟨wc.heap.size,_,_,rfl,hfr _,h1,by omega,fun j hj=> ?_⟩
 have h3:=h2 j hj
 simp only[World.size_drew] at h3
 exact⟨Nat.le_trans hW h3.1,Nat.le_trans hW h3.2⟩
end Lz
namespace St
open Mem
theorem step_copy_rep{ops:Array Oper}{o:Oper}{a:Act}{w:World}{K:Act→World→Prop}{Q:Exit→Act→World→Prop}{E:Prop}(hgd:o.guard=none)(d s:Operand)
 (ho:o.op=.call {callee:=.builtin .copy,args:=#[d,s],argTypes:=#[94,94]})(g k:Nat)(cs:List Value)(cur:Array Value)(T:TypeId)
 (hd:a.eval d=.slice (some ⟨g,2,none⟩) 3 3)(hs:a.eval s=.slice (some ⟨g,1,none⟩) k 4)(hg:w.heap[g]? =some (.cells cur T (0,0)))(hn:cs.length=k)(hk:k≤3)
 (hsrc:∀j v,cs[j]? =some v→w.cell? ⟨g,1+j,none⟩=some v)(h1:∀v ∈ cs,v.oneCell'=true)(hfit:2+k≤cur.size)
 (h:∀w',w'.heap[g]? =some (.cells (cur.toList.take 2++cs++cur.toList.drop (2+cs.length)).toArray T (0,0))→Fr (fun j=>j=g) w w'→K (a.put o.dst (.int .i64 (k:Int))) w'):
 if Region.wanted o (yielded ops a.tmps)=true then Oper.wp Tryz.prog o a w K Q else E:=by
 have hw:Region.wanted o (yielded ops a.tmps)=true:=by simp[Region.wanted,hgd]
 rw[if_pos hw]
 have hr:=run_copy_row (P:=Tryz.prog) w 94 94 o.type 3 g 2 3 3 ⟨g,1,none⟩ k 4 cur T cs Tryz.underlying94 (by kernel_rfl) hg (by rw[hn];exact(Nat.min_eq_left hk).symm) (fun j v hj=>by rw[add_mid];exact hsrc j v hj) (by omega) h1
 unfold Oper.wp
 simp[execOp,ho,resolve,invoke,builtin,hd,hs,hr,Result.andThen,hn]
 have h2:=h _ (setRow_heap w g _ _ T _ hg) ⟨rfl,rfl,rfl,by simp[World.setRow],fun j hj hne=>setRow_other w g j _ hne⟩
 simp only[List.append_assoc,hn] at h2
 exact h2
set_option maxRecDepth 100000 in
theorem rep_slices0(h:Nat):(∀W,(Instr.sliceAt 82 (.pointer (some ⟨h,1,none⟩)) (some (.int .i64 1)) none none).run Tryz.prog W=.ok (.slice (some ⟨h,2,none⟩) 3 3) W)∧(∀W,(Instr.sliceAt 82 (.pointer (some ⟨h,1,none⟩)) none (some (.int .i64 0)) none).run Tryz.prog W=.ok (.slice (some ⟨h,1,none⟩) 0 4) W):=by
 refine⟨fun _=>by kernel_rfl,fun _=>by kernel_rfl⟩
theorem rep_src0{w:World}{h:Nat}{q r0 r1 r2 r3:Nat}{T:TypeId}{fr:Nat×Nat}(hg:w.heap[h]? =some (.cells #[.int .i64 q,.int .i64 r0,.int .i64 r1,.int .i64 r2,.int .i64 r3] T fr)):∀(j:Nat)(v:Value),([]:List Value)[j]? =some v→w.cell? ⟨h,1+j,none⟩=some v:=by
 intro j v hj
 match j,hj with
 |j+0,hj=>simp at hj
set_option maxRecDepth 100000 in
theorem rep_slices1(h:Nat):(∀W,(Instr.sliceAt 82 (.pointer (some ⟨h,1,none⟩)) (some (.int .i64 1)) none none).run Tryz.prog W=.ok (.slice (some ⟨h,2,none⟩) 3 3) W)∧(∀W,(Instr.sliceAt 82 (.pointer (some ⟨h,1,none⟩)) none (some (.int .i64 1)) none).run Tryz.prog W=.ok (.slice (some ⟨h,1,none⟩) 1 4) W):=by
 refine⟨fun _=>by kernel_rfl,fun _=>by kernel_rfl⟩
theorem rep_src1{w:World}{h:Nat}{q r0 r1 r2 r3:Nat}{T:TypeId}{fr:Nat×Nat}(hg:w.heap[h]? =some (.cells #[.int .i64 q,.int .i64 r0,.int .i64 r1,.int .i64 r2,.int .i64 r3] T fr)):∀(j:Nat)(v:Value),([.int .i64 r0]:List Value)[j]? =some v→w.cell? ⟨h,1+j,none⟩=some v:=by
 intro j v hj
 match j,hj with
 |0,hj=>exact cell_in hg (by simpa using hj)
 |j+1,hj=>simp at hj
set_option maxRecDepth 100000 in
theorem rep_slices2(h:Nat):(∀W,(Instr.sliceAt 82 (.pointer (some ⟨h,1,none⟩)) (some (.int .i64 1)) none none).run Tryz.prog W=.ok (.slice (some ⟨h,2,none⟩) 3 3) W)∧(∀W,(Instr.sliceAt 82 (.pointer (some ⟨h,1,none⟩)) none (some (.int .i64 2)) none).run Tryz.prog W=.ok (.slice (some ⟨h,1,none⟩) 2 4) W):=by
 refine⟨fun _=>by kernel_rfl,fun _=>by kernel_rfl⟩
theorem rep_src2{w:World}{h:Nat}{q r0 r1 r2 r3:Nat}{T:TypeId}{fr:Nat×Nat}(hg:w.heap[h]? =some (.cells #[.int .i64 q,.int .i64 r0,.int .i64 r1,.int .i64 r2,.int .i64 r3] T fr)):∀(j:Nat)(v:Value),([.int .i64 r0,.int .i64 r1]:List Value)[j]? =some v→w.cell? ⟨h,1+j,none⟩=some v:=by
 intro j v hj
 match j,hj with
 |0,hj=>exact cell_in hg (by simpa using hj)
 |1,hj=>exact cell_in hg (by simpa using hj)
 |j+2,hj=>simp at hj
set_option maxRecDepth 100000 in
theorem rep_slices3(h:Nat):(∀W,(Instr.sliceAt 82 (.pointer (some ⟨h,1,none⟩)) (some (.int .i64 1)) none none).run Tryz.prog W=.ok (.slice (some ⟨h,2,none⟩) 3 3) W)∧(∀W,(Instr.sliceAt 82 (.pointer (some ⟨h,1,none⟩)) none (some (.int .i64 3)) none).run Tryz.prog W=.ok (.slice (some ⟨h,1,none⟩) 3 4) W):=by
 refine⟨fun _=>by kernel_rfl,fun _=>by kernel_rfl⟩
theorem rep_src3{w:World}{h:Nat}{q r0 r1 r2 r3:Nat}{T:TypeId}{fr:Nat×Nat}(hg:w.heap[h]? =some (.cells #[.int .i64 q,.int .i64 r0,.int .i64 r1,.int .i64 r2,.int .i64 r3] T fr)):∀(j:Nat)(v:Value),([.int .i64 r0,.int .i64 r1,.int .i64 r2]:List Value)[j]? =some v→w.cell? ⟨h,1+j,none⟩=some v:=by
 intro j v hj
 match j,hj with
 |0,hj=>exact cell_in hg (by simpa using hj)
 |1,hj=>exact cell_in hg (by simpa using hj)
 |2,hj=>exact cell_in hg (by simpa using hj)
 |j+3,hj=>simp at hj
set_option maxRecDepth 100000 in
theorem next_rep0(s:S)(hs:s.Ok)(y:Int)(l:Nat)(w:World)(hT:Tabs w)(hl:2≤l∧l≤273):
    Calls Tryz.prog 126 #[.agg s.cells,.agg #[.int .i64 3,.int .u8 y,.int .i64 l,.int .i64 0]] w fun e w'=>e=.returned (.tuple #[.agg (s.rep 0).cells,.int .i64 0])∧Fr (fun _=>False) w w':=by
  have HR:=fun W=>Hd (right_calls s hs W)
  have hn:=hs.num
  clear hs
  obtain⟨n,r0,r1,r2,r3⟩:=s
  simp only at hn
  unfold S.cells at*
  simp only[S.rep]
  try simp only[if_true,if_false,Nat.reduceEqDiff,one_ne_zero]
  obtain⟨hf0,hx0,hx1,hx2⟩:=box3 w #[.int .i64 n,.int .i64 r0,.int .i64 r1,.int .i64 r2,.int .i64 r3] #[.int .i64 3,.int .u8 y,.int .i64 l,.int .i64 0]
  have HX0:=Hd hx0
  have HX1:=Hd hx1
  have HX2:=Hd hx2
  have HF0:=Hd hf0
  have HT:=Hd hT
  clear hf0 hT hx0 hx1 hx2
  have HL:=Hd (decide_eq_true hl)
  clear hl
  go_enter Tryz.func126,Tryz.ntmps126
  go_wp2_with fail
  refine(HR _).out.mono ?_
  rintro e w1 ⟨rfl,hfr⟩
  have hf1:=HF0.out.trans hfr
  have hx0:=hfr.keep HX0.out (fun h=>h)
  have hx1:=hfr.keep HX1.out (fun h=>h)
  have hx2:=hfr.keep HX2.out (fun h=>h)
  have hT1:=HT.out.keep hf1
  have HF1:=Hd hf1
  obtain⟨s0,s1,s2,s3,s4,sf⟩:=cf5 hx0 rfl rfl rfl rfl rfl
  have y0:=cell_in (i:=0) hx1 rfl
  have y2:=cell_in (i:=2) hx1 rfl
  have y3:=cell_in (i:=3) hx1 rfl
  obtain⟨z0,z1,z2,z3,z4,zf⟩:=cf5 hx2 rfl rfl rfl rfl rfl
  have ht:=tab_at hT1.rep (n:=n) hn
  have hsz:=lt_of_block hx2
  have hh5:=HT.out.size
  clear HX0 HX1 HX2
  have HX0:=Hd hx0
  have HX1:=Hd hx1
  have HX2:=Hd hx2
  clear hfr hx0 hx1 hx2 hT1 hf1 HR HF0
  generalize hh:w.heap.size=b0 at*
  have HH:=Hd hh
  clear hh
  generalize hq:repL.getD n 0=q at*
  have HQ:=Hd hq
  clear hq
  go_wp2_with fail
  refine(len_calls l _).mono ?_
  rw[HL.out]
  rintro e w2 ⟨rfl,rfl⟩
  go_wp2_with fail
  have hc0:(w1.setCell ⟨b0,0,none⟩ (.int .i64 q)).drew.heap[b0]? =some (.cells #[.int .i64 q,.int .i64 r0,.int .i64 r1,.int .i64 r2,.int .i64 r3] 84 (0,0)):=set_in HX0.out 0 _
  have hc2:(w1.setCell ⟨b0,0,none⟩ (.int .i64 q)).drew.heap[b0+1+1]? =_:=set_out HX2.out (by omega) _
  have HC0:=Hd hc0
  have HC2:=Hd hc2
  have hd3:(w1.setCell ⟨b0,0,none⟩ (.int .i64 q)).drew.cell? ⟨b0+1,3,none⟩=some (.int .i64 0):=cell_in (set_out HX1.out (by omega) _) rfl
  clear hc0 hc2
  obtain⟨l1,l2⟩:=rep_slices0 b0
  go_region_law (refine step_copy_rep rfl _ _ rfl b0 0 [] #[.int .i64 q,.int .i64 r0,.int .i64 r1,.int .i64 r2,.int .i64 r3] 84 (by simp[Act.eval,Act.put]) (by simp[Act.eval,Act.put]) HC0.out rfl (by decide) (rep_src0 HC0.out) (by simp[Value.oneCell']) (by simp) ?_
                 intro w2 hx2 hfr2
                 try simp only[List.length_cons,List.length_nil,List.take,List.drop,List.append,List.cons_append,List.nil_append] at hx2
                 have hz:=hfr2.keep HC2.out (fun(e:_=_)=>by omega)
                 obtain⟨s0,s1,s2,s3,s4,sf⟩:=cf5 hx2 rfl rfl rfl rfl rfl
                 obtain⟨z0,z1,z2,z3,z4,zf⟩:=cf5 hz rfl rfl rfl rfl rfl
                 have HFR2:=Hd hfr2
                 clear hx2 hz hfr2)
  go_wp2_with fail
  refine bodyPost_ret (v:=.tuple #[.agg #[.int .i64 q,.int .i64 r0,.int .i64 r1,.int .i64 r2,.int .i64 r3],.int .i64 0]) (by simp[results,Tryz.results126,go_sem,z0,z1,z2,z3,z4]) rfl ?_
  have hh:=HH.out
  refine⟨by first|rw[HQ.out]|(rw[←HQ.out];simp),HF1.out.trans' (S:=fun _=>False) (T:=fun k=>b0≤k) ?_ (fun i hi hk=>by omega)⟩
  repeat refine Fr.setCell ?_ (.inl (by simp;try omega)) _
  exact((Fr.one w1 b0 0 (.int .i64 q)).drew.trans HFR2.out).mono (fun k _(h:k=b0)=>by omega)
set_option maxRecDepth 100000 in
theorem next_rep1(s:S)(hs:s.Ok)(y:Int)(l:Nat)(w:World)(hT:Tabs w)(hl:2≤l∧l≤273):
    Calls Tryz.prog 126 #[.agg s.cells,.agg #[.int .i64 3,.int .u8 y,.int .i64 l,.int .i64 1]] w fun e w'=>e=.returned (.tuple #[.agg (s.rep 1).cells,.int .i64 0])∧Fr (fun _=>False) w w':=by
  have HR:=fun W=>Hd (right_calls s hs W)
  have hn:=hs.num
  clear hs
  obtain⟨n,r0,r1,r2,r3⟩:=s
  simp only at hn
  unfold S.cells at*
  simp only[S.rep]
  try simp only[if_true,if_false,Nat.reduceEqDiff,one_ne_zero]
  obtain⟨hf0,hx0,hx1,hx2⟩:=box3 w #[.int .i64 n,.int .i64 r0,.int .i64 r1,.int .i64 r2,.int .i64 r3] #[.int .i64 3,.int .u8 y,.int .i64 l,.int .i64 1]
  have HX0:=Hd hx0
  have HX1:=Hd hx1
  have HX2:=Hd hx2
  have HF0:=Hd hf0
  have HT:=Hd hT
  clear hf0 hT hx0 hx1 hx2
  have HL:=Hd (decide_eq_true hl)
  clear hl
  go_enter Tryz.func126,Tryz.ntmps126
  go_wp2_with fail
  refine(HR _).out.mono ?_
  rintro e w1 ⟨rfl,hfr⟩
  have hf1:=HF0.out.trans hfr
  have hx0:=hfr.keep HX0.out (fun h=>h)
  have hx1:=hfr.keep HX1.out (fun h=>h)
  have hx2:=hfr.keep HX2.out (fun h=>h)
  have hT1:=HT.out.keep hf1
  have HF1:=Hd hf1
  obtain⟨s0,s1,s2,s3,s4,sf⟩:=cf5 hx0 rfl rfl rfl rfl rfl
  have y0:=cell_in (i:=0) hx1 rfl
  have y2:=cell_in (i:=2) hx1 rfl
  have y3:=cell_in (i:=3) hx1 rfl
  obtain⟨z0,z1,z2,z3,z4,zf⟩:=cf5 hx2 rfl rfl rfl rfl rfl
  have ht:=tab_at hT1.rep (n:=n) hn
  have hsz:=lt_of_block hx2
  have hh5:=HT.out.size
  clear HX0 HX1 HX2
  have HX0:=Hd hx0
  have HX1:=Hd hx1
  have HX2:=Hd hx2
  clear hfr hx0 hx1 hx2 hT1 hf1 HR HF0
  generalize hh:w.heap.size=b0 at*
  have HH:=Hd hh
  clear hh
  generalize hq:repL.getD n 0=q at*
  have HQ:=Hd hq
  clear hq
  go_wp2_with fail
  refine(len_calls l _).mono ?_
  rw[HL.out]
  rintro e w2 ⟨rfl,rfl⟩
  go_wp2_with fail
  have hc0:(w1.setCell ⟨b0,0,none⟩ (.int .i64 q)).drew.heap[b0]? =some (.cells #[.int .i64 q,.int .i64 r0,.int .i64 r1,.int .i64 r2,.int .i64 r3] 84 (0,0)):=set_in HX0.out 0 _
  have hc2:(w1.setCell ⟨b0,0,none⟩ (.int .i64 q)).drew.heap[b0+1+1]? =_:=set_out HX2.out (by omega) _
  have HC0:=Hd hc0
  have HC2:=Hd hc2
  have hd3:(w1.setCell ⟨b0,0,none⟩ (.int .i64 q)).drew.cell? ⟨b0+1,3,none⟩=some (.int .i64 1):=cell_in (set_out HX1.out (by omega) _) rfl
  clear hc0 hc2
  obtain⟨l1,l2⟩:=rep_slices1 b0
  go_region_law (refine step_copy_rep rfl _ _ rfl b0 1 [.int .i64 r0] #[.int .i64 q,.int .i64 r0,.int .i64 r1,.int .i64 r2,.int .i64 r3] 84 (by simp[Act.eval,Act.put]) (by simp[Act.eval,Act.put]) HC0.out rfl (by decide) (rep_src1 HC0.out) (by simp[Value.oneCell']) (by simp) ?_
                 intro w2 hx2 hfr2
                 try simp only[List.length_cons,List.length_nil,List.take,List.drop,List.append,List.cons_append,List.nil_append] at hx2
                 have hz:=hfr2.keep HC2.out (fun(e:_=_)=>by omega)
                 obtain⟨s0,s1,s2,s3,s4,sf⟩:=cf5 hx2 rfl rfl rfl rfl rfl
                 obtain⟨z0,z1,z2,z3,z4,zf⟩:=cf5 hz rfl rfl rfl rfl rfl
                 have HFR2:=Hd hfr2
                 clear hx2 hz hfr2)
  go_wp2_with fail
  refine bodyPost_ret (v:=.tuple #[.agg #[.int .i64 q,.int .i64 r1,.int .i64 r0,.int .i64 r2,.int .i64 r3],.int .i64 0]) (by simp[results,Tryz.results126,go_sem,z0,z1,z2,z3,z4]) rfl ?_
  have hh:=HH.out
  refine⟨by first|rw[HQ.out]|(rw[←HQ.out];simp),HF1.out.trans' (S:=fun _=>False) (T:=fun k=>b0≤k) ?_ (fun i hi hk=>by omega)⟩
  repeat refine Fr.setCell ?_ (.inl (by simp;try omega)) _
  exact((Fr.one w1 b0 0 (.int .i64 q)).drew.trans HFR2.out).mono (fun k _(h:k=b0)=>by omega)
set_option maxRecDepth 100000 in
theorem next_rep2(s:S)(hs:s.Ok)(y:Int)(l:Nat)(w:World)(hT:Tabs w)(hl:2≤l∧l≤273):
    Calls Tryz.prog 126 #[.agg s.cells,.agg #[.int .i64 3,.int .u8 y,.int .i64 l,.int .i64 2]] w fun e w'=>e=.returned (.tuple #[.agg (s.rep 2).cells,.int .i64 0])∧Fr (fun _=>False) w w':=by
  have HR:=fun W=>Hd (right_calls s hs W)
  have hn:=hs.num
  clear hs
  obtain⟨n,r0,r1,r2,r3⟩:=s
  simp only at hn
  unfold S.cells at*
  simp only[S.rep]
  try simp only[if_true,if_false,Nat.reduceEqDiff,one_ne_zero]
  obtain⟨hf0,hx0,hx1,hx2⟩:=box3 w #[.int .i64 n,.int .i64 r0,.int .i64 r1,.int .i64 r2,.int .i64 r3] #[.int .i64 3,.int .u8 y,.int .i64 l,.int .i64 2]
  have HX0:=Hd hx0
  have HX1:=Hd hx1
  have HX2:=Hd hx2
  have HF0:=Hd hf0
  have HT:=Hd hT
  clear hf0 hT hx0 hx1 hx2
  have HL:=Hd (decide_eq_true hl)
  clear hl
  go_enter Tryz.func126,Tryz.ntmps126
  go_wp2_with fail
  refine(HR _).out.mono ?_
  rintro e w1 ⟨rfl,hfr⟩
  have hf1:=HF0.out.trans hfr
  have hx0:=hfr.keep HX0.out (fun h=>h)
  have hx1:=hfr.keep HX1.out (fun h=>h)
  have hx2:=hfr.keep HX2.out (fun h=>h)
  have hT1:=HT.out.keep hf1
  have HF1:=Hd hf1
  obtain⟨s0,s1,s2,s3,s4,sf⟩:=cf5 hx0 rfl rfl rfl rfl rfl
  have y0:=cell_in (i:=0) hx1 rfl
  have y2:=cell_in (i:=2) hx1 rfl
  have y3:=cell_in (i:=3) hx1 rfl
  obtain⟨z0,z1,z2,z3,z4,zf⟩:=cf5 hx2 rfl rfl rfl rfl rfl
  have ht:=tab_at hT1.rep (n:=n) hn
  have hsz:=lt_of_block hx2
  have hh5:=HT.out.size
  clear HX0 HX1 HX2
  have HX0:=Hd hx0
  have HX1:=Hd hx1
  have HX2:=Hd hx2
  clear hfr hx0 hx1 hx2 hT1 hf1 HR HF0
  generalize hh:w.heap.size=b0 at*
  have HH:=Hd hh
  clear hh
  generalize hq:repL.getD n 0=q at*
  have HQ:=Hd hq
  clear hq
  go_wp2_with fail
  refine(len_calls l _).mono ?_
  rw[HL.out]
  rintro e w2 ⟨rfl,rfl⟩
  go_wp2_with fail
  have hc0:(w1.setCell ⟨b0,0,none⟩ (.int .i64 q)).drew.heap[b0]? =some (.cells #[.int .i64 q,.int .i64 r0,.int .i64 r1,.int .i64 r2,.int .i64 r3] 84 (0,0)):=set_in HX0.out 0 _
  have hc2:(w1.setCell ⟨b0,0,none⟩ (.int .i64 q)).drew.heap[b0+1+1]? =_:=set_out HX2.out (by omega) _
  have HC0:=Hd hc0
  have HC2:=Hd hc2
  have hd3:(w1.setCell ⟨b0,0,none⟩ (.int .i64 q)).drew.cell? ⟨b0+1,3,none⟩=some (.int .i64 2):=cell_in (set_out HX1.out (by omega) _) rfl
  clear hc0 hc2
  obtain⟨l1,l2⟩:=rep_slices2 b0
  go_region_law (refine step_copy_rep rfl _ _ rfl b0 2 [.int .i64 r0,.int .i64 r1] #[.int .i64 q,.int .i64 r0,.int .i64 r1,.int .i64 r2,.int .i64 r3] 84 (by simp[Act.eval,Act.put]) (by simp[Act.eval,Act.put]) HC0.out rfl (by decide) (rep_src2 HC0.out) (by simp[Value.oneCell']) (by simp) ?_
                 intro w2 hx2 hfr2
                 try simp only[List.length_cons,List.length_nil,List.take,List.drop,List.append,List.cons_append,List.nil_append] at hx2
                 have hz:=hfr2.keep HC2.out (fun(e:_=_)=>by omega)
                 obtain⟨s0,s1,s2,s3,s4,sf⟩:=cf5 hx2 rfl rfl rfl rfl rfl
                 obtain⟨z0,z1,z2,z3,z4,zf⟩:=cf5 hz rfl rfl rfl rfl rfl
                 have HFR2:=Hd hfr2
                 clear hx2 hz hfr2)
  go_wp2_with fail
  refine bodyPost_ret (v:=.tuple #[.agg #[.int .i64 q,.int .i64 r2,.int .i64 r0,.int .i64 r1,.int .i64 r3],.int .i64 0]) (by simp[results,Tryz.results126,go_sem,z0,z1,z2,z3,z4]) rfl ?_
  have hh:=HH.out
  refine⟨by first|rw[HQ.out]|(rw[←HQ.out];simp),HF1.out.trans' (S:=fun _=>False) (T:=fun k=>b0≤k) ?_ (fun i hi hk=>by omega)⟩
  repeat refine Fr.setCell ?_ (.inl (by simp;try omega)) _
  exact((Fr.one w1 b0 0 (.int .i64 q)).drew.trans HFR2.out).mono (fun k _(h:k=b0)=>by omega)
set_option maxRecDepth 100000 in
theorem next_rep3(s:S)(hs:s.Ok)(y:Int)(l:Nat)(w:World)(hT:Tabs w)(hl:2≤l∧l≤273):
    Calls Tryz.prog 126 #[.agg s.cells,.agg #[.int .i64 3,.int .u8 y,.int .i64 l,.int .i64 3]] w fun e w'=>e=.returned (.tuple #[.agg (s.rep 3).cells,.int .i64 0])∧Fr (fun _=>False) w w':=by
  have HR:=fun W=>Hd (right_calls s hs W)
  have hn:=hs.num
  clear hs
  obtain⟨n,r0,r1,r2,r3⟩:=s
  simp only at hn
  unfold S.cells at*
  simp only[S.rep]
  try simp only[if_true,if_false,Nat.reduceEqDiff,one_ne_zero]
  obtain⟨hf0,hx0,hx1,hx2⟩:=box3 w #[.int .i64 n,.int .i64 r0,.int .i64 r1,.int .i64 r2,.int .i64 r3] #[.int .i64 3,.int .u8 y,.int .i64 l,.int .i64 3]
  have HX0:=Hd hx0
  have HX1:=Hd hx1
  have HX2:=Hd hx2
  have HF0:=Hd hf0
  have HT:=Hd hT
  clear hf0 hT hx0 hx1 hx2
  have HL:=Hd (decide_eq_true hl)
  clear hl
  go_enter Tryz.func126,Tryz.ntmps126
  go_wp2_with fail
  refine(HR _).out.mono ?_
  rintro e w1 ⟨rfl,hfr⟩
  have hf1:=HF0.out.trans hfr
  have hx0:=hfr.keep HX0.out (fun h=>h)
  have hx1:=hfr.keep HX1.out (fun h=>h)
  have hx2:=hfr.keep HX2.out (fun h=>h)
  have hT1:=HT.out.keep hf1
  have HF1:=Hd hf1
  obtain⟨s0,s1,s2,s3,s4,sf⟩:=cf5 hx0 rfl rfl rfl rfl rfl
  have y0:=cell_in (i:=0) hx1 rfl
  have y2:=cell_in (i:=2) hx1 rfl
  have y3:=cell_in (i:=3) hx1 rfl
  obtain⟨z0,z1,z2,z3,z4,zf⟩:=cf5 hx2 rfl rfl rfl rfl rfl
  have ht:=tab_at hT1.rep (n:=n) hn
  have hsz:=lt_of_block hx2
  have hh5:=HT.out.size
  clear HX0 HX1 HX2
  have HX0:=Hd hx0
  have HX1:=Hd hx1
  have HX2:=Hd hx2
  clear hfr hx0 hx1 hx2 hT1 hf1 HR HF0
  generalize hh:w.heap.size=b0 at*
  have HH:=Hd hh
  clear hh
  generalize hq:repL.getD n 0=q at*
  have HQ:=Hd hq
  clear hq
  go_wp2_with fail
  refine(len_calls l _).mono ?_
  rw[HL.out]
  rintro e w2 ⟨rfl,rfl⟩
  go_wp2_with fail
  have hc0:(w1.setCell ⟨b0,0,none⟩ (.int .i64 q)).drew.heap[b0]? =some (.cells #[.int .i64 q,.int .i64 r0,.int .i64 r1,.int .i64 r2,.int .i64 r3] 84 (0,0)):=set_in HX0.out 0 _
  have hc2:(w1.setCell ⟨b0,0,none⟩ (.int .i64 q)).drew.heap[b0+1+1]? =_:=set_out HX2.out (by omega) _
  have HC0:=Hd hc0
  have HC2:=Hd hc2
  have hd3:(w1.setCell ⟨b0,0,none⟩ (.int .i64 q)).drew.cell? ⟨b0+1,3,none⟩=some (.int .i64 3):=cell_in (set_out HX1.out (by omega) _) rfl
  clear hc0 hc2
  obtain⟨l1,l2⟩:=rep_slices3 b0
  go_region_law (refine step_copy_rep rfl _ _ rfl b0 3 [.int .i64 r0,.int .i64 r1,.int .i64 r2] #[.int .i64 q,.int .i64 r0,.int .i64 r1,.int .i64 r2,.int .i64 r3] 84 (by simp[Act.eval,Act.put]) (by simp[Act.eval,Act.put]) HC0.out rfl (by decide) (rep_src3 HC0.out) (by simp[Value.oneCell']) (by simp) ?_
                 intro w2 hx2 hfr2
                 try simp only[List.length_cons,List.length_nil,List.take,List.drop,List.append,List.cons_append,List.nil_append] at hx2
                 have hz:=hfr2.keep HC2.out (fun(e:_=_)=>by omega)
                 obtain⟨s0,s1,s2,s3,s4,sf⟩:=cf5 hx2 rfl rfl rfl rfl rfl
                 obtain⟨z0,z1,z2,z3,z4,zf⟩:=cf5 hz rfl rfl rfl rfl rfl
                 have HFR2:=Hd hfr2
                 clear hx2 hz hfr2)
  go_wp2_with fail
  refine bodyPost_ret (v:=.tuple #[.agg #[.int .i64 q,.int .i64 r3,.int .i64 r0,.int .i64 r1,.int .i64 r2],.int .i64 0]) (by simp[results,Tryz.results126,go_sem,z0,z1,z2,z3,z4]) rfl ?_
  have hh:=HH.out
  refine⟨by first|rw[HQ.out]|(rw[←HQ.out];simp),HF1.out.trans' (S:=fun _=>False) (T:=fun k=>b0≤k) ?_ (fun i hi hk=>by omega)⟩
  repeat refine Fr.setCell ?_ (.inl (by simp;try omega)) _
  exact((Fr.one w1 b0 0 (.int .i64 q)).drew.trans HFR2.out).mono (fun k _(h:k=b0)=>by omega)
end St
end Go.Proofs.YtffoddpjfgjelaaGreatDoor
