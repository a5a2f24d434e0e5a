/- Part 42 of 54: lemmas of the last part, each under the conditions that it names. -/
import Derived.Test.YtlgccpjccopdmaaGreatDoorP03
import Derived.Test.YtlgccpjccopdmaaGreatDoorP27
import Derived.Test.YtlgccpjccopdmaaGreatDoorP41
set_option linter.unusedVariables false
set_option linter.unusedSimpArgs false
set_option maxRecDepth 1500
set_option maxHeartbeats 2000000
namespace Go.Proofs.YtlgccpjccopdmaaGreatDoor
open Go.RowKit
namespace Rf
open Mem Rc Prob St Lz Win
structure WAt(w:World)(V:Nat)(av:Value)(size:Nat)(all:List UInt8):Prop where
 v:w.heap[V]? =some (.cells #[.int .i64 size,av] 213 (0,0))
 own:w.ownsRow 0 5 1 av all.length (bvs all)
theorem WAt.step{S:Nat→Prop}{w w':World}{V size:Nat}{av:Value}{all:List UInt8}(h:WAt w V av size all)(hfr:Fr S w w')(hV:¬S V)(ha:∀k,av.ownBlock=some k→¬S k):WAt w' V av size all:=
 ⟨hfr.keep h.v hV,own_step h.own hfr ha⟩
theorem WAt.keep{w w':World}{V size:Nat}{av:Value}{all:List UInt8}(h:WAt w V av size all)(hfr:Fr (fun _=>False) w w'):WAt w' V av size all:=h.step hfr (fun h=>h) (fun _ _ h=>h)
theorem WAt.ne{w:World}{V size:Nat}{av:Value}{all:List UInt8}(h:WAt w V av size all):∀k,av.ownBlock=some k→k≠V:=by
 intro k hk
 obtain⟨cur,hc⟩:=own_block h.own hk
 exact blk_ne hc h.v (by decide)
theorem WAt.lt{w:World}{V size:Nat}{av:Value}{all:List UInt8}(h:WAt w V av size all):V<w.heap.size∧∀k,av.ownBlock=some k→k<w.heap.size:=⟨lt_of_block h.v,fun k hk=>(World.ownsRow.lt h.own k hk).2⟩
theorem any_mine{w:World}{v:Value}{xs:List UInt8}(h:w.ownsRow 0 5 1 v xs.length (bvs xs)):Mine {w with heap:=#[]} w v xs:=⟨h,fun _ _=>Nat.zero_le _⟩
def PutW(V size:Nat)(av:Value)(all xs:List UInt8)(w w':World):Prop:=
 ∃av',WAt w' V av' size (all++xs)∧Fr (fun k=>k=V∨av.ownBlock=some k) w w'∧∀k,av'.ownBlock=some k→av.ownBlock=some k∨w.heap.size≤k
theorem putW_end{V size:Nat}{av v2:Value}{all xs:List UInt8}{w w5:World}(h:WAt w V av size all)(hm:w5.ownsRow 0 5 1 v2 (all++xs).length (bvs (all++xs)))(hf:Fr (fun k=>av.ownBlock=some k) w w5)(hn:∀k,v2.ownBlock=some k→av.ownBlock=some k∨w.heap.size≤k):
 PutW V size av all xs w (w5.setCell ⟨V,1,none⟩ v2):=by
 have hV:=hf.keep h.v (fun e=>h.ne V e rfl)
 have f1:=Fr.one w5 V 1 v2
 refine⟨v2,⟨set_in hV 1 v2,own_step hm f1 (fun k hk e=> ?_)⟩,(hf.mono (T:=fun k=>k=V∨av.ownBlock=some k) (fun _ _ h=>.inr h)).trans (f1.mono (fun _ _ h=>.inl h)),hn⟩
 obtain⟨cur,hc⟩:=own_block hm hk
 exact blk_ne hc hV (by decide) e
theorem put_calls(V size:Nat)(av xv:Value)(all xs:List UInt8)(w:World)(h:WAt w V av size all)(hr:Rd w xv xs)(hb:all.length+xs.length≤70368744177664):
    Calls Tryz.prog 84 #[ptr V,xv] w fun e w'=>e=.returned (.tuple #[])∧PutW V size av all xs w w':=by
  obtain⟨p,cap,rfl⟩:=own_slice h.own
  obtain⟨xp,xc,rfl,hx1,hx2,hx3⟩:=hr
  have hr:Rd w (.slice xp xs.length xc) xs:=⟨xp,xc,rfl,hx1,hx2,hx3⟩
  clear hx1 hx2 hx3
  have c1:w.cell? ⟨V,1,none⟩=some (.slice p all.length cap):=cell_in h.v rfl
  have HM:=Hd (any_mine h.own)
  have H:=Hd h
  have HR:=Hd hr
  clear h hr
  go_enter Tryz.func84,Tryz.ntmps84
  go_wp2_with (at_builtin
               refine append_mine rfl _ _ rfl (w0:={w with heap:=#[]}) (.slice p all.length cap) (.slice xp xs.length xc) all xs rfl rfl HM.out (Nat.zero_le _) HR.out hb ?_
               intro p5 cap5 n5 w5 hn5 hM5 hfr5 hnew5
               have hE:=putW_end H.out hM5.own hfr5 hnew5
               have z1:w5.cell? ⟨V,1,none⟩=some (.slice p all.length cap):=cell_in (hfr5.keep H.out.v (fun e=>H.out.ne V e rfl)) rfl
               have z2:=frozen_in (hfr5.keep H.out.v (fun e=>H.out.ne V e rfl)) 1
               have HE:=Hd hE
               clear hE hn5 hM5 hfr5 hnew5)
  go_end0
  exact⟨rfl,HE.out⟩
def CopyR(V size d:Nat)(av:Value)(all:List UInt8)(w:World)(k:Nat)(s:Value)(wx:World):Prop:=
 ∃av2,WAt wx V av2 size (grown all d k)∧Fr (fun k=>k=V∨av.ownBlock=some k) w wx∧(∀k,av2.ownBlock=some k→av.ownBlock=some k∨w.heap.size≤k)∧Mine w wx s (copied all d k)∧(∀k,s.ownBlock=some k→av2.ownBlock≠some k)
theorem copy_bad(V size d n:Nat)(av:Value)(all:List UInt8)(w:World)(h:WAt w V av size all)(hbad:¬(1≤d∧d≤min size all.length)∨273<n):
 Calls Tryz.prog 139 #[ptr V,.int .i64 d,.int .i64 n] w fun e w'=>e=.returned (.tuple #[.slice none 0 0,.int .i64 7])∧Fr (fun _=>False) w w':=by
 obtain⟨p,cap,rfl⟩:=own_slice h.own
 have HH:=Hd (has_calls V size all.length cap d p w (cell_in h.v rfl) (cell_in h.v rfl))
 have n1:decide ((n:Int)<0)=false:=by simp
 clear h
 by_cases hin:1≤d∧d≤min size all.length
 ·have hn:273<n:=hbad.resolve_left (fun h=>h hin)
  rw[decide_eq_true hin] at HH
  have n2:decide ((n:Int)>273)=true:=by rw[decide_eq_true_eq];omega
  have n3:decide ((273:Int)<n)=true:=by rw[decide_eq_true_eq];omega
  clear hin hbad hn
  go_enter Tryz.func139,Tryz.ntmps139
  go_wp2_with fail
  refine HH.out.mono ?_
  rintro e w1 ⟨rfl,m,rfl⟩
  go_wp2_with fail
  go_ret2
  exact⟨rfl,(Fr.refl _ w).drewN m⟩
 ·rw[decide_eq_false hin] at HH
  clear hin hbad
  go_enter Tryz.func139,Tryz.ntmps139
  go_wp2_with fail
  refine HH.out.mono ?_
  rintro e w1 ⟨rfl,m,rfl⟩
  go_wp2_with fail
  go_ret2
  exact⟨rfl,(Fr.refl _ w).drewN m⟩
theorem copy_step{V size d k:Nat}{av av2 s2 v5 v7:Value}{all:List UInt8}{c:UInt8}{w wr w1 w5 w6 w7:World}(h:WAt wr V av2 size (grown all d k))(hF:Fr (fun k=>k=V∨av.ownBlock=some k) w wr)(hN:∀k,av2.ownBlock=some k→av.ownBlock=some k∨w.heap.size≤k)(hM:Mine w wr s2 (copied all d k))(hap:∀k,s2.ownBlock=some k→av2.ownBlock≠some k)
 (hg:grown all d (k+1)=grown all d k++[c])(hc:copied all d (k+1)=copied all d k++[c])(hVw:V<w.heap.size)
 (h1:Fr (fun _=>False) wr w1)(ho5:w5.ownsRow 0 5 1 v5 (grown all d k++[c]).length (bvs (grown all d k++[c])))(hf5:Fr (fun k=>av2.ownBlock=some k) w1 w5)(hn5:∀k,v5.ownBlock=some k→av2.ownBlock=some k∨w1.heap.size≤k)
 (h6:Fr (fun _=>False) (w5.setCell ⟨V,1,none⟩ v5) w6):Mine w w6 s2 (copied all d k)∧(Mine w w7 v7 (copied all d k++[c])→Fr (fun k=>s2.ownBlock=some k) w6 w7→(∀k,v7.ownBlock=some k→s2.ownBlock=some k∨w6.heap.size≤k)→CopyR V size d av all w (k+1) v7 w7):=by
 have hA1:=h.keep h1
 obtain⟨v2,hA5,hF5,hN5⟩:=putW_end (xs:=[c]) hA1 ho5 hf5 hn5
 have hv2:v2=v5:=by
  have e:=hA5.v
  have hV:=hf5.keep hA1.v (fun e=>hA1.ne V e rfl)
  rw[set_in hV 1 v5] at e
  simp at e
  exact e.symm
 subst hv2
 have hA6:=hA5.keep h6
 have hs1:=h1.size
 have hs6:=h6.size
 have hs5:=hF5.size
 have hsl:∀k,s2.ownBlock=some k→k<wr.heap.size:=fun k hk=>(World.ownsRow.lt hM.own k hk).2
 have hM6:Mine w w6 s2 (copied all d k):=by
  refine((hM.keep h1).step hF5 (fun k hk e=> ?_)).keep h6
  rcases e with e|e
  ·have:=hM.new k hk
   omega
  ·exact hap k hk e
 refine⟨hM6,fun hM7 hf7 hn7=>⟨v2,?_,?_,fun k hk=> ?_,by rw[hc];exact hM7,fun k hk e=> ?_⟩⟩
 ·rw[hg]
  refine hA6.step hf7 (fun e=> ?_) (fun k hk e=> ?_)
  ·have:=hM6.new V e
   omega
  ·rcases hN5 k hk with h2|h2
   ·exact hap k e h2
   ·have:=hsl k e
    omega
 ·refine((hF.trans' (T:=fun k=>k=V∨av2.ownBlock=some k) ((lift h1).trans (hF5.trans (lift h6))) (fun k hk e=> ?_)).trans' hf7 (fun k hk e=> ?_))
  ·rcases e with e|e
   ·exact .inl e
   ·rcases hN k e with h2|h2
    ·exact .inr h2
    ·omega
  ·have:=hM6.new k e
   omega
 ·have:=hF.size
  rcases hN5 k hk with h2|h2
  ·exact hN k h2
  ·exact .inr (by omega)
 ·have hlt6:=hA6.lt.2 k e
  rcases hn7 k hk with h2|h2
  ·rcases hN5 k e with h3|h3
   ·exact hap k h2 h3
   ·have:=hsl k h2
    omega
  ·omega
set_option maxRecDepth 100000 in
theorem copy_calls(V size d n:Nat)(av:Value)(all:List UInt8)(w:World)(h:WAt w V av size all)(hin:1≤d∧d≤min size all.length)(hn:n≤273)(hmuch:all.length+n≤70368744177664):
    Calls Tryz.prog 139 #[ptr V,.int .i64 d,.int .i64 n] w fun e w'=>∃v,e=.returned (.tuple #[v,.int .i64 0])∧CopyR V size d av all w n v w':=by
  obtain⟨p,cap,hav⟩:=own_slice h.own
  have HH:=Hd (has_calls V size all.length cap d p w (cell_in h.v rfl) (by rw[←hav];exact cell_in h.v rfl))
  rw[decide_eq_true hin] at HH
  have n1:decide ((n:Int)<0)=false:=by simp
  have n2:decide ((n:Int)>273)=false:=by rw[decide_eq_false_iff_not];omega
  have n3:decide ((273:Int)<n)=false:=by rw[decide_eq_false_iff_not];omega
  have hVw:=h.lt.1
  have H:=Hd h
  have hd1:1≤d:=hin.1
  have hd3:d≤all.length:=by omega
  clear h hin hav
  go_enter Tryz.func139,Tryz.ntmps139
  go_wp2_with fail
  refine HH.out.mono ?_
  rintro e w1 ⟨rfl,m,rfl⟩
  go_wp2_with fail
  go_loopw [8,9](fun s8 i wx=>∃k:Nat,k≤n∧i=.int .i64 (k:Int)∧CopyR V size d av all w k s8 wx) (fun _ i _=>(n-(intOf i).toNat))
  case atStart=>exact⟨0,by omega,rfl,av,H.out.keep ((Fr.refl _ w).drewN m),lift ((Fr.refl _ w).drewN m),fun k hk=>.inl hk,by rw[copied_zero];exact Mine.nil _ _,fun k hk=>by simp[Value.ownBlock] at hk⟩
  case round=>
    obtain⟨k,hk,rfl,av2,hA2,hF2,hN2,hM2,hap2⟩:=hrel
    obtain⟨p8,cap8,rfl⟩:=hM2.slice
    obtain⟨p2,cap2,rfl⟩:=own_slice hA2.own
    have HA2:=Hd hA2
    have HF2:=Hd hF2
    have HN2:=Hd hN2
    have HM2:=Hd hM2
    have HP2:=Hd hap2
    clear hF2 hN2 hM2 hap2
    by_cases hlt:k<n
    · have hgl:=grown_len all d k
      have hcl:=copied_len all d k
      have hc:(grown all d k)[all.length+k-d]? =some ((grown all d k).getD ((grown all d k).length-d) 0):=by
        rw[hgl,List.getD_eq_getElem?_getD,List.getElem?_eq_getElem (by omega)]
        rfl
      have HG1:=Hd (show grown all d (k+1)=grown all d k++[(grown all d k).getD ((grown all d k).length-d) 0] from rfl)
      have HS1:=Hd (copied_succ all d k)
      have hrd:Rd wr (.slice p2 (grown all d k).length cap2) (grown all d k):=Rd.of_own hA2.own
      obtain⟨b',o',hpb,hcc⟩:=Win.byte_at hrd hc
      subst hpb
      have v1:wr.cell? ⟨V,1,none⟩=some (.slice (some ⟨b',o',none⟩) (grown all d k).length cap2):=cell_in hA2.v rfl
      clear hA2 hrd hc
      rw[hgl] at v1
      have ei:((all.length+k:Nat):Int)-(d:Int)=((all.length+k-d:Nat):Int):=by omega
      have hi0:(0:Int)≤((all.length+k-d:Nat):Int):=by omega
      have hi1:((all.length+k-d:Nat):Int)<((all.length+k:Nat):Int):=by omega
      have hbd:all.length+k+1≤70368744177664:=by omega
      generalize(grown all d k).getD ((grown all d k).length-d) 0=c at*
      generalize all.length+k-d=ix at*
      generalize all.length+k=gn at*
      rw[hgl] at HA2 HN2 HP2
      rw[hcl] at HM2 HP2
      have HGL:=Hd hgl
      have HCL:=Hd hcl
      rw[hcl]
      clear hgl hcl
      go_wp2_with fail
      go_quiet (fail)
      have HW1:=Hd ((Fr.refl (fun _=>False) wr).drewN nq)
      clear v1 hcc
      generalize wr.drewN nq=w1 at*
      have hA1:=HA2.out.keep HW1.out
      have v1:w1.cell? ⟨V,1,none⟩=some (.slice (some ⟨b',o',none⟩) gn cap2):=cell_in hA1.v rfl
      have HAL:=Hd ((Fr.refl (fun _=>False) w1).alloc (.cells #[.int .u8 (c.toNat:Int)] 5))
      have HA1:=Hd (hA1.keep HAL.out)
      have HONE:=Hd (rd_one w1 _ rfl c _ rfl)
      clear hA1
      go_wp2_with (at_builtin
                   first
                   | (refine append_mine rfl _ _ rfl (w0:={ (w1.alloc (.cells #[.int .u8 (c.toNat : Int)] 5)) with heap:=#[] }) (.slice (some ⟨b',o',none⟩) gn cap2) (.slice (some ⟨w1.heap.size,0,none⟩) 1 1) (grown all d k) [c] rfl rfl (any_mine HA1.out.own) (Nat.zero_le _) HONE.out (by rw [HGL.out]; exact hbd) ?_
                      intro p5 cap5 n5 w5 hn5 hM5 hfr5 hnew5
                      have hV5:=hfr5.keep HA1.out.v (fun e=>HA1.out.ne V e rfl)
                      have z1:w5.cell? ⟨V,1,none⟩=some (.slice (some ⟨b',o',none⟩) gn cap2):=cell_in hV5 rfl
                      have z2:=frozen_in hV5 1
                      have HST:=Hd (fun v7 w7=>copy_step (v7:=v7) (w7:=w7) HA2.out HF2.out HN2.out HM2.out HP2.out HG1.out HS1.out hVw (HW1.out.trans HAL.out) hM5.own hfr5 hnew5 ((Fr.refl (fun _=>False) (w5.setCell ⟨V,1,none⟩ (.slice p5 n5 cap5))).alloc (.cells #[.int .u8 (c.toNat:Int)] 5)))
                      have HM6:=Hd (HST.out (.slice none 0 0) w5).1
                      have HSZ6:Hid (w.heap.size≤((w5.setCell ⟨V,1,none⟩ (.slice p5 n5 cap5)).alloc (.cells #[.int .u8 (c.toNat:Int)] 5)).heap.size):=Hd (by have:=HF2.out.size;have:=HW1.out.size;have:=HAL.out.size;have:=hfr5.size;simp;omega)
                      have HONE2:=Hd (rd_one (w5.setCell ⟨V,1,none⟩ (.slice p5 n5 cap5)) w5.heap.size (by simp) c _ rfl)
                      clear hn5 hM5 hfr5 hnew5 hV5)
                   | (refine append_mine rfl _ _ rfl (w0:=w) (.slice p8 k cap8) (.slice (some ⟨w5.heap.size,0,none⟩) 1 1) (copied all d k) [c] rfl rfl HM6.out HSZ6.out HONE2.out (by rw [HCL.out]; simp only [List.length_singleton]; omega) ?_
                      intro p7 cap7 n7 w7 hn7 hM7 hfr7 hnew7
                      have HC:=Hd ((HST.out _ _).2 hM7 hfr7 hnew7)
                      clear hn7 hM7 hfr7 hnew7))
      go_roundw
      case rel=>exact⟨k+1,by omega,by go_num,HC.out⟩
      case measure=>simp[intOf];omega
    · obtain rfl:k=n:=by omega
      go_wp2_with fail
      go_ret2
      exact⟨_,rfl,_,HA2.out,HF2.out,HN2.out,HM2.out,HP2.out⟩
end Rf
namespace Rf
open Mem Rc Prob St Lz Win
theorem rsize_eq(y:Sy)(hy:y.Ok):St.size y=if fe y=0 then(if y.kind=2∨y.kind=3 then y.len else 1) else 0:=by
 unfold St.size
 rw[fe_next _ _ hy]
theorem rsize_calls(y:Sy)(hy:y.Ok)(w:World):Calls Tryz.prog 96 #[.agg y.cells] w fun e w'=>e=.returned (.int .i64 (St.size y))∧Fr (fun _=>False) w w':=by
 have hsz:=rsize_eq y hy
 have HFM:=fun W=>Hd (rformed_calls y hy W)
 obtain⟨kind,byte,len,dist⟩:=y
 have hk:=hy.kind
 simp only at hk hsz
 generalize St.size ⟨kind,byte,len,dist⟩=sz at*
 generalize fe ⟨kind,byte,len,dist⟩=er at*
 unfold Sy.cells at*
 simp only at HFM ⊢
 have hx:=heap_alloc_new w (.cells #[.int .i64 kind,.int .u8 byte,.int .i64 len,.int .i64 dist] 96)
 have HF:=Hd ((Fr.refl (fun _=>False) w).alloc (.cells #[.int .i64 kind,.int .u8 byte,.int .i64 len,.int .i64 dist] 96))
 obtain⟨c0,c1,c2,c3⟩:=cs4 hx rfl rfl rfl rfl
 have HX:=Hd hx
 have HSZ:=Hd hsz
 clear hx hsz hy
 by_cases he:er=0
 ·have t0:((er:Int) !=0)=false:=by simp[he]
  rcases hk with rfl|rfl|rfl|rfl
  all_goals
   go_enter Tryz.func96,Tryz.ntmps96
   go_wp2_with fail
   refine(HFM _).out.mono ?_
   rintro e w2 ⟨rfl,hf2⟩
   have hx2:=hf2.keep HX.out (fun h=>h)
   clear c0 c1 c2 c3
   have c0:=cell_in (i:=0) hx2 rfl
   have c2:=cell_in (i:=2) hx2 rfl
   have HF2:=Hd (HF.out.trans hf2)
   clear hf2 hx2
   go_wp2_with fail
   go_ret
   refine⟨?_,HF2.out⟩
   rw[HSZ.out,if_pos he]
   rfl
 ·have t0:((er:Int) !=0)=true:=by simp[he]
  go_enter Tryz.func96,Tryz.ntmps96
  go_wp2_with fail
  refine(HFM _).out.mono ?_
  rintro e w2 ⟨rfl,hf2⟩
  have HF2:=Hd (HF.out.trans hf2)
  clear hf2
  go_wp2_with fail
  go_ret
  exact⟨by rw[HSZ.out,if_neg he];rfl,HF2.out⟩
theorem rdist_calls(s:S)(y:Sy)(hy:y.Ok)(w:World):Calls Tryz.prog 140 #[.agg s.cells,.agg y.cells] w fun e w'=>e=.returned (.int .i64 (distOf s y))∧Fr (fun _=>False) w w':=by
 obtain⟨n,a,b,c,d⟩:=s
 obtain⟨kind,byte,len,dist⟩:=y
 have hk:=hy.kind
 have hd:=hy.dist
 simp only at hk hd
 unfold S.cells Sy.cells distOf repAt
 simp only
 obtain⟨hf,_,hx0,hx1,_⟩:=Rc.three w (.cells #[.int .i64 n,.int .i64 a,.int .i64 b,.int .i64 c,.int .i64 d] 89) (.cells #[.int .i64 kind,.int .u8 byte,.int .i64 len,.int .i64 dist] 96) (.cells #[] 96)
 clear hf hx0 hx1
 have f1:=(Fr.refl (fun _=>False) w).alloc (.cells #[.int .i64 n,.int .i64 a,.int .i64 b,.int .i64 c,.int .i64 d] 89)
 have f2:=(Fr.refl (fun _=>False) (w.alloc (.cells #[.int .i64 n,.int .i64 a,.int .i64 b,.int .i64 c,.int .i64 d] 89))).alloc (.cells #[.int .i64 kind,.int .u8 byte,.int .i64 len,.int .i64 dist] 96)
 have hx0:=f2.keep (heap_alloc_new w (.cells #[.int .i64 n,.int .i64 a,.int .i64 b,.int .i64 c,.int .i64 d] 89)) (fun h=>h)
 have hx1:=heap_alloc_new (w.alloc (.cells #[.int .i64 n,.int .i64 a,.int .i64 b,.int .i64 c,.int .i64 d] 89)) (.cells #[.int .i64 kind,.int .u8 byte,.int .i64 len,.int .i64 dist] 96)
 simp only[World.size_alloc] at hx1
 have HF:=Hd (f1.trans f2)
 obtain⟨q0,q1,q2,q3,q4⟩:=cs5 hx0 rfl rfl rfl rfl rfl
 have y0:=cell_in (i:=0) hx1 rfl
 have y3:=cell_in (i:=3) hx1 rfl
 clear hx0 hx1 f1 f2 hy
 rcases hk with rfl|rfl|rfl|rfl
 ·clear hd
  go_enter Tryz.func140,Tryz.ntmps140
  go_wp2_with fail
  go_ret
  exact⟨rfl,HF.out⟩
 ·clear hd
  go_enter Tryz.func140,Tryz.ntmps140
  go_wp2_with fail
  go_ret
  exact⟨rfl,HF.out⟩
 ·have hd3:=hd rfl
  clear hd
  obtain rfl|rfl|rfl|rfl:dist=0∨dist=1∨dist=2∨dist=3:=by omega
  all_goals
   go_enter Tryz.func140,Tryz.ntmps140
   go_wp2_with fail
   go_ret
   exact⟨rfl,HF.out⟩
 ·clear hd
  go_enter Tryz.func140,Tryz.ntmps140
  go_wp2_with fail
  go_ret
  exact⟨rfl,HF.out⟩
end Rf
end Go.Proofs.YtlgccpjccopdmaaGreatDoor
