/- Part 39 of 53: lemmas of the last part, each under the conditions that it names. -/
import Derived.Deep.RegionHeld3
import Derived.Carry
import Derived.Deep.CutBlock
import Derived.Deep.DeepCutAuto
import Derived.Test.YtilegoadokmcdaaGreatDoorP03
import Derived.Test.YtilegoadokmcdaaGreatDoorP16
import Derived.Test.YtilegoadokmcdaaGreatDoorP17
import Derived.Test.YtilegoadokmcdaaGreatDoorP38
set_option linter.unusedVariables false
set_option linter.unusedSimpArgs false
set_option maxRecDepth 1500
set_option maxHeartbeats 2000000
namespace Go.Proofs.YtilegoadokmcdaaGreatDoor
open Go.RowKit
namespace Rf
open Mem Rc Prob St Lz Win
theorem full_calls(V size n cap:Nat)(p:Option Addr)(w:World)(h0:w.cell? ⟨V,0,none⟩=some (.int .i64 size))(h1:w.cell? ⟨V,1,none⟩=some (.slice p n cap)):
 Calls Tryz.prog 212 #[ptr V] w fun e w'=>e=.returned (.int .i64 (min size n:Nat))∧∃m,w'=w.drewN m:=by
 by_cases hlt:n<size
 ·have t1:decide ((n:Int)<(size:Int))=true:=by rw[decide_eq_true_eq];omega
  have e:min size n=n:=by omega
  rw[e]
  go_enter Tryz.func212,Tryz.ntmps212
  go_wp2_with fail
  go_quiet (fail)
  go_wp2_with fail
  go_ret
  exact⟨rfl,_,rfl⟩
 ·have t1:decide ((n:Int)<(size:Int))=false:=by rw[decide_eq_false_iff_not];omega
  have e:min size n=size:=by omega
  rw[e]
  go_enter Tryz.func212,Tryz.ntmps212
  go_wp2_with fail
  go_quiet (fail)
  go_wp2_with fail
  go_ret
  exact⟨rfl,_,rfl⟩
theorem has_calls(V size n cap d:Nat)(p:Option Addr)(w:World)(h0:w.cell? ⟨V,0,none⟩=some (.int .i64 size))(h1:w.cell? ⟨V,1,none⟩=some (.slice p n cap)):
 Calls Tryz.prog 187 #[ptr V,.int .i64 d] w fun e w'=>e=.returned (.bool (decide (1≤d∧d≤min size n)))∧∃m,w'=w.drewN m:=by
 have HF:=Hd (full_calls V size n cap p w h0 h1)
 generalize hq:decide (1≤d∧d≤min size n)=q
 have HQ:=Hd hq
 clear hq h0 h1
 by_cases hd:1≤d
 ·have t1:decide ((d:Int)>0)=true:=by rw[decide_eq_true_eq];omega
  have t2:decide ((0:Int)<(d:Int))=true:=by rw[decide_eq_true_eq];omega
  generalize min size n=m at*
  go_enter Tryz.func187,Tryz.ntmps187
  go_wp2_with fail
  refine HF.out.mono ?_
  rintro e w' ⟨rfl,k,rfl⟩
  go_wp2_with fail
  go_ret
  exact⟨Mem.ret_bool (by rw[←HQ.out,Bool.eq_iff_iff];simp;omega),k,rfl⟩
 ·have t1:decide ((d:Int)>0)=false:=by rw[decide_eq_false_iff_not];omega
  have t2:decide ((0:Int)<(d:Int))=false:=by rw[decide_eq_false_iff_not];omega
  go_enter Tryz.func187,Tryz.ntmps187
  go_wp2_with fail
  go_ret
  exact⟨Mem.ret_bool (by rw[←HQ.out];simp;omega),0,rfl⟩
theorem rlast_calls{l:RL}{c:C}{ps:Nat→List Nat}{w:World}(h:Cod w l c ps)(d:Nat):
 Calls Tryz.prog 180 #[ptr l.V,.int .i64 d] w fun e w'=>e=.returned (.tuple #[.int .u8 (Win.last c.size c.all d).1,.int .i64 (Win.last c.size c.all d).2])∧∃m,w'=w.drewN m:=by
 obtain⟨p,cap,hav⟩:=h.slice
 have hrd:=h.rd
 rw[hav] at hrd
 have v0:=h.cells.v0
 have v1:=h.cells.v1
 rw[hav] at v1
 have hmuch:=h.much
 have HHas:=Hd (has_calls l.V c.size c.all.length cap d p w v0 v1)
 have H:=Hd h
 clear h v0 v1
 by_cases hin:1≤d∧d≤min c.size c.all.length
 ·rw[decide_eq_true hin] at HHas
  obtain⟨x,hx⟩:∃x,c.all[c.all.length-d]? =some x:=⟨c.all[c.all.length-d]'(by omega),by simp⟩
  have hl:Win.last c.size c.all d=(x.toNat,0):=by
   unfold Win.last
   rw[if_pos hin,List.getD_eq_getElem?_getD,hx]
   rfl
  rw[hl]
  obtain⟨b',o',hpb,hc⟩:=Win.byte_at hrd hx
  subst hpb
  generalize x.toNat=xv at*
  obtain⟨i,hi⟩:∃i,i=c.all.length-d:=⟨_,rfl⟩
  rw[←hi] at hc
  have ei:(c.all.length:Int)-(d:Int)=(i:Int):=by omega
  have hi0:(0:Int)≤(i:Int):=by omega
  have hi1:(i:Int)<(c.all.length:Int):=by omega
  go_enter Tryz.func180,Tryz.ntmps180
  go_wp2_with fail
  refine HHas.out.mono ?_
  rintro e w2 ⟨rfl,k,rfl⟩
  have HK:=Hd ((Fr.refl (fun _=>False) w).drewN k)
  have H2:=Hd (H.out.keep HK.out)
  have v0:=H2.out.cells.v0
  have v1:=H2.out.cells.v1
  rw[hav] at v1
  have hc2:(w.drewN k).cell? ⟨b',o'+i,none⟩=some (.int .u8 xv):=hc
  have HW:=Hd (fun n=>show(w.drewN k).drewN n=w.drewN (k+n) from World.drewN_drewN w k n)
  clear hc HHas
  generalize hw3:w.drewN k=w3 at*
  have HW3:=Hd hw3
  clear hw3
  clear hrd hin hl hav hi
  generalize c.all.length=nn at*
  go_wp2_with fail
  go_quiet (fail)
  go_wp2_with fail
  go_ret2
  exact⟨rfl,_,HW.out _⟩
 ·rw[decide_eq_false hin] at HHas
  have hl:Win.last c.size c.all d=(0,7):=if_neg hin
  rw[hl]
  go_enter Tryz.func180,Tryz.ntmps180
  go_wp2_with fail
  refine HHas.out.mono ?_
  rintro e w2 ⟨rfl,k,rfl⟩
  go_wp2_with fail
  go_ret2
  exact⟨rfl,k,rfl⟩
theorem rbits_calls(s:Nat)(hs:s<64)(w:World):Calls Tryz.prog 211 #[.int .i64 s] w fun e w'=>e=.returned (.int .i64 (range s).2)∧w=w':=by
 by_cases h4:s<4
 ·have t1:decide ((s:Int)<4)=true:=by rw[decide_eq_true_eq];omega
  have e:(range s).2=0:=by unfold range;rw[if_pos h4]
  rw[e]
  go_enter Tryz.func211,Tryz.ntmps211
  go_wp2_with fail
  go_ret
  exact⟨rfl,rfl⟩
 ·have t1:decide ((s:Int)<4)=false:=by rw[decide_eq_false_iff_not];omega
  have e:(range s).2=s/2-1:=by unfold range;rw[if_neg h4]
  rw[e]
  go_enter Tryz.func211,Tryz.ntmps211
  go_wp2_with fail
  go_ret
  exact⟨Mem.ret_int (by omega),rfl⟩
theorem range_next:∀s:Fin 63,(range (s.val+1)).1=(range s.val).1+2^(range s.val).2:=by decide+kernel
theorem rrange_calls(s:Nat)(hs:s<64)(w:World):Calls Tryz.prog 182 #[.int .i64 s] w fun e w'=>e=.returned (.tuple #[.int .i64 (range s).1,.int .i64 (range s).2,.int .i64 0])∧w=w':=by
 have g1:decide ((s:Int)<0)=false:=by simp
 have g2:decide ((s:Int)>63)=false:=by rw[decide_eq_false_iff_not];omega
 have g3:decide ((63:Int)<(s:Int))=false:=by rw[decide_eq_false_iff_not];omega
 go_enter Tryz.func182,Tryz.ntmps182
 go_wp2_with fail
 go_loopw [5,6](fun v i wr=>∃k:Nat,k≤s∧i=.int .i64 k∧v=.int .i64 (range k).1∧wr=w) (fun _ i _=>s-(intOf i).toNat)
 case atStart=>exact⟨0,by omega,rfl,rfl,rfl⟩
 case round=>
  obtain⟨k,hk,rfl,rfl,rfl⟩:=hrel
  by_cases hlt:k<s
  ·have hr:=range_le ⟨k,by omega⟩
   have hn:=range_next ⟨k,by omega⟩
   simp only at hr hn
   have HB:=Hd (rbits_calls k (by omega) wr)
   have hr2:(range k).1+2^(range k).2≤4294967297:=hr.1
   obtain⟨pw,hpw⟩:∃pw,pw=2^(range k).2:=⟨_,rfl⟩
   have hcp:(2:Int)^(range k).2=(pw:Int):=by rw[hpw];norm_cast
   rw[←hpw] at hn hr2
   have hsum:((range (k+1)).1:Int)=((range k).1:Int)+(2:Int)^(range k).2:=by rw[hcp];omega
   have hw1:IntKind.i64.wrap ((2:Int)^(range k).2)=(2:Int)^(range k).2:=by rw[hcp];exact IntWalk.i64_in _ (by omega)
   have hw2:IntKind.i64.wrap (((range k).1:Int)+(2:Int)^(range k).2)=((range k).1:Int)+(2:Int)^(range k).2:=by rw[hcp];exact IntWalk.i64_in _ (by omega)
   have hb30:(range k).2≤30:=hr.2.1
   clear hr hn hr2 hcp hpw
   generalize(range k).2=bts at*
   go_wp2_with fail
   refine HB.out.mono ?_
   rintro e w2 ⟨rfl,rfl⟩
   go_wp2_with fail
   go_roundw
   case rel=>exact⟨k+1,by omega,by go_num,by rw[hsum],by first|rfl|trivial⟩
   case measure=>simp[intOf];omega
  ·obtain rfl:k=s:=by omega
   have HB:=Hd (rbits_calls k (by omega) wr)
   go_wp2_with fail
   refine HB.out.mono ?_
   rintro e w2 ⟨rfl,rfl⟩
   go_wp2_with fail
   go_ret3
   exact⟨rfl,rfl⟩
end Rf
namespace Rf
open Mem Rc Prob St Lz Win
structure WAt(w:World)(V:Nat)(av:Value)(size:Nat)(all:List UInt8):Prop where
 v:w.heap[V]? =some (.cells #[.int .i64 size,av] 182 (0,0))
 own:w.ownsRow 0 5 1 av all.length (bvs all)
theorem WAt.step{S:Nat→Prop}{w w':World}{V size:Nat}{av:Value}{all:List UInt8}(h:WAt w V av size all)(hfr:Fr S w w')(hV:¬S V)(ha:∀k,av.ownBlock=some k→¬S k):WAt w' V av size all:=
 ⟨hfr.keep h.v hV,own_step h.own hfr ha⟩
theorem WAt.keep{w w':World}{V size:Nat}{av:Value}{all:List UInt8}(h:WAt w V av size all)(hfr:Fr (fun _=>False) w w'):WAt w' V av size all:=h.step hfr (fun h=>h) (fun _ _ h=>h)
theorem WAt.ne{w:World}{V size:Nat}{av:Value}{all:List UInt8}(h:WAt w V av size all):∀k,av.ownBlock=some k→k≠V:=by
 intro k hk
 obtain⟨cur,hc⟩:=own_block h.own hk
 exact blk_ne hc h.v (by decide)
theorem WAt.lt{w:World}{V size:Nat}{av:Value}{all:List UInt8}(h:WAt w V av size all):V<w.heap.size∧∀k,av.ownBlock=some k→k<w.heap.size:=⟨lt_of_block h.v,fun k hk=>(World.ownsRow.lt h.own k hk).2⟩
theorem any_mine{w:World}{v:Value}{xs:List UInt8}(h:w.ownsRow 0 5 1 v xs.length (bvs xs)):Mine {w with heap:=#[]} w v xs:=⟨h,fun _ _=>Nat.zero_le _⟩
def PutW(V size:Nat)(av:Value)(all xs:List UInt8)(w w':World):Prop:=
 ∃av',WAt w' V av' size (all++xs)∧Fr (fun k=>k=V∨av.ownBlock=some k) w w'∧∀k,av'.ownBlock=some k→av.ownBlock=some k∨w.heap.size≤k
theorem putW_end{V size:Nat}{av v2:Value}{all xs:List UInt8}{w w5:World}(h:WAt w V av size all)(hm:w5.ownsRow 0 5 1 v2 (all++xs).length (bvs (all++xs)))(hf:Fr (fun k=>av.ownBlock=some k) w w5)(hn:∀k,v2.ownBlock=some k→av.ownBlock=some k∨w.heap.size≤k):
 PutW V size av all xs w (w5.setCell ⟨V,1,none⟩ v2):=by
 have hV:=hf.keep h.v (fun e=>h.ne V e rfl)
 have f1:=Fr.one w5 V 1 v2
 refine⟨v2,⟨set_in hV 1 v2,own_step hm f1 (fun k hk e=> ?_)⟩,(hf.mono (T:=fun k=>k=V∨av.ownBlock=some k) (fun _ _ h=>.inr h)).trans (f1.mono (fun _ _ h=>.inl h)),hn⟩
 obtain⟨cur,hc⟩:=own_block hm hk
 exact blk_ne hc hV (by decide) e
theorem put_calls(V size:Nat)(av xv:Value)(all xs:List UInt8)(w:World)(h:WAt w V av size all)(hr:Rd w xv xs)(hb:all.length+xs.length≤70368744177664):
    Calls Tryz.prog 56 #[ptr V,xv] w fun e w'=>e=.returned (.tuple #[])∧PutW V size av all xs w w':=by
  obtain⟨p,cap,rfl⟩:=own_slice h.own
  obtain⟨xp,xc,rfl,hx1,hx2,hx3⟩:=hr
  have hr:Rd w (.slice xp xs.length xc) xs:=⟨xp,xc,rfl,hx1,hx2,hx3⟩
  clear hx1 hx2 hx3
  have c1:w.cell? ⟨V,1,none⟩=some (.slice p all.length cap):=cell_in h.v rfl
  have HM:=Hd (any_mine h.own)
  have H:=Hd h
  have HR:=Hd hr
  clear h hr
  go_enter Tryz.func56,Tryz.ntmps56
  go_wp2_with (at_builtin
               refine append_mine rfl _ _ rfl (w0:={w with heap:=#[]}) (.slice p all.length cap) (.slice xp xs.length xc) all xs rfl rfl HM.out (Nat.zero_le _) HR.out hb ?_
               intro p5 cap5 n5 w5 hn5 hM5 hfr5 hnew5
               have hE:=putW_end H.out hM5.own hfr5 hnew5
               have z1:w5.cell? ⟨V,1,none⟩=some (.slice p all.length cap):=cell_in (hfr5.keep H.out.v (fun e=>H.out.ne V e rfl)) rfl
               have z2:=frozen_in (hfr5.keep H.out.v (fun e=>H.out.ne V e rfl)) 1
               have HE:=Hd hE
               clear hE hn5 hM5 hfr5 hnew5)
  go_end0
  exact⟨rfl,HE.out⟩
def CopyR(V size d:Nat)(av:Value)(all:List UInt8)(w:World)(k:Nat)(s:Value)(wx:World):Prop:=
 ∃av2,WAt wx V av2 size (grown all d k)∧Fr (fun k=>k=V∨av.ownBlock=some k) w wx∧(∀k,av2.ownBlock=some k→av.ownBlock=some k∨w.heap.size≤k)∧Mine w wx s (copied all d k)∧(∀k,s.ownBlock=some k→av2.ownBlock≠some k)
theorem copy_bad(V size d n:Nat)(av:Value)(all:List UInt8)(w:World)(h:WAt w V av size all)(hbad:¬(1≤d∧d≤min size all.length)∨273<n):
 Calls Tryz.prog 135 #[ptr V,.int .i64 d,.int .i64 n] w fun e w'=>e=.returned (.tuple #[.slice none 0 0,.int .i64 7])∧Fr (fun _=>False) w w':=by
 obtain⟨p,cap,rfl⟩:=own_slice h.own
 have HH:=Hd (has_calls V size all.length cap d p w (cell_in h.v rfl) (cell_in h.v rfl))
 have n1:decide ((n:Int)<0)=false:=by simp
 clear h
 by_cases hin:1≤d∧d≤min size all.length
 ·have hn:273<n:=hbad.resolve_left (fun h=>h hin)
  rw[decide_eq_true hin] at HH
  have n2:decide ((n:Int)>273)=true:=by rw[decide_eq_true_eq];omega
  have n3:decide ((273:Int)<n)=true:=by rw[decide_eq_true_eq];omega
  clear hin hbad hn
  go_enter Tryz.func135,Tryz.ntmps135
  go_wp2_with fail
  refine HH.out.mono ?_
  rintro e w1 ⟨rfl,m,rfl⟩
  go_wp2_with fail
  go_ret2
  exact⟨rfl,(Fr.refl _ w).drewN m⟩
 ·rw[decide_eq_false hin] at HH
  clear hin hbad
  go_enter Tryz.func135,Tryz.ntmps135
  go_wp2_with fail
  refine HH.out.mono ?_
  rintro e w1 ⟨rfl,m,rfl⟩
  go_wp2_with fail
  go_ret2
  exact⟨rfl,(Fr.refl _ w).drewN m⟩
theorem copy_step{V size d k:Nat}{av av2 s2 v5 v7:Value}{all:List UInt8}{c:UInt8}{w wr w1 w5 w6 w7:World}(h:WAt wr V av2 size (grown all d k))(hF:Fr (fun k=>k=V∨av.ownBlock=some k) w wr)(hN:∀k,av2.ownBlock=some k→av.ownBlock=some k∨w.heap.size≤k)(hM:Mine w wr s2 (copied all d k))(hap:∀k,s2.ownBlock=some k→av2.ownBlock≠some k)
 (hg:grown all d (k+1)=grown all d k++[c])(hc:copied all d (k+1)=copied all d k++[c])(hVw:V<w.heap.size)
 (h1:Fr (fun _=>False) wr w1)(ho5:w5.ownsRow 0 5 1 v5 (grown all d k++[c]).length (bvs (grown all d k++[c])))(hf5:Fr (fun k=>av2.ownBlock=some k) w1 w5)(hn5:∀k,v5.ownBlock=some k→av2.ownBlock=some k∨w1.heap.size≤k)
 (h6:Fr (fun _=>False) (w5.setCell ⟨V,1,none⟩ v5) w6):Mine w w6 s2 (copied all d k)∧(Mine w w7 v7 (copied all d k++[c])→Fr (fun k=>s2.ownBlock=some k) w6 w7→(∀k,v7.ownBlock=some k→s2.ownBlock=some k∨w6.heap.size≤k)→CopyR V size d av all w (k+1) v7 w7):=by
 have hA1:=h.keep h1
 obtain⟨v2,hA5,hF5,hN5⟩:=putW_end (xs:=[c]) hA1 ho5 hf5 hn5
 have hv2:v2=v5:=by
  have e:=hA5.v
  have hV:=hf5.keep hA1.v (fun e=>hA1.ne V e rfl)
  rw[set_in hV 1 v5] at e
  simp at e
  exact e.symm
 subst hv2
 have hA6:=hA5.keep h6
 have hs1:=h1.size
 have hs6:=h6.size
 have hs5:=hF5.size
 have hsl:∀k,s2.ownBlock=some k→k<wr.heap.size:=fun k hk=>(World.ownsRow.lt hM.own k hk).2
 have hM6:Mine w w6 s2 (copied all d k):=by
  refine((hM.keep h1).step hF5 (fun k hk e=> ?_)).keep h6
  rcases e with e|e
  ·have:=hM.new k hk
   omega
  ·exact hap k hk e
 refine⟨hM6,fun hM7 hf7 hn7=>⟨v2,?_,?_,fun k hk=> ?_,by rw[hc];exact hM7,fun k hk e=> ?_⟩⟩
 ·rw[hg]
  refine hA6.step hf7 (fun e=> ?_) (fun k hk e=> ?_)
  ·have:=hM6.new V e
   omega
  ·rcases hN5 k hk with h2|h2
   ·exact hap k e h2
   ·have:=hsl k e
    omega
 ·refine((hF.trans' (T:=fun k=>k=V∨av2.ownBlock=some k) ((lift h1).trans (hF5.trans (lift h6))) (fun k hk e=> ?_)).trans' hf7 (fun k hk e=> ?_))
  ·rcases e with e|e
   ·exact .inl e
   ·rcases hN k e with h2|h2
    ·exact .inr h2
    ·omega
  ·have:=hM6.new k e
   omega
 ·have:=hF.size
  rcases hN5 k hk with h2|h2
  ·exact hN k h2
  ·exact .inr (by omega)
 ·have hlt6:=hA6.lt.2 k e
  rcases hn7 k hk with h2|h2
  ·rcases hN5 k e with h3|h3
   ·exact hap k h2 h3
   ·have:=hsl k h2
    omega
  ·omega
set_option maxRecDepth 100000 in
theorem copy_calls(V size d n:Nat)(av:Value)(all:List UInt8)(w:World)(h:WAt w V av size all)(hin:1≤d∧d≤min size all.length)(hn:n≤273)(hmuch:all.length+n≤70368744177664):
    Calls Tryz.prog 135 #[ptr V,.int .i64 d,.int .i64 n] w fun e w'=>∃v,e=.returned (.tuple #[v,.int .i64 0])∧CopyR V size d av all w n v w':=by
  obtain⟨p,cap,hav⟩:=own_slice h.own
  have HH:=Hd (has_calls V size all.length cap d p w (cell_in h.v rfl) (by rw[←hav];exact cell_in h.v rfl))
  rw[decide_eq_true hin] at HH
  have n1:decide ((n:Int)<0)=false:=by simp
  have n2:decide ((n:Int)>273)=false:=by rw[decide_eq_false_iff_not];omega
  have n3:decide ((273:Int)<n)=false:=by rw[decide_eq_false_iff_not];omega
  have hVw:=h.lt.1
  have H:=Hd h
  have hd1:1≤d:=hin.1
  have hd3:d≤all.length:=by omega
  clear h hin hav
  go_enter Tryz.func135,Tryz.ntmps135
  go_wp2_with fail
  refine HH.out.mono ?_
  rintro e w1 ⟨rfl,m,rfl⟩
  go_wp2_with fail
  go_loopw [8,9](fun s8 i wx=>∃k:Nat,k≤n∧i=.int .i64 (k:Int)∧CopyR V size d av all w k s8 wx) (fun _ i _=>(n-(intOf i).toNat))
  case atStart=>exact⟨0,by omega,rfl,av,H.out.keep ((Fr.refl _ w).drewN m),lift ((Fr.refl _ w).drewN m),fun k hk=>.inl hk,by rw[copied_zero];exact Mine.nil _ _,fun k hk=>by simp[Value.ownBlock] at hk⟩
  case round=>
    obtain⟨k,hk,rfl,av2,hA2,hF2,hN2,hM2,hap2⟩:=hrel
    obtain⟨p8,cap8,rfl⟩:=hM2.slice
    obtain⟨p2,cap2,rfl⟩:=own_slice hA2.own
    have HA2:=Hd hA2
    have HF2:=Hd hF2
    have HN2:=Hd hN2
    have HM2:=Hd hM2
    have HP2:=Hd hap2
    clear hF2 hN2 hM2 hap2
    by_cases hlt:k<n
    · have hgl:=grown_len all d k
      have hcl:=copied_len all d k
      have hc:(grown all d k)[all.length+k-d]? =some ((grown all d k).getD ((grown all d k).length-d) 0):=by
        rw[hgl,List.getD_eq_getElem?_getD,List.getElem?_eq_getElem (by omega)]
        rfl
      have HG1:=Hd (show grown all d (k+1)=grown all d k++[(grown all d k).getD ((grown all d k).length-d) 0] from rfl)
      have HS1:=Hd (copied_succ all d k)
      have hrd:Rd wr (.slice p2 (grown all d k).length cap2) (grown all d k):=Rd.of_own hA2.own
      obtain⟨b',o',hpb,hcc⟩:=Win.byte_at hrd hc
      subst hpb
      have v1:wr.cell? ⟨V,1,none⟩=some (.slice (some ⟨b',o',none⟩) (grown all d k).length cap2):=cell_in hA2.v rfl
      clear hA2 hrd hc
      rw[hgl] at v1
      have ei:((all.length+k:Nat):Int)-(d:Int)=((all.length+k-d:Nat):Int):=by omega
      have hi0:(0:Int)≤((all.length+k-d:Nat):Int):=by omega
      have hi1:((all.length+k-d:Nat):Int)<((all.length+k:Nat):Int):=by omega
      have hbd:all.length+k+1≤70368744177664:=by omega
      generalize(grown all d k).getD ((grown all d k).length-d) 0=c at*
      generalize all.length+k-d=ix at*
      generalize all.length+k=gn at*
      rw[hgl] at HA2 HN2 HP2
      rw[hcl] at HM2 HP2
      have HGL:=Hd hgl
      have HCL:=Hd hcl
      rw[hcl]
      clear hgl hcl
      go_wp2_with fail
      go_quiet (fail)
      have HW1:=Hd ((Fr.refl (fun _=>False) wr).drewN nq)
      clear v1 hcc
      generalize wr.drewN nq=w1 at*
      have hA1:=HA2.out.keep HW1.out
      have v1:w1.cell? ⟨V,1,none⟩=some (.slice (some ⟨b',o',none⟩) gn cap2):=cell_in hA1.v rfl
      have HAL:=Hd ((Fr.refl (fun _=>False) w1).alloc (.cells #[.int .u8 (c.toNat:Int)] 5))
      have HA1:=Hd (hA1.keep HAL.out)
      have HONE:=Hd (rd_one w1 _ rfl c _ rfl)
      clear hA1
      go_wp2_with (at_builtin
                   first
                   | (refine append_mine rfl _ _ rfl (w0:={ (w1.alloc (.cells #[.int .u8 (c.toNat : Int)] 5)) with heap:=#[] }) (.slice (some ⟨b',o',none⟩) gn cap2) (.slice (some ⟨w1.heap.size,0,none⟩) 1 1) (grown all d k) [c] rfl rfl (any_mine HA1.out.own) (Nat.zero_le _) HONE.out (by rw [HGL.out]; exact hbd) ?_
                      intro p5 cap5 n5 w5 hn5 hM5 hfr5 hnew5
                      have hV5:=hfr5.keep HA1.out.v (fun e=>HA1.out.ne V e rfl)
                      have z1:w5.cell? ⟨V,1,none⟩=some (.slice (some ⟨b',o',none⟩) gn cap2):=cell_in hV5 rfl
                      have z2:=frozen_in hV5 1
                      have HST:=Hd (fun v7 w7=>copy_step (v7:=v7) (w7:=w7) HA2.out HF2.out HN2.out HM2.out HP2.out HG1.out HS1.out hVw (HW1.out.trans HAL.out) hM5.own hfr5 hnew5 ((Fr.refl (fun _=>False) (w5.setCell ⟨V,1,none⟩ (.slice p5 n5 cap5))).alloc (.cells #[.int .u8 (c.toNat:Int)] 5)))
                      have HM6:=Hd (HST.out (.slice none 0 0) w5).1
                      have HSZ6:Hid (w.heap.size≤((w5.setCell ⟨V,1,none⟩ (.slice p5 n5 cap5)).alloc (.cells #[.int .u8 (c.toNat:Int)] 5)).heap.size):=Hd (by have:=HF2.out.size;have:=HW1.out.size;have:=HAL.out.size;have:=hfr5.size;simp;omega)
                      have HONE2:=Hd (rd_one (w5.setCell ⟨V,1,none⟩ (.slice p5 n5 cap5)) w5.heap.size (by simp) c _ rfl)
                      clear hn5 hM5 hfr5 hnew5 hV5)
                   | (refine append_mine rfl _ _ rfl (w0:=w) (.slice p8 k cap8) (.slice (some ⟨w5.heap.size,0,none⟩) 1 1) (copied all d k) [c] rfl rfl HM6.out HSZ6.out HONE2.out (by rw [HCL.out]; simp only [List.length_singleton]; omega) ?_
                      intro p7 cap7 n7 w7 hn7 hM7 hfr7 hnew7
                      have HC:=Hd ((HST.out _ _).2 hM7 hfr7 hnew7)
                      clear hn7 hM7 hfr7 hnew7))
      go_roundw
      case rel=>exact⟨k+1,by omega,by go_num,HC.out⟩
      case measure=>simp[intOf];omega
    · obtain rfl:k=n:=by omega
      go_wp2_with fail
      go_ret2
      exact⟨_,rfl,_,HA2.out,HF2.out,HN2.out,HM2.out,HP2.out⟩
end Rf
namespace Rf
open Mem Rc Prob St Lz Win
theorem new12_calls(w:World):Calls Tryz.prog 82 #[] w fun e w'=>e=.returned (.agg #[.int .i64 0,.int .i64 1,.int .i64 1,.int .i64 1,.int .i64 1])∧Fr (fun _=>False) w w':=by
 have hbx:=heap_alloc_new w (.cells #[.int .i64 0,.int .i64 1,.int .i64 1,.int .i64 1,.int .i64 1] 132)
 obtain⟨c0,c1,c2,c3,c4⟩:=cs5 hbx rfl rfl rfl rfl rfl
 clear hbx
 go_enter Tryz.func82,Tryz.ntmps82
 go_wp2_with fail
 refine bodyPost_ret (v:=.agg #[.int .i64 0,.int .i64 1,.int .i64 1,.int .i64 1,.int .i64 1]) (by simp[results,Tryz.results82,go_sem,c0,c1,c2,c3,c4]) rfl ?_
 exact⟨rfl,(Fr.refl _ _).alloc _⟩
set_option maxRecDepth 100000 in
theorem make_five(W:World):(Instr.makeSlice 22 (.int .i64 5) (.int .i64 5)).run Tryz.prog W=.ok (.slice (some ⟨W.heap.size,0,none⟩) 5 5) (W.alloc (.cells (madeCells [Value.int .u8 0].toArray 5) 5)):=by
 obtain⟨i,hi,hz,hs,hb⟩:=info_parts infoU8
 have:=run_make (P:=Tryz.prog) W 22 5 i (.int .u8 0) Tryz.underlying22 hi hz .i64 .i64 5 5 (by omega) (by omega) (by rw[hb];omega) (by omega)
 rw[this,hs]
 rfl
set_option maxRecDepth 100000 in
theorem new7_calls(w:World):Calls Tryz.prog 83 #[] w fun e w'=>∃b,e=.returned (ptr b)∧Fr (fun _=>False) w w':=by
 have hmk:=make_five
 go_enter Tryz.func83,Tryz.ntmps83
 go_wp2_with fail
 go_ret
 exact⟨_,rfl,((Fr.refl _ w).alloc _).alloc _⟩
theorem new10_calls(size:Nat)(h1:1≤size)(h2:size≤4294967295)(w:World):Calls Tryz.prog 81 #[.int .i64 size] w fun e w'=>e=.returned (.tuple #[ptr w.heap.size,.int .i64 0])∧Fr (fun _=>False) w w'∧w'.heap[w.heap.size]? =some (.cells #[.int .i64 size,.slice none 0 0] 182 (0,0)):=by
 have t1:decide ((size:Int)<1)=false:=by rw[decide_eq_false_iff_not];omega
 have t2:decide ((size:Int)>4294967295)=false:=by rw[decide_eq_false_iff_not];omega
 have t3:decide ((4294967295:Int)<size)=false:=by rw[decide_eq_false_iff_not];omega
 go_enter Tryz.func81,Tryz.ntmps81
 go_wp2_with fail
 go_ret2
 exact⟨rfl,(Fr.refl _ w).alloc _,heap_alloc_new w _⟩
theorem clear10_calls(V size:Nat)(av:Value)(w:World)(h:w.heap[V]? =some (.cells #[.int .i64 size,av] 182 (0,0))):Calls Tryz.prog 126 #[ptr V] w fun e w'=>e=.returned (.tuple #[])∧Fr (fun k=>k=V) w w'∧w'.heap[V]? =some (.cells #[.int .i64 size,.slice none 0 0] 182 (0,0)):=by
 have c1:=cell_in (i:=1) h rfl
 have f1:=frozen_in h 1
 have H:=Hd h
 clear h
 go_enter Tryz.func126,Tryz.ntmps126
 go_wp2_with fail
 go_end0
 exact⟨rfl,Fr.one _ _ _ _,set_in H.out 1 _⟩
theorem kV_fresh(l:RL)(c:C)(lc lp pb M':Nat):(((((((((kV l c).setIfInBounds 0 (.int .i64 lc)).setIfInBounds 1 (.int .i64 lp)).setIfInBounds 2 (.int .i64 pb)).setIfInBounds 9 (.map (some M'))).setIfInBounds 4 (.int .i64 0)).setIfInBounds 5 (.int .i64 1)).setIfInBounds 6 (.int .i64 1)).setIfInBounds 7 (.int .i64 1)).setIfInBounds 8 (.int .i64 1)=kV {l with M:=M',st:=[]} (c.fresh lc lp pb):=by
 simp[kV,C.fresh,S.new]
theorem kV_9(l:RL)(c:C)(lc lp pb:Nat):((((kV l c).setIfInBounds 0 (.int .i64 lc)).setIfInBounds 1 (.int .i64 lp)).setIfInBounds 2 (.int .i64 pb))[9]? =some (.map (some l.M)):=by simp[kV]
theorem mk_map(W:World):(Instr.makeMap 133 none).run Tryz.prog W=.ok (.map (some W.heap.size)) (W.alloc (.map #[] 0)):=rfl
theorem reset_calls{l:RL}{c:C}{ps:Nat→List Nat}{w:World}(h:Cod w l c ps)(lc lp pb:Nat)(hl:lc+lp≤4)(hp:pb≤4):
 Calls Tryz.prog 86 #[ptr l.K,propV lc lp pb] w fun e w'=>e=.returned (.int .i64 0)∧Fr (fun k=>k=l.K) w w'∧∃M',w.heap.size≤M'∧Cod w' {l with M:=M',st:=[]} (c.fresh lc lp pb) (Lz.fresh lc lp):=by
 have hx:=heap_alloc_new w (.cells #[.int .i64 lc,.int .i64 lp,.int .i64 pb] 50)
 have HAL:=Hd ((Fr.refl (fun _=>False) w).alloc (.cells #[.int .i64 lc,.int .i64 lp,.int .i64 pb] 50))
 obtain⟨c0,c1,c2⟩:=cs3 hx rfl rfl rfl
 have HX:=Hd hx
 have H:=Hd h
 have hKl:=lt_of_block h.k
 have HPB:=fun W=>Hd (propsByte_calls lc lp pb hl hp W)
 clear h hx
 have hmm:=mk_map
 go_enter Tryz.func86,Tryz.ntmps86
 go_wp2_with fail
 refine(HPB _).out.mono ?_
 rintro e w2 ⟨rfl,hf2⟩
 have hx2:=hf2.keep HX.out (fun h=>h)
 have HF2:=Hd (HAL.out.trans hf2)
 have h2:=H.out.keep HF2.out
 clear c0 c1 c2 hf2
 obtain⟨c0,c1,c2⟩:=cs3 hx2 rfl rfl rfl
 obtain⟨p0,p1,p2,p3,p4,p5,p6,p7,p8,p9,v0,v1⟩:=h2.cells
 have pf:=fun i=>frozen_in h2.k i
 have H2:=Hd h2
 clear h2 hx2
 go_upto_region 5 with fail
 have f3:=(((Fr.one w2 l.K 0 (.int .i64 lc)).trans (Fr.one _ l.K 1 (.int .i64 lp))).trans (Fr.one _ l.K 2 (.int .i64 pb)))
 have h3:=set_in (set_in (set_in H2.out.k 0 (.int .i64 lc)) 1 (.int .i64 lp)) 2 (.int .i64 pb)
 have H3:=Hd h3
 have HF3:=Hd (((HF2.out.mono (T:=fun k=>k=l.K) (fun _ _ h=>h.elim)).trans f3))
 clear f3 h3 p0 p1 p2 p3 p4 p5 p6 p7 p8 p9 v0 v1 pf c0 c1 c2
 generalize World.setCell (World.setCell (World.setCell w2 _ _) _ _) _ _=w3 at*
 have hK3:=lt_of_block H3.out
 have p9:w3.cell? ⟨l.K,9,none⟩=some (.map (some l.M)):=cell_in (i:=9) H3.out (kV_9 l c lc lp pb)
 have pf:=frozen_in H3.out 9
 have hal:=(Fr.refl (fun _=>False) w3).alloc (.map #[] 0)
 have q9:(w3.alloc (.map #[] 0)).cell? ⟨l.K,9,none⟩=some (.map (some l.M)):=cell_in (i:=9) (hal.keep H3.out (fun h=>h)) (kV_9 l c lc lp pb)
 have qf:=frozen_in (hal.keep H3.out (fun h=>h)) 9
 have hkm:=KM.made w3
 have HAL3:=Hd hal
 have HKM:=Hd hkm
 clear hal hkm
 go_upto_region 6 with fail
 have h4:=set_in H3.out 9 (.map (some w3.heap.size))
 have f4:=Fr.one w3 l.K 9 (.map (some w3.heap.size))
 have hkm4:=KM.made (w3.setCell ⟨l.K,9,none⟩ (.map (some w3.heap.size)))
 have hs4:(w3.setCell ⟨l.K,9,none⟩ (.map (some w3.heap.size))).heap.size=w3.heap.size:=by simp
 rw[hs4] at hkm4
 have hal4:=(Fr.refl (fun _=>False) (w3.setCell ⟨l.K,9,none⟩ (.map (some w3.heap.size)))).alloc (.map #[] 0)
 have H4:=Hd (hal4.keep h4 (fun h=>h))
 have HF4:=Hd ((HF3.out.trans f4).trans (hal4.mono (fun _ _ h=>h.elim)))
 have HKM4:=Hd hkm4
 have hz3:w.heap.size≤w3.heap.size:=HF3.out.size
 clear h4 f4 hkm4 hs4 hal4 p9 pf q9 qf HKM HAL3
 generalize hm:w3.heap.size=M' at*
 generalize World.alloc (World.setCell w3 _ _) _=w4 at*
 have HN:=Hd (new12_calls w4)
 go_wp2_with fail
 refine HN.out.mono ?_
 rintro e w5 ⟨rfl,hf5⟩
 have h5:=hf5.keep H4.out (fun h=>h)
 have k4:w5.cell? ⟨l.K,4,none⟩=some (.int .i64 c.s.num):=cell_in (i:=4) h5 (by simp[kV])
 have k5:w5.cell? ⟨l.K,5,none⟩=some (.int .i64 c.s.r0):=cell_in (i:=5) h5 (by simp[kV])
 have k6:w5.cell? ⟨l.K,6,none⟩=some (.int .i64 c.s.r1):=cell_in (i:=6) h5 (by simp[kV])
 have k7:w5.cell? ⟨l.K,7,none⟩=some (.int .i64 c.s.r2):=cell_in (i:=7) h5 (by simp[kV])
 have k8:w5.cell? ⟨l.K,8,none⟩=some (.int .i64 c.s.r3):=cell_in (i:=8) h5 (by simp[kV])
 have kf:=fun i=>frozen_in h5 i
 have HF5:=Hd (HF4.out.trans (hf5.mono (fun _ _ h=>h.elim)))
 have H5:=Hd h5
 have HKM5:=Hd (HKM4.out.step hf5 (fun h=>h))
 clear hf5 h5 HN
 go_wp2_with fail
 go_ret
 have f6:=((((Fr.one w5 l.K 4 (.int .i64 0)).trans (Fr.one _ l.K 5 (.int .i64 1))).trans (Fr.one _ l.K 6 (.int .i64 1))).trans (Fr.one _ l.K 7 (.int .i64 1))).trans (Fr.one _ l.K 8 (.int .i64 1))
 have h6:=set_in (set_in (set_in (set_in (set_in H5.out 4 (.int .i64 0)) 5 (.int .i64 1)) 6 (.int .i64 1)) 7 (.int .i64 1)) 8 (.int .i64 1)
 rw[kV_fresh] at h6
 have hfall:=HF5.out.trans f6
 have hkm6:=HKM5.out.step f6 (fun(e:M'=l.K)=>by omega)
 refine⟨rfl,hfall,M',hz3,h6,hfall.keep H.out.v (fun e=>blk_ne H.out.k H.out.v (by decide) e.symm),own_step H.out.all hfall (fun k hk e=> ?_),⟨hkm6,by simp,by simp⟩,Has.start _ (fun j hj p hp=> ?_),⟨hl,hp,S.new_ok⟩,fun j hj=>Lz.fresh_len lc lp j,fun j hj p hp=> ?_,H.out.size,H.out.much⟩
 ·obtain⟨cur,hc⟩:=own_block H.out.all hk
  exact blk_ne hc H.out.k (by decide) e
 ·simp only[Lz.fresh,List.mem_replicate] at hp
  exact hp.2
 ·simp only[Lz.fresh,List.mem_replicate] at hp
  omega
theorem clear14_calls{l:RL}{c:C}{ps:Nat→List Nat}{w:World}(h:Cod w l c ps):
 Calls Tryz.prog 85 #[ptr l.K] w fun e w'=>e=.returned (.tuple #[])∧Fr (fun k=>k=l.K∨k=l.V) w w'∧∃M',w.heap.size≤M'∧Cod w' {l with M:=M',st:=[],av:=.slice none 0 0} {c.fresh c.lc c.lp c.pb with all:=[]} (Lz.fresh c.lc c.lp):=by
 obtain⟨p0,p1,p2,p3,p4,p5,p6,p7,p8,p9,v0,v1⟩:=h.cells
 have HRS:=Hd (reset_calls h c.lc c.lp c.pb h.okc.l h.okc.pb)
 have H:=Hd h
 clear h
 go_enter Tryz.func85,Tryz.ntmps85
 go_wp2_with fail
 refine HRS.out.mono ?_
 rintro e w2 ⟨rfl,hf,M',hM,hc⟩
 have k3:w2.cell? ⟨l.K,3,none⟩=some (ptr l.V):=cell_in hc.k rfl
 have HCL:=Hd (clear10_calls l.V c.size l.av w2 hc.v)
 have HF:=Hd hf
 have HC:=Hd hc
 clear hf hc p0 p1 p2 p3 p4 p5 p6 p7 p8 p9 v0 v1
 go_wp2_with fail
 refine HCL.out.mono ?_
 rintro e w3 ⟨rfl,hf3,hv3⟩
 have HF3:=Hd hf3
 have HV3:=Hd hv3
 clear hf3 hv3
 go_wp2_with fail
 go_end0
 have hc:=HC.out
 refine⟨rfl,(HF.out.mono (fun k _ h=>.inl h)).trans (HF3.out.mono (fun k _ h=>.inr h)),M',hM,HF3.out.keep hc.k (fun e=>blk_ne hc.k hc.v (by decide) e),HV3.out,World.ownsRow_nil _ _ _ _,hc.sets.step HF3.out (fun k hk(e:k=l.V)=>hc.sfV (e ▸ hk)),hc.has,⟨hc.okc.l,hc.okc.pb,hc.okc.s⟩,hc.len,hc.okp,hc.size,Nat.zero_le _⟩
end Rf
end Go.Proofs.YtilegoadokmcdaaGreatDoor
