/- Part 46 of 53: lemmas of the last part, each under the conditions that it names. -/
import Derived.Test.YtilegoadokmcdaaGreatDoorP18
import Derived.Test.YtilegoadokmcdaaGreatDoorP24
import Derived.Test.YtilegoadokmcdaaGreatDoorP26
import Derived.Test.YtilegoadokmcdaaGreatDoorP28
import Derived.Test.YtilegoadokmcdaaGreatDoorP30
import Derived.Test.YtilegoadokmcdaaGreatDoorP42
import Derived.Test.YtilegoadokmcdaaGreatDoorP45
set_option linter.unusedVariables false
set_option linter.unusedSimpArgs false
set_option maxRecDepth 1500
set_option maxHeartbeats 4000000
namespace Go.Proofs.YtilegoadokmcdaaGreatDoor
open Go.RowKit
namespace Rf
open Mem Rc Prob St Lz Win
def RTakePost(l:RL)(c:C)(ps:Nat→List Nat)(xs:List UInt8)(n:Nat)(w:World)(e:Ending)(w':World):Prop:=
 Fr l.DF w w'∧match takeAll c ps xs n with
  |none=>∃lv pv,e=.returned (.tuple #[lv,pv,.int .i64 2])
  |some (ls,outs,c2,ps2)=>∃lv pv,e=.returned (.tuple #[lv,pv,.int .i64 0])∧∃l',NxR w l l'∧Dcd w' l' c2 ps2 false∧Mine w w' pv outs∧Syms w w' lv ls∧(∀k,pv.ownBlock=some k→¬l'.DF k)∧(∀k,lv.ownBlock=some k→¬l'.DF k)
theorem rtake_calls{l:RL}{c:C}{ps:Nat→List Nat}{w:World}(h:Dcd w l c ps false)(v:Value)(xs:List UInt8)(hr:Rd w v xs)(hxl:xs.length≤1099511627776)(n:Nat)(hn1:1≤n)(hn:n≤2097152)(hm:c.all.length+n+300≤70368744177664):
 Calls Tryz.prog 35 #[ptr l.X,v,.int .i64 n] w (RTakePost l c ps xs n w):=by
 have HAC:=Hd (rall_calls h v xs hr hxl n hn hm)
 obtain⟨dv,bad,hx⟩:=h.x
 have hd:w.cell? ⟨l.X,3,none⟩=some (.bool false):=cell_in hx rfl
 clear h hr hx
 unfold RAllPost at HAC
 unfold RTakePost
 cases ht:takeAll c ps xs n with
 |none=>
   rw[ht] at HAC
   simp only at HAC
   clear ht
   go_enter Tryz.func35,Tryz.ntmps35
   go_wp2_with fail
   refine HAC.out.mono ?_
   rintro e w1 ⟨lv,pv,ok,rfl,hfr,⟨dv2,bad2,hx2⟩,rfl⟩
   have z0:w1.cell? ⟨l.X,3,none⟩=some (.bool false):=cell_in hx2 rfl
   have zf:=frozen_in hx2 3
   have HF:=Hd hfr
   clear hfr hx2
   go_wp2_with fail
   go_ret3
   exact⟨Fr.setCell HF.out (.inl (.inl rfl)) _,_,_,rfl⟩
 |some r=>
   obtain⟨ls,outs,c2,ps2⟩:=r
   rw[ht] at HAC
   simp only at HAC
   clear ht
   go_enter Tryz.func35,Tryz.ntmps35
   go_wp2_with fail
   refine HAC.out.mono ?_
   rintro e w1 ⟨lv,pv,ok,rfl,hfr,hxx,rfl,hrest⟩
   have HF:=Hd hfr
   have HR:=Hd hrest
   clear hfr hxx hrest
   go_wp2_with fail
   go_ret3
   exact⟨HF.out,_,_,rfl,HR.out⟩
def scan1(s:Bool×Bool)(x:Nat):Bool×Bool:=if x=1 then(true,false) else if x=5∨x=6 then(true,true) else s
def scan(l:List Nat):Bool×Bool:=l.foldl scan1 (false,false)
theorem scan_snoc(l:List Nat)(x:Nat):scan (l++[x])=scan1 (scan l) x:=by simp[scan]
def nx(s:Bool×Bool)(kind:Nat):Nat:=if kind=0∨kind=1∨kind=6 then 0 else if s.1=false∨(kind=3∨kind=4)∧s.2=false then 2 else 0
def ints(l:List Nat):List Value:=l.map fun(x:Nat)=>Value.int .i64 (x:Int)
theorem next17_calls(v:Value)(bs:List Nat)(kind:Nat)(hk:kind≤6)(hbs:∀x ∈ bs,1≤x∧x≤6)(w0 w:World)(h:Ga.Own 3 1 w0 w v bs.length (ints bs))(hl:bs.length≤1099511627776):
 Calls Tryz.prog 52 #[v,.int .i64 kind] w fun e w'=>e=.returned (.int .i64 (nx (scan bs) kind))∧w'=w:=by
 obtain⟨p,cap,rfl⟩:=h.slice
 have HO:=Hd h
 have HB:=Hd hbs
 clear h hbs
 obtain⟨res,hres⟩:∃r,r=nx (scan bs) kind:=⟨_,rfl⟩
 rw[←hres]
 have HRES:=Hd hres
 clear hres
 generalize hn:bs.length=n at*
 have HN:=Hd hn
 clear hn
 go_enter Tryz.func52,Tryz.ntmps52
 go_wp2_with fail
 go_loopw [5,6,7](fun b t i wr=>∃k:Nat,k≤n∧i=.int .i64 k∧b=.bool (scan (bs.take k)).1∧t=.bool (scan (bs.take k)).2∧wr=w) (fun _ _ i _=>n-(intOf i).toNat)
 case atStart=>exact⟨0,Nat.zero_le _,rfl,rfl,rfl,rfl⟩
 case round=>
  obtain⟨k,hkn,rfl,rfl,rfl,rfl⟩:=hrel
  by_cases hlt:k<n
  ·have hkb:k<bs.length:=HN.out ▸ hlt
   obtain⟨x,hx⟩:∃x,bs[k]? =some x:=⟨bs[k],by simp[hkb]⟩
   have hx6:=HB.out x (List.mem_of_getElem? hx)
   obtain⟨g,rfl,hc⟩:=HO.out.cell (i:=k) (u:=.int .i64 (x:Int)) (by simp[ints,hx])
   have hsc:scan (bs.take (k+1))=scan1 (scan (bs.take k)) x:=by
    rw[List.take_add_one,hx]
    exact scan_snoc _ _
   have HSC:=Hd hsc
   clear hsc hx hkb
   generalize scan (bs.take k)=sc at*
   obtain⟨b1,b2⟩:=sc
   simp only
   obtain rfl|rfl|rfl|rfl|rfl|rfl:x=1∨x=2∨x=3∨x=4∨x=5∨x=6:=by omega
   all_goals
    go_wp2_with fail
    go_roundw
    case rel=>exact⟨k+1,by omega,by go_num,by rw[HSC.out];rfl,by rw[HSC.out];rfl,by first|rfl|trivial⟩
    case measure=>simp[intOf];omega
  ·have hkn2:k=n:=by omega
   have hsc:scan (bs.take k)=scan bs:=by rw[hkn2,←HN.out,List.take_length]
   rw[hsc]
   have HRES2:=HRES
   clear hsc
   generalize scan bs=sc at*
   obtain⟨b1,b2⟩:=sc
   simp only
   obtain rfl|rfl|rfl|rfl|rfl|rfl|rfl:kind=0∨kind=1∨kind=2∨kind=3∨kind=4∨kind=5∨kind=6:=by omega
   all_goals
    cases b1<;>cases b2
    all_goals
     go_wp2_with fail
     go_ret
     exact⟨by rw[HRES2.out];rfl,rfl⟩
end Rf
namespace Rf
open Mem Rc Prob St Win Ck Wire Lz
theorem get_kind(xs:List UInt8)(h:(Ck.get xs).2.2=0):kindOf (xs.getD 0 0).toNat=some (Ck.get xs).1.kind:=by
 unfold Ck.get at*
 simp only at*
 have hx:=UInt8.toNat_lt (xs.getD 0 0)
 by_cases h0:xs.length=0
 ·rw[if_pos h0] at h
  simp at h
 rw[if_neg h0] at h ⊢
 generalize(xs.getD 0 0).toNat=x at*
 by_cases h1:x=0
 ·rw[if_pos h1,h1]
  rfl
 rw[if_neg h1] at h ⊢
 by_cases h2:x≤2
 ·rw[if_pos h2] at h ⊢
  by_cases h3:xs.length<3
  ·rw[if_pos h3] at h
   simp at h
  ·rw[if_neg h3]
   simp only
   unfold kindOf
   rw[if_pos h2]
 rw[if_neg h2] at h ⊢
 have hk:¬x<128→kindOf x=some (3+(x-128)/32):=fun h3=>by
  unfold kindOf
  rw[if_neg h2,if_neg h3]
  congr 2
  omega
 by_cases h3:x<128
 ·rw[if_pos h3] at h
  simp at h
 rw[if_neg h3] at h ⊢
 rw[hk h3]
 by_cases h4:xs.length<5
 ·rw[if_pos h4] at h
  simp at h
 rw[if_neg h4] at h ⊢
 by_cases h5:(x-128)/32<2
 ·rw[if_pos h5]
 rw[if_neg h5] at h ⊢
 by_cases h6:xs.length<6
 ·rw[if_pos h6] at h
  simp at h
 rw[if_neg h6] at h ⊢
 by_cases h7:St.bytePropsOk (xs.getD 5 0).toNat=true
 ·rw[if_pos h7]
 ·rw[if_neg h7] at h
  simp at h
structure HdOk(b:List UInt8)(s:Sr)(h:Head)(n now:Nat):Prop where
 n6:n≤6
 le:s.at'+n≤b.length
 n1:1≤n
 kind:h.kind≤6
 mv:now=Ck.move s.now h.kind
 ok:Ck.move s.now h.kind≠4
 size:h.size≤2097152
 packed:h.packed≤65536
theorem headP_ok{b:List UInt8}{packed size:Int}{s:Sr}{h:Head}{n now:Nat}(ha:s.at'≤b.length)(e:headP b packed size s=.ok (h,n,now)):HdOk b s h n now:=by
 unfold headP at e
 split at e
 ·cases e
 ·split at e
  ·cases e
  ·rename_i hne
   split at e
   ·cases e
   ·rename_i k hk
    split at e
    ·cases e
    ·rename_i hmv
     split at e
     ·cases e
     ·split at e
      ·cases e
      ·rename_i hge
       split at e
       ·cases e
       ·have hge0:(Ck.get ((b.drop s.at').take 6)).2.2=0:=by simpa using hge
        have g1:=get_small ((b.drop s.at').take 6)
        have g2:=get_le_len ((b.drop s.at').take 6) hge0
        have g3:=get_pos ((b.drop s.at').take 6) hge0
        have g6:=get_le ((b.drop s.at').take 6)
        have gk:=get_kind ((b.drop s.at').take 6) hge0
        rw[List.length_take,List.length_drop] at g2
        have h3:((b.drop s.at').take 6).getD 0 0=b.getD s.at' 0:=by simp[List.getD_eq_getElem?_getD,List.getElem?_take,List.getElem?_drop]
        rw[h3,hk] at gk
        generalize Ck.get ((b.drop s.at').take 6)=g at*
        obtain⟨gh,gn,ge⟩:=g
        simp only[Except.ok.injEq,Prod.mk.injEq] at e g1 g2 g3 g6 gk
        obtain⟨rfl,rfl,rfl⟩:=e
        have gk:=Option.some.inj gk
        subst gk
        exact⟨g6,by omega,g3,g1.2.2.1,rfl,hmv,g1.1,g1.2.1⟩
theorem headP_err{b:List UInt8}{packed size:Int}{s:Sr}{er:Nat}(e:headP b packed size s=.error er):er≠0:=by
 have h:=nextP_head b packed size s
 rw[e] at h
 exact nextP_err h
theorem scan_move:∀now:Fin 3,∀k:Fin 7,k.val≠0→Ck.move now.val k.val≠4→scan1 (decide (now.val≠0),decide (now.val=2)) k.val=(decide (Ck.move now.val k.val≠0),decide (Ck.move now.val k.val=2))∧Ck.move now.val k.val<3:=by decide
theorem move_end:∀now:Fin 3,Ck.move now.val 0=3:=by decide
theorem faulty_calls(er at':Nat)(w:World):Calls Tryz.prog 32 #[.int .i64 er,.int .i64 at'] w fun e w'=>e=.returned (.agg #[.slice none 0 0,.slice none 0 0,.slice none 0 0,.int .i64 er,.int .i64 at'])∧Fr (fun _=>False) w w':=by
 have hf:=(Fr.refl (fun _=>False) w).alloc (.cells #[.slice none 0 0,.slice none 0 0,.slice none 0 0,.int .i64 0,.int .i64 0] 56)
 have hx:=heap_alloc_new w (.cells #[.slice none 0 0,.slice none 0 0,.slice none 0 0,.int .i64 0,.int .i64 0] 56)
 obtain⟨r0,r1,r2,r3,r4,rf⟩:=cf5 hx rfl rfl rfl rfl rfl
 have HF:=Hd hf
 clear hf hx
 go_enter Tryz.func32,Tryz.ntmps32
 go_upto_region 1 with fail
 generalize hz:w.heap.size=z at*
 have HZ:=Hd hz
 clear hz
 generalize World.alloc w _=W at*
 go_wp2_with fail
 refine bodyPost_ret (v:=.agg #[.slice none 0 0,.slice none 0 0,.slice none 0 0,.int .i64 er,.int .i64 at']) (by simp[results,Tryz.results32,go_sem,r0,r1,r2,r3,r4]) rfl ?_
 exact⟨rfl,HF.out.trans' (five_fr _ z _ _ _ _ _) (fun k hk(e:k=z)=>by have:=HZ.out;omega)⟩
def beginC(c:C)(ps:Nat→List Nat)(h:Head):C×(Nat→List Nat):=
 if h.kind=1 then({c.fresh c.lc c.lp c.pb with all:=[]},Lz.fresh c.lc c.lp)
 else if h.kind=4 then(c.fresh c.lc c.lp c.pb,Lz.fresh c.lc c.lp)
 else if h.kind=5 then(c.fresh h.lc h.lp h.pb,Lz.fresh h.lc h.lp)
 else if h.kind=6 then(C.fresh {c.fresh c.lc c.lp c.pb with all:=[]} h.lc h.lp h.pb,Lz.fresh h.lc h.lp)
 else(c,ps)
theorem NxR.trans{w w1:World}{l l1 l2:RL}(h1:NxR w l l1)(h2:NxR w1 l1 l2)(hs:w.heap.size≤w1.heap.size):NxR w l l2:=
 ⟨h2.X.trans h1.X,h2.K.trans h1.K,h2.V.trans h1.V,fun k hk=>by
  rcases h2.F k hk with h|h
  ·exact h1.F k h
  ·exact .inr (by omega)⟩
theorem NxR.fr{w w1 w2:World}{l l1:RL}(h:NxR w l l1)(h1:Fr l.DF w w1)(h2:Fr l1.DF w1 w2):Fr l.DF w w2:=
 h1.trans' h2 (fun k hk hF=>by
  rcases h.F k hF with h|h
  ·exact h
  ·omega)
def BgPost(l:RL)(c:C)(ps:Nat→List Nat)(h:Head)(w:World)(e:Ending)(w':World):Prop:=e=.returned (.tuple #[])∧Fr l.DF w w'∧∃l',NxR w l l'∧Dcd w' l' (beginC c ps h).1 (beginC c ps h).2 false
theorem begin_calls{l:RL}{c:C}{ps:Nat→List Nat}{w:World}(hD:Dcd w l c ps false)(h:Head)(hk:h.kind≤6)(hok:h.lc+h.lp≤4∧h.pb≤4):
 Calls Tryz.prog 33 #[ptr l.X,.agg h.cells] w (BgPost l c ps h w):=by
 obtain⟨kind,size,packed,lc,lp,pb⟩:=h
 simp only at hk hok
 unfold Head.cells BgPost
 simp only
 have hf:=(Fr.refl (fun _=>False) w).alloc (.cells #[.int .i64 kind,.int .i64 size,.int .i64 packed,.int .i64 lc,.int .i64 lp,.int .i64 pb] 52)
 have hx:=heap_alloc_new w (.cells #[.int .i64 kind,.int .i64 size,.int .i64 packed,.int .i64 lc,.int .i64 lp,.int .i64 pb] 52)
 have HF:=Hd hf
 have HD:=Hd (hD.keep hf)
 have HX:=Hd hx
 have x0:=cell_in (i:=0) hx rfl
 have x3:=cell_in (i:=3) hx rfl
 have x4:=cell_in (i:=4) hx rfl
 have x5:=cell_in (i:=5) hx rfl
 obtain⟨dv,bad,hdx⟩:=(hD.keep hf).x
 have hdk:=(hD.keep hf).cod.k
 have d0:(w.alloc (.cells #[.int .i64 kind,.int .i64 size,.int .i64 packed,.int .i64 lc,.int .i64 lp,.int .i64 pb] 52)).cell? ⟨l.X,0,none⟩=some (ptr l.K):=cell_in hdx rfl
 have k0:(w.alloc (.cells #[.int .i64 kind,.int .i64 size,.int .i64 packed,.int .i64 lc,.int .i64 lp,.int .i64 pb] 52)).cell? ⟨l.K,0,none⟩=some (.int .i64 c.lc):=cell_in hdk rfl
 have k1:(w.alloc (.cells #[.int .i64 kind,.int .i64 size,.int .i64 packed,.int .i64 lc,.int .i64 lp,.int .i64 pb] 52)).cell? ⟨l.K,1,none⟩=some (.int .i64 c.lp):=cell_in hdk rfl
 have k2:(w.alloc (.cells #[.int .i64 kind,.int .i64 size,.int .i64 packed,.int .i64 lc,.int .i64 lp,.int .i64 pb] 52)).cell? ⟨l.K,2,none⟩=some (.int .i64 c.pb):=cell_in hdk rfl
 clear hf hx hdx hdk hD
 unfold beginC
 simp only
 go_enter Tryz.func33,Tryz.ntmps33
 go_upto_region 1 with fail
 generalize hz:w.heap.size=z at*
 have HZ:=Hd hz
 clear hz
 generalize World.alloc w _=W at*
 obtain rfl|rfl|rfl|rfl|rfl|rfl|rfl:kind=0∨kind=1∨kind=2∨kind=3∨kind=4∨kind=5∨kind=6:=by omega
 ·go_wp2_with fail
  go_end0
  exact⟨rfl,lift HF.out,l,NxR.refl _ _,HD.out⟩
 ·go_wp2_with fail
  refine(clear15_calls HD.out).mono ?_
  rintro e w2 ⟨rfl,hf2,l2,hn2,hd2⟩
  have HP:=Hd (And.intro hf2 (And.intro hn2 hd2))
  clear hf2 hn2 hd2
  go_wp2_with fail
  go_end0
  have hs:=HF.out.size
  exact⟨rfl,(lift HF.out).trans HP.out.1,l2,(NxR.refl w l).trans HP.out.2.1 hs,HP.out.2.2⟩
 ·go_wp2_with fail
  go_end0
  exact⟨rfl,lift HF.out,l,NxR.refl _ _,HD.out⟩
 ·go_wp2_with fail
  go_end0
  exact⟨rfl,lift HF.out,l,NxR.refl _ _,HD.out⟩
 ·have HRS:=Hd (reset15_calls HD.out c.lc c.lp c.pb HD.out.cod.okc.l HD.out.cod.okc.pb)
  go_wp2_with fail
  refine HRS.out.mono ?_
  rintro e w2 ⟨rfl,hf2,l2,hn2,hd2⟩
  have HP:=Hd (And.intro hf2 (And.intro hn2 hd2))
  clear hf2 hn2 hd2
  go_wp2_with fail
  go_end0
  have hs:=HF.out.size
  exact⟨rfl,(lift HF.out).trans HP.out.1,l2,(NxR.refl w l).trans HP.out.2.1 hs,HP.out.2.2⟩
 ·have HRS:=Hd (reset15_calls HD.out lc lp pb hok.1 hok.2)
  go_wp2_with fail
  refine HRS.out.mono ?_
  rintro e w2 ⟨rfl,hf2,l2,hn2,hd2⟩
  have HP:=Hd (And.intro hf2 (And.intro hn2 hd2))
  clear hf2 hn2 hd2
  go_wp2_with fail
  go_end0
  have hs:=HF.out.size
  exact⟨rfl,(lift HF.out).trans HP.out.1,l2,(NxR.refl w l).trans HP.out.2.1 hs,HP.out.2.2⟩
 ·go_wp2_with fail
  refine(clear15_calls HD.out).mono ?_
  rintro e w2 ⟨rfl,hf2,l2,hn2,hd2⟩
  have HRS:=Hd (reset15_calls hd2 lc lp pb hok.1 hok.2)
  have hx2:=hf2.keep HX.out (HD.out.off HX.out (by decide))
  clear x0 x3 x4 x5 d0 k0 k1 k2
  have x3:=cell_in (i:=3) hx2 rfl
  have x4:=cell_in (i:=4) hx2 rfl
  have x5:=cell_in (i:=5) hx2 rfl
  have hXe:=hn2.X
  rw[hXe] at HRS
  have HP:=Hd (And.intro hf2 (And.intro hn2 hd2))
  clear hf2 hn2 hd2 hx2
  go_wp2_with fail
  refine HRS.out.mono ?_
  rintro e w3 ⟨rfl,hf3,l3,hn3,hd3⟩
  have HP3:=Hd (And.intro hf3 (And.intro hn3 hd3))
  clear hf3 hn3 hd3
  go_wp2_with fail
  go_end0
  have hs:=HF.out.size
  have hs2:=HP.out.1.size
  exact⟨rfl,(lift HF.out).trans (HP.out.2.1.fr HP.out.1 HP3.out.1),l3,((NxR.refl w l).trans HP.out.2.1 hs).trans HP3.out.2.1 (by omega),HP3.out.2.2⟩
end Rf
namespace Rf
open Mem Rc Prob St Win Ck Wire Lz Ga
abbrev nilS:Value:=.slice none 0 0
structure Rw(w wr:World)(Tb Zb Rb:Nat)(l:RL)(hv sv dv fv:Value)(packed size:Int)(c:C)(ps:Nat→List Nat)(hs:List Head)(sy:List (List Sy))(out:List UInt8)(bs:List Nat):Prop where
 told:wr.heap[Tb]? =some (.cells #[.int .i64 packed,.int .i64 size] 59 (0,0))
 zb:wr.heap[Zb]? =some (.cells #[nilS,nilS,nilS,.int .i64 0,.int .i64 0] 56 (0,0))
 rb:wr.heap[Rb]? =some (.cells #[hv,sv,dv,.int .i64 0,.int .i64 0] 56 (0,0))
 heads:Cc.Heads w wr hv hs
 rows:RowsY w wr sv sy
 data:Mine w wr dv out
 bef:Own 3 1 w wr fv bs.length (ints bs)
 dcd:Dcd wr l c ps false
 fr:Fr (fun _=>False) w wr
 low:∀k,l.DF k→w.heap.size≤k
 lows:w.heap.size≤Tb∧w.heap.size≤Zb∧w.heap.size≤Rb
 zr:Zb≠Rb
 dd:∀k,dv.ownBlock=some k→¬l.DF k
 fd:∀k,fv.ownBlock=some k→¬l.DF k
section
variable {w wr w':World}{Tb Zb Rb:Nat}{l:RL}{hv sv dv fv:Value}{packed size:Int}{c:C}{ps:Nat→List Nat}{hs:List Head}{sy:List (List Sy)}{out:List UInt8}{bs:List Nat}
def ownW(t:TypeId):Prop:=t=59∨t=56∨t=52∨t=53∨t=68
instance (t:TypeId):Decidable (ownW t):=by unfold ownW;infer_instance
theorem Rw.step{S:Nat→Prop}(h:Rw w wr Tb Zb Rb l hv sv dv fv packed size c ps hs sy out bs)(hfr:Fr S wr w')(hlow:∀k,S k→w.heap.size≤k)(hS:∀k cs t fr,wr.heap[k]? =some (.cells cs t fr)→ownW t→¬S k)(hd:∀k,dv.ownBlock=some k→¬S k)(hf:∀k,fv.ownBlock=some k→¬S k)(hD:∀k,l.DF k→¬S k):
 Rw w w' Tb Zb Rb l hv sv dv fv packed size c ps hs sy out bs:=by
 refine⟨hfr.keep h.told (hS _ _ _ _ h.told (by decide)),hfr.keep h.zb (hS _ _ _ _ h.zb (by decide)),hfr.keep h.rb (hS _ _ _ _ h.rb (by decide)),Own.step h.heads hfr (fun k hk=> ?_),h.rows.step hfr (fun k cs t fr hk ht=>hS _ _ _ _ hk (by rcases ht with⟨rfl,_⟩|rfl<;>decide)),h.data.step hfr hd,h.bef.step hfr hf,h.dcd.step hfr hD,h.fr.trans' hfr (fun k hk hs=>by have:=hlow k hs;omega),h.low,h.lows,h.zr,h.dd,h.fd⟩
 obtain⟨cur,hc⟩:=Own.block h.heads hk
 exact hS _ _ _ _ hc (by decide)
theorem Rw.keep(h:Rw w wr Tb Zb Rb l hv sv dv fv packed size c ps hs sy out bs)(hfr:Fr (fun _=>False) wr w'):Rw w w' Tb Zb Rb l hv sv dv fv packed size c ps hs sy out bs:=
 h.step hfr (fun _ h=>h.elim) (fun _ _ _ _ _ _ h=>h) (fun _ _ h=>h) (fun _ _ h=>h) (fun _ _ h=>h)
theorem Rw.decd{l':RL}{c':C}{ps':Nat→List Nat}(h:Rw w wr Tb Zb Rb l hv sv dv fv packed size c ps hs sy out bs)(hfr:Fr l.DF wr w')(hn:NxR wr l l')(hd:Dcd w' l' c' ps' false):Rw w w' Tb Zb Rb l' hv sv dv fv packed size c' ps' hs sy out bs:=by
 have hsz:=h.fr.size
 refine⟨hfr.keep h.told (h.dcd.off h.told (by decide)),hfr.keep h.zb (h.dcd.off h.zb (by decide)),hfr.keep h.rb (h.dcd.off h.rb (by decide)),Own.step h.heads hfr (fun k hk=> ?_),h.rows.step hfr (fun k cs t fr hk ht=>h.dcd.off hk (by rcases ht with⟨rfl,_⟩|rfl<;>decide)),h.data.step hfr h.dd,h.bef.step hfr h.fd,hd,h.fr.trans' hfr (fun k hk hs=>by have:=h.low k hs;omega),fun k hk=> ?_,h.lows,h.zr,fun k hk hF=> ?_,fun k hk hF=> ?_⟩
 ·obtain⟨cur,hc⟩:=Own.block h.heads hk
  exact h.dcd.off hc (by decide)
 ·rcases hn.F k hk with h1|h1
  ·exact h.low k h1
  ·omega
 ·rcases hn.F k hF with h1|h1
  ·exact h.dd k hk h1
  ·have:=h.data.lt k hk
   omega
 ·rcases hn.F k hF with h1|h1
  ·exact h.fd k hk h1
  ·have:=h.bef.lt k hk
   omega
theorem Rw.headed{hv2:Value}{hs2:List Head}{w2:World}(h:Rw w wr Tb Zb Rb l hv sv dv fv packed size c ps hs sy out bs)(hO:Cc.Heads w w2 hv2 hs2)(hf:Fr (fun k=>hv.ownBlock=some k) wr w2):Rw w (w2.setCell ⟨Rb,0,none⟩ hv2) Tb Zb Rb l hv2 sv dv fv packed size c ps hs2 sy out bs:=by
 have hb:∀{k:Nat}{cs:Array Value}{t:TypeId}{fr:Nat×Nat},wr.heap[k]? =some (.cells cs t fr)→t≠52→¬hv.ownBlock=some k:=by
  intro k cs t fr hk ht he
  exact Own.off h.heads hk ht he
 have h1:Fr (fun k=>k=Rb) w2 (w2.setCell ⟨Rb,0,none⟩ hv2):=Fr.one _ _ _ _
 have hrb:=hf.keep h.rb (hb h.rb (by decide))
 have hne:∀{k:Nat}{cs:Array Value}{t:TypeId}{fr:Nat×Nat},w2.heap[k]? =some (.cells cs t fr)→t≠56→¬k=Rb:=by
  intro k cs t fr hk ht he
  exact blk_ne hk hrb ht he
 have htold:=hf.keep h.told (hb h.told (by decide))
 have hzb:=hf.keep h.zb (hb h.zb (by decide))
 have hrows:=h.rows.step hf (fun k cs t fr hk ht=>hb hk (by rcases ht with⟨rfl,_⟩|rfl<;>decide))
 have hdata:=h.data.step hf (fun k hk=>by obtain⟨cur,hc⟩:=own_block h.data.own hk;exact hb hc (by decide))
 have hbef:=h.bef.step hf (fun k hk=>by obtain⟨cur,hc⟩:=h.bef.block hk;exact hb hc (by decide))
 have hdcd:=h.dcd.step hf (fun k hk he=>by
  obtain⟨cur,hc⟩:=Own.block h.heads he
  exact h.dcd.off hc (by decide) hk)
 refine⟨h1.keep htold (hne htold (by decide)),h1.keep hzb (fun e=>h.zr e),set_in hrb 0 hv2,Own.step hO h1 (fun k hk=> ?_),hrows.step h1 (fun k cs t fr hk ht=>hne hk (by rcases ht with⟨rfl,_⟩|rfl<;>decide)),hdata.step h1 (fun k hk=> ?_),hbef.step h1 (fun k hk=> ?_),hdcd.step h1 (fun k hk e=>hdcd.off hrb (by decide) (e ▸ hk)),(h.fr.trans' hf (fun k hk he=> ?_)).trans' h1 (fun k hk e=> ?_),h.low,h.lows,h.zr,h.dd,h.fd⟩
 ·obtain⟨cur,hc⟩:=Own.block hO hk
  exact hne hc (by decide)
 ·obtain⟨cur,hc⟩:=own_block hdata.own hk
  exact hne hc (by decide)
 ·obtain⟨cur,hc⟩:=hbef.block hk
  exact hne hc (by decide)
 ·have:=Own.new h.heads k he
  omega
 ·have:=h.lows
  omega
theorem Rw.befd{fv2:Value}{bs2:List Nat}(h:Rw w wr Tb Zb Rb l hv sv dv fv packed size c ps hs sy out bs)(hO:Own 3 1 w w' fv2 bs2.length (ints bs2))(hf:Fr (fun k=>fv.ownBlock=some k) wr w')(hn:∀k,fv2.ownBlock=some k→fv.ownBlock=some k∨wr.heap.size≤k):Rw w w' Tb Zb Rb l hv sv dv fv2 packed size c ps hs sy out bs2:=by
 have hb:∀{k:Nat}{cs:Array Value}{t:TypeId}{fr:Nat×Nat},wr.heap[k]? =some (.cells cs t fr)→t≠3→¬fv.ownBlock=some k:=by
  intro k cs t fr hk ht he
  exact h.bef.off hk ht he
 refine⟨hf.keep h.told (hb h.told (by decide)),hf.keep h.zb (hb h.zb (by decide)),hf.keep h.rb (hb h.rb (by decide)),Own.step h.heads hf (fun k hk=> ?_),h.rows.step hf (fun k cs t fr hk ht=>hb hk (by rcases ht with⟨rfl,_⟩|rfl<;>decide)),h.data.step hf (fun k hk=> ?_),hO,h.dcd.step hf (fun k hk he=>h.fd k he hk),h.fr.trans' hf (fun k hk he=> ?_),h.low,h.lows,h.zr,h.dd,fun k hk hF=> ?_⟩
 ·obtain⟨cur,hc⟩:=Own.block h.heads hk
  exact hb hc (by decide)
 ·obtain⟨cur,hc⟩:=own_block h.data.own hk
  exact hb hc (by decide)
 ·have:=h.bef.new k he
  omega
 ·rcases hn k hk with h1|h1
  ·exact h.fd k h1 hF
  ·have:=h.dcd.old k hF
   omega
theorem Rw.datad{dv2:Value}{out2:List UInt8}{w2:World}(h:Rw w wr Tb Zb Rb l hv sv dv fv packed size c ps hs sy out bs)(hO:Mine w w2 dv2 out2)(hf:Fr (fun k=>dv.ownBlock=some k) wr w2)(hn:∀k,dv2.ownBlock=some k→dv.ownBlock=some k∨wr.heap.size≤k):Rw w (w2.setCell ⟨Rb,2,none⟩ dv2) Tb Zb Rb l hv sv dv2 fv packed size c ps hs sy out2 bs:=by
 have hb:∀{k:Nat}{cs:Array Value}{t:TypeId}{fr:Nat×Nat},wr.heap[k]? =some (.cells cs t fr)→t≠5→¬dv.ownBlock=some k:=by
  intro k cs t fr hk ht he
  obtain⟨cur,hc⟩:=own_block h.data.own he
  exact blk_ne hk hc ht rfl
 have h1:Fr (fun k=>k=Rb) w2 (w2.setCell ⟨Rb,2,none⟩ dv2):=Fr.one _ _ _ _
 have hrb:=hf.keep h.rb (hb h.rb (by decide))
 have hne:∀{k:Nat}{cs:Array Value}{t:TypeId}{fr:Nat×Nat},w2.heap[k]? =some (.cells cs t fr)→t≠56→¬k=Rb:=by
  intro k cs t fr hk ht he
  exact blk_ne hk hrb ht he
 have htold:=hf.keep h.told (hb h.told (by decide))
 have hzb:=hf.keep h.zb (hb h.zb (by decide))
 have hrows:=h.rows.step hf (fun k cs t fr hk ht=>hb hk (by rcases ht with⟨rfl,_⟩|rfl<;>decide))
 have hheads:=Own.step h.heads hf (fun k hk=>by obtain⟨cur,hc⟩:=Own.block h.heads hk;exact hb hc (by decide))
 have hbef:=h.bef.step hf (fun k hk=>by obtain⟨cur,hc⟩:=h.bef.block hk;exact hb hc (by decide))
 have hdcd:=h.dcd.step hf (fun k hk he=>h.dd k he hk)
 refine⟨h1.keep htold (hne htold (by decide)),h1.keep hzb (fun e=>h.zr e),set_in hrb 2 dv2,Own.step hheads h1 (fun k hk=> ?_),hrows.step h1 (fun k cs t fr hk ht=>hne hk (by rcases ht with⟨rfl,_⟩|rfl<;>decide)),hO.step h1 (fun k hk=> ?_),hbef.step h1 (fun k hk=> ?_),hdcd.step h1 (fun k hk e=>hdcd.off hrb (by decide) (e ▸ hk)),(h.fr.trans' hf (fun k hk he=> ?_)).trans' h1 (fun k hk e=> ?_),h.low,h.lows,h.zr,fun k hk hF=> ?_,h.fd⟩
 ·obtain⟨cur,hc⟩:=Own.block hheads hk
  exact hne hc (by decide)
 ·obtain⟨cur,hc⟩:=own_block hO.own hk
  exact hne hc (by decide)
 ·obtain⟨cur,hc⟩:=hbef.block hk
  exact hne hc (by decide)
 ·have:=h.data.new k he
  omega
 ·have:=h.lows
  omega
 ·rcases hn k hk with h2|h2
  ·exact h.dd k h2 hF
  ·have:=h.dcd.old k hF
   omega
theorem Rw.rowed{sv2:Value}{sy2:List (List Sy)}{w2:World}(h:Rw w wr Tb Zb Rb l hv sv dv fv packed size c ps hs sy out bs)(hO:RowsY w w2 sv2 sy2)(hf:Fr (fun k=>sv.ownBlock=some k) wr w2):Rw w (w2.setCell ⟨Rb,1,none⟩ sv2) Tb Zb Rb l hv sv2 dv fv packed size c ps hs sy2 out bs:=by
 have hb:∀{k:Nat}{cs:Array Value}{t:TypeId}{fr:Nat×Nat},wr.heap[k]? =some (.cells cs t fr)→t≠53→¬sv.ownBlock=some k:=by
  intro k cs t fr hk ht he
  obtain⟨cur,hc⟩:=h.rows.block he
  exact blk_ne hk hc ht rfl
 have h1:Fr (fun k=>k=Rb) w2 (w2.setCell ⟨Rb,1,none⟩ sv2):=Fr.one _ _ _ _
 have hrb:=hf.keep h.rb (hb h.rb (by decide))
 have hne:∀{k:Nat}{cs:Array Value}{t:TypeId}{fr:Nat×Nat},w2.heap[k]? =some (.cells cs t fr)→t≠56→¬k=Rb:=by
  intro k cs t fr hk ht he
  exact blk_ne hk hrb ht he
 have htold:=hf.keep h.told (hb h.told (by decide))
 have hzb:=hf.keep h.zb (hb h.zb (by decide))
 have hheads:=Own.step h.heads hf (fun k hk=>by obtain⟨cur,hc⟩:=Own.block h.heads hk;exact hb hc (by decide))
 have hdata:=h.data.step hf (fun k hk=>by obtain⟨cur,hc⟩:=own_block h.data.own hk;exact hb hc (by decide))
 have hbef:=h.bef.step hf (fun k hk=>by obtain⟨cur,hc⟩:=h.bef.block hk;exact hb hc (by decide))
 have hdcd:=h.dcd.step hf (fun k hk he=>by
  obtain⟨cur,hc⟩:=h.rows.block he
  exact h.dcd.off hc (by decide) hk)
 refine⟨h1.keep htold (hne htold (by decide)),h1.keep hzb (fun e=>h.zr e),set_in hrb 1 sv2,Own.step hheads h1 (fun k hk=> ?_),hO.step h1 (fun k cs t fr hk ht=>hne hk (by rcases ht with⟨rfl,_⟩|rfl<;>decide)),hdata.step h1 (fun k hk=> ?_),hbef.step h1 (fun k hk=> ?_),hdcd.step h1 (fun k hk e=>hdcd.off hrb (by decide) (e ▸ hk)),(h.fr.trans' hf (fun k hk he=> ?_)).trans' h1 (fun k hk e=> ?_),h.low,h.lows,h.zr,h.dd,h.fd⟩
 ·obtain⟨cur,hc⟩:=Own.block hheads hk
  exact hne hc (by decide)
 ·obtain⟨cur,hc⟩:=own_block hdata.own hk
  exact hne hc (by decide)
 ·obtain⟨cur,hc⟩:=hbef.block hk
  exact hne hc (by decide)
 ·have:=h.rows.new k he
  omega
 ·have:=h.lows
  omega
end
end Rf
namespace Rf
open Mem Rc Prob St Lz Win
theorem new14_calls(dict:Nat)(h1:1≤dict)(h2:dict≤4294967295)(w:World):
 Calls Tryz.prog 51 #[propV 0 0 0,.int .i64 dict] w fun e w'=>∃l:RL,e=.returned (.tuple #[ptr l.K,.int .i64 0])∧Fr (fun _=>False) w w'∧Cod w' l ⟨0,0,0,S.new,dict,[]⟩ (Lz.fresh 0 0)∧∀k,l.CF k→w.heap.size≤k:=by
 have hx:=heap_alloc_new w (.cells #[.int .i64 0,.int .i64 0,.int .i64 0] 50)
 have HAL:=Hd ((Fr.refl (fun _=>False) w).alloc (.cells #[.int .i64 0,.int .i64 0,.int .i64 0] 50))
 obtain⟨c0,c1,c2⟩:=cs3 hx rfl rfl rfl
 have HX:=Hd hx
 have HPB:=fun W=>Hd (show Calls Tryz.prog 80 #[.agg #[.int .i64 0,.int .i64 0,.int .i64 0]] W _ from propsByte_calls 0 0 0 (by decide) (by decide) W)
 have HN10:=fun W=>Hd (new10_calls dict h1 h2 W)
 have hmm:=mk_map
 clear hx
 unfold propV
 go_enter Tryz.func51,Tryz.ntmps51
 go_wp2_with fail
 refine(HPB _).out.mono ?_
 rintro e w2 ⟨rfl,hf2⟩
 have HF2:=Hd (HAL.out.trans hf2)
 have HX2:=Hd (hf2.keep HX.out (fun h=>h))
 clear c0 c1 c2 hf2
 go_wp2_with fail
 refine(HN10 _).out.mono ?_
 rintro e w3 ⟨rfl,hf3,hv3⟩
 have hx3:=hf3.keep HX2.out (fun h=>h)
 have HF3:=Hd (HF2.out.trans hf3)
 have HV3:=Hd hv3
 have hs2:w.heap.size≤w2.heap.size:=HF2.out.size
 generalize w2.heap.size=V at*
 clear hf3 hv3
 go_upto_region 7 with fail
 generalize hzz:w.heap.size=z at*
 have HZZ:=Hd hzz
 clear hzz
 have HKP:=Hd (show∀W,Fr (fun _=>False) w3 W→W.cell? ⟨z,0,none⟩=some (.int .i64 0)∧W.cell? ⟨z,1,none⟩=some (.int .i64 0)∧W.cell? ⟨z,2,none⟩=some (.int .i64 0) from fun W hf=>by
  have h:=hf.keep hx3 (fun h=>h)
  exact⟨cell_in h rfl,cell_in h rfl,cell_in h rfl⟩)
 have HR:=Hd (Fr.refl (fun _=>False) w3).drew
 have HSC:=Hd (HKP.out _ HR.out)
 clear hx3
 go_region_held3 (fun w'=>w'.cell? ⟨z,0,none⟩=some (.int .i64 0)∧w'.cell? ⟨z,1,none⟩=some (.int .i64 0)∧w'.cell? ⟨z,2,none⟩=some (.int .i64 0)) (first|with_reducible exact HSC.out|(refine HKP.out _ ?_;exact HR.out.alloc _)) ((first
  | (go_at_call 82
     with_reducible refine(new12_calls _).mono ?_
     rintro e wc ⟨rfl,hfrc⟩
     have HR:=Hd (HR.out.trans hfrc)
     have HSC:=Hd (HKP.out _ HR.out)
     clear hfrc)
  | (go_at_call 83
     with_reducible refine(new7_calls _).mono ?_
     rintro e wc ⟨eb,rfl,hfrc⟩
     have HR:=Hd (HR.out.trans hfrc)
     have HSC:=Hd (HKP.out _ HR.out)
     clear hfrc)))
 have hf8:=(Fr.refl (fun _=>False) wc).alloc (.cells #[.int .i64 0,.int .i64 0,.int .i64 0,ptr V,.int .i64 0,.int .i64 1,.int .i64 1,.int .i64 1,.int .i64 1,.map none,ptr eb] 136)
 have hk8:=heap_alloc_new wc (.cells #[.int .i64 0,.int .i64 0,.int .i64 0,ptr V,.int .i64 0,.int .i64 1,.int .i64 1,.int .i64 1,.int .i64 1,.map none,ptr eb] 136)
 have HF8:=Hd (HR.out.trans hf8)
 have hVl:=lt_of_block HV3.out
 have hKz:=HR.out.size
 generalize hKK:wc.heap.size=K at*
 generalize hw8:wc.alloc (.cells #[.int .i64 0,.int .i64 0,.int .i64 0,ptr V,.int .i64 0,.int .i64 1,.int .i64 1,.int .i64 1,.int .i64 1,.map none,ptr eb] 136)=W8 at*
 have HK8:=Hd hk8
 have hK8:K<W8.heap.size:=lt_of_block hk8
 have p9:W8.cell? ⟨K,9,none⟩=some (.map none):=cell_in (i:=9) hk8 rfl
 have pf:=frozen_in hk8 9
 have hal:=(Fr.refl (fun _=>False) W8).alloc (.map #[] 0)
 have q9:(W8.alloc (.map #[] 0)).cell? ⟨K,9,none⟩=some (.map none):=cell_in (i:=9) (hal.keep hk8 (fun h=>h)) rfl
 have qf:=frozen_in (hal.keep hk8 (fun h=>h)) 9
 have HKZ:=Hd (And.intro hKz hVl)
 clear hk8 hf8 hw8 hKK hal HSC HKP HN10 HPB hKz
 go_wp2_with fail
 go_ret2
 have h9:(W8.setCell ⟨K,9,none⟩ (.map (some W8.heap.size))).heap[K]? =some (.cells #[.int .i64 0,.int .i64 0,.int .i64 0,ptr V,.int .i64 0,.int .i64 1,.int .i64 1,.int .i64 1,.int .i64 1,.map (some W8.heap.size),ptr eb] 136 (0,0)):=set_in HK8.out 9 _
 have f9:Fr (fun k=>k=K) W8 (W8.setCell ⟨K,9,none⟩ (.map (some W8.heap.size))):=Fr.one W8 K 9 _
 have hkm:=KM.made (W8.setCell ⟨K,9,none⟩ (.map (some W8.heap.size)))
 have hsz:(W8.setCell ⟨K,9,none⟩ (.map (some W8.heap.size))).heap.size=W8.heap.size:=by simp
 rw[hsz] at hkm
 have fal:=(Fr.refl (fun _=>False) (W8.setCell ⟨K,9,none⟩ (.map (some W8.heap.size)))).alloc (.map #[] 0)
 have hs3:=HF3.out.size
 have hs8:=HF8.out.size
 have hkz:=HKZ.out
 have hzz:=HZZ.out
 have hV9:=fal.keep (f9.keep (HF8.out.keep HV3.out (fun h=>h)) (fun(e:V=K)=>by omega)) (fun h=>h)
 refine⟨⟨0,K,0,V,W8.heap.size,ptr eb,.slice none 0 0,.slice none 0 0,[]⟩,rfl,((HF3.out.trans HF8.out).trans' f9 (fun k hk(e:k=K)=>by omega)).trans fal,⟨fal.keep h9 (fun h=>h),hV9,World.ownsRow_nil _ _ _ _,⟨hkm,by simp,by simp⟩,Has.start _ (fun j hj p hp=> ?_),⟨by simp,by simp,S.new_ok⟩,fun j hj=>Lz.fresh_len 0 0 j,fun j hj p hp=> ?_,h1,Nat.zero_le _⟩,fun k hk=> ?_⟩
 ·simp only[Lz.fresh,List.mem_replicate] at hp
  exact hp.2
 ·simp only[Lz.fresh,List.mem_replicate] at hp
  omega
 ·rcases hk with hk|hk|hk|hk|⟨e,he,_⟩
  ·simp only at hk
   omega
  ·simp only at hk
   omega
  ·simp[Value.ownBlock] at hk
  ·simp only at hk
   omega
  ·cases he
theorem new15_calls(dict:Nat)(h1:1≤dict)(h2:dict≤4294967295)(w:World):
 Calls Tryz.prog 30 #[propV 0 0 0,.int .i64 dict] w fun e w'=>∃l:RL,e=.returned (.tuple #[ptr l.X,.int .i64 0])∧Fr (fun _=>False) w w'∧Dcd w' l ⟨0,0,0,S.new,dict,[]⟩ (Lz.fresh 0 0) false∧∀k,l.DF k→w.heap.size≤k:=by
 have hx:=heap_alloc_new w (.cells #[.int .i64 0,.int .i64 0,.int .i64 0] 50)
 have HAL:=Hd ((Fr.refl (fun _=>False) w).alloc (.cells #[.int .i64 0,.int .i64 0,.int .i64 0] 50))
 obtain⟨c0,c1,c2⟩:=cs3 hx rfl rfl rfl
 have HN:=fun W=>Hd (new14_calls dict h1 h2 W)
 clear hx
 unfold propV at*
 go_enter Tryz.func30,Tryz.ntmps30
 go_wp2_with fail
 refine(HN _).out.mono ?_
 rintro e w2 ⟨l,rfl,hf2,hc2,hl2⟩
 have HF2:=Hd (HAL.out.trans hf2)
 have HC2:=Hd hc2
 have HL2:=Hd hl2
 have hal:=HAL.out.size
 clear c0 c1 c2 hf2 hc2 hl2
 go_wp2_with fail
 go_ret2
 have f3:=(Fr.refl (fun _=>False) w2).alloc (.cells #[ptr l.K,.pointer none,.bool false,.bool false] 127)
 have h3:=heap_alloc_new w2 (.cells #[ptr l.K,.pointer none,.bool false,.bool false] 127)
 have hc3:=HC2.out.step f3 (fun _ _ h=>h)
 have hs2:=HF2.out.size
 refine⟨{l with X:=w2.heap.size},rfl,HF2.out.trans f3,⟨⟨_,_,h3⟩,⟨hc3.k,hc3.v,hc3.all,hc3.sets,hc3.has,hc3.okc,hc3.len,hc3.okp,hc3.size,hc3.much⟩⟩,fun k hk=> ?_⟩
 rcases hk with hk|hk
 ·simp only at hk
  omega
 ·have:=HL2.out k hk
  omega
end Rf
end Go.Proofs.YtilegoadokmcdaaGreatDoor
