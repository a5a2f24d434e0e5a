/- Part 44 of 48: lemmas of the last part, each under the conditions that it names. -/
import Derived.Test.YtffoddpjfgjelaaGreatDoorQ29
import Derived.Test.YtffoddpjfgjelaaGreatDoorQ35
import Derived.Test.YtffoddpjfgjelaaGreatDoorQ40
import Derived.Test.YtffoddpjfgjelaaGreatDoorQ43
set_option linter.unusedVariables false
set_option linter.unusedSimpArgs false
set_option maxRecDepth 1500
set_option maxHeartbeats 4000000
namespace Go.Proofs.YtffoddpjfgjelaaGreatDoor
open Go.RowKit
namespace Pk
open Mem Rc St Lz En Win Ck
theorem xlt{w:World}{l:XL}{x:Xe}(h:XE w l x):∀k,XFoot l k→k<w.heap.size:=by
 rintro k (rfl|((rfl|e)|⟨j,hj,rfl⟩)|rfl|e|rfl)
 ·exact lt_of_block h.at'.d
 ·obtain⟨g,a,_⟩:=h.at'.rc
  exact lt_of_block a.box
 ·obtain⟨g,a,_⟩:=h.at'.rc
  exact(World.ownsRow.lt a.own k e).2
 ·obtain⟨_,_,_,hg,_⟩:=h.at'.tab.set j hj
  exact lt_of_block hg
 ·exact lt_of_block h.at'.win.box
 ·exact(World.ownsRow.lt h.at'.win.own k e).2
 ·exact lt_of_block h.at'.tab.box
theorem xaside{w w':World}{l:XL}{x:Xe}{B:Nat}{cs:Array Value}{t:TypeId}{fr:Nat×Nat}(h:XE w l x)(hB:w.heap[B]? =some (.cells cs t fr))(hfr:Fr (fun k=>k=B) w w')(h1:149≠t)(h2:217≠t)(h3:210≠t)(h4:219≠t)(h5:360≠t)(h6:3≠t)(h7:5≠t):XE w' l x:=by
 obtain⟨g,a,hg⟩:=h.at'.rc
 refine⟨⟨hfr.keep h.at'.d (Ps.neOf h.at'.d hB h1),⟨hfr.keep h.at'.tab.box (Ps.neOf h.at'.tab.box hB h2),fun j hj=> ?_,h.at'.tab.inj⟩,h.at'.win.keep hfr (Ps.neOf h.at'.win.box hB h3) (fun k hk=> ?_),⟨g,a.keep hfr (Ps.neOf a.box hB h4) (fun k hk=> ?_),hg⟩,h.at'.ok⟩,h.sep,h.low⟩
 ·obtain⟨_,_,hb,hg,_⟩:=h.at'.tab.set j hj
  exact(h.at'.tab.set j hj).step hfr (Ps.neOf hb hB h5) (Ps.neOf hg hB h6)
 ·obtain⟨cur,hc⟩:=Lz.own_block h.at'.win.own hk
  exact Ps.neOf hc hB h7
 ·obtain⟨cur,hc⟩:=Lz.own_block a.own hk
  exact Ps.neOf hc hB h7
theorem xbeside{w w':World}{l:XL}{x:Xe}{v:Value}{bs:List UInt8}{w0:World}(h:XE w l x)(hm:Mine w0 w v bs)(hoff:∀k,v.ownBlock=some k→¬XFoot l k)(hfr:Fr (fun k=>v.ownBlock=some k) w w'):XE w' l x:=by
 obtain⟨g,a,hg⟩:=h.at'.rc
 have hne:∀{k:Nat}{cs:Array Value}{t:TypeId}{fr:Nat×Nat},w.heap[k]? =some (.cells cs t fr)→t≠5→¬v.ownBlock=some k:=by
  intro k cs t fr hk ht e
  obtain⟨cur,hc⟩:=Lz.own_block hm.own e
  exact Ps.neOf hk hc ht rfl
 refine⟨⟨hfr.keep h.at'.d (hne h.at'.d (by decide)),⟨hfr.keep h.at'.tab.box (hne h.at'.tab.box (by decide)),fun j hj=> ?_,h.at'.tab.inj⟩,h.at'.win.keep hfr (hne h.at'.win.box (by decide)) (fun k hk e=>hoff k e (.inr (.inr (.inr (.inl hk))))),⟨g,a.keep hfr (hne a.box (by decide)) (fun k hk e=>hoff k e (.inr (.inl (.inl (.inr hk))))),hg⟩,h.at'.ok⟩,h.sep,h.low⟩
 obtain⟨_,_,hb,hg,_⟩:=h.at'.tab.set j hj
 exact(h.at'.tab.set j hj).step hfr (hne hb (by decide)) (hne hg (by decide))
structure Cf where
 a:Int
 b:Int
 lc:Nat
 lp:Nat
 pb:Nat
 dict:Nat
 d:Int
 mode:Nat
def Cf.cells(c:Cf):Array Value:=#[.int .i64 c.a,.int .i64 c.b,.int .i64 c.lc,.int .i64 c.lp,.int .i64 c.pb,.int .i64 c.dict,.int .i64 c.d,.int .i64 c.mode]
def Cf.pr(c:Cf):Pr:=(c.lc,c.lp,c.pb)
def pkCells(cf:Cf)(dv:Value)(D:Nat)(s:S)(ov:Value)(b1 b2 b3:Bool):Array Value:=
 #[.int .i64 cf.a,.int .i64 cf.b,.int .i64 cf.lc,.int .i64 cf.lp,.int .i64 cf.pb,.int .i64 cf.dict,.int .i64 cf.d,.int .i64 cf.mode,dv,ptr D,.int .i64 s.num,.int .i64 s.r0,.int .i64 s.r1,.int .i64 s.r2,.int .i64 s.r3,ov,.bool b1,.bool b2,.bool b3]
structure PkAt(w0 w:World)(K:Nat)(cf:Cf)(dv ov:Value)(data:List UInt8)(l:XL)(t:Pst):Prop where
 box:w.heap[K]? =some (.cells (pkCells cf dv l.D t.s ov t.begun t.packed t.props) 87 (0,0))
 rd:Rd w dv data
 xe:XE w l t.x
 out:Mine w0 w ov (t.out cf.dict)
theorem PkAt.keep{w0 w w':World}{K:Nat}{cf:Cf}{dv ov:Value}{data:List UInt8}{l:XL}{t:Pst}(h:PkAt w0 w K cf dv ov data l t)(hf:Fr (fun _=>False) w w'):PkAt w0 w' K cf dv ov data l t:=
 ⟨hf.keep h.box (fun h=>h),h.rd.keep hf,h.xe.keep hf,h.out.keep hf⟩
def resCells(h:Head)(bv:Value)(D:Nat)(s:S):Array Value:=
 #[.int .i64 h.kind,.int .i64 h.size,.int .i64 h.packed,.int .i64 h.lc,.int .i64 h.lp,.int .i64 h.pb,bv,ptr D,.int .i64 s.num,.int .i64 s.r0,.int .i64 s.r1,.int .i64 s.r2,.int .i64 s.r3]
structure ResAt(w:World)(Z:Nat)(h:Head)(bv:Value)(b:List UInt8)(l:XL)(x:Xe)(s:S):Prop where
 box:w.heap[Z]? =some (.cells (resCells h bv l.D s) 155 (0,0))
 rd:Rd w bv b
 xe:XE w l x
theorem ResAt.keep{w w':World}{Z:Nat}{h:Head}{bv:Value}{b:List UInt8}{l:XL}{x:Xe}{s:S}(hr:ResAt w Z h bv b l x s)(hf:Fr (fun _=>False) w w'):ResAt w' Z h bv b l x s:=
 ⟨hf.keep hr.box (fun h=>h),hr.rd.keep hf,hr.xe.keep hf⟩
theorem kind_calls(K:Nat)(cf:Cf)(dv ov:Value)(data:List UInt8)(l:XL)(t:Pst)(w0 w:World)(h:PkAt w0 w K cf dv ov data l t):
 Calls Tryz.prog 70 #[ptr K] w fun e w'=>e=.returned (.int .i64 t.kind)∧w=w':=by
 have hbx:=h.box
 simp only[pkCells] at hbx
 have c16:=cell_in (i:=16) hbx rfl
 have c17:=cell_in (i:=17) hbx rfl
 have c18:=cell_in (i:=18) hbx rfl
 clear h hbx
 unfold Pst.kind
 obtain⟨pts,x,s,b1,b2,b3⟩:=t
 cases b1
 ·go_enter Tryz.func70,Tryz.ntmps70
  go_wp2_with fail
  go_ret
  exact⟨rfl,rfl⟩
 cases b2
 ·cases b3
  ·go_enter Tryz.func70,Tryz.ntmps70
   go_wp2_with fail
   go_ret
   exact⟨rfl,rfl⟩
  ·go_enter Tryz.func70,Tryz.ntmps70
   go_wp2_with fail
   go_ret
   exact⟨rfl,rfl⟩
 ·go_enter Tryz.func70,Tryz.ntmps70
  go_wp2_with fail
  go_ret
  exact⟨rfl,rfl⟩
def RawPost(w:World)(dv:Value)(x:Xe)(s:S)(k:Nat)(b:List UInt8)(e:Ending)(w':World):Prop:=
 Fr (fun _=>False) w w'∧∃(Z:Nat)(bv:Value)(l':XL),e=.returned (ptr Z)∧ResAt w' Z ⟨k,b.length,b.length,0,0,0⟩ bv b l' (x.raw b) s∧w.heap.size≤Z∧(∀j,XFoot l' j→w.heap.size≤j)∧∀j,bv.ownBlock=some j→dv.ownBlock=some j
theorem drop_block{p:Option Addr}{cap a n c n' c':Nat}:∀j,(Value.slice (dropP p cap a) n c).ownBlock=some j→(Value.slice p n' c').ownBlock=some j:=by
 intro j h
 unfold dropP at h
 cases p with
 |none=>
   split at h
   ·simp[Value.ownBlock] at h
   ·simp[Value.ownBlock] at h
 |some q=>
   split at h
   ·simpa only[Value.ownBlock] using h
   ·simp only[Option.map_some,Value.ownBlock,Option.some.injEq] at h ⊢
    obtain⟨q1,q2,q3⟩:=q
    have e:(Addr.add ⟨q1,q2,q3⟩ a).block=q1:=by
     unfold Addr.add
     split<;>rfl
    rw[e] at h
    exact h
set_option maxRecDepth 100000 in
theorem raw_calls(K fm tp:Nat)(cf:Cf)(dv ov:Value)(data:List UInt8)(l:XL)(t:Pst)(w0 w:World)(h:PkAt w0 w K cf dv ov data l t)(hf:fm<tp)(ht:tp≤data.length)(hb:data.length≤1073741824)(hs:t.x.e.k.s≤1099511627000)(hm:t.x.c.all.length≤1073741824):
 Calls Tryz.prog 36 #[ptr K,.int .i64 fm,.int .i64 tp] w (RawPost w dv t.x t.s (if t.begun=false then 1 else 2) ((data.drop fm).take (tp-fm))):=by
 have hrd:=h.rd
 obtain⟨p,cap,rfl,hcap,hcm,_⟩:=hrd
 have hbx:=h.box
 obtain⟨pts,x,s,b1,b2,b3⟩:=t
 obtain⟨sn,s0,s1,s2,s3⟩:=s
 simp only[pkCells] at hbx hs hm ⊢
 have c8:=cell_in (i:=8) hbx rfl
 have c9:=cell_in (i:=9) hbx rfl
 have c10:=cell_in (i:=10) hbx rfl
 have c11:=cell_in (i:=11) hbx rfl
 have c12:=cell_in (i:=12) hbx rfl
 have c13:=cell_in (i:=13) hbx rfl
 have c14:=cell_in (i:=14) hbx rfl
 have c16:=cell_in (i:=16) hbx rfl
 have hmid:=rd_mid h.rd (show fm≤tp by omega) ht
 have hsl:=slice_lh p data.length cap fm tp (by omega) (by omega)
 have HB:=Hd hbx
 have h':=h
 have HM:=Hd hmid
 clear h hbx hmid
 have HF:=Hd (xfork_calls h'.xe hs)
 have hrl:((data.drop fm).take (tp-fm)).length=tp-fm:=by rw[List.length_take,List.length_drop];omega
 have hdl:∀k,(Value.slice (dropP p cap fm) (tp-fm) (cap-fm)).ownBlock=some k→k<w.heap.size:=Ps.rdlt HM.out (by rw[hrl];omega)
 have HDL:=Hd hdl
 have HRL:=Hd hrl
 clear hdl hrl
 cases b1
 all_goals
  go_enter Tryz.func36,Tryz.ntmps36
  go_wp2_with fail
  refine HF.out.mono ?_
  rintro e w1 ⟨l1,rfl,hf1,hx1,hn1⟩
  have HF1:=Hd hf1
  have HN1:=Hd hn1
  have HX:=Hd (xraw_calls hx1 (.slice (dropP p cap fm) (tp-fm) (cap-fm)) ((data.drop fm).take (tp-fm)) (HM.out.keep hf1) (fun _ k hk e=>by
   have:=HDL.out k hk
   have:=hn1 k e
   omega) (by rw[HRL.out];omega))
  clear hf1 hx1 hn1
  go_wp2_with fail
  refine HX.out.mono ?_
  rintro e w2 ⟨rfl,hf2,l2,hn2,hx2⟩
  have hf02:Fr (fun _=>False) w w2:=HF1.out.trans' hf2 (fun k hk e=>by have:=HN1.out k e;omega)
  have hb2:=hf02.keep HB.out (fun h=>h)
  clear c8 c9 c10 c11 c12 c13 c14 c16
  have c10:=cell_in (i:=10) hb2 rfl
  have c11:=cell_in (i:=11) hb2 rfl
  have c12:=cell_in (i:=12) hb2 rfl
  have c13:=cell_in (i:=13) hb2 rfl
  have c14:=cell_in (i:=14) hb2 rfl
  have HF2:=Hd hf02
  have HX2:=Hd hx2
  have HN2:=Hd hn2
  clear hf2 hf02 hb2 hx2 hn2
  go_wp2_with fail
  go_ret
  refine⟨HF2.out.alloc _,w2.heap.size,.slice (dropP p cap fm) (tp-fm) (cap-fm),l2,rfl,⟨?_,HM.out.keep (HF2.out.alloc _),HX2.out.keep ((Fr.refl _ _).alloc _)⟩,HF2.out.size,fun j hj=> ?_,drop_block⟩
  ·rw[HRL.out]
   unfold resCells
   rw[HN2.out.D]
   exact heap_alloc_new w2 _
  ·rcases HN2.out.F j hj with e|e
   ·exact HN1.out j e
   ·exact Nat.le_trans HF1.out.size e
end Pk
namespace En
open Mem Rc Win Lz St
def startP(pr:Pr)(n:Nat):Xe:=⟨⟨pr.1,pr.2.1,pr.2.2,S.new,n,[]⟩,⟨K.new,Lz.fresh pr.1 pr.2.1⟩⟩
theorem enewP_in(lc lp pb n:Nat)(hl:lc+lp≤4)(hp:pb≤4)(w:World)(h1:1≤n)(h2:n≤4294967295):
 Calls Tryz.prog 33 #[.agg #[.int .i64 lc,.int .i64 lp,.int .i64 pb],.int .i64 n] w fun e w'=>Fr (fun _=>False) w w'∧∃l:XL,e=.returned (.tuple #[ptr l.D,.int .i64 0])∧XAt w' l (startP (lc,lp,pb) n)∧XSep l∧∀k,XFoot l k→w.heap.size≤k:=by
 have hx:=heap_alloc_new w (.cells #[.int .i64 lc,.int .i64 lp,.int .i64 pb] 24)
 have hf0:=(R0 w).alloc (.cells #[.int .i64 lc,.int .i64 lp,.int .i64 pb] 24)
 have HT:=fun W=>Hd (Lz.tables_calls lc lp pb W hl)
 unfold Lz.NewPost at HT
 have HPR:=fun W=>Hd (St.props_ok lc lp pb hl hp W)
 have HLP:=Hd hl
 have HPB:=Hd hp
 clear hl hp
 have HX:=Hd hx
 have HF:=Hd hf0
 clear hx hf0
 go_enter Tryz.func33,Tryz.ntmps33
 go_wp2_with fail
 refine(HPR _).out.mono ?_
 rintro e w1 ⟨⟨x,rfl⟩,hfr1⟩
 have hx1:=hfr1.keep HX.out (fun h=>h)
 have HX1:=Hd hx1
 have HF1:=Hd (HF.out.trans hfr1)
 clear hfr1 hx1
 go_wp2_with fail
 refine(Win.new_in n _ (by omega) h2).mono ?_
 rintro e w2 ⟨rfl,hfr2,hW2⟩
 have hx2:=hfr2.keep HX1.out (fun h=>h)
 obtain⟨z0,z1,z2⟩:=cs3 hx2 rfl rfl rfl
 have HF2:=Hd hfr2
 have HW2:=Hd hW2
 clear hfr2 hW2 hx2
 go_wp2_with fail
 refine(HT _).out.mono ?_
 rintro e w3 ⟨T,b,g,rfl,hfr3,hTab,hT0,hn⟩
 have HF3:=Hd hfr3
 have HTab:=Hd hTab
 have HT0:=Hd hT0
 have HN:=Hd hn
 clear hfr3 hTab hT0 hn
 go_wp2_with fail
 refine(En.new_calls w3).mono ?_
 rintro e w4 ⟨rfl,hf4,a4⟩
 have hb:=heap_alloc_new w4 (.cells #[ptr T,ptr w1.heap.size,ptr w3.heap.size] 149)
 have hf5:=(R0 w4).alloc (.cells #[ptr T,ptr w1.heap.size,ptr w3.heap.size] 149)
 have FIN:=Hd (show Fr (fun _=>False) w (w4.alloc (.cells #[ptr T,ptr w1.heap.size,ptr w3.heap.size] 149))∧XAt (w4.alloc (.cells #[ptr T,ptr w1.heap.size,ptr w3.heap.size] 149)) ⟨w4.heap.size,w3.heap.size,T,w1.heap.size,.slice none 0 0,.slice none 0 0,[],0,b,g⟩ (startP (lc,lp,pb) n)∧XSep ⟨w4.heap.size,w3.heap.size,T,w1.heap.size,.slice none 0 0,.slice none 0 0,[],0,b,g⟩∧∀k,XFoot ⟨w4.heap.size,w3.heap.size,T,w1.heap.size,.slice none 0 0,.slice none 0 0,[],0,b,g⟩ k→w.heap.size≤k from by
  have hs1:=HF1.out.size
  have hs2:=HF2.out.size
  have hs3:=HF3.out.size
  have hs4:=hf4.size
  have hfa:=hf4.trans hf5
  have hT0:=HT0.out
  refine⟨((HF1.out.trans HF2.out).trans HF3.out).trans hfa,⟨hb,⟨hfa.keep HTab.out.box (fun h=>h),fun j hj=>(HTab.out.set j hj).keep hfa,HTab.out.inj⟩,(HW2.out.keep HF3.out (fun h=>h) (fun _ _ h=>h)).keep hfa (fun h=>h) (fun _ _ h=>h),⟨G.new,a4.keep hf5 (fun h=>h) (fun _ _ h=>h),is_new⟩,⟨⟨HLP.out,HPB.out,S.new_ok⟩,fresh_ok _ _⟩⟩,⟨fun k _ e=>by simp[Value.ownBlock] at e⟩,fun k hk=> ?_⟩
  rcases hk with e|((e|e)|⟨j,hj,e⟩)|e|e|e
  ·simp only at e
   omega
  ·simp only at e
   omega
  ·simp[Value.ownBlock] at e
  ·have:=HN.out j hj
   simp only at e
   omega
  ·simp only at e
   omega
  ·simp[Value.ownBlock] at e
  ·simp only at e
   omega)
 clear hf4 a4 hb hf5
 go_wp2_with fail
 go_ret2
 exact⟨FIN.out.1,_,rfl,FIN.out.2⟩
end En
namespace Pk
open Mem Rc St Lz En Win Ck
def goodC(lc lp pb dict mode:Int):Bool:= !propsBad lc lp pb&&decide (4096≤dict∧dict≤67108864∧0≤mode∧mode≤2)
theorem goodX_calls(a b lc lp pb dict d mode:Int)(w:World)(b_lc:-9223372036854775808≤lc∧lc≤9223372036854775807)(b_lp:-9223372036854775808≤lp∧lp≤9223372036854775807)(b_pb:-9223372036854775808≤pb∧pb≤9223372036854775807):
 Calls Tryz.prog 32 #[.agg #[.int .i64 a,.int .i64 b,.int .i64 lc,.int .i64 lp,.int .i64 pb,.int .i64 dict,.int .i64 d,.int .i64 mode]] w fun e w'=>e=.returned (.bool (goodC lc lp pb dict mode))∧Fr (fun _=>False) w w':=by
 have HF:=Hd ((R0 w).alloc (.cells #[.int .i64 a,.int .i64 b,.int .i64 lc,.int .i64 lp,.int .i64 pb,.int .i64 dict,.int .i64 d,.int .i64 mode] 26))
 have HX:=Hd (heap_alloc_new w (.cells #[.int .i64 a,.int .i64 b,.int .i64 lc,.int .i64 lp,.int .i64 pb,.int .i64 dict,.int .i64 d,.int .i64 mode] 26))
 have HP:=fun W=>Hd (props_calls lc lp pb W b_lc b_lp b_pb)
 clear b_lc b_lp b_pb
 unfold goodC
 cases hbad:propsBad lc lp pb with
 |true=>
   rw[hbad] at HP
   clear hbad
   go_enter Tryz.func32,Tryz.ntmps32
   go_wp2_with fail
   refine(HP _).out.mono ?_
   rintro e w1 ⟨⟨x,rfl⟩,hfr⟩
   have HF1:=Hd (HF.out.trans hfr)
   clear hfr
   go_wp2_with fail
   go_ret
   exact⟨by simp,HF1.out⟩
 |false=>
   rw[hbad] at HP
   clear hbad
   go_enter Tryz.func32,Tryz.ntmps32
   go_wp2_with fail
   refine(HP _).out.mono ?_
   rintro e w1 ⟨⟨x,rfl⟩,hfr⟩
   have hx1:=hfr.keep HX.out (fun h=>h)
   have c5:=cell_in (i:=5) hx1 rfl
   have c7:=cell_in (i:=7) hx1 rfl
   have HF1:=Hd (HF.out.trans hfr)
   clear hfr hx1
   by_cases h1:dict<4096
   ·have t1:decide (dict≥4096)=false:=decide_eq_false (by omega)
    have t2:decide (4096≤dict)=false:=decide_eq_false (by omega)
    go_wp2_with fail
    go_ret
    exact⟨by rw[decide_eq_false (by omega)];rfl,HF1.out⟩
   have t1:decide (dict≥4096)=true:=decide_eq_true (by omega)
   have t2:decide (4096≤dict)=true:=decide_eq_true (by omega)
   by_cases h2:67108864<dict
   ·have t3:decide (dict≤67108864)=false:=decide_eq_false (by omega)
    go_wp2_with fail
    go_ret
    exact⟨by rw[decide_eq_false (by omega)];rfl,HF1.out⟩
   have t3:decide (dict≤67108864)=true:=decide_eq_true (by omega)
   by_cases h3:mode<0
   ·have t4:decide (mode≥0)=false:=decide_eq_false (by omega)
    have t5:decide (0≤mode)=false:=decide_eq_false (by omega)
    go_wp2_with fail
    go_ret
    exact⟨by rw[decide_eq_false (by omega)];rfl,HF1.out⟩
   have t4:decide (mode≥0)=true:=decide_eq_true (by omega)
   have t5:decide (0≤mode)=true:=decide_eq_true (by omega)
   obtain⟨bb,hbb⟩:∃bb,decide (mode≤2)=bb:=⟨_,rfl⟩
   have HBB:=Hd hbb
   have HR:=Hd (show(!false&&decide (4096≤dict∧dict≤67108864∧0≤mode∧mode≤2))=bb from by
    rw[←hbb]
    simp only[Bool.not_false,Bool.true_and]
    exact decide_eq_decide.2 ⟨fun h=>h.2.2.2,fun h=>⟨by omega,by omega,by omega,h⟩⟩)
   go_wp2_with fail
   go_ret
   exact⟨by rw[HR.out];rfl,HF1.out⟩
end Pk
end Go.Proofs.YtffoddpjfgjelaaGreatDoor
