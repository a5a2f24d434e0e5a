/- Part 45 of 48: lemmas of the last part, each under the conditions that it names. -/
import Derived.Test.YtffoddpjfgjelaaGreatDoorQ35
import Derived.Test.YtffoddpjfgjelaaGreatDoorQ44
set_option linter.unusedVariables false
set_option linter.unusedSimpArgs false
set_option maxRecDepth 1500
set_option maxHeartbeats 4000000
namespace Go.Proofs.YtffoddpjfgjelaaGreatDoor
open Go.RowKit
namespace Pk
open Mem Rc St Lz En Win Ck
theorem xoff{w:World}{l:XL}{x:Xe}(h:XE w l x){k:Nat}{cs:Array Value}{t:TypeId}{fr:Nat×Nat}(hk:w.heap[k]? =some (.cells cs t fr))(h1:t≠149)(h2:t≠217)(h3:t≠210)(h4:t≠219)(h6:t≠3)(h7:t≠5):¬XFoot l k:=by
 rintro(rfl|((rfl|e)|⟨j,hj,rfl⟩)|rfl|e|rfl)
 ·exact Ps.neOf hk h.at'.d h1 rfl
 ·obtain⟨g,a,_⟩:=h.at'.rc
  exact Ps.neOf hk a.box h4 rfl
 ·obtain⟨g,a,_⟩:=h.at'.rc
  obtain⟨cur,hc⟩:=Lz.own_block a.own e
  exact Ps.neOf hk hc h7 rfl
 ·obtain⟨_,_,_,hg,_⟩:=h.at'.tab.set j hj
  exact Ps.neOf hk hg h6 rfl
 ·exact Ps.neOf hk h.at'.win.box h3 rfl
 ·obtain⟨cur,hc⟩:=Lz.own_block h.at'.win.own e
  exact Ps.neOf hk hc h7 rfl
 ·exact Ps.neOf hk h.at'.tab.box h2 rfl
theorem xset5{w:World}{l:XL}{x:Xe}{Y:Nat}{a b c d e:Value}(h:XE w l x)(hY:w.heap[Y]? =some (.cells #[a,b,c,d,e] 84 (0,0)))(p q r s t:Value):XE (((((w.setCell ⟨Y,0,none⟩ p).setCell ⟨Y,1,none⟩ q).setCell ⟨Y,2,none⟩ r).setCell ⟨Y,3,none⟩ s).setCell ⟨Y,4,none⟩ t) l x:=
 xaside h hY (((((Fr.one _ _ _ _).trans (Fr.one _ _ _ _)).trans (Fr.one _ _ _ _)).trans (Fr.one _ _ _ _)).trans (Fr.one _ _ _ _)) (by decide) (by decide) (by decide) (by decide) (by decide) (by decide) (by decide)
theorem parse_one{w w':World}{data:List UInt8}{tp fm:Nat}{s:S}{e:Ending}(h:Ps.ParsePost w data tp fm s e w'):Fr (fun _=>False) w w'∧∃(v:Value)(t:S)(er:Int),e=.returned (.tuple #[v,.agg t.cells,.int .i64 er])∧(er=0→∃ys,Lz.Syms w w' v ys∧Pk.Steps data tp ys fm s tp t):=by
 obtain⟨h1,⟨er,h2,h3⟩|⟨v,l,t,h2,h3,h4,h5⟩⟩:=h
 ·exact⟨h1,_,S.zero,er,h3,fun e=>absurd e h2⟩
 ·exact⟨h1,v,t,0,h2,fun _=>⟨l,h3,h4⟩⟩
theorem next_isL(s:S)(y:Sy)(h0:(s.next y).1=0)(hk:y.kind=2∨y.kind=3):isL y.len:=by
 by_cases hl:isL y.len
 ·exact hl
 ·exfalso
  unfold S.next at h0
  rcases hk with hk|hk
  ·rw[if_neg (by omega),if_neg (by omega),if_pos hk,if_neg hl] at h0
   simp at h0
  ·rw[if_neg (by omega),if_neg (by omega),if_neg (by omega),if_neg hl] at h0
   simp at h0
theorem size_pos{s:S}{y:Sy}(h:(s.next y).1=0)(hy:y.Ok):1≤St.size y:=by
 obtain⟨h1,h2⟩:=size_of h hy
 by_cases hk:y.kind=1
 ·rw[h1 hk]
  exact Nat.le_refl _
 ·rw[h2 hk]
  unfold lenOfSy
  split
  ·exact Nat.le_refl _
  ·have h3:=hy.kind
   have:=next_isL s y h (by omega)
   unfold isL at this
   omega
theorem steps_len{data:List UInt8}{top:Nat}:∀{l:List Sy}{p q:Nat}{s t:S},Pk.Steps data top l p s q t→l.length+p≤q
 |[],p,q,s,t,⟨h1,h2⟩=>by subst h1;simp
 |y::l,p,q,s,t,⟨h1,h2⟩=>by
   have:=steps_len h2
   have:=size_pos h1.next h1.ok
   rw[List.length_cons]
   omega
theorem steps_ok{data:List UInt8}{top:Nat}:∀{l:List Sy}{p q:Nat}{s t:S},Pk.Steps data top l p s q t→∀y ∈ l,y.Ok
 |[],p,q,s,t,_,y,hy=>by simp at hy
 |z::l,p,q,s,t,⟨h1,h2⟩,y,hy=>by
   rcases List.mem_cons.1 hy with rfl|hy
   ·exact h1.ok
   ·exact steps_ok h2 y hy
theorem fine_of{y:Sy}{s:S}(hy:y.Ok)(h0:(s.next y).1=0):(Ps.zOf y).Fine:=by
 refine⟨?_,by rw[Ps.zOf_sy];rfl⟩
 obtain⟨k,b,n,d⟩:=y
 have hk:=hy.kind
 have hd:=hy.dist
 unfold Ps.zOf Sz.bad
 unfold S.next at h0
 simp only at hk hd h0 ⊢
 rcases hk with rfl|rfl|rfl|rfl
 ·rfl
 ·by_cases h1:isL n
  ·by_cases h2:isD d
   ·rw[if_neg (by decide),if_pos (show((2:Nat):Int)=2 from rfl),if_pos]
    unfold isL isD at*
    omega
   ·simp[h1,h2] at h0
  ·simp[h1] at h0
 ·by_cases h1:isL n
  ·rw[if_neg (by decide),if_neg (by decide),if_pos (show((3:Nat):Int)=3 from rfl),if_pos]
   have:=hd rfl
   unfold isL at*
   omega
  ·simp[h1] at h0
 ·rfl
theorem steps_fine{data:List UInt8}{top:Nat}:∀{l:List Sy}{p q:Nat}{s t:S},Pk.Steps data top l p s q t→∀y ∈ l,(Ps.zOf y).Fine
 |[],p,q,s,t,_,y,hy=>by simp at hy
 |z::l,p,q,s,t,⟨h1,h2⟩,y,hy=>by
   rcases List.mem_cons.1 hy with rfl|hy
   ·exact fine_of h1.ok h1.next
   ·exact steps_fine h2 y hy
theorem syms5{w0 w:World}{v:Value}{l:List Sy}{Y:Nat}{a b c d e:Value}(h:Lz.Syms w0 w v l)(hY:w.heap[Y]? =some (.cells #[a,b,c,d,e] 84 (0,0)))(p q r s t:Value):Lz.Syms w0 (((((w.setCell ⟨Y,0,none⟩ p).setCell ⟨Y,1,none⟩ q).setCell ⟨Y,2,none⟩ r).setCell ⟨Y,3,none⟩ s).setCell ⟨Y,4,none⟩ t) v l:=
 h.step (S:=fun k=>k=Y) (((((Fr.one _ _ _ _).trans (Fr.one _ _ _ _)).trans (Fr.one _ _ _ _)).trans (Fr.one _ _ _ _)).trans (Fr.one _ _ _ _)) (fun j hj e=>by
  subst e
  obtain⟨cur,hc⟩:=Lz.own_block h.own hj
  exact Ps.neOf hY hc (by decide) rfl)
def TriedPost(w:World)(t:Pst)(cf:Cf)(data:List UInt8)(fm tp:Nat)(e:Ending)(w':World):Prop:=
 Fr (fun _=>False) w w'∧(e=.returned (.pointer none)∨(cf.mode≠0∧∃(Z:Nat)(bv:Value)(l':XL)(ys:List Sy),e=.returned (ptr Z)∧
  ResAt w' Z (t.headP cf.pr (tp-fm) ((t.from' cf.pr).putAll ys).e.k.bytes.length) bv ((t.from' cf.pr).putAll ys).e.k.bytes l' ((t.from' cf.pr).putAll ys).cut ((t.from' cf.pr).putAll ys).c.s∧w.heap.size≤Z∧(∀j,XFoot l' j→w.heap.size≤j)∧
  Mine w w' bv ((t.from' cf.pr).putAll ys).e.k.bytes∧Legal ys (t.from' cf.pr)∧(∃s',Steps data tp ys fm (t.from' cf.pr).c.s tp s')∧((t.from' cf.pr).putAll ys).e.k.bytes.length≤65536))
set_option maxRecDepth 100000 in
theorem tried_calls(KB fm tp:Nat)(cf:Cf)(dv ov:Value)(data:List UInt8)(l:XL)(t:Pst)(w0 w:World)(h:PkAt w0 w KB cf dv ov data l t)(hT:Tabs w)(hf':fm<tp)(ht:tp≤data.length)(h64:tp-fm≤65536)(hb:data.length≤1073741824)(hk0:t.x.e.k=K.new)(hm:t.x.c.all=data.take fm)(hok:t.x.Ok)(hsok:t.s.Ok)(hsame:t.kind=3→t.s=t.x.c.s)(hd1:1≤cf.dict)(hd2:cf.dict≤4294967295)(hpl:cf.lc+cf.lp≤4)(hpb:cf.pb≤4):
 Calls Tryz.prog 37 #[ptr KB,.int .i64 fm,.int .i64 tp] w (TriedPost w t cf data fm tp):=by
 have hrd:=h.rd
 obtain⟨p,cap,rfl,hcap,hcm,_⟩:=hrd
 have hbx:=h.box
 have hks:t.x.e.k.s≤1099511627000:=by rw[hk0];decide
 have HF:=Hd (xfork_calls h.xe hks)
 have HKC:=Hd (kind_calls KB cf (.slice p data.length cap) ov data l t w0)
 have HH:=Hd h
 have HRD:=Hd h.rd
 have HT:=Hd hT
 simp only[pkCells] at hbx
 have HB:=Hd hbx
 have c0:=cell_in (i:=7) hbx rfl
 clear h hbx hT
 by_cases hm0:cf.mode=0
 ·have e0:(cf.mode:Int)=0:=by omega
  go_enter Tryz.func37,Tryz.ntmps37
  go_wp2_with fail
  go_ret
  exact⟨Fr.refl _ _,.inl rfl⟩
 ·obtain⟨pts,x,⟨sn,s0,s1,s2,s3⟩,b1,b2,b3⟩:=t
  simp only at hks hk0 hm hok hsok hsame HF HB HKC HH c0
  have hmm:¬(cf.mode:Int)=0:=by omega
  go_enter Tryz.func37,Tryz.ntmps37
  go_wp2_with fail
  obtain⟨kd,hkd⟩:∃kd,(Pst.kind ⟨pts,x,⟨sn,s0,s1,s2,s3⟩,b1,b2,b3⟩)=kd:=⟨_,rfl⟩
  rw[hkd] at HKC
  have HFC:=Hd (show∀w':World,Fr (fun _=>False) w w'→Calls Tryz.prog 68 #[ptr l.D] w' (XForked w' x) from fun w' hf=>xfork_calls (HH.out.xe.keep hf) hks)
  have HR:=Hd ((R0 w).drew)
  have HRA:=Hd (((R0 w).alloc (.cells #[.int .i64 0,.int .i64 0,.int .i64 0,.int .i64 0,.int .i64 0] 84)).drew)
  have hz0:((w.alloc (.cells #[.int .i64 0,.int .i64 0,.int .i64 0,.int .i64 0,.int .i64 0] 84)).drew).heap[w.heap.size]? =some (.cells #[.int .i64 0,.int .i64 0,.int .i64 0,.int .i64 0,.int .i64 0] 84 (0,0)):=heap_alloc_new w _
  have HZ0:=Hd hz0
  have HS:=Hd (show∀w':World,Fr (fun _=>False) w w'→(w'.cell? ⟨KB,9,none⟩=some (ptr l.D)∧w'.cell? ⟨KB,10,none⟩=some (.int .i64 sn)∧w'.cell? ⟨KB,11,none⟩=some (.int .i64 s0)∧w'.cell? ⟨KB,12,none⟩=some (.int .i64 s1)∧w'.cell? ⟨KB,13,none⟩=some (.int .i64 s2)∧w'.cell? ⟨KB,14,none⟩=some (.int .i64 s3)) from fun w' hf=>
   ⟨cell_in (i:=9) (hf.keep HB.out (fun h=>h)) rfl,cell_in (i:=10) (hf.keep HB.out (fun h=>h)) rfl,cell_in (i:=11) (hf.keep HB.out (fun h=>h)) rfl,cell_in (i:=12) (hf.keep HB.out (fun h=>h)) rfl,cell_in (i:=13) (hf.keep HB.out (fun h=>h)) rfl,cell_in (i:=14) (hf.keep HB.out (fun h=>h)) rfl⟩)
  have HSC:=Hd (HS.out _ HR.out)
  obtain⟨e0,e1,e2,e3,e4,e5⟩:=HS.out w (Fr.refl _ _)
  have HSM:=Hd hsame
  have HOK:=Hd hok
  have HSO:=Hd hsok
  have HKD:=Hd hkd
  have HMA:=Hd hm
  have HK0:=Hd hk0
  clear hz0 HF hsame hok hsok hkd hm hk0
  go_cut [7,8,9] (fun s7 s8 s9 wx=>∃(l1:XL)(zs:Nat),s7=.int .i64 kd∧s8=ptr l1.D∧s9=.pointer (some ⟨zs,0,none⟩)∧wx.heap[zs]? =some (.cells #[.int .i64 sn,.int .i64 s0,.int .i64 s1,.int .i64 s2,.int .i64 s3] 84 (0,0))∧Fr (fun _=>False) w wx∧XE wx l1 x∧(∀j,XFoot l1 j→w.heap.size≤j)∧w.heap.size≤zs)
  case first=>
   go_region_held3 (fun w'=>w'.cell? ⟨KB,9,none⟩=some (ptr l.D)∧w'.cell? ⟨KB,10,none⟩=some (.int .i64 sn)∧w'.cell? ⟨KB,11,none⟩=some (.int .i64 s0)∧w'.cell? ⟨KB,12,none⟩=some (.int .i64 s1)∧w'.cell? ⟨KB,13,none⟩=some (.int .i64 s2)∧w'.cell? ⟨KB,14,none⟩=some (.int .i64 s3))
    (first|with_reducible exact HSC.out|with_reducible exact HS.out _ HR.out|with_reducible exact HS.out _ HRA.out|with_reducible exact HS.out _ (HR.out.alloc _)|(refine HS.out _ ?_;(repeat refine Fr.setCell ?_ (.inr (by first|exact Nat.le_refl _|exact HR.out.size)) _);first|exact HR.out|exact HR.out.alloc _)) ((first
    | (go_at_call 70
       first
        | (with_reducible refine (HKC.out _ (HH.out.keep HR.out)).mono ?_
           rintro e wc ⟨rfl,rfl⟩)
        | (with_reducible refine (HKC.out _ (HH.out.keep HRA.out)).mono ?_
           rintro e wc ⟨rfl,rfl⟩))
    | (go_at_call 68
       first
        | (with_reducible refine (HFC.out _ HR.out).mono ?_
           rintro e wc ⟨l1,rfl,hfrc,hx1,hn1⟩
           have HN1:=Hd (show∀j,XFoot l1 j→w.heap.size≤j from fun j hj=>Nat.le_trans HR.out.size (hn1 j hj))
           have HX1:=Hd hx1
           have HR:=Hd (HR.out.trans hfrc)
           have HSC:=Hd (HS.out _ HR.out)
           clear hfrc hx1 hn1)
        | (with_reducible refine (HFC.out _ HRA.out).mono ?_
           rintro e wc ⟨l1,rfl,hfrc,hx1,hn1⟩
           have HN1:=Hd (show∀j,XFoot l1 j→w.heap.size≤j from fun j hj=>Nat.le_trans HRA.out.size (hn1 j hj))
           have HX1:=Hd hx1
           have hz:=hfrc.keep HZ0.out (fun h=>h)
           have HNZ:=Hd (show∀j,XFoot l1 j→w.heap.size<j from fun j hj=>Nat.lt_of_lt_of_le (by rw[World.size_drew,World.size_alloc];exact Nat.lt_succ_self _) (hn1 j hj))
           have HR:=Hd (HRA.out.trans hfrc)
           have HSC:=Hd (HS.out _ HR.out)
           obtain⟨z0,z1,z2,z3,z4,zf⟩:=cf5 hz rfl rfl rfl rfl rfl
           have HZ:=Hd hz
           clear hfrc hx1 hn1 hz))))
   all_goals go_wp2_with fail
   all_goals go_meet
   all_goals first
    |with_reducible exact⟨l1,_,rfl,rfl,rfl,heap_alloc_new wc _,HR.out.alloc _,HX1.out.keep ((Fr.refl _ _).alloc _),HN1.out,HR.out.size⟩
    |with_reducible exact⟨l1,_,rfl,rfl,rfl,Ps.s5 HZ.out _ _ _ _ _,Ps.fr5z HR.out (Nat.le_refl _) _ _ _ _ _,xset5 HX1.out HZ.out _ _ _ _ _,HN1.out,Nat.le_refl _⟩
  case rest=>
   obtain⟨l1,zs,rfl,rfl,rfl,hzx,hfx,hx1,hn1,hzs⟩:=hcut
   have HZX:=Hd hzx
   have HFX:=Hd hfx
   have HX1:=Hd hx1
   have HN1:=Hd hn1
   obtain⟨x1,hx1e⟩:∃x1,Pst.from' ⟨pts,x,⟨sn,s0,s1,s2,s3⟩,b1,b2,b3⟩ cf.pr=x1:=⟨_,rfl⟩
   have HXE:=Hd hx1e
   clear hzx hfx hx1 hn1 hx1e e0 e1 e2 e3 e4 e5 c0
   go_upto_if 35 with fail
   go_cut [8](fun s8 wx=>∃l2:XL,s8=ptr l2.D∧wx.heap[zs]? =some (.cells x1.c.s.cells 84 (0,0))∧Fr (fun _=>False) w wx∧XE wx l2 x1∧(∀j,XFoot l2 j→w.heap.size≤j))
   case first=>
    by_cases h3:kd=3
    ·have h3':((kd:Int) !=3)=false:=by simp[h3]
     go_wp2_with fail
     go_meet
     have hx1:x1=x:=by
      have h:=HXE.out
      unfold Pst.from' at h
      rw[HKD.out,if_pos h3] at h
      exact h.symm
     have hs3:=HSM.out (HKD.out.trans h3)
     refine⟨l1,rfl,?_,HFX.out,hx1 ▸ HX1.out,HN1.out⟩
     rw[hx1,←hs3]
     exact HZX.out
    ·have h3':((kd:Int) !=3)=true:=by simp;omega
     have hbx:=HFX.out.keep HB.out (fun h=>h)
     have b2:=cell_in (i:=2) hbx rfl
     have b3:=cell_in (i:=3) hbx rfl
     have b4:=cell_in (i:=4) hbx rfl
     clear hbx
     go_wp2_with fail
     refine(xreset_calls HX1.out cf.lc cf.lp cf.pb hpl hpb).mono ?_
     rintro e w6 ⟨rfl,hf6,l2,hn2,hx2⟩
     have hx1:(⟨x.c.fresh cf.lc cf.lp cf.pb,⟨x.e.k,Lz.fresh cf.lc cf.lp⟩⟩:Xe)=x1:=by
      have h:=HXE.out
      unfold Pst.from' at h
      rw[HKD.out,if_neg h3] at h
      rw[←h]
      simp only
      rw[HK0.out]
      rfl
     rw[hx1] at hx2
     have hs1:x1.c.s=S.new:=by rw[←hx1];rfl
     have hz6:=hf6.keep HZX.out (xoff HX1.out HZX.out (by decide) (by decide) (by decide) (by decide) (by decide) (by decide))
     have HFX6:=Hd (HFX.out.trans' hf6 (fun j hj e=>by have:=HN1.out j e;omega))
     have HX6:=Hd hx2
     have HZ6:=Hd hz6
     have HD2:=Hd hn2.D
     have HN6:=Hd (show∀j,XFoot l2 j→w.heap.size≤j from fun j hj=>by
      rcases hn2.F j hj with e|e
      ·exact HN1.out j e
      ·exact Nat.le_trans HFX.out.size e)
     clear hf6 hn2 hx2 hz6 b2 b3 b4
     go_wp2_with fail
     refine(St.new_calls w6).mono ?_
     rintro e w7 ⟨rfl,hf7⟩
     have hz7:=hf7.keep HZ6.out (fun h=>h)
     obtain⟨z0,z1,z2,z3,z4,zf⟩:=cf5 hz7 rfl rfl rfl rfl rfl
     have HZ7:=Hd hz7
     have HF7:=Hd hf7
     clear hz7 hf7
     simp only[S.new,S.cells]
     go_wp2_with fail
     go_meet
     refine⟨l2,by rw[HD2.out],?_,Ps.fr5z (HFX6.out.trans HF7.out) hzs _ _ _ _ _,xset5 (HX6.out.keep HF7.out) HZ7.out _ _ _ _ _,HN6.out⟩
     rw[hs1]
     exact Ps.s5 HZ7.out _ _ _ _ _
   case rest=>
    obtain⟨l2,rfl,hz8,hf8,hx8,hn8⟩:=hcut
    have HZ8:=Hd hz8
    have HF8:=Hd hf8
    have HX8:=Hd hx8
    have HN8:=Hd hn8
    have hbx:=hf8.keep HB.out (fun h=>h)
    have b7:=cell_in (i:=7) hbx rfl
    have b8:=cell_in (i:=8) hbx rfl
    have b5:=cell_in (i:=5) hbx rfl
    clear hz8 hf8 hx8 hn8 hbx HZX HFX HX1 HN1 HRA HZ0 HR HSC HS HFC HKC
    go_upto_if 49 with fail
    go_cut [10](fun s10 wx=>∃f:Nat,s10=.func (.func f) #[] #[]∧(f=72∨f=73)∧wx=wc)
    case first=>
     by_cases h2:(cf.mode:Int)=2
     ·go_wp2_with fail
      go_meet
      exact⟨_,rfl,.inr rfl,rfl⟩
     ·go_wp2_with fail
      go_meet
      exact⟨_,rfl,.inl rfl,rfl⟩
    case rest=>
     obtain⟨f,rfl,hff,rfl⟩:=hcut
     have hx1ok:=HX8.out.at'.ok
     have hso:=hx1ok.c.s
     have hz8:=HZ8.out
     obtain⟨q,hq⟩:∃q,x1.c.s=q:=⟨_,rfl⟩
     rw[hq] at hso hz8
     obtain⟨qn,q0,q1,q2,q3⟩:=q
     simp only[S.cells] at hz8
     have HQ:=Hd hq
     have HFI:=Hd (show∀w':World,Fr (fun _=>False) wc w'→Calls Tryz.prog f #[.slice p data.length cap,.int .i64 fm,.int .i64 tp,.int .i64 cf.dict,.agg #[.int .i64 qn,.int .i64 q0,.int .i64 q1,.int .i64 q2,.int .i64 q3]] w' (Ps.ParsePost w' data tp fm ⟨qn,q0,q1,q2,q3⟩) from fun w' hf=>by
      rcases hff with rfl|rfl
      ·exact Ps.greedy_calls _ data fm tp cf.dict ⟨qn,q0,q1,q2,q3⟩ w' (HRD.out.keep (HF8.out.trans hf)) (HT.out.keep (HF8.out.trans hf)) hso hf' ht hb hd1 hd2
      ·exact Ps.cheap_calls _ data fm tp cf.dict ⟨qn,q0,q1,q2,q3⟩ w' (HRD.out.keep (HF8.out.trans hf)) (HT.out.keep (HF8.out.trans hf)) hso hf' ht hb hd1 hd2)
     have HZQ:=Hd hz8
     have HS:=Hd (show∀w':World,Fr (fun _=>False) w w'→(w'.cell? ⟨KB,8,none⟩=some (.slice p data.length cap)∧w'.cell? ⟨KB,5,none⟩=some (.int .i64 cf.dict)) from fun w' hf=>
      ⟨cell_in (i:=8) (hf.keep HB.out (fun h=>h)) rfl,cell_in (i:=5) (hf.keep HB.out (fun h=>h)) rfl⟩)
     have HR:=Hd ((R0 wc).drew)
     have HSC:=Hd (HS.out _ (HF8.out.trans HR.out))
     obtain⟨e0,e1⟩:=HS.out wc HF8.out
     obtain⟨g0,g1,g2,g3,g4⟩:=cs5 HZQ.out rfl rfl rfl rfl rfl
     have hzd:=HR.out.keep HZQ.out (fun h=>h)
     obtain⟨j0,j1,j2,j3,j4⟩:=cs5 hzd rfl rfl rfl rfl rfl
     clear hzd
     clear hz8 hq b5 b7 b8 hx1ok hso
     go_upto_region 10 with fail
     go_cut [11,12] (fun s11 s12 wx=>∃(t':S)(er:Int),s12=.int .i64 er∧wx.heap[zs]? =some (.cells t'.cells 84 (0,0))∧Fr (fun _=>False) w wx∧XE wx l2 x1∧(er=0→∃ys,Lz.Syms w wx s11 ys∧Pk.Steps data tp ys fm x1.c.s tp t'))
     case first=>
      rcases hff with rfl|rfl
      ·skip
       obtain⟨r0,r1⟩:=HSC.out
       go_region_law (first
        |(
         go_simp
         go_at_call 72
         refine(HFI.out _ HR.out).mono ?_
         intro e wd hpp
         obtain⟨hfrc,v,⟨un,u0,u1,u2,u3⟩,er,rfl,hys⟩:=parse_one hpp
         have hs0:=HR.out.size
         have HYS:=Hd (fun he=>(show∃ys,Lz.Syms w wd v ys∧Pk.Steps data tp ys fm ⟨qn,q0,q1,q2,q3⟩ tp ⟨un,u0,u1,u2,u3⟩ by
          obtain⟨ys,k1,k2⟩:=hys he
          exact⟨ys,⟨k1.own,fun j hj=>by have:=k1.new j hj;have:=HF8.out.size;omega⟩,k2⟩))
         have HR:=Hd (HR.out.trans hfrc)
         have HSC:=Hd (HS.out _ (HF8.out.trans HR.out))
         have hz:=HR.out.keep HZQ.out (fun h=>h)
         obtain⟨h0,h1,h2,h3,h4,zf⟩:=cf5 hz rfl rfl rfl rfl rfl
         have HZ:=Hd hz
         simp only[S.cells]
         clear hz hfrc hys hpp))
       all_goals go_wp2_with fail
       all_goals go_meet
       all_goals
        refine⟨⟨un,u0,u1,u2,u3⟩,er,rfl,Ps.s5 HZ.out _ _ _ _ _,Ps.fr5z (HF8.out.trans HR.out) hzs _ _ _ _ _,xset5 (HX8.out.keep HR.out) HZ.out _ _ _ _ _,fun he=> ?_⟩
        obtain⟨ys,k1,k2⟩:=HYS.out he
        exact⟨ys,syms5 k1 HZ.out _ _ _ _ _,by rw[HQ.out];exact k2⟩
      ·skip
       obtain⟨r0,r1⟩:=HSC.out
       go_region_law (first
        |(
         go_simp
         go_at_call 73
         refine(HFI.out _ HR.out).mono ?_
         intro e wd hpp
         obtain⟨hfrc,v,⟨un,u0,u1,u2,u3⟩,er,rfl,hys⟩:=parse_one hpp
         have hs0:=HR.out.size
         have HYS:=Hd (fun he=>(show∃ys,Lz.Syms w wd v ys∧Pk.Steps data tp ys fm ⟨qn,q0,q1,q2,q3⟩ tp ⟨un,u0,u1,u2,u3⟩ by
          obtain⟨ys,k1,k2⟩:=hys he
          exact⟨ys,⟨k1.own,fun j hj=>by have:=k1.new j hj;have:=HF8.out.size;omega⟩,k2⟩))
         have HR:=Hd (HR.out.trans hfrc)
         have HSC:=Hd (HS.out _ (HF8.out.trans HR.out))
         have hz:=HR.out.keep HZQ.out (fun h=>h)
         obtain⟨h0,h1,h2,h3,h4,zf⟩:=cf5 hz rfl rfl rfl rfl rfl
         have HZ:=Hd hz
         simp only[S.cells]
         clear hz hfrc hys hpp))
       all_goals go_wp2_with fail
       all_goals go_meet
       all_goals
        refine⟨⟨un,u0,u1,u2,u3⟩,er,rfl,Ps.s5 HZ.out _ _ _ _ _,Ps.fr5z (HF8.out.trans HR.out) hzs _ _ _ _ _,xset5 (HX8.out.keep HR.out) HZ.out _ _ _ _ _,fun he=> ?_⟩
        obtain⟨ys,k1,k2⟩:=HYS.out he
        exact⟨ys,syms5 k1 HZ.out _ _ _ _ _,by rw[HQ.out];exact k2⟩
     case rest=>
      obtain⟨t',er,rfl,hz9,hf9,hx9,hys⟩:=hcut
      have HZ9:=Hd hz9
      have HF9:=Hd hf9
      have HX9:=Hd hx9
      clear hz9 hf9 hx9 HZ8 HF8 HX8 HZQ HR HSC HS HFI e0 e1 g0 g1 g2 g3 g4 j0 j1 j2 j3 j4 hff
      by_cases he:er=0
      ·subst he
       obtain⟨ys,hsy,hst⟩:=hys rfl
       have hyl:=steps_len hst
       obtain⟨pm,cm,rfl⟩:=own_slice hsy.own
       have HSY:=Hd hsy
       have HST:=Hd hst
       clear hsy hst hys
       have hyl2:ys.length≤65536:=by omega
       obtain⟨hxk,hxa⟩:x1.e.k=K.new∧x1.c.all=data.take fm:=by
        have h:=HXE.out
        unfold Pst.from' at h
        split at h
        ·rw[←h]
         exact⟨HK0.out,HMA.out⟩
        ·rw[←h]
         exact⟨rfl,HMA.out⟩
       have hal:x1.c.all.length=fm:=by rw[hxa,List.length_take];omega
       have HXK:=Hd hxk
       have HXA:=Hd hxa
       have HYO:=Hd (steps_ok HST.out)
       have HYF:=Hd (steps_fine HST.out)
       obtain⟨n,hn⟩:∃n,ys.length=n:=⟨_,rfl⟩
       rw[hn] at hyl2 ⊢
       have hsy0:=HSY.out
       rw[hn] at hsy0
       have HSY0:=Hd hsy0
       have HLN:=Hd hn
       clear hn hxk hxa hsy0 hyl HSY
       go_wp2_with fail
       go_loopw [72] (fun s72 wr=>∃(a b:List Sy)(x':Xe)(m:Nat)(l':XL),s72=.int .i64 a.length∧a++b=ys∧Fr (fun _=>False) w wr∧XE wr l' x'∧l'.D=l2.D∧(∀j,XFoot l' j→w.heap.size≤j)∧putsZ (ys.map Ps.zOf) x1 0=putsZ (b.map Ps.zOf) x' m∧x'.e.k.s≤52*a.length∧x'.c.all.length≤fm+273*a.length∧Lz.Syms w wr (.slice pm n cm) (a++b)∧wr.heap[zs]? =some (.cells t'.cells 84 (0,0))) (fun s72 _=>n-(intOf s72).toNat)
       case atStart=>exact⟨[],ys,x1,0,l2,rfl,rfl,HF9.out,HX9.out,rfl,HN8.out,rfl,by rw[HXK.out];exact Nat.le_refl _,by omega,HSY0.out,HZ9.out⟩
       case round=>
        obtain⟨a,b,x',m,l',rfl,hab,hfr,hE,hD,hft,hpz,hks',hal',hsy,hz⟩:=hrel
        have hbl:a.length+b.length=n:=by rw[←HLN.out,←hab,List.length_append]
        have HFR:=Hd hfr
        have HE:=Hd hE
        have HFT:=Hd hft
        have HPZ:=Hd hpz
        have HSY:=Hd hsy
        have HZ:=Hd hz
        have HD:=Hd hD
        have HAB:=Hd hab
        clear hfr hE hft hpz hsy hz hD hab
        rcases b with _|⟨y,b⟩
        ·rw[List.length_nil,Nat.add_zero] at hbl
         rw[hbl] at hks' ⊢
         have hpz:=HPZ.out
         rw[List.map_nil,putsZ] at hpz
         obtain⟨g1,g2,g3⟩:=puts_legal _ x1 0 x' m HX9.out.at'.ok (fun z hz=>by
          obtain⟨y,hy,rfl⟩:=List.mem_map.1 hz
          exact(HYO.out y hy).byte) hpz
         have hmm2:(ys.map Ps.zOf).map Sz.sy=ys:=by
          rw[List.map_map]
          conv=>rhs;rw[←List.map_id ys]
          exact List.map_congr_left (fun y _=>Ps.zOf_sy y)
         rw[hmm2] at g1 g2
         have HCUT:=Hd (xcut_calls HE.out (by omega))
         rw[HD.out] at HCUT
         have HLEG:=Hd g1
         have HPUT:=Hd g2
         clear hpz g1 g2 g3 hmm2 HPZ
         go_wp2_with fail
         refine HCUT.out.mono ?_
         rintro e w5 ⟨v5,rfl,hm5,hf5,l5,hn5,hx5⟩
         obtain⟨p5,c5,rfl⟩:=hm5.slice
         obtain⟨nb,hnb⟩:∃nb,x'.e.k.bytes.length=nb:=⟨_,rfl⟩
         rw[hnb] at hm5 ⊢
         have hzx:=xoff HE.out HZ.out (by decide) (by decide) (by decide) (by decide) (by decide) (by decide)
         have HZ5:=Hd (hf5.keep HZ.out hzx)
         have HF5:=Hd (HFR.out.trans' hf5 (fun j hj e=>by have:=HFT.out j e;omega))
         have HM5:=Hd (show Mine w w5 (.slice p5 nb c5) x'.e.k.bytes from⟨hm5.own,fun j hj=>Nat.le_trans HFR.out.size (hm5.new j hj)⟩)
         have HX5:=Hd hx5
         have HD5:=Hd (hn5.D.trans HD.out)
         have HFT5:=Hd (show∀j,XFoot l5 j→w.heap.size≤j from fun j hj=>by
          rcases hn5.F j hj with e|e
          ·exact HFT.out j e
          ·exact Nat.le_trans HFR.out.size e)
         have HNB:=Hd hnb
         clear hm5 hf5 hn5 hx5 hzx hnb
         by_cases hbig:(65536:Int)<(nb:Int)
         ·go_wp2_with fail
          go_ret
          exact⟨HF5.out,.inl rfl⟩
         ·have hbn:nb≤65536:=by omega
          have hz5:=HZ5.out
          obtain⟨un,u0,u1,u2,u3⟩:=t'
          simp only[S.cells] at hz5
          have hw:IntKind.i64.wrap ((tp:Int)-(fm:Int))=((tp-fm:Nat):Int):=by
           rw[IntWalk.i64_in _ (by omega)]
           omega
          have hw2:(tp:Int)-(fm:Int)=((tp-fm:Nat):Int):=by omega
          have hfh:=(R0 w5).alloc (.cells #[.int .i64 kd,.int .i64 (tp-fm:Nat),.int .i64 nb,.int .i64 0,.int .i64 0,.int .i64 0] 47)
          have hhd:=heap_alloc_new w5 (.cells #[.int .i64 kd,.int .i64 (tp-fm:Nat),.int .i64 nb,.int .i64 0,.int .i64 0,.int .i64 0] 47)
          have hz6:=hfh.keep hz5 (fun h=>h)
          have hb6:=(HF5.out.trans hfh).keep HB.out (fun h=>h)
          obtain⟨j0,j1,j2,j3,j4⟩:=cs5 hz6 rfl rfl rfl rfl rfl
          have bb2:=cell_in (i:=2) hb6 rfl
          have bb3:=cell_in (i:=3) hb6 rfl
          have bb4:=cell_in (i:=4) hb6 rfl
          obtain⟨k0,k1,k2,k3,k4,k5,kf⟩:=cf6 hhd rfl rfl rfl rfl rfl rfl
          have hzl:=lt_of_block hz5
          have HFH:=Hd hfh
          have HHD:=Hd hhd
          clear hfh hhd hz6 hb6
          have hmk:=steps_made (x:=x1) ht (by omega) HXA.out HST.out HLEG.out
          have hs':(x1.putAll ys).c.s=⟨un,u0,u1,u2,u3⟩:=hmk.2.2.1
          have FIN:=Hd (show∀(hd:Head)(hc:Array Value),hd=(Pst.headP ⟨pts,x,⟨sn,s0,s1,s2,s3⟩,b1,b2,b3⟩ cf.pr (tp-fm) nb)→TriedPost w ⟨pts,x,⟨sn,s0,s1,s2,s3⟩,b1,b2,b3⟩ cf data fm tp (.returned (.pointer (some ⟨w5.heap.size+1,0,none⟩))) ((w5.alloc (.cells hc 47)).alloc (.cells (resCells hd (.slice p5 nb c5) l2.D ⟨un,u0,u1,u2,u3⟩) 155)) from fun hd hc hhd=>by
           have hfz:=((R0 w5).alloc (.cells hc 47)).alloc (.cells (resCells hd (.slice p5 nb c5) l2.D ⟨un,u0,u1,u2,u3⟩) 155)
           have hbz:=heap_alloc_new (w5.alloc (.cells hc 47)) (.cells (resCells hd (.slice p5 nb c5) l2.D ⟨un,u0,u1,u2,u3⟩) 155)
           rw[World.size_alloc] at hbz
           have hsz:=HF5.out.size
           unfold TriedPost
           rw[HXE.out]
           have hs2:x'.c.s=⟨un,u0,u1,u2,u3⟩:=by rw[HPUT.out];exact hs'
           have hm5:=HM5.out.keep hfz
           refine⟨HF5.out.trans hfz,.inr ⟨hm0,w5.heap.size+1,.slice p5 nb c5,l5,ys,rfl,?_⟩⟩
           rw[←HPUT.out,HNB.out]
           refine⟨⟨?_,hm5.rd,HX5.out.keep hfz⟩,by omega,HFT5.out,hm5,HLEG.out,⟨_,HST.out⟩,hbn⟩
           rw[hs2,HD5.out,←hhd]
           exact hbz)
          clear hmk hs'
          by_cases h5:(5:Int)≤(kd:Int)
          ·have hf7:=(R0 w5).alloc (.cells #[.int .i64 kd,.int .i64 (tp-fm:Nat),.int .i64 nb,.int .i64 cf.lc,.int .i64 cf.lp,.int .i64 cf.pb] 47)
           have hz7:=hf7.keep hz5 (fun h=>h)
           obtain⟨i0,i1,i2,i3,i4⟩:=cs5 hz7 rfl rfl rfl rfl rfl
           have HF7:=Hd hf7
           clear hf7 hz7 hz5
           go_wp2_with fail
           go_ret
           exact FIN.out ⟨kd,tp-fm,nb,cf.lc,cf.lp,cf.pb⟩ _ (by unfold Pst.headP;rw[HKD.out,if_neg (by omega)];rfl)
          ·clear hz5
           go_wp2_with fail
           go_ret
           exact FIN.out ⟨kd,tp-fm,nb,0,0,0⟩ _ (by unfold Pst.headP;rw[HKD.out,if_pos (by omega)])
        ·obtain⟨g,cap',cur,hgv,hcur,y0,y1,y2,y3,hcz,_⟩:=Ps.sy_open HSY.out
         simp only[Value.slice.injEq] at hgv
         obtain⟨rfl, -, -⟩:=hgv
         have hyo:=HYO.out y (by rw[←HAB.out];simp)
         have hyf:=HYF.out y (by rw[←HAB.out];simp)
         obtain⟨k,hk⟩:∃k,a.length=k:=⟨_,rfl⟩
         rw[List.length_cons] at hbl
         rw[hk] at y0 y1 y2 y3 hcz hks' hal' hbl ⊢
         have hpz:=HPZ.out
         rw[List.map_cons,putsZ] at hpz
         obtain⟨yk,yb,yl,yd⟩:=y
         simp only at y0 y1 y2 y3
         have q0:=cell_in (i:=k*4) hcur y0
         have q1:=cell_in (i:=k*4+1) hcur y1
         have q2:=cell_in (i:=k*4+2) hcur y2
         have q3:=cell_in (i:=k*4+3) hcur y3
         have hfy:=(R0 wr).alloc (.cells #[.int .i64 yk,.int .u8 yb,.int .i64 yl,.int .i64 yd] 110)
         have hyn:=heap_alloc_new wr (.cells #[.int .i64 yk,.int .u8 yb,.int .i64 yl,.int .i64 yd] 110)
         obtain⟨b0,b1,b2,b3⟩:=cs4 hyn rfl rfl rfl rfl
         have HXPT:=Hd (xput_calls (HE.out.keep hfy) (HT.out.keep (HFR.out.trans hfy)) (Ps.zOf ⟨yk,yb,yl,yd⟩) hyo.byte hyf (by omega) (by omega))
         have hapz:=fun h0=>apZ_put (x:=x') (z:=Ps.zOf ⟨yk,yb,yl,yd⟩) h0 hyo.byte
         rw[HD.out] at HXPT
         have HFY:=Hd hfy
         have HPZ2:=Hd hpz
         have HAPZ:=Hd hapz
         have HK:=Hd hk
         have i1:(0:Int)≤(k:Int):=by omega
         have i2:(k:Int)<(n:Int):=by omega
         have hgl:=lt_of_block hcur
         obtain⟨er,her⟩:∃er,er=(applyZ x'.c.size x'.c.all x'.c.s (Ps.zOf ⟨yk,yb,yl,yd⟩)).1:=⟨_,rfl⟩
         rw[←her] at HXPT
         have HER:=Hd her
         clear hyo hyf hfy hyn hcur y0 y1 y2 y3 hcz hpz hapz hk her
         simp only[Ps.zOf,Sz.cells] at HXPT
         go_wp2_with fail
         refine HXPT.out.mono ?_
         rintro e w4 ⟨rfl,hp4⟩
         by_cases he:er=0
         ·subst he
          rw[if_pos rfl] at hp4
          obtain⟨hf4,l4,hn4,hx4⟩:=hp4
          have h0:(x'.apZ (Ps.zOf ⟨yk,yb,yl,yd⟩)).1=0:=HER.out.symm
          obtain⟨p1,p2,p3,p4⟩:=HAPZ.out h0
          have hpz:=HPZ2.out
          rw[if_pos h0] at hpz
          have hsz:=HFY.out.size
          have hf4':Fr (fun _=>False) w w4:=(HFR.out.trans HFY.out).trans' hf4 (fun j hj e=>by have:=HFT.out j e;omega)
          have hsy4:=(HSY.out.step HFY.out (fun _ _ h=>h)).step hf4 (fun j hj=>by
           obtain⟨cur',hc'⟩:=Lz.own_block (HSY.out.step HFY.out (fun _ _ h=>h)).own hj
           exact xoff (HE.out.keep HFY.out) hc' (by decide) (by decide) (by decide) (by decide) (by decide) (by decide))
          have hz4:=hf4.keep (HFY.out.keep HZ.out (fun h=>h)) (xoff (HE.out.keep HFY.out) (HFY.out.keep HZ.out (fun h=>h)) (by decide) (by decide) (by decide) (by decide) (by decide) (by decide))
          have hft4:∀j,XFoot l4 j→w.heap.size≤j:=fun j hj=>by
           rcases hn4.F j hj with e|e
           ·exact HFT.out j e
           ·exact Nat.le_trans (HFR.out.trans HFY.out).size e
          have happ:a++(⟨yk,yb,yl,yd⟩:Sy)::b=(a++[(⟨yk,yb,yl,yd⟩:Sy)])++b:=by simp
          have hab:=HAB.out
          rw[happ] at hsy4 hab
          have hq1:(x'.put (Ps.zOf ⟨yk,yb,yl,yd⟩).sy).e.k.s≤52*(a++[(⟨yk,yb,yl,yd⟩:Sy)]).length:=by
           rw[List.length_append,List.length_singleton,HK.out]
           omega
          have hq2:(x'.put (Ps.zOf ⟨yk,yb,yl,yd⟩).sy).c.all.length≤fm+273*(a++[(⟨yk,yb,yl,yd⟩:Sy)]).length:=by
           rw[List.length_append,List.length_singleton,HK.out]
           omega
          have HFIN:=Hd (show∃(a b:List Sy)(x':Xe)(m:Nat)(l':XL),Value.int .i64 ((k:Int)+1)=.int .i64 a.length∧a++b=ys∧Fr (fun _=>False) w w4∧XE w4 l' x'∧l'.D=l2.D∧(∀j,XFoot l' j→w.heap.size≤j)∧putsZ (ys.map Ps.zOf) x1 0=putsZ (b.map Ps.zOf) x' m∧x'.e.k.s≤52*a.length∧x'.c.all.length≤fm+273*a.length∧Lz.Syms w w4 (.slice (some ⟨g,0,none⟩) n cm) (a++b)∧w4.heap[zs]? =some (.cells t'.cells 84 (0,0)) from
           ⟨a++[(⟨yk,yb,yl,yd⟩:Sy)],b,x'.put (Ps.zOf ⟨yk,yb,yl,yd⟩).sy,_,l4,by simp[HK.out],hab,hf4',hx4,hn4.D.trans HD.out,hft4,hpz,hq1,hq2,hsy4,hz4⟩)
          clear hq1 hq2 hf4 hn4 hx4 h0 p1 p2 p3 p4 hpz hsz hf4' hsy4 hz4 hft4 happ hab
          go_wp2_with fail
          go_roundw
          ·exact HFIN.out
          ·simp[intOf];omega
         ·rw[if_neg he] at hp4
          have he2:((er:Int) !=0)=true:=by simp;omega
          go_wp2_with fail
          go_ret
          exact⟨(HFR.out.trans HFY.out).trans hp4,.inl rfl⟩
      ·have he':(er !=0)=true:=by simpa using he
       go_wp2_with fail
       go_ret
       exact⟨HF9.out,.inl rfl⟩
end Pk
namespace Pk
open Mem Rc St Lz En Win Ck
def Chosen(t:Pst)(cf:Cf)(data:List UInt8)(fm tp:Nat)(h:Head)(b:List UInt8)(x':Xe)(s:S):Prop:=
 (h=⟨if t.begun=false then 1 else 2,b.length,b.length,0,0,0⟩∧b=(data.drop fm).take (tp-fm)∧x'=t.x.raw b∧s=t.s)∨
 (cf.mode≠0∧∃ys:List Sy,h=t.headP cf.pr (tp-fm) ((t.from' cf.pr).putAll ys).e.k.bytes.length∧b=((t.from' cf.pr).putAll ys).e.k.bytes∧x'=((t.from' cf.pr).putAll ys).cut∧s=((t.from' cf.pr).putAll ys).c.s∧
   Legal ys (t.from' cf.pr)∧(∃s',Pk.Steps data tp ys fm (t.from' cf.pr).c.s tp s')∧b.length≤65536∧(headB h).length+b.length≤3+(tp-fm))
structure After(t t':Pst)(cf:Cf)(data:List UInt8)(h:Head)(b:List UInt8)(x':Xe)(s:S):Prop where
 ok:t'.Ok data cf.dict cf.pr (decide (cf.mode=0))
 out:t'.out cf.dict=t.out cf.dict++(headB h++b)
 x:t'.x=x'
 s:t'.s=s
 begun:t'.begun=true
 packed:t'.packed=decide (3≤h.kind)
 props:t'.props=(t.props||decide (5≤h.kind))
 len:t'.pts.length=t.pts.length+1
theorem Chosen.after{t:Pst}{cf:Cf}{data:List UInt8}{h:Head}{b:List UInt8}{x':Xe}{s:S}(ht:t.Ok data cf.dict cf.pr (decide (cf.mode=0)))(hi:65536*t.pts.length<data.length)(hq:cf.lc+cf.lp≤4∧cf.pb≤4)
 (hc:Chosen t cf data (upto data.length t.pts.length) (upto data.length (t.pts.length+1)) h b x' s):∃t',After t t' cf data h b x' s:=by
 rcases hc with⟨rfl,hb,rfl,rfl⟩|⟨hm,ys,rfl,rfl,rfl,rfl,hl,hst,h64,hle⟩
 ·obtain⟨h1,h2⟩:=ht.lay hi hb
  refine⟨t.lay b,h1,h2,rfl,rfl,rfl,?_,?_,by simp[Pst.lay]⟩
  ·simp only[Pst.lay]
   split<;>rfl
  ·simp only[Pst.lay]
   split<;>simp
 ·have hd:decide (cf.mode=0)=false:=by simpa using hm
  rw[hd] at ht
  obtain⟨h1,h2⟩:=ht.pack hi hq hl hst h64 hle
  have hk:(t.headP cf.pr (upto data.length (t.pts.length+1)-upto data.length t.pts.length) ((t.from' cf.pr).putAll ys).e.k.bytes.length).kind=t.kind:=by
   unfold Pst.headP
   split<;>rfl
  have hkb:=kind_bd t
  refine⟨t.pack cf.pr ys,by rw[hd];exact h1,h2,rfl,rfl,rfl,?_,?_,by simp[Pst.pack]⟩
  ·rw[hk]
   simp only[Pst.pack]
   symm
   simpa using hkb.1
  ·rw[hk]
   simp only[Pst.pack]
   symm
   by_cases h5:5≤t.kind
   ·simp[h5]
   ·have:t.props=true:=by
     unfold Pst.kind at h5
     cases hb:t.begun with
     |false=>rw[hb] at h5;simp at h5
     |true=>
       cases hp:t.packed with
       |true=>exact(ht.same hp).2.2
       |false=>
         cases hq':t.props with
         |true=>rfl
         |false=>
           rw[hb,hp,hq'] at h5
           simp at h5
    simp[this]
end Pk
end Go.Proofs.YtffoddpjfgjelaaGreatDoor
