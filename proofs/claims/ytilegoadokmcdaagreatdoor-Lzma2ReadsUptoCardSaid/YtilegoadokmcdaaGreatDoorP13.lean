/- Part 13 of 53: lemmas of the last part, each under the conditions that it names. -/
import Derived.Test.YtilegoadokmcdaaGreatDoorP10
import Derived.Test.YtilegoadokmcdaaGreatDoorP11
import Derived.Test.YtilegoadokmcdaaGreatDoorP12
set_option linter.unusedVariables false
set_option linter.unusedSimpArgs false
set_option maxRecDepth 1500
set_option maxHeartbeats 1000000
namespace Go.Proofs.YtilegoadokmcdaaGreatDoor
open Go.RowKit
namespace Rf
open Mem Rc St Lz
theorem bit_bad{y:Y}(h:y.bad=true)(j i:Nat):y.bit j i=(0,y):=by unfold Y.bit;rw[if_pos h]
theorem tree_bad{y:Y}(h:y.bad=true)(back:Bool)(j a n:Nat):y.tree back j a n=(0,y):=by unfold Y.tree;rw[if_pos h]
theorem direct_bad{y:Y}(h:y.bad=true)(n:Nat):y.direct n=(0,y):=by unfold Y.direct;rw[if_pos h]
def up(j a:Nat):Nat→Nat→Y→Nat×Y
 |0,m,y=>(m,y)
 |f+1,m,y=>up j a f (2*m+(y.bit j (a+m)).1) (y.bit j (a+m)).2
def dn(j a n:Nat):Nat→Nat→Nat→Y→Nat×Y
 |0,m,v,y=>(v,y)
 |f+1,m,v,y=>dn j a n f (2*m+(y.bit j (a+m)).1) (v+(y.bit j (a+m)).1*2^(n-(f+1))) (y.bit j (a+m)).2
theorem up_bad(j a:Nat):∀(f m:Nat)(y:Y),y.bad=true→(up j a f m y).2=y
 |0,m,y,h=>rfl
 |f+1,m,y,h=>by
   unfold up
   rw[bit_bad h]
   exact up_bad j a f _ y h
theorem dn_bad(j a n:Nat):∀(f m v:Nat)(y:Y),y.bad=true→(dn j a n f m v y).2=y
 |0,m,v,y,h=>rfl
 |f+1,m,v,y,h=>by
   unfold dn
   rw[bit_bad h]
   exact dn_bad j a n f _ _ y h
theorem upd_self(ps:Nat→List Nat)(j:Nat):upd ps j (ps j)=ps:=by
 funext k
 unfold upd
 split
 ·rename_i h;rw[h]
 ·rfl
theorem upd_upd(ps:Nat→List Nat)(j:Nat)(a b:List Nat):upd (upd ps j a) j b=upd ps j b:=by
 funext k
 unfold upd
 split
 ·rfl
 ·rfl
theorem bit_go(d:D)(ps:Nat→List Nat)(j i:Nat):Y.bit ⟨d,false,ps⟩ j i=(gotN (bitAt d (ps j) i).bit (bitAt d (ps j) i).err,⟨(bitAt d (ps j) i).d,decide ((bitAt d (ps j) i).err≠0),upd ps j (bitAt d (ps j) i).ps⟩):=rfl
theorem tree_go(back:Bool)(d:D)(ps:Nat→List Nat)(j a n:Nat):Y.tree ⟨d,false,ps⟩ back j a n=(gotN (Tr.get back d (ps j) a n).bit (Tr.get back d (ps j) a n).err,⟨(Tr.get back d (ps j) a n).d,decide ((Tr.get back d (ps j) a n).err≠0),upd ps j (Tr.get back d (ps j) a n).ps⟩):=rfl
theorem bitAt_le(d:D)(ps:List Nat)(i:Nat):(bitAt d ps i).bit≤1:=by
 unfold bitAt
 split
 ·simp
 ·split
  ·simp
  ·rename_i v e h
   simp only
   unfold D.bit at h
   rw[Option.map_eq_some_iff] at h
   obtain⟨x,hx,he⟩:=h
   simp only[Prod.mk.injEq] at he
   rw[←he.1]
   unfold D.upper
   split<;>simp
theorem up_go(j a n:Nat):∀(f m v:Nat)(d:D)(ps:Nat→List Nat),f≤n→2^(n-f)≤m→v=(m-2^(n-f))*2^f→
 (up j a f m ⟨d,false,ps⟩).2=⟨(Tr.go false n a f m v d (ps j)).d,decide ((Tr.go false n a f m v d (ps j)).err≠0),upd ps j (Tr.go false n a f m v d (ps j)).ps⟩∧
 ((Tr.go false n a f m v d (ps j)).err=0→(up j a f m ⟨d,false,ps⟩).1=(Tr.go false n a f m v d (ps j)).v+2^n)
 |0,m,v,d,ps,hf,hm,hv=>by
   unfold up Tr.go
   simp only[Nat.sub_zero,Nat.pow_zero,Nat.mul_one] at hv hm
   simp only[upd_self]
   refine⟨rfl,fun _=> ?_⟩
   omega
 |f+1,m,v,d,ps,hf,hm,hv=>by
   unfold up Tr.go
   rw[bit_go]
   have hbl:=bitAt_le d (ps j) (a+m)
   by_cases he:(bitAt d (ps j) (a+m)).err=0
   ·rw[if_neg (fun h=>h he)]
    have e1:gotN (bitAt d (ps j) (a+m)).bit (bitAt d (ps j) (a+m)).err=(bitAt d (ps j) (a+m)).bit:=if_pos he
    have e2:decide ((bitAt d (ps j) (a+m)).err≠0)=false:=by simp[he]
    rw[e1,e2]
    have ho:Tr.ord false n (n-(f+1))=f:=by simp only[Tr.ord,Bool.false_eq_true,if_false];omega
    have hp1:2^(n-f)=2*2^(n-(f+1)):=by rw[show n-f=n-(f+1)+1 by omega,Nat.pow_succ];omega
    have hp2:(2:Nat)^(f+1)=2*2^f:=by rw[Nat.pow_succ];omega
    generalize bitAt d (ps j) (a+m)=r at*
    have hb2:r.bit*2^f<2^(f+1):=by
     rw[hp2]
     have:=Nat.mul_le_mul_right (2^f) hbl
     have:=Nat.two_pow_pos f
     omega
    have hv2:(v|||(r.bit<<<f))=(2*m+r.bit-2^(n-f))*2^f:=by
     rw[Nat.shiftLeft_eq,hv,Nat.mul_comm,←Nat.two_pow_add_eq_or_of_lt hb2,hp1,hp2]
     have e3:2*m+r.bit-2*2^(n-(f+1))=2*(m-2^(n-(f+1)))+r.bit:=by omega
     rw[e3,Nat.add_mul]
     congr 1
     rw[Nat.mul_comm (2*2^f),Nat.mul_comm 2 (m-2^(n-(f+1))),Nat.mul_assoc]
    rw[ho]
    have ih:=up_go j a n f (2*m+r.bit) (v|||(r.bit<<<f)) r.d (upd ps j r.ps) (by omega) (by rw[hp1];omega) hv2
    rw[upd_same,upd_upd] at ih
    exact ih
   ·rw[if_pos he]
    have e1:gotN (bitAt d (ps j) (a+m)).bit (bitAt d (ps j) (a+m)).err=0:=if_neg he
    have e2:decide ((bitAt d (ps j) (a+m)).err≠0)=true:=by simp[he]
    rw[e1,e2]
    refine⟨up_bad j a f _ _ rfl,fun h=>absurd h he⟩
theorem dn_go(j a n:Nat):∀(f m v:Nat)(d:D)(ps:Nat→List Nat),f≤n→v<2^(n-f)→
 (dn j a n f m v ⟨d,false,ps⟩).2=⟨(Tr.go true n a f m v d (ps j)).d,decide ((Tr.go true n a f m v d (ps j)).err≠0),upd ps j (Tr.go true n a f m v d (ps j)).ps⟩∧
 ((Tr.go true n a f m v d (ps j)).err=0→(dn j a n f m v ⟨d,false,ps⟩).1=(Tr.go true n a f m v d (ps j)).v)
 |0,m,v,d,ps,hf,hv=>by
   unfold dn Tr.go
   simp only[upd_self]
   exact⟨rfl,fun _=>trivial⟩
 |f+1,m,v,d,ps,hf,hv=>by
   unfold dn Tr.go
   rw[bit_go]
   have hbl:=bitAt_le d (ps j) (a+m)
   by_cases he:(bitAt d (ps j) (a+m)).err=0
   ·rw[if_neg (fun h=>h he)]
    have e1:gotN (bitAt d (ps j) (a+m)).bit (bitAt d (ps j) (a+m)).err=(bitAt d (ps j) (a+m)).bit:=if_pos he
    have e2:decide ((bitAt d (ps j) (a+m)).err≠0)=false:=by simp[he]
    rw[e1,e2]
    have ho:Tr.ord true n (n-(f+1))=n-(f+1):=by simp only[Tr.ord,if_true]
    have hp1:2^(n-f)=2*2^(n-(f+1)):=by rw[show n-f=n-(f+1)+1 by omega,Nat.pow_succ];omega
    generalize bitAt d (ps j) (a+m)=r at*
    have hv2:(v|||(r.bit<<<(n-(f+1))))=v+r.bit*2^(n-(f+1)):=by
     rw[Nat.shiftLeft_eq,Nat.or_comm,Nat.mul_comm,←Nat.two_pow_add_eq_or_of_lt hv]
     omega
    rw[ho,hv2]
    have hlt:v+r.bit*2^(n-(f+1))<2^(n-f):=by
     have:=Nat.mul_le_mul_right (2^(n-(f+1))) hbl
     omega
    have ih:=dn_go j a n f (2*m+r.bit) (v+r.bit*2^(n-(f+1))) r.d (upd ps j r.ps) (by omega) hlt
    rw[upd_same,upd_upd] at ih
    exact ih
   ·rw[if_pos he]
    have e1:gotN (bitAt d (ps j) (a+m)).bit (bitAt d (ps j) (a+m)).err=0:=if_neg he
    have e2:decide ((bitAt d (ps j) (a+m)).err≠0)=true:=by simp[he]
    rw[e1,e2]
    refine⟨dn_bad j a n f _ _ _ rfl,fun h=>absurd h he⟩
structure Alike(r s:Nat×Y):Prop where
 y:r.2=s.2
 v:s.2.bad=false→r.1=s.1
theorem up_tree(y:Y)(j a n:Nat)(h:y.bad=false→n≤16∧a≤(y.ps j).length∧2^n≤(y.ps j).length-a):Alike ((up j a n 1 y).1-2^n,(up j a n 1 y).2) (y.tree false j a n):=by
 obtain⟨d,bad,ps⟩:=y
 cases bad with
 |true=>
   rw[tree_bad rfl]
   exact⟨up_bad j a n 1 _ rfl,fun h=>by cases h⟩
 |false=>
   have h1:=up_go j a n n 1 0 d ps (Nat.le_refl _) (by simp) (by simp)
   rw[tree_go]
   unfold Tr.get
   rw[if_pos (h rfl)]
   generalize Tr.go false n a n 1 0 d (ps j)=r at*
   refine⟨h1.1,fun h2=> ?_⟩
   have h3:r.err=0:=by simpa using h2
   simp only[h3,if_true,gotN]
   rw[h1.2 h3]
   omega
theorem dn_tree(y:Y)(j a n:Nat)(h:y.bad=false→n≤16∧a≤(y.ps j).length∧2^n≤(y.ps j).length-a):Alike (dn j a n n 1 0 y) (y.tree true j a n):=by
 obtain⟨d,bad,ps⟩:=y
 cases bad with
 |true=>
   rw[tree_bad rfl]
   exact⟨dn_bad j a n n 1 0 _ rfl,fun h=>by cases h⟩
 |false=>
   have h1:=dn_go j a n n 1 0 d ps (Nat.le_refl _) (by simp)
   rw[tree_go]
   unfold Tr.get
   rw[if_pos (h rfl)]
   generalize Tr.go true n a n 1 0 d (ps j)=r at*
   refine⟨h1.1,fun h2=> ?_⟩
   have h3:r.err=0:=by simpa using h2
   simp only[h3,if_true,gotN]
   exact h1.2 h3
theorem lit_up(u a:Nat):∀(k m:Nat)(y:Y),litGo u a k m false y=up 6 a k m y
 |0,m,y=>rfl
 |k+1,m,y=>by
   unfold litGo up
   simp only[Bool.false_eq_true,if_false,Nat.add_zero,Bool.false_and]
   exact lit_up u a k _ _
def rlit(y:Y)(c:C):Nat×Y:=litGo (c.lastB c.s.r0) c.context 8 1 (decide (7≤c.s.num)) y
theorem rlit_alike(y:Y)(c:C)(h:y.bad=false→c.context+256≤(y.ps 6).length):Alike ((rlit y c).1-256,(rlit y c).2) (y.literal c):=by
 unfold rlit Y.literal
 by_cases h7:c.s.num<7
 ·rw[if_pos h7,show decide (7≤c.s.num)=false by simp;omega,lit_up]
  exact up_tree y 6 c.context 8 (fun hb=>by have:=h hb;omega)
 ·rw[if_neg h7,show decide (7≤c.s.num)=true by simp;omega]
  exact⟨rfl,fun _=>rfl⟩
theorem up_range(j a:Nat):∀(f m:Nat)(y:Y)(n:Nat),2^n≤m→m<2^(n+1)→2^(n+f)≤(up j a f m y).1∧(up j a f m y).1<2^(n+f+1)
 |0,m,y,n,h1,h2=>⟨h1,h2⟩
 |f+1,m,y,n,h1,h2=>by
   have hb:(y.bit j (a+m)).1≤1:=by
    unfold Y.bit
    split
    ·simp
    ·unfold Y.put gotN
     simp only
     split
     ·exact bitAt_le _ _ _
     ·simp
   rw[Nat.pow_succ] at h2
   have ih:=up_range j a f (2*m+(y.bit j (a+m)).1) (y.bit j (a+m)).2 (n+1) (by rw[Nat.pow_succ];omega) (by rw[Nat.pow_succ,Nat.pow_succ];omega)
   rw[show n+(f+1)=n+1+f by omega]
   exact ih
theorem bit_le(y:Y)(j i:Nat):(y.bit j i).1≤1:=by
 unfold Y.bit
 split
 ·simp
 ·unfold Y.put gotN
  simp only
  split
  ·exact bitAt_le _ _ _
  ·simp
end Rf
namespace Lz
open Mem Rc St
theorem rowLen_le(lc lp j:Nat)(h:lc+lp≤4):rowLen lc lp j≤12288:=by
 have hp:2^(lc+lp)≤16:=Nat.pow_le_pow_right (n:=2) (by omega) h
 unfold rowLen
 repeat' split
 all_goals omega
theorem tree_calls{l:L}{c:C}{y:Y}{w:World}(h:At w l c y)(j a n:Nat)(hj:j<18)(ha:a≤1099511627776)(hn:n≤1099511627776):
 Calls Tryz.prog 167 #[ptr l.X,ptr (l.b j),.int .i64 a,.int .i64 n] w (Post l c w (y.tree false j a n)):=by
 have hx0:=h.cells.x1
 have hx1:=h.cells.x2
 have hb2:=Y.tree_ok h.ok false hj a n
 have hlen:=h.ok.len j hj
 have hle:=rowLen_le c.lc c.lp j h.c.l
 have HB:=Hd (Tr.Get_calls l.R (l.b j) (l.g j) a n l.bv y.d (y.ps j) w h.rc h.ok.d (h.tab.set j hj) ha hn (by omega))
 have H:=Hd h
 clear h hlen hle
 cases hb:y.bad with
 |true=>
   have e:y.tree false j a n=(0,y):=by unfold Y.tree;rw[if_pos hb]
   rw[e]
   rw[hb] at hx1
   have HH:=Hd hb
   have HB2:=Hd hb2
   clear hb hb2 e
   go_enter Tryz.func167,Tryz.ntmps167
   go_wp2_with fail
   go_ret
   exact⟨rfl,Fr.refl _ _,H.out⟩
 |false=>
   have e:y.tree false j a n=y.put j (Tr.get false y.d (y.ps j) a n):=by unfold Y.tree;rw[if_neg (by rw[hb];decide)]
   rw[e] at hb2 ⊢
   rw[hb] at hx1
   have HH:=Hd hb
   have HB2:=Hd hb2.1
   clear hb hb2 e
   generalize Tr.get false y.d (y.ps j) a n=r at*
   go_enter Tryz.func167,Tryz.ntmps167
   go_wp2_with fail
   refine HB.out.mono ?_
   rintro e w1 ⟨rfl,hfr,hA,hS⟩
   have hxx:=hfr.keep H.out.x (fun e=>by
    rcases e with e|e
    ·exact H.out.xr e
    ·exact(H.out.xg j hj).1 e)
   rw[HH.out] at hxx
   have HG:=Hd (got_calls l.X r.bit r.err (ptr l.D) (ptr l.R) false w1 hxx)
   have HF:=Hd hfr
   have HA:=Hd hA
   have HS:=Hd hS
   clear hfr hA hS hxx
   go_wp2_with fail
   refine HG.out.mono ?_
   rintro e w2 ⟨rfl,hfr2,hx2⟩
   have hp:=put_at H.out hj HF.out HA.out HS.out hfr2 hx2 HB2.out
   have HP:=Hd hp
   clear hp hfr2 hx2
   go_wp2_with fail
   go_ret
   exact⟨rfl,HP.out⟩
theorem back_calls{l:L}{c:C}{y:Y}{w:World}(h:At w l c y)(j a n:Nat)(hj:j<18)(ha:a≤1099511627776)(hn:n≤1099511627776):
 Calls Tryz.prog 170 #[ptr l.X,ptr (l.b j),.int .i64 a,.int .i64 n] w (Post l c w (y.tree true j a n)):=by
 have hx0:=h.cells.x1
 have hx1:=h.cells.x2
 have hb2:=Y.tree_ok h.ok true hj a n
 have hlen:=h.ok.len j hj
 have hle:=rowLen_le c.lc c.lp j h.c.l
 have HB:=Hd (Tr.GetBack_calls l.R (l.b j) (l.g j) a n l.bv y.d (y.ps j) w h.rc h.ok.d (h.tab.set j hj) ha hn (by omega))
 have H:=Hd h
 clear h hlen hle
 cases hb:y.bad with
 |true=>
   have e:y.tree true j a n=(0,y):=by unfold Y.tree;rw[if_pos hb]
   rw[e]
   rw[hb] at hx1
   have HH:=Hd hb
   have HB2:=Hd hb2
   clear hb hb2 e
   go_enter Tryz.func170,Tryz.ntmps170
   go_wp2_with fail
   go_ret
   exact⟨rfl,Fr.refl _ _,H.out⟩
 |false=>
   have e:y.tree true j a n=y.put j (Tr.get true y.d (y.ps j) a n):=by unfold Y.tree;rw[if_neg (by rw[hb];decide)]
   rw[e] at hb2 ⊢
   rw[hb] at hx1
   have HH:=Hd hb
   have HB2:=Hd hb2.1
   clear hb hb2 e
   generalize Tr.get true y.d (y.ps j) a n=r at*
   go_enter Tryz.func170,Tryz.ntmps170
   go_wp2_with fail
   refine HB.out.mono ?_
   rintro e w1 ⟨rfl,hfr,hA,hS⟩
   have hxx:=hfr.keep H.out.x (fun e=>by
    rcases e with e|e
    ·exact H.out.xr e
    ·exact(H.out.xg j hj).1 e)
   rw[HH.out] at hxx
   have HG:=Hd (got_calls l.X r.bit r.err (ptr l.D) (ptr l.R) false w1 hxx)
   have HF:=Hd hfr
   have HA:=Hd hA
   have HS:=Hd hS
   clear hfr hA hS hxx
   go_wp2_with fail
   refine HG.out.mono ?_
   rintro e w2 ⟨rfl,hfr2,hx2⟩
   have hp:=put_at H.out hj HF.out HA.out HS.out hfr2 hx2 HB2.out
   have HP:=Hd hp
   clear hp hfr2 hx2
   go_wp2_with fail
   go_ret
   exact⟨rfl,HP.out⟩
theorem direct_at{w w1 w2:World}{l:L}{c:C}{y:Y}{d2:D}{b2:Bool}(h:At w l c y)(hfr:Fr (fun k=>k=l.R) w w1)(hrc:Rc.At w1 l.R l.bv d2)
 (hfr2:Fr (fun k=>k=l.X) w1 w2)(hx2:w2.heap[l.X]? =some (.cells (rdV l b2) 169 (0,0)))(hok:(⟨d2,b2,y.ps⟩:Y).Ok c.lc c.lp):Fr l.S w w2∧At w2 l c ⟨d2,b2,y.ps⟩:=by
 have hS:Fr l.S w w2:=(hfr.mono (T:=l.S) (fun i _ hi=>.inr (.inl hi))).trans' hfr2 (fun i _(hi:i=l.X)=>.inl hi)
 refine⟨hS,h.step hS hx2 (hrc.keep hfr2 (fun e=>h.xr e.symm) (fun k hk e=>h.bvoff k hk (.inl e))) (fun i hi=> ?_) hok⟩
 have hbi:=h.bOff i hi
 have hxi:=h.xg i hi
 exact((h.tab.set i hi).step hfr (fun e=>hbi (.inr (.inl e))) (fun e=>hxi.2 e.symm)).step hfr2 (fun e=>hbi (.inl e)) (fun e=>hxi.1 e.symm)
theorem direct_err:∀(n v:Nat)(d:D){x:Nat},D.direct n v d=.error x→x≠0
 |0,v,d,x,h=>by simp[D.direct] at h
 |n+1,v,d,x,h=>by
   unfold D.direct at h
   by_cases hne:(if d.rng/2≤d.now then d.now-d.rng/2 else d.now)=d.rng/2
   ·rw[if_pos hne] at h
    cases h
    decide
   ·rw[if_neg hne] at h
    split at h
    ·cases h
     decide
    ·exact direct_err n _ _ h
theorem conv_u32(v:Nat)(h:v<4294967296):IntKind.i64.wrap (v:Int)=v:=IntWalk.i64_in _ (by omega)
theorem direct_calls{l:L}{c:C}{y:Y}{w:World}(h:At w l c y)(n:Nat)(hn:n≤32):
 Calls Tryz.prog 172 #[ptr l.X,.int .i64 n] w (Post l c w (y.direct n)):=by
 have hx0:=h.cells.x1
 have hx1:=h.cells.x2
 have hb2:=Y.direct_ok h.ok n
 have hlt:(y.direct n).1<4294967296:=Nat.lt_of_lt_of_le hb2.2 (Nat.pow_le_pow_right (n:=2) (by omega) hn)
 have HB:=Hd (Rc.direct_calls l.R n l.bv y.d w h.rc h.ok.d hn)
 have H:=Hd h
 clear h
 cases hb:y.bad with
 |true=>
   have e:y.direct n=(0,y):=by unfold Y.direct;rw[if_pos hb]
   rw[e]
   rw[hb] at hx1
   have HH:=Hd hb
   have HB2:=Hd hb2
   clear hb hb2 e hlt
   go_enter Tryz.func172,Tryz.ntmps172
   go_wp2_with fail
   go_ret
   exact⟨rfl,Fr.refl _ _,H.out⟩
 |false=>
   rw[hb] at hx1
   have hxx:=H.out.x
   rw[hb] at hxx
   have HXX:=Hd hxx
   have HXR:=Hd H.out.xr
   clear hxx
   cases hd:D.direct n 0 y.d with
   |ok x=>
     obtain⟨v,d2⟩:=x
     have e:y.direct n=(v,⟨d2,false,y.ps⟩):=by unfold Y.direct;rw[if_neg (by rw[hb];decide),hd]
     rw[hd] at HB
     rw[e] at hb2 hlt ⊢
     simp only at hb2 hlt
     have HB2:=Hd hb2.1
     have HW:=conv_u32 v hlt
     clear hd hb2 e hb
     unfold directV directD at HB
     go_enter Tryz.func172,Tryz.ntmps172
     go_wp2_with fail
     refine HB.out.mono ?_
     rintro e w1 ⟨rfl,hfr,hA⟩
     have HG:=Hd (got_calls l.X v 0 (ptr l.D) (ptr l.R) false w1 (hfr.keep HXX.out HXR.out))
     have HF:=Hd hfr
     have HA:=Hd hA
     clear hfr hA
     go_wp2_with fail
     refine HG.out.mono ?_
     rintro e w2 ⟨rfl,hfr2,hx2⟩
     have HP:=Hd (direct_at H.out HF.out HA.out hfr2 hx2 HB2.out)
     clear hfr2 hx2
     go_wp2_with fail
     go_ret
     exact⟨rfl,HP.out⟩
   |error x=>
     have e:y.direct n=(0,⟨y.d,true,y.ps⟩):=by unfold Y.direct;rw[if_neg (by rw[hb];decide),hd]
     rw[hd] at HB
     rw[e] at hb2 hlt ⊢
     have HX0:=Hd (direct_err n 0 y.d hd)
     simp only at hb2 hlt
     have HB2:=Hd hb2.1
     clear hd hb2 e hb
     unfold directV directD at HB
     go_enter Tryz.func172,Tryz.ntmps172
     go_wp2_with fail
     refine HB.out.mono ?_
     rintro e w1 ⟨rfl,hfr,hA⟩
     have HG:=Hd (got_calls l.X 0 x (ptr l.D) (ptr l.R) false w1 (hfr.keep HXX.out HXR.out))
     have HF:=Hd hfr
     have HA:=Hd hA
     clear hfr hA
     go_wp2_with fail
     refine HG.out.mono ?_
     rintro e w2 ⟨rfl,hfr2,hx2⟩
     have hg0:gotN 0 x=0:=if_neg HX0.out
     rw[show(false||decide (x≠0))=true by simp[HX0.out]] at hx2
     have HP:=Hd (direct_at H.out HF.out HA.out hfr2 hx2 HB2.out)
     clear hfr2 hx2
     go_wp2_with fail
     go_ret
     exact⟨rfl,HP.out⟩
end Lz
namespace Lz
open Mem Rc St
theorem At.newOff{w:World}{l:L}{c:C}{y:Y}(h:At w l c y){k:Nat}(hk:w.heap.size≤k):¬l.S k:=by
 rintro(rfl|rfl|⟨j,hj,rfl⟩)
 ·have:=lt_of_block h.x
  omega
 ·have:=lt_of_block h.rc.1
  omega
 ·have:=(h.tab.set j hj).lt.2
  omega
theorem At.drewN{w:World}{l:L}{c:C}{y:Y}(h:At w l c y)(n:Nat):At (w.drewN n) l c y:=h.keep ((Fr.refl _ _).drewN n)
theorem lift{S:Nat→Prop}{w w':World}(h:Fr (fun _=>False) w w'):Fr S w w':=h.mono (fun _ _ h=>h.elim)
theorem C.Ok.place{c:C}(h:c.Ok):c.place<16:=Nat.lt_of_lt_of_le (Nat.mod_lt _ (Nat.two_pow_pos c.pb)) (Nat.pow_le_pow_right (n:=2) (by omega) h.pb)
theorem At.pos{w:World}{l:L}{c:C}{y:Y}(h:At w l c y)(m:Nat):Calls Tryz.prog 119 #[ptr l.W] (w.drewN m) fun e w'=>e=.returned (.int .i64 c.all.length)∧w.drewN m=w':=
 Win.pos_calls l.W c.size l.t l.rv c.all l.ring _ (h.drewN m).win
theorem At.placeC{w:World}{l:L}{c:C}{y:Y}(h:At w l c y)(m:Nat):Calls Tryz.prog 162 #[ptr l.T,.int .i64 c.all.length] (w.drewN m) fun e w'=>e=.returned (.int .i64 c.place)∧w.drewN m=w':=
 place_calls l.T c.all.length c.pb _ (h.drewN m).cells.t2 h.c.pb (by have:=h.win.much;omega)
theorem length_calls{l:L}{c:C}{y:Y}{w:World}(h:At w l c y)(q:Nat)(hq:q=7∨q=11):
 Calls Tryz.prog 122 #[ptr l.X,.agg #[ptr (l.b q),ptr (l.b (q+1)),ptr (l.b (q+2)),ptr (l.b (q+3))]] w (Post l c w (y.length c q)):=by
 have hx:=heap_alloc_new w (.cells #[ptr (l.b q),ptr (l.b (q+1)),ptr (l.b (q+2)),ptr (l.b (q+3))] 117)
 have hf0:=(Fr.refl (fun _=>False) w).alloc (.cells #[ptr (l.b q),ptr (l.b (q+1)),ptr (l.b (q+2)),ptr (l.b (q+3))] 117)
 have hno:=h.newOff (Nat.le_refl _)
 have hA:=h.keep hf0
 have HF0:=Hd hf0
 have HN:=Hd hno
 have hq18:q+3<18:=by omega
 have hpl:=h.c.place
 obtain⟨res,hlen⟩:∃res,res=y.length c q:=⟨_,rfl⟩
 rw[←hlen]
 unfold Y.length at hlen
 clear hf0 hno h
 go_enter Tryz.func122,Tryz.ntmps122
 go_wp2_with fail
 generalize hW:w.alloc (.cells #[ptr (l.b q),ptr (l.b (q+1)),ptr (l.b (q+2)),ptr (l.b (q+3))] 117)=W at*
 obtain⟨a8,ha8⟩:∃a8,a8=8*c.place:=⟨_,rfl⟩
 have hw8:8*(c.place:Int)=(a8:Int):=by rw[ha8];omega
 have ha8l:a8≤128:=by omega
 rw[←ha8] at hlen
 have HLEN:=Hd hlen
 have HA:=Hd hA
 have HX:=Hd hx
 have HPOS:=Hd hA.pos
 have HPL:=Hd hA.placeC
 have k0:=hA.cells.x0
 have k1:=hA.cells.d0
 have k2:=hA.cells.d1
 clear hA hx hlen hW ha8
 have HALL:=Hd (fun n=>HA.out.drewN n)
 have HXN:=Hd (fun n=>((Fr.refl (fun _=>False) W).drewN n).keep HX.out (fun h=>h))
 have HFN:=Hd (fun n=>HF0.out.drewN n)
 go_quiet (first|exact quiet_left (HPOS.out _)|exact quiet_left (HPL.out _))
 have hA1:=HALL.out nq
 have hx1:=HXN.out nq
 have hf1:=HFN.out nq
 generalize W.drewN nq=W1 at*
 have HF1:=Hd hf1
 have HX1:=Hd hx1
 have z0:=cell_in (i:=0) hx1 rfl
 have HBC:=Hd (bit_calls hA1 q 0 (by omega))
 have hb0:=(Y.bit_ok hA1.ok (by omega:q<18) 0).2
 clear hx1 hf1 hA1 HXN HFN HALL HPOS HPL HX HA k0 k1 k2
 generalize y.bit q 0=r0 at*
 go_wp2_with fail
 refine HBC.out.mono ?_
 rintro e w2 ⟨rfl,hfr2,hA2⟩
 have hx2:=hfr2.keep HX1.out HN.out
 have HX2:=Hd hx2
 have HF2:=Hd ((lift HF1.out).trans hfr2)
 have z1:=cell_in (i:=1) hx2 rfl
 have z2:=cell_in (i:=0) hx2 rfl
 obtain⟨v0,y0⟩:=r0
 simp only at hb0 hA2 HLEN
 clear hx2 hfr2 z0 HX1 HF1 HBC
 obtain rfl|rfl:v0=0∨v0=1:=by omega
 ·have HL2:=Hd (show res=_ from HLEN.out.trans (if_pos rfl))
  have ht:=(Y.tree_ok hA2.ok false (by omega:q+1<18) a8 3).2
  have HTC:=Hd (tree_calls hA2 (q+1) a8 3 (by omega) (by omega) (by omega))
  clear HLEN hA2
  generalize y0.tree false (q+1) a8 3=r1 at*
  go_wp2_with fail
  refine HTC.out.mono ?_
  rintro e w3 ⟨rfl,hfr3,hA3⟩
  have HF3:=Hd (HF2.out.trans hfr3)
  have HA3:=Hd hA3
  clear hfr3 hA3
  go_wp2_with fail
  go_ret
  rw[HL2.out]
  exact⟨ret_int (by omega),HF3.out,HA3.out⟩
 ·have HL1:=Hd (show res=_ from HLEN.out.trans (if_neg (by decide)))
  have hb1:=(Y.bit_ok hA2.ok (by omega:q<18) 1).2
  have HBC:=Hd (bit_calls hA2 q 1 (by omega))
  clear HLEN hA2
  generalize y0.bit q 1=r1 at*
  obtain⟨v1,y1⟩:=r1
  simp only at hb1 HL1
  go_wp2_with fail
  refine HBC.out.mono ?_
  rintro e w3 ⟨rfl,hfr3,hA3⟩
  have hx3:=hfr3.keep HX2.out HN.out
  have HX3:=Hd hx3
  have HF3:=Hd (HF2.out.trans hfr3)
  have z3:=cell_in (i:=2) hx3 rfl
  have z4:=cell_in (i:=3) hx3 rfl
  clear hx3 hfr3 HX2 HF2 HBC
  simp only at hA3
  obtain rfl|rfl:v1=0∨v1=1:=by omega
  ·have HL2:=Hd (show res=_ from HL1.out.trans (if_pos rfl))
   have ht:=(Y.tree_ok hA3.ok false (by omega:q+2<18) a8 3).2
   have HTC:=Hd (tree_calls hA3 (q+2) a8 3 (by omega) (by omega) (by omega))
   clear HL1 hA3
   generalize y1.tree false (q+2) a8 3=r1 at*
   go_wp2_with fail
   refine HTC.out.mono ?_
   rintro e w4 ⟨rfl,hfr4,hA4⟩
   have HF4:=Hd (HF3.out.trans hfr4)
   have HA4:=Hd hA4
   clear hfr4 hA4
   go_wp2_with fail
   go_ret
   rw[HL2.out]
   exact⟨ret_int (by omega),HF4.out,HA4.out⟩
  ·have HL2:=Hd (show res=_ from HL1.out.trans (if_neg (by decide)))
   have ht:=(Y.tree_ok hA3.ok false (by omega:q+3<18) 0 8).2
   have HTC:=Hd (tree_calls hA3 (q+3) 0 8 (by omega) (by omega) (by omega))
   clear HL1 hA3
   generalize y1.tree false (q+3) 0 8=r1 at*
   go_wp2_with fail
   refine HTC.out.mono ?_
   rintro e w4 ⟨rfl,hfr4,hA4⟩
   have HF4:=Hd (HF3.out.trans hfr4)
   have HA4:=Hd hA4
   clear hfr4 hA4
   go_wp2_with fail
   go_ret
   rw[HL2.out]
   exact⟨ret_int (by omega),HF4.out,HA4.out⟩
end Lz
namespace Rf
open Mem Rc St Lz
def rtree(y:Y)(j a n:Nat):Nat×Y:=((up j a n 1 y).1-2^n,(up j a n 1 y).2)
def rback(y:Y)(j a n:Nat):Nat×Y:=dn j a n n 1 0 y
def rlength(y:Y)(c:C)(q:Nat):Nat×Y:=
 if(y.bit q 0).1=0 then(2+(rtree (y.bit q 0).2 (q+1) (8*c.place) 3).1,(rtree (y.bit q 0).2 (q+1) (8*c.place) 3).2)
 else if((y.bit q 0).2.bit q 1).1=0 then(10+(rtree ((y.bit q 0).2.bit q 1).2 (q+2) (8*c.place) 3).1,(rtree ((y.bit q 0).2.bit q 1).2 (q+2) (8*c.place) 3).2)
 else(18+(rtree ((y.bit q 0).2.bit q 1).2 (q+3) 0 8).1,(rtree ((y.bit q 0).2.bit q 1).2 (q+3) 0 8).2)
def rrest(y:Y)(slot:Nat):Nat×Y:=
 if slot<4 then((range slot).1,y)
 else if slot<14 then((range slot).1+(rback y 16 (restAt slot) (range slot).2).1,(rback y 16 (restAt slot) (range slot).2).2)
 else if y.bad then(0,y)
 else if(y.direct ((range slot).2-4)).2.bad then(0,(y.direct ((range slot).2-4)).2)
 else((range slot).1+16*(y.direct ((range slot).2-4)).1+(rback (y.direct ((range slot).2-4)).2 17 0 4).1,(rback (y.direct ((range slot).2-4)).2 17 0 4).2)
def rdist(y:Y)(n:Nat):Nat×Y:=rrest (rtree y 15 (slotAt n) 6).2 (rtree y 15 (slotAt n) 6).1
def rmatch(y:Y)(c:C):Sy×Y:=(⟨2,0,(rlength y c 7).1,(rdist (rlength y c 7).2 (rlength y c 7).1).1⟩,(rdist (rlength y c 7).2 (rlength y c 7).1).2)
def rrepeat(y:Y)(c:C)(i:Nat):Sy×Y:=(⟨3,0,(rlength y c 11).1,i⟩,(rlength y c 11).2)
def rlitS(y:Y)(c:C):Sy×Y:=(⟨1,(rlit y c).1-256,0,0⟩,(rlit y c).2)
def rshort(y:Y)(c:C):Sy×Y:=if(y.bit 1 c.at).1=0 then(⟨4,0,0,0⟩,(y.bit 1 c.at).2) else rrepeat (y.bit 1 c.at).2 c 0
def rolder(y:Y)(c:C):Sy×Y:=if(y.bit 4 c.s.num).1=1 then rrepeat ((y.bit 4 c.s.num).2.bit 5 c.s.num).2 c (2+((y.bit 4 c.s.num).2.bit 5 c.s.num).1) else rrepeat (y.bit 4 c.s.num).2 c 1
def rsymbol2(y:Y)(c:C):Sy×Y:=if(y.bit 3 c.s.num).1=0 then rshort (y.bit 3 c.s.num).2 c else rolder (y.bit 3 c.s.num).2 c
def rsymbol1(y:Y)(c:C):Sy×Y:=if(y.bit 2 c.s.num).1=0 then rmatch (y.bit 2 c.s.num).2 c else rsymbol2 (y.bit 2 c.s.num).2 c
def rsymbol(y:Y)(c:C):Sy×Y:=if(y.bit 0 c.at).1=0 then rlitS (y.bit 0 c.at).2 c else rsymbol1 (y.bit 0 c.at).2 c
structure AlikeS(r s:Sy×Y):Prop where
 y:r.2=s.2
 v:s.2.bad=false→r.1=s.1
theorem rtree_alike{lc lp:Nat}{y:Y}(h:y.Ok lc lp){j a n:Nat}(hj:j<18)(hn:n≤16)(hl:a+2^n≤Lz.rowLen lc lp j):Alike (rtree y j a n) (y.tree false j a n):=
 up_tree y j a n (fun _=>by rw[h.len j hj];have:=Nat.two_pow_pos n;omega)
theorem rback_alike{lc lp:Nat}{y:Y}(h:y.Ok lc lp){j a n:Nat}(hj:j<18)(hn:n≤16)(hl:a+2^n≤Lz.rowLen lc lp j):Alike (rback y j a n) (y.tree true j a n):=
 dn_tree y j a n (fun _=>by rw[h.len j hj];have:=Nat.two_pow_pos n;omega)
theorem rtree_lt(y:Y)(j a n:Nat):(rtree y j a n).1<2^n:=by
 have h:=up_range j a n 1 y 0 (by simp) (by simp)
 rw[Nat.zero_add,Nat.pow_succ] at h
 show(up j a n 1 y).1-2^n<2^n
 omega
theorem row_low{lc lp q:Nat}(hq:q=7∨q=11):Lz.rowLen lc lp (q+1)=128∧Lz.rowLen lc lp (q+2)=128∧Lz.rowLen lc lp (q+3)=256:=by
 rcases hq with rfl|rfl
 ·exact⟨rfl,rfl,rfl⟩
 ·exact⟨rfl,rfl,rfl⟩
theorem rlength_alike{y:Y}{c:C}(h:y.Ok c.lc c.lp)(hc:c.Ok){q:Nat}(hq:q=7∨q=11):Alike (rlength y c q) (y.length c q):=by
 have hp:=hc.place
 obtain⟨l1,l2,l3⟩:=row_low (lc:=c.lc) (lp:=c.lp) hq
 have h1:=Y.bit_ok h (by omega:q<18) 0
 have h2:=Y.bit_ok h1.1 (by omega:q<18) 1
 unfold rlength Y.length
 split
 ·have ha:=rtree_alike h1.1 (by omega:q+1<18) (by omega:3≤16) (a:=8*c.place) (by rw [l1];omega)
  exact⟨ha.y,fun hb=>by simp only;rw[ha.v hb]⟩
 ·split
  ·have ha:=rtree_alike h2.1 (by omega:q+2<18) (by omega:3≤16) (a:=8*c.place) (by rw [l2];omega)
   exact⟨ha.y,fun hb=>by simp only;rw[ha.v hb]⟩
  ·have ha:=rtree_alike h2.1 (by omega:q+3<18) (by omega:8≤16) (a:=0) (by rw [l3];omega)
   exact⟨ha.y,fun hb=>by simp only;rw[ha.v hb]⟩
theorem range_zero:∀s:Fin 64,((range s).2=0↔s.val<4)∧(4≤s.val→s.val<14→restAt s.val+2^(range s.val).2≤128):=by decide+kernel
theorem rrest_alike{lc lp:Nat}{y:Y}(h:y.Ok lc lp){slot:Nat}(hs:slot<64):Alike (rrest y slot) (y.rest slot):=by
 have hr:=range_le ⟨slot,hs⟩
 have hz:=range_zero ⟨slot,hs⟩
 simp only at hr hz
 unfold rrest Y.rest
 by_cases h4:slot<4
 ·rw[if_pos h4,if_pos (hz.1.2 h4)]
  exact⟨rfl,fun _=>rfl⟩
 rw[if_neg h4,if_neg (fun e=>h4 (hz.1.1 e))]
 by_cases h14:slot<14
 ·rw[if_pos h14,if_pos h14]
  have ha:=rback_alike h (by omega:16<18) (by have:=(hr.2.2.2.2 (by omega) h14).1;omega:(range slot).2≤16) (a:=restAt slot) (hz.2 (by omega) h14)
  exact⟨ha.y,fun hb=>by simp only;rw[ha.v hb]⟩
 rw[if_neg h14,if_neg h14]
 cases hb:y.bad with
 |true=>
   rw[if_pos rfl,direct_bad hb,tree_bad hb]
   exact⟨rfl,fun h=>by simp only at h;rw[hb] at h;cases h⟩
 |false=>
   rw[if_neg (by decide)]
   have h1:=Y.direct_ok h ((range slot).2-4)
   cases hd:(y.direct ((range slot).2-4)).2.bad with
   |true=>
     rw[if_pos rfl,tree_bad hd]
     exact⟨rfl,fun h=>by simp only at h;rw[hd] at h;cases h⟩
   |false=>
     rw[if_neg (by decide)]
     have ha:=rback_alike h1.1 (by omega:17<18) (by omega:4≤16) (a:=0) (by decide:0+2^4≤16)
     exact⟨ha.y,fun hb=>by simp only;rw[ha.v hb,Nat.mul_comm]⟩
theorem rest_bad{y:Y}(h:y.bad=true)(slot:Nat):(y.rest slot).2=y:=by
 unfold Y.rest
 split
 ·rfl
 ·split
  ·rw[tree_bad h]
  ·rw[direct_bad h,tree_bad h]
theorem rback_bad{y:Y}(h:y.bad=true)(j a n:Nat):(rback y j a n).2=y:=dn_bad j a n n 1 0 y h
theorem rrest_bad{y:Y}(h:y.bad=true)(slot:Nat):(rrest y slot).2=y:=by
 unfold rrest
 split
 ·rfl
 ·split
  ·exact rback_bad h _ _ _
  ·first
    |rfl
    |rw[if_pos h]
theorem rdist_alike{lc lp:Nat}{y:Y}(h:y.Ok lc lp)(n:Nat):Alike (rdist y n) (y.dist n):=by
 have hs:slotAt n≤192:=by unfold slotAt;omega
 have ha:=rtree_alike h (by omega:15<18) (by omega:6≤16) (a:=slotAt n) (by show slotAt n+64≤256;omega)
 have h1:=Y.tree_ok h false (by omega:15<18) (slotAt n) 6
 unfold rdist Y.dist
 rw[ha.y]
 cases hb:(y.tree false 15 (slotAt n) 6).2.bad with
 |true=>
   refine⟨by rw[rrest_bad hb,rest_bad hb],fun h=> ?_⟩
   rw[rest_bad hb,hb] at h
   cases h
 |false=>
   rw[ha.v hb]
   exact rrest_alike h1.1 (by simpa using h1.2)
theorem dist_bad{y:Y}(h:y.bad=true)(n:Nat):(y.dist n).2=y:=by
 unfold Y.dist
 rw[tree_bad h]
 exact rest_bad h _
theorem rdist_bad{y:Y}(h:y.bad=true)(n:Nat):(rdist y n).2=y:=by
 unfold rdist rtree
 rw[up_bad 15 (slotAt n) 6 1 y h]
 exact rrest_bad h _
theorem rmatch_alike{y:Y}{c:C}(h:y.Ok c.lc c.lp)(hc:c.Ok):AlikeS (rmatch y c) (y.match c):=by
 have ha:=rlength_alike h hc (.inl rfl:7=7∨7=11)
 have h1:=Y.length_ok h (.inl rfl:7=7∨7=11)
 unfold rmatch Y.match
 rw[ha.y]
 cases hb:(y.length c 7).2.bad with
 |true=>
   refine⟨by simp only;rw[rdist_bad hb,dist_bad hb],fun h=> ?_⟩
   simp only at h
   rw[dist_bad hb,hb] at h
   cases h
 |false=>
   rw[ha.v hb]
   have hd:=rdist_alike h1.1 (y.length c 7).1
   exact⟨hd.y,fun hb=>by simp only;rw[hd.v hb]⟩
theorem rrepeat_alike{y:Y}{c:C}(h:y.Ok c.lc c.lp)(hc:c.Ok)(i:Nat):AlikeS (rrepeat y c i) (y.repeat c i):=by
 have ha:=rlength_alike h hc (.inr rfl:11=7∨11=11)
 exact⟨ha.y,fun hb=>by unfold rrepeat Y.repeat;simp only;rw[ha.v hb]⟩
theorem lastB_lt(c:C)(d:Nat):c.lastB d<256:=by
 unfold C.lastB Win.last
 split
 ·exact UInt8.toNat_lt _
 ·simp
def C.lit(c:C):Nat:=c.all.length%2^c.lp*2^c.lc+c.lastB 1/2^(8-c.lc)
theorem lit_lt{c:C}(hc:c.Ok):C.lit c<2^(c.lc+c.lp):=by
 have hl:=hc.l
 unfold C.lit
 have h1:c.all.length%2^c.lp<2^c.lp:=Nat.mod_lt _ (Nat.two_pow_pos _)
 have h2:c.lastB 1/2^(8-c.lc)<2^c.lc:=by
  rw[Nat.div_lt_iff_lt_mul (Nat.two_pow_pos _),←Nat.pow_add,show c.lc+(8-c.lc)=8 by omega]
  exact lastB_lt c 1
 rw[Nat.pow_add,Nat.mul_comm (2^c.lc)]
 have h3:(c.all.length%2^c.lp+1)*2^c.lc≤2^c.lp*2^c.lc:=Nat.mul_le_mul_right _ h1
 rw[Nat.add_mul,Nat.one_mul] at h3
 omega
theorem context_eq(c:C):c.context=768*C.lit c:=rfl
theorem lit_16{c:C}(hc:c.Ok):C.lit c<16:=Nat.lt_of_lt_of_le (lit_lt hc) (Nat.pow_le_pow_right (n:=2) (by omega) hc.l)
theorem context_le{y:Y}{c:C}(h:y.Ok c.lc c.lp)(hc:c.Ok):c.context+768≤(y.ps 6).length:=by
 rw[h.len 6 (by omega),context_eq]
 have:=lit_lt hc
 show 768*C.lit c+768≤768*2^(c.lc+c.lp)
 omega
theorem rlitS_alike{y:Y}{c:C}(h:y.Ok c.lc c.lp)(hc:c.Ok):AlikeS (rlitS y c) (y.lit c):=by
 have ha:=rlit_alike y c (fun _=>by have:=context_le h hc;omega)
 exact⟨ha.y,fun hb=>by
  have h1:=ha.v hb
  simp only at h1
  unfold rlitS Y.lit
  simp only
  rw[h1]⟩
theorem rsymbol_alike{y:Y}{c:C}(h:y.Ok c.lc c.lp)(hc:c.Ok):AlikeS (rsymbol y c) (y.symbol c):=by
 have h0:=Y.bit_ok h (by omega:0<18) c.at
 unfold rsymbol Y.symbol
 split
 ·exact rlitS_alike h0.1 hc
 ·have h2:=Y.bit_ok h0.1 (by omega:2<18) c.s.num
  unfold rsymbol1 Y.symbol1
  split
  ·exact rmatch_alike h2.1 hc
  ·have h3:=Y.bit_ok h2.1 (by omega:3<18) c.s.num
   unfold rsymbol2 Y.symbol2
   split
   ·have h4:=Y.bit_ok h3.1 (by omega:1<18) c.at
    unfold rshort Y.short
    split
    ·exact⟨rfl,fun _=>rfl⟩
    ·exact rrepeat_alike h4.1 hc 0
   ·have h4:=Y.bit_ok h3.1 (by omega:4<18) c.s.num
    have h5:=Y.bit_ok h4.1 (by omega:5<18) c.s.num
    unfold rolder Y.older
    split
    ·exact rrepeat_alike h5.1 hc _
    ·exact rrepeat_alike h4.1 hc 1
end Rf
end Go.Proofs.YtilegoadokmcdaaGreatDoor
