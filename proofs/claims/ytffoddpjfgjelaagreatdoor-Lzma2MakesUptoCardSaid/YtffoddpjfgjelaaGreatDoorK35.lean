/- Part 35 of 54: lemmas of the last part, each under the conditions that it names. -/
import Derived.Test.YtffoddpjfgjelaaGreatDoorK34
set_option linter.unusedVariables false
set_option linter.unusedSimpArgs false
set_option maxRecDepth 1500
set_option maxHeartbeats 4000000
namespace Go.Proofs.YtffoddpjfgjelaaGreatDoor
open Go.RowKit
namespace Pk
open Mem Rc St Lz En Win Ck
theorem xoff{w:World}{l:XL}{x:Xe}(h:XE w l x){k:Nat}{i:Array Value}{t:TypeId}{fr:Nat×Nat}(b:w.heap[k]? =some (.cells i t fr))(m:t≠149)(n:t≠217)(o:t≠210)(p:t≠219)(q:t≠3)(f:t≠5):¬XFoot l k:=by
 rintro(rfl|((rfl|e)|⟨j,s,rfl⟩)|rfl|e|rfl)
 ·exact Ps.neOf b h.at'.d m rfl
 ·obtain⟨g,a,_⟩:=h.at'.rc
  exact Ps.neOf b a.box p rfl
 ·obtain⟨g,a,_⟩:=h.at'.rc
  obtain⟨c,d⟩:=Lz.own_block a.own e;exact Ps.neOf b d f rfl
 ·obtain⟨_,_,_,r,_⟩:=h.at'.tab.set j s
  exact Ps.neOf b r q rfl
 ·exact Ps.neOf b h.at'.win.box o rfl
 ·obtain⟨c,d⟩:=Lz.own_block h.at'.win.own e
  exact Ps.neOf b d f rfl
 ·exact Ps.neOf b h.at'.tab.box n rfl
theorem xset5{w:World}{l:XL}{x:Xe}{Y:Nat}{a b c d e:Value}(h:XE w l x)(f:w.heap[Y]? =some (.cells #[a,b,c,d,e] 84 (0,0)))(p q r s t:Value):XE (((((w.setCell ⟨Y,0,none⟩ p).setCell ⟨Y,1,none⟩ q).setCell ⟨Y,2,none⟩ r).setCell ⟨Y,3,none⟩ s).setCell ⟨Y,4,none⟩ t) l x:=
 xaside h f (((((Fr.one _ _ _ _).trans (Fr.one _ _ _ _)).trans (Fr.one _ _ _ _)).trans (Fr.one _ _ _ _)).trans (Fr.one _ _ _ _)) (by decide) (by decide) (by decide) (by decide) (by decide) (by decide) (by decide)
theorem next_isL(s:S)(y:Sy)(a:(s.next y).1=0)(b:y.kind=2∨y.kind=3):isL y.len:=by
 by_cases c:isL y.len
 ·exact c
 ·exfalso
  unfold S.next at a;rcases b with b|b
  ·rw[if_neg (by omega),if_neg (by omega),if_pos b,if_neg c] at a
   simp at a
  ·rw[if_neg (by omega),if_neg (by omega),if_neg (by omega),if_neg c] at a
   simp at a
theorem size_pos{s:S}{y:Sy}(h:(s.next y).1=0)(b:y.Ok):1≤St.size y:=by
 obtain⟨c,d⟩:=size_of h b;by_cases a:y.kind=1
 ·rw[c a]
  exact Nat.le_refl _
 ·rw[d a]
  unfold lenOfSy;split
  ·exact Nat.le_refl _
  ·have e:=b.kind
   have:=next_isL s y h (by omega);unfold isL at this;omega
theorem steps_len{data:List UInt8}{a:Nat}:∀{l:List Sy}{p q:Nat}{s t:S},Pk.Steps data a l p s q t→l.length+p≤q
 |[],p,q,s,t,⟨h1,h2⟩=>by subst h1;simp
 |y::l,p,q,s,t,⟨h1,h2⟩=>by
   have:=steps_len h2;have:=size_pos h1.next h1.ok;rw[List.length_cons];omega
theorem steps_ok{data:List UInt8}{b:Nat}:∀{l:List Sy}{p q:Nat}{s t:S},Pk.Steps data b l p s q t→∀y ∈ l,y.Ok
 |[],p,q,s,t,_,y,a=>by simp at a
 |z::l,p,q,s,t,⟨h1,h2⟩,y,a=>by
   rcases List.mem_cons.1 a with rfl|a
   ·exact h1.ok
   ·exact steps_ok h2 y a
theorem fine_of{y:Sy}{s:S}(g:y.Ok)(a:(s.next y).1=0):(Ps.zOf y).Fine:=by
 refine⟨?_,by rw[Ps.zOf_sy];rfl⟩;obtain⟨k,b,n,d⟩:=y;have f:=g.kind;have e:=g.dist;unfold Ps.zOf Sz.bad;unfold S.next at a;simp only at f e a ⊢;rcases f with rfl|rfl|rfl|rfl
 ·rfl
 ·by_cases c:isL n
  ·by_cases h:isD d
   ·rw[if_neg (by decide),if_pos (show((2:Nat):Int)=2 from rfl),if_pos]
    unfold isL isD at*;omega
   ·simp[c,h] at a
  ·simp[c] at a
 ·by_cases c:isL n
  ·rw[if_neg (by decide),if_neg (by decide),if_pos (show((3:Nat):Int)=3 from rfl),if_pos]
   have:=e rfl;unfold isL at*;omega
  ·simp[c] at a
 ·rfl
theorem steps_fine{data:List UInt8}{b:Nat}:∀{l:List Sy}{p q:Nat}{s t:S},Pk.Steps data b l p s q t→∀y ∈ l,(Ps.zOf y).Fine
 |[],p,q,s,t,_,y,a=>by simp at a
 |z::l,p,q,s,t,⟨h1,h2⟩,y,a=>by
   rcases List.mem_cons.1 a with rfl|a
   ·exact fine_of h1.ok h1.next
   ·exact steps_fine h2 y a
theorem syms5{w0 w:World}{v:Value}{l:List Sy}{Y:Nat}{a b c d e:Value}(h:Lz.Syms w0 w v l)(g:w.heap[Y]? =some (.cells #[a,b,c,d,e] 84 (0,0)))(p q r s t:Value):Lz.Syms w0 (((((w.setCell ⟨Y,0,none⟩ p).setCell ⟨Y,1,none⟩ q).setCell ⟨Y,2,none⟩ r).setCell ⟨Y,3,none⟩ s).setCell ⟨Y,4,none⟩ t) v l:=
 h.step (S:=fun k=>k=Y) (((((Fr.one _ _ _ _).trans (Fr.one _ _ _ _)).trans (Fr.one _ _ _ _)).trans (Fr.one _ _ _ _)).trans (Fr.one _ _ _ _)) (fun j hj e=>by
  subst e;obtain⟨f,i⟩:=Lz.own_block h.own hj;exact Ps.neOf g i (by decide) rfl)
def TriedPost(w:World)(t:Pst)(cf:Cf)(data:List UInt8)(fm tp:Nat)(e:Ending)(w':World):Prop:=
 Fr (fun _=>False) w w'∧((cf.mode=0∧e=.returned (.pointer none))∨(cf.mode≠0∧∃(ys:List Sy)(s':S),By cf.mode cf.dict data tp fm (t.from' cf.pr).c.s ys s'∧Legal ys (t.from' cf.pr)∧Steps data tp ys fm (t.from' cf.pr).c.s tp s'∧
  ((65536<((t.from' cf.pr).putAll ys).e.k.bytes.length∧e=.returned (.pointer none))∨(((t.from' cf.pr).putAll ys).e.k.bytes.length≤65536∧∃(Z:Nat)(bv:Value)(l':XL),e=.returned (ptr Z)∧
  ResAt w' Z (t.headP cf.pr (tp-fm) ((t.from' cf.pr).putAll ys).e.k.bytes.length) bv ((t.from' cf.pr).putAll ys).e.k.bytes l' ((t.from' cf.pr).putAll ys).cut ((t.from' cf.pr).putAll ys).c.s∧w.heap.size≤Z∧(∀j,XFoot l' j→w.heap.size≤j)∧
  Mine w w' bv ((t.from' cf.pr).putAll ys).e.k.bytes))))
set_option maxRecDepth 100000 in
theorem tried_calls(G o tp:Nat)(c:Cf)(dv ov:Value)(data:List UInt8)(l:XL)(t:Pst)(w0 w:World)(h:PkAt w0 w G c dv ov data l t)(hT:Tabs w)(o1:o<tp)(ht:tp≤data.length)(y5:tp-o≤65536)(hb:data.length≤1073741824)(e8:t.x.e.k=K.new)(hm:t.x.c.all=data.take o)(k8:t.x.Ok)(c4:t.s.Ok)(N:t.kind=3→t.s=t.x.c.s)(n9:1≤c.dict)(o0:c.dict≤4294967295)(l3:t.x.c.size=c.dict)(v4:c.lc+c.lp≤4)(v3:c.pb≤4):
 Calls Tryz.prog 37 #[ptr G,.int .i64 o,.int .i64 tp] w (TriedPost w t c data o tp):=by
 have v6:=h.rd;obtain⟨p,h9,rfl,x0,y7,_⟩:=v6;have s:=h.box;have j6:t.x.e.k.s≤1099511627000:=by rw[e8];decide
 have HF:=Hd (xfork_calls h.xe j6);have b6:=Hd (kind_calls G c (.slice p data.length h9) ov data l t w0);have HH:=Hd h;have m9:=Hd h.rd;have HT:=Hd hT;simp only[pkCells] at s;have HB:=Hd s;have c0:=cell_in (i:=7) s rfl;clear h s hT;by_cases j7:c.mode=0
 ·have e0:(c.mode:Int)=0:=by omega
  go_enter Tryz.func37,Tryz.ntmps37;go_wp2_with fail;go_ret;exact⟨Fr.refl _ _,.inl ⟨j7,rfl⟩⟩
 ·obtain⟨f1,x,⟨sn,s0,s1,s2,s3⟩,b1,b2,b3⟩:=t
  simp only at j6 e8 hm k8 c4 N l3 HF HB b6 HH c0;have y9:¬(c.mode:Int)=0:=by omega
  go_enter Tryz.func37,Tryz.ntmps37;go_wp2_with fail;obtain⟨kd,j5⟩:∃kd,(Pst.kind ⟨f1,x,⟨sn,s0,s1,s2,s3⟩,b1,b2,b3⟩)=kd:=⟨_,rfl⟩;rw[j5] at b6;have g8:=Hd (show∀w':World,Fr (fun _=>False) w w'→Calls Tryz.prog 68 #[ptr l.D] w' (XForked w' x) from fun w' U=>xfork_calls (HH.out.xe.keep U) j6);have d:=Hd ((R0 w).drew);have a2:=Hd (((R0 w).alloc (.cells #[.int .i64 0,.int .i64 0,.int .i64 0,.int .i64 0,.int .i64 0] 84)).drew);have r2:((w.alloc (.cells #[.int .i64 0,.int .i64 0,.int .i64 0,.int .i64 0,.int .i64 0] 84)).drew).heap[w.heap.size]? =some (.cells #[.int .i64 0,.int .i64 0,.int .i64 0,.int .i64 0,.int .i64 0] 84 (0,0)):=heap_alloc_new w _;have n3:=Hd r2;have V:=Hd (show∀w':World,Fr (fun _=>False) w w'→(w'.cell? ⟨G,9,none⟩=some (ptr l.D)∧w'.cell? ⟨G,10,none⟩=some (.int .i64 sn)∧w'.cell? ⟨G,11,none⟩=some (.int .i64 s0)∧w'.cell? ⟨G,12,none⟩=some (.int .i64 s1)∧w'.cell? ⟨G,13,none⟩=some (.int .i64 s2)∧w'.cell? ⟨G,14,none⟩=some (.int .i64 s3)) from fun w' U=>
   ⟨cell_in (i:=9) (U.keep HB.out (fun h=>h)) rfl,cell_in (i:=10) (U.keep HB.out (fun h=>h)) rfl,cell_in (i:=11) (U.keep HB.out (fun h=>h)) rfl,cell_in (i:=12) (U.keep HB.out (fun h=>h)) rfl,cell_in (i:=13) (U.keep HB.out (fun h=>h)) rfl,cell_in (i:=14) (U.keep HB.out (fun h=>h)) rfl⟩)
  have J:=Hd (V.out _ d.out);obtain⟨e0,e1,e2,e3,e4,e5⟩:=V.out w (Fr.refl _ _);have t1:=Hd N;have x5:=Hd k8;have x6:=Hd c4;have b9:=Hd j5;have m6:=Hd hm;have m4:=Hd e8;clear r2 HF N k8 c4 j5 hm e8;go_cut [7,8,9] (fun s7 s8 s9 wx=>∃(l1:XL)(zs:Nat),s7=.int .i64 kd∧s8=ptr l1.D∧s9=.pointer (some ⟨zs,0,none⟩)∧wx.heap[zs]? =some (.cells #[.int .i64 sn,.int .i64 s0,.int .i64 s1,.int .i64 s2,.int .i64 s3] 84 (0,0))∧Fr (fun _=>False) w wx∧XE wx l1 x∧(∀j,XFoot l1 j→w.heap.size≤j)∧w.heap.size≤zs);case first=>
   go_region_held3 (fun w'=>w'.cell? ⟨G,9,none⟩=some (ptr l.D)∧w'.cell? ⟨G,10,none⟩=some (.int .i64 sn)∧w'.cell? ⟨G,11,none⟩=some (.int .i64 s0)∧w'.cell? ⟨G,12,none⟩=some (.int .i64 s1)∧w'.cell? ⟨G,13,none⟩=some (.int .i64 s2)∧w'.cell? ⟨G,14,none⟩=some (.int .i64 s3))
    (first|with_reducible exact J.out|with_reducible exact V.out _ d.out|with_reducible exact V.out _ a2.out|with_reducible exact V.out _ (d.out.alloc _)|(refine V.out _ ?_;(repeat refine Fr.setCell ?_ (.inr (by first|exact Nat.le_refl _|exact d.out.size)) _);first|exact d.out|exact d.out.alloc _)) ((first
    | (go_at_call 70
       first
        | (with_reducible refine (b6.out _ (HH.out.keep d.out)).mono ?_
           rintro e wc ⟨rfl,rfl⟩)
        | (with_reducible refine (b6.out _ (HH.out.keep a2.out)).mono ?_
           rintro e wc ⟨rfl,rfl⟩))
    | (go_at_call 68
       first
        | (with_reducible refine (g8.out _ d.out).mono ?_
           rintro e wc ⟨l1,rfl,r,A,D⟩;have P:=Hd (show∀j,XFoot l1 j→w.heap.size≤j from fun j B=>Nat.le_trans d.out.size (D j B));have Q:=Hd A;have d:=Hd (d.out.trans r);have J:=Hd (V.out _ d.out);clear r A D)
        | (with_reducible refine (g8.out _ a2.out).mono ?_
           rintro e wc ⟨l1,rfl,r,A,D⟩;have P:=Hd (show∀j,XFoot l1 j→w.heap.size≤j from fun j B=>Nat.le_trans a2.out.size (D j B));have Q:=Hd A;have L:=r.keep n3.out (fun h=>h);have x4:=Hd (show∀j,XFoot l1 j→w.heap.size<j from fun j B=>Nat.lt_of_lt_of_le (by rw[World.size_drew,World.size_alloc];exact Nat.lt_succ_self _) (D j B));have d:=Hd (a2.out.trans r);have J:=Hd (V.out _ d.out);obtain⟨z0,z1,z2,z3,z4,zf⟩:=cf5 L rfl rfl rfl rfl rfl;have W:=Hd L;clear r A D L))))
   all_goals go_wp2_with fail
   all_goals go_meet
   all_goals first
    |with_reducible exact⟨l1,_,rfl,rfl,rfl,heap_alloc_new wc _,d.out.alloc _,Q.out.keep ((Fr.refl _ _).alloc _),P.out,d.out.size⟩
    |with_reducible exact⟨l1,_,rfl,rfl,rfl,Ps.s5 W.out _ _ _ _ _,Ps.fr5z d.out (Nat.le_refl _) _ _ _ _ _,xset5 Q.out W.out _ _ _ _ _,P.out,Nat.le_refl _⟩
  case rest=>
   obtain⟨l1,zs,rfl,rfl,rfl,d0,o5,A,D,l8⟩:=hcut;have d5:=Hd d0;have a9:=Hd o5;have Q:=Hd A;have P:=Hd D;obtain⟨H,f9⟩:∃H,Pst.from' ⟨f1,x,⟨sn,s0,s1,s2,s3⟩,b1,b2,b3⟩ c.pr=H:=⟨_,rfl⟩;have a5:=Hd f9;clear d0 o5 A D f9 e0 e1 e2 e3 e4 e5 c0;go_upto_if 35 with fail;go_cut [8](fun s8 wx=>∃l2:XL,s8=ptr l2.D∧wx.heap[zs]? =some (.cells H.c.s.cells 84 (0,0))∧Fr (fun _=>False) w wx∧XE wx l2 H∧(∀j,XFoot l2 j→w.heap.size≤j));case first=>
    by_cases h3:kd=3
    ·have v0:((kd:Int) !=3)=false:=by simp[h3]
     go_wp2_with fail;go_meet;have A:H=x:=by
      have h:=a5.out;unfold Pst.from' at h;rw[b9.out,if_pos h3] at h;exact h.symm
     have w1:=t1.out (b9.out.trans h3);refine⟨l1,rfl,?_,a9.out,A ▸ Q.out,P.out⟩;rw[A,←w1];exact d5.out
    ·have v0:((kd:Int) !=3)=true:=by simp;omega
     have s:=a9.out.keep HB.out (fun h=>h);have b2:=cell_in (i:=2) s rfl;have b3:=cell_in (i:=3) s rfl;have b4:=cell_in (i:=4) s rfl;clear s;go_wp2_with fail;refine(xreset_calls Q.out c.lc c.lp c.pb v4 v3).mono ?_;rintro e w6 ⟨rfl,i6,l2,j8,l0⟩;have A:(⟨x.c.fresh c.lc c.lp c.pb,⟨x.e.k,Lz.fresh c.lc c.lp⟩⟩:Xe)=H:=by
      have h:=a5.out;unfold Pst.from' at h;rw[b9.out,if_neg h3] at h;rw[←h];simp only;rw[m4.out];rfl
     rw[A] at l0;have v8:H.c.s=S.new:=by rw[←A];rfl
     have c9:=i6.keep d5.out (xoff Q.out d5.out (by decide) (by decide) (by decide) (by decide) (by decide) (by decide));have m3:=Hd (a9.out.trans' i6 (fun j B e=>by have:=P.out j e;omega));have t3:=Hd l0;have t8:=Hd c9;have r6:=Hd j8.D;have s6:=Hd (show∀j,XFoot l2 j→w.heap.size≤j from fun j B=>by
      rcases j8.F j B with e|e
      ·exact P.out j e
      ·exact Nat.le_trans a9.out.size e)
     clear i6 j8 l0 c9 b2 b3 b4;go_wp2_with fail;refine(St.new_calls w6).mono ?_;rintro e w7 ⟨rfl,X⟩;have a8:=X.keep t8.out (fun h=>h);obtain⟨z0,z1,z2,z3,z4,zf⟩:=cf5 a8 rfl rfl rfl rfl rfl;have n4:=Hd a8;have g7:=Hd X;clear a8 X;simp only[S.new,S.cells];go_wp2_with fail;go_meet;refine⟨l2,by rw[r6.out],?_,Ps.fr5z (m3.out.trans g7.out) l8 _ _ _ _ _,xset5 (t3.out.keep g7.out) n4.out _ _ _ _ _,s6.out⟩;rw[v8];exact Ps.s5 n4.out _ _ _ _ _
   case rest=>
    obtain⟨l2,rfl,R,i7,q5,o8⟩:=hcut;have n5:=Hd R;have E:=Hd i7;have d4:=Hd q5;have t0:=Hd o8;have s:=i7.keep HB.out (fun h=>h);have b7:=cell_in (i:=7) s rfl;have b8:=cell_in (i:=8) s rfl;have b5:=cell_in (i:=5) s rfl;clear R i7 q5 o8 s d5 a9 Q P a2 n3 d J V g8 b6;go_upto_if 49 with fail;go_cut [10](fun s10 wx=>∃f:Nat,s10=.func (.func f) #[] #[]∧((c.mode≠2∧f=72)∨(c.mode=2∧f=73))∧wx=wc);case first=>
     by_cases h2:(c.mode:Int)=2
     ·go_wp2_with fail
      go_meet;exact⟨_,rfl,.inr ⟨by omega,rfl⟩,rfl⟩
     ·go_wp2_with fail
      go_meet;exact⟨_,rfl,.inl ⟨by omega,rfl⟩,rfl⟩
    case rest=>
     obtain⟨f,rfl,i8,rfl⟩:=hcut;have c8:=d4.out.at'.ok;have e9:=c8.c.s;have R:=n5.out;obtain⟨q,hq⟩:∃q,H.c.s=q:=⟨_,rfl⟩;rw[hq] at e9 R;obtain⟨qn,q0,q1,q2,q3⟩:=q;simp only[S.cells] at R;have HQ:=Hd hq;have g9:=Hd (show∀w':World,Fr (fun _=>False) wc w'→Calls Tryz.prog f #[.slice p data.length h9,.int .i64 o,.int .i64 tp,.int .i64 c.dict,.agg #[.int .i64 qn,.int .i64 q0,.int .i64 q1,.int .i64 q2,.int .i64 q3]] w' (Ps.ParsePost w' data tp o ⟨qn,q0,q1,q2,q3⟩ (By c.mode c.dict data tp o ⟨qn,q0,q1,q2,q3⟩)) from fun w' U=>by
      rcases i8 with⟨h2,rfl⟩|⟨h2,rfl⟩
      ·rw[show By c.mode c.dict data tp o ⟨qn,q0,q1,q2,q3⟩=fun l t=>Px.Greedy data tp c.dict l o ⟨qn,q0,q1,q2,q3⟩ tp t from funext fun l=>funext fun t=>if_neg h2]
       exact Ps.greedy_calls _ data o tp c.dict ⟨qn,q0,q1,q2,q3⟩ w' (m9.out.keep (E.out.trans U)) (HT.out.keep (E.out.trans U)) e9 o1 ht hb n9 o0
      ·rw[show By c.mode c.dict data tp o ⟨qn,q0,q1,q2,q3⟩=fun l t=>∃pl,Px.Plan data tp c.dict pl∧pl.length=tp-o∧Px.Cheap data tp c.dict o pl l o ⟨qn,q0,q1,q2,q3⟩ tp t from funext fun l=>funext fun t=>if_pos h2]
       exact Ps.cheap_calls _ data o tp c.dict ⟨qn,q0,q1,q2,q3⟩ w' (m9.out.keep (E.out.trans U)) (HT.out.keep (E.out.trans U)) e9 o1 ht hb n9 o0)
     have c2:=Hd R;have V:=Hd (show∀w':World,Fr (fun _=>False) w w'→(w'.cell? ⟨G,8,none⟩=some (.slice p data.length h9)∧w'.cell? ⟨G,5,none⟩=some (.int .i64 c.dict)) from fun w' U=>
      ⟨cell_in (i:=8) (U.keep HB.out (fun h=>h)) rfl,cell_in (i:=5) (U.keep HB.out (fun h=>h)) rfl⟩)
     have d:=Hd ((R0 wc).drew);have J:=Hd (V.out _ (E.out.trans d.out));obtain⟨e0,e1⟩:=V.out wc E.out;obtain⟨g0,g1,g2,g3,g4⟩:=cs5 c2.out rfl rfl rfl rfl rfl;have r5:=d.out.keep c2.out (fun h=>h);obtain⟨j0,j1,j2,j3,j4⟩:=cs5 r5 rfl rfl rfl rfl rfl;clear r5;clear R hq b5 b7 b8 c8 e9;go_upto_region 10 with fail;go_cut [11,12] (fun s11 s12 wx=>∃(t':S)(F:List Sy),s12=.int .i64 0∧wx.heap[zs]? =some (.cells t'.cells 84 (0,0))∧Fr (fun _=>False) w wx∧XE wx l2 H∧Lz.Syms w wx s11 F∧Hid (Pk.Steps data tp F o H.c.s tp t'∧By c.mode c.dict data tp o H.c.s F t'));case first=>
      rcases i8 with⟨_,rfl⟩|⟨_,rfl⟩
      ·skip
       obtain⟨r0,r1⟩:=J.out;go_region_law (first
        |(
         go_simp;go_at_call 72;refine(g9.out _ d.out).mono ?_;rintro e wd ⟨r,v,F,⟨un,u0,u1,u2,u3⟩,rfl,k1,k2,_,k3⟩;have v7:=d.out.size;have h8:=Hd (show Lz.Syms w wd v F from⟨k1.own,fun j B=>by have:=k1.new j B;have:=E.out.size;omega⟩);have h7:=Hd (show Pk.Steps data tp F o H.c.s tp ⟨un,u0,u1,u2,u3⟩∧By c.mode c.dict data tp o H.c.s F ⟨un,u0,u1,u2,u3⟩ from by rw[HQ.out];exact⟨k2,k3.out⟩);have d:=Hd (d.out.trans r);have J:=Hd (V.out _ (E.out.trans d.out));have L:=d.out.keep c2.out (fun h=>h);obtain⟨h0,h1,h2,h3,h4,zf⟩:=cf5 L rfl rfl rfl rfl rfl;have W:=Hd L;simp only[S.cells];clear L r k1 k2 k3))
       all_goals go_wp2_with fail
       all_goals go_meet
       all_goals
        exact⟨⟨un,u0,u1,u2,u3⟩,F,rfl,Ps.s5 W.out _ _ _ _ _,Ps.fr5z (E.out.trans d.out) l8 _ _ _ _ _,xset5 (d4.out.keep d.out) W.out _ _ _ _ _,syms5 h8.out W.out _ _ _ _ _,h7⟩
      ·skip
       obtain⟨r0,r1⟩:=J.out;go_region_law (first
        |(
         go_simp;go_at_call 73;refine(g9.out _ d.out).mono ?_;rintro e wd ⟨r,v,F,⟨un,u0,u1,u2,u3⟩,rfl,k1,k2,_,k3⟩;have v7:=d.out.size;have h8:=Hd (show Lz.Syms w wd v F from⟨k1.own,fun j B=>by have:=k1.new j B;have:=E.out.size;omega⟩);have h7:=Hd (show Pk.Steps data tp F o H.c.s tp ⟨un,u0,u1,u2,u3⟩∧By c.mode c.dict data tp o H.c.s F ⟨un,u0,u1,u2,u3⟩ from by rw[HQ.out];exact⟨k2,k3.out⟩);have d:=Hd (d.out.trans r);have J:=Hd (V.out _ (E.out.trans d.out));have L:=d.out.keep c2.out (fun h=>h);obtain⟨h0,h1,h2,h3,h4,zf⟩:=cf5 L rfl rfl rfl rfl rfl;have W:=Hd L;simp only[S.cells];clear L r k1 k2 k3))
       all_goals go_wp2_with fail
       all_goals go_meet
       all_goals
        exact⟨⟨un,u0,u1,u2,u3⟩,F,rfl,Ps.s5 W.out _ _ _ _ _,Ps.fr5z (E.out.trans d.out) l8 _ _ _ _ _,xset5 (d4.out.keep d.out) W.out _ _ _ _ _,syms5 h8.out W.out _ _ _ _ _,h7⟩
     case rest=>
      obtain⟨t',F,rfl,r4,o2,q6,a6,d3⟩:=hcut;have t9:=Hd r4;have r9:=Hd o2;have n1:=Hd q6;clear r4 o2 q6 n5 E d4 c2 d J V g9 e0 e1 g0 g1 g2 g3 g4 j0 j1 j2 j3 j4 i8;focus
       have k9:=d3.out.1;have w2:=steps_len k9;obtain⟨pm,cm,rfl⟩:=own_slice a6.own;have a4:=Hd a6;have a3:=Hd k9;clear a6 k9;have q8:F.length≤65536:=by omega
       obtain⟨q7,f0⟩:H.e.k=K.new∧H.c.all=data.take o:=by
        have h:=a5.out;unfold Pst.from' at h;split at h
        ·rw[←h]
         exact⟨m4.out,m6.out⟩
        ·rw[←h]
         exact⟨rfl,m6.out⟩
       have g5:H.c.size=c.dict:=by
        have h:=a5.out;unfold Pst.from' at h;split at h
        ·rw[←h]
         exact l3
        ·rw[←h]
         exact l3
       have Z:=Hd (legal_of ht (by omega) f0 g5 a3.out d3.out.2.far);clear g5;have y6:H.c.all.length=o:=by rw[f0,List.length_take];omega
       have t5:=Hd q7;have t4:=Hd f0;have n2:=Hd (steps_ok a3.out);have t6:=Hd (steps_fine a3.out);obtain⟨n,hn⟩:∃n,F.length=n:=⟨_,rfl⟩;rw[hn] at q8 ⊢;have c6:=a4.out;rw[hn] at c6;have n0:=Hd c6;have s4:=Hd hn;clear hn q7 f0 c6 w2 a4;go_wp2_with fail;go_loopw [72] (fun s72 wr=>∃(a b:List Sy)(I:Xe)(m:Nat)(l':XL),s72=.int .i64 a.length∧a++b=F∧Fr (fun _=>False) w wr∧XE wr l' I∧l'.D=l2.D∧(∀j,XFoot l' j→w.heap.size≤j)∧putsZ (F.map Ps.zOf) H 0=putsZ (b.map Ps.zOf) I m∧Hid (Legal b I)∧I.e.k.s≤52*a.length∧I.c.all.length≤o+273*a.length∧Lz.Syms w wr (.slice pm n cm) (a++b)∧wr.heap[zs]? =some (.cells t'.cells 84 (0,0))) (fun s72 _=>n-(intOf s72).toNat);case atStart=>exact⟨[],F,H,0,l2,rfl,rfl,r9.out,n1.out,rfl,t0.out,rfl,Z,by rw[t5.out];exact Nat.le_refl _,by omega,n0.out,t9.out⟩
       case round=>
        obtain⟨a,b,I,m,l',rfl,M,o3,hE,hD,o4,u,m5,f7,n6,a6,L⟩:=hrel;have d7:a.length+b.length=n:=by rw[←s4.out,←M,List.length_append]
        have a1:=Hd o3;have HE:=Hd hE;have d2:=Hd o4;have h6:=Hd u;have a4:=Hd a6;have W:=Hd L;have HD:=Hd hD;have g6:=Hd M;clear o3 hE o4 u a6 L hD M;rcases b with _|⟨y,b⟩
        ·rw[List.length_nil,Nat.add_zero] at d7
         rw[d7] at f7 ⊢;have u:=h6.out;rw[List.map_nil,putsZ] at u;obtain⟨g1,g2,g3⟩:=puts_legal _ H 0 I m n1.out.at'.ok (fun z L=>by
          obtain⟨y,hy,rfl⟩:=List.mem_map.1 L;exact(n2.out y hy).byte) u
         have f8:(F.map Ps.zOf).map Sz.sy=F:=by
          rw[List.map_map];conv=>rhs;rw[←List.map_id F]
          exact List.map_congr_left (fun y _=>Ps.zOf_sy y)
         rw[f8] at g1 g2;have f2:=Hd (xcut_calls HE.out (by omega));rw[HD.out] at f2;have c1:=Hd g2;clear u g1 g2 g3 f8 h6;go_wp2_with fail;refine f2.out.mono ?_;rintro e w5 ⟨v5,rfl,T,i5,l5,k6,q4⟩;obtain⟨p5,c5,rfl⟩:=T.slice;obtain⟨Y,k7⟩:∃Y,I.e.k.bytes.length=Y:=⟨_,rfl⟩;rw[k7] at T ⊢;have d0:=xoff HE.out W.out (by decide) (by decide) (by decide) (by decide) (by decide) (by decide);have t7:=Hd (i5.keep W.out d0);have d1:=Hd (a1.out.trans' i5 (fun j B e=>by have:=d2.out j e;omega));have s5:=Hd (show Mine w w5 (.slice p5 Y c5) I.e.k.bytes from⟨T.own,fun j B=>Nat.le_trans a1.out.size (T.new j B)⟩);have t2:=Hd q4;have r7:=Hd (k6.D.trans HD.out);have m2:=Hd (show∀j,XFoot l5 j→w.heap.size≤j from fun j B=>by
          rcases k6.F j B with e|e
          ·exact d2.out j e
          ·exact Nat.le_trans a1.out.size e)
         have m7:=Hd k7;clear T i5 k6 q4 d0 k7;by_cases w9:(65536:Int)<(Y:Int)
         ·go_wp2_with fail
          go_ret;refine⟨d1.out,.inr ⟨j7,F,t',?_⟩⟩;rw[a5.out,←c1.out,m7.out];exact⟨d3.out.2,Z.out,a3.out,.inl ⟨by omega,rfl⟩⟩
         ·have v1:Y≤65536:=by omega
          have a7:=t7.out;obtain⟨un,u0,u1,u2,u3⟩:=t';simp only[S.cells] at a7;have hw:IntKind.i64.wrap ((tp:Int)-(o:Int))=((tp-o:Nat):Int):=by
           rw[IntWalk.i64_in _ (by omega)];omega
          have z5:(tp:Int)-(o:Int)=((tp-o:Nat):Int):=by omega
          have e6:=(R0 w5).alloc (.cells #[.int .i64 kd,.int .i64 (tp-o:Nat),.int .i64 Y,.int .i64 0,.int .i64 0,.int .i64 0] 47);have c3:=heap_alloc_new w5 (.cells #[.int .i64 kd,.int .i64 (tp-o:Nat),.int .i64 Y,.int .i64 0,.int .i64 0,.int .i64 0] 47);have c9:=e6.keep a7 (fun h=>h);have d6:=(d1.out.trans e6).keep HB.out (fun h=>h);obtain⟨j0,j1,j2,j3,j4⟩:=cs5 c9 rfl rfl rfl rfl rfl;have x7:=cell_in (i:=2) d6 rfl;have x8:=cell_in (i:=3) d6 rfl;have x9:=cell_in (i:=4) d6 rfl;obtain⟨k0,k1,k2,k3,k4,k5,kf⟩:=cf6 c3 rfl rfl rfl rfl rfl rfl;have z6:=lt_of_block a7;have x2:=Hd e6;have x3:=Hd c3;clear e6 c3 c9 d6;have o7:=steps_made (x:=H) ht (by omega) t4.out a3.out Z.out;have p7:(H.putAll F).c.s=⟨un,u0,u1,u2,u3⟩:=o7.2.2.1;have l9:=Hd (show∀(hd:Head)(hc:Array Value),hd=(Pst.headP ⟨f1,x,⟨sn,s0,s1,s2,s3⟩,b1,b2,b3⟩ c.pr (tp-o) Y)→TriedPost w ⟨f1,x,⟨sn,s0,s1,s2,s3⟩,b1,b2,b3⟩ c data o tp (.returned (.pointer (some ⟨w5.heap.size+1,0,none⟩))) ((w5.alloc (.cells hc 47)).alloc (.cells (resCells hd (.slice p5 Y c5) l2.D ⟨un,u0,u1,u2,u3⟩) 155)) from fun hd hc c3=>by
           have i9:=((R0 w5).alloc (.cells hc 47)).alloc (.cells (resCells hd (.slice p5 Y c5) l2.D ⟨un,u0,u1,u2,u3⟩) 155);have n7:=heap_alloc_new (w5.alloc (.cells hc 47)) (.cells (resCells hd (.slice p5 Y c5) l2.D ⟨un,u0,u1,u2,u3⟩) 155);rw[World.size_alloc] at n7;have p8:=d1.out.size;unfold TriedPost;rw[a5.out];have v9:I.c.s=⟨un,u0,u1,u2,u3⟩:=by rw[c1.out];exact p7
           have T:=s5.out.keep i9;refine⟨d1.out.trans i9,.inr ⟨j7,F,_,d3.out.2,Z.out,a3.out,.inr ?_⟩⟩;rw[←c1.out,m7.out];refine⟨v1,w5.heap.size+1,.slice p5 Y c5,l5,rfl,⟨?_,T.rd,t2.out.keep i9⟩,by omega,m2.out,T⟩;rw[v9,r7.out,←c3];exact n7)
          clear o7 p7;by_cases h5:(5:Int)≤(kd:Int)
          ·have X:=(R0 w5).alloc (.cells #[.int .i64 kd,.int .i64 (tp-o:Nat),.int .i64 Y,.int .i64 c.lc,.int .i64 c.lp,.int .i64 c.pb] 47)
           have a8:=X.keep a7 (fun h=>h);obtain⟨i0,i1,i2,i3,i4⟩:=cs5 a8 rfl rfl rfl rfl rfl;have g7:=Hd X;clear X a8 a7;go_wp2_with fail;go_ret;exact l9.out ⟨kd,tp-o,Y,c.lc,c.lp,c.pb⟩ _ (by unfold Pst.headP;rw[b9.out,if_neg (by omega)];rfl)
          ·clear a7
           go_wp2_with fail;go_ret;exact l9.out ⟨kd,tp-o,Y,0,0,0⟩ _ (by unfold Pst.headP;rw[b9.out,if_pos (by omega)])
        ·obtain⟨g,w3,y4,o6,C,y0,y1,y2,y3,n8,_⟩:=Ps.sy_open a4.out
         simp only[Value.slice.injEq] at o6;obtain⟨rfl, -, -⟩:=o6;have l7:=n2.out y (by rw[←g6.out];simp);have l6:=t6.out y (by rw[←g6.out];simp);obtain⟨k,hk⟩:∃k,a.length=k:=⟨_,rfl⟩;rw[List.length_cons] at d7;rw[hk] at y0 y1 y2 y3 n8 f7 n6 d7 ⊢;have u:=h6.out;rw[List.map_cons,putsZ] at u;obtain⟨yk,yb,yl,yd⟩:=y;simp only at y0 y1 y2 y3;have q0:=cell_in (i:=k*4) C y0;have q1:=cell_in (i:=k*4+1) C y1;have q2:=cell_in (i:=k*4+2) C y2;have q3:=cell_in (i:=k*4+3) C y3;have e7:=(R0 wr).alloc (.cells #[.int .i64 yk,.int .u8 yb,.int .i64 yl,.int .i64 yd] 110);have q9:=heap_alloc_new wr (.cells #[.int .i64 yk,.int .u8 yb,.int .i64 yl,.int .i64 yd] 110);obtain⟨b0,b1,b2,b3⟩:=cs4 q9 rfl rfl rfl rfl;have a0:=Hd (xput_calls (HE.out.keep e7) (HT.out.keep (a1.out.trans e7)) (Ps.zOf ⟨yk,yb,yl,yd⟩) l7.byte l6 (by omega) (by omega));have f4:=fun h0=>apZ_put (x:=I) (z:=Ps.zOf ⟨yk,yb,yl,yd⟩) h0 l7.byte;rw[HD.out] at a0;have O:=Hd e7;have m8:=Hd u;have m0:=Hd f4;have HK:=Hd hk;have i1:(0:Int)≤(k:Int):=by omega
         have i2:(k:Int)<(n:Int):=by omega
         have y8:=lt_of_block C;obtain⟨er,d8⟩:∃er,er=(applyZ I.c.size I.c.all I.c.s (Ps.zOf ⟨yk,yb,yl,yd⟩)).1:=⟨_,rfl⟩;rw[←d8] at a0;obtain rfl:er=0:=by
          rw[d8];have h0:=m5.out.2.1;unfold applyZ;rw[if_pos l6.1,Ps.zOf_sy];exact h0
         have r8:=Hd d8;clear l7 l6 e7 q9 C y0 y1 y2 y3 n8 u f4 hk d8;simp only[Ps.zOf,Sz.cells] at a0;go_wp2_with fail;refine a0.out.mono ?_;rintro e w4 ⟨rfl,o9⟩;focus
          rw[if_pos trivial] at o9;obtain⟨d9,l4,j9,p9⟩:=o9;have h0:(I.apZ (Ps.zOf ⟨yk,yb,yl,yd⟩)).1=0:=r8.out.symm;obtain⟨p1,p2,p3,p4⟩:=m0.out h0;have u:=m8.out;rw[if_pos h0] at u;have p8:=O.out.size;have f5:Fr (fun _=>False) w w4:=(a1.out.trans O.out).trans' d9 (fun j B e=>by have:=d2.out j e;omega);have c7:=(a4.out.step O.out (fun _ _ h=>h)).step d9 (fun j B=>by
           obtain⟨w8,v2⟩:=Lz.own_block (a4.out.step O.out (fun _ _ h=>h)).own B;exact xoff (HE.out.keep O.out) v2 (by decide) (by decide) (by decide) (by decide) (by decide) (by decide))
          have r3:=d9.keep (O.out.keep W.out (fun h=>h)) (xoff (HE.out.keep O.out) (O.out.keep W.out (fun h=>h)) (by decide) (by decide) (by decide) (by decide) (by decide) (by decide));have f6:∀j,XFoot l4 j→w.heap.size≤j:=fun j B=>by
           rcases j9.F j B with e|e
           ·exact d2.out j e
           ·exact Nat.le_trans (a1.out.trans O.out).size e
          have f3:a++(⟨yk,yb,yl,yd⟩:Sy)::b=(a++[(⟨yk,yb,yl,yd⟩:Sy)])++b:=by simp
          have M:=g6.out;rw[f3] at c7 M;have p0:(I.put (Ps.zOf ⟨yk,yb,yl,yd⟩).sy).e.k.s≤52*(a++[(⟨yk,yb,yl,yd⟩:Sy)]).length:=by
           rw[List.length_append,List.length_singleton,HK.out];omega
          have p6:(I.put (Ps.zOf ⟨yk,yb,yl,yd⟩).sy).c.all.length≤o+273*(a++[(⟨yk,yb,yl,yd⟩:Sy)]).length:=by
           rw[List.length_append,List.length_singleton,HK.out];omega
          have m1:=Hd (show∃(a b:List Sy)(I:Xe)(m:Nat)(l':XL),Value.int .i64 ((k:Int)+1)=.int .i64 a.length∧a++b=F∧Fr (fun _=>False) w w4∧XE w4 l' I∧l'.D=l2.D∧(∀j,XFoot l' j→w.heap.size≤j)∧putsZ (F.map Ps.zOf) H 0=putsZ (b.map Ps.zOf) I m∧Hid (Legal b I)∧I.e.k.s≤52*a.length∧I.c.all.length≤o+273*a.length∧Lz.Syms w w4 (.slice (some ⟨g,0,none⟩) n cm) (a++b)∧w4.heap[zs]? =some (.cells t'.cells 84 (0,0)) from
           ⟨a++[(⟨yk,yb,yl,yd⟩:Sy)],b,I.put (Ps.zOf ⟨yk,yb,yl,yd⟩).sy,_,l4,by simp[HK.out],M,f5,p9,j9.D.trans HD.out,f6,u,Hd (by rw[Ps.zOf_sy];exact m5.out.2.2),p0,p6,c7,r3⟩)
          clear p0 p6 d9 j9 p9 h0 p1 p2 p3 p4 u p8 f5 c7 r3 f6 f3 M;go_wp2_with fail;go_roundw
          ·exact m1.out
          ·simp[intOf];omega
end Pk
end Go.Proofs.YtffoddpjfgjelaaGreatDoor
