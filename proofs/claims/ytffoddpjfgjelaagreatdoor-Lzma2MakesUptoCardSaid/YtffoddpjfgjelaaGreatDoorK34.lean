/- Part 34 of 54: lemmas of the last part, each under the conditions that it names. -/
import Derived.Deep.RegionHeld3
import Derived.StillTailTactics
import Derived.Test.YtffoddpjfgjelaaGreatDoorK16
import Derived.Test.YtffoddpjfgjelaaGreatDoorK26
import Derived.Test.YtffoddpjfgjelaaGreatDoorK30
import Derived.Test.YtffoddpjfgjelaaGreatDoorK31
import Derived.Test.YtffoddpjfgjelaaGreatDoorK32
import Derived.Test.YtffoddpjfgjelaaGreatDoorK33
set_option linter.unusedVariables false
set_option linter.unusedSimpArgs false
set_option maxRecDepth 1500
set_option maxHeartbeats 8000000
namespace Go.Proofs.YtffoddpjfgjelaaGreatDoor
open Go.RowKit
namespace En
open Mem Rc Win Lz St
theorem code_calls{w:World}{l:XL}{x:Xe}(h:XAt w l x)(e:XSep l)(z:Sz)(a:z.bad=0)(r:z.byte<256)(f:x.e.k.s≤1099511610000):
 Calls Tryz.prog 132 #[ptr l.D,iV l.E,.agg z.cells] w (SPost l w (x.ops (symOps x.c z.sy))):=by
 have c:=Sz.same a;obtain⟨k,b,n,d⟩:=z;unfold Sz.bad at a;simp only at a r c;simp only[Sz.sy,Sz.cells] at c ⊢;unfold symOps;simp only;by_cases o:k=1∨k=4
 ·rcases o with rfl|rfl
  ·exact code_lit h e r f
  ·exact code_short h e f
 ·rw[if_neg o] at a
  by_cases p:k=2
  ·subst p
   rw[if_pos rfl] at a;obtain⟨g,m,_⟩:=c (.inl rfl);by_cases j:(2≤n∧n≤273)∧1≤d∧d≤4294967295
   ·have:=code_match (by':=b) (n:=n.toNat) (d:=d.toNat) h e ⟨by omega,by omega⟩ ⟨by omega,by omega⟩ f
    rw[g,m] at this;exact this
   ·rw[if_neg j] at a
    simp at a
  ·rw[if_neg p] at a
   by_cases q:k=3
   ·subst q
    rw[if_pos rfl] at a;obtain⟨g,m,_⟩:=c (.inr rfl);by_cases j:(2≤n∧n≤273)∧0≤d∧d≤3
    ·have i:isL n.toNat:=⟨by omega,by omega⟩
     obtain rfl|rfl|rfl|rfl:d=0∨d=1∨d=2∨d=3:=by omega
     ·have:=code_rep0 (by':=b) h e i f
      rw[g] at this;exact this
     ·have:=code_rep1 (by':=b) h e i f
      rw[g] at this;exact this
     ·have:=code_rep2 (by':=b) h e i f
      rw[g] at this;exact this
     ·have:=code_rep3 (by':=b) h e i f
      rw[g] at this;exact this
    ·rw[if_neg j] at a
     simp at a
   ·rw[if_neg q] at a
    simp at a
end En
namespace En
open Mem Rc Win Lz St
theorem XAt.wrote{w w':World}{l:XL}{x:Xe}{bytes:List UInt8}{d:Value}{b:List UInt8}{m:Nat}(h:XAt w l x)(A:XSep l)(i:Fr (fun k=>k=l.W∨l.rv.ownBlock=some k) w w')(C:Win.At w' l.W d x.c.size (x.c.all++bytes) b m)(z:∀k,d.ownBlock=some k→l.rv.ownBlock=some k∨w.heap.size≤k):
 ∃d b m,XAt w' {l with rv:=d,ring:=b,t:=m} ⟨x.c.on bytes,x.e⟩∧XSep {l with rv:=d,ring:=b,t:=m}∧(∀k,d.ownBlock=some k→l.rv.ownBlock=some k∨w.heap.size≤k):=by
 have c:∀{k:Nat}{s:Array Value}{t:TypeId}{u:Nat×Nat},w.heap[k]? =some (.cells s t u)→t≠210→t≠5→¬(k=l.W∨l.rv.ownBlock=some k):=by
  intro k s t u f n B e;rcases e with e|e
  ·rw[e,h.win.box] at f
   simp only[Option.some.injEq,Obj.cells.injEq] at f;exact n f.2.1.symm
  ·obtain⟨p,o⟩:=own_block h.win.own e
   rw[o] at f;simp only[Option.some.injEq,Obj.cells.injEq] at f;exact B f.2.1.symm
 obtain⟨g,a,q⟩:=h.rc;have r:∀k,l.v.ownBlock=some k→¬(k=l.W∨l.rv.ownBlock=some k):=by
  intro k f e;rcases e with e|e
  ·obtain⟨p,o⟩:=own_block a.own f
   rw[e,h.win.box] at o;simp at o
  ·exact A.rv k e f
 refine⟨d,b,m,⟨i.keep h.d (c h.d (by decide) (by decide)),⟨i.keep h.tab.box (c h.tab.box (by decide) (by decide)),fun j y=> ?_,h.tab.inj⟩,C,⟨g,a.keep i (c a.box (by decide) (by decide)) r,q⟩,⟨⟨h.ok.c.l,h.ok.c.pb,h.ok.c.s⟩,h.ok.e⟩⟩,⟨fun k f v=> ?_⟩,z⟩
 ·obtain⟨_,_,D,q,_⟩:=h.tab.set j y
  exact(h.tab.set j y).step i (c D (by decide) (by decide)) (c q (by decide) (by decide))
 ·rcases z k f with n|n
  ·exact A.rv k n v
  ·have:=(World.ownsRow.lt a.own k v).2
   omega
theorem XAt.applied{w w':World}{l:XL}{x:Xe}{bytes:List UInt8}{v:Value}(h:XAt w l x)(j:XSep l)(g:Done w l.W x.c.size l.rv x.c.all bytes v w'):
 ∃b a e,XAt w' {l with rv:=b,ring:=a,t:=e} ⟨x.c.on bytes,x.e⟩∧XSep {l with rv:=b,ring:=a,t:=e}∧(∀k,b.ownBlock=some k→l.rv.ownBlock=some k∨w.heap.size≤k):=by
 obtain⟨c,d,b,a,e,f,i,m⟩:=g;exact h.wrote j c f i
theorem XAt.stated{w w':World}{l:XL}{x:Xe}(h:XAt w l x)(s:S)(u:s.Ok)(c:Fr (fun k=>k=l.T) w w')(q:w'.heap[l.T]? =some (.cells (tabV x.c.lc x.c.lp x.c.pb s l.b) 217 (0,0))):XAt w' l ⟨x.c.to s,x.e⟩:=by
 have b:∀{k:Nat}{i:Array Value}{t:TypeId}{m:Nat×Nat},w.heap[k]? =some (.cells i t m)→t≠217→¬k=l.T:=by
  intro k i t m hk o p;rw[p,h.tab.box] at hk;simp only[Option.some.injEq,Obj.cells.injEq] at hk;exact o hk.2.1.symm
 obtain⟨g,a,f⟩:=h.rc;refine⟨c.keep h.d (b h.d (by decide)),⟨q,fun j n=> ?_,h.tab.inj⟩,h.win.keep c (b h.win.box (by decide)) (fun k hk=> ?_),⟨g,a.keep c (b a.box (by decide)) (fun k hk=> ?_),f⟩,⟨⟨h.ok.c.l,h.ok.c.pb,u⟩,h.ok.e⟩⟩
 ·obtain⟨_,_,r,f,_⟩:=h.tab.set j n
  exact(h.tab.set j n).step c (b r (by decide)) (b f (by decide))
 ·obtain⟨d,e⟩:=own_block h.win.own hk
  exact b e (by decide)
 ·obtain⟨d,e⟩:=own_block a.own hk
  exact b e (by decide)
theorem err_of(size:Nat)(all:List UInt8)(s:S)(z:Sz)(c:z.byte<256):(applyZ size all s z).1=if z.bad=0 then(if z.kind=1 then 0 else(last size all (distOf s z.sy)).2) else z.bad:=by
 unfold applyZ;by_cases a:z.bad=0
 ·rw[if_pos a,if_pos a]
  obtain⟨f,e⟩:=Sz.ok a c;unfold apply last;rw[if_pos (e s)];have d:=f.kind;by_cases b:z.kind=1
  ·rw[if_pos b,if_pos (by simp[Sz.sy,b])]
  ·rw[if_neg b,if_neg (by simp only[Sz.sy] at d ⊢;omega)]
   split<;>rfl
 ·rw[if_neg a,if_neg a]
set_option maxRecDepth 100000 in
theorem may_calls{w:World}{l:XL}{x:Xe}(h:XAt w l x)(hT:Tabs w)(z:Sz)(hb:z.byte<256)(m:z.Fine):
 Calls Tryz.prog 131 #[ptr l.D,.agg z.cells] w fun e w'=>e=.returned (.int .i64 (applyZ x.c.size x.c.all x.c.s z).1)∧Fr (fun _=>False) w w':=by
 rw[err_of _ _ _ z hb];have I:=fun W(o:Fr (fun _=>False) w W)=>next_any x.c.s h.ok.c.s z hb m W (hT.keep o);have HZ:=Hd m.bad;clear m;have hL:=fun W(o:Fr (fun _=>False) w W)(d:Nat)=>last_calls l.W x.c.size l.t d l.rv x.c.all l.ring W (h.keep o).win;generalize hr:(if z.bad=0 then(x.c.s.next z.sy).2 else S.zero)=r at*;clear hr;obtain⟨rn,ra,rb,rc,rd⟩:=r;have G:=fun W(o:Fr (fun _=>False) w W)=>o.keep h.d (fun h=>h);have H:=fun W(o:Fr (fun _=>False) w W)=>o.keep h.tab.box (fun h=>h);generalize v:last x.c.size x.c.all=la at*;clear v h hT;obtain⟨kind,b,c,dist⟩:=z;obtain⟨⟨lc,lp,pb,s,size,a0⟩,es⟩:=x;obtain⟨sn,q,y,A,B⟩:=s;simp only[Sz.cells,S.cells,tabV] at*;have J:=heap_alloc_new w (.cells #[.int .i64 kind,.int .u8 b,.int .i64 c,.int .i64 dist] 110);have p:=(R0 w).alloc (.cells #[.int .i64 kind,.int .u8 b,.int .i64 c,.int .i64 dist] 110);have M:=fun W o=>Hd (I W o);have E:=Hd hL;have HD:=Hd (G _ p);have HT:=Hd (H _ p);have n:=Hd p;have HX:=Hd J;clear I hL G H p J;go_enter Tryz.func131,Tryz.ntmps131;go_wp2_with fail;generalize w.alloc (.cells #[.int .i64 kind,.int .u8 b,.int .i64 c,.int .i64 dist] 110)=wb at*;generalize w.heap.size=b0 at*;have F:=Hd (show∀w',Fr (fun _=>False) wb w'→w'.cell? ⟨l.D,0,none⟩=some (ptr l.T)∧w'.cell? ⟨l.D,1,none⟩=some (ptr l.W)∧w'.cell? ⟨l.T,3,none⟩=some (.int .i64 sn)∧w'.cell? ⟨l.T,4,none⟩=some (.int .i64 q)∧w'.cell? ⟨l.T,5,none⟩=some (.int .i64 y)∧w'.cell? ⟨l.T,6,none⟩=some (.int .i64 A)∧w'.cell? ⟨l.T,7,none⟩=some (.int .i64 B)∧
  w'.cell? ⟨b0,0,none⟩=some (.int .i64 kind)∧w'.cell? ⟨b0,1,none⟩=some (.int .u8 b)∧w'.cell? ⟨b0,2,none⟩=some (.int .i64 c)∧w'.cell? ⟨b0,3,none⟩=some (.int .i64 dist) from fun w' Q=>by
  have hd:=Q.keep HD.out (fun h=>h);have K:=Q.keep HT.out (fun h=>h);have m:=Q.keep HX.out (fun h=>h);exact⟨cell_in hd rfl,cell_in hd rfl,cell_in K rfl,cell_in K rfl,cell_in K rfl,cell_in K rfl,cell_in K rfl,cell_in m rfl,cell_in m rfl,cell_in m rfl,cell_in m rfl⟩)
 clear HD HT HX;go_cut [6] (fun s6 wx=>s6=.int .i64 (Sz.bad ⟨kind,b,c,dist⟩:Nat)∧Fr (fun _=>False) wb wx);case first=>
  have i:=Hd (R0 wb).drew;have k:=Hd (F.out _ i.out);have D:=k.out;obtain⟨R,T,U,V,X,Y,Z,t7,t8,t9,C⟩:=D;generalize Sz.bad ⟨kind,b,c,dist⟩=bad at*;go_region_held3 (fun w'=>w'.cell? ⟨l.D,0,none⟩=some (ptr l.T)∧w'.cell? ⟨l.D,1,none⟩=some (ptr l.W)∧w'.cell? ⟨l.T,3,none⟩=some (.int .i64 sn)∧w'.cell? ⟨l.T,4,none⟩=some (.int .i64 q)∧w'.cell? ⟨l.T,5,none⟩=some (.int .i64 y)∧w'.cell? ⟨l.T,6,none⟩=some (.int .i64 A)∧w'.cell? ⟨l.T,7,none⟩=some (.int .i64 B)∧
   w'.cell? ⟨b0,0,none⟩=some (.int .i64 kind)∧w'.cell? ⟨b0,1,none⟩=some (.int .u8 b)∧w'.cell? ⟨b0,2,none⟩=some (.int .i64 c)∧w'.cell? ⟨b0,3,none⟩=some (.int .i64 dist))
   (first|with_reducible exact k.out|(refine F.out _ ?_;(repeat refine Fr.setCell ?_ (.inr (by first|exact i.out.size|exact HY.out)) _);first|exact i.out|exact i.out.alloc _)) ((first
   | (go_at_call 126
      first
       | (refine (M _ (n.out.trans i.out)).out.mono ?_
          rintro e wc ⟨rfl,g⟩;have i:=Hd (i.out.trans g);have k:=Hd (F.out _ i.out);have D:=k.out;obtain⟨R,T,U,V,X,Y,Z,t7,t8,t9,C⟩:=D;clear g)
       | (refine (M _ (n.out.trans (i.out.alloc _))).out.mono ?_
          rintro e wc ⟨rfl,g⟩;have HY:=Hd i.out.size;have i:=Hd ((i.out.alloc _).trans g);have k:=Hd (F.out _ i.out);have D:=k.out;obtain⟨R,T,U,V,X,Y,Z,t7,t8,t9,C⟩:=D;have m:=g.keep (heap_alloc_new _ _) (fun h=>h);try simp only[World.size_drew] at m
          obtain⟨z0,z1,z2,z3,z4,zf⟩:=cf5 m rfl rfl rfl rfl rfl;have HZ:=Hd m;clear m;clear g))))
  all_goals
   go_wp2_with fail;go_meet;refine⟨rfl,?_⟩;(repeat refine Fr.setCell ?_ (.inr (by first|exact i.out.size|exact HY.out)) _)
   first|exact i.out|exact i.out.alloc _
 case rest=>
  obtain⟨h6,u⟩:=hcut;have j:=Hd (n.out.trans u);have D:=F.out _ u;obtain⟨R,T,U,V,X,Y,Z,t7,t8,t9,C⟩:=D;clear M F n u;by_cases a:Sz.bad ⟨kind,b,c,dist⟩=0
  ·rw[a] at h6
   subst h6;have f:=Hd a;have t:kind=1∨kind=4∨(kind=2∧∃d:Nat,dist=d)∨(kind=3∧(dist=0∨dist=1∨dist=2∨dist=3)):=by
    unfold Sz.bad at a;simp only at a;by_cases h1:kind=1∨kind=4
    ·omega
    ·rw[if_neg h1] at a
     by_cases N:kind=2
     ·rw[if_pos N] at a
      by_cases P:(2≤c∧c≤273)∧1≤dist∧dist≤4294967295
      ·exact .inr (.inr (.inl ⟨N,dist.toNat,by omega⟩))
      ·rw[if_neg P] at a
       simp at a
     ·rw[if_neg N] at a
      by_cases O:kind=3
      ·rw[if_pos O] at a
       by_cases P:(2≤c∧c≤273)∧0≤dist∧dist≤3
       ·exact .inr (.inr (.inr ⟨O,by omega⟩))
       ·rw[if_neg P] at a
        simp at a
      ·rw[if_neg O] at a
       simp at a
   clear a;rcases t with rfl|rfl|⟨rfl,d,rfl⟩|⟨rfl,rfl|rfl|rfl|rfl⟩
   ·go_wp2_with fail
    go_ret;exact⟨by simp[f.out],j.out⟩
   ·go_wp2_with fail
    refine(E.out _ j.out q).mono ?_;rintro e L ⟨rfl,rfl⟩;go_wp2_with fail;go_ret;exact⟨by simp[f.out,distOf,Sz.sy],j.out⟩
   ·go_wp2_with fail
    refine(E.out _ j.out d).mono ?_;rintro e L ⟨rfl,rfl⟩;go_wp2_with fail;go_ret;exact⟨by simp[f.out,distOf,Sz.sy],j.out⟩
   ·go_wp2_with fail
    go_quiet (fail);go_wp2_with fail;refine(E.out _ (j.out.drewN _) q).mono ?_;rintro e L ⟨rfl,rfl⟩;go_wp2_with fail;go_ret;exact⟨by simp[f.out,distOf,repAt,Sz.sy],j.out.drewN _⟩
   ·go_wp2_with fail
    go_quiet (fail);go_wp2_with fail;refine(E.out _ (j.out.drewN _) y).mono ?_;rintro e L ⟨rfl,rfl⟩;go_wp2_with fail;go_ret;exact⟨by simp[f.out,distOf,repAt,Sz.sy],j.out.drewN _⟩
   ·go_wp2_with fail
    go_quiet (fail);go_wp2_with fail;refine(E.out _ (j.out.drewN _) A).mono ?_;rintro e L ⟨rfl,rfl⟩;go_wp2_with fail;go_ret;exact⟨by simp[f.out,distOf,repAt,Sz.sy],j.out.drewN _⟩
   ·go_wp2_with fail
    go_quiet (fail);go_wp2_with fail;refine(E.out _ (j.out.drewN _) B).mono ?_;rintro e L ⟨rfl,rfl⟩;go_wp2_with fail;go_ret;exact⟨by simp[f.out,distOf,repAt,Sz.sy],j.out.drewN _⟩
  ·exact absurd HZ.out a
end En
namespace En
open Mem Rc Win Lz St
structure XLow(l:XL):Prop where
 T:6≤l.T
 W:6≤l.W
 E:6≤l.E
 g:∀j,j<18→6≤l.g j
 v:∀k,l.v.ownBlock=some k→6≤k
 rv:∀k,l.rv.ownBlock=some k→6≤k
def XG(l:XL)(k:Nat):Prop:=XF l k∨k=l.W∨l.rv.ownBlock=some k∨k=l.T
theorem XLow.g5{l:XL}(h:XLow l):∀k,XG l k→6≤k:=by
 rintro k (((rfl|e)|⟨j,a,rfl⟩)|rfl|e|rfl)
 ·exact h.E
 ·exact h.v k e
 ·exact h.g j a
 ·exact h.W
 ·exact h.rv k e
 ·exact h.T
structure XPut(l:XL)(w:World)(x:Xe)(w':World):Prop where
 fr:Fr (XG l) w w'
 at':∃v' rv' ring' t',XAt w' {l with v:=v',rv:=rv',ring:=ring',t:=t'} x∧XSep {l with v:=v',rv:=rv',ring:=ring',t:=t'}∧(∀k,v'.ownBlock=some k→l.v.ownBlock=some k∨w.heap.size≤k)∧(∀k,rv'.ownBlock=some k→l.rv.ownBlock=some k∨w.heap.size≤k)
theorem done_new{w f wx r:World}{B size g:Nat}{rv v:Value}{all bytes:List UInt8}(l:Fr (fun _=>False) w f)(h:Done f B size rv all bytes v wx)(a:Fr (fun k=>k=g) wx r)(m:w.heap.size≤g)(b:g<f.heap.size∨wx.heap.size≤g)(x:B<w.heap.size)(n:∀k,rv.ownBlock=some k→k<w.heap.size):Done w B size rv all bytes v r:=by
 rcases b with b|b
 ·exact h.fin l a m b x n
 ·obtain⟨s,j,o,d,y,p,t,u⟩:=h
  have q:=l.size;refine⟨((l.mono (fun _ _ h=>h.elim)).trans s).trans' a (fun i hi(e:i=g)=>by omega),⟨(j.step a (fun k c(e:k=g)=>by have:=(World.ownsRow.lt j.own k c).2;omega)).own,fun k c=>Nat.le_trans q (j.new k c)⟩,o,d,y,p.keep a (fun(e:B=g)=>by omega) (fun k c(e:k=g)=> ?_),fun k c=>(t k c).imp id (Nat.le_trans q),u⟩;have:=(World.ownsRow.lt p.own k c).2;omega
theorem lif{S:Nat→Prop}{w w':World}(h:Fr (fun _=>False) w w'):Fr S w w':=h.mono (fun _ _ h=>h.elim)
set_option maxRecDepth 100000 in
theorem eput_calls{w:World}{l:XL}{x:Xe}(h:XAt w l x)(hp:XSep l)(X:XLow l)(hT:Tabs w)(z:Sz)(hb:z.byte<256)(c:z.Fine)(hs:x.e.k.s≤1099511610000)(hm:x.c.all.length≤1152921504606846000):
 Calls Tryz.prog 74 #[ptr l.D,.agg z.cells] w fun e w'=>e=.returned (.int .i64 (applyZ x.c.size x.c.all x.c.s z).1)∧(if(applyZ x.c.size x.c.all x.c.s z).1=0 then XPut l w (x.put z.sy) w' else Fr (fun _=>False) w w'):=by
 have a5:=heap_alloc_new w (.cells z.cells 110);have a6:=(R0 w).alloc (.cells z.cells 110);have I:=fun W(J:Fr (fun _=>False) w W)=>may_calls (h.keep J) (hT.keep J) z hb c;have u:=fun(c:z.bad=0) W(J:Fr (fun _=>False) w W)=>code_calls (h.keep J) hp z c hb hs;have Y:=fun W v'(hA:XAt W {l with v:=v'} (x.ops (symOps x.c z.sy)))(a4:Tabs W)=>apply_any l.W x.c.size l.t l.rv x.c.all l.ring x.c.s h.ok.c.s z hb c W a4 hA.win hm;have y:(applyZ x.c.size x.c.all x.c.s z).1=0→z.bad=0:=by
  intro U;unfold applyZ at U;by_cases c:z.bad=0
  ·exact c
  ·rw[if_neg c] at U
   exact U
 have L:z.bad=0→x.put z.sy=⟨(x.c.on (applyZ x.c.size x.c.all x.c.s z).2.1).to (applyZ x.c.size x.c.all x.c.s z).2.2,x.e.run (symOps x.c z.sy)⟩:=by
  intro c;unfold applyZ;rw[if_pos c];rfl
 have M:(applyZ x.c.size x.c.all x.c.s z).1=0→(applyZ x.c.size x.c.all x.c.s z).2.2.Ok:=by
  intro U;have c:=y U;unfold applyZ at U ⊢;rw[if_pos c] at U ⊢;exact apply_ok U h.ok.c.s
 generalize f0:x.put z.sy=xp at*;generalize applyZ x.c.size x.c.all x.c.s z=ap at*;obtain⟨er,bytes,st⟩:=ap;obtain⟨N,m,o,p,q⟩:=st;obtain⟨kind,D,a8,dist,d0⟩:∃(k:Int)(b:Nat)(n d:Int),z.cells=#[.int .i64 k,.int .u8 b,.int .i64 n,.int .i64 d]:=⟨_,_,_,_,rfl⟩;simp only[d0,S.cells] at I u Y a5 a6 L y M ⊢;have R:=fun W J=>Hd (I W J);have C:=fun c W J=>Hd (u c W J);have b2:=fun W v' hA a4=>Hd (Y W v' hA a4);have b3:=Hd y;have b7:=Hd L;have b8:=Hd M;have HX:=Hd a5;have a0:=Hd a6;have d2:=Hd h;have HT:=Hd hT;have b6:=Hd X;clear I u Y y L M a5 a6 h hT X d0;go_enter Tryz.func74,Tryz.ntmps74;go_wp2_with fail;generalize w.alloc (.cells #[.int .i64 kind,.int .u8 D,.int .i64 a8,.int .i64 dist] 110)=wb at*;generalize c2:w.heap.size=b0 at*;have e8:=Hd c2;clear c2;obtain⟨z0,z1,z2,z3⟩:=cs4 HX.out rfl rfl rfl rfl;go_wp2_with fail;refine(R _ a0.out).out.mono ?_;rintro e w1 ⟨rfl,a7⟩;have P:=Hd (a7.keep HX.out (fun h=>h));have H:=Hd (a0.out.trans a7);clear a7 z0 z1 z2 z3 HX a0 R;by_cases e5:er=0
 ·subst e5
  have c:=b3.out rfl;have Z:=Hd (d2.out.keep H.out);obtain⟨z0,z1,z2,z3⟩:=cs4 P.out rfl rfl rfl rfl;have k2:=cell_in (i:=2) Z.out.d rfl;go_wp2_with fail;go_still_tail 8,(by kernel_rfl);go_wp2_with fail;refine(C c _ H.out.drew).out.mono ?_;rintro e O ⟨rfl,hq⟩;have c9:=(Z.out.keep (R0 w1).drew).off ((R0 w1).drew.keep P.out (fun h=>h)) (by decide) (by decide) (by decide);obtain⟨f2,v2,a2,s2,n2⟩:=hq;have c0:=Hd (f2.keep ((R0 w1).drew.keep P.out (fun h=>h)) c9);have a1:=Hd ((lif (S:=XF l) H.out.drew).trans f2);have f:=Hd a2;have d7:=Hd s2;have d5:=Hd (show∀k,v2.ownBlock=some k→l.v.ownBlock=some k∨w.heap.size≤k from fun k hk=>(n2 k hk).imp id (fun h=>Nat.le_trans H.out.drew.size h));have e0:=Hd (HT.out.step a1.out (fun k hk=>b6.out.g5 k (.inl hk)));clear c9 f2 a2 s2 n2 z0 z1 z2 z3 k2 C Z P;have A:∀{k:Nat}{cs:Array Value}{t:TypeId}{fr:Nat×Nat},O.heap[k]? =some (.cells cs t fr)→t≠210→t≠5→¬(k=l.W∨l.rv.ownBlock=some k∨O.heap.size≤k):=by
   intro k cs t fr hk V h2 G;rcases G with G|G|G
   ·have hb:=f.out.win.box
    simp only at hb;rw[G,hb] at hk;simp only[Option.some.injEq,Obj.cells.injEq] at hk;exact V hk.2.1.symm
   ·obtain⟨e9,hc⟩:=own_block f.out.win.own G
    rw[hc] at hk;simp only[Option.some.injEq,Obj.cells.injEq] at hk;exact h2 hk.2.1.symm
   ·have:=lt_of_block hk
    omega
  have g:=Hd (show∀w':World,Fr (fun k=>k=l.W∨l.rv.ownBlock=some k∨O.heap.size≤k) O w'→w'.cell? ⟨l.D,0,none⟩=some (ptr l.T)∧w'.cell? ⟨l.D,1,none⟩=some (ptr l.W)∧w'.cell? ⟨l.T,3,none⟩=some (.int .i64 x.c.s.num)∧w'.cell? ⟨l.T,4,none⟩=some (.int .i64 x.c.s.r0)∧w'.cell? ⟨l.T,5,none⟩=some (.int .i64 x.c.s.r1)∧w'.cell? ⟨l.T,6,none⟩=some (.int .i64 x.c.s.r2)∧w'.cell? ⟨l.T,7,none⟩=some (.int .i64 x.c.s.r3)∧
   w'.cell? ⟨b0,0,none⟩=some (.int .i64 kind)∧w'.cell? ⟨b0,1,none⟩=some (.int .u8 D)∧w'.cell? ⟨b0,2,none⟩=some (.int .i64 a8)∧w'.cell? ⟨b0,3,none⟩=some (.int .i64 dist) from fun w' hf=>by
   have hd:=hf.keep f.out.d (A f.out.d (by decide) (by decide));have ht:=hf.keep f.out.tab.box (A f.out.tab.box (by decide) (by decide));have c:=hf.keep c0.out (A c0.out (by decide) (by decide));exact⟨cell_in hd rfl,cell_in hd rfl,cell_in ht rfl,cell_in ht rfl,cell_in ht rfl,cell_in ht rfl,cell_in ht rfl,cell_in c rfl,cell_in c rfl,cell_in c rfl,cell_in c rfl⟩)
  have T:=Hd (show∀k,O.heap.size≤k→¬(k=l.W∨l.rv.ownBlock=some k) from fun k hk G=>by
   rcases G with G|G
   ·have h4:=lt_of_block f.out.win.box
    simp only at h4;omega
   ·have:=(World.ownsRow.lt f.out.win.own k G).2
    omega)
  clear A;have B:=fun W(J:Fr (fun _=>False) O W)=>b2 W v2 (f.out.keep J) (e0.out.keep J);clear b2;have E:=Hd (Fr.refl (fun k=>k=l.W∨l.rv.ownBlock=some k∨O.heap.size≤k) O).drew;have j:=Hd (g.out _ E.out);have tt:=j.out;obtain⟨t0,t1,t2,t3,t4,t5,t6,t7,t8,t9,b1⟩:=tt;go_wp2_with fail;go_cut [7,8] (fun s7 s8 wx=>∃r v wc,s7=.pointer (some ⟨r,0,none⟩)∧s8=.int .i64 0∧O.heap.size≤r∧wx.heap[r]? =some (.cells #[.int .i64 N,.int .i64 m,.int .i64 o,.int .i64 p,.int .i64 q] 84 (0,0))∧(∃wa,Fr (fun _=>False) O wa∧Done wa l.W x.c.size l.rv x.c.all bytes v wc∧(r<wa.heap.size∨wc.heap.size≤r))∧Fr (fun k=>k=r) wc wx);case first=>
   go_region_held3 (fun w'=>w'.cell? ⟨l.D,0,none⟩=some (ptr l.T)∧w'.cell? ⟨l.D,1,none⟩=some (ptr l.W)∧w'.cell? ⟨l.T,3,none⟩=some (.int .i64 x.c.s.num)∧w'.cell? ⟨l.T,4,none⟩=some (.int .i64 x.c.s.r0)∧w'.cell? ⟨l.T,5,none⟩=some (.int .i64 x.c.s.r1)∧w'.cell? ⟨l.T,6,none⟩=some (.int .i64 x.c.s.r2)∧w'.cell? ⟨l.T,7,none⟩=some (.int .i64 x.c.s.r3)∧
    w'.cell? ⟨b0,0,none⟩=some (.int .i64 kind)∧w'.cell? ⟨b0,1,none⟩=some (.int .u8 D)∧w'.cell? ⟨b0,2,none⟩=some (.int .i64 a8)∧w'.cell? ⟨b0,3,none⟩=some (.int .i64 dist))
    (first|with_reducible exact j.out|(refine g.out _ ?_;(repeat refine Fr.setCell ?_ (.inl (.inr (.inr (by first|exact E.out.size|exact HY.out)))) _);first|exact E.out|exact E.out.alloc _)) ((first
    | (go_at_call 133
       first
        | (refine (B _ (Fr.refl _ _).drew).out.mono ?_
           rintro e wc ⟨v,rfl,a⟩;have E:=Hd (E.out.trans (a.fr.mono (fun i _ K=>by rcases K with K|K;exact .inl K;exact .inr (.inl K))));have j:=Hd (g.out _ E.out);have tt:=j.out;obtain⟨t0,t1,t2,t3,t4,t5,t6,t7,t8,t9,b1⟩:=tt;have s:=Hd a;clear a)
        | (refine (B _ ((Fr.refl _ _).drew.alloc _)).out.mono ?_
           rintro e wc ⟨v,rfl,a⟩;have HY:=Hd E.out.size;have E:=Hd ((E.out.alloc _).trans (a.fr.mono (fun i _ K=>by rcases K with K|K;exact .inl K;exact .inr (.inl K))));have j:=Hd (g.out _ E.out);have tt:=j.out;obtain⟨t0,t1,t2,t3,t4,t5,t6,t7,t8,t9,b1⟩:=tt;have c:=a.fr.keep (heap_alloc_new _ _) (T.out _ (by simp));try simp only[World.size_drew] at c
           obtain⟨s0,s1,s2,s3,s4,sf⟩:=cf5 c rfl rfl rfl rfl rfl;have d9:=Hd c;clear c;have s:=Hd a;clear a))))
   ·go_wp2_with fail
    go_meet;exact⟨_,v,wc,rfl,rfl,E.out.size,heap_alloc_new wc _,⟨_,(Fr.refl _ _).drew,s.out,.inr (Nat.le_refl _)⟩,(Fr.refl _ _).alloc _⟩
   ·go_wp2_with fail
    go_meet;exact⟨_,v,wc,rfl,rfl,by simp,set_in (set_in (set_in (set_in (set_in d9.out 0 (.int .i64 N)) 1 (.int .i64 m)) 2 (.int .i64 o)) 3 (.int .i64 p)) 4 (.int .i64 q),⟨_,(Fr.refl _ _).drew.alloc _,s.out,.inl (by simp)⟩,((((Fr.one _ _ _ _).trans (Fr.one _ _ _ _)).trans (Fr.one _ _ _ _)).trans (Fr.one _ _ _ _)).trans (Fr.one _ _ _ _)⟩
  case rest=>
   obtain⟨r,v3,wd,rfl,rfl,e6,d1,⟨wa,c8,c4,c7⟩,c6⟩:=hcut;have a:=done_new c8 c4 c6 e6 c7 (lt_of_block f.out.win.box) (fun k hk=>(World.ownsRow.lt f.out.win.own k hk).2);obtain⟨e7,a9,t',a3,s3,n3⟩:=f.out.applied d7.out a;have d4:=Hd a.fr;have F:=Hd a3;have d8:=Hd s3;have d6:=Hd n3;have c1:=Hd d1;have e4:r≠l.T:=by
    rintro rfl;have V:=F.out.tab.box;simp only at V;rw[c1.out] at V;simp at V
   have e3:l.D≠l.T:=by
    intro e;have V:=F.out.tab.box;have h2:=F.out.d;simp only at V h2;rw[e,V] at h2;simp at h2
   have b5:=Hd (show∀w':World,Fr (fun k=>k=l.T) wc w'→w'.cell? ⟨l.D,0,none⟩=some (ptr l.T)∧w'.cell? ⟨r,0,none⟩=some (.int .i64 N)∧w'.cell? ⟨r,1,none⟩=some (.int .i64 m)∧w'.cell? ⟨r,2,none⟩=some (.int .i64 o)∧w'.cell? ⟨r,3,none⟩=some (.int .i64 p)∧w'.cell? ⟨r,4,none⟩=some (.int .i64 q) from fun w' hf=>by
    have hd:=hf.keep F.out.d e3;have c:=hf.keep c1.out e4;exact⟨cell_in hd rfl,cell_in c rfl,cell_in c rfl,cell_in c rfl,cell_in c rfl,cell_in c rfl⟩)
   clear c4 c8 c7 c6 a a3 s3 n3 d1 t0 t1 t2 t3 t4 t5 t6 t7 t8 t9 b1 j E B g T;have j:=Hd (b5.out wc.drew (lif (R0 wc).drew));have ss:=j.out;obtain⟨s0,s1,s2,s3,s4,s5⟩:=ss;have Q:=F.out.tab.box;simp only at Q;have q3:=cell_in (i:=3) Q rfl;have q4:=cell_in (i:=4) Q rfl;have q5:=cell_in (i:=5) Q rfl;have q6:=cell_in (i:=6) Q rfl;have q7:=cell_in (i:=7) Q rfl;have qf:=fun i=>frozen_in Q i;have b9:=Hd Q;clear Q;go_wp2_with fail;go_region_held3 (fun w'=>w'.cell? ⟨l.D,0,none⟩=some (ptr l.T)∧w'.cell? ⟨r,0,none⟩=some (.int .i64 N)∧w'.cell? ⟨r,1,none⟩=some (.int .i64 m)∧w'.cell? ⟨r,2,none⟩=some (.int .i64 o)∧w'.cell? ⟨r,3,none⟩=some (.int .i64 p)∧w'.cell? ⟨r,4,none⟩=some (.int .i64 q))
    (first|with_reducible exact j.out|(refine b5.out _ ?_;refine Fr.drew ?_;(repeat refine Fr.setCell ?_ (.inl (by simp)) _);exact Fr.refl _ _)) (fail)
   have c3:=set_in (set_in (set_in (set_in (set_in b9.out 3 (.int .i64 N)) 4 (.int .i64 m)) 5 (.int .i64 o)) 6 (.int .i64 p)) 7 (.int .i64 q);have c5:Fr (fun k=>k=l.T) wc (((((wc.setCell ⟨l.T,3,none⟩ (.int .i64 N)).setCell ⟨l.T,4,none⟩ (.int .i64 m)).setCell ⟨l.T,5,none⟩ (.int .i64 o)).setCell ⟨l.T,6,none⟩ (.int .i64 p)).setCell ⟨l.T,7,none⟩ (.int .i64 q)).drew:=(((((Fr.one _ _ _ _).trans (Fr.one _ _ _ _)).trans (Fr.one _ _ _ _)).trans (Fr.one _ _ _ _)).trans (Fr.one _ _ _ _)).drew;have d3:=Hd (show(((((wc.setCell ⟨l.T,3,none⟩ (.int .i64 N)).setCell ⟨l.T,4,none⟩ (.int .i64 m)).setCell ⟨l.T,5,none⟩ (.int .i64 o)).setCell ⟨l.T,6,none⟩ (.int .i64 p)).setCell ⟨l.T,7,none⟩ (.int .i64 q)).drew.heap[l.T]? =some (.cells (tabV x.c.lc x.c.lp x.c.pb ⟨N,m,o,p,q⟩ l.b) 217 (0,0)) from c3);have b4:=Hd c5;clear c3 c5 s0 s1 s2 s3 s4 s5 q3 q4 q5 q6 q7 qf j b9;generalize(((((wc.setCell ⟨l.T,3,none⟩ (.int .i64 N)).setCell ⟨l.T,4,none⟩ (.int .i64 m)).setCell ⟨l.T,5,none⟩ (.int .i64 o)).setCell ⟨l.T,6,none⟩ (.int .i64 p)).setCell ⟨l.T,7,none⟩ (.int .i64 q)).drew=w7 at*;go_wp2_with fail;go_ret;refine⟨rfl,⟨((a1.out.mono (fun k _ h=>.inl h)).trans (d4.out.mono (fun k _ h=>.inr (h.elim .inl (fun h=>.inr (.inl h)))))).trans (b4.out.mono (fun k _ h=>.inr (.inr (.inr h)))),v2,e7,a9,t',?_,d8.out,d5.out,fun k hk=>(d6.out k hk).imp id (fun h=>Nat.le_trans a1.out.size h)⟩⟩;rw[b7.out c];exact F.out.stated ⟨N,m,o,p,q⟩ (b8.out trivial) b4.out d3.out
 ·have e1:((er:Int)==0)=false:=by simp;omega
  have e2:((er:Int) !=0)=true:=by simp;omega
  go_wp2_with fail;go_ret;exact⟨rfl,H.out⟩
end En
namespace En
open Mem Rc Win Lz St
def XFoot(l:XL)(k:Nat):Prop:=k=l.D∨XG l k
structure XE(w:World)(l:XL)(x:Xe):Prop where
 at':XAt w l x
 sep:XSep l
 low:∀k,XFoot l k→6≤k
structure XNx(w:World)(l l':XL):Prop where
 D:l'.D=l.D
 F:∀k,XFoot l' k→XFoot l k∨w.heap.size≤k
def EPst(l:XL)(w:World)(x:Xe)(w':World):Prop:=Fr (XFoot l) w w'∧∃l',XNx w l l'∧XE w' l' x
theorem XE.five{w:World}{l:XL}{x:Xe}(h:XE w l x):6≤w.heap.size:=by
 have:=lt_of_block h.at'.d;have:=h.low _ (.inl rfl);omega
theorem XE.xlow{w:World}{l:XL}{x:Xe}(h:XE w l x):XLow l:=
 ⟨h.low _ (.inr (.inr (.inr (.inr rfl)))),h.low _ (.inr (.inr (.inl rfl))),h.low _ (.inr (.inl (.inl (.inl rfl)))),fun j b=>h.low _ (.inr (.inl (.inr ⟨j,b,rfl⟩))),fun k a=>h.low _ (.inr (.inl (.inl (.inr a)))),fun k a=>h.low _ (.inr (.inr (.inr (.inl a))))⟩
theorem XE.keep{w w':World}{l:XL}{x:Xe}(h:XE w l x)(a:Fr (fun _=>False) w w'):XE w' l x:=⟨h.at'.keep a,h.sep,h.low⟩
theorem XE.post{w w':World}{l l':XL}{x b:Xe}(h:XE w l x)(d:Fr (XFoot l) w w')(c:XAt w' l' b)(g:XSep l')(a:XNx w l l'):EPst l w b w':=
 ⟨d,l',a,c,g,fun k f=>(a.F k f).elim (h.low k) (fun e=>Nat.le_trans h.five e)⟩
theorem xput_calls{w:World}{l:XL}{x:Xe}(h:XE w l x)(g:Tabs w)(z:Sz)(i:z.byte<256)(o:z.Fine)(n:x.e.k.s≤1099511610000)(m:x.c.all.length≤1152921504606846000):
 Calls Tryz.prog 74 #[ptr l.D,.agg z.cells] w fun e d=>e=.returned (.int .i64 (applyZ x.c.size x.c.all x.c.s z).1)∧(if(applyZ x.c.size x.c.all x.c.s z).1=0 then EPst l w (x.put z.sy) d else Fr (fun _=>False) w d):=by
 refine(eput_calls h.at' h.sep h.xlow g z i o n m).mono ?_;rintro e d ⟨rfl,b⟩;refine⟨rfl,?_⟩;split
 ·rename_i h0
  rw[if_pos h0] at b;obtain⟨f,u,r,c,t,a,s,p,q⟩:=b;refine h.post (f.mono (fun k _ e=>.inr e)) a s ⟨rfl,fun k j=> ?_⟩;rcases j with e|((e|e)|e)|e|e|e
  ·exact .inl (.inl e)
  ·exact .inl (.inr (.inl (.inl (.inl e))))
  ·exact(p k e).imp (fun e=>.inr (.inl (.inl (.inr e)))) id
  ·exact .inl (.inr (.inl (.inr e)))
  ·exact .inl (.inr (.inr (.inl e)))
  ·exact(q k e).imp (fun e=>.inr (.inr (.inr (.inl e)))) id
  ·exact .inl (.inr (.inr (.inr (.inr e))))
 ·rename_i h0
  rw[if_neg h0] at b;exact b
theorem XAt.ne{w:World}{l:XL}{x:Xe}(h:XAt w l x){k:Nat}{b:Array Value}{t:TypeId}{fr:Nat×Nat}(a:w.heap[k]? =some (.cells b t fr))(c:t≠149):¬k=l.D:=by
 intro e;rw[e,h.d] at a;simp only[Option.some.injEq,Obj.cells.injEq] at a;exact c a.2.1.symm
theorem fresh_es(k:K)(a:k.Ok)(lc lp:Nat):Es.Ok lc lp ⟨k,fresh lc lp⟩:=
 ⟨a,fun j _ p b=>by
  have:=List.eq_of_mem_replicate b;omega,fun j _=>fresh_len lc lp j⟩
theorem XE.tabs{w m:World}{l:XL}{x:Xe}(h:XE w l x){T lc lp pb:Nat}{b g:Nat→Nat}(d:Fr (fun _=>False) w m)(p:Tab m T b g lc lp pb S.new (fresh lc lp))
 (t:w.heap.size≤T)(r:∀j,j<18→w.heap.size≤b j∧w.heap.size≤g j)(v:lc+lp≤4)(y:pb≤4):
 EPst l w ⟨x.c.fresh lc lp pb,⟨x.e.k,fresh lc lp⟩⟩ (m.setCell ⟨l.D,0,none⟩ (ptr T)):=by
 have c:=h.at'.keep d;have z:=lt_of_block h.at'.d;have f:Fr (fun k=>k=l.D) m (m.setCell ⟨l.D,0,none⟩ (ptr T)):=Fr.one _ _ _ _;obtain⟨s,a,u⟩:=c.rc;refine h.post (l':={l with T:=T,b:=b,g:=g}) ((lif d).trans (f.mono (fun i _(e:i=l.D)=>.inl e))) ⟨set_in c.d 0 _,⟨f.keep p.box (show¬T=l.D by omega),fun j n=> ?_,p.inj⟩,c.win.keep f (c.ne c.win.box (by decide)) (fun k hk=> ?_),⟨s,a.keep f (c.ne a.box (by decide)) (fun k hk=> ?_),u⟩,⟨⟨v,y,S.new_ok⟩,fresh_es _ h.at'.ok.e.k _ _⟩⟩ ⟨h.sep.rv⟩ ⟨rfl,fun k hk=> ?_⟩
 ·have:=r j n
  exact(p.set j n).step f (fun(e:b j=l.D)=>by omega) (fun(e:g j=l.D)=>by omega)
 ·obtain⟨o,q⟩:=own_block c.win.own hk
  exact c.ne q (by decide)
 ·obtain⟨o,q⟩:=own_block a.own hk
  exact c.ne q (by decide)
 ·rcases hk with e|((e|e)|⟨j,n,e⟩)|e|e|e
  ·exact .inl (.inl e)
  ·exact .inl (.inr (.inl (.inl (.inl e))))
  ·exact .inl (.inr (.inl (.inl (.inr e))))
  ·have:=r j n
   simp only at e;exact .inr (by omega)
  ·exact .inl (.inr (.inr (.inl e)))
  ·exact .inl (.inr (.inr (.inr (.inl e))))
  ·simp only at e
   exact .inr (by omega)
theorem xcut_calls{w:World}{l:XL}{x:Xe}(h:XE w l x)(H:x.e.k.s≤1099511627000):
 Calls Tryz.prog 75 #[ptr l.D] w fun e A=>∃v,e=.returned v∧Mine w A v x.e.k.bytes∧EPst l w ⟨x.c,⟨K.new,x.e.ps⟩⟩ A:=by
 obtain⟨g,a,p⟩:=h.at'.rc;have B:w.cell? ⟨l.D,2,none⟩=some (ptr l.E):=cell_in h.at'.d rfl;have s:=Hd (bytes_calls a p H);have q:=Hd h;clear h a p;go_enter Tryz.func75,Tryz.ntmps75;go_wp2_with fail;refine s.out.mono ?_;rintro e m ⟨v,rfl,n,z⟩;have f:=Hd n;have t:=Hd z;clear n z s B;go_wp2_with fail;refine(En.new_calls m).mono ?_;rintro e o ⟨rfl,d,u⟩;have b:=(q.out.keep (f.out.trans d)).at';have L:o.cell? ⟨l.D,2,none⟩=some (ptr l.E):=cell_in b.d rfl;have M:=frozen_in b.d 2;have J:=lt_of_block q.out.at'.d;have I:=f.out.size;have c:Fr (fun k=>k=l.D) o (o.setCell ⟨l.D,2,none⟩ (ptr m.heap.size)):=Fr.one _ _ _ _;have r:=Hd (show Mine w (o.setCell ⟨l.D,2,none⟩ (ptr m.heap.size)) v x.e.k.bytes∧EPst l w ⟨x.c,⟨K.new,x.e.ps⟩⟩ (o.setCell ⟨l.D,2,none⟩ (ptr m.heap.size)) from by
  refine⟨(t.out.step d (fun _ _ h=>h)).step c (fun k hk(e:k=l.D)=>by have:=t.out.new k hk;omega),q.out.post (l':={l with E:=m.heap.size,v:=.slice none 0 0}) ((lif (f.out.trans d)).trans (c.mono (fun i _(e:i=l.D)=>.inl e))) ⟨set_in b.d 2 _,⟨c.keep b.tab.box (b.ne b.tab.box (by decide)),fun j y=> ?_,b.tab.inj⟩,b.win.keep c (b.ne b.win.box (by decide)) (fun k hk=> ?_),⟨G.new,u.keep c (fun(e:m.heap.size=l.D)=>by omega) (fun k hk=>by simp[Value.ownBlock] at hk),is_new⟩,⟨b.ok.c,⟨is_new.ok,b.ok.e.q,b.ok.e.len⟩⟩⟩ ⟨fun k _ e=>by simp[Value.ownBlock] at e⟩ ⟨rfl,fun k hk=> ?_⟩⟩
  ·obtain⟨_,_,D,p,_⟩:=b.tab.set j y
   exact(b.tab.set j y).step c (b.ne D (by decide)) (b.ne p (by decide))
  ·obtain⟨C,F⟩:=own_block b.win.own hk
   exact b.ne F (by decide)
  ·rcases hk with e|((e|e)|e)|e|e|e
   ·exact .inl (.inl e)
   ·simp only at e
    exact .inr (by omega)
   ·simp[Value.ownBlock] at e
   ·exact .inl (.inr (.inl (.inr e)))
   ·exact .inl (.inr (.inr (.inl e)))
   ·exact .inl (.inr (.inr (.inr (.inl e))))
   ·exact .inl (.inr (.inr (.inr (.inr e)))))
 clear d u b c;go_wp2_with fail;go_ret;exact⟨_,rfl,r.out⟩
theorem xreset_calls{w:World}{l:XL}{x:Xe}(h:XE w l x)(lc lp pb:Nat)(q:lc+lp≤4)(u:pb≤4):
 Calls Tryz.prog 71 #[ptr l.D,.agg #[.int .i64 lc,.int .i64 lp,.int .i64 pb]] w fun e B=>e=.returned (.int .i64 0)∧EPst l w ⟨x.c.fresh lc lp pb,⟨x.e.k,fresh lc lp⟩⟩ B:=by
 have v:=heap_alloc_new w (.cells #[.int .i64 lc,.int .i64 lp,.int .i64 pb] 24);have k:=(R0 w).alloc (.cells #[.int .i64 lc,.int .i64 lp,.int .i64 pb] 24);have z:=fun W=>Hd (props_ok lc lp pb q u W);have t:=fun W=>Hd (tables_calls lc lp pb W q);unfold Lz.NewPost at t;have s:=Hd h;have A:=Hd v;have y:=Hd k;clear h v k;go_enter Tryz.func71,Tryz.ntmps71;go_wp2_with fail;refine(z _).out.mono ?_;rintro e C ⟨⟨D,rfl⟩,a⟩;have m:=a.keep A.out (fun h=>h);obtain⟨H,I,J⟩:=cs3 m rfl rfl rfl;have f:=Hd (y.out.trans a);clear a m;go_wp2_with fail;refine(t _).out.mono ?_;rintro e E ⟨T,b,g,rfl,c,d,p,r⟩;have o:=(s.out.keep (f.out.trans c)).at';have i:=f.out.size;have n:=Hd (s.out.tabs (f.out.trans c) d (Nat.le_trans i p) (fun j hj=>⟨Nat.le_trans i (r j hj).1,Nat.le_trans i (r j hj).2⟩) q u);have F:E.cell? ⟨l.D,0,none⟩=some (ptr l.T):=cell_in o.d rfl;have G:=frozen_in o.d 0;clear c d r o;go_wp2_with fail;go_ret;exact⟨rfl,n.out⟩
theorem xraw_calls{w:World}{l:XL}{x:Xe}(h:XE w l x)(v:Value)(b:List UInt8)(n:Rd w v b)(c:0<b.length→∀k,v.ownBlock=some k→¬XFoot l k)(s:x.c.all.length+b.length≤1152921504606846976):
 Calls Tryz.prog 69 #[ptr l.D,v] w fun e A=>e=.returned (.tuple #[])∧EPst l w ⟨x.c.on b,x.e⟩ A:=by
 have C:w.cell? ⟨l.D,1,none⟩=some (ptr l.W):=cell_in h.at'.d rfl;have p:=Hd (Win.put_calls l.W x.c.size l.t l.rv v x.c.all l.ring b w h.at'.win n (fun r k g e=>c r k g (.inr (.inr (.inr (.inl e))))) s);have d:=Hd h;clear h n c;go_enter Tryz.func69,Tryz.ntmps69;go_wp2_with fail;refine p.out.mono ?_;rintro e B ⟨rfl,u,i,D,a,m,o⟩;have f:=Hd (show EPst l w ⟨x.c.on b,x.e⟩ B from by
  obtain⟨y,j,E,q,z,t⟩:=d.out.at'.wrote d.out.sep a m o;refine d.out.post (a.mono (fun k _ e=>.inr (.inr (e.elim .inl (fun e=>.inr (.inl e)))))) q z ⟨rfl,fun k g=> ?_⟩;rcases g with e|((e|e)|e)|e|e|e
  ·exact .inl (.inl e)
  ·exact .inl (.inr (.inl (.inl (.inl e))))
  ·exact .inl (.inr (.inl (.inl (.inr e))))
  ·exact .inl (.inr (.inl (.inr e)))
  ·exact .inl (.inr (.inr (.inl e)))
  ·exact(t k e).imp (fun e=>.inr (.inr (.inr (.inl e)))) id
  ·exact .inl (.inr (.inr (.inr (.inr e)))))
 clear a m o;go_wp2_with fail;go_end0;exact⟨rfl,f.out⟩
end En
namespace En
open Mem Rc Win Lz St
end En
namespace En
open Mem Rc Win Lz St
theorem rowLen_bd(lc lp:Nat)(h:lc+lp≤4)(j:Nat)(d:j<18):0<Lz.rowLen lc lp j∧Lz.rowLen lc lp j≤1048576:=by
 have c:∀a:Fin 5,∀b:Fin 5,∀j:Fin 18,a.val+b.val≤4→0<Lz.rowLen a.val b.val j.val∧Lz.rowLen a.val b.val j.val≤1048576:=by decide+kernel
 exact c ⟨lc,by omega⟩ ⟨lp,by omega⟩ ⟨j,d⟩ h
def XForked(w:World)(x:Xe)(e:Ending)(w':World):Prop:=∃l':XL,e=.returned (ptr l'.D)∧Fr (fun _=>False) w w'∧XE w' l' x∧∀k,XFoot l' k→w.heap.size≤k
set_option maxRecDepth 100000 in
theorem xfork_calls{w:World}{l:XL}{x:Xe}(h:XE w l x)(hs:x.e.k.s≤1099511627000):Calls Tryz.prog 68 #[ptr l.D] w (XForked w x):=by
 obtain⟨X,a,hg⟩:=h.at'.rc;have Z:=h.five;have hr:l.ring.length≤70368744177664:=by have h1:=h.at'.win.of.len;have h2:=h.at'.win.top;omega
 have u:=h.at'.ok;have g:=Hd ((R0 w).drew);have A:=Hd (show∀w':World,Fr (fun _=>False) w w'→w'.cell? ⟨l.D,0,none⟩=some (ptr l.T)∧w'.cell? ⟨l.D,1,none⟩=some (ptr l.W)∧w'.cell? ⟨l.D,2,none⟩=some (ptr l.E) from fun w' d=>
  ⟨cell_in (i:=0) (d.keep h.at'.d (fun h=>h)) rfl,cell_in (i:=1) (d.keep h.at'.d (fun h=>h)) rfl,cell_in (i:=2) (d.keep h.at'.d (fun h=>h)) rfl⟩)
 have P:=Hd (show∀w':World,Fr (fun _=>False) w w'→Calls Tryz.prog 119 #[ptr l.T] w' (Enc.NewTab w' x.c.lc x.c.lp x.c.pb x.c.s x.e.ps) from fun w' d=>
  Enc.tabForkP_calls l.T x.c.lc x.c.lp x.c.pb l.b l.g x.c.s x.e.ps w' ⟨d.keep h.at'.tab.box (fun h=>h),fun j n=>(h.at'.tab.set j n).keep d,h.at'.tab.inj⟩ (fun j n=>by rw[u.e.len j n];exact rowLen_bd _ _ u.c.l j n))
 have Q:=Hd (show∀w':World,Fr (fun _=>False) w w'→Calls Tryz.prog 120 #[ptr l.W] w' (fun e r=>∃b' rv',e=.returned (.pointer (some ⟨b',0,none⟩))∧Fr (fun _=>False) w' r∧w'.heap.size≤b'∧Win.At r b' rv' x.c.size x.c.all l.ring l.t∧(∀k,rv'.ownBlock=some k→w'.heap.size≤k)) from fun w' d=>
  Enc.winFork_calls l.W x.c.size l.t l.rv x.c.all l.ring w' (h.at'.win.keep d (fun h=>h) (fun _ _ h=>h)) hr)
 have T:=Hd (show∀w':World,Fr (fun _=>False) w w'→Calls Tryz.prog 121 #[ptr l.E] w' (fun e r=>∃B',e=.returned (ptr B')∧w'.heap.size≤B'∧Fr (fun _=>False) w' r∧∃v',EAt r B' v' X∧∀k,v'.ownBlock=some k→w'.heap.size≤k) from fun w' d=>
  fork_calls (a.keep d (fun h=>h) (fun _ _ h=>h)) (by have:=hg.ab.s;omega))
 have m:=Hd (A.out w.drew g.out);obtain⟨N,R,S⟩:=A.out w (Fr.refl _ _);have HG:=Hd hg;have U:=Hd u;have H5:=Hd Z;clear h a hg u Z;go_enter Tryz.func68,Tryz.ntmps68;go_wp2_with fail;go_region_held3 (fun w'=>w'.cell? ⟨l.D,0,none⟩=some (ptr l.T)∧w'.cell? ⟨l.D,1,none⟩=some (ptr l.W)∧w'.cell? ⟨l.D,2,none⟩=some (ptr l.E)) (first|with_reducible exact m.out|with_reducible exact A.out _ g.out|with_reducible exact A.out _ (g.out.alloc _)) ((first
  | (go_at_call 119
     with_reducible refine(P.out _ g.out).mono ?_
     rintro e wc ⟨D,c,Y,rfl,b,I,q,C⟩;have f:=g.out.size;have g:=Hd (g.out.trans b);have m:=Hd (A.out _ g.out);obtain⟨N,R,S⟩:=m.out;have o:=Hd (show∀w':World,Fr (fun _=>False) wc w'→Tab w' D c Y x.c.lc x.c.lp x.c.pb x.c.s x.e.ps∧w.heap.size≤D∧D<w'.heap.size∧∀j,j<18→(w.heap.size≤c j∧w.heap.size≤Y j) from fun w' d=>⟨⟨d.keep q.box (fun h=>h),fun j n=>(q.set j n).keep d,q.inj⟩,Nat.le_trans f I,Nat.lt_of_lt_of_le (lt_of_block q.box) d.size,fun j n=>⟨Nat.le_trans f (C j n).1,Nat.le_trans f (C j n).2⟩⟩);try(have p:=Hd (fun(w':World)(d:Fr (fun _=>False) wc w')=>p.out w' (b.trans d)))
     try(have z:=Hd (fun(w':World)(d:Fr (fun _=>False) wc w')=>z.out w' (b.trans d)))
     clear b I q C f)
  | (go_at_call 121
     with_reducible refine(T.out _ g.out).mono ?_
     rintro e wc ⟨L,rfl,G,b,O,H,B⟩;have f:=g.out.size;have g:=Hd (g.out.trans b);have m:=Hd (A.out _ g.out);obtain⟨N,R,S⟩:=m.out;have z:=Hd (show∀w':World,Fr (fun _=>False) wc w'→EAt w' L O X∧w.heap.size≤L∧(∀k,O.ownBlock=some k→w.heap.size≤k) from fun w' d=>⟨H.keep d (fun h=>h) (fun _ _ h=>h),Nat.le_trans f G,fun k t=>Nat.le_trans f (B k t)⟩);try(have V:=Hd (show∀k,v.ownBlock=some k→O.ownBlock≠some k from fun k t e=>by
      have h1:=(World.ownsRow.lt (W.out) k t).2;have h2:=B k e;omega))
     try(have p:=Hd (fun(w':World)(d:Fr (fun _=>False) wc w')=>p.out w' (b.trans d)))
     try(have o:=Hd (fun(w':World)(d:Fr (fun _=>False) wc w')=>o.out w' (b.trans d)))
     clear b G H B f)
  | (go_at_call 120
     with_reducible refine(Q.out _ g.out).mono ?_
     rintro e wc ⟨M,v,rfl,b,K,E,y⟩;have f:=g.out.size;have g:=Hd (g.out.trans b);have m:=Hd (A.out _ g.out);obtain⟨N,R,S⟩:=m.out;have p:=Hd (show∀w':World,Fr (fun _=>False) wc w'→Win.At w' M v x.c.size x.c.all l.ring l.t∧w.heap.size≤M∧(∀k,v.ownBlock=some k→w.heap.size≤k) from fun w' d=>⟨E.keep d (fun h=>h) (fun _ _ h=>h),Nat.le_trans f K,fun k t=>Nat.le_trans f (y k t)⟩);have W:=Hd E.own;try(have o:=Hd (fun(w':World)(d:Fr (fun _=>False) wc w')=>o.out w' (b.trans d)))
     clear b K E y f)))
 all_goals go_wp2_with fail
 all_goals go_ret
 all_goals
  have s:=(R0 wc).alloc (.cells #[ptr D,ptr M,ptr L] 149);have q:=o.out _ s;have J:=p.out _ s;have F:=z.out _ s;have hD:=g.out.size;refine⟨⟨wc.heap.size,L,D,M,O,v,l.ring,l.t,c,Y⟩,rfl,g.out.trans s,⟨⟨heap_alloc_new _ _,q.1,J.1,⟨X,F.1,HG.out⟩,U.out⟩,⟨V.out⟩,fun k t=> ?_⟩,fun k t=> ?_⟩
  ·have Z:=H5.out
   rcases t with e|((e|e)|⟨j,n,e⟩)|e|e|e
   ·simp only at e;omega
   ·simp only at e;have:=F.2.1;omega
   ·have:=F.2.2 k e;omega
   ·simp only at e;have:=(q.2.2.2 j n).2;omega
   ·simp only at e;have:=J.2.1;omega
   ·have:=J.2.2 k e;omega
   ·simp only at e;have:=q.2.1;omega
  ·rcases t with e|((e|e)|⟨j,n,e⟩)|e|e|e
   ·simp only at e;omega
   ·simp only at e;have:=F.2.1;omega
   ·exact F.2.2 k e
   ·simp only at e;have:=(q.2.2.2 j n).2;omega
   ·simp only at e;have:=J.2.1;omega
   ·exact J.2.2 k e
   ·simp only at e;have:=q.2.1;omega
end En
namespace Pk
open Mem Rc St Lz En Win Ck
theorem xlt{w:World}{l:XL}{x:Xe}(h:XE w l x):∀k,XFoot l k→k<w.heap.size:=by
 rintro k (rfl|((rfl|e)|⟨j,c,rfl⟩)|rfl|e|rfl)
 ·exact lt_of_block h.at'.d
 ·obtain⟨g,a,_⟩:=h.at'.rc
  exact lt_of_block a.box
 ·obtain⟨g,a,_⟩:=h.at'.rc
  exact(World.ownsRow.lt a.own k e).2
 ·obtain⟨_,_,_,b,_⟩:=h.at'.tab.set j c
  exact lt_of_block b
 ·exact lt_of_block h.at'.win.box
 ·exact(World.ownsRow.lt h.at'.win.own k e).2
 ·exact lt_of_block h.at'.tab.box
theorem xaside{w w':World}{l:XL}{x:Xe}{B:Nat}{n:Array Value}{t:TypeId}{fr:Nat×Nat}(h:XE w l x)(c:w.heap[B]? =some (.cells n t fr))(b:Fr (fun k=>k=B) w w')(o:149≠t)(p:217≠t)(q:210≠t)(r:219≠t)(s:360≠t)(u:3≠t)(i:5≠t):XE w' l x:=by
 obtain⟨g,a,f⟩:=h.at'.rc;refine⟨⟨b.keep h.at'.d (Ps.neOf h.at'.d c o),⟨b.keep h.at'.tab.box (Ps.neOf h.at'.tab.box c p),fun j m=> ?_,h.at'.tab.inj⟩,h.at'.win.keep b (Ps.neOf h.at'.win.box c q) (fun k hk=> ?_),⟨g,a.keep b (Ps.neOf a.box c r) (fun k hk=> ?_),f⟩,h.at'.ok⟩,h.sep,h.low⟩
 ·obtain⟨_,_,v,f,_⟩:=h.at'.tab.set j m
  exact(h.at'.tab.set j m).step b (Ps.neOf v c s) (Ps.neOf f c u)
 ·obtain⟨d,e⟩:=Lz.own_block h.at'.win.own hk
  exact Ps.neOf e c i
 ·obtain⟨d,e⟩:=Lz.own_block a.own hk
  exact Ps.neOf e c i
theorem xbeside{w w':World}{l:XL}{x:Xe}{v:Value}{o:List UInt8}{w0:World}(h:XE w l x)(s:Mine w0 w v o)(d:∀k,v.ownBlock=some k→¬XFoot l k)(c:Fr (fun k=>v.ownBlock=some k) w w'):XE w' l x:=by
 obtain⟨g,a,f⟩:=h.at'.rc;have b:∀{k:Nat}{i:Array Value}{t:TypeId}{m:Nat×Nat},w.heap[k]? =some (.cells i t m)→t≠5→¬v.ownBlock=some k:=by
  intro k i t m hk u e;obtain⟨p,r⟩:=Lz.own_block s.own e;exact Ps.neOf hk r u rfl
 refine⟨⟨c.keep h.at'.d (b h.at'.d (by decide)),⟨c.keep h.at'.tab.box (b h.at'.tab.box (by decide)),fun j n=> ?_,h.at'.tab.inj⟩,h.at'.win.keep c (b h.at'.win.box (by decide)) (fun k hk e=>d k e (.inr (.inr (.inr (.inl hk))))),⟨g,a.keep c (b a.box (by decide)) (fun k hk e=>d k e (.inr (.inl (.inl (.inr hk))))),f⟩,h.at'.ok⟩,h.sep,h.low⟩;obtain⟨_,_,q,f,_⟩:=h.at'.tab.set j n;exact(h.at'.tab.set j n).step c (b q (by decide)) (b f (by decide))
structure Cf where
 a:Int
 b:Int
 lc:Nat
 lp:Nat
 pb:Nat
 dict:Nat
 d:Int
 mode:Nat
def Cf.cells(c:Cf):Array Value:=#[.int .i64 c.a,.int .i64 c.b,.int .i64 c.lc,.int .i64 c.lp,.int .i64 c.pb,.int .i64 c.dict,.int .i64 c.d,.int .i64 c.mode]
def Cf.pr(c:Cf):Pr:=(c.lc,c.lp,c.pb)
def pkCells(cf:Cf)(dv:Value)(D:Nat)(s:S)(ov:Value)(b1 b2 b3:Bool):Array Value:=
 #[.int .i64 cf.a,.int .i64 cf.b,.int .i64 cf.lc,.int .i64 cf.lp,.int .i64 cf.pb,.int .i64 cf.dict,.int .i64 cf.d,.int .i64 cf.mode,dv,ptr D,.int .i64 s.num,.int .i64 s.r0,.int .i64 s.r1,.int .i64 s.r2,.int .i64 s.r3,ov,.bool b1,.bool b2,.bool b3]
structure PkAt(w0 w:World)(K:Nat)(cf:Cf)(dv ov:Value)(data:List UInt8)(l:XL)(t:Pst):Prop where
 box:w.heap[K]? =some (.cells (pkCells cf dv l.D t.s ov t.begun t.packed t.props) 87 (0,0))
 rd:Rd w dv data
 xe:XE w l t.x
 out:Mine w0 w ov (t.out cf.dict)
theorem PkAt.keep{w0 w w':World}{K:Nat}{b:Cf}{c d:Value}{data:List UInt8}{l:XL}{t:Pst}(h:PkAt w0 w K b c d data l t)(a:Fr (fun _=>False) w w'):PkAt w0 w' K b c d data l t:=
 ⟨a.keep h.box (fun h=>h),h.rd.keep a,h.xe.keep a,h.out.keep a⟩
def resCells(h:Head)(bv:Value)(D:Nat)(s:S):Array Value:=
 #[.int .i64 h.kind,.int .i64 h.size,.int .i64 h.packed,.int .i64 h.lc,.int .i64 h.lp,.int .i64 h.pb,bv,ptr D,.int .i64 s.num,.int .i64 s.r0,.int .i64 s.r1,.int .i64 s.r2,.int .i64 s.r3]
structure ResAt(w:World)(Z:Nat)(h:Head)(bv:Value)(b:List UInt8)(l:XL)(x:Xe)(s:S):Prop where
 box:w.heap[Z]? =some (.cells (resCells h bv l.D s) 155 (0,0))
 rd:Rd w bv b
 xe:XE w l x
theorem ResAt.keep{w w':World}{Z:Nat}{h:Head}{d:Value}{b:List UInt8}{l:XL}{x:Xe}{s:S}(c:ResAt w Z h d b l x s)(a:Fr (fun _=>False) w w'):ResAt w' Z h d b l x s:=
 ⟨a.keep c.box (fun h=>h),c.rd.keep a,c.xe.keep a⟩
theorem kind_calls(K:Nat)(k:Cf)(m n:Value)(data:List UInt8)(l:XL)(t:Pst)(w0 w:World)(h:PkAt w0 w K k m n data l t):
 Calls Tryz.prog 70 #[ptr K] w fun e p=>e=.returned (.int .i64 t.kind)∧w=p:=by
 have a:=h.box;simp only[pkCells] at a;have f:=cell_in (i:=16) a rfl;have g:=cell_in (i:=17) a rfl;have j:=cell_in (i:=18) a rfl;clear h a;unfold Pst.kind;obtain⟨o,x,s,b,c,d⟩:=t;cases b
 ·go_enter Tryz.func70,Tryz.ntmps70
  go_wp2_with fail;go_ret;exact⟨rfl,rfl⟩
 cases c
 ·cases d
  ·go_enter Tryz.func70,Tryz.ntmps70
   go_wp2_with fail;go_ret;exact⟨rfl,rfl⟩
  ·go_enter Tryz.func70,Tryz.ntmps70
   go_wp2_with fail;go_ret;exact⟨rfl,rfl⟩
 ·go_enter Tryz.func70,Tryz.ntmps70
  go_wp2_with fail;go_ret;exact⟨rfl,rfl⟩
def RawPost(w:World)(dv:Value)(x:Xe)(s:S)(k:Nat)(b:List UInt8)(e:Ending)(w':World):Prop:=
 Fr (fun _=>False) w w'∧∃(Z:Nat)(bv:Value)(l':XL),e=.returned (ptr Z)∧ResAt w' Z ⟨k,b.length,b.length,0,0,0⟩ bv b l' (x.raw b) s∧w.heap.size≤Z∧(∀j,XFoot l' j→w.heap.size≤j)∧∀j,bv.ownBlock=some j→dv.ownBlock=some j
theorem drop_block{p:Option Addr}{b a n c g f:Nat}:∀j,(Value.slice (dropP p b a) n c).ownBlock=some j→(Value.slice p g f).ownBlock=some j:=by
 intro j h;unfold dropP at h;cases p with
 |none=>
   split at h
   ·simp[Value.ownBlock] at h
   ·simp[Value.ownBlock] at h
 |some q=>
   split at h
   ·simpa only[Value.ownBlock] using h
   ·simp only[Option.map_some,Value.ownBlock,Option.some.injEq] at h ⊢
    obtain⟨d,i,k⟩:=q;have e:(Addr.add ⟨d,i,k⟩ a).block=d:=by
     unfold Addr.add;split<;>rfl
    rw[e] at h;exact h
set_option maxRecDepth 100000 in
theorem raw_calls(K b tp:Nat)(Z:Cf)(N ov:Value)(data:List UInt8)(l:XL)(t:Pst)(w0 w:World)(h:PkAt w0 w K Z N ov data l t)(hf:b<tp)(ht:tp≤data.length)(hb:data.length≤1073741824)(S:t.x.e.k.s≤1099511627000)(hm:t.x.c.all.length≤1073741824):
 Calls Tryz.prog 36 #[ptr K,.int .i64 b,.int .i64 tp] w (RawPost w N t.x t.s (if t.begun=false then 1 else 2) ((data.drop b).take (tp-b))):=by
 have M:=h.rd;obtain⟨p,c,rfl,R,a0,_⟩:=M;have a:=h.box;obtain⟨a2,x,s,W,b2,b3⟩:=t;obtain⟨sn,s0,s1,s2,s3⟩:=s;simp only[pkCells] at a S hm ⊢;have X:=cell_in (i:=8) a rfl;have Y:=cell_in (i:=9) a rfl;have z:=cell_in (i:=10) a rfl;have A:=cell_in (i:=11) a rfl;have B:=cell_in (i:=12) a rfl;have C:=cell_in (i:=13) a rfl;have D:=cell_in (i:=14) a rfl;have L:=cell_in (i:=16) a rfl;have g:=rd_mid h.rd (show b≤tp by omega) ht;have a1:=slice_lh p data.length c b tp (by omega) (by omega);have T:=Hd a;have h':=h;have O:=Hd g;clear h a g;have U:=Hd (xfork_calls h'.xe S);have q:((data.drop b).take (tp-b)).length=tp-b:=by rw[List.length_take,List.length_drop];omega
 have E:∀k,(Value.slice (dropP p c b) (tp-b) (c-b)).ownBlock=some k→k<w.heap.size:=Ps.rdlt O.out (by rw[q];omega);have J:=Hd E;have y:=Hd q;clear E q;cases W
 all_goals
  go_enter Tryz.func36,Tryz.ntmps36;go_wp2_with fail;refine U.out.mono ?_;rintro e w1 ⟨l1,rfl,n,H,o⟩;have r:=Hd n;have u:=Hd o;have V:=Hd (xraw_calls H (.slice (dropP p c b) (tp-b) (c-b)) ((data.drop b).take (tp-b)) (O.out.keep n) (fun _ k hk e=>by
   have:=J.out k hk;have:=o k e;omega) (by rw[y.out];omega))
  clear n H o;go_wp2_with fail;refine V.out.mono ?_;rintro e Q ⟨rfl,F,l2,G,I⟩;have f:Fr (fun _=>False) w Q:=r.out.trans' F (fun k hk e=>by have:=u.out k e;omega);have d:=f.keep T.out (fun h=>h);clear X Y z A B C D L;have z:=cell_in (i:=10) d rfl;have A:=cell_in (i:=11) d rfl;have B:=cell_in (i:=12) d rfl;have C:=cell_in (i:=13) d rfl;have D:=cell_in (i:=14) d rfl;have m:=Hd f;have P:=Hd I;have v:=Hd G;clear F f d I G;go_wp2_with fail;go_ret;refine⟨m.out.alloc _,Q.heap.size,.slice (dropP p c b) (tp-b) (c-b),l2,rfl,⟨?_,O.out.keep (m.out.alloc _),P.out.keep ((Fr.refl _ _).alloc _)⟩,m.out.size,fun j hj=> ?_,drop_block⟩
  ·rw[y.out]
   unfold resCells;rw[v.out.D];exact heap_alloc_new Q _
  ·rcases v.out.F j hj with e|e
   ·exact u.out j e
   ·exact Nat.le_trans r.out.size e
end Pk
end Go.Proofs.YtffoddpjfgjelaaGreatDoor
