/- Part 49 of 54: lemmas of the last part, each under the conditions that it names. -/
import Derived.Maps.RangeWalk
import Derived.Deep.RegionHeld3
import Derived.Deep.DeepCutAuto
import Derived.Test.YtffoddpjfgjelaaGreatDoorK48
set_option linter.unusedVariables false
set_option linter.unusedSimpArgs false
set_option maxRecDepth 1500
set_option maxHeartbeats 2000000
namespace Go.Proofs.YtffoddpjfgjelaaGreatDoor
open Go.RowKit
namespace Rf
open Mem Rc Prob Lz
theorem key_same(a b:List UInt8):(Lit.string a).sameKey (.string b)=(a==b):=rfl
structure Cp(B:Nat)(st N:List Ent)(left:Lit→Bool):Prop where
 of:∀f ∈ N,∃e ∈ st,e.s=f.s∧e.L=f.L∧left (.string f.s)=false
 come:∀e ∈ st,left (.string e.s)=false→look N e.s≠none
 new:∀f ∈ N,B≤f.b∧B≤f.g
 one:(N.map (·.s)).Nodup
theorem has_of{D:DataW Unit}(f:Maps.IsMap D){k:Lit}{d:DataW Unit}(h:∀zd,D.atKey k zd=d):Maps.has D k=true:=by
 obtain⟨c,rfl⟩:=f;cases hh:Maps.has (.map c) k with
 |true=>rfl
 |false=>
   have e:c.find? (fun p=>p.1.sameKey k)=none:=by
    rw[List.find?_eq_none];intro p i g;have a:c.any (fun p=>p.1.sameKey k)=true:=List.any_eq_true.2 ⟨p,i,g⟩;rw[Maps.has_eq,a] at hh;cases hh
   have a:=h .nil;have b:=h (.map []);unfold DataW.atKey at a b;simp only[e] at a b;rw[←a] at b;cases b
theorem cp_start(B:Nat){st:List Ent}{D:DataW Unit}(g:Maps.IsMap D)(a:∀s zd,D.atKey (.string s) zd=datum (look st s) zd)(j:(st.map (·.s)).Nodup):Cp B st [] (Maps.has D):=by
 refine⟨fun f b=>(by cases b),fun e i h=> ?_,fun f b=>(by cases b),List.nodup_nil⟩;have c:=has_of g (k:=.string e.s) (d:=.lit (.int .i64 e.b)) (fun zd=>by rw[a,look_self j i];rfl);rw[c] at h;cases h
theorem Cp.not{B:Nat}{st N:List Ent}{left:Lit→Bool}(h:Cp B st N left){s:List UInt8}(a:left (.string s)=true):look N s=none:=by
 cases hk:look N s with
 |none=>rfl
 |some f=>
   obtain⟨c,rfl⟩:=look_some hk;obtain⟨_,_,_,_,b⟩:=h.of f c;rw[b] at a;cases a
theorem Cp.step{B:Nat}{st N:List Ent}{left:Lit→Bool}(h:Cp B st N left){g f:Ent}(w:left (.string g.s)=true)(u:g ∈ st)(l:f.s=g.s)(r:f.L=g.L)(t:B≤f.b)(v:B≤f.g):Cp B st (N++[f]) (fun z=>left z&& !z.sameKey (.string g.s)):=by
 have k:=h.not w;have m:=look_none k;refine⟨fun x c=> ?_,fun x c i=> ?_,fun x c=> ?_,?_⟩
 ·rcases List.mem_append.1 c with c|c
  ·obtain⟨e,n,o,p,q⟩:=h.of x c
   exact⟨e,n,o,p,by simp only[q,Bool.false_and]⟩
  ·obtain rfl:=List.mem_singleton.1 c
   exact⟨g,u,l.symm,r.symm,by simp only[key_same,l,beq_self_eq_true,Bool.not_true,Bool.and_false]⟩
 ·rw[look_add N f _ (by rw[l];exact k)]
  by_cases d:f.s=x.s
  ·rw[if_pos d]
   intro h;cases h
  ·rw[if_neg d]
   refine h.come x c ?_;simp only[key_same,Bool.and_eq_false_iff,Bool.not_eq_false',beq_iff_eq] at i;rcases i with i|i
   ·exact i
   ·exact absurd (l.trans i.symm) d
 ·rcases List.mem_append.1 c with c|c
  ·exact h.new x c
  ·obtain rfl:=List.mem_singleton.1 c
   exact⟨t,v⟩
 ·rw[List.map_append,List.nodup_append]
  refine⟨h.one,by simp,fun a s b j=> ?_⟩;obtain⟨x,c,rfl⟩:=List.mem_map.1 s;simp only[List.map_cons,List.map_nil,List.mem_singleton] at j;subst j;rw[l];exact m x c
theorem Cp.len{B:Nat}{st N:List Ent}{left:Lit→Bool}(h:Cp B st N left):N.length≤st.length:=by
 have a:=count_le (N.map (·.s)) (st.map (·.s)) h.one (fun x g=>by
  obtain⟨f,d,rfl⟩:=List.mem_map.1 g;obtain⟨e,c,b,_⟩:=h.of f d;exact List.mem_map.2 ⟨e,c,b⟩)
 simpa using a
theorem Cp.has{B:Nat}{st N:List Ent}{left:Lit→Bool}{ps:Nat→List Nat}(h:Cp B st N left)(l:∀kl,left kl=false)(i:Has st ps):Has N ps:=by
 refine⟨h.one,fun f g=> ?_,fun f g=> ?_,fun a j k=>i.fresh a j ?_⟩
 ·obtain⟨e,b,_,d,_⟩:=h.of f g
  rw[←d];exact i.len e b
 ·obtain⟨e,b,c,d,_⟩:=h.of f g
  rw[←c,←d];exact i.name e b
 ·cases hs:look st a.str with
  |none=>rfl
  |some e=>
    obtain⟨b,c⟩:=look_some hs;have:=h.come e b (l _);rw[c] at this;exact absurd k this
theorem found{st:List Ent}{D:DataW Unit}{x:List UInt8}{f:Lit}{c:Nat}{y:DataW Unit×List MemPlace}(b:keyOf Tryz.prog 9 (bstr x)=some f)(h:RV (ptr c)=some y)(l:∀zd,D.atKey f zd=y.1)
 (d:∀s zd,D.atKey (.string s) zd=datum (look st s) zd):f=.string x∧x.length≤maxLen∧∃en,look st x=some en∧en.b=c:=by
 obtain⟨s,g,rfl,m⟩:=WideMaps.string_of_keyOf Tryz.underlying9 b;have e:s=⟨x.toArray⟩:=by
  simp only[bstr,Value.string.injEq] at g;exact g.symm
 subst e;refine⟨rfl,by have i:x.toArray.size≤maxLen:=m;simpa using i,?_⟩;rw[RV_ptr] at h;obtain rfl:=Option.some.inj h;have j:=l .nil;have a:=d x .nil;have k:D.atKey (.string x) .nil=.lit (.int .i64 (c:Int)):=j;rw[k] at a;cases hl:look st x with
 |none=>rw[hl] at a;cases a
 |some en=>
   rw[hl] at a;simp only[datum,DataW.lit.injEq,Lit.int.injEq,true_and] at a;exact⟨en,rfl,by omega⟩
end Rf
namespace Rf
open Mem Rc Prob St Lz Win En Ga
def kW(c:C)(V:Nat)(m ev:Value):Array Value:=#[.int .i64 c.lc,.int .i64 c.lp,.int .i64 c.pb,ptr V,.int .i64 c.s.num,.int .i64 c.s.r0,.int .i64 c.s.r1,.int .i64 c.s.r2,.int .i64 c.s.r3,m,ev]
structure F1(w:World)(c:C)(e:Es)(K' V' E':Nat)(av' v':Value)(wx:World):Prop where
 fr:Fr (fun _=>False) w wx
 k:wx.heap[K']? =some (.cells (kW c V' (.map none) (ptr E')) 107 (0,0))
 v:WAt wx V' av' c.size c.all
 q:QAt wx E' v' e.k
 ap:∀k,v'.ownBlock=some k→av'.ownBlock≠some k
 nk:w.heap.size≤K'
 nv:w.heap.size≤V'
 na:∀k,av'.ownBlock=some k→w.heap.size≤k
 ne:w.heap.size≤E'
 nq:∀k,v'.ownBlock=some k→w.heap.size≤k
def CForked(c:C)(e:Es)(w:World)(r:Ending)(w':World):Prop:=∃(l':RL)(E':Nat)(v':Value),r=.returned (ptr l'.K)∧Fr (fun _=>False) w w'∧EC w' l' E' v' c e∧∀k,ECF l' E' v' k→w.heap.size≤k
abbrev KC(l:RL)(c:C)(E:Nat)(w':World):Prop:=w'.cell? ⟨l.K,0,none⟩=some (.int .i64 c.lc)∧w'.cell? ⟨l.K,1,none⟩=some (.int .i64 c.lp)∧w'.cell? ⟨l.K,2,none⟩=some (.int .i64 c.pb)∧w'.cell? ⟨l.K,3,none⟩=some (ptr l.V)∧w'.cell? ⟨l.K,4,none⟩=some (.int .i64 c.s.num)∧
 w'.cell? ⟨l.K,5,none⟩=some (.int .i64 c.s.r0)∧w'.cell? ⟨l.K,6,none⟩=some (.int .i64 c.s.r1)∧w'.cell? ⟨l.K,7,none⟩=some (.int .i64 c.s.r2)∧w'.cell? ⟨l.K,8,none⟩=some (.int .i64 c.s.r3)∧w'.cell? ⟨l.K,9,none⟩=some (.map (some l.M))∧w'.cell? ⟨l.K,10,none⟩=some (ptr E)
theorem EC.kc{w:World}{l:RL}{E:Nat}{v:Value}{c:C}{e:Es}(h:EC w l E v c e):KC l c E w:=
 ⟨cell_in h.cod.k rfl,cell_in h.cod.k rfl,cell_in h.cod.k rfl,cell_in h.cod.k rfl,cell_in h.cod.k rfl,cell_in h.cod.k rfl,cell_in h.cod.k rfl,cell_in h.cod.k rfl,cell_in h.cod.k rfl,cell_in h.cod.k rfl,by rw[cell_in h.cod.k (i:=10) (v:=l.ev) rfl,h.ev]⟩
structure F2(w:World)(c:C)(e:Es)(K' V' E' M' r:Nat)(av' v':Value)(wx:World):Prop where
 fr:Fr (fun _=>False) w wx
 k:wx.heap[K']? =some (.cells (kW c V' (.map (some M')) (ptr E')) 107 (0,0))
 v:WAt wx V' av' c.size c.all
 q:QAt wx E' v' e.k
 ap:∀k,v'.ownBlock=some k→av'.ownBlock≠some k
 nk:w.heap.size≤K'∧K'<M'
 nv:w.heap.size≤V'∧V'<M'
 na:∀k,av'.ownBlock=some k→w.heap.size≤k∧k<M'
 ne:w.heap.size≤E'∧E'<M'
 nq:∀k,v'.ownBlock=some k→w.heap.size≤k∧k<M'
 lt:M'<r
 rz:r<wx.heap.size
theorem F2.step{w w0 wr:World}{c:C}{e:Es}{g j f d r:Nat}{a l:Value}(h:F2 w c e g j f d r a l w0)(b:Fr (fun k=>k=d∨k=r) w0 wr):F2 w c e g j f d r a l wr:=by
 have m:=h.nk;have n:=h.nv;have o:=h.ne;have p:=h.lt;refine⟨h.fr.trans' b (fun i q hk=>by omega),b.keep h.k (by omega),h.v.step b (by omega) (fun k hk=>by have:=h.na k hk;omega),QR.keep h.q b (by omega) (fun k hk=>by have:=h.nq k hk;omega),h.ap,h.nk,h.nv,h.na,h.ne,h.nq,h.lt,Nat.lt_of_lt_of_le h.rz b.size⟩
theorem F1.on{w wx w0:World}{c:C}{e:Es}{b m l:Nat}{g B:Value}(h:F1 w c e b m l g B wx)(u:((wx.alloc (.map #[] 0)).setCell ⟨b,9,none⟩ (.map (some wx.heap.size))).grownBy w0 none)(G:w0.heap.size=wx.heap.size+1+1):
 F2 w c e b m l wx.heap.size (wx.heap.size+1) g B w0∧SetsAt w0 wx.heap.size []:=by
 have D:=lt_of_block h.k;have j:Fr (fun _=>False) wx (wx.alloc (.map #[] 0)):=(Fr.refl _ wx).alloc _;have t:Fr (fun k=>k=b) wx (wx.alloc (.map #[] 0)):=j.mono (fun _ _ h=>h.elim);have d:Fr (fun k=>k=b) wx w0:=(Fr.setCell (p:=⟨b,9,none⟩) t (.inl rfl) _).grown u (fun k a=>by cases a);have v:=j.keep h.k (fun h=>h);have x:=set_in v 9 (.map (some wx.heap.size));have y:=((R0 _).grown u (fun k a=>by cases a)).keep x (fun h=>h);have E:KM w0 wx.heap.size []:=((KM.made wx).step (Fr.one (wx.alloc (.map #[] 0)) b 9 (.map (some wx.heap.size))) (by omega)).step ((R0 _).grown u (fun k a=>by cases a)) (fun h=>h);have H:=h.nv;have q:=lt_of_block h.v.v;have o:=lt_of_block h.q.box;have A:¬m=b:=blk_ne h.v.v h.k (by decide);have z:¬l=b:=blk_ne h.q.box h.k (by decide);refine⟨⟨h.fr.trans' d (fun i F a=>by have:=h.nk;omega),y,h.v.step d A (fun k a=> ?_),QR.keep h.q d z (fun k a=> ?_),h.ap,⟨h.nk,D⟩,⟨h.nv,q⟩,fun k a=>⟨h.na k a,(World.ownsRow.lt h.v.own k a).2⟩,⟨h.ne,o⟩,fun k a=>⟨h.nq k a,(World.ownsRow.lt h.q.own k a).2⟩,by omega,by omega⟩,E,fun f s=>(by cases s),fun f s=>(by cases s)⟩
 ·obtain⟨n,r⟩:=own_blk h.v.own a
  exact blk_ne r h.k (by decide)
 ·obtain⟨n,r⟩:=own_blk h.q.own a
  exact blk_ne r h.k (by decide)
theorem ranges_fr{S:Nat→Prop}{w w':World}{b r n:Nat}{D:DataW Unit}{left:Lit→Bool}{d:Nat}(h:w.ranges Tryz.prog 9 RV b r n D left d)(f:Fr S w w')(p:¬S b)(q:¬S r):w'.ranges Tryz.prog 9 RV b r n D left d:=by
 obtain⟨i,a,c,e,g,j,F,k,l,m,o⟩:=h;exact⟨i,a,c,e,g,f.keep j p,F,k,l,f.keep m q,o⟩
theorem F2.done{w w0:World}{c:C}{e:Es}{j m i g r:Nat}{d p:Value}{l:RL}{E:Nat}{v:Value}{N:List Ent}{left:Lit→Bool}(h:F2 w c e j m i g r d p w0)(b:EC w l E v c e)(q:SetsAt w0 g N)(n:Cp (r+1) l.st N left)(t:∀kl,left kl=false)(o:Ending)(u:o=.returned (ptr j)):CForked c e w o w0:=by
 subst u;have B:=h.fr.size;refine⟨⟨l.X,j,l.Q,m,g,ptr i,l.bv,d,N⟩,i,p,rfl,h.fr,⟨⟨h.k,h.v.v,h.v.own,q,n.has t b.cod.has,b.cod.okc,b.cod.len,b.cod.okp,b.cod.size,b.cod.much⟩,h.q,rfl,h.ap⟩,?_⟩;have x:=h.nk;have y:=h.nv;have z:=h.ne;have A:=h.lt;rintro k ((a|a|a|a|⟨f,s,a⟩)|a|a)
 ·exact a ▸ h.nk.1
 ·exact a ▸ h.nv.1
 ·exact(h.na k a).1
 ·have:k=g:=a
  omega
 ·have:=n.new f s
  omega
 ·exact a ▸ h.ne.1
 ·exact(h.nq k a).1
theorem cfork_calls{w:World}{l:RL}{E:Nat}{v:Value}{c:C}{e:Es}(h:EC w l E v c e)(hs:e.k.s≤1099511627000):Calls Tryz.prog 41 #[ptr l.K] w (CForked c e w):=by
 have d:=Hd ((R0 w).drew);have Z:=Hd (show∀w':World,Fr (fun _=>False) w w'→KC l c E w' from fun w' i=>(h.keep i).kc);have h0:=Hd (show∀w':World,Fr (fun _=>False) w w'→Calls Tryz.prog 80 #[ptr l.V] w' (fun e m=>∃G b,e=.returned (ptr G)∧Fr (fun _=>False) w' m∧WAt m G b c.size c.all∧w'.heap.size≤G∧∀k,b.ownBlock=some k→w'.heap.size≤k) from fun w' i=>
  wfork_calls l.V c.size l.av c.all w' ⟨(h.keep i).cod.v,(h.keep i).cod.all⟩ h.cod.much)
 have h3:=Hd (show∀w':World,Fr (fun _=>False) w w'→Calls Tryz.prog 81 #[ptr E] w' (fun r m=>∃Q X,r=.returned (ptr Q)∧Fr (fun _=>False) w' m∧QAt m Q X e.k∧w'.heap.size≤Q∧∀j,X.ownBlock=some j→w'.heap.size≤j) from fun w' i=>efork7_calls (h.keep i).q hs);have F:=Hd (Z.out w.drew d.out);obtain⟨c0,c1,c2,c3,c4,c5,c6,c7,c8,c9,R⟩:=Z.out w (Fr.refl _ _);have H:=Hd h;clear h;go_enter Tryz.func41,Tryz.ntmps41;go_upto_region 1 with fail;go_cut [3] (fun s3 wx=>∃(B G Q:Nat)(b X:Value),s3=ptr B∧F1 w c e B G Q b X wx);case first=>
  go_region_held3 (fun w'=>w'.cell? ⟨l.K,0,none⟩=some (.int .i64 c.lc)∧w'.cell? ⟨l.K,1,none⟩=some (.int .i64 c.lp)∧w'.cell? ⟨l.K,2,none⟩=some (.int .i64 c.pb)∧w'.cell? ⟨l.K,3,none⟩=some (ptr l.V)∧w'.cell? ⟨l.K,4,none⟩=some (.int .i64 c.s.num)∧
 w'.cell? ⟨l.K,5,none⟩=some (.int .i64 c.s.r0)∧w'.cell? ⟨l.K,6,none⟩=some (.int .i64 c.s.r1)∧w'.cell? ⟨l.K,7,none⟩=some (.int .i64 c.s.r2)∧w'.cell? ⟨l.K,8,none⟩=some (.int .i64 c.s.r3)∧w'.cell? ⟨l.K,9,none⟩=some (.map (some l.M))∧w'.cell? ⟨l.K,10,none⟩=some (ptr E)) (first|with_reducible exact F.out|with_reducible exact Z.out _ d.out|with_reducible exact Z.out _ (d.out.alloc _)) ((first
  | (go_at_call 80
     with_reducible refine(h0.out _ d.out).mono ?_
     rintro e wc ⟨G,b,rfl,a,hW,f6,f8⟩;have n:=d.out.size;have d:=Hd (d.out.trans a);have F:=Hd (Z.out _ d.out);obtain⟨c0,c1,c2,c3,c4,c5,c6,c7,c8,c9,R⟩:=F.out;have i1:=Hd hW.own;have b4:=Hd (show∀w':World,Fr (fun _=>False) wc w'→WAt w' G b c.size c.all∧w.heap.size≤G∧(∀k,b.ownBlock=some k→w.heap.size≤k) from fun w' i=>⟨hW.keep i,Nat.le_trans n f6,fun k hk=>Nat.le_trans n (f8 k hk)⟩);clear a hW f6 f8 n)
  | (go_at_call 81
     with_reducible refine(h3.out _ d.out).mono ?_
     rintro e wc ⟨Q,X,rfl,a,hQ,f1,b6⟩;have n:=d.out.size;have d:=Hd (d.out.trans a);have F:=Hd (Z.out _ d.out);obtain⟨c0,c1,c2,c3,c4,c5,c6,c7,c8,c9,R⟩:=F.out;have i0:=Hd (show∀k,X.ownBlock=some k→b.ownBlock≠some k from fun k hk e=>by
      have h1:=(World.ownsRow.lt (i1.out) k e).2;have h2:=b6 k hk;omega)
     have b4:=Hd (fun(w':World)(i:Fr (fun _=>False) wc w')=>b4.out w' (a.trans i));have d6:=Hd (show w.heap.size≤Q∧(∀k,X.ownBlock=some k→w.heap.size≤k) from⟨Nat.le_trans n f1,fun k hk=>Nat.le_trans n (b6 k hk)⟩);have HQ:=Hd hQ;clear a f1 b6 hQ n)))
  all_goals go_wp2_with fail
  all_goals go_meet
  all_goals
   have b8:=(R0 wc).alloc (.cells (kW c G (.map none) (ptr Q)) 107);have hW:=b4.out _ b8;exact⟨wc.heap.size,G,Q,b,X,rfl,⟨d.out.trans b8,heap_alloc_new _ _,hW.1,QR.keep HQ.out b8 (fun h=>h) (fun _ _ h=>h),i0.out,d.out.size,hW.2.1,hW.2.2,d6.out.1,d6.out.2⟩⟩
 case rest=>
  obtain⟨B,G,Q,b,X,rfl,hF⟩:=hcut;obtain⟨c0,c1,c2,c3,c4,c5,c6,c7,c8,c9,R⟩:=Z.out wc hF.fr;have i9:=hF.nk;have j3:=H.out.cod.old l.K (.inl rfl);have n1:¬l.K=B:=by omega
  have n2:¬B=l.K:=by omega
  have d0:=((R0 wc).alloc (.map #[] 0)).keep hF.k (fun h=>h);have f9:=frozen_in d0 9;have d9:(wc.alloc (.map #[] 0)).cell? ⟨B,9,none⟩=some (.map none):=cell_in d0 rfl;clear d0;have i5:=mk_map;have b9:Fr (fun _=>False) w ((wc.alloc (.map #[] 0)).setCell ⟨B,9,none⟩ (.map (some wc.heap.size))):=(hF.fr.alloc _).setCell (.inr hF.nk) _;have e1:((wc.alloc (.map #[] 0)).setCell ⟨B,9,none⟩ (.map (some wc.heap.size))).heap.size=wc.heap.size+1:=by simp[World.setCell]
  obtain⟨D,a8,hD,f7⟩:=H.out.cod.sets.km.step b9 (fun h=>h);have k9:=(Z.out _ b9).2.2.2.2.2.2.2.2.2.1;have e3:=Hd a8;have HF:=Hd hF;have HD:=Hd hD;have d3:=Hd f7;clear hF b9 a8 hD f7;go_wp2_with (first|(at_range;refine wpList_range_own _ rfl _ 104 rfl 9 170 (Maps.string_keyed Tryz.underlying9) Tryz.underlying104 RV l.M l.st.length D rfl e3.out ?_;intro w0 a9 g2 d2)|fail);try go_frame
  rw[e1] at a9 d2;try rw[e1]
  obtain⟨f2,Y⟩:=HF.out.on g2 d2;have g9:=Hd f2;have e7:=Hd Y;clear g2 d2 f2 Y i5 d9 f9 k9 c0 c1 c2 c3 c4 c5 c6 c7 c8 c9 R e1;generalize wc.heap.size=M' at*;go_loopw [4,5] (fun _ _ wr=>∃(left:Lit→Bool)(b5:Nat)(N:List Ent),wr.ranges Tryz.prog 9 RV l.M (M'+1) l.st.length D left b5∧SetsAt wr M' N∧Cp (M'+1+1) l.st N left∧Fr (fun k=>k=M'∨k=M'+1) w0 wr)
   (fun _ _ wr=>wr.rangeLeft l.M (M'+1))
  case atStart=>
   exact⟨_,_,[],a9,e7.out,cp_start _ HD.out d3.out H.out.cod.has.nodup,Fr.refl _ _⟩
  case round=>
   obtain⟨left,b5,N,d1,f4,e9,K⟩:=hrel;have b2:=Hd (g9.out.step K);have e6:=Hd f4;have u:=Hd e9;have d7:=Hd K;clear f4 e9 K;go_wp2_with (first|(at_next;refine wpList_next_ranges _ rfl _ rfl 9 (Maps.string_keyed Tryz.underlying9) RV (fun x:List UInt8=>bstr x) (fun q:Nat=>ptr q) (fun key kl hk=>by obtain ⟨s,rfl,_,_⟩:=WideMaps.string_of_keyOf Tryz.underlying9 hk;exact ⟨s.data.toList,rfl⟩) (fun vv y hv=>by obtain ⟨q,rfl,_⟩:=RV_inv hv;exact ⟨q,rfl⟩) l.M (M'+1) l.st.length D left b5 rfl d1 ?_ ?_)|fail)
   ·intro j4 g5
    have h5:=Hd g5;clear g5;go_wp2_with fail;go_ret;exact b2.out.done H.out e6.out u.out h5.out _ rfl
   ·intro x cc kl y1 y2 U j2 L g6 f3 a1 b0 g7 g3 i8 j5
    obtain⟨rfl,j0,p,a4,rfl⟩:=found (y:=(y1,y2)) L f3 a1 d3.out;obtain⟨b7,rfl⟩:=look_some a4;have a7:¬l.M=M':=by have h1:=H.out.cod.old l.M (.inr (.inr (.inr (.inl rfl))));have h2:=b2.out.nk;omega
    have W:Fr (fun k=>k=M'+1) wr U:=(Fr.refl _ wr).grown g3 (fun k hk=>.inl (Option.some.inj hk).symm);have A:=Hd (b2.out.step (W.mono (fun k _ hk=>.inr hk)));have a0:=Hd (e6.out.step W (fun k hk(h2:k=M'+1)=>by
     subst h2;rcases hk with h|⟨f,i,h⟩
     ·omega
     ·have:=u.out.new f i
      omega))
    have d8:=Hd (d7.out.trans (W.mono (T:=fun k=>k=M'∨k=M'+1) (fun k _ hk=>.inr hk)));have h9:=Hd ((H.out.cod.sets.step A.out.fr (fun _ _ h=>h)).at' p b7);have a6:0<p.L.length:=by rw[H.out.cod.has.len p b7];omega
    have h4:=Hd (show∀w':World,Fr (fun _=>False) U w'→Calls Tryz.prog 82 #[ptr p.b] w' (fun e m=>∃J S,e=.returned (ptr J)∧Fr (fun _=>False) w' m∧RSet m J S p.L∧w'.heap.size≤J∧w'.heap.size≤S) from fun w' i=>rsfork_calls (h9.out.step i (fun h=>h) (fun h=>h)) a6);have V:=Hd (show∀w':World,Fr (fun _=>False) U w'→w'.cell? ⟨B,9,none⟩=some (.map (some M')) from fun w' i=>cell_in (i.keep A.out.k (fun h=>h)) rfl);have g:=Hd ((R0 U).drew);have I:=Hd (V.out U.drew g.out);have i2:=V.out U (Fr.refl _ _);have a3:=H.out.cod.has.count;have e0:=Hd L;have e4:=Hd b0;have e2:=Hd g6;have h8:=Hd d1;have h6:=Hd g7;have h7:=Hd a7;have d5:=Hd a3;clear L f3 a1 b0 g6 d1 g7 a7 W a6 a3 g3 i8 a4 j0;go_wp2_with fail;go_region_held3 (fun w'=>w'.cell? ⟨B,9,none⟩=some (.map (some M'))) (first|with_reducible exact I.out|with_reducible exact V.out _ g.out|with_reducible exact e5.out) ((first
     | (go_at_call 82
        with_reducible refine(h4.out _ g.out).mono ?_
        rintro e w2 ⟨J,S,rfl,a,hR,g0,g1⟩;have HB:=Hd (⟨g0,g1⟩:_∧_);have g:=Hd (g.out.trans a);have I:=Hd (V.out _ g.out);have i2:=I.out;have o:=Hd (a0.out.step g.out (fun _ _ h=>h));obtain⟨D2,P,f0,a2⟩:=o.out.km;obtain⟨w3,i7,M,g4⟩:=P.update (t:=104) (e:=170) (Maps.string_keyed Tryz.underlying9) Tryz.underlying104 (by have:=u.out.len;have:=d5.out;simp only[maxLen];omega) e0.out (RV_ptr J);have O:Fr (fun k=>k=M') w2 w3:=(Fr.refl _ w2).grown g4 (fun k hk=>.inl (Option.some.inj hk).symm);have z:=Hd O;have e5:=Hd (show w3.cell? ⟨B,9,none⟩=some (.map (some M')) from cell_in (O.keep (g.out.keep A.out.k (fun h=>h)) (by have:=A.out.nk;omega)) rfl);have j1:=e5.out;have g8:=Hd f0;have d4:=Hd a2;have b3:=Hd M;have d:=Hd hR;clear a hR g0 g1 P f0 a2 M g4 O)))
    all_goals go_wp2_with fail
    have j6:M'+1+1≤U.heap.size:=by have:=A.out.rz;omega
    have i6:=u.out.not e2.out;have i3:RSet w3 J S p.L:=d.out.step z.out (by obtain⟨_,hb⟩:=d.out.box;exact kmF o.out.km hb) (by obtain⟨_,hb⟩:=d.out.row;exact kmF o.out.km hb);have i4:KM w3 M' (N++[⟨p.s,J,S,p.L⟩]):=KM.add (w:=w2) ⟨p.s,J,S,p.L⟩ i6 g8.out d4.out b3.out;have i9:U.heap.size≤J∧U.heap.size≤S:=HB.out;have f5:=o.out.add (e:=⟨p.s,J,S,p.L⟩) z.out i4 i3 (.inr (fun f i=>by have:=(a0.out.at' f i).lt;simp only;omega));have e8:=u.out.step (f:=⟨p.s,J,S,p.L⟩) e2.out b7 rfl rfl (by simp only;omega) (by simp only;omega);have a5:Fr (fun k=>k=M') U w3:=(g.out.mono (T:=fun k=>k=M') (fun _ _ h=>h.elim)).trans z.out;have b1:=ranges_fr e4.out a5 h7.out (by omega);go_roundw;case rel=>exact⟨_,_,_,b1,f5,e8,d8.out.trans (a5.mono (fun k _ hk=>.inl hk))⟩
    case measure=>rw[b1.left_eq,h8.out.left_eq];exact h6.out
end Rf
end Go.Proofs.YtffoddpjfgjelaaGreatDoor
