/- Part 48 of 54: lemmas of the last part, each under the conditions that it names. -/
import Derived.Deep.RegionLaw
import Derived.Deep.RegionHeld3
import Derived.Test.YtffoddpjfgjelaaGreatDoorK19
import Derived.Test.YtffoddpjfgjelaaGreatDoorK36
import Derived.Test.YtffoddpjfgjelaaGreatDoorK44
import Derived.Test.YtffoddpjfgjelaaGreatDoorK47
set_option linter.unusedVariables false
set_option linter.unusedSimpArgs false
set_option maxRecDepth 1500
set_option maxHeartbeats 4000000
namespace Go.Proofs.YtffoddpjfgjelaaGreatDoor
open Go.RowKit
namespace Rf
open Mem Rc Prob St Lz Win En Ga
theorem five_zero:K.new.bytes=[0,0,0,0,0]:=by decide
set_option maxRecDepth 100000 in
theorem made_five:madeCells [Value.int .u8 0].toArray 5=(bvs [0,0,0,0,0]).toArray:=by
 have e:madeCells [Value.int .u8 0].toArray 5=Array.replicate 5 (Value.int .u8 0):=by
  apply Array.ext
  ·simp[madeCells]
  ·intro i a b
   simp[madeCells,Nat.mod_one]
 rw[e];rfl
set_option maxRecDepth 100000 in
theorem enew7_calls(w:World):Calls Tryz.prog 79 #[] w fun e c=>∃E v,e=.returned (ptr E)∧Fr (fun _=>False) w c∧QAt c E v K.new∧w.heap.size≤E∧∀k,v.ownBlock=some k→w.heap.size≤k:=by
 have a:=make_five;rw[made_five] at a;go_enter Tryz.func79,Tryz.ntmps79;go_wp2_with fail;go_ret;have d:=(R0 w).alloc (.cells (bvs [0,0,0,0,0]).toArray 5);have b:=(R0 (w.alloc (.cells (bvs [0,0,0,0,0]).toArray 5))).alloc (.cells #[.slice (some ⟨w.heap.size,0,none⟩) 5 5,.int .u32 4294967295,.int .i64 0] 248);have f:=b.keep (heap_alloc_new w (.cells (bvs [0,0,0,0,0]).toArray 5)) (fun h=>h);refine⟨w.heap.size+1,.slice (some ⟨w.heap.size,0,none⟩) 5 5,rfl,d.trans b,⟨alloc2 w _ _,?_⟩,by omega,fun k g=> ?_⟩
 ·rw[five_zero]
  exact⟨rfl,.inr ⟨w.heap.size,5,_,rfl,Nat.zero_le _,f,Nat.le_refl _,by decide,rfl,rfl⟩⟩
 ·exact Nat.le_of_eq (Option.some.inj g)
structure Nxt(w:World)(l:RL)(E:Nat)(v:Value)(w':World)(l':RL)(E':Nat)(v':Value):Prop where
 fr:Fr (ECF l E v) w w'
 gr:∀k,ECF l' E' v' k→ECF l E v k∨w.heap.size≤k
 k:l'.K=l.K
theorem Nxt.refl(w:World)(l:RL)(E:Nat)(v:Value):Nxt w l E v w l E v:=⟨Fr.refl _ _,fun _ h=>.inl h,rfl⟩
theorem Nxt.trans{w j m:World}{l e f:RL}{E c d:Nat}{v v1 v2:Value}(h:Nxt w l E v j e c v1)(g:Nxt j e c v1 m f d v2):Nxt w l E v m f d v2:=
 ⟨h.fr.trans' g.fr (fun i n b=>by
  rcases h.gr i b with h|h
  ·exact h
  ·omega),fun k b=>by
  rcases g.gr k b with a|a
  ·exact h.gr k a
  ·exact .inr (Nat.le_trans h.fr.size a),g.k.trans h.k⟩
theorem ereset_calls{w:World}{l:RL}{E:Nat}{v:Value}{c:C}{e:Es}(h:EC w l E v c e)(lc lp pb:Nat)(j:lc+lp≤4)(m:pb≤4):
 Calls Tryz.prog 42 #[ptr l.K,propV lc lp pb] w fun r b=>r=.returned (.int .i64 0)∧∃l',EC b l' E v (c.fresh lc lp pb) ⟨e.k,Lz.fresh lc lp⟩∧Nxt w l E v b l' E v:=by
 refine(Rf.reset_calls h.cod lc lp pb j m).mono ?_;rintro r b ⟨rfl,d,n,f,g⟩;have a:∀k,EF E v k→¬k=l.K:=fun k hk e=>h.sep hk (.inl e);refine⟨rfl,_,⟨g,QR.keep h.q d (a _ (.inl rfl)) (fun k hk=>a k (.inr hk)),h.ev,h.ap⟩,d.mono (fun k _ e=>.inl (.inl e)),?_,rfl⟩;rintro k ((hk|hk|hk|hk|⟨e,i,_⟩)|hk)
 ·exact .inl (.inl (.inl hk))
 ·exact .inl (.inl (.inr (.inl hk)))
 ·exact .inl (.inl (.inr (.inr (.inl hk))))
 ·exact .inr (by rw[hk];exact f)
 ·cases i
 ·exact .inl (.inr hk)
theorem eraw_calls{w:World}{l:RL}{E:Nat}{v:Value}{c:C}{e:Es}(h:EC w l E v c e)(m:Value)(xs:List UInt8)(i:Rd w m xs)(s:c.all.length+xs.length≤70368744177664):
 Calls Tryz.prog 48 #[ptr l.K,m] w fun r x=>r=.returned (.tuple #[])∧∃l',EC x l' E v (c.on xs) e∧Nxt w l E v x l' E v:=by
 have A:w.cell? ⟨l.K,3,none⟩=some (ptr l.V):=cell_in h.cod.k rfl;have o:=Hd (Rf.put_calls l.V c.size l.av m c.all xs w ⟨h.cod.v,h.cod.all⟩ i s);have j:=i;obtain⟨F,D,rfl,_⟩:=j;have H:=Hd h;clear h i;go_enter Tryz.func48,Tryz.ntmps48;go_wp2_with fail;refine o.out.mono ?_;rintro r B ⟨rfl,f,q,t,u⟩;have p:=Hd q;have d:=Hd t;have n:=Hd u;clear q t u o;go_wp2_with fail;go_end0;have h:=H.out;have b:∀k,EF E v k→¬(k=l.V∨l.av.ownBlock=some k):=fun k hk e=>h.sep hk (by rcases e with e|e;exact .inr (.inl e);exact .inr (.inr (.inl e)));have g:¬(l.K=l.V∨l.av.ownBlock=some l.K):=by
  rintro(e|e)
  ·exact blk_ne h.cod.k h.cod.v (by decide) e
  ·obtain⟨y,z⟩:=own_blk h.cod.all e
   exact blk_ne h.cod.k z (by decide) rfl
 refine⟨rfl,{l with av:=f},⟨⟨d.out.keep h.cod.k g,p.out.v,p.out.own,h.cod.sets.step d.out (fun k hk e=> ?_),h.cod.has,⟨h.cod.okc.l,h.cod.okc.pb,h.cod.okc.s⟩,h.cod.len,h.cod.okp,h.cod.size,by show(c.all++xs).length≤_;rw[List.length_append];exact s⟩,QR.keep h.q d.out (b _ (.inl rfl)) (fun k hk=>b k (.inr hk)),h.ev,fun k hk e=> ?_⟩,d.out.mono (fun k _ e=> ?_),?_,rfl⟩
 ·rcases e with e|e
  ·exact h.cod.sfV (by rw[←e];exact hk)
  ·exact h.cod.sfA k e hk
 ·rcases n.out k e with a|a
  ·exact h.ap k hk a
  ·have:=h.old k (.inr (.inr hk))
   omega
 ·rcases e with e|e
  ·exact .inl (.inr (.inl e))
  ·exact .inl (.inr (.inr (.inl e)))
 ·rintro k ((hk|hk|hk|hk)|hk)
  ·exact .inl (.inl (.inl hk))
  ·exact .inl (.inl (.inr (.inl hk)))
  ·rcases n.out k hk with a|a
   ·exact .inl (.inl (.inr (.inr (.inl a))))
   ·exact .inr a
  ·exact .inl (.inl (.inr (.inr (.inr hk))))
  ·exact .inl (.inr hk)
theorem ecut_calls{w:World}{l:RL}{E:Nat}{v:Value}{c:C}{e:Es}(h:EC w l E v c e)(S:e.k.s≤1099511627000):
 Calls Tryz.prog 45 #[ptr l.K] w fun r D=>∃A l' d z,r=.returned A∧Mine w D A e.k.bytes∧EC D l' d z c ⟨K.new,e.ps⟩∧Nxt w l E v D l' d z∧∀k,A.ownBlock=some k→¬ECF l' d z k:=by
 have y:w.cell? ⟨l.K,10,none⟩=some (ptr E):=by rw[←h.ev];exact cell_in (i:=10) h.cod.k rfl
 have Q:=Hd (rbytes_calls h.q S);have H:=Hd h;clear h;go_enter Tryz.func45,Tryz.ntmps45;go_wp2_with fail;refine Q.out.mono ?_;rintro r w2 ⟨A,rfl,m,n⟩;obtain⟨Y,X,rfl⟩:=n.slice;have f:=Hd n;have q:=Hd m;have F:=Hd (H.out.keep m);clear m n y Q;go_wp2_with fail;refine(enew7_calls _).mono ?_;rintro r U ⟨d,z,rfl,j,u,s,x⟩;have b:=F.out.keep j;have y:U.cell? ⟨l.K,10,none⟩=some (ptr E):=by rw[←b.ev];exact cell_in (i:=10) b.cod.k rfl
 have Z:=frozen_in b.cod.k 10;have P:=Hd u;have J:=Hd (q.out.trans j);have O:=Hd (f.out.keep j);have I:=Hd (And.intro s x);have V:=Hd b;clear j u s x b;go_wp2_with fail;go_ret;have h:=H.out;have b:=V.out;have g:=I.out;have W:=q.out.size;have R:=lt_of_block h.cod.k;have t:=fun k a=>(World.ownsRow.lt f.out.own k a).2;have o:=Fr.one U l.K 10 (ptr d);have a:=set_in b.cod.k 10 (ptr d);have B:¬l.V=l.K:=fun e=>blk_ne h.cod.v h.cod.k (by decide) e;refine⟨_,{l with ev:=ptr d},d,z,rfl,O.out.step o (fun k a(e:k=l.K)=> ?_),⟨⟨a,o.keep b.cod.v B,own_step b.cod.all o (fun k a(e:k=l.K)=> ?_),b.cod.sets.step o (fun k a(e:k=l.K)=>b.cod.sfK (by rw[←e];exact a)),b.cod.has,b.cod.okc,b.cod.len,b.cod.okp,b.cod.size,b.cod.much⟩,QR.keep P.out o (fun(e:d=l.K)=>by omega) (fun k a(e:k=l.K)=>by have:=g.2 k a;omega),rfl,fun k a e=> ?_⟩,⟨(J.out.mono (T:=ECF l E v) (fun _ _ h=>h.elim)).trans (o.mono (fun k _ e=>.inl (.inl e))),?_,rfl⟩,fun k a p=> ?_⟩
 ·have:=f.out.new k a
  omega
 ·obtain⟨G,N⟩:=own_blk h.cod.all a
  exact blk_ne N h.cod.k (by decide) e
 ·have L:=h.cod.old k (.inr (.inr (.inl e)))
  have M:=g.2 k a;omega
 ·rintro k (a|a|a)
  ·exact .inl (.inl a)
  ·exact .inr (by omega)
  ·exact .inr (by have:=g.2 k a;omega)
 ·have L:=f.out.new k a
  have M:=t k a;rcases p with p|p|p
  ·have:=h.cod.old k p
   omega
  ·omega
  ·have:=g.2 k p
   omega
end Rf
namespace Rf
open Mem Rc Prob St Lz Win En Ga Ck
theorem bad_of{lc lp pb:Int}(h:¬(0≤lc∧0≤lp∧0≤pb∧lc≤4∧lp≤4∧lc+lp≤4∧pb≤4)):propsBad lc lp pb=true:=by
 unfold propsBad;rw[decide_eq_true_eq];omega
theorem bad_not{lc lp pb:Int}(h:0≤lc∧0≤lp∧0≤pb∧lc≤4∧lp≤4∧lc+lp≤4∧pb≤4):propsBad lc lp pb=false:=by
 unfold propsBad;rw[decide_eq_false_iff_not];omega
theorem allowed_any(lc lp pb:Int)(w:World):Calls Tryz.prog 38 #[.agg #[.int .i64 lc,.int .i64 lp,.int .i64 pb]] w fun e y=>e=.returned (.bool (!propsBad lc lp pb))∧Fr (fun _=>False) w y:=by
 have b:=Hd ((R0 w).alloc (.cells #[.int .i64 lc,.int .i64 lp,.int .i64 pb] 24));have u:=heap_alloc_new w (.cells #[.int .i64 lc,.int .i64 lp,.int .i64 pb] 24);obtain⟨z,A,B⟩:=cs3 u rfl rfl rfl;clear u;obtain⟨r,m⟩:∃r,r= !propsBad lc lp pb:=⟨_,rfl⟩;rw[←m];by_cases a:0≤lc∧0≤lp∧0≤pb∧lc≤4∧lp≤4∧lc+lp≤4∧pb≤4
 ·rw[bad_not a] at m
  obtain⟨c,d,f,j,k,l,x⟩:=a;have n:decide (lc≥0)=true:=decide_eq_true c;have g:decide (0≤lc)=true:=decide_eq_true c;have o:decide (lp≥0)=true:=decide_eq_true d;have h:decide (0≤lp)=true:=decide_eq_true d;have p:decide (pb≥0)=true:=decide_eq_true f;have i:decide (0≤pb)=true:=decide_eq_true f;have q:decide (lc≤4)=true:=decide_eq_true j;have s:decide (lp≤4)=true:=decide_eq_true k;have t:decide (lc+lp≤4)=true:=decide_eq_true l;have v:decide (pb≤4)=true:=decide_eq_true x;subst m;go_enter Tryz.func38,Tryz.ntmps38;go_wp2_with fail;go_ret;exact⟨rfl,b.out⟩
 ·rw[bad_of a] at m
  subst m;by_cases c:0≤lc;case neg=>
   have n:decide (lc≥0)=false:=decide_eq_false c;have g:decide (0≤lc)=false:=decide_eq_false c;clear a c;go_enter Tryz.func38,Tryz.ntmps38;go_wp2_with fail;go_ret;exact⟨rfl,b.out⟩
  have n:decide (lc≥0)=true:=decide_eq_true c;have g:decide (0≤lc)=true:=decide_eq_true c;by_cases d:0≤lp;case neg=>
   have o:decide (lp≥0)=false:=decide_eq_false d;have h:decide (0≤lp)=false:=decide_eq_false d;clear a d;go_enter Tryz.func38,Tryz.ntmps38;go_wp2_with fail;go_ret;exact⟨rfl,b.out⟩
  have o:decide (lp≥0)=true:=decide_eq_true d;have h:decide (0≤lp)=true:=decide_eq_true d;by_cases f:0≤pb;case neg=>
   have p:decide (pb≥0)=false:=decide_eq_false f;have i:decide (0≤pb)=false:=decide_eq_false f;clear a f;go_enter Tryz.func38,Tryz.ntmps38;go_wp2_with fail;go_ret;exact⟨rfl,b.out⟩
  have p:decide (pb≥0)=true:=decide_eq_true f;have i:decide (0≤pb)=true:=decide_eq_true f;by_cases j:lc≤4;case neg=>
   have q:decide (lc≤4)=false:=decide_eq_false j;clear a j;go_enter Tryz.func38,Tryz.ntmps38;go_wp2_with fail;go_ret;exact⟨rfl,b.out⟩
  have q:decide (lc≤4)=true:=decide_eq_true j;by_cases k:lp≤4;case neg=>
   have s:decide (lp≤4)=false:=decide_eq_false k;clear a k;go_enter Tryz.func38,Tryz.ntmps38;go_wp2_with fail;go_ret;exact⟨rfl,b.out⟩
  have s:decide (lp≤4)=true:=decide_eq_true k;by_cases l:lc+lp≤4;case neg=>
   have t:decide (lc+lp≤4)=false:=decide_eq_false l;clear a l;go_enter Tryz.func38,Tryz.ntmps38;go_wp2_with fail;go_ret;exact⟨rfl,b.out⟩
  have t:decide (lc+lp≤4)=true:=decide_eq_true l;have v:decide (pb≤4)=false:=decide_eq_false (by omega);clear a;go_enter Tryz.func38,Tryz.ntmps38;go_wp2_with fail;go_ret;exact⟨rfl,b.out⟩
theorem u8_fact{x:Nat}(h:x<256):IntKind.u8.wrap (x:Int)=(x:Int)∧(UInt8.ofNat x).toNat=x:=⟨by rw[IntKind.wrap_u8];omega,toN h⟩
theorem mine_blk{w0 w:World}{B n:Nat}{xs:List UInt8}{b:Array Value}(c:w.heap[B]? =some (.cells b 5 (0,0)))(d:b=(bvs xs).toArray)(f:n=xs.length)(a:w0.heap.size≤B)(g:xs.length≤1000):Mine w0 w (.slice (some ⟨B,0,none⟩) n n) xs:=by
 subst f d;refine⟨⟨by simp[bvs],.inr ⟨B,xs.length,_,rfl,Nat.zero_le _,c,Nat.le_refl _,by simp only[maxLen];omega,by simp[bvs],?_⟩⟩,fun k e=> ?_⟩
 ·show(bvs xs).take (xs.length*1)=bvs xs
  exact List.take_of_length_le (by simp[bvs])
 ·rw[←Option.some.inj e]
  exact a
theorem tmod_fact(x q:Nat):(x:Int).tmod (q:Int)=((x%q:Nat):Int):=by rw[Int.tmod_eq_emod_of_nonneg (Int.natCast_nonneg _)];rfl
def HeadP(w:World)(H:Head)(e:Ending)(w':World):Prop:=Fr (fun _=>False) w w'∧∃v,e=.returned (.tuple #[v,.int .i64 0])∧Mine w w' v (headB H)
set_option maxRecDepth 100000 in
theorem put17_raw(k m:Nat)(lc lp pb:Int)(l:k=1∨k=2)(u:m<65536)(w:World):
 Calls Tryz.prog 46 #[.agg #[.int .i64 k,.int .i64 (m+1:Nat),.int .i64 (m+1:Nat),.int .i64 lc,.int .i64 lp,.int .i64 pb]] w (HeadP w ⟨k,m+1,m+1,0,0,0⟩):=by
 have g:=heap_alloc_new w (.cells #[.int .i64 k,.int .i64 (m+1:Nat),.int .i64 (m+1:Nat),.int .i64 lc,.int .i64 lp,.int .i64 pb] 47);have i:=Hd ((R0 w).alloc (.cells #[.int .i64 k,.int .i64 (m+1:Nat),.int .i64 (m+1:Nat),.int .i64 lc,.int .i64 lp,.int .i64 pb] 47));obtain⟨v,x,y⟩:=cs3 g rfl rfl rfl;clear g;obtain⟨a,d⟩:∃a,a=m/256:=⟨_,rfl⟩;obtain⟨b,e⟩:∃b,b=m%256:=⟨_,rfl⟩;have c:a<256∧b<256:=by omega
 have o:(m:Int)/256=(a:Int):=by rw[d];rfl
 have p:(m:Int).tmod 256=(b:Int):=by rw[e];exact tmod_fact m 256
 have u1:=(u8_fact c.1).1;have u2:=(u8_fact c.2).1;have j:=Hd (show headB ⟨k,m+1,m+1,0,0,0⟩=[UInt8.ofNat k,UInt8.ofNat a,UInt8.ofNat b] by
  unfold headB;rw[if_neg (by simp only;omega),if_pos (by simp only;omega),d,e];rfl)
 have h:=Hd (show(bvs [UInt8.ofNat k,UInt8.ofNat a,UInt8.ofNat b]).toArray=#[.int .u8 (k:Int),.int .u8 (a:Int),.int .u8 (b:Int)] by
  simp only[bvs,bv,List.map_cons,List.map_nil,toN (show k<256 by omega),toN c.1,toN c.2])
 have n:((m+1:Nat):Int)-1=(m:Int):=by omega
 clear d e;generalize f:m+1=m1 at*;have q:decide ((m1:Int)<1)=false:=decide_eq_false (by omega);have r:decide ((m1:Int)>65536)=false:=decide_eq_false (by omega);have s:decide ((65536:Int)<(m1:Int))=false:=decide_eq_false (by omega);have t:((m1:Int) !=(m1:Int))=false:=by simp
 clear f;rcases l with rfl|rfl;all_goals
  go_enter Tryz.func46,Tryz.ntmps46;go_wp2_with fail;go_ret2;refine⟨i.out.alloc _,_,rfl,?_⟩;rw[j.out];exact mine_blk (alloc2 w _ _) h.out.symm rfl (Nat.le_succ _) (by simp)
set_option maxRecDepth 100000 in
theorem put17_same(k n m:Nat)(lc lp pb:Int)(B:k=3∨k=4)(R:n<2097152)(Q:m<65536)(w:World):
 Calls Tryz.prog 46 #[.agg #[.int .i64 k,.int .i64 (n+1:Nat),.int .i64 (m+1:Nat),.int .i64 lc,.int .i64 lp,.int .i64 pb]] w (HeadP w ⟨k,n+1,m+1,0,0,0⟩):=by
 have v:=heap_alloc_new w (.cells #[.int .i64 k,.int .i64 (n+1:Nat),.int .i64 (m+1:Nat),.int .i64 lc,.int .i64 lp,.int .i64 pb] 47);have y:=Hd ((R0 w).alloc (.cells #[.int .i64 k,.int .i64 (n+1:Nat),.int .i64 (m+1:Nat),.int .i64 lc,.int .i64 lp,.int .i64 pb] 47));obtain⟨S,T,U⟩:=cs3 v rfl rfl rfl;clear v;obtain⟨q,t⟩:∃q,q=n/65536:=⟨_,rfl⟩;obtain⟨h,f⟩:∃a,a=n/256:=⟨_,rfl⟩;obtain⟨a,j⟩:∃a,a=h%256:=⟨_,rfl⟩;obtain⟨b,l⟩:∃b,b=n%256:=⟨_,rfl⟩;obtain⟨c,o⟩:∃a,a=m/256:=⟨_,rfl⟩;obtain⟨d,p⟩:∃b,b=m%256:=⟨_,rfl⟩;obtain⟨F,u⟩:∃F,F=128+32*(k-3)+q:=⟨_,rfl⟩;have e:F<256∧a<256∧b<256∧c<256∧d<256:=by omega
 have D:(n:Int)/65536=(q:Int):=by rw[t];rfl
 have E:(n:Int)/256=(h:Int):=by rw[f];rfl
 have G:(h:Int).tmod 256=(a:Int):=by rw[j];exact tmod_fact h 256
 have H:(n:Int).tmod 256=(b:Int):=by rw[l];exact tmod_fact n 256
 have I:(m:Int)/256=(c:Int):=by rw[o];rfl
 have J:(m:Int).tmod 256=(d:Int):=by rw[p];exact tmod_fact m 256
 have u1:=(u8_fact e.1).1;have u2:=(u8_fact e.2.1).1;have u3:=(u8_fact e.2.2.1).1;have u4:=(u8_fact e.2.2.2.1).1;have u5:=(u8_fact e.2.2.2.2).1;have z:=Hd (show headB ⟨k,n+1,m+1,0,0,0⟩=[UInt8.ofNat F,UInt8.ofNat a,UInt8.ofNat b,UInt8.ofNat c,UInt8.ofNat d] by
  unfold headB;rw[if_neg (by simp only;omega),if_neg (by simp only;omega),if_pos (by simp only;omega),u,j,f,l,o,p,t];rfl)
 have x:=Hd (show(bvs [UInt8.ofNat F,UInt8.ofNat a,UInt8.ofNat b,UInt8.ofNat c,UInt8.ofNat d]).toArray=#[.int .u8 (F:Int),.int .u8 (a:Int),.int .u8 (b:Int),.int .u8 (c:Int),.int .u8 (d:Int)] by
  simp only[bvs,bv,List.map_cons,List.map_nil,toN e.1,toN e.2.1,toN e.2.2.1,toN e.2.2.2.1,toN e.2.2.2.2])
 have C:((n+1:Nat):Int)-1=(n:Int):=by omega
 have A:((m+1:Nat):Int)-1=(m:Int):=by omega
 have i:(128:Int)+32*((k:Int)-3)+(q:Int)=(F:Int):=by omega
 clear j f l o p t u;generalize s:n+1=n1 at*;generalize r:m+1=m1 at*;have K:decide ((n1:Int)<1)=false:=decide_eq_false (by omega);have L:decide ((n1:Int)>2097152)=false:=decide_eq_false (by omega);have M:decide ((2097152:Int)<(n1:Int))=false:=decide_eq_false (by omega);have N:decide ((m1:Int)<1)=false:=decide_eq_false (by omega);have O:decide ((m1:Int)>65536)=false:=decide_eq_false (by omega);have P:decide ((65536:Int)<(m1:Int))=false:=decide_eq_false (by omega);clear s r;rcases B with rfl|rfl;all_goals
  first
   |have g:(128:Int)+(q:Int)=(F:Int):=by omega
   |have g:(160:Int)+(q:Int)=(F:Int):=by omega
  clear i;go_enter Tryz.func46,Tryz.ntmps46;go_wp2_with fail;go_ret2;refine⟨y.out.alloc _,_,rfl,?_⟩;rw[z.out];exact mine_blk (alloc2 w _ _) x.out.symm rfl (Nat.le_succ _) (by simp)
set_option maxRecDepth 100000 in
theorem put17_props(k n m lc lp pb:Nat)(hk:k=5∨k=6)(hn:n<2097152)(hm:m<65536)(hl:lc+lp≤4)(hp:pb≤4)(w:World):
    Calls Tryz.prog 46 #[.agg #[.int .i64 k,.int .i64 (n+1:Nat),.int .i64 (m+1:Nat),.int .i64 lc,.int .i64 lp,.int .i64 pb]] w (HeadP w ⟨k,n+1,m+1,lc,lp,pb⟩):=by
  have Q:=heap_alloc_new w (.cells #[.int .i64 k,.int .i64 (n+1:Nat),.int .i64 (m+1:Nat),.int .i64 lc,.int .i64 lp,.int .i64 pb] 47);have U:=(R0 w).alloc (.cells #[.int .i64 k,.int .i64 (n+1:Nat),.int .i64 (m+1:Nat),.int .i64 lc,.int .i64 lp,.int .i64 pb] 47);have X:=Hd U;have t:=fun W=>Hd (show Calls Tryz.prog 76 #[.agg #[.int .i64 lc,.int .i64 lp,.int .i64 pb]] W _ from propsByte_calls lc lp pb hl hp W);obtain⟨q,P⟩:∃q,q=n/65536:=⟨_,rfl⟩;obtain⟨y,o⟩:∃a,a=n/256:=⟨_,rfl⟩;obtain⟨a,D⟩:∃a,a=y%256:=⟨_,rfl⟩;obtain⟨b,G⟩:∃b,b=n%256:=⟨_,rfl⟩;obtain⟨c,J⟩:∃a,a=m/256:=⟨_,rfl⟩;obtain⟨d,K⟩:∃b,b=m%256:=⟨_,rfl⟩;obtain⟨g,L⟩:∃g,g=(5*pb+lp)*9+lc:=⟨_,rfl⟩;obtain⟨F,S⟩:∃F,F=128+32*(k-3)+q:=⟨_,rfl⟩;have f:F<256∧a<256∧b<256∧c<256∧d<256:=by omega
  have x:g<256:=by omega
  rw[←L] at t;have f0:(n:Int)/65536=(q:Int):=by rw[P];rfl
  have f1:(n:Int)/256=(y:Int):=by rw[o];rfl
  have f2:(y:Int).tmod 256=(a:Int):=by rw[D];exact tmod_fact y 256
  have f3:(n:Int).tmod 256=(b:Int):=by rw[G];exact tmod_fact n 256
  have f4:(m:Int)/256=(c:Int):=by rw[J];rfl
  have f5:(m:Int).tmod 256=(d:Int):=by rw[K];exact tmod_fact m 256
  have u1:=(u8_fact f.1).1;have u2:=(u8_fact f.2.1).1;have u3:=(u8_fact f.2.2.1).1;have u4:=(u8_fact f.2.2.2.1).1;have u5:=(u8_fact f.2.2.2.2).1;have u6:=(u8_fact x).1;have HH:=Hd (show headB ⟨k,n+1,m+1,lc,lp,pb⟩=[UInt8.ofNat F,UInt8.ofNat a,UInt8.ofNat b,UInt8.ofNat c,UInt8.ofNat d]++[UInt8.ofNat g] by
    unfold headB;rw[if_neg (by simp only;omega),if_neg (by simp only;omega),if_neg (by simp only;omega),S,D,o,G,J,K,P,L];rfl)
  have V:=Hd (show(bvs [UInt8.ofNat F,UInt8.ofNat a,UInt8.ofNat b,UInt8.ofNat c,UInt8.ofNat d]).toArray=#[.int .u8 (F:Int),.int .u8 (a:Int),.int .u8 (b:Int),.int .u8 (c:Int),.int .u8 (d:Int)] by
    simp only[bvs,bv,List.map_cons,List.map_nil,toN f.1,toN f.2.1,toN f.2.2.1,toN f.2.2.2.1,toN f.2.2.2.2])
  have Z:=Hd (show(g:Int)=((UInt8.ofNat g).toNat:Int) by rw[toN x]);have em:((n+1:Nat):Int)-1=(n:Int):=by omega
  have Y:((m+1:Nat):Int)-1=(m:Int):=by omega
  have C:(128:Int)+32*((k:Int)-3)+(q:Int)=(F:Int):=by omega
  clear D o G J K P S L;generalize N:n+1=n1 at*;generalize M:m+1=m1 at*;have g1:decide ((n1:Int)<1)=false:=decide_eq_false (by omega);have g2:decide ((n1:Int)>2097152)=false:=decide_eq_false (by omega);have g3:decide ((2097152:Int)<(n1:Int))=false:=decide_eq_false (by omega);have g4:decide ((m1:Int)<1)=false:=decide_eq_false (by omega);have g5:decide ((m1:Int)>65536)=false:=decide_eq_false (by omega);have g6:decide ((65536:Int)<(m1:Int))=false:=decide_eq_false (by omega);clear N M;have HM:=Hd (mine_blk (w0:=w) (xs:=[UInt8.ofNat F,UInt8.ofNat a,UInt8.ofNat b,UInt8.ofNat c,UInt8.ofNat d]) (n:=5) (alloc2 w (.cells #[.int .i64 k,.int .i64 (n1:Nat),.int .i64 (m1:Nat),.int .i64 lc,.int .i64 lp,.int .i64 pb] 47) (.cells #[.int .u8 (F:Int),.int .u8 (a:Int),.int .u8 (b:Int),.int .u8 (c:Int),.int .u8 (d:Int)] 5)) V.out.symm rfl (Nat.le_succ _) (by simp));have E:=Hd (X.out.alloc (.cells #[.int .u8 (F:Int),.int .u8 (a:Int),.int .u8 (b:Int),.int .u8 (c:Int),.int .u8 (d:Int)] 5));rcases hk with rfl|rfl;all_goals
    first
      |have u:(192:Int)+(q:Int)=(F:Int):=by omega
      |have u:(224:Int)+(q:Int)=(F:Int):=by omega
    clear C;obtain⟨y0,y1,y2⟩:=cs3 Q rfl rfl rfl;have j:=((R0 _).alloc (.cells #[.int .u8 (F:Int),.int .u8 (a:Int),.int .u8 (b:Int),.int .u8 (c:Int),.int .u8 (d:Int)] 5)).keep Q (fun h=>h);have z0:=cell_in (i:=0) j rfl;have z3:=cell_in (i:=3) j rfl;have z4:=cell_in (i:=4) j rfl;have z5:=cell_in (i:=5) j rfl;clear Q j U;go_enter Tryz.func46,Tryz.ntmps46;go_wp2_with fail;refine(t _).out.mono ?_;rintro e z ⟨rfl,p⟩;have H:=Hd (HM.out.keep p);have r:=Hd (E.out.trans p);have B:=(R0 z).alloc (.cells #[.int .u8 (g:Int)] 5);have T:=Hd B;have HR:=Hd (rd_one z z.heap.size rfl (UInt8.ofNat g) (g:Int) Z.out);have s:=Hd (H.out.keep B);clear p B y0 y1 y2 z0 z3 z4 z5
    go_wp2_with (at_builtin
                 refine append_mine rfl _ _ rfl (w0:=w) (.slice (some ⟨w.heap.size+1,0,none⟩) 5 5) (.slice (some ⟨z.heap.size,0,none⟩) 1 1) _ [UInt8.ofNat g] rfl rfl s.out (Nat.le_trans r.out.size T.out.size) HR.out (by simp) ?_;intro p5 R n5 w5 O v l _;have I:=Hd v;have A:=Hd ((r.out.trans T.out).trans' l (fun i h1 h2=>by have:=s.out.new i h2;omega));clear v l O)
    go_ret2;exact⟨A.out,_,rfl,by rw[HH.out];exact I.out⟩
end Rf
namespace Rf
open Mem Rc Prob St Lz Win En Ga Ck
set_option maxRecDepth 100000 in
theorem put17_far(k n m:Nat)(lc lp pb:Int)(c:k=3∨k=4∨k=5∨k=6)(f:1≤n∧n≤2097152)(d:65536<m)(w:World):
 Calls Tryz.prog 46 #[.agg #[.int .i64 k,.int .i64 n,.int .i64 m,.int .i64 lc,.int .i64 lp,.int .i64 pb]] w fun e g=>e=.returned (.tuple #[.slice none 0 0,.int .i64 7])∧Fr (fun _=>False) w g:=by
 have a:=heap_alloc_new w (.cells #[.int .i64 k,.int .i64 n,.int .i64 m,.int .i64 lc,.int .i64 lp,.int .i64 pb] 47);have b:=Hd ((R0 w).alloc (.cells #[.int .i64 k,.int .i64 n,.int .i64 m,.int .i64 lc,.int .i64 lp,.int .i64 pb] 47));obtain⟨q,r,s,t,u,v⟩:=cs6 a rfl rfl rfl rfl rfl rfl;clear a;have h:decide ((n:Int)<1)=false:=decide_eq_false (by omega);have i:decide ((n:Int)>2097152)=false:=decide_eq_false (by omega);have j:decide ((2097152:Int)<(n:Int))=false:=decide_eq_false (by omega);have l:decide ((m:Int)<1)=false:=decide_eq_false (by omega);have o:decide ((m:Int)>65536)=true:=decide_eq_true (by omega);have p:decide ((65536:Int)<(m:Int))=true:=decide_eq_true (by omega);clear f d;rcases c with rfl|rfl|rfl|rfl;all_goals
  go_enter Tryz.func46,Tryz.ntmps46;go_wp2_with fail;go_ret2;exact⟨rfl,b.out⟩
def ints8(l:List Nat):List Value:=l.map fun(x:Nat)=>Value.int .i64 (x:Int)
def kind8(l:List Nat):Nat:=if l=[] then 6 else if 3≤l.getLastD 0 then 3 else if(∃x ∈ l,3≤x) then 4 else 5
theorem kind8_calls(v:Value)(a:List Nat)(w0 w:World)(h:Ga.Own 3 1 w0 w v a.length (ints8 a))(W:a.length≤1099511627776):
 Calls Tryz.prog 40 #[v] w fun e Y=>e=.returned (.int .i64 (kind8 a))∧Y=w:=by
 obtain⟨p,M,rfl⟩:=h.slice;have E:=Hd h;clear h;obtain⟨n,l⟩:∃n,a.length=n:=⟨_,rfl⟩;have P:=Hd l;have j:=E.out;rw[l] at j W ⊢;have E:=Hd j;clear j;by_cases K:n=0
 ·have R:a=[]:=List.length_eq_zero_iff.1 (by omega)
  subst R;subst K;clear l;go_enter Tryz.func40,Tryz.ntmps40;go_wp2_with fail;go_ret;exact⟨rfl,rfl⟩
 obtain⟨m,rfl⟩:∃m,n=m+1:=⟨n-1,by omega⟩;obtain⟨y,J⟩:∃y,a[m]? =some y:=⟨a[m]'(by omega),List.getElem?_eq_getElem (by omega)⟩;have b:a.getLastD 0=y:=by
  rw[List.getLastD_eq_getLast?,List.getLast?_eq_getElem?,l,Nat.add_sub_cancel,J];rfl
 have C:a≠[]:=fun e=>by rw[e] at l;simp at l
 obtain⟨g,rfl,hc⟩:=E.out.cell (i:=m) (u:=.int .i64 (y:Int)) (by simp[ints8,J]);have Z:((m+1:Nat):Int)-1=(m:Int):=by omega
 have O:=Hd b;have s:=Hd C;have z0:(((m+1:Nat):Int)==0)=false:=by simp;omega
 clear b C J l K;by_cases D:3≤y
 ·have U:decide ((y:Int)≥3)=true:=decide_eq_true (by omega)
  have F:decide ((3:Int)≤(y:Int))=true:=decide_eq_true (by omega);have T:=Hd (show kind8 a=3 by unfold kind8;rw[if_neg s.out,O.out,if_pos D]);generalize I:m+1=n at*;go_enter Tryz.func40,Tryz.ntmps40;go_wp2_with fail;go_ret;exact⟨by rw[T.out];rfl,rfl⟩
 have U:decide ((y:Int)≥3)=false:=decide_eq_false (by omega);have F:decide ((3:Int)≤(y:Int))=false:=decide_eq_false (by omega);have r:=Hd (show kind8 a=if(∃x ∈ a,3≤x) then 4 else 5 by unfold kind8;rw[if_neg s.out,O.out,if_neg D]);generalize I:m+1=n at*;go_enter Tryz.func40,Tryz.ntmps40;go_wp2_with fail;go_loopw [3](fun i wr=>∃k:Nat,k≤n∧i=.int .i64 k∧(∀x ∈ a.take k,¬3≤x)∧wr=w) (fun i _=>n-(intOf i).toNat);case atStart=>exact⟨0,Nat.zero_le _,rfl,fun x o=>by simp at o,rfl⟩
 case round=>
  obtain⟨k,V,rfl,c,rfl⟩:=hrel;by_cases X:k<n
  ·have A:k<a.length:=by have:=P.out;omega
   obtain⟨x,o⟩:∃x,a[k]? =some x:=⟨a[k],by simp[A]⟩;obtain⟨g2,t,S⟩:=E.out.cell (i:=k) (u:=.int .i64 (x:Int)) (by simp[ints8,o]);simp only[Option.some.injEq,Addr.mk.injEq,and_true] at t;subst t;have Q:=Hd o;have f:=Hd c;clear o c A;by_cases d:3≤x
   ·have G:decide ((x:Int)≥3)=true:=decide_eq_true (by omega)
    have H:decide ((3:Int)≤(x:Int))=true:=decide_eq_true (by omega);go_wp2_with fail;go_ret;exact⟨by rw[r.out,if_pos ⟨x,List.mem_of_getElem? Q.out,d⟩];rfl,rfl⟩
   ·have G:decide ((x:Int)≥3)=false:=decide_eq_false (by omega)
    have H:decide ((3:Int)≤(x:Int))=false:=decide_eq_false (by omega);go_wp2_with fail;go_roundw;case rel=>exact⟨k+1,by omega,by go_num,fun z q=>by
     rw[List.take_add_one,Q.out] at q;rcases List.mem_append.1 q with q|q
     ·exact f.out z q
     ·simp at q
      subst q;exact d,by first|rfl|trivial⟩
    case measure=>simp[intOf];omega
  ·have B:k=n:=by omega
   have f:=Hd c;clear c;go_wp2_with fail;go_ret;have N:a.take k=a:=by rw[B,←P.out,List.take_length]
   have L:=f.out;rw[N] at L;exact⟨by rw[r.out,if_neg (fun⟨x,o,d⟩=>L x o d)];rfl,rfl⟩
end Rf
namespace Rf
open Mem Rc Prob St Lz Win En Ga Ck Pk
structure K8(t:Pst)(bs:List Nat):Prop where
 nil:t.begun=false↔bs=[]
 last:t.packed=true↔3≤bs.getLastD 0
 any:t.props=true↔∃x ∈ bs,3≤x
theorem K8.start(dict:Nat)(pr:Pr):K8 (Pst.start dict pr) []:=⟨by simp[Pst.start],by simp[Pst.start],by simp[Pst.start]⟩
theorem K8.kind{t:Pst}{a:List Nat}(h:K8 t a):kind8 a=t.kind:=by
 unfold kind8 Pst.kind;by_cases b:a=[]
 ·rw[if_pos b,if_pos (h.nil.2 b)]
 rw[if_neg b,if_neg (fun e=>b (h.nil.1 e))];by_cases c:3≤a.getLastD 0
 ·rw[if_pos c,if_pos (h.last.2 c)]
 rw[if_neg c,if_neg (fun e=>c (h.last.1 e))];by_cases d:∃x ∈ a,3≤x
 ·rw[if_pos d,if_pos (h.any.2 d)]
 ·rw[if_neg d,if_neg (fun e=>d (h.any.1 e))]
theorem K8.lay{t:Pst}{d:List Nat}(h:K8 t d)(b:List UInt8):K8 (t.lay b) (d++[if t.begun=false then 1 else 2]):=by
 have f:¬3≤(if t.begun=false then 1 else 2):=by split<;>omega
 refine⟨by simp[Pst.lay],⟨fun e=>absurd e (by simp[Pst.lay]),fun e=> ?_⟩,?_⟩
 ·rw[List.getLastD_eq_getLast?,List.getLast?_append] at e
  simp only[List.getLast?_singleton,Option.some_or,Option.getD_some] at e;exact absurd e f
 ·show t.props=true↔_
  rw[h.any];constructor
  ·rintro⟨x,a,c⟩
   exact⟨x,List.mem_append_left _ a,c⟩
  ·rintro⟨x,a,c⟩
   rcases List.mem_append.1 a with a|a
   ·exact⟨x,a,c⟩
   ·rw[List.mem_singleton] at a
    subst a;exact absurd c f
theorem K8.pack{t:Pst}{a:List Nat}(h:K8 t a)(pr:Pr)(c:List Sy):K8 (t.pack pr c) (a++[t.kind]):=by
 have b:=(kind_bd t).1;refine⟨by simp[Pst.pack],⟨fun _=> ?_,fun _=>rfl⟩,⟨fun _=>⟨t.kind,by simp,b⟩,fun _=>rfl⟩⟩;rw[List.getLastD_eq_getLast?,List.getLast?_append];simp only[List.getLast?_singleton,Option.some_or,Option.getD_some];exact b
structure E8(w0 wr:World)(CB:Nat)(cf:Cf)(data:List UInt8)(l:RL)(E:Nat)(v:Value)(t:Pst)(bfv ov:Value)(bs:List Nat):Prop where
 fr:Fr (fun _=>False) w0 wr
 cfg:wr.heap[CB]? =some (.cells cf.cells 26 (0,0))
 ec:EC wr l E v t.x.c t.x.e
 gr:∀k,ECF l E v k→w0.heap.size<k
 bef:Ga.Own 3 1 w0 wr bfv bs.length (ints8 bs)
 out:Mine w0 wr ov (t.out cf.dict)
 boff:∀k,bfv.ownBlock=some k→¬ECF l E v k
 ooff:∀k,ov.ownBlock=some k→¬ECF l E v k
 ok:t.Ok data cf.dict cf.pr (decide (cf.mode=0))
 len:bs.length=t.pts.length
 k8:K8 t bs
 run:Runs cf data t.pts.length t
 each:∀j,j<t.pts.length→65536*j<data.length
end Rf
namespace Rx
open Mem Win St Ps
def Parsed8(mode dict fm tp:Nat)(s:S)(data:List UInt8)(w:World)(e:Ending)(w':World):Prop:=Fr (fun _=>False) w w'∧∃v l t,e=.returned v∧Lz.Syms w w' v l∧Pk.By mode dict data tp fm s l t
theorem parsed_calls(d:Nat)(X:d=1∨d=2)(a:Option Addr)(b n tp dict:Nat)(s:S)(data:List UInt8)(w:World)(h:Rd w (.slice a data.length b) data)(T:s.Ok)(z:n<tp)(U:tp≤data.length)(W:data.length≤1073741823)(x:1≤dict)(y:dict≤4294967295):
 Calls Tryz.prog 43 #[pcV a data.length b n tp dict,.int .i64 d,.agg s.cells] w (Parsed8 d dict n tp s data w):=by
 have r:=((R0 _).alloc (.cells s.cells 103)).keep (heap_alloc_new w (.cells #[.slice a data.length b,.int .i64 n,.int .i64 tp,.int .i64 dict] 101)) (fun h=>h);have m:=heap_alloc_new (w.alloc (.cells #[.slice a data.length b,.int .i64 n,.int .i64 tp,.int .i64 dict] 101)) (.cells s.cells 103);simp only[World.size_alloc] at m;have u:=((R0 w).alloc (.cells #[.slice a data.length b,.int .i64 n,.int .i64 tp,.int .i64 dict] 101)).alloc (.cells s.cells 103);have I:=Hd (fun(w':World)(u:Fr (fun _=>False) w w')=>greedy_calls a b n tp dict s data w' (h.keep u) T (Nat.le_of_lt z) U (by omega) x y);have H:=Hd (fun(w':World)(u:Fr (fun _=>False) w w')=>cheap_calls a b n tp dict s data w' (h.keep u) T z U W x y);have p:=Hd u;obtain⟨sn,Z,s1,s2,s3⟩:=s;simp only[S.cells] at r m I H p ⊢;obtain⟨J,K,L,M⟩:=cs4 r rfl rfl rfl rfl;obtain⟨N,O,P,Q,R⟩:=cs5 m rfl rfl rfl rfl rfl;clear r m u h;unfold pcV;rcases X with rfl|rfl
 ·go_enter Tryz.func43,Tryz.ntmps43
  go_wp2_with fail;refine(I.out _ p.out).mono ?_;rintro e G ⟨i,v,l,t,rfl,c,g⟩;have q:=Hd (p.out.trans i);have o:=g;obtain⟨Y,V,rfl⟩:=own_slice c.own;have f:=Hd c;clear i c g J K L M N O P Q R;obtain⟨E,A,B,C,D⟩:=t;simp only[S.cells];go_wp2_with fail;go_ret;have j:=(R0 G).alloc (.cells #[.int .i64 E,.int .i64 A,.int .i64 B,.int .i64 C,.int .i64 D] 103);exact⟨q.out.trans j,_,l,⟨E,A,B,C,D⟩,rfl,⟨Lz.own_stepN f.out.own j (fun _ _ h=>h),fun k F=>Nat.le_trans p.out.size (f.out.new k F)⟩,o.out⟩
 ·go_enter Tryz.func43,Tryz.ntmps43
  go_wp2_with fail;refine(H.out _ p.out).mono ?_;rintro e G ⟨i,v,l,t,rfl,c,g⟩;have q:=Hd (p.out.trans i);have o:=g;obtain⟨Y,V,rfl⟩:=own_slice c.own;have f:=Hd c;clear i c g J K L M N O P Q R;obtain⟨E,A,B,C,D⟩:=t;simp only[S.cells];go_wp2_with fail;go_ret;have j:=(R0 G).alloc (.cells #[.int .i64 E,.int .i64 A,.int .i64 B,.int .i64 C,.int .i64 D] 103);exact⟨q.out.trans j,_,l,⟨E,A,B,C,D⟩,rfl,⟨Lz.own_stepN f.out.own j (fun _ _ h=>h),fun k F=>Nat.le_trans p.out.size (f.out.new k F)⟩,o.out⟩
end Rx
namespace Rf
open Mem Rc Prob St Lz Win En Ga Ck
theorem mine_old{a w0 w:World}{v:Value}{xs:List UInt8}(h:Mine w0 w v xs)(c:a.heap.size≤w0.heap.size):Mine a w v xs:=⟨h.own,fun k b=>Nat.le_trans c (h.new k b)⟩
theorem laid_calls(k n m lc lp pb:Int)(H:Head)(C:Value)(g:List UInt8)(w:World)(J:∀W,Calls Tryz.prog 46 #[.agg #[.int .i64 k,.int .i64 n,.int .i64 m,.int .i64 lc,.int .i64 lp,.int .i64 pb]] W (HeadP W H))(A:Rd w C g)(G:g.length≤100000):
    Calls Tryz.prog 47 #[.agg #[.int .i64 k,.int .i64 n,.int .i64 m,.int .i64 lc,.int .i64 lp,.int .i64 pb],C] w fun e L=>∃v,e=.returned v∧Fr (fun _=>False) w L∧Mine w L v (headB H++g):=by
  have K:=heap_alloc_new w (.cells #[.int .i64 k,.int .i64 n,.int .i64 m,.int .i64 lc,.int .i64 lp,.int .i64 pb] 47);have q:=Hd ((R0 w).alloc (.cells #[.int .i64 k,.int .i64 n,.int .i64 m,.int .i64 lc,.int .i64 lp,.int .i64 pb] 47));obtain⟨R,S,T,U,V,X⟩:=cs6 K rfl rfl rfl rfl rfl rfl;have O:=Hd J;have B:=A;obtain⟨N,M,rfl,_⟩:=B;have I:=Hd A;have E:=Hd G;have y:=head_n H;clear K J A G;obtain⟨x,b⟩:∃x,g.length=x:=⟨_,rfl⟩;rw[b] at I E ⊢;have p:=Hd b;clear b;go_enter Tryz.func47,Tryz.ntmps47;go_wp2_with fail;refine(O.out _).mono ?_;rintro e w2 ⟨c,Z,rfl,o⟩;obtain⟨l,d⟩:∃l,headB H=l:=⟨_,rfl⟩;rw[d] at o y;have s:=Hd d;clear d;obtain⟨Q,h,rfl⟩:=o.slice;have F:=Hd (mine_old o q.out.size);have f:=Hd (q.out.trans c);have u:=Hd (I.out.keep (q.out.trans c));clear c o R S T U V X
  go_wp2_with (at_builtin
               refine append_mine rfl _ _ rfl (w0:=w) (.slice Q l.length h) (.slice N x M) l g rfl rfl F.out f.out.size u.out (by have:=E.out;have:=p.out;omega) ?_;intro p5 D n5 w5 z j a _;have t:=Hd j;have r:=Hd (f.out.trans' a (fun i Y P=>by have:=F.out.new i P;omega));clear j a z)
  go_ret;exact⟨_,rfl,r.out,by rw[s.out];exact t.out⟩
theorem Nxt.off{w f:World}{l c:RL}{E a:Nat}{v v1:Value}(h:Nxt w l E v f c a v1){k:Nat}(g:k<w.heap.size)(d:¬ECF l E v k):¬ECF c a v1 k:=fun e=>by
 rcases h.gr k e with b|b
 ·exact d b
 ·omega
theorem Nxt.puts{w w':World}{l:RL}{E:Nat}{v a c:Value}{b:List Ent}(d:Fr (ECF l E v) w w')(e:∀k,ECF {l with st:=b,av:=a} E c k→ECF l E v k∨w.heap.size≤k):Nxt w l E v w' {l with st:=b,av:=a} E c:=⟨d,e,rfl⟩
end Rf
namespace Rf
open Mem Rc Prob St Lz Win En Ga Ck Pk
theorem zof_put{x:Xe}{y:Sy}(b:May x.c y)(a:(x.ap y).1=0):(x.apZ (Ps.zOf y)).1=0:=by
 have d:(x.c.s.next y).1=0:=by
  unfold Xe.ap apply at a;by_cases h:(x.c.s.next y).1=0
  ·exact h
  ·rw[if_neg h] at a
   exact absurd a h
 have c:=fine_of (y:=y) (s:=x.c.s) ⟨b.kind,b.rep,b.byte⟩ d;unfold Xe.apZ applyZ;rw[if_pos c.1,Ps.zOf_sy];exact a
def P8(w4 w5:World)(l1:RL)(E:Nat)(v:Value)(x1:Xe)(f:Nat)(sv:Value)(a b:List Sy)(wr:World):Prop:=
 ∃(xk:Xe)(l':RL)(v':Value),xk.putAll b=x1.putAll (a++b)∧Legal b xk∧xk.Ok∧EC wr l' E v' xk.c xk.e∧Nxt w5 l1 E v wr l' E v'∧xk.e.k.s≤52*a.length∧xk.c.all.length≤f+273*a.length∧Lz.Syms w4 wr sv (a++b)∧∀k,sv.ownBlock=some k→k<w5.heap.size∧¬ECF l1 E v k
theorem P8.put_calls{w A wr:World}{q:RL}{E f:Nat}{v t:Value}{B:Xe}{a b:List Sy}{y:Sy}(h:P8 w A q E v B f t a (y::b) wr)(P:a.length≤65536)(Q:f≤1073741824):
 Calls Tryz.prog 44 #[ptr q.K,.agg #[.int .i64 y.kind,.int .u8 y.byte,.int .i64 y.len,.int .i64 y.dist]] wr fun e u=>e=.returned (.int .i64 0)∧P8 w A q E v B f t (a++[y]) b u:=by
 obtain⟨F,S,T,J,d,i,D,l,R,G,p,c⟩:=h;have r:=zof_put d.1 d.2.1;have j:=rput_calls D i (Ps.zOf y) d.1.byte (by omega) (by omega);rw[l.k] at j;obtain⟨K,L,M,_⟩:=apZ_put (x:=F) (z:=Ps.zOf y) r d.1.byte;have m:=i.put d.1 d.2.1;rw[Ps.zOf_sy] at K L M;refine j.mono fun e u o=> ?_;unfold PutP at o;rw[if_pos r,Ps.zOf_sy] at o;obtain⟨N,C,O,rfl,H,g,I⟩:=o;have n:=l.trans (Nxt.puts g I);refine⟨rfl,F.put y,_,O,?_,d.2.2,m,H,n,?_,?_,?_,c⟩
 ·rw[List.append_assoc]
  exact J
 ·rw[List.length_append,List.length_singleton]
  omega
 ·rw[List.length_append,List.length_singleton]
  omega
 ·rw[List.append_assoc]
  exact p.step g (fun k s=>l.off (c k s).1 (c k s).2)
theorem put8_calls(t:Pst)(a:Cf)(d m:Nat)(g:1≤d∧d≤65536)(i:1≤m∧m≤65536)(f:a.lc+a.lp≤4∧a.pb≤4)(w:World):
 Calls Tryz.prog 46 #[.agg #[.int .i64 t.kind,.int .i64 d,.int .i64 m,.int .i64 a.lc,.int .i64 a.lp,.int .i64 a.pb]] w (HeadP w (t.headP a.pr d m)):=by
 have h:=kind_bd t;unfold Pst.headP;obtain⟨b,rfl⟩:∃b,d=b+1:=⟨d-1,by omega⟩;obtain⟨c,rfl⟩:∃c,m=c+1:=⟨m-1,by omega⟩;by_cases e:t.kind<5
 ·rw[if_pos e]
  exact put17_same t.kind b c a.lc a.lp a.pb (by omega) (by omega) (by omega) w
 ·rw[if_neg e]
  exact put17_props t.kind b c a.lc a.lp a.pb (by omega) (by omega) (by omega) f.1 f.2 w
theorem six_in{w:World}{B:Nat}{T:TypeId}{g i j k l m:Value}(h:w.heap[B]? =some (.cells #[g,i,j,k,l,m] T (0,0)))(a b c d e f:Value):
 ((((((w.setCell ⟨B,0,none⟩ a).setCell ⟨B,1,none⟩ b).setCell ⟨B,2,none⟩ c).setCell ⟨B,3,none⟩ d).setCell ⟨B,4,none⟩ e).setCell ⟨B,5,none⟩ f).heap[B]? =some (.cells #[a,b,c,d,e,f] T (0,0)):=
 set_in (set_in (set_in (set_in (set_in (set_in h 0 a) 1 b) 2 c) 3 d) 4 e) 5 f
theorem six_of(w:World)(B:Nat)(a b c d e f:Value):
 Fr (fun k=>k=B) w ((((((w.setCell ⟨B,0,none⟩ a).setCell ⟨B,1,none⟩ b).setCell ⟨B,2,none⟩ c).setCell ⟨B,3,none⟩ d).setCell ⟨B,4,none⟩ e).setCell ⟨B,5,none⟩ f):=
 (((((Fr.one w B 0 a).trans (Fr.one _ B 1 b)).trans (Fr.one _ B 2 c)).trans (Fr.one _ B 3 d)).trans (Fr.one _ B 4 e)).trans (Fr.one _ B 5 f)
theorem pack8{t:Pst}{a:Cf}{data:List UInt8}{c:List Sy}{s':S}(k:t.Ok data a.dict a.pr (decide (a.mode=0)))(l:65536*t.pts.length<data.length)(m:a.lc+a.lp≤4∧a.pb≤4)(n:a.dict≤4294967295)(o:a.mode≠0)
 (d:By a.mode a.dict data (upto data.length (t.pts.length+1)) (upto data.length t.pts.length) (t.from' a.pr).c.s c s')(h:((t.from' a.pr).putAll c).e.k.bytes.length≤65536)
 (j:(headB (t.headP a.pr (upto data.length (t.pts.length+1)-upto data.length t.pts.length) ((t.from' a.pr).putAll c).e.k.bytes.length)).length+((t.from' a.pr).putAll c).e.k.bytes.length<3+(upto data.length (t.pts.length+1)-upto data.length t.pts.length)):
 (t.pack a.pr c).Ok data a.dict a.pr (decide (a.mode=0))∧(t.pack a.pr c).out a.dict=t.out a.dict++(headB (t.headP a.pr (upto data.length (t.pts.length+1)-upto data.length t.pts.length) ((t.from' a.pr).putAll c).e.k.bytes.length)++((t.from' a.pr).putAll c).e.k.bytes):=by
 have i:decide (a.mode=0)=false:=by simpa using o
 obtain⟨r,p,q,s⟩:=k.from_ok m;have g:=upto_step l;have b:=upto_le data.length (t.pts.length+1);have f:=d.steps (Nat.le_of_lt g.2.1) b n;have e:=legal_of b (Nat.le_of_lt g.2.1) p q f d.far;rw[i] at k ⊢;exact k.pack l m e ⟨_,f⟩ h (Nat.le_of_lt j)
end Rf
namespace Rf
open Mem Rc Prob St Lz Win En Ga
theorem new8_calls(dict lc lp pb:Nat)(hl:lc+lp≤4)(I:pb≤4)(h1:1≤dict)(h2:dict≤4294967295)(w:World):
 Calls Tryz.prog 39 #[propV lc lp pb,.int .i64 dict] w fun e w'=>∃(l:RL)(E:Nat)(v:Value),e=.returned (.tuple #[ptr l.K,.int .i64 0])∧Fr (fun _=>False) w w'∧EC w' l E v ⟨lc,lp,pb,S.new,dict,[]⟩ ⟨K.new,Lz.fresh lc lp⟩∧∀k,ECF l E v k→w.heap.size≤k:=by
 have hx:=heap_alloc_new w (.cells #[.int .i64 lc,.int .i64 lp,.int .i64 pb] 24);have Q:=Hd ((R0 w).alloc (.cells #[.int .i64 lc,.int .i64 lp,.int .i64 pb] 24));obtain⟨c0,c1,c2⟩:=cs3 hx rfl rfl rfl;have HX:=Hd hx;have B:=fun W=>Hd (show Calls Tryz.prog 76 #[.agg #[.int .i64 lc,.int .i64 lp,.int .i64 pb]] W _ from propsByte_calls lc lp pb hl I W);have o:=fun W=>Hd (new10_calls dict h1 h2 W);have b0:=mk_map;clear hx;unfold propV;go_enter Tryz.func39,Tryz.ntmps39;go_wp2_with fail;refine(B _).out.mono ?_;rintro e w2 ⟨rfl,s⟩;have y:=Hd (Q.out.trans s);have a2:=Hd (s.keep HX.out (fun h=>h));clear c0 c1 c2 s;go_wp2_with fail;refine(o _).out.mono ?_;rintro e w3 ⟨rfl,t,J⟩;have L:=t.keep a2.out (fun h=>h);have A:=Hd (y.out.trans t);have F:=Hd J;have b1:w.heap.size≤w2.heap.size:=y.out.size;generalize w2.heap.size=V at*;clear t J;go_upto_region 7 with fail;generalize x:w.heap.size=z at*;have a3:=Hd x;clear x;have f:=Hd (show∀W,Fr (fun _=>False) w3 W→W.cell? ⟨z,0,none⟩=some (.int .i64 lc)∧W.cell? ⟨z,1,none⟩=some (.int .i64 lp)∧W.cell? ⟨z,2,none⟩=some (.int .i64 pb) from fun W hf=>by
  have h:=hf.keep L (fun h=>h);exact⟨cell_in h rfl,cell_in h rfl,cell_in h rfl⟩)
 have d:=Hd (R0 w3).drew;have g:=Hd (f.out _ d.out);clear L;go_region_held3 (fun w'=>w'.cell? ⟨z,0,none⟩=some (.int .i64 lc)∧w'.cell? ⟨z,1,none⟩=some (.int .i64 lp)∧w'.cell? ⟨z,2,none⟩=some (.int .i64 pb)) (first|with_reducible exact g.out|(refine f.out _ ?_;exact d.out.alloc _)) ((first
  | (go_at_call 78
     with_reducible refine(new12_calls _).mono ?_
     rintro e wc ⟨rfl,b⟩;have d:=Hd (d.out.trans b);have g:=Hd (f.out _ d.out);clear b)
  | (go_at_call 79
     with_reducible refine(enew7_calls _).mono ?_
     rintro e wc ⟨m,P,rfl,b,hq,hE,hv⟩;have X:=Hd hq;have a1:=Hd (And.intro (Nat.le_trans d.out.size hE) (fun k(a:P.ownBlock=some k)=>Nat.le_trans d.out.size (hv k a)));clear hq hE hv;have d:=Hd (d.out.trans b);have g:=Hd (f.out _ d.out);clear b)))
 have u:=(R0 wc).alloc (.cells #[.int .i64 lc,.int .i64 lp,.int .i64 pb,ptr V,.int .i64 0,.int .i64 1,.int .i64 1,.int .i64 1,.int .i64 1,.map none,ptr m] 107);have c:=heap_alloc_new wc (.cells #[.int .i64 lc,.int .i64 lp,.int .i64 pb,ptr V,.int .i64 0,.int .i64 1,.int .i64 1,.int .i64 1,.int .i64 1,.map none,ptr m] 107);have q:=Hd (d.out.trans u);have Z:=Hd (QR.keep X.out u (fun h=>h) (fun _ _ h=>h));have G:=(show m<wc.heap.size∧∀k,P.ownBlock=some k→k<wc.heap.size from⟨lt_of_block X.out.box,fun k a=>(World.ownsRow.lt X.out.own k a).2⟩);have C:w3.heap.size≤wc.heap.size:=d.out.size;have R:=lt_of_block F.out;have D:=d.out.size;generalize M:wc.heap.size=K at*;generalize a7:wc.alloc (.cells #[.int .i64 lc,.int .i64 lp,.int .i64 pb,ptr V,.int .i64 0,.int .i64 1,.int .i64 1,.int .i64 1,.int .i64 1,.map none,ptr m] 107)=W8 at*;have T:=Hd c;have a8:K<W8.heap.size:=lt_of_block c;have p9:W8.cell? ⟨K,9,none⟩=some (.map none):=cell_in (i:=9) c rfl;have pf:=frozen_in c 9;have r:=(R0 W8).alloc (.map #[] 0);have q9:(W8.alloc (.map #[] 0)).cell? ⟨K,9,none⟩=some (.map none):=cell_in (i:=9) (r.keep c (fun h=>h)) rfl;have qf:=frozen_in (r.keep c (fun h=>h)) 9;have U:=Hd (And.intro D R);have a0:=Hd (And.intro G C);clear G C;clear c u a7 M r g f o B D;go_wp2_with fail;go_ret2;have h9:(W8.setCell ⟨K,9,none⟩ (.map (some W8.heap.size))).heap[K]? =some (.cells #[.int .i64 lc,.int .i64 lp,.int .i64 pb,ptr V,.int .i64 0,.int .i64 1,.int .i64 1,.int .i64 1,.int .i64 1,.map (some W8.heap.size),ptr m] 107 (0,0)):=set_in T.out 9 _;have f9:Fr (fun k=>k=K) W8 (W8.setCell ⟨K,9,none⟩ (.map (some W8.heap.size))):=Fr.one W8 K 9 _;have H:=KM.made (W8.setCell ⟨K,9,none⟩ (.map (some W8.heap.size)));have a6:(W8.setCell ⟨K,9,none⟩ (.map (some W8.heap.size))).heap.size=W8.heap.size:=by simp
 rw[a6] at H;have n:=(R0 (W8.setCell ⟨K,9,none⟩ (.map (some W8.heap.size)))).alloc (.map #[] 0);have b2:=A.out.size;have b3:=q.out.size;have a9:=U.out;have x:=a3.out;have N:=n.keep (f9.keep (q.out.keep F.out (fun h=>h)) (fun(e:V=K)=>by omega)) (fun h=>h);have a4:=a0.out.1;have a5:=a1.out;have Y:QR (World.alloc (W8.setCell ⟨K,9,none⟩ (.map (some W8.heap.size))) (.map #[] 0)) m P En.K.new.bytes En.K.new.r En.K.new.s:=QR.keep (QR.keep Z.out f9 (fun(e:m=K)=>by omega) (fun k a(e:k=K)=>by have:=a4.2 k a;omega)) n (fun h=>h) (fun _ _ h=>h);refine⟨⟨0,K,0,V,W8.heap.size,ptr m,.slice none 0 0,.slice none 0 0,[]⟩,m,P,rfl,((A.out.trans q.out).trans' f9 (fun k a(e:k=K)=>by omega)).trans n,⟨⟨n.keep h9 (fun h=>h),N,World.ownsRow_nil _ _ _ _,⟨H,by simp,by simp⟩,Has.start _ (fun j hj p O=> ?_),⟨hl,I,S.new_ok⟩,fun j hj=>Lz.fresh_len lc lp j,fun j hj p O=> ?_,h1,Nat.zero_le _⟩,Y,rfl,fun k a=>by simp[Value.ownBlock]⟩,fun k a=> ?_⟩
 ·simp only[Lz.fresh,List.mem_replicate] at O
  exact O.2
 ·simp only[Lz.fresh,List.mem_replicate] at O
  omega
 ·rcases a with(a|a|a|a|⟨e,he,_⟩)|a|a
  ·simp only at a
   omega
  ·simp only at a
   omega
  ·simp[Value.ownBlock] at a
  ·simp only at a
   omega
  ·cases he
  ·omega
  ·have:=a5.2 k a
   omega
end Rf
namespace Rf
open Mem Rc Prob St Lz Win En
theorem infoIntR:(Tryz.prog.info? 3).map (fun i=>(i.zero,i.size,i.bytes))=some (some (.int .i64 0),1,8):=by kernel_rfl
theorem one_ints(xs:List Int):∀u ∈ xs.map (Value.int .i64),u.oneCell'=true:=by
 intro u a;obtain⟨x,_,rfl⟩:=List.mem_map.1 a;rfl
def RForked(T:TypeId)(hd:List Value)(xs:List Int)(w:World)(e:Ending)(w':World):Prop:=
 ∃(b':Nat)(v':Value),e=.returned (.pointer (some ⟨b',0,none⟩))∧Fr (fun _=>False) w w'∧w.heap.size≤b'∧
  w'.heap[b']? =some (.cells (hd++[v']).toArray T (0,0))∧w'.ownsRow 0 3 1 v' xs.length (xs.map (.int .i64))∧(∀k,v'.ownBlock=some k→w.heap.size≤k∧k≠b')
theorem rfork_calls(b:Nat)(N:Int)(v:Value)(xs:List Int)(w:World)(A:w.cell? ⟨b,0,none⟩=some (.int .i64 N))(z:w.cell? ⟨b,1,none⟩=some v)(f:w.ownsRow 0 3 1 v xs.length (xs.map (.int .i64)))(E:xs.length≤1048576):
 Calls Tryz.prog 82 #[.pointer (some ⟨b,0,none⟩)] w (RForked 250 [.int .i64 N] xs w):=by
 obtain⟨D,B,r,s,t⟩:=info_parts infoIntR;have g:=src_own (P:=Tryz.prog) (w.alloc (.cells #[.int .i64 N,.slice none 0 0] 250)).drew Tryz.underlying94 (f.alloc _) (one_ints xs);have l:=Hd g;clear f g;have m:=heap_alloc_new w (.cells #[.int .i64 N,.slice none 0 0] 250);have j:=Hd m;clear m;have C:=block_lt_of_cell z;go_enter Tryz.func82,Tryz.ntmps82;go_wp2_with fail;go_region_law (refine step_append_any _ rfl _ _ 94 94 rfl 3 D (.int .i64 0) 1 8 Tryz.underlying94 B r s t rfl (by decide) (.slice none 0 0) 0 [] (by simp[Act.eval,Act.put]) (World.ownsRow_nil _ _ _ _) v _ _ (by simp[Act.eval,Act.put]) l.out (by simp only[maxLen];omega) (by omega) ?_;intro F G c a d q;obtain⟨y,e,rfl⟩:=own_slice c;have x:=cell_in (i:=1) (a.keep (k:=w.heap.size) j.out (by simp[Value.ownBlock])) rfl;have u:=frozen_in (a.keep (k:=w.heap.size) j.out (by simp[Value.ownBlock])) 1);all_goals go_wp2_with fail
 all_goals go_ret
 all_goals
  simp only[Nat.zero_add,List.nil_append] at c d ⊢;have o:=a.size;simp only[World.size_drew,World.size_alloc] at o;have n:∀k,(Value.slice y xs.length e).ownBlock=some k→w.heap.size+1≤k:=by
   intro k p;rcases d k p with h|h
   ·simp[Value.ownBlock] at h
   ·simpa using h
  refine⟨w.heap.size,.slice y xs.length e,rfl,?_,Nat.le_refl _,?_,?_,fun k p=> ?_⟩
  ·exact((((R0 w).alloc _).drew).trans (a.mono (fun i _ h=>by simp[Value.ownBlock] at h))).setCell (.inr (Nat.le_refl _)) _
  ·rw[set_in (a.keep (k:=w.heap.size) j.out (by simp[Value.ownBlock]))]
   rfl
  ·refine ownsRow_setCell_other c (fun h=> ?_) _
   have:=n _ h;simp only at this;omega
  ·have:=n k p
   omega
theorem rsfork_calls{w:World}{b g:Nat}{L:List Nat}(h:RSet w b g L)(q:0<L.length):
 Calls Tryz.prog 82 #[ptr b] w fun e l=>∃c d,e=.returned (ptr c)∧Fr (fun _=>False) w l∧RSet l c d L∧w.heap.size≤c∧w.heap.size≤d:=by
 obtain⟨v,n,o,f⟩:=h.own;have e:(L.map fun p:Nat=>Value.int .i64 (p:Int))=(L.map fun p:Nat=>(p:Int)).map (.int .i64):=by rw[List.map_map];rfl
 refine(rfork_calls b L.length v (L.map fun p:Nat=>(p:Int)) w n o (by rw[List.length_map,←e];exact f) (by rw[List.length_map];exact h.small)).mono ?_;rintro r l ⟨c,x,rfl,j,k,s,a,t⟩;rw[List.length_map,←e] at a;have i:=a;obtain⟨_,i⟩:=i;rcases i with⟨_,i⟩|⟨d,m,u,rfl,_⟩
 ·omega
 ·exact⟨c,d,rfl,j,RSet.of_own q s a h.ok h.small,k,(t d rfl).1⟩
theorem efork7_calls{w:World}{E:Nat}{v:Value}{k:K}(h:QAt w E v k)(y:k.s≤1099511627000):
 Calls Tryz.prog 81 #[ptr E] w fun e w'=>∃E' f,e=.returned (ptr E')∧Fr (fun _=>False) w w'∧QAt w' E' f k∧w.heap.size≤E'∧∀j,f.ownBlock=some j→w.heap.size≤j:=by
 have a:=Hd ((R0 w).drew);have g:=Hd (show∀w':World,Fr (fun _=>False) w w'→w'.cell? ⟨E,1,none⟩=some (.int .u32 k.r)∧w'.cell? ⟨E,2,none⟩=some (.int .i64 k.s) from fun w' q=>⟨cell_in (i:=1) (q.keep h.box (fun h=>h)) rfl,cell_in (i:=2) (q.keep h.box (fun h=>h)) rfl⟩);have s:=Hd (show∀w':World,Fr (fun _=>False) w w'→Calls Tryz.prog 90 #[ptr E] w' (fun e n=>∃f,e=.returned f∧Fr (fun _=>False) w' n∧Mine w' n f k.bytes) from fun w' q=>rbytes_calls (QR.keep h q (fun h=>h) (fun _ _ h=>h)) y);have c:=Hd (g.out w.drew a.out);obtain⟨t,u⟩:=g.out w (Fr.refl _ _);clear h;go_enter Tryz.func81,Tryz.ntmps81;go_wp2_with fail;go_region_held3 (fun w'=>w'.cell? ⟨E,1,none⟩=some (.int .u32 k.r)∧w'.cell? ⟨E,2,none⟩=some (.int .i64 k.s)) (first|with_reducible exact c.out|with_reducible exact g.out _ a.out|with_reducible exact g.out _ (a.out.alloc _)) (
  (go_at_call 90
   with_reducible refine(s.out _ a.out).mono ?_
   rintro e wc ⟨f,rfl,b,o⟩;have m:=a.out.size;have a:=Hd (a.out.trans b);have c:=Hd (g.out _ a.out);obtain⟨t,u⟩:=c.out;obtain⟨p,d,rfl⟩:=own_slice o.own;have r:=Hd (show Mine w wc (.slice p k.bytes.length d) k.bytes from⟨o.own,fun j x=>Nat.le_trans m (o.new j x)⟩);clear b o m))
 all_goals go_wp2_with fail
 all_goals go_ret
 all_goals
  have l:=(R0 wc).alloc (.cells #[.slice p k.bytes.length d,.int .u32 k.r,.int .i64 k.s] 248);exact⟨wc.heap.size,.slice p k.bytes.length d,rfl,a.out.trans l,⟨heap_alloc_new _ _,(r.out.keep l).own⟩,a.out.size,r.out.new⟩
end Rf
end Go.Proofs.YtffoddpjfgjelaaGreatDoor
