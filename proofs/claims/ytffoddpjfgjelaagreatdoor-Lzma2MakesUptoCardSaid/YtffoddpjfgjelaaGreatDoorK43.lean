/- Part 43 of 54: lemmas of the last part, each under the conditions that it names. -/
import Derived.Test.YtffoddpjfgjelaaGreatDoorK16
import Derived.Test.YtffoddpjfgjelaaGreatDoorK42
set_option linter.unusedVariables false
set_option linter.unusedSimpArgs false
set_option maxRecDepth 1500
set_option maxHeartbeats 2000000
namespace Go.Proofs.YtffoddpjfgjelaaGreatDoor
open Go.RowKit
namespace En
open Mem Rc Win Lz Prob Rf
theorem rcut_calls{w:World}{E:Nat}{v:Value}{k:K}{c:Nat}(b:Nat)(h:QAt w E v k)(I:k.r<4294967296)(J:65536≤c)(t:c+65536≤k.r)(y:k.s≤1099511627000):
 Calls Tryz.prog 151 #[ptr E,.int .u32 c,.int .i64 b] w fun e M=>e=.returned (.tuple #[])∧QP E v w (k.cut c b).widen M:=by
 by_cases q:b=0
 ·subst q
  have i:=QR.set (r2:=c) (s2:=k.s) h 1 (.int .u32 (c:Int)) (by simp);have L:(((0:Nat):Int)==0)=true:=rfl;have D:=frozen_in h.box 1;have C:w.cell? ⟨E,1,none⟩=some (.int .u32 k.r):=cell_in h.box rfl;have m:=Hd (show QAt (w.setCell ⟨E,1,none⟩ (.int .u32 (c:Int))) E v (k.cut c 0) from i.1);have o:=Hd (widens_calls m.out (by show 65536≤c;omega) (by show c<4294967296;omega) y);have g:=Hd i.2;clear h i;generalize k.r=r at*;go_enter Tryz.func151,Tryz.ntmps151;go_wp2_with fail;refine o.out.mono ?_;rintro e z ⟨rfl,x⟩;go_wp2_with fail;go_end0;exact⟨rfl,QPost.trans g.out (fun k u=>.inl u) x⟩
 ·have L:((b:Int)==0)=false:=by rw[beq_eq_false_iff_ne];omega
  have A:=Hd (adds_calls (n:=k.s+5) (a:=k.a) (r:=k.r) (s:=k.s) h (show c≤4294967295 by omega) (by omega) (by omega));have l:=Hd (show k.cut c b=⟨k.a+c,k.s,k.r-c⟩ by unfold K.cut;rw[if_neg q]);have f:=Hd (show 65536≤k.r-c∧k.r-c<4294967296∧k.s≤1099511627000 from⟨by omega,by omega,y⟩);have G:IntKind.u32.wrap ((k.r:Int)-(c:Int))=((k.r-c:Nat):Int):=by rw[IntKind.wrap_u32];omega
  clear h;obtain⟨r,p⟩:∃r,r=k.r:=⟨_,rfl⟩;obtain⟨s,B⟩:∃s,s=k.s:=⟨_,rfl⟩;rw[←p] at I t G;have F:=Hd p;have H:=Hd B;clear p B y q;go_enter Tryz.func151,Tryz.ntmps151;go_wp2_with fail;refine A.out.mono ?_;rintro e z ⟨rfl,j,d⟩;rw[←F.out,←H.out] at d;have C:z.cell? ⟨E,1,none⟩=some (.int .u32 r):=cell_in d.box rfl;have D:=frozen_in d.box 1;have i:=QR.set (r2:=r-c) (s2:=s) d 1 (.int .u32 ((r-c:Nat):Int)) (by simp);have m:=Hd (show QAt (z.setCell ⟨E,1,none⟩ (.int .u32 ((r-c:Nat):Int))) E v (k.cut c b) by rw[l.out];show QR _ _ _ (digs (k.s+5) (k.a+c)) (k.r-c) k.s;rw[←F.out,←H.out];exact i.1);have o:=Hd (widens_calls m.out (by rw[l.out];exact f.out.1) (by rw[l.out];exact f.out.2.1) (by rw[l.out];exact f.out.2.2));have g:=Hd ((j.mono (T:=EF E v) (fun k _ e=>.inr e)).trans i.2);clear d i j A m;generalize r-c=rc at*;go_wp2_with fail;refine o.out.mono ?_;rintro e N ⟨rfl,x⟩;go_wp2_with fail;go_end0;exact⟨rfl,QPost.trans g.out (fun k u=>.inl u) x⟩
def RBPost(E:Nat)(v:Value)(sb sg:Nat)(w:World)(k:K)(L:List Nat)(w':World):Prop:=
 Fr (fun j=>EF E v j∨j=sg) w w'∧(∃v',QAt w' E v' k∧∀j,v'.ownBlock=some j→v.ownBlock=some j∨w.heap.size≤j)∧RSet w' sb sg L
theorem rbit7_calls{w:World}{E f l i p:Nat}{v:Value}{k:K}{L:List Nat}(b:Nat)(h:QAt w E v k)(O:k.Ok)(R:k.s≤1099511627000)(q:RSet w f l L)(G:L[i]? =some p)(M:31≤p)(N:p≤2017):
 Calls Tryz.prog 87 #[ptr E,ptr f,.int .i64 i,.int .i64 b] w fun e Y=>e=.returned (.int .i64 0)∧RBPost E v f l w (k.bit p b) (L.set i (nextN p b)) Y:=by
 have s:=cut_bd O.lo M N;have D:=O.hi;have A:=Hd (rset_at f l i p L w q G);have F:=Hd (rbound_nat k.r p w (by omega) (by omega));have H:=Hd (rcut_calls b h D s.1 s.2 R);have c1:w.cell? ⟨E,1,none⟩=some (.int .u32 k.r):=cell_in h.box rfl;obtain⟨_,d⟩:=q.box;obtain⟨_,a⟩:=q.row;have B:E≠f:=blk_ne h.box d (by decide);have o:E≠l:=blk_ne h.box a (by decide);have y:∀j,v.ownBlock=some j→j≠f∧j≠l:=fun j z=>⟨off_box h.own d (by decide) j z,off_box h.own a (by decide) j z⟩;clear d a;have X:=Hd q;have n:=fun W(hW:RSet W f l L)=>Hd (rset_turn f l i p b L W hW G);have U:=Hd (show k.bit p b=(k.cut (cutAt k.r p) b).widen from rfl);clear h O q G;generalize hq:cutAt k.r p=c at*;generalize k.r=r at*;go_enter Tryz.func87,Tryz.ntmps87;go_wp2_with fail;refine A.out.mono ?_;rintro e w1 ⟨rfl,rfl⟩;go_wp2_with fail;refine F.out.mono ?_;rintro e w1 ⟨rfl,rfl⟩;go_wp2_with fail;refine H.out.mono ?_;rintro e w2 ⟨rfl,C,S,u,Q⟩;have g:=X.out.step C (by rintro(e|e);exact B e.symm;exact(y _ e).1 rfl) (by rintro(e|e);exact o e.symm;exact(y _ e).2 rfl);have Z:=n w2 g;have T:=Hd C;have P:=Hd u;have V:=Hd Q;have I:=Hd g;clear C u Q g n;go_wp2_with fail;refine Z.out.mono ?_;rintro e w3 ⟨rfl,t,x⟩;have m:=Hd t;have J:=Hd x;clear t x;go_wp2_with fail;go_ret;refine⟨rfl,(T.out.mono (fun j _ e=>.inl e)).trans (m.out.mono (fun j _ e=>.inr e)),⟨S,?_,V.out⟩,J.out⟩;rw[U.out];obtain⟨_,a⟩:=I.out.row;exact QR.keep P.out m.out o (fun j z e=>off_box P.out.own a (by decide) j z e)
set_option maxRecDepth 100000 in
theorem rdirect_calls{w:World}{E:Nat}{v:Value}{k:K}{b:Nat}(S:b≤1)(h:QAt w E v k)(g:k.Ok)(L:k.s≤1099511627000):
 Calls Tryz.prog 86 #[ptr E,.int .u32 b,.int .i64 1] w fun e P=>e=.returned (.int .i64 0)∧QP E v w (k.half b) P:=by
 have B:=g.lo;have A:=g.hi;have F:=QR.set (r2:=k.r/2) (s2:=k.s) h 1 (.int .u32 ((k.r/2:Nat):Int)) (by simp);have R:=frozen_in h.box 1;have M:w.cell? ⟨E,1,none⟩=some (.int .u32 k.r):=cell_in h.box rfl;have D:IntKind.u32.wrap ((k.r:Int)/2)=((k.r/2:Nat):Int):=by rw[IntKind.wrap_u32];omega
 have G:(k.r:Int)/2%4294967296=((k.r/2:Nat):Int):=by omega
 have p:=Hd F.1;have d:=Hd F.2;have a:=Hd (show 65536≤k.r/2∧k.r/2<4294967296∧k.s≤1099511627000 from⟨by omega,by omega,L⟩);have m:=Hd (show k.half b=(⟨k.a+b*(k.r/2),k.s,k.r/2⟩:K).widen from rfl);have C:=fun W(hW:QR W E v (digs (k.s+5) k.a) (k.r/2) k.s)=>Hd (adds_calls (x:=k.r/2) hW (by omega) (by omega) (by omega));clear h g F B A L;have O:(w.setCell ⟨E,1,none⟩ (.int .u32 ((k.r/2:Nat):Int))).cell? ⟨E,1,none⟩=some (.int .u32 ((k.r/2:Nat):Int)):=cell_in p.out.box rfl;have l:=C _ p.out;clear C;obtain⟨r,J⟩:∃r,r=k.r:=⟨_,rfl⟩;obtain⟨q,I⟩:∃q,q=k.r/2:=⟨_,rfl⟩;obtain⟨s,z⟩:∃s,s=k.s:=⟨_,rfl⟩;rw[←I] at D G p d m a O l;rw[←J] at M D G;rw[←z] at a;have H:=Hd z;clear J I z;rcases(show b=0∨b=1 by omega) with rfl|rfl
 ·have y:=Hd (widens_calls (k:=⟨k.a,k.s,q⟩) p.out a.out.1 a.out.2.1 (by rw[←H.out];exact a.out.2.2))
  have u:=Hd (show(⟨k.a,k.s,q⟩:K).widen=k.half 0 by rw[m.out,Nat.zero_mul,Nat.add_zero]);clear a m;show Calls Tryz.prog 86 #[ptr E,.int .u32 0,.int .i64 1] w _;go_enter Tryz.func86,Tryz.ntmps86;go_wp2_with fail;go_loopw [7](fun i wr=>∃j:Nat,j≤1∧i=.int .i64 ((j:Int)-1)∧(j=1∧wr=w∨j=0∧QP E v w (k.half 0) wr)) (fun i _=>(intOf i+1).toNat);case atStart=>exact⟨1,by omega,rfl,.inl ⟨rfl,rfl⟩⟩
  case round=>
   obtain⟨j,N,rfl,⟨rfl,rfl⟩|⟨rfl,c⟩⟩:=hrel
   ·go_wp2_with fail
    refine y.out.mono ?_;rintro e Q ⟨rfl,c⟩;have f:=Hd (QPost.trans d.out (fun k g=>.inl g) c);clear c;go_wp2_with fail;go_roundw;case rel=>exact⟨0,by omega,by go_num,.inr ⟨rfl,by rw[←u.out];exact f.out⟩⟩
    case measure=>simp[intOf]
   ·have f:=Hd c
    clear c;go_wp2_with fail;go_ret;exact⟨rfl,f.out⟩
 ·have u:=Hd (show(⟨k.a+q,k.s,q⟩:K).widen=k.half 1 by rw[m.out,Nat.one_mul])
  clear m;show Calls Tryz.prog 86 #[ptr E,.int .u32 1,.int .i64 1] w _;go_enter Tryz.func86,Tryz.ntmps86;go_wp2_with fail;go_loopw [7](fun i wr=>∃j:Nat,j≤1∧i=.int .i64 ((j:Int)-1)∧(j=1∧wr=w∨j=0∧QP E v w (k.half 1) wr)) (fun i _=>(intOf i+1).toNat);case atStart=>exact⟨1,by omega,rfl,.inl ⟨rfl,rfl⟩⟩
  case round=>
   obtain⟨j,N,rfl,⟨rfl,rfl⟩|⟨rfl,c⟩⟩:=hrel
   ·go_wp2_with fail
    refine l.out.mono ?_;rintro e Q ⟨rfl,n,o⟩;have t:=Hd (d.out.trans (n.mono (T:=EF E v) (fun k _ e=>.inr e)));have y:=Hd (widens_calls (k:=⟨k.a+q,k.s,q⟩) o a.out.1 a.out.2.1 (by rw[←H.out];exact a.out.2.2));clear n o;go_wp2_with fail;refine y.out.mono ?_;rintro e U ⟨rfl,c⟩;have f:=Hd (QPost.trans t.out (fun k g=>.inl g) c);clear c;go_wp2_with fail;go_roundw;case rel=>exact⟨0,by omega,by go_num,.inr ⟨rfl,by rw[←u.out];exact f.out⟩⟩
    case measure=>simp[intOf]
   ·have f:=Hd c
    clear c;go_wp2_with fail;go_ret;exact⟨rfl,f.out⟩
theorem rbytes_calls{w:World}{E:Nat}{v:Value}{k:K}(h:QAt w E v k)(q:k.s≤1099511627000):
 Calls Tryz.prog 90 #[ptr E] w fun e n=>∃v',e=.returned v'∧Fr (fun _=>False) w n∧Mine w n v' k.bytes:=by
 have t:w.cell? ⟨E,0,none⟩=some v:=cell_in h.box rfl;obtain⟨p,j,r⟩:=own_slice h.own;have b:k.bytes.length=k.s+5:=digs_len _ _;have i:=Hd (Rd.of_own h.own);have o:=Hd (show([]:List UInt8).length+k.bytes.length≤70368744177664 by rw[b];simp only[List.length_nil];omega);clear b h q;generalize k.bytes=L at*;subst r;go_enter Tryz.func90,Tryz.ntmps90;go_wp2_with (at_builtin;refine append_mine rfl _ _ rfl (w0:=w) (.slice none 0 0) (.slice p L.length j) [] L rfl rfl (Mine.nil _ _) (Nat.le_refl _) i.out o.out ?_;intro m a u s l d c _;have g:=Hd (show Mine w s (.slice m L.length a) L by have:=d;rw[l,List.length_nil,Nat.zero_add,List.nil_append] at this;exact this);have f:=Hd c;clear d c);go_ret;exact⟨.slice m L.length a,rfl,f.out.mono (fun k _ e=>by simp[Value.ownBlock] at e),g.out⟩
end En
namespace Rf
open Mem Rc Prob St Lz Win En Ga
theorem own_blk{w:World}{T:TypeId}{v:Value}{n z:Nat}{xs:List Value}{k:Nat}(h:w.ownsRow 0 T z v n xs)(a:v.ownBlock=some k):∃cur,w.heap[k]? =some (.cells cur T (0,0)):=Lz.own_block h a
structure EC(w:World)(l:RL)(E:Nat)(v:Value)(c:C)(e:Es):Prop where
 cod:Cod w l c e.ps
 q:QAt w E v e.k
 ev:l.ev=ptr E
 ap:∀k,v.ownBlock=some k→l.av.ownBlock≠some k
def ECF(l:RL)(E:Nat)(v:Value)(k:Nat):Prop:=l.CF k∨EF E v k
theorem EC.sep{w:World}{l:RL}{E:Nat}{v:Value}{c:C}{e:Es}(h:EC w l E v c e){k:Nat}(b:EF E v k):¬l.CF k:=by
 rcases b with rfl|b
 ·rintro(e|e|e|e)
  ·exact blk_ne h.q.box h.cod.k (by decide) e
  ·exact blk_ne h.q.box h.cod.v (by decide) e
  ·obtain⟨d,a⟩:=own_blk h.cod.all e
   exact blk_ne h.q.box a (by decide) rfl
  ·exact h.cod.sets.off h.q.box (by decide) (by decide) e
 ·obtain⟨d,a⟩:=own_blk h.q.own b
  rintro(e|e|e|e)
  ·exact blk_ne a h.cod.k (by decide) e
  ·exact blk_ne a h.cod.v (by decide) e
  ·exact h.ap k b e
  ·exact h.cod.sets.off a (by decide) (by decide) e
theorem EC.old{w:World}{l:RL}{E:Nat}{v:Value}{c:C}{e:Es}(h:EC w l E v c e):∀k,ECF l E v k→k<w.heap.size:=by
 rintro k (a|rfl|a)
 ·exact h.cod.old k a
 ·exact lt_of_block h.q.box
 ·exact(World.ownsRow.lt h.q.own k a).2
theorem EC.step{S:Nat→Prop}{w w':World}{l:RL}{E:Nat}{v:Value}{c:C}{e:Es}(h:EC w l E v c e)(a:Fr S w w')(b:∀k,ECF l E v k→¬S k):EC w' l E v c e:=
 ⟨h.cod.step a (fun k hk=>b k (.inl hk)),QR.keep h.q a (b _ (.inr (.inl rfl))) (fun k hk=>b k (.inr (.inr hk))),h.ev,h.ap⟩
theorem EC.keep{w w':World}{l:RL}{E:Nat}{v:Value}{c:C}{e:Es}(h:EC w l E v c e)(a:Fr (fun _=>False) w w'):EC w' l E v c e:=h.step a (fun _ _ h=>h)
structure OP(w:World)(l:RL)(E:Nat)(v:Value)(c:C)(e:Es)(st':List Ent)(v':Value)(w':World):Prop where
 ec:EC w' {l with st:=st'} E v' c e
 fr:Fr (ECF l E v) w w'
 gr:∀k,ECF {l with st:=st'} E v' k→ECF l E v k∨w.heap.size≤k
theorem OP.refl{w:World}{l:RL}{E:Nat}{v:Value}{c:C}{e:Es}(h:EC w l E v c e):OP w l E v c e l.st v w:=⟨h,Fr.refl _ _,fun k a=>.inl a⟩
theorem OP.trans{w j m:World}{l:RL}{E:Nat}{v v1 v2:Value}{c:C}{n g:Es}{a b:List Ent}(d:OP w l E v c n a v1 j)(e:OP j {l with st:=a} E v1 c g b v2 m):OP w l E v c g b v2 m:=by
 refine⟨e.ec,d.fr.trans' e.fr (fun i o f=> ?_),fun k f=> ?_⟩
 ·rcases d.gr i f with h|h
  ·exact h
  ·omega
 ·rcases e.gr k f with h|h
  ·exact d.gr k h
  ·exact .inr (Nat.le_trans d.fr.size h)
theorem SetsAt.set2{S:Nat→Prop}{w w':World}{M:Nat}{st:List Ent}(h:SetsAt w M st){e:Ent}(s:look st e.s=some e){L:List Nat}(l:Fr S w w')(o:∀k,SF M st k→S k→k=e.g)(v:RSet w' e.b e.g L)(u:(st.map (·.s)).Nodup):SetsAt w' M (putL st e.s L):=by
 obtain⟨r,_⟩:=look_some s;refine⟨(h.km.step l (fun t=> ?_)).put _ _,fun f p=> ?_,fun f p y q=> ?_⟩
 ·obtain⟨D,⟨x,m,g,_⟩,_⟩:=h.km
  obtain⟨_,d⟩:=(h.at' e r).row;rw[o _ (.inl rfl) t,d] at g;cases g
 ·obtain⟨c,a,rfl⟩:=List.mem_map.1 p
  by_cases b:c.s=e.s
  ·have:c=e:=by
    have i:=look_self u a;rw[b,s] at i;exact(Option.some.inj i).symm
   subst this;rw[Ent.to_b,Ent.to_g];unfold Ent.to;rw[if_pos rfl];exact v
  ·rw[Ent.to_b,Ent.to_g]
   unfold Ent.to;rw[if_neg b];refine(h.at' c a).step l (fun g=> ?_) (fun hg=>b (h.inj c a e r (o _ (.inr ⟨c,a,.inr rfl⟩) hg)));have g:=o _ (.inr ⟨c,a,.inl rfl⟩) g;obtain⟨_,i⟩:=(h.at' c a).box;obtain⟨_,d⟩:=(h.at' e r).row;rw[g,d] at i;simp at i
 ·obtain⟨c,a,rfl⟩:=List.mem_map.1 p
  obtain⟨n,j,rfl⟩:=List.mem_map.1 q;rw[Ent.to_g,Ent.to_g,Ent.to_s,Ent.to_s];exact h.inj c a n j
theorem EC.setted{w f:World}{l:RL}{E:Nat}{v:Value}{c:C}{e:Es}{b:List Ent}(h:EC w l E v c e)(g:Fr (fun k=>k=l.M) w f)(i:Cod f {l with st:=b} c e.ps)(hg:∀k,SF l.M b k→SF l.M l.st k∨w.heap.size≤k):OP w l E v c e b v f:=by
 have a:∀k,EF E v k→¬k=l.M:=fun k hk e=>h.sep hk (by rw[e];exact .inr (.inr (.inr (.inl rfl))));refine⟨⟨i,QR.keep h.q g (a _ (.inl rfl)) (fun k hk=>a k (.inr hk)),h.ev,h.ap⟩,g.mono (fun k _ e=>.inl (by rw[e];exact .inr (.inr (.inr (.inl rfl))))),?_⟩;rintro k ((hk|hk|hk|hk)|hk)
 ·exact .inl (.inl (.inl hk))
 ·exact .inl (.inl (.inr (.inl hk)))
 ·exact .inl (.inl (.inr (.inr (.inl hk))))
 ·rcases hg k hk with d|d
  ·exact .inl (.inl (.inr (.inr (.inr d))))
  ·exact .inr d
 ·exact .inl (.inr hk)
theorem EC.bitted{w M:World}{l:RL}{E:Nat}{v:Value}{c:C}{e:Es}(h:EC w l E v c e)(A:e.Ok c.lc c.lp){a:Nm}(B:a ∈ names){g:Ent}(G:look l.st a.str=some g){i p b:Nat}(T:i<a.len)(q:a.o+i<Lz.rowLen c.lc c.lp a.j)(H:(e.ps a.j).getD (a.o+i) 0=p)
 (R:RBPost E v g.b g.g w (e.k.bit p b) (g.L.set i (nextN p b)) M):
 ∃st' L,OP w l E v c (e.op (.bit a.j (a.o+i) b)) st' L M:=by
 obtain⟨U,P⟩:=look_some G;obtain⟨m,⟨L,W,N⟩,Q⟩:=R;have n:SF l.M l.st g.g:=.inr ⟨g,U,.inr rfl⟩;have D:∀k,EF E v k∨k=g.g→¬(k=l.K∨k=l.V∨l.av.ownBlock=some k):=by
  rintro k (d|rfl) f
  ·exact h.sep d (by rcases f with f|f|f;exact .inl f;exact .inr (.inl f);exact .inr (.inr (.inl f)))
  ·rcases f with f|f|f
   ·exact h.cod.sfK (by rw[←f];exact n)
   ·exact h.cod.sfV (by rw[←f];exact n)
   ·exact h.cod.sfA _ f n
 have X:=A.op (o:=.bit a.j (a.o+i) 0) ⟨(name_small B).2,q,by decide⟩;have J:(e.op (.bit a.j (a.o+i) b)).ps=upd e.ps a.j ((e.ps a.j).set (a.o+i) (nextN p b)):=by rw[←H];rfl
 have F:(e.op (.bit a.j (a.o+i) b)).k=e.k.bit p b:=by rw[←H];rfl
 have K:look l.st g.s=some g:=by rw[P];exact G
 have z:∀j,(upd e.ps a.j ((e.ps a.j).set (a.o+i) (nextN p b)) j).length=(e.ps j).length:=fun j=>by
  by_cases s:j=a.j
  ·rw[s,upd_same,List.length_set]
  ·rw[upd_other _ _ s]
 have I:31≤p∧p≤2017:=by rw[←H];exact(A.at (name_small B).2 q).2
 have V:=nextQ b I;have u:Cod M {l with st:=putL l.st a.str (g.L.set i (nextN p b))} c (upd e.ps a.j ((e.ps a.j).set (a.o+i) (nextN p b))):=by
  refine⟨m.keep h.cod.k (fun d=>D _ d (.inl rfl)),m.keep h.cod.v (fun d=>D _ d (.inr (.inl rfl))),own_step h.cod.all m (fun k d e=>D _ e (.inr (.inr d))),?_,h.cod.has.set B G T,h.cod.okc,fun j s=>by rw[z];exact h.cod.len j s,fun j s=> ?_,h.cod.size,h.cod.much⟩
  ·have:=h.cod.sets.set2 K m (fun k d t=> ?_) Q h.cod.has.nodup
   ·rw[P] at this
    exact this
   ·rcases t with t|t
    ·exact absurd (.inr (.inr (.inr d))) (h.sep t)
    ·exact t
  ·by_cases y:j=a.j
   ·rw[y,upd_same]
    intro x f;rcases List.mem_or_eq_of_mem_set f with f|rfl
    ·exact h.cod.okp a.j (name_small B).2 x f
    ·omega
   ·rw[upd_other _ _ y]
    exact h.cod.okp j s
 have O:=h.old;refine⟨putL l.st a.str (g.L.set i (nextN p b)),L,⟨⟨by rw[J];exact u,by rw[F];exact W,h.ev,fun k d=> ?_⟩,m.mono (fun k _ d=> ?_),?_⟩⟩
 ·rcases N k d with r|r
  ·exact h.ap k r
  ·intro S
   have:=h.cod.old k (.inr (.inr (.inl S)));omega
 ·rcases d with d|rfl
  ·exact .inr d
  ·exact .inl (.inr (.inr (.inr n)))
 ·rintro k ((d|d|d|d)|d|d)
  ·exact .inl (.inl (.inl d))
  ·exact .inl (.inl (.inr (.inl d)))
  ·exact .inl (.inl (.inr (.inr (.inl d))))
  ·exact .inl (.inl (.inr (.inr (.inr ((SF_put ..).1 d)))))
  ·exact .inl (.inr (.inl d))
  ·rcases N k d with r|r
   ·exact .inl (.inr (.inr r))
   ·exact .inr r
theorem EC.halved{w j:World}{l:RL}{E:Nat}{v:Value}{c:C}{e:Es}(h:EC w l E v c e){b:Nat}(m:QP E v w (e.k.half b) j):∃g,OP w l E v c (e.op (.half b)) l.st g j:=by
 obtain⟨f,g,o,i⟩:=m;refine⟨g,⟨⟨h.cod.step f (fun k a e=>h.sep e a),o,h.ev,fun k a=> ?_⟩,f.mono (fun k _ a=>.inr a),?_⟩⟩
 ·rcases i k a with d|d
  ·exact h.ap k d
  ·intro n
   have:=h.cod.old k (.inr (.inr (.inl n)));omega
 ·rintro k (a|a|a)
  ·exact .inl (.inl a)
  ·exact .inl (.inr (.inl a))
  ·rcases i k a with d|d
   ·exact .inl (.inr (.inr d))
   ·exact .inr d
def Nb.nm:Nb→List UInt8
 |.bit a _ _=>a.str
 |.half _=>[]
def Nb.i:Nb→Nat
 |.bit _ i _=>i
 |.half _=>0
def Nb.b:Nb→Nat
 |.bit _ _ b=>b
 |.half b=>b
theorem nb_cells(x:Nb):x.cells=[bstr x.nm,.int .i64 x.i,.int .i64 x.b]:=by cases x<;>rfl
theorem BL.at{w0 w:World}{p:Option Addr}{n c i:Nat}{L:List Nb}{x:Nb}(h:BL w0 w (.slice p n c) L)(E:L[i]? =some x):
 ∃g,p=some ⟨g,0,none⟩∧w.cell? ⟨g,i*3,none⟩=some (bstr x.nm)∧w.cell? ⟨g,i*3+1,none⟩=some (.int .i64 x.i)∧w.cell? ⟨g,i*3+2,none⟩=some (.int .i64 x.b):=by
 have C:n=L.length:=by
  obtain⟨F,f,k⟩:=h.slice;simp only[Value.slice.injEq] at k;exact k.2.1
 subst C;have d:∀j u,(x.cells)[j]? =some u→j<3→(nbs L)[i*3+j]? =some u:=fun j u D B=>by
  rw[←D];exact Pa.flat_at Nb.cells 3 (fun y=>by rw[nb_cells];rfl) L i j x B E
 have v:=d 0 (bstr x.nm) (by rw[nb_cells];rfl) (by decide);have z:=d 1 (.int .i64 x.i) (by rw[nb_cells];rfl) (by decide);have A:=d 2 (.int .i64 x.b) (by rw[nb_cells];rfl) (by decide);obtain⟨g,e,l⟩:=Own.cell h v;obtain⟨s,a,m⟩:=Own.cell h z;obtain⟨t,b,o⟩:=Own.cell h A;have q:s=g:=by rw[e] at a;simp only[Option.some.injEq,Addr.mk.injEq] at a;exact a.1.symm
 have r:t=g:=by rw[e] at b;simp only[Option.some.injEq,Addr.mk.injEq] at b;exact b.1.symm
 subst q r;exact⟨_,e,l,m,o⟩
end Rf
namespace Rf
open Mem Rc Prob St Lz Win En Ga
theorem applyZ_okQ{size:Nat}{all:List UInt8}{s:S}{z:Sz}(a:(applyZ size all s z).1=0)(c:s.Ok):(applyZ size all s z).2.2.Ok:=by
 have b:z.bad=0:=by
  unfold applyZ at a;by_cases b:z.bad=0
  ·exact b
  ·rw[if_neg b] at a
   exact a
 unfold applyZ at a ⊢;rw[if_pos b] at a ⊢;exact apply_ok a c
theorem EC.applied{w u o:World}{l:RL}{E:Nat}{v av2:Value}{c:C}{e:Es}{bytes:List UInt8}{s':S}(h:EC w l E v c e)(F:s'.Ok)(D:c.all.length+bytes.length≤70368744177664)
 (q:Fr (fun k=>k=l.V∨l.av.ownBlock=some k) w u)(x:WAt u l.V av2 c.size (c.all++bytes))(r:∀k,av2.ownBlock=some k→l.av.ownBlock=some k∨w.heap.size≤k)
 (d:Fr (fun k=>k=l.K) u o)(a:o.heap[l.K]? =some (.cells (kV {l with av:=av2} ((c.on bytes).to s')) 107 (0,0))):
 EC o {l with av:=av2} E v ((c.on bytes).to s') e∧Fr (ECF l E v) w o∧∀k,ECF {l with av:=av2} E v k→ECF l E v k∨w.heap.size≤k:=by
 have n:=h.old;have f:∀k,ECF l E v k→k≠l.V→l.av.ownBlock≠some k→¬(k=l.V∨l.av.ownBlock=some k):=by
  rintro k a b z (e|e)
  ·exact b e
  ·exact z e
 have t:∀k,SF l.M l.st k→k≠l.V:=fun k a e=>h.cod.sfV (by rw[←e];exact a);have s:∀k,SF l.M l.st k→l.av.ownBlock≠some k:=fun k a e=>h.cod.sfA k e a;have m:∀k,EF E v k→k≠l.V:=fun k a e=>h.sep a (.inr (.inl e));have i:∀k,EF E v k→l.av.ownBlock≠some k:=fun k a e=>h.sep a (.inr (.inr (.inl e)));have j:∀k,EF E v k→¬k=l.K:=fun k a e=>h.sep a (.inl e);have p:¬l.V=l.K:=fun e=>blk_ne h.cod.v h.cod.k (by decide) e;have g:=h.cod.sets.step q (fun k a=>f k (.inl (.inr (.inr (.inr a)))) (t k a) (s k a));have G:=QR.keep h.q q (f E (.inr (.inl rfl)) (m _ (.inl rfl)) (i _ (.inl rfl))) (fun k a=>f k (.inr (.inr a)) (m _ (.inr a)) (i _ (.inr a)));have B:=lt_of_block h.cod.k;refine⟨⟨⟨a,d.keep x.v p,own_step x.own d (fun k hk2 e=> ?_),g.step d (fun k hk2 e=>h.cod.sfK (by rw[←e];exact hk2)),h.cod.has,⟨h.cod.okc.l,h.cod.okc.pb,F⟩,h.cod.len,h.cod.okp,h.cod.size,by show(c.all++bytes).length≤_;rw[List.length_append];exact D⟩,QR.keep G d (j _ (.inl rfl)) (fun k hk2=>j k (.inr hk2)),h.ev,fun k hk2 e=> ?_⟩,?_,?_⟩
 ·rcases r k hk2 with b|b
  ·obtain⟨y,A⟩:=own_blk h.cod.all b
   exact blk_ne A h.cod.k (by decide) e
  ·omega
 ·rcases r k e with b|b
  ·exact h.ap k hk2 b
  ·have:=n k (.inr (.inr hk2))
   omega
 ·exact(q.mono (T:=ECF l E v) (fun k _ h=>by
   rcases h with h|h
   ·exact .inl (.inr (.inl h))
   ·exact .inl (.inr (.inr (.inl h))))).trans (d.mono (T:=ECF l E v) (fun k _ e=>by rw[e];exact .inl (.inl rfl)))
 ·rintro k ((hk2|hk2|hk2|hk2)|hk2)
  ·exact .inl (.inl (.inl hk2))
  ·exact .inl (.inl (.inr (.inl hk2)))
  ·rcases r k hk2 with b|b
   ·exact .inl (.inl (.inr (.inr (.inl b))))
   ·exact .inr b
  ·exact .inl (.inl (.inr (.inr (.inr hk2))))
  ·exact .inl (.inr hk2)
end Rf
end Go.Proofs.YtffoddpjfgjelaaGreatDoor
