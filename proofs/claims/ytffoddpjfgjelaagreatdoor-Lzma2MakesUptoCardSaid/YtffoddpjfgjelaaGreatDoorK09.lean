/- Part 9 of 54: lemmas of the last part, each under the conditions that it names. -/
import Derived.Test.YtffoddpjfgjelaaGreatDoorK04
set_option linter.unusedVariables false
set_option linter.unusedSimpArgs false
set_option maxRecDepth 1500
namespace Go.Proofs.YtffoddpjfgjelaaGreatDoor
open Go.RowKit
namespace Pk
open Mem St Win
def Run(data:List UInt8)(p n d:Nat):Prop:=1≤d∧d≤p∧∀j,j<n→data[p+j]? =data[p+j-d]?
theorem run_grown{data:List UInt8}{p d:Nat}:∀{n:Nat},Run data p n d→p+n≤data.length→grown (data.take p) d n=data.take (p+n)
 |0,_,_=>rfl
 |n+1,⟨h1,h2,h3⟩,hl=>by
   have b:=run_grown (n:=n) ⟨h1,h2,fun j c=>h3 j (by omega)⟩ (by omega);have a:p+n<data.length:=by omega
   have e:=h3 n (by omega);rw[List.getElem?_eq_getElem a] at e;rw[grown,b,List.length_take,Nat.min_eq_left (by omega),List.getD_eq_getElem?_getD,List.getElem?_take,if_pos (by omega),←e,←Nat.add_assoc,List.take_add_one,List.getElem?_eq_getElem a];rfl
theorem run_copied{data:List UInt8}{p n d:Nat}(h:Run data p n d)(a:p+n≤data.length):copied (data.take p) d n=(data.drop p).take n:=by
 unfold copied;rw[run_grown h a,List.length_take,Nat.min_eq_left (by omega),List.drop_take,Nat.add_sub_cancel_left]
structure Right(data:List UInt8)(top p:Nat)(s:S)(y:Sy):Prop where
 ok:y.Ok
 next:(s.next y).1=0
 fits:p+St.size y≤top
 lit:y.kind=1→data[p]? =some (UInt8.ofNat y.byte)
 run:y.kind≠1→Run data p (lenOfSy y) (distOf s y)
def Steps(data:List UInt8)(top:Nat):List Sy→Nat→S→Nat→S→Prop
 |[],p,s,q,t=>q=p∧t=s
 |y::l,p,s,q,t=>Right data top p s y∧Steps data top l (p+St.size y) (s.next y).2 q t
theorem Steps.snoc{data:List UInt8}{a:Nat}{y:Sy}:∀{l:List Sy}{p q:Nat}{s t:S},Steps data a l p s q t→Right data a q t y→Steps data a (l++[y]) p s (q+St.size y) (t.next y).2
 |[],p,q,s,t,⟨h1,h2⟩,h=>by subst h1 h2;exact⟨h,rfl,rfl⟩
 |z::l,p,q,s,t,⟨h1,h2⟩,h=>⟨h1,h2.snoc h⟩
theorem next_errs(s t:S)(y:Sy):(s.next y).1=(t.next y).1:=by
 unfold S.next;repeat' split
 all_goals rfl
theorem size_of{y:Sy}{s:S}(h:(s.next y).1=0)(b:y.Ok):(y.kind=1→St.size y=1)∧(y.kind≠1→St.size y=lenOfSy y):=by
 have c:(S.new.next y).1=0:=by rw[next_errs S.new s y];exact h
 unfold St.size lenOfSy;rw[if_pos c];have b:=b.kind;refine⟨fun d=>if_neg (by omega),fun d=> ?_⟩;by_cases a:y.kind=4
 ·rw[if_pos a,if_neg (by omega)]
 ·rw[if_neg a,if_pos (by omega)]
end Pk
namespace En
open Mem Rc St Lz
structure K where
 a:Nat
 s:Nat
 r:Nat
def K.new:K:=⟨0,0,4294967295⟩
def K.widen(k:K):K:=if 16777216≤k.r then k else⟨k.a*256,k.s+1,k.r*256⟩
def K.cut(k:K)(c b:Nat):K:=if b=0 then⟨k.a,k.s,c⟩ else⟨k.a+c,k.s,k.r-c⟩
def K.bit(k:K)(p b:Nat):K:=(k.cut (cutAt k.r p) b).widen
def K.half0(k:K)(b:Nat):K:=⟨k.a+b*(k.r/2),k.s,k.r/2⟩
def K.half(k:K)(b:Nat):K:=(k.half0 b).widen
def digs:Nat→Nat→List UInt8
 |0,_=>[]
 |n+1,a=>digs n (a/256)++[UInt8.ofNat (a%256)]
def K.bytes(k:K):List UInt8:=digs (k.s+5) k.a
structure K.Ok(k:K):Prop where
 lo:16777216≤k.r
 hi:k.r<4294967296
 top:k.a+k.r≤256^k.s*4294967296
def K.In(k f:K):Prop:=∃d,f.s=k.s+d∧k.a*256^d≤f.a∧f.a+f.r≤(k.a+k.r)*256^d
theorem digs_len:∀n a,(digs n a).length=n
 |0,_=>rfl
 |n+1,a=>by simp[digs,digs_len n]
theorem digs_get:∀(n a i:Nat),i<n→(digs n a)[i]? =some (UInt8.ofNat (a/256^(n-1-i)%256))
 |0,_,i,h=>by omega
 |n+1,a,i,h=>by
   rw[digs];by_cases b:i<n
   ·rw[List.getElem?_append_left (by rw[digs_len];exact b),digs_get n (a/256) i b,Nat.div_div_eq_div_mul,show n+1-1-i=(n-1-i)+1 by omega,Nat.pow_succ,Nat.mul_comm 256]
   ·obtain rfl:i=n:=by omega
    rw[List.getElem?_append_right (by rw[digs_len];exact Nat.le_refl _),digs_len];simp
theorem K.In.refl(k:K):k.In k:=⟨0,rfl,by simp,by simp⟩
theorem K.In.trans{k m f:K}(h:k.In m)(g:m.In f):k.In f:=by
 obtain⟨d,l,c,i⟩:=h;obtain⟨e,j,a,b⟩:=g;refine⟨d+e,by omega,?_,?_⟩
 ·rw[Nat.pow_add,←Nat.mul_assoc]
  exact Nat.le_trans (Nat.mul_le_mul_right _ c) a
 ·rw[Nat.pow_add,←Nat.mul_assoc]
  exact Nat.le_trans b (Nat.mul_le_mul_right _ i)
theorem K.in_widen(k:K):k.In k.widen:=by
 unfold K.widen;split
 ·exact .refl _
 ·exact⟨1,rfl,by simp,by simp only[Nat.pow_one];omega⟩
theorem K.in_cut{k:K}{c:Nat}(b:Nat)(a:c≤k.r):k.In (k.cut c b):=by
 unfold K.cut;split
 ·exact⟨0,rfl,by simp,by simp only[Nat.pow_zero];omega⟩
 ·exact⟨0,rfl,by simp,by simp only[Nat.pow_zero];omega⟩
theorem K.in_half0(k:K){b:Nat}(a:b≤1):k.In (k.half0 b):=by
 unfold K.half0;refine⟨0,rfl,by simp,?_⟩;simp only[Nat.pow_zero];rcases(show b=0∨b=1 by omega) with rfl|rfl<;>omega
theorem K.widen_ok{k:K}(c:65536≤k.r)(a:k.r<4294967296)(b:k.a+k.r≤256^k.s*4294967296):k.widen.Ok:=by
 unfold K.widen;split
 ·exact⟨by assumption,a,b⟩
 ·refine⟨by simp only;omega,by simp only;omega,?_⟩
  simp only[Nat.pow_succ];omega
theorem cut_bd{r p:Nat}(c:16777216≤r)(b:31≤p)(a:p≤2017):65536≤cutAt r p∧cutAt r p+65536≤r:=by
 unfold cutAt;have d:r/2048*31≤r/2048*p:=Nat.mul_le_mul_left _ b;have e:r/2048*p≤r/2048*2017:=Nat.mul_le_mul_left _ a;omega
theorem K.bit_ok{k:K}(h:k.Ok){p:Nat}(b:Nat)(d:31≤p)(a:p≤2017):(k.bit p b).Ok:=by
 obtain⟨c,e,f⟩:=h;have g:=cut_bd c d a;unfold K.bit K.cut;split
 ·exact K.widen_ok (by simp only;omega) (by simp only;omega) (by simp only;omega)
 ·exact K.widen_ok (by simp only;omega) (by simp only;omega) (by simp only;omega)
theorem K.half_ok{k:K}(h:k.Ok){b:Nat}(e:b≤1):(k.half b).Ok:=by
 obtain⟨a,c,d⟩:=h;unfold K.half K.half0;rcases(show b=0∨b=1 by omega) with rfl|rfl
 ·exact K.widen_ok (by simp only;omega) (by simp only;omega) (by simp only;omega)
 ·exact K.widen_ok (by simp only;omega) (by simp only;omega) (by simp only;omega)
structure Sync(f k:K)(d:D):Prop where
 b:d.b=f.bytes
 read:d.read=k.s+5
 rng:d.rng=k.r
 now:d.now+k.a=f.a/256^(f.s-k.s)
theorem in_div{k f:K}(h:k.In f)(g:0<f.r):k.s≤f.s∧k.a≤f.a/256^(f.s-k.s)∧f.a/256^(f.s-k.s)<k.a+k.r:=by
 obtain⟨d,c,b,e⟩:=h;have a:0<256^d:=Nat.pow_pos (by omega);rw[show f.s-k.s=d by omega];exact⟨by omega,(Nat.le_div_iff_mul_le a).2 b,(Nat.div_lt_iff_lt_mul a).2 (by omega)⟩
theorem Sync.widen{f k:K}{d:D}(h:Sync f k d)(a:k.widen.In f)(j:0<f.r):∃e,d.widen=some e∧Sync f k.widen e:=by
 unfold D.widen;rw[h.rng];unfold K.widen at*;by_cases b:16777216≤k.r
 ·rw[if_pos b] at a ⊢
  rw[if_pos b];exact⟨d,rfl,h⟩
 ·rw[if_neg b] at a ⊢
  rw[if_neg b];have m:=(in_div a j).1;simp only at m;have l:=digs_get (f.s+5) f.a (k.s+5) (by omega);rw[h.b,h.read];unfold K.bytes;rw[l];refine⟨_,rfl,rfl,?_,?_,?_⟩
  ·simp only
  ·simp only
  ·simp only
   have n:=h.now;have c:f.s-k.s=(f.s-(k.s+1))+1:=by omega
   have g:f.s+5-1-(k.s+5)=f.s-(k.s+1):=by omega
   rw[c,Nat.pow_succ,←Nat.div_div_eq_div_mul] at n;rw[g];have i:(UInt8.ofNat (f.a/256^(f.s-(k.s+1))%256)).toNat=f.a/256^(f.s-(k.s+1))%256:=by
    rw[UInt8.toNat_ofNat'];omega
   rw[i];omega
theorem Sync.bit{f k:K}{d:D}(h:Sync f k d){p b:Nat}(r:b≤1)(m:16777216≤k.r)(o:31≤p)(g:p≤2017)(a:(k.bit p b).In f)(j:0<f.r):∃e,d.bit p=some (b,e)∧Sync f (k.bit p b) e:=by
 have s:=cut_bd m o g;have i:=in_div ((k.cut (cutAt k.r p) b).in_widen.trans a) j;have n:=h.now;have c:(d.upper (cutAt d.rng p)).1=b∧Sync f (k.cut (cutAt k.r p) b) (d.upper (cutAt d.rng p)).2:=by
  rw[h.rng];unfold D.upper K.cut at*;rcases(show b=0∨b=1 by omega) with rfl|rfl
  ·simp only[if_true] at i ⊢
   rw[if_pos (by omega)];exact⟨rfl,h.b,h.read,rfl,n⟩
  ·simp only[Nat.one_ne_zero,if_false] at i ⊢
   rw[if_neg (by omega)];exact⟨rfl,h.b,h.read,by simp only;rw[h.rng],by simp only;omega⟩
 obtain⟨e,l,q⟩:=c.2.widen a j;refine⟨e,?_,q⟩;unfold D.bit;rw[l,c.1];rfl
theorem Sync.half{f k:K}{d:D}(h:Sync f k d){b:Nat}(l:b≤1)(a:(k.half b).In f)(i:0<f.r):
 (if d.rng/2≤d.now then d.now-d.rng/2 else d.now)≠d.rng/2∧(decide (d.rng/2≤d.now)=decide (b=1))∧∃e,(⟨d.b,d.read,d.rng/2,if d.rng/2≤d.now then d.now-d.rng/2 else d.now⟩:D).widen=some e∧Sync f (k.half b) e:=by
 have j:=in_div ((k.half0 b).in_widen.trans a) i;have m:=h.now;rw[h.rng];unfold K.half0 at j;simp only at j;rcases(show b=0∨b=1 by omega) with rfl|rfl
 ·have g:¬k.r/2≤d.now:=by omega
  rw[if_neg g];refine⟨by omega,by simp[g],?_⟩;exact Sync.widen (k:=k.half0 0) ⟨h.b,h.read,rfl,by simp only[K.half0];omega⟩ a i
 ·have c:k.r/2≤d.now:=by omega
  rw[if_pos c];refine⟨by omega,by simp[c],?_⟩;exact Sync.widen (k:=k.half0 1) ⟨h.b,h.read,rfl,by simp only[K.half0];omega⟩ a i
end En
namespace En
open Mem Rc St Lz
inductive Op where
 |bit (j i b:Nat)
 |half (b:Nat)
structure Es where
 k:K
 ps:Nat→List Nat
def Es.op(e:Es):Op→Es
 |.bit j i b=>⟨e.k.bit ((e.ps j).getD i 0) b,upd e.ps j ((e.ps j).set i (Prob.nextN ((e.ps j).getD i 0) b))⟩
 |.half b=>⟨e.k.half b,e.ps⟩
def Es.run(e:Es):List Op→Es
 |[]=>e
 |o::l=>(e.op o).run l
theorem Es.run_append(e:Es)(l m:List Op):e.run (l++m)=(e.run l).run m:=by
 induction l generalizing e with
 |nil=>rfl
 |cons o l ih=>exact ih _
def Op.Ok(lc lp:Nat):Op→Prop
 |.bit j i b=>j<18∧i<Lz.rowLen lc lp j∧b≤1
 |.half b=>b≤1
def okQ(ps:List Nat):Prop:=∀p ∈ ps,31≤p∧p≤2017
theorem nextQ{p:Nat}(b:Nat)(h:31≤p∧p≤2017):31≤Prob.nextN p b∧Prob.nextN p b≤2017:=by
 unfold Prob.nextN;split<;>omega
structure Es.Ok(lc lp:Nat)(e:Es):Prop where
 k:e.k.Ok
 q:∀j,j<18→okQ (e.ps j)
 len:∀j,j<18→(e.ps j).length=Lz.rowLen lc lp j
theorem Es.Ok.at{lc lp:Nat}{e:Es}(h:e.Ok lc lp){j i:Nat}(b:j<18)(a:i<Lz.rowLen lc lp j):(e.ps j)[i]? =some ((e.ps j).getD i 0)∧31≤(e.ps j).getD i 0∧(e.ps j).getD i 0≤2017:=by
 rw[←h.len j b] at a;rw[List.getD_eq_getElem?_getD,List.getElem?_eq_getElem a];exact⟨rfl,h.q j b _ (List.getElem_mem a)⟩
theorem Es.Ok.op{lc lp:Nat}{e:Es}(h:e.Ok lc lp){o:Op}(f:o.Ok lc lp):(e.op o).Ok lc lp∧e.k.In (e.op o).k:=by
 cases o with
 |bit j i b=>
   obtain⟨l,m,q⟩:=f;obtain⟨n,c,d⟩:=h.at l m;have r:=cut_bd h.k.lo c d;refine⟨⟨K.bit_ok h.k b c d,fun k a=> ?_,fun k a=> ?_⟩,(K.in_cut b (by omega)).trans (K.in_widen _)⟩
   ·simp only[Es.op,upd]
    split
    ·intro p g
     rcases List.mem_or_eq_of_mem_set g with g|rfl
     ·exact h.q j l p g
     ·exact nextQ b ⟨c,d⟩
    ·exact h.q k a
   ·simp only[Es.op,upd]
    split
    ·rename_i e
     rw[List.length_set,←e];subst e;exact h.len k a
    ·exact h.len k a
 |half b=>exact⟨⟨K.half_ok h.k f,h.q,h.len⟩,(K.in_half0 _ f).trans (K.in_widen _)⟩
theorem Es.Ok.run{lc lp:Nat}{e:Es}(h:e.Ok lc lp){l:List Op}(c:∀o ∈ l,o.Ok lc lp):(e.run l).Ok lc lp∧e.k.In (e.run l).k:=by
 induction l generalizing e with
 |nil=>exact⟨h,.refl _⟩
 |cons o l ih=>
   have a:=h.op (c o (by simp));have b:=ih a.1 (fun x d=>c x (by simp[d]));exact⟨b.1,a.2.trans b.2⟩
structure Syn(f:K)(lc lp:Nat)(e:Es)(y:Y):Prop where
 s:Sync f e.k y.d
 bad:y.bad=false
 ps:y.ps=e.ps
 ok:e.Ok lc lp
def Reads{α:Type}(lc lp:Nat)(l:List Op)(g:Y→α×Y)(v:α):Prop:=
 (∀o ∈ l,o.Ok lc lp)∧∀(f:K)(e:Es)(y:Y),0<f.r→Syn f lc lp e y→(e.run l).k.In f→(g y).1=v∧Syn f lc lp (e.run l) (g y).2
theorem Reads.nil{α:Type}{lc lp:Nat}(v:α):Reads lc lp [] (fun y=>(v,y)) v:=⟨fun _ h=>by simp at h,fun _ _ _ _ h _=>⟨rfl,h⟩⟩
theorem Reads.bind{α β:Type}{lc lp:Nat}{l m:List Op}{g:Y→α×Y}{v:α}{g2:α→Y→β×Y}{v2:β}(h:Reads lc lp l g v)(b:Reads lc lp m (g2 v) v2):Reads lc lp (l++m) (fun y=>g2 (g y).1 (g y).2) v2:=by
 refine⟨fun o j=> ?_,fun f e y d i a=> ?_⟩
 ·rcases List.mem_append.1 j with c|c
  ·exact h.1 o c
  ·exact b.1 o c
 ·rw[Es.run_append] at a ⊢
  have k:=(i.ok.run h.1);have n:=(k.1.run b.1);obtain⟨p,q⟩:=h.2 f e y d i (n.2.trans a);have r:=b.2 f _ _ d q a;simp only[p];exact r
theorem Reads.of{α:Type}{lc lp:Nat}{l:List Op}{g g2:Y→α×Y}{v v2:α}(h:Reads lc lp l g v)(a:∀y,(g2 y)=g y)(b:v=v2):Reads lc lp l g2 v2:=by
 have:g2=g:=funext a;rw[this,←b];exact h
theorem Reads.map{α β:Type}{lc lp:Nat}{l:List Op}{g:Y→α×Y}{v:α}(F:α→β)(h:Reads lc lp l g v):Reads lc lp l (fun y=>(F (g y).1,(g y).2)) (F v):=
 ⟨h.1,fun f e y b c a=>by
  obtain⟨d,i⟩:=h.2 f e y b c a;exact⟨by simp only;rw[d],i⟩⟩
theorem bit_reads{lc lp j i b:Nat}(k:j<18)(g:i<Lz.rowLen lc lp j)(c:b≤1):Reads lc lp [.bit j i b] (fun y=>y.bit j i) b:=by
 refine⟨fun o m=> ?_,fun f e y u a h=> ?_⟩
 ·simp only[List.mem_singleton] at m
  subst m;exact⟨k,g,c⟩
 ·obtain⟨q,r,s⟩:=a.ok.at k g
  obtain⟨d,t,l⟩:=a.s.bit c a.ok.k.lo r s h u;have n:y.bit j i=y.put j (bitAt y.d (y.ps j) i):=by
   unfold Y.bit;rw[if_neg (by rw[a.bad];decide)]
  have p:bitAt y.d (y.ps j) i=⟨b,0,d,(e.ps j).set i (Prob.nextN ((e.ps j).getD i 0) b)⟩:=by
   unfold bitAt;rw[a.ps,q];simp only[t]
  simp only[n,p];refine⟨rfl,l,rfl,?_,(a.ok.op (o:=.bit j i b) ⟨k,g,c⟩).1⟩;simp only[Y.put,a.ps];rfl
def treeOps(back:Bool)(j a n x:Nat):Nat→Nat→List Op
 |0,_=>[]
 |f+1,m=>.bit j (a+m) (x/2^Tr.ord back n (n-(f+1))%2)::treeOps back j a n x f (2*m+x/2^Tr.ord back n (n-(f+1))%2)
def later(back:Bool)(n f i:Nat):Bool:=if back then decide (n-f≤i∧i<n) else decide (i<f)
theorem tree_go{lc lp:Nat}(back:Bool){j a n x:Nat}(s:j<18)(T:x<2^n)(O:a+2^n≤Lz.rowLen lc lp j):∀(q m:Nat),q≤n→m<2^(n-q+1)→
 (∀o ∈ treeOps back j a n x q m,o.Ok lc lp)∧∀(f:K)(e:Es)(d:D)(P:Nat→List Nat)(v:Nat),0<f.r→Syn f lc lp e ⟨d,false,P⟩→(e.run (treeOps back j a n x q m)).k.In f→
   (Tr.go back n a q m v d (P j)).err=0∧(∀i,(Tr.go back n a q m v d (P j)).v.testBit i=(v.testBit i||(x.testBit i&&later back n q i)))∧Syn f lc lp (e.run (treeOps back j a n x q m)) ⟨(Tr.go back n a q m v d (P j)).d,false,upd P j (Tr.go back n a q m v d (P j)).ps⟩
 |0,m,hq,hm=>by
   refine⟨fun o p=>by simp[treeOps] at p,fun f e d P v y u l=>⟨rfl,fun i=> ?_,?_⟩⟩
   ·unfold Tr.go later
    cases back
    ·simp
    ·simp only[if_true]
     rw[show decide (n-0≤i∧i<n)=false from decide_eq_false (by omega)];simp
   ·have e:upd P j (Tr.go back n a 0 m v d (P j)).ps=P:=by
     funext k;simp only[upd,Tr.go];split
     ·rename_i h;rw[h]
     ·rfl
    rw[e];exact u
 |q+1,m,hq,hm=>by
   have w:x/2^Tr.ord back n (n-(q+1))%2≤1:=by omega
   have p:Tr.ord back n (n-(q+1))<n:=by unfold Tr.ord;split<;>omega
   have Q:(2:Nat)^(n-(q+1)+1)≤2^n:=Nat.pow_le_pow_right (by omega) (by omega);have g:a+m<Lz.rowLen lc lp j:=by omega
   have B:2*m+x/2^Tr.ord back n (n-(q+1))%2<2^(n-q+1):=by
    rw[show n-q+1=(n-(q+1)+1)+1 by omega,Nat.pow_succ];omega
   have E:=tree_go (lc:=lc) (lp:=lp) back (a:=a) s T O q _ (by omega) B;have N:=bit_reads (lc:=lc) (lp:=lp) s g w;refine⟨fun o p=> ?_,fun f e d P v y u l=> ?_⟩
   ·rw[treeOps,List.mem_cons] at p
    rcases p with rfl|p
    ·exact⟨s,g,w⟩
    ·exact E.1 o p
   ·have H:(x/2^Tr.ord back n (n-(q+1))%2)=(x>>>Tr.ord back n (n-(q+1)))%2:=by rw[Nat.shiftRight_eq_div_pow]
    rw[treeOps] at l ⊢;have b:=l;rw[Es.run] at b ⊢;have U:=(u.ok.op (o:=.bit j (a+m) (x/2^Tr.ord back n (n-(q+1))%2)) ⟨s,g,w⟩);have V:=U.1.run E.1;obtain⟨I,F⟩:=N.2 f e ⟨d,false,P⟩ y u (V.2.trans b);have J:(⟨d,false,P⟩:Y).bit j (a+m)=(⟨d,false,P⟩:Y).put j (bitAt d (P j) (a+m)):=rfl;simp only[J] at I F;have c:(bitAt d (P j) (a+m)).err=0:=by
     have:=F.bad;simpa [Y.put] using this
    have S:(bitAt d (P j) (a+m)).bit=x/2^Tr.ord back n (n-(q+1))%2:=by
     have:=I;simpa [Y.put,gotN,c] using this
    have G:Syn f lc lp (e.op (.bit j (a+m) (x/2^Tr.ord back n (n-(q+1))%2))) ⟨(bitAt d (P j) (a+m)).d,false,upd P j (bitAt d (P j) (a+m)).ps⟩:=by
     have:=F;simp only[Y.put,c,ne_eq,not_true,decide_false] at this;exact this
    rw[Tr.go,if_neg (by omega),S];have r:=E.2 f _ _ (upd P j (bitAt d (P j) (a+m)).ps) (v|||(x/2^Tr.ord back n (n-(q+1))%2)<<<Tr.ord back n (n-(q+1))) y G b;rw[upd_same] at r;refine⟨r.1,fun i=> ?_,?_⟩
    ·rw[r.2.1 i,Nat.testBit_or,Nat.testBit_shiftLeft]
     have C:∀t,(x/2^t%2).testBit 0=x.testBit t:=fun t=>by
      rw[Nat.testBit_zero];unfold Nat.testBit;rw[Nat.shiftRight_eq_div_pow,Nat.one_and_eq_mod_two,Nat.mod_mod_of_dvd _ (by exact Nat.dvd_refl 2)];rcases(show x/2^t%2=0∨x/2^t%2=1 by omega) with h|h<;>rw[h]<;>rfl
     by_cases g:i=Tr.ord back n (n-(q+1))
     ·subst g
      rw[Nat.sub_self,C];have z:later back n (q+1) (Tr.ord back n (n-(q+1)))=true:=by
       unfold later Tr.ord;cases back
       ·simp only[Bool.false_eq_true,if_false];exact decide_eq_true (by omega)
       ·simp only[if_true];exact decide_eq_true (by omega)
      rw[z];cases v.testBit (Tr.ord back n (n-(q+1)))<;>cases x.testBit (Tr.ord back n (n-(q+1)))<;>simp
     ·have z:later back n (q+1) i=later back n q i:=by
       unfold later Tr.ord at*;cases back
       ·simp only[Bool.false_eq_true,if_false] at g ⊢
        exact decide_eq_decide.2 (by omega)
       ·simp only[if_true] at g ⊢
        exact decide_eq_decide.2 (by omega)
      rw[z];have M:(decide (Tr.ord back n (n-(q+1))≤i)&&(x/2^Tr.ord back n (n-(q+1))%2).testBit (i-Tr.ord back n (n-(q+1))))=false:=by
       by_cases A:Tr.ord back n (n-(q+1))≤i
       ·have:(x/2^Tr.ord back n (n-(q+1))%2).testBit (i-Tr.ord back n (n-(q+1)))=false:=by
         refine Nat.testBit_lt_two_pow (Nat.lt_of_lt_of_le (show _<2^1 by omega) (Nat.pow_le_pow_right (by omega) (by omega)))
        rw[this];simp
       ·simp[A]
      rw[M];simp
    ·have R:∀(L:List Nat),upd (upd P j (bitAt d (P j) (a+m)).ps) j L=upd P j L:=fun L=>by
      funext k;simp only[upd];split<;>rfl
     rw[R] at r;exact r.2.2
theorem tree_reads{lc lp:Nat}(back:Bool){j a n x:Nat}(k:j<18)(l:x<2^n)(s:n≤16)(p:a+2^n≤Lz.rowLen lc lp j):Reads lc lp (treeOps back j a n x n 1) (fun y=>y.tree back j a n) x:=by
 have h:=tree_go (lc:=lc) (lp:=lp) back k l p n 1 (Nat.le_refl _) (by rw[Nat.sub_self];decide);refine⟨h.1,fun f e y q b d=> ?_⟩;have t:y=⟨y.d,false,y.ps⟩:=by cases y;have:=b.bad;simp only at this;subst this;rfl
 have c:=b;rw[t] at c;obtain⟨m,u,v⟩:=h.2 f e y.d y.ps 0 q c d;have r:=b.ok.len j k;rw[←b.ps] at r;have o:y.tree back j a n=y.put j ⟨x,0,(Tr.go back n a n 1 0 y.d (y.ps j)).d,(Tr.go back n a n 1 0 y.d (y.ps j)).ps⟩:=by
  unfold Y.tree;rw[if_neg (by rw[b.bad];decide)];unfold Tr.get;rw[if_pos ⟨s,by omega,by omega⟩,if_pos m,m];congr 2;refine Nat.eq_of_testBit_eq fun i=> ?_;rw[u i];unfold later;by_cases g:i<n
  ·cases back
   ·simp[g]
   ·simp[g]
  ·have:x.testBit i=false:=Nat.testBit_lt_two_pow (Nat.lt_of_lt_of_le l (Nat.pow_le_pow_right (by omega) (by omega)))
   rw[this];simp
 simp only[o];exact⟨rfl,v⟩
def halves(x:Nat):Nat→List Op
 |0=>[]
 |n+1=>.half (x/2^n%2)::halves x n
theorem direct_go{lc lp x:Nat}:∀n,(∀o ∈ halves x n,o.Ok lc lp)∧∀(f:K)(e:Es)(d:D)(P:Nat→List Nat)(v:Nat),0<f.r→Syn f lc lp e ⟨d,false,P⟩→(e.run (halves x n)).k.In f→
 ∃i,D.direct n v d=.ok (v*2^n+x%2^n,i)∧Syn f lc lp (e.run (halves x n)) ⟨i,false,P⟩
 |0=>⟨fun o g=>by simp[halves] at g,fun f e d P v l h c=>⟨d,by simp[D.direct,Nat.mod_one],h⟩⟩
 |n+1=>by
   have m:=direct_go (lc:=lc) (lp:=lp) (x:=x) n;have k:x/2^n%2≤1:=by omega
   refine⟨fun o g=> ?_,fun f e d P v l h c=> ?_⟩
   ·rw[halves,List.mem_cons] at g
    rcases g with rfl|g
    ·exact k
    ·exact m.1 o g
   ·rw[halves,Es.run] at c ⊢
    have p:=h.ok.op (o:=.half (x/2^n%2)) k;have B:=p.1.run m.1;obtain⟨s,t,q,u,w⟩:=h.s.half k (B.2.trans c) l;have r:(if d.rng/2≤d.now then 2*v+1 else 2*v)=2*v+x/2^n%2:=by
     have:decide (d.rng/2≤d.now)=decide (x/2^n%2=1):=t;by_cases j:d.rng/2≤d.now
     ·rw[if_pos j]
      rw[decide_eq_true j] at this;have:=of_decide_eq_true this.symm;omega
     ·rw[if_neg j]
      rw[decide_eq_false j] at this;have:=of_decide_eq_false this.symm;omega
    obtain⟨i,y,z⟩:=m.2 f (e.op (.half (x/2^n%2))) q P (2*v+x/2^n%2) l ⟨w,rfl,h.ps,p.1⟩ c;refine⟨i,?_,z⟩;rw[D.direct,if_neg s];rw[u];simp only;rw[r,y,Nat.pow_succ];congr 2;have A:=Nat.mod_mul (x:=x) (a:=2^n) (b:=2);rw[A,Nat.add_mul,Nat.mul_comm 2 v,Nat.mul_assoc,Nat.mul_comm (x/2^n%2),Nat.mul_comm 2 (2^n)];omega
theorem direct_reads{lc lp x n:Nat}(l:x<2^n):Reads lc lp (halves x n) (fun y=>y.direct n) x:=by
 have h:=direct_go (lc:=lc) (lp:=lp) (x:=x) n;refine⟨h.1,fun f e y k c b=> ?_⟩;have m:y=⟨y.d,false,y.ps⟩:=by cases y;have:=c.bad;simp only at this;subst this;rfl
 have a:=c;rw[m] at a;obtain⟨g,d,j⟩:=h.2 f e y.d y.ps 0 k a b;rw[Nat.mod_eq_of_lt l,Nat.zero_mul,Nat.zero_add] at d;have i:y.direct n=(x,⟨g,false,y.ps⟩):=by
  unfold Y.direct;rw[if_neg (by rw[c.bad];decide),d]
 show(y.direct n).1=x∧Syn f lc lp _ (y.direct n).2;rw[i];exact⟨rfl,j⟩
end En
namespace En
open Mem Rc St Lz
def matOps(u a b:Nat):Nat→Nat→Bool→List Op
 |0,_,_=>[]
 |k+1,m,same=>.bit 6 (a+m+if same then 256*(1+u/2^k%2) else 0) (b/2^k%2)::matOps u a b k (2*m+b/2^k%2) (same&&decide (b/2^k%2=u/2^k%2))
def litOps(c:C)(b:Nat):List Op:=if c.s.num<7 then treeOps false 6 c.context 8 b 8 1 else matOps (c.lastB c.s.r0) c.context b 8 1 true
def lenOps(c:C)(q n:Nat):List Op:=
 if n<10 then[.bit q 0 0]++treeOps false (q+1) (8*c.place) 3 (n-2) 3 1
 else if n<18 then[.bit q 0 1]++([.bit q 1 0]++treeOps false (q+2) (8*c.place) 3 (n-10) 3 1)
 else[.bit q 0 1]++([.bit q 1 1]++treeOps false (q+3) 0 8 (n-18) 8 1)
def restOps(slot r:Nat):List Op:=
 if(range slot).2=0 then[] else if slot<14 then treeOps true 16 (restAt slot) (range slot).2 r (range slot).2 1
 else halves (r/16) ((range slot).2-4)++treeOps true 17 0 4 (r%16) 4 1
def distOps(n slot d:Nat):List Op:=treeOps false 15 (slotAt n) 6 slot 6 1++restOps slot (d-(range slot).1)
def repOps(c:C)(i n:Nat):List Op:=
 [.bit 0 c.at 1]++([.bit 2 c.s.num 1]++(if i=0 then[.bit 3 c.s.num 0]++([.bit 1 c.at 1]++lenOps c 11 n)
  else if i=1 then[.bit 3 c.s.num 1]++([.bit 4 c.s.num 0]++lenOps c 11 n) else[.bit 3 c.s.num 1]++([.bit 4 c.s.num 1]++([.bit 5 c.s.num (i-2)]++lenOps c 11 n))))
def slotOf(d:Nat):Nat:=if d≤4 then d-1 else 2*Nat.log2 (d-1)+(d-1)/2^(Nat.log2 (d-1)-1)%2
def symOps(c:C)(y:Sy):List Op:=
 if y.kind=1 then[.bit 0 c.at 0]++litOps c y.byte
 else if y.kind=2 then[.bit 0 c.at 1]++([.bit 2 c.s.num 0]++(lenOps c 7 y.len++distOps y.len (slotOf y.dist) y.dist))
 else if y.kind=3 then repOps c y.dist y.len
 else[.bit 0 c.at 1]++([.bit 2 c.s.num 1]++([.bit 3 c.s.num 0]++[.bit 1 c.at 0]))
def norm(y:Sy):Sy:=if y.kind=1 then⟨1,y.byte,0,0⟩ else if y.kind=2 then⟨2,0,y.len,y.dist⟩ else if y.kind=3 then⟨3,0,y.len,y.dist⟩ else⟨4,0,0,0⟩
theorem place_lt(c:C)(h:c.Ok):c.place<16:=by
 unfold C.place;have a:c.all.length%2^c.pb<2^c.pb:=Nat.mod_lt _ (Nat.two_pow_pos _);have b:2^c.pb≤2^4:=Nat.pow_le_pow_right (by omega) h.pb;omega
theorem at_lt(c:C)(h:c.Ok):c.at<192:=by
 have a:=place_lt c h;have b:=h.s.num;unfold C.at;omega
theorem last_lt(c:C)(d:Nat):c.lastB d<256:=by
 unfold C.lastB Win.last;split
 ·exact UInt8.toNat_lt _
 ·simp
theorem context_le(c:C):c.context+768≤768*2^(c.lc+c.lp)∨8<c.lc:=by
 by_cases b:8<c.lc
 ·exact .inr b
 refine .inl ?_;unfold C.context;have a:c.all.length%2^c.lp<2^c.lp:=Nat.mod_lt _ (Nat.two_pow_pos _);have d:c.lastB 1/2^(8-c.lc)<2^c.lc:=by
  rw[Nat.div_lt_iff_lt_mul (Nat.two_pow_pos _),←Nat.pow_add,show c.lc+(8-c.lc)=8 by omega];exact last_lt c 1
 have e:c.all.length%2^c.lp*2^c.lc+2^c.lc≤2^(c.lc+c.lp):=by
  rw[Nat.pow_add,Nat.mul_comm (2^c.lc)];have:(c.all.length%2^c.lp+1)*2^c.lc≤2^c.lp*2^c.lc:=Nat.mul_le_mul_right _ a;rw[Nat.add_mul,Nat.one_mul] at this;exact this
 omega
theorem mat_reads{lc lp:Nat}(u a b:Nat)(d:a+768≤768*2^(lc+lp)):∀(k n m:Nat)(same:Bool),n+k=8→2^n≤m→m<2^(n+1)→Reads lc lp (matOps u a b k m same) (litGo u a k m same) (m*2^k+b%2^k)
 |0,n,m,same,hn,h1,h2=>by
   have:=Reads.nil (lc:=lc) (lp:=lp) m;exact this.of (fun _=>rfl) (by simp[Nat.mod_one])
 |k+1,n,m,same,hn,h1,h2=>by
   have f:b/2^k%2≤1:=by omega
   have l:m<256:=Nat.lt_of_lt_of_le h2 (Nat.pow_le_pow_right (n:=2) (by omega) (show n+1≤8 by omega));have g:(a+m+if same then 256*(1+u/2^k%2) else 0)<Lz.rowLen lc lp 6:=by
    have e:Lz.rowLen lc lp 6=768*2^(lc+lp):=rfl;rw[e];split<;>omega
   rw[Nat.pow_succ] at h2;have i:=mat_reads (lc:=lc) (lp:=lp) u a b d k (n+1) (2*m+b/2^k%2) (same&&decide (b/2^k%2=u/2^k%2)) (by omega) (by rw[Nat.pow_succ];omega) (by rw[Nat.pow_succ,Nat.pow_succ];omega);have c:=bit_reads (lc:=lc) (lp:=lp) (j:=6) (by omega) g f;refine(c.bind (g2:=fun v y=>litGo u a k (2*m+v) (same&&decide (v=u/2^k%2)) y) i).of (fun _=>rfl) ?_;have h:=Nat.mod_mul (x:=b) (a:=2^k) (b:=2);rw[Nat.pow_succ,h,Nat.add_mul,Nat.mul_comm 2 m,Nat.mul_assoc,Nat.mul_comm (b/2^k%2),Nat.mul_comm 2 (2^k)];omega
theorem lit_reads(c:C)(e:c.Ok){b:Nat}(d:b<256):Reads c.lc c.lp (litOps c b) (fun y=>y.literal c) b:=by
 have f:c.context+768≤768*2^(c.lc+c.lp):=(context_le c).resolve_right (by have:=e.l;omega);unfold litOps;by_cases h:c.s.num<7
 ·rw[if_pos h]
  refine(tree_reads (lc:=c.lc) (lp:=c.lp) false (j:=6) (a:=c.context) (n:=8) (x:=b) (by omega) d (by omega) (by show c.context+2^8≤768*2^(c.lc+c.lp);omega)).of (fun y=> ?_) rfl;unfold Y.literal;rw[if_pos h]
 ·rw[if_neg h]
  have:=(mat_reads (lc:=c.lc) (lp:=c.lp) (c.lastB c.s.r0) c.context b f 8 0 1 true rfl (by omega) (by omega)).map (fun v=>v-256);refine this.of (fun y=> ?_) (by omega);unfold Y.literal;rw[if_neg h]
theorem len_reads(c:C)(h:c.Ok){q n:Nat}(e:q=7∨q=11)(k:2≤n)(l:n≤273):Reads c.lc c.lp (lenOps c q n) (fun y=>y.length c q) n:=by
 have o:=place_lt c h;have B:=fun(i b:Nat)(hi:i<2)(hb:b≤1)=>bit_reads (lc:=c.lc) (lp:=c.lp) (j:=q) (i:=i) (b:=b) (by omega) (by rcases e with rfl|rfl<;>exact hi) hb;have T:=fun(d a m x:Nat)(hx:x<2^m)(hm:m≤16)(ha:a+2^m≤Lz.rowLen c.lc c.lp (q+d))(hd:d≤3)=>tree_reads (lc:=c.lc) (lp:=c.lp) false (j:=q+d) (a:=a) (n:=m) (x:=x) (by omega) hx hm ha;unfold lenOps;by_cases f:n<10
 ·rw[if_pos f]
  have:=(B 0 0 (by omega) (by omega)).bind (g2:=fun v y=>if v=0 then((fun v=>2+v) (y.tree false (q+1) (8*c.place) 3).1,(y.tree false (q+1) (8*c.place) 3).2) else
   if(y.bit q 1).1=0 then(10+((y.bit q 1).2.tree false (q+2) (8*c.place) 3).1,((y.bit q 1).2.tree false (q+2) (8*c.place) 3).2) else(18+((y.bit q 1).2.tree false (q+3) 0 8).1,((y.bit q 1).2.tree false (q+3) 0 8).2)) (v2:=2+(n-2))
   (((T 1 (8*c.place) 3 (n-2) (by omega) (by omega) (by rcases e with rfl|rfl<;>show _≤128<;>omega) (by omega)).map (fun v=>2+v)).of (fun _=>by rw[if_pos rfl]) rfl)
  exact this.of (fun _=>rfl) (by omega)
 rw[if_neg f];by_cases g:n<18
 ·rw[if_pos g]
  have:=(B 0 1 (by omega) (by omega)).bind (g2:=fun v y=>if v=0 then(2+(y.tree false (q+1) (8*c.place) 3).1,(y.tree false (q+1) (8*c.place) 3).2) else
   if(y.bit q 1).1=0 then(10+((y.bit q 1).2.tree false (q+2) (8*c.place) 3).1,((y.bit q 1).2.tree false (q+2) (8*c.place) 3).2) else(18+((y.bit q 1).2.tree false (q+3) 0 8).1,((y.bit q 1).2.tree false (q+3) 0 8).2)) (v2:=10+(n-10))
   (((B 1 0 (by omega) (by omega)).bind (g2:=fun v y=>if v=0 then(10+(y.tree false (q+2) (8*c.place) 3).1,(y.tree false (q+2) (8*c.place) 3).2) else(18+(y.tree false (q+3) 0 8).1,(y.tree false (q+3) 0 8).2)) (v2:=10+(n-10))
     (((T 2 (8*c.place) 3 (n-10) (by omega) (by omega) (by rcases e with rfl|rfl<;>show _≤128<;>omega) (by omega)).map (fun v=>10+v)).of (fun _=>by rw[if_pos rfl]) rfl)).of (fun _=>by rw[if_neg (by decide)]) rfl)
  exact this.of (fun _=>rfl) (by omega)
 ·rw[if_neg g]
  have:=(B 0 1 (by omega) (by omega)).bind (g2:=fun v y=>if v=0 then(2+(y.tree false (q+1) (8*c.place) 3).1,(y.tree false (q+1) (8*c.place) 3).2) else
   if(y.bit q 1).1=0 then(10+((y.bit q 1).2.tree false (q+2) (8*c.place) 3).1,((y.bit q 1).2.tree false (q+2) (8*c.place) 3).2) else(18+((y.bit q 1).2.tree false (q+3) 0 8).1,((y.bit q 1).2.tree false (q+3) 0 8).2)) (v2:=18+(n-18))
   (((B 1 1 (by omega) (by omega)).bind (g2:=fun v y=>if v=0 then(10+(y.tree false (q+2) (8*c.place) 3).1,(y.tree false (q+2) (8*c.place) 3).2) else(18+(y.tree false (q+3) 0 8).1,(y.tree false (q+3) 0 8).2)) (v2:=18+(n-18))
     (((T 3 0 8 (n-18) (by omega) (by omega) (by rcases e with rfl|rfl<;>show _≤256<;>omega) (by omega)).map (fun v=>18+v)).of (fun _=>by rw[if_neg (by decide)]) rfl)).of (fun _=>by rw[if_neg (by decide)]) rfl)
  exact this.of (fun _=>rfl) (by omega)
theorem restAt_le:∀s:Fin 14,4≤s.val→restAt s.val+2^(range s.val).2≤128:=by decide+kernel
theorem rest_reads{lc lp b d:Nat}(k:b<64)(m:(range b).1≤d)(h:d<(range b).1+2^(range b).2):Reads lc lp (restOps b (d-(range b).1)) (fun y=>y.rest b) d:=by
 have g:=range_le ⟨b,k⟩;simp only at g;obtain⟨o,p,q,l,r⟩:=g;unfold restOps;by_cases c:(range b).2=0
 ·rw[if_pos c]
  rw[c] at h;refine(Reads.nil (lc:=lc) (lp:=lp) d).of (fun y=> ?_) rfl;unfold Y.rest;rw[if_pos c];simp only[Prod.mk.injEq,and_true];omega
 rw[if_neg c];by_cases f:b<14
 ·rw[if_pos f]
  have i:4≤b:=by
   unfold range at c;split at c
   ·exact absurd rfl c
   ·omega
  have:=(tree_reads (lc:=lc) (lp:=lp) true (j:=16) (a:=restAt b) (n:=(range b).2) (x:=d-(range b).1) (by omega) (by omega) (by omega) (restAt_le ⟨b,f⟩ i)).map (fun v=>(range b).1+v);refine this.of (fun y=> ?_) (by omega);unfold Y.rest;rw[if_neg c,if_pos f]
 ·rw[if_neg f]
  have e:2^(range b).2=2^((range b).2-4)*16:=by
   rw[show(16:Nat)=2^4 by rfl,←Nat.pow_add];congr 1;have:=l (by omega);omega
  have A:=direct_reads (lc:=lc) (lp:=lp) (x:=(d-(range b).1)/16) (n:=(range b).2-4) (by omega);have B:=tree_reads (lc:=lc) (lp:=lp) true (j:=17) (a:=0) (n:=4) (x:=(d-(range b).1)%16) (by omega) (by omega) (by omega) (show 0+2^4≤16 by decide);have:=A.bind (g2:=fun v y=>((range b).1+v*16+(y.tree true 17 0 4).1,(y.tree true 17 0 4).2)) (B.map (fun x=>(range b).1+(d-(range b).1)/16*16+x));refine this.of (fun y=> ?_) (by omega);unfold Y.rest;rw[if_neg c,if_neg f]
theorem dist_reads{lc lp n b d:Nat}(g:2≤n)(c:b<64)(e:(range b).1≤d)(f:d<(range b).1+2^(range b).2):Reads lc lp (distOps n b d) (fun y=>y.dist n) d:=by
 have A:=tree_reads (lc:=lc) (lp:=lp) false (j:=15) (a:=slotAt n) (n:=6) (x:=b) (by omega) c (by omega) (by show slotAt n+2^6≤256;unfold slotAt;omega);exact(A.bind (g2:=fun v y=>y.rest v) (rest_reads c e f)).of (fun _=>rfl) rfl
theorem slotOf_in{d:Nat}(r:1≤d)(s:d≤4294967295):slotOf d<64∧(range (slotOf d)).1≤d∧d<(range (slotOf d)).1+2^(range (slotOf d)).2:=by
 unfold slotOf;by_cases e:d≤4
 ·rw[if_pos e]
  unfold range;rw[if_pos (by omega)];simp only;omega
 rw[if_neg e];have c:d-1≠0:=by omega
 have t:=(Nat.le_log2 c (k:=2)).2 (by omega);have u:=(Nat.log2_lt c (k:=32)).2 (by omega);have p:=Nat.log2_self_le c;have q:=Nat.lt_log2_self (n:=d-1);generalize Nat.log2 (d-1)=k at*;obtain⟨j,rfl⟩:∃j,k=j+1:=⟨k-1,by omega⟩;have b:=Nat.two_pow_pos j;have f:2^(j+1)=2^j*2:=Nat.pow_succ ..;have g:2^(j+1+1)=2^j*2*2:=by rw[Nat.pow_succ,Nat.pow_succ]
 rw[f] at p;rw[g] at q;have m:2≤(d-1)/2^j:=(Nat.le_div_iff_mul_le b).2 (by omega);have o:(d-1)/2^j<4:=(Nat.div_lt_iff_lt_mul b).2 (by omega);have a:=Nat.div_add_mod (d-1) (2^j);have l:=Nat.mod_lt (d-1) b;simp only[Nat.add_sub_cancel];unfold range;rw[if_neg (by omega)];have h:(2*(j+1)+(d-1)/2^j%2)/2-1=j:=by omega
 have i:2+(2*(j+1)+(d-1)/2^j%2)%2=(d-1)/2^j:=by omega
 simp only[h,i];rw[Nat.mul_comm] at a;exact⟨by omega,by omega,by omega⟩
structure May(c:C)(y:Sy):Prop where
 kind:y.kind=1∨y.kind=2∨y.kind=3∨y.kind=4
 byte:y.byte<256
 len:y.kind=2∨y.kind=3→isL y.len
 dist:y.kind=2→isD y.dist
 rep:y.kind=3→y.dist≤3
theorem sym_reads(c:C)(r:c.Ok){y:Sy}(h:May c y):Reads c.lc c.lp (symOps c y) (fun x=>x.symbol c) (norm y):=by
 have q:=at_lt c r;have A:=r.s.num;have B:=fun(j i b:Nat)(hj:j=0∧i=c.at∨j=1∧i=c.at∨(2≤j∧j≤5)∧i=c.s.num)(hb:b≤1)=>bit_reads (lc:=c.lc) (lp:=c.lp) (j:=j) (i:=i) (b:=b) (by omega) (by
  unfold Lz.rowLen;rcases hj with⟨rfl,rfl⟩|⟨rfl,rfl⟩|⟨H,rfl⟩
  ·exact q
  ·exact q
  ·rw[if_neg (by omega),if_pos (by omega)]
   omega) hb
 have a:=B 0 c.at 1 (by omega) (by omega);unfold symOps norm;by_cases s:y.kind=1
 ·rw[if_pos s,if_pos s]
  exact((B 0 c.at 0 (by omega) (by omega)).bind (g2:=fun v x=>if v=0 then x.lit c else x.symbol1 c) (((lit_reads c r h.byte).map (fun b=>(⟨1,b,0,0⟩:Sy))).of (fun _=>rfl) rfl)).of (fun _=>rfl) rfl
 rw[if_neg s,if_neg s];by_cases f:y.kind=2
 ·rw[if_pos f,if_pos f]
  have e:=h.len (.inl f);have z:=h.dist f;obtain⟨E,F,G⟩:=slotOf_in z.1 z.2;have w:=len_reads c r (.inl rfl:7=7∨7=11) e.1 e.2;have D:=dist_reads (lc:=c.lc) (lp:=c.lp) e.1 E F G;exact(a.bind (g2:=fun v x=>if v=0 then x.lit c else x.symbol1 c) (((B 2 c.s.num 0 (by omega) (by omega)).bind (g2:=fun v x=>if v=0 then x.match c else x.symbol2 c)
   ((w.bind (g2:=fun n x=>((⟨2,0,n,(x.dist n).1⟩:Sy),(x.dist n).2)) (D.map (fun d=>(⟨2,0,y.len,d⟩:Sy)))).of (fun _=>rfl) rfl)).of (fun _=>rfl) rfl)).of (fun _=>rfl) rfl
 rw[if_neg f,if_neg f];have k:=B 2 c.s.num 1 (by omega) (by omega);have o:=B 3 c.s.num 0 (by omega) (by omega);by_cases g:y.kind=3
 ·rw[if_pos g,if_pos g]
  have e:=h.len (.inr g);have I:=h.rep g;have w:=len_reads c r (.inr rfl:11=7∨11=11) e.1 e.2;have R:=fun i:Nat=>(w.map (fun n=>(⟨3,0,n,i⟩:Sy)));unfold repOps;refine(a.bind (g2:=fun v x=>if v=0 then x.lit c else x.symbol1 c) ((k.bind (g2:=fun v x=>if v=0 then x.match c else x.symbol2 c) (v2:=⟨3,0,y.len,y.dist⟩) ?_).of (fun _=>rfl) rfl)).of (fun _=>rfl) rfl;by_cases t:y.dist=0
  ·rw[if_pos t,t]
   exact(o.bind (g2:=fun v x=>if v=0 then x.short c else x.older c) (((B 1 c.at 1 (by omega) (by omega)).bind (g2:=fun v x=>if v=0 then(⟨4,0,0,0⟩,x) else x.repeat c 0) ((R 0).of (fun _=>rfl) rfl)).of (fun _=>rfl) rfl)).of (fun _=>rfl) rfl
  rw[if_neg t];have p:=B 3 c.s.num 1 (by omega) (by omega);by_cases u:y.dist=1
  ·rw[if_pos u,u]
   exact(p.bind (g2:=fun v x=>if v=0 then x.short c else x.older c) (((B 4 c.s.num 0 (by omega) (by omega)).bind (g2:=fun v x=>if v=1 then(x.bit 5 c.s.num).2.repeat c (2+(x.bit 5 c.s.num).1) else x.repeat c 1) ((R 1).of (fun _=>rfl) rfl)).of (fun _=>rfl) rfl)).of (fun _=>rfl) rfl
  rw[if_neg u];exact(p.bind (g2:=fun v x=>if v=0 then x.short c else x.older c) (((B 4 c.s.num 1 (by omega) (by omega)).bind (g2:=fun v x=>if v=1 then(x.bit 5 c.s.num).2.repeat c (2+(x.bit 5 c.s.num).1) else x.repeat c 1)
   (((B 5 c.s.num (y.dist-2) (by omega) (by omega)).bind (g2:=fun v x=>x.repeat c (2+v)) ((R (2+(y.dist-2))).of (fun _=>rfl) rfl)).of (fun _=>rfl) rfl)).of (fun _=>rfl) rfl)).of (fun _=>rfl) (by congr 1;omega)
 rw[if_neg g,if_neg g];exact(a.bind (g2:=fun v x=>if v=0 then x.lit c else x.symbol1 c) ((k.bind (g2:=fun v x=>if v=0 then x.match c else x.symbol2 c) ((o.bind (g2:=fun v x=>if v=0 then x.short c else x.older c) (v2:=(⟨4,0,0,0⟩:Sy))
  (((B 1 c.at 0 (by omega) (by omega)).bind (g2:=fun v x=>if v=0 then((⟨4,0,0,0⟩:Sy),x) else x.repeat c 0) (l:=[.bit 1 c.at 0]) (m:=[]) (Reads.nil _)).of (fun _=>rfl) rfl)).of (fun _=>rfl) rfl)).of (fun _=>rfl) rfl)).of (fun _=>rfl) rfl
end En
set_option maxRecDepth 100000
namespace En
open Mem Rc
structure G where
 low:Nat
 rng:Nat
 held:Nat
 wait:Nat
 out:List UInt8
def G.new:G:=⟨0,4294967295,0,0,[]⟩
def carry(g:G):Nat:=g.low/4294967296
def G.fixed(g:G):List UInt8:=g.out++UInt8.ofNat (g.held+carry g)::List.replicate g.wait (UInt8.ofNat (255+carry g))
def G.shift(g:G):G:=
 if g.low<4278190080∨4294967295<g.low then⟨g.low%16777216*256,g.rng,g.low/16777216%256,0,g.fixed⟩
 else⟨g.low%16777216*256,g.rng,g.held,g.wait+1,g.out⟩
def G.widen(g:G):G:=if 16777216≤g.rng then g else G.shift ⟨g.low,g.rng*256,g.held,g.wait,g.out⟩
def G.bit(g:G)(p b:Nat):G:=(if b=0 then⟨g.low,cutAt g.rng p,g.held,g.wait,g.out⟩ else⟨g.low+cutAt g.rng p,g.rng-cutAt g.rng p,g.held,g.wait,g.out⟩:G).widen
def G.half(g:G)(b:Nat):G:=(⟨g.low+b*(g.rng/2),g.rng/2,g.held,g.wait,g.out⟩:G).widen
def G.shifts:Nat→G→G
 |0,g=>g
 |n+1,g=>G.shifts n g.shift
def G.bytes(g:G):List UInt8:=(g.shifts 5).out
def val(l:List UInt8):Nat:=l.foldl (fun v c=>v*256+c.toNat) 0
theorem val_snoc(l:List UInt8)(c:UInt8):val (l++[c])=val l*256+c.toNat:=by simp[val]
theorem val_rep(l:List UInt8)(c:UInt8):∀n,(val (l++List.replicate n c)+(if c=255 then 1 else 0))=(if c=255 then(val l+1)*256^n else if c=0 then val l*256^n else val (l++List.replicate n c))
 |0=>by
   by_cases h:c=255
   ·rw[if_pos h,if_pos h];simp
   ·rw[if_neg h,if_neg h]
    by_cases a:c=0
    ·rw[if_pos a];simp
    ·rw[if_neg a];rfl
 |n+1=>by
   have b:=val_rep l c n;rw[List.replicate_succ',←List.append_assoc,val_snoc];by_cases h:c=255
   ·rw[if_pos h,if_pos h] at*
    subst h;rw[Nat.pow_succ,←Nat.mul_assoc,←b];simp only[show(255:UInt8).toNat=255 from rfl];omega
   ·rw[if_neg h,if_neg h] at*
    by_cases a:c=0
    ·rw[if_pos a] at b ⊢
     subst a;rw[Nat.pow_succ,←Nat.mul_assoc,←b];simp
    ·rw[if_neg a];rfl
theorem digs_val:∀(n:Nat)(l:List UInt8),l.length=n→digs n (val l)=l
 |0,l,h=>by rw[List.length_eq_zero_iff.1 h];rfl
 |n+1,l,h=>by
   obtain rfl|⟨m,c,rfl⟩:=List.eq_nil_or_concat l
   ·simp at h
   rw[List.concat_eq_append] at*;have a:=UInt8.toNat_lt c;rw[List.length_append,List.length_singleton] at h;rw[val_snoc,digs,show(val m*256+c.toNat)/256=val m by omega,digs_val n m (by omega),show(val m*256+c.toNat)%256=c.toNat by omega];simp
structure Ab(g:G)(a s r:Nat):Prop where
 val:(val g.out*256+g.held+1)*256^g.wait*4294967296+g.low=a+4294967296
 s:g.out.length+g.wait=s
 held:g.held≤255
 low:g.low+r≤8589934592
 top:g.held=255→g.low+r≤4294967296
 pos:1≤r
theorem Ab.mono{g:G}{a s r q:Nat}(h:Ab g a s r)(c:q≤r)(b:1≤q):Ab g a s q:=
 ⟨h.val,h.s,h.held,by have:=h.low;omega,fun e=>by have:=h.top e;omega,b⟩
theorem Ab.fixed{g:G}{a s r:Nat}(h:Ab g a s r)(m:g.low<4278190080∨4294967295<g.low):(En.val g.fixed+(1-carry g))=(En.val g.out*256+g.held+1)*256^g.wait∧g.fixed.length=s+1∧carry g≤1:=by
 have i:=h.low;have d:=h.top;have j:=h.held;have k:=h.pos;have f:carry g≤1:=by unfold carry;omega
 refine⟨?_,by unfold G.fixed;simp;have:=h.s;omega,f⟩;unfold G.fixed;rw[show g.out++UInt8.ofNat (g.held+carry g)::List.replicate g.wait (UInt8.ofNat (255+carry g))=(g.out++[UInt8.ofNat (g.held+carry g)])++List.replicate g.wait (UInt8.ofNat (255+carry g)) by simp];have c:=val_rep (g.out++[UInt8.ofNat (g.held+carry g)]) (UInt8.ofNat (255+carry g)) g.wait;rw[val_snoc] at c;rcases(show carry g=0∨carry g=1 by omega) with b|b
 ·rw[b] at c ⊢
  rw[if_pos (by decide),if_pos (by decide),UInt8.toNat_ofNat',show(g.held+0)%2^8=g.held by omega] at c;exact c
 ·have l:g.held≤254:=by
   by_cases e:g.held=255
   ·have:=d e
    unfold carry at b;omega
   ·omega
  rw[b] at c ⊢;rw[if_neg (by decide),if_neg (by decide),if_pos (by decide),UInt8.toNat_ofNat',show(g.held+1)%2^8=g.held+1 by omega] at c;exact c
theorem emit_val'(T P F q m b a c:Nat)(f:P=256*T)(d:b=c*P+q*T+m)(i:c≤1)(e:(F+(1-c))*P+b=a+P):(F*256+q+1)*P+m*256=a*256+P:=by
 have g:q*P=256*(q*T):=by rw[f];exact Nat.mul_left_comm ..
 have h:F*256*P=256*(F*P):=by rw[Nat.mul_comm F,Nat.mul_assoc]
 simp only[Nat.add_mul,Nat.one_mul] at e ⊢;rcases(show c=0∨c=1 by omega) with rfl|rfl
 ·simp only[Nat.zero_mul,Nat.sub_zero,Nat.one_mul] at*
  omega
 ·simp only[Nat.sub_self,Nat.zero_mul,Nat.one_mul] at*
  omega
theorem wait_val'(T P F m b a:Nat)(f:P=256*T)(c:b=255*T+m)(e:F*P+b=a+P):F*256*P+m*256=a*256+P:=by
 have d:F*256*P=256*(F*P):=by rw[Nat.mul_comm F,Nat.mul_assoc]
 omega
theorem emit_val(F b a c:Nat){r:Nat}(g:c=b/4294967296)(e:b+r≤8589934592)(f:1≤r)(h:b<4278190080∨4294967295<b)(d:(F+(1-c))*4294967296+b=a+4294967296):
 (F*256+b/16777216%256+1)*4294967296+b%16777216*256=a*256+4294967296:=
 emit_val' 16777216 4294967296 F (b/16777216%256) (b%16777216) b a c rfl (by clear d;omega) (by clear d;omega) d
theorem wait_val(F b a:Nat)(d:4278190080≤b∧b≤4294967295)(c:F*4294967296+b=a+4294967296):F*256*4294967296+b%16777216*256=a*256+4294967296:=
 wait_val' 16777216 4294967296 F (b%16777216) b a rfl (by clear c;omega) c
theorem Ab.shift{g:G}{a s r:Nat}(h:Ab g a s r)(q:r≤16777216):Ab g.shift (a*256) (s+1) (r*256):=by
 have i:=h.low;have j:=h.top;have k:=h.held;have l:=h.pos;have c:=h.val;have o:=h.s;have p:g.low%16777216<16777216:=Nat.mod_lt _ (by decide);unfold G.shift;by_cases b:g.low<4278190080∨4294967295<g.low
 ·rw[if_pos b]
  obtain⟨f,m,n⟩:=h.fixed b;refine⟨?_,by simp only;omega,by simp only;omega,by simp only;omega,?_,by omega⟩
  ·simp only[Nat.pow_zero,Nat.mul_one]
   rw[←f] at c;exact emit_val (En.val g.fixed) g.low a (carry g) rfl i l b c
  ·simp only
   intro e;rcases b with b|b
   ·omega
   ·omega
 ·rw[if_neg b]
  have d:4278190080≤g.low∧g.low≤4294967295:=by omega
  refine⟨?_,by simp only;omega,k,by simp only;omega,fun e=>by simp only at e ⊢;have:=j e;omega,by omega⟩;simp only[Nat.pow_succ];rw[←Nat.mul_assoc];exact wait_val _ _ _ d c
structure Is(g:G)(k:K):Prop where
 ab:Ab g k.a k.s k.r
 rng:g.rng=k.r
 ok:k.Ok
theorem is_new:Is G.new K.new:=⟨⟨by decide,rfl,by decide,by decide,by decide,by decide⟩,rfl,⟨by decide,by decide,by decide⟩⟩
theorem G.widen_is{g:G}{k:K}(h:Ab g k.a k.s k.r)(a:g.rng=k.r)(c:k.widen.Ok):Is g.widen k.widen:=by
 refine⟨?_,?_,c⟩
 ·unfold G.widen K.widen
  rw[a];split
  ·exact h
  ·have b:Ab ⟨g.low,k.r*256,g.held,g.wait,g.out⟩ k.a k.s k.r:=⟨h.val,h.s,h.held,h.low,h.top,h.pos⟩
   exact b.shift (by omega)
 ·unfold G.widen K.widen
  rw[a];split
  ·exact a
  ·unfold G.shift
   split<;>rfl
theorem Is.bit{g:G}{k:K}(h:Is g k){p:Nat}(b:Nat)(l:31≤p)(c:p≤2017):Is (g.bit p b) (k.bit p b):=by
 have r:=cut_bd h.ok.lo l c;have a:=K.bit_ok h.ok b l c;have n:=h.rng;obtain⟨m,f,i,o,j,q⟩:=h.ab;unfold G.bit K.bit K.cut at*;rw[n];by_cases d:b=0
 ·rw[if_pos d] at a ⊢
  rw[if_pos d];exact G.widen_is ⟨m,f,i,by simp only;omega,fun e=>by have:=j e;simp only;omega,by simp only;omega⟩ rfl a
 ·rw[if_neg d] at a ⊢
  rw[if_neg d];exact G.widen_is ⟨by simp only;omega,f,i,by simp only;omega,fun e=>by have:=j e;simp only;omega,by simp only;omega⟩ rfl a
theorem Is.half{g:G}{k:K}(h:Is g k){b:Nat}(i:b≤1):Is (g.half b) (k.half b):=by
 have a:=K.half_ok h.ok i;have j:=h.ok.lo;have l:=h.rng;obtain⟨m,c,d,n,f,o⟩:=h.ab;unfold G.half K.half K.half0 at*;rw[l];rcases(show b=0∨b=1 by omega) with rfl|rfl
 ·exact G.widen_is ⟨by simp only;omega,c,d,by simp only;omega,fun e=>by have:=f e;simp only;omega,by simp only;omega⟩ rfl a
 ·exact G.widen_is ⟨by simp only;omega,c,d,by simp only;omega,fun e=>by have:=f e;simp only;omega,by simp only;omega⟩ rfl a
theorem Is.bytes{g:G}{k:K}(h:Is g k):g.bytes=k.bytes:=by
 have d:=h.ab.mono (q:=1) (by have:=h.ok.lo;omega) (Nat.le_refl _);have e:=d.shift (by decide);have f:=e.shift (by decide);have i:=f.shift (by decide);have j:=i.shift (by decide);have a:∀g:G,g.shift.low=g.low%16777216*256:=fun g=>by unfold G.shift;split<;>rfl
 have n:g.shift.shift.shift.shift.low=0:=by
  rw[a,a,a,a];omega
 have l:=j.mono (q:=1) (by decide) (Nat.le_refl _);have b:=l.shift (by decide);unfold G.bytes K.bytes;show g.shift.shift.shift.shift.shift.out=_;have m:g.shift.shift.shift.shift.shift=⟨0,g.shift.shift.shift.shift.rng,0,0,g.shift.shift.shift.shift.fixed⟩:=by
  rw[G.shift,if_pos (by omega),n]
 rw[m] at b ⊢;have v:=b.val;have s:=b.s;simp only[Nat.pow_zero,Nat.mul_one,Nat.add_zero] at v s;simp only;have c:=digs_val _ _ s;rw[show En.val g.shift.shift.shift.shift.fixed=k.a by omega] at c;exact c.symm
end En
end Go.Proofs.YtffoddpjfgjelaaGreatDoor
