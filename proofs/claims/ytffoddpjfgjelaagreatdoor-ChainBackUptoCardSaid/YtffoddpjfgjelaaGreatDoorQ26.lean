/- Part 26 of 48: lemmas of the last part, each under the conditions that it names. -/
import Derived.Test.YtffoddpjfgjelaaGreatDoorQ05
import Derived.Test.YtffoddpjfgjelaaGreatDoorQ16
import Derived.Test.YtffoddpjfgjelaaGreatDoorQ25
set_option linter.unusedVariables false
set_option linter.unusedSimpArgs false
set_option maxRecDepth 1500
namespace Go.Proofs.YtffoddpjfgjelaaGreatDoor
open Go.RowKit
namespace Ck
open Mem Wire
theorem move_end:∀a:Fin 4,∀k:Fin 7,move a k≠4→(move a k=3↔k.val=0):=by decide
theorem good_end{b:List UInt8}{s s2:Sr}{h:Head}{part:List UInt8}{fr k:Nat}(hn:s.now<4)(g:Good b s h part fr s2 k):s2.now=3↔k=0:=by
 have hk:k<7:=kindOf_lt (b.getD s.at' 0).toNat_lt g.kind
 have:=move_end ⟨s.now,hn⟩ ⟨k,hk⟩ g.mv
 simp only at this
 rw[g.es2]
 exact this
theorem good_zero{b:List UInt8}{s s2:Sr}{h:Head}{part:List UInt8}{fr k:Nat}(g:Good b s h part fr s2 k)(hk:k=0↔h.kind=0)(h0:h.kind=0):s2.at'=s.at'+1∧s2.plain=s.plain:=by
 have hg:=get_kind _ g.err
 have hx:=hg.1 (by rw[←g.eh];exact h0)
 have hl:((b.drop s.at').take 6).length≠0:=by
  have:=g.lt
  rw[List.length_take,List.length_drop]
  omega
 have he:get ((b.drop s.at').take 6)=(Head.none,1,0):=by
  unfold get
  simp only
  rw[if_neg hl,if_pos hx]
 have e1:=g.eh
 have e2:=g.efr
 rw[he] at e1 e2
 simp only at e1 e2
 rw[g.es2,e2,e1]
 exact⟨rfl,rfl⟩
theorem run_le{b:List UInt8}{f n:Nat}{s:Sr}{u v:US}(r:Run b f s u n v):s.now<4→s.at'≤b.length→POk u→u.out.length=s.plain→s.at'≤n∧n≤b.length∧s.plain≤v.out.length∧(s.now≠3→s.at'<n):=by
 induction r with
 |done h=>exact fun _ ha _ ho=>⟨Nat.le_refl _,ha,by omega,fun h3=>absurd h h3⟩
 |step h3 g ok e hk r ih=>
   intro hn ha hp ho
   have h1:=step_pok hp (by rw[ok.plen];exact ok.packed) (fun hk3=>by rw[ok.plen,g.eh];exact((get_sizes _ g.err).2 (by rw[←g.eh];exact hk3)).symm) ok.kind e
   have h2:=ih ok.now ok.le h1.1 (by rw[h1.2,ok.plain,ho])
   have h4:=ok.more
   have h5:=ok.at2
   have h6:=ok.plain
   omega
theorem run_next{b:List UInt8}{s s2:Sr}{u u2:US}{h:Head}{part:List UInt8}{fr k:Nat}(g:Good b s h part fr s2 k)(ok:NextOk b s h part fr s2)(e:u.step h part=some u2)(hp:POk u)(ho:u.out.length=s.plain):POk u2∧u2.out.length=s2.plain:=by
 have h1:=step_pok hp (by rw[ok.plen];exact ok.packed) (fun hk3=>by rw[ok.plen,g.eh];exact((get_sizes _ g.err).2 (by rw[←g.eh];exact hk3)).symm) ok.kind e
 exact⟨h1.1,by rw[h1.2,ok.plain,ho]⟩
theorem run_done{b:List UInt8}{f n:Nat}{s:Sr}{u v:US}(r:Run b f s u n v)(h3:s.now=3):n=s.at'∧v=u:=by
 cases r with
 |done h=>exact⟨rfl,rfl⟩
 |step hh=>exact absurd h3 hh
def fits(P S:Int)(n m:Nat):Prop:=(P<0∨P=n)∧(S<0∨S=m)
theorem fit_good{b:List UInt8}{f n:Nat}{s s2:Sr}{u2 v:US}{h:Head}{part:List UInt8}{fr k:Nat}(hn:s.now<4)(g:Good b s h part fr s2 k)(ok:NextOk b s h part fr s2)(hk:k=0↔h.kind=0)(r:Run b f s2 u2 n v)(hp:POk u2)(ho:u2.out.length=s2.plain){P S:Int}(hf:fits P S n v.out.length):toldBad P S s h s2=false:=by
 have h1:=run_le r ok.now ok.le hp ho
 have h4:=ok.more
 have h5:=ok.at2
 have h6:=ok.plain
 obtain⟨f1,f2⟩:=hf
 unfold toldBad
 simp only[Bool.or_eq_false_iff]
 refine⟨⟨⟨?_,?_⟩,?_⟩,?_⟩
 ·unfold beyond
  rw[decide_eq_false_iff_not]
  omega
 ·by_cases h0:h.kind=0
  ·have hz:=good_zero g hk h0
   have hd:=run_done r ((good_end hn g).2 (hk.2 h0))
   have hv:v.out.length=s2.plain:=by rw[hd.2];exact ho
   have:ends P S s.at' s.plain=true:=by
    unfold ends
    rw[decide_eq_true_iff]
    omega
   rw[this]
   simp
  ·simp[h0]
 ·unfold beyond
  rw[decide_eq_false_iff_not]
  omega
 ·unfold beyond
  rw[decide_eq_false_iff_not]
  omega
theorem run_fits{b:List UInt8}{f n:Nat}{s:Sr}{u v:US}(r:Run b f s u n v)(P S:Int)(hf:fits P S n v.out.length):s.now<4→s.at'≤b.length→POk u→u.out.length=s.plain→readP b P S f s u=.ok (n,v):=by
 induction r with
 |done h=>
   intro _ _ _ _
   unfold readP
   rw[if_pos h]
 |step h3 g ok e hk r ih=>
   intro hn ha hp ho
   have hx:=run_next g ok e hp ho
   rw[readP_succ,if_neg h3,good_told g hk,fit_good hn g ok hk r hx.1 hx.2 hf,if_neg (by decide)]
   simp only
   rw[e]
   exact ih hf ok.now ok.le hx.1 hx.2
theorem fit_law{b:List UInt8}{dict:Int}{n:Nat}{out:List UInt8}(h:unpackP b dict (-1) (-1)=.ok (n,out))(P S:Int)(h1:-1≤P)(h2:-1≤S)(hf:fits P S n out.length):unpackP b dict P S=.ok (n,out):=by
 unfold unpackP at h
 split at h
 ·cases h
 ·rename_i hd
  cases hr:readP b (-1) (-1) (b.length+2) ⟨0,0,0⟩ (US.start dict.toNat) with
  |error x=>rw[hr] at h;cases h
  |ok r=>
    obtain⟨m,v⟩:=r
    rw[hr] at h
    simp only[Except.ok.injEq,Prod.mk.injEq] at h
    obtain⟨rfl,rfl⟩:=h
    have run:=run_of b _ _ _ (by decide) (Nat.zero_le _) hr
    unfold unpackP
    rw[if_neg (by omega),run_fits run P S hf (by decide) (Nat.zero_le _) (start_pok _) rfl]
end Ck
namespace En
open Mem Ck
def headB(h:Head):List UInt8:=
 if h.kind=0 then[0]
 else if h.kind≤2 then[UInt8.ofNat h.kind,UInt8.ofNat ((h.size-1)/256),UInt8.ofNat ((h.size-1)%256)]
 else[UInt8.ofNat (128+32*(h.kind-3)+(h.size-1)/65536),UInt8.ofNat ((h.size-1)/256%256),UInt8.ofNat ((h.size-1)%256),UInt8.ofNat ((h.packed-1)/256),UInt8.ofNat ((h.packed-1)%256)]++
  (if h.kind<5 then[] else[UInt8.ofNat ((5*h.pb+h.lp)*9+h.lc)])
end En
namespace En
open Mem Rc St Lz
structure K where
 a:Nat
 s:Nat
 r:Nat
def K.new:K:=⟨0,0,4294967295⟩
def K.widen(k:K):K:=if 16777216≤k.r then k else⟨k.a*256,k.s+1,k.r*256⟩
def K.cut(k:K)(c b:Nat):K:=if b=0 then⟨k.a,k.s,c⟩ else⟨k.a+c,k.s,k.r-c⟩
def K.bit(k:K)(p b:Nat):K:=(k.cut (cutAt k.r p) b).widen
def K.half0(k:K)(b:Nat):K:=⟨k.a+b*(k.r/2),k.s,k.r/2⟩
def K.half(k:K)(b:Nat):K:=(k.half0 b).widen
def digs:Nat→Nat→List UInt8
 |0,_=>[]
 |n+1,a=>digs n (a/256)++[UInt8.ofNat (a%256)]
def K.bytes(k:K):List UInt8:=digs (k.s+5) k.a
structure K.Ok(k:K):Prop where
 lo:16777216≤k.r
 hi:k.r<4294967296
 top:k.a+k.r≤256^k.s*4294967296
def K.In(k f:K):Prop:=∃d,f.s=k.s+d∧k.a*256^d≤f.a∧f.a+f.r≤(k.a+k.r)*256^d
theorem digs_len:∀n a,(digs n a).length=n
 |0,_=>rfl
 |n+1,a=>by simp[digs,digs_len n]
theorem digs_get:∀(n a i:Nat),i<n→(digs n a)[i]? =some (UInt8.ofNat (a/256^(n-1-i)%256))
 |0,_,i,h=>by omega
 |n+1,a,i,h=>by
   rw[digs]
   by_cases hi:i<n
   ·rw[List.getElem?_append_left (by rw[digs_len];exact hi),digs_get n (a/256) i hi,Nat.div_div_eq_div_mul,show n+1-1-i=(n-1-i)+1 by omega,Nat.pow_succ,Nat.mul_comm 256]
   ·obtain rfl:i=n:=by omega
    rw[List.getElem?_append_right (by rw[digs_len];exact Nat.le_refl _),digs_len]
    simp
theorem K.In.refl(k:K):k.In k:=⟨0,rfl,by simp,by simp⟩
theorem K.In.trans{k m f:K}(h:k.In m)(g:m.In f):k.In f:=by
 obtain⟨d,h1,h2,h3⟩:=h
 obtain⟨e,g1,g2,g3⟩:=g
 refine⟨d+e,by omega,?_,?_⟩
 ·rw[Nat.pow_add,←Nat.mul_assoc]
  exact Nat.le_trans (Nat.mul_le_mul_right _ h2) g2
 ·rw[Nat.pow_add,←Nat.mul_assoc]
  exact Nat.le_trans g3 (Nat.mul_le_mul_right _ h3)
theorem K.in_widen(k:K):k.In k.widen:=by
 unfold K.widen
 split
 ·exact .refl _
 ·exact⟨1,rfl,by simp,by simp only[Nat.pow_one];omega⟩
theorem K.in_cut{k:K}{c:Nat}(b:Nat)(hc:c≤k.r):k.In (k.cut c b):=by
 unfold K.cut
 split
 ·exact⟨0,rfl,by simp,by simp only[Nat.pow_zero];omega⟩
 ·exact⟨0,rfl,by simp,by simp only[Nat.pow_zero];omega⟩
theorem K.in_half0(k:K){b:Nat}(hb:b≤1):k.In (k.half0 b):=by
 unfold K.half0
 refine⟨0,rfl,by simp,?_⟩
 simp only[Nat.pow_zero]
 rcases(show b=0∨b=1 by omega) with rfl|rfl<;>omega
theorem K.widen_ok{k:K}(h0:65536≤k.r)(h1:k.r<4294967296)(h2:k.a+k.r≤256^k.s*4294967296):k.widen.Ok:=by
 unfold K.widen
 split
 ·exact⟨by assumption,h1,h2⟩
 ·refine⟨by simp only;omega,by simp only;omega,?_⟩
  simp only[Nat.pow_succ]
  omega
theorem cut_bd{r p:Nat}(h0:16777216≤r)(hp:31≤p)(hp2:p≤2017):65536≤cutAt r p∧cutAt r p+65536≤r:=by
 unfold cutAt
 have h1:r/2048*31≤r/2048*p:=Nat.mul_le_mul_left _ hp
 have h2:r/2048*p≤r/2048*2017:=Nat.mul_le_mul_left _ hp2
 omega
theorem K.bit_ok{k:K}(h:k.Ok){p:Nat}(b:Nat)(hp:31≤p)(hp2:p≤2017):(k.bit p b).Ok:=by
 obtain⟨h1,h2,h3⟩:=h
 have hc:=cut_bd h1 hp hp2
 unfold K.bit K.cut
 split
 ·exact K.widen_ok (by simp only;omega) (by simp only;omega) (by simp only;omega)
 ·exact K.widen_ok (by simp only;omega) (by simp only;omega) (by simp only;omega)
theorem K.half_ok{k:K}(h:k.Ok){b:Nat}(hb:b≤1):(k.half b).Ok:=by
 obtain⟨h1,h2,h3⟩:=h
 unfold K.half K.half0
 rcases(show b=0∨b=1 by omega) with rfl|rfl
 ·exact K.widen_ok (by simp only;omega) (by simp only;omega) (by simp only;omega)
 ·exact K.widen_ok (by simp only;omega) (by simp only;omega) (by simp only;omega)
structure Sync(f k:K)(d:D):Prop where
 b:d.b=f.bytes
 read:d.read=k.s+5
 rng:d.rng=k.r
 now:d.now+k.a=f.a/256^(f.s-k.s)
theorem in_div{k f:K}(h:k.In f)(hf:0<f.r):k.s≤f.s∧k.a≤f.a/256^(f.s-k.s)∧f.a/256^(f.s-k.s)<k.a+k.r:=by
 obtain⟨d,h1,h2,h3⟩:=h
 have hp:0<256^d:=Nat.pow_pos (by omega)
 rw[show f.s-k.s=d by omega]
 exact⟨by omega,(Nat.le_div_iff_mul_le hp).2 h2,(Nat.div_lt_iff_lt_mul hp).2 (by omega)⟩
theorem Sync.widen{f k:K}{d:D}(h:Sync f k d)(hin:k.widen.In f)(hf:0<f.r):∃e,d.widen=some e∧Sync f k.widen e:=by
 unfold D.widen
 rw[h.rng]
 unfold K.widen at*
 by_cases hr:16777216≤k.r
 ·rw[if_pos hr] at hin ⊢
  rw[if_pos hr]
  exact⟨d,rfl,h⟩
 ·rw[if_neg hr] at hin ⊢
  rw[if_neg hr]
  have hi:=(in_div hin hf).1
  simp only at hi
  have hg:=digs_get (f.s+5) f.a (k.s+5) (by omega)
  rw[h.b,h.read]
  unfold K.bytes
  rw[hg]
  refine⟨_,rfl,rfl,?_,?_,?_⟩
  ·simp only
  ·simp only
  ·simp only
   have hn:=h.now
   have e1:f.s-k.s=(f.s-(k.s+1))+1:=by omega
   have e2:f.s+5-1-(k.s+5)=f.s-(k.s+1):=by omega
   rw[e1,Nat.pow_succ,←Nat.div_div_eq_div_mul] at hn
   rw[e2]
   have hb:(UInt8.ofNat (f.a/256^(f.s-(k.s+1))%256)).toNat=f.a/256^(f.s-(k.s+1))%256:=by
    rw[UInt8.toNat_ofNat']
    omega
   rw[hb]
   omega
theorem Sync.bit{f k:K}{d:D}(h:Sync f k d){p b:Nat}(hb:b≤1)(hk:16777216≤k.r)(hp:31≤p)(hp2:p≤2017)(hin:(k.bit p b).In f)(hf:0<f.r):∃e,d.bit p=some (b,e)∧Sync f (k.bit p b) e:=by
 have hc:=cut_bd hk hp hp2
 have h0:=in_div ((k.cut (cutAt k.r p) b).in_widen.trans hin) hf
 have hn:=h.now
 have key:(d.upper (cutAt d.rng p)).1=b∧Sync f (k.cut (cutAt k.r p) b) (d.upper (cutAt d.rng p)).2:=by
  rw[h.rng]
  unfold D.upper K.cut at*
  rcases(show b=0∨b=1 by omega) with rfl|rfl
  ·simp only[if_true] at h0 ⊢
   rw[if_pos (by omega)]
   exact⟨rfl,h.b,h.read,rfl,hn⟩
  ·simp only[Nat.one_ne_zero,if_false] at h0 ⊢
   rw[if_neg (by omega)]
   exact⟨rfl,h.b,h.read,by simp only;rw[h.rng],by simp only;omega⟩
 obtain⟨e,he,hs⟩:=key.2.widen hin hf
 refine⟨e,?_,hs⟩
 unfold D.bit
 rw[he,key.1]
 rfl
theorem Sync.half{f k:K}{d:D}(h:Sync f k d){b:Nat}(hb:b≤1)(hin:(k.half b).In f)(hf:0<f.r):
 (if d.rng/2≤d.now then d.now-d.rng/2 else d.now)≠d.rng/2∧(decide (d.rng/2≤d.now)=decide (b=1))∧∃e,(⟨d.b,d.read,d.rng/2,if d.rng/2≤d.now then d.now-d.rng/2 else d.now⟩:D).widen=some e∧Sync f (k.half b) e:=by
 have h0:=in_div ((k.half0 b).in_widen.trans hin) hf
 have hn:=h.now
 rw[h.rng]
 unfold K.half0 at h0
 simp only at h0
 rcases(show b=0∨b=1 by omega) with rfl|rfl
 ·have hlt:¬k.r/2≤d.now:=by omega
  rw[if_neg hlt]
  refine⟨by omega,by simp[hlt],?_⟩
  exact Sync.widen (k:=k.half0 0) ⟨h.b,h.read,rfl,by simp only[K.half0];omega⟩ hin hf
 ·have hge:k.r/2≤d.now:=by omega
  rw[if_pos hge]
  refine⟨by omega,by simp[hge],?_⟩
  exact Sync.widen (k:=k.half0 1) ⟨h.b,h.read,rfl,by simp only[K.half0];omega⟩ hin hf
theorem beN_digs{n a:Nat}(ha:a<256^n):∀k,k≤n→beN (digs (n+1) a) k=a/256^(n-k)
 |0,_=>by rw[beN,Nat.sub_zero,Nat.div_eq_of_lt ha]
 |k+1,h=>by
   have hg:=digs_get (n+1) a (k+1) (by omega)
   rw[beN,beN_digs ha k (by omega),List.getD_eq_getElem?_getD,hg]
   simp only[Option.getD_some]
   rw[show n+1-1-(k+1)=n-(k+1) by omega,UInt8.toNat_ofNat',show n-k=(n-(k+1))+1 by omega,Nat.pow_succ,←Nat.div_div_eq_div_mul]
   omega
theorem init_sync{f:K}(hin:K.new.In f)(hf:0<f.r):∃d,init f.bytes=.ok d∧Sync f K.new d:=by
 have h0:=in_div hin hf
 simp only[K.new] at h0
 have hs:f.s-0=f.s:=by omega
 rw[hs] at h0
 have hp:0<256^f.s:=Nat.pow_pos (by omega)
 have ha:f.a<256^(f.s+4):=by
  have h1:=(Nat.div_lt_iff_lt_mul hp).1 h0.2.2
  rw[Nat.pow_add]
  omega
 have hb:=beN_digs ha 4 (by omega)
 rw[show f.s+4+1=f.s+5 by omega,show f.s+4-4=f.s by omega] at hb
 have h1:f.bytes.length=f.s+5:=digs_len _ _
 have hg:f.bytes.getD 0 0=0:=by
  unfold K.bytes
  rw[List.getD_eq_getElem?_getD,digs_get (f.s+5) f.a 0 (by omega),show f.s+5-1-0=f.s+4 by omega,Nat.div_eq_of_lt ha]
  rfl
 unfold init
 rw[if_neg (by omega),hg]
 unfold K.bytes at*
 rw[hb,if_neg (by
  rintro(h|h)
  ·exact h rfl
  ·omega)]
 refine⟨_,rfl,rfl,rfl,rfl,?_⟩
 simp only[K.new,hs,Nat.add_zero]
theorem Sync.fin{f:K}{d:D}(h:Sync f f d):d.read=d.b.length∧d.now=0:=by
 have hn:=h.now
 rw[Nat.sub_self,Nat.pow_zero,Nat.div_one] at hn
 rw[h.b,h.read]
 exact⟨(digs_len _ _).symm,by omega⟩
end En
namespace En
open Mem Rc St Lz
inductive Op where
 |bit (j i b:Nat)
 |half (b:Nat)
structure Es where
 k:K
 ps:Nat→List Nat
def Es.op(e:Es):Op→Es
 |.bit j i b=>⟨e.k.bit ((e.ps j).getD i 0) b,upd e.ps j ((e.ps j).set i (Prob.nextN ((e.ps j).getD i 0) b))⟩
 |.half b=>⟨e.k.half b,e.ps⟩
def Es.run(e:Es):List Op→Es
 |[]=>e
 |o::l=>(e.op o).run l
theorem Es.run_append(e:Es)(l m:List Op):e.run (l++m)=(e.run l).run m:=by
 induction l generalizing e with
 |nil=>rfl
 |cons o l ih=>exact ih _
def Op.Ok(lc lp:Nat):Op→Prop
 |.bit j i b=>j<18∧i<Lz.rowLen lc lp j∧b≤1
 |.half b=>b≤1
def okQ(ps:List Nat):Prop:=∀p ∈ ps,31≤p∧p≤2017
theorem nextQ{p:Nat}(b:Nat)(h:31≤p∧p≤2017):31≤Prob.nextN p b∧Prob.nextN p b≤2017:=by
 unfold Prob.nextN
 split<;>omega
structure Es.Ok(lc lp:Nat)(e:Es):Prop where
 k:e.k.Ok
 q:∀j,j<18→okQ (e.ps j)
 len:∀j,j<18→(e.ps j).length=Lz.rowLen lc lp j
theorem Es.Ok.at{lc lp:Nat}{e:Es}(h:e.Ok lc lp){j i:Nat}(hj:j<18)(hi:i<Lz.rowLen lc lp j):(e.ps j)[i]? =some ((e.ps j).getD i 0)∧31≤(e.ps j).getD i 0∧(e.ps j).getD i 0≤2017:=by
 rw[←h.len j hj] at hi
 rw[List.getD_eq_getElem?_getD,List.getElem?_eq_getElem hi]
 exact⟨rfl,h.q j hj _ (List.getElem_mem hi)⟩
theorem Es.Ok.op{lc lp:Nat}{e:Es}(h:e.Ok lc lp){o:Op}(ho:o.Ok lc lp):(e.op o).Ok lc lp∧e.k.In (e.op o).k:=by
 cases o with
 |bit j i b=>
   obtain⟨hj,hi,hb⟩:=ho
   obtain⟨h1,h2,h3⟩:=h.at hj hi
   have hc:=cut_bd h.k.lo h2 h3
   refine⟨⟨K.bit_ok h.k b h2 h3,fun k hk=> ?_,fun k hk=> ?_⟩,(K.in_cut b (by omega)).trans (K.in_widen _)⟩
   ·simp only[Es.op,upd]
    split
    ·intro p hp
     rcases List.mem_or_eq_of_mem_set hp with hp|rfl
     ·exact h.q j hj p hp
     ·exact nextQ b ⟨h2,h3⟩
    ·exact h.q k hk
   ·simp only[Es.op,upd]
    split
    ·rename_i e
     rw[List.length_set,←e]
     subst e
     exact h.len k hk
    ·exact h.len k hk
 |half b=>exact⟨⟨K.half_ok h.k ho,h.q,h.len⟩,(K.in_half0 _ ho).trans (K.in_widen _)⟩
theorem Es.Ok.run{lc lp:Nat}{e:Es}(h:e.Ok lc lp){l:List Op}(hl:∀o ∈ l,o.Ok lc lp):(e.run l).Ok lc lp∧e.k.In (e.run l).k:=by
 induction l generalizing e with
 |nil=>exact⟨h,.refl _⟩
 |cons o l ih=>
   have h1:=h.op (hl o (by simp))
   have h2:=ih h1.1 (fun x hx=>hl x (by simp[hx]))
   exact⟨h2.1,h1.2.trans h2.2⟩
structure Syn(f:K)(lc lp:Nat)(e:Es)(y:Y):Prop where
 s:Sync f e.k y.d
 bad:y.bad=false
 ps:y.ps=e.ps
 ok:e.Ok lc lp
def Reads{α:Type}(lc lp:Nat)(l:List Op)(g:Y→α×Y)(v:α):Prop:=
 (∀o ∈ l,o.Ok lc lp)∧∀(f:K)(e:Es)(y:Y),0<f.r→Syn f lc lp e y→(e.run l).k.In f→(g y).1=v∧Syn f lc lp (e.run l) (g y).2
theorem Reads.nil{α:Type}{lc lp:Nat}(v:α):Reads lc lp [] (fun y=>(v,y)) v:=⟨fun _ h=>by simp at h,fun _ _ _ _ h _=>⟨rfl,h⟩⟩
theorem Reads.bind{α β:Type}{lc lp:Nat}{l m:List Op}{g:Y→α×Y}{v:α}{g2:α→Y→β×Y}{v2:β}(h:Reads lc lp l g v)(h2:Reads lc lp m (g2 v) v2):Reads lc lp (l++m) (fun y=>g2 (g y).1 (g y).2) v2:=by
 refine⟨fun o ho=> ?_,fun f e y hf hs hin=> ?_⟩
 ·rcases List.mem_append.1 ho with h3|h3
  ·exact h.1 o h3
  ·exact h2.1 o h3
 ·rw[Es.run_append] at hin ⊢
  have k1:=(hs.ok.run h.1)
  have k2:=(k1.1.run h2.1)
  obtain⟨r1,r2⟩:=h.2 f e y hf hs (k2.2.trans hin)
  have r3:=h2.2 f _ _ hf r2 hin
  simp only[r1]
  exact r3
theorem Reads.of{α:Type}{lc lp:Nat}{l:List Op}{g g2:Y→α×Y}{v v2:α}(h:Reads lc lp l g v)(hg:∀y,(g2 y)=g y)(hv:v=v2):Reads lc lp l g2 v2:=by
 have:g2=g:=funext hg
 rw[this,←hv]
 exact h
theorem Reads.map{α β:Type}{lc lp:Nat}{l:List Op}{g:Y→α×Y}{v:α}(F:α→β)(h:Reads lc lp l g v):Reads lc lp l (fun y=>(F (g y).1,(g y).2)) (F v):=
 ⟨h.1,fun f e y hf hs hin=>by
  obtain⟨r1,r2⟩:=h.2 f e y hf hs hin
  exact⟨by simp only;rw[r1],r2⟩⟩
theorem bit_reads{lc lp j i b:Nat}(hj:j<18)(hi:i<Lz.rowLen lc lp j)(hb:b≤1):Reads lc lp [.bit j i b] (fun y=>y.bit j i) b:=by
 refine⟨fun o ho=> ?_,fun f e y hf hs hin=> ?_⟩
 ·simp only[List.mem_singleton] at ho
  subst ho
  exact⟨hj,hi,hb⟩
 ·obtain⟨h1,h2,h3⟩:=hs.ok.at hj hi
  obtain⟨d,hd,hs2⟩:=hs.s.bit hb hs.ok.k.lo h2 h3 hin hf
  have e1:y.bit j i=y.put j (bitAt y.d (y.ps j) i):=by
   unfold Y.bit
   rw[if_neg (by rw[hs.bad];decide)]
  have e2:bitAt y.d (y.ps j) i=⟨b,0,d,(e.ps j).set i (Prob.nextN ((e.ps j).getD i 0) b)⟩:=by
   unfold bitAt
   rw[hs.ps,h1]
   simp only[hd]
  simp only[e1,e2]
  refine⟨rfl,hs2,rfl,?_,(hs.ok.op (o:=.bit j i b) ⟨hj,hi,hb⟩).1⟩
  simp only[Y.put,hs.ps]
  rfl
def treeOps(back:Bool)(j a n x:Nat):Nat→Nat→List Op
 |0,_=>[]
 |f+1,m=>.bit j (a+m) (x/2^Tr.ord back n (n-(f+1))%2)::treeOps back j a n x f (2*m+x/2^Tr.ord back n (n-(f+1))%2)
def later(back:Bool)(n f i:Nat):Bool:=if back then decide (n-f≤i∧i<n) else decide (i<f)
theorem tree_go{lc lp:Nat}(back:Bool){j a n x:Nat}(hj:j<18)(hx:x<2^n)(ha:a+2^n≤Lz.rowLen lc lp j):∀(q m:Nat),q≤n→m<2^(n-q+1)→
 (∀o ∈ treeOps back j a n x q m,o.Ok lc lp)∧∀(f:K)(e:Es)(d:D)(P:Nat→List Nat)(v:Nat),0<f.r→Syn f lc lp e ⟨d,false,P⟩→(e.run (treeOps back j a n x q m)).k.In f→
   (Tr.go back n a q m v d (P j)).err=0∧(∀i,(Tr.go back n a q m v d (P j)).v.testBit i=(v.testBit i||(x.testBit i&&later back n q i)))∧Syn f lc lp (e.run (treeOps back j a n x q m)) ⟨(Tr.go back n a q m v d (P j)).d,false,upd P j (Tr.go back n a q m v d (P j)).ps⟩
 |0,m,hq,hm=>by
   refine⟨fun o ho=>by simp[treeOps] at ho,fun f e d P v hf hs hin=>⟨rfl,fun i=> ?_,?_⟩⟩
   ·unfold Tr.go later
    cases back
    ·simp
    ·simp only[if_true]
     rw[show decide (n-0≤i∧i<n)=false from decide_eq_false (by omega)]
     simp
   ·have e:upd P j (Tr.go back n a 0 m v d (P j)).ps=P:=by
     funext k
     simp only[upd,Tr.go]
     split
     ·rename_i h;rw[h]
     ·rfl
    rw[e]
    exact hs
 |q+1,m,hq,hm=>by
   have hb:x/2^Tr.ord back n (n-(q+1))%2≤1:=by omega
   have ho:Tr.ord back n (n-(q+1))<n:=by unfold Tr.ord;split<;>omega
   have hpw:(2:Nat)^(n-(q+1)+1)≤2^n:=Nat.pow_le_pow_right (by omega) (by omega)
   have hi:a+m<Lz.rowLen lc lp j:=by omega
   have hm2:2*m+x/2^Tr.ord back n (n-(q+1))%2<2^(n-q+1):=by
    rw[show n-q+1=(n-(q+1)+1)+1 by omega,Nat.pow_succ]
    omega
   have ih:=tree_go (lc:=lc) (lp:=lp) back (a:=a) hj hx ha q _ (by omega) hm2
   have hB:=bit_reads (lc:=lc) (lp:=lp) hj hi hb
   refine⟨fun o ho=> ?_,fun f e d P v hf hs hin=> ?_⟩
   ·rw[treeOps,List.mem_cons] at ho
    rcases ho with rfl|ho
    ·exact⟨hj,hi,hb⟩
    ·exact ih.1 o ho
   ·have hbit:(x/2^Tr.ord back n (n-(q+1))%2)=(x>>>Tr.ord back n (n-(q+1)))%2:=by rw[Nat.shiftRight_eq_div_pow]
    rw[treeOps] at hin ⊢
    have hin2:=hin
    rw[Es.run] at hin2 ⊢
    have k1:=(hs.ok.op (o:=.bit j (a+m) (x/2^Tr.ord back n (n-(q+1))%2)) ⟨hj,hi,hb⟩)
    have k2:=k1.1.run ih.1
    obtain⟨r1,r2⟩:=hB.2 f e ⟨d,false,P⟩ hf hs (k2.2.trans hin2)
    have e1:(⟨d,false,P⟩:Y).bit j (a+m)=(⟨d,false,P⟩:Y).put j (bitAt d (P j) (a+m)):=rfl
    simp only[e1] at r1 r2
    have herr:(bitAt d (P j) (a+m)).err=0:=by
     have:=r2.bad
     simpa [Y.put] using this
    have hv:(bitAt d (P j) (a+m)).bit=x/2^Tr.ord back n (n-(q+1))%2:=by
     have:=r1
     simpa [Y.put,gotN,herr] using this
    have r2':Syn f lc lp (e.op (.bit j (a+m) (x/2^Tr.ord back n (n-(q+1))%2))) ⟨(bitAt d (P j) (a+m)).d,false,upd P j (bitAt d (P j) (a+m)).ps⟩:=by
     have:=r2
     simp only[Y.put,herr,ne_eq,not_true,decide_false] at this
     exact this
    rw[Tr.go,if_neg (by omega),hv]
    have r4:=ih.2 f _ _ (upd P j (bitAt d (P j) (a+m)).ps) (v|||(x/2^Tr.ord back n (n-(q+1))%2)<<<Tr.ord back n (n-(q+1))) hf r2' hin2
    rw[upd_same] at r4
    refine⟨r4.1,fun i=> ?_,?_⟩
    ·rw[r4.2.1 i,Nat.testBit_or,Nat.testBit_shiftLeft]
     have hx2:∀t,(x/2^t%2).testBit 0=x.testBit t:=fun t=>by
      rw[Nat.testBit_zero]
      unfold Nat.testBit
      rw[Nat.shiftRight_eq_div_pow,Nat.one_and_eq_mod_two,Nat.mod_mod_of_dvd _ (by exact Nat.dvd_refl 2)]
      rcases(show x/2^t%2=0∨x/2^t%2=1 by omega) with h|h<;>rw[h]<;>rfl
     by_cases hi:i=Tr.ord back n (n-(q+1))
     ·subst hi
      rw[Nat.sub_self,hx2]
      have hl:later back n (q+1) (Tr.ord back n (n-(q+1)))=true:=by
       unfold later Tr.ord
       cases back
       ·simp only[Bool.false_eq_true,if_false];exact decide_eq_true (by omega)
       ·simp only[if_true];exact decide_eq_true (by omega)
      rw[hl]
      cases v.testBit (Tr.ord back n (n-(q+1)))<;>cases x.testBit (Tr.ord back n (n-(q+1)))<;>simp
     ·have hl:later back n (q+1) i=later back n q i:=by
       unfold later Tr.ord at*
       cases back
       ·simp only[Bool.false_eq_true,if_false] at hi ⊢
        exact decide_eq_decide.2 (by omega)
       ·simp only[if_true] at hi ⊢
        exact decide_eq_decide.2 (by omega)
      rw[hl]
      have h0:(decide (Tr.ord back n (n-(q+1))≤i)&&(x/2^Tr.ord back n (n-(q+1))%2).testBit (i-Tr.ord back n (n-(q+1))))=false:=by
       by_cases hle:Tr.ord back n (n-(q+1))≤i
       ·have:(x/2^Tr.ord back n (n-(q+1))%2).testBit (i-Tr.ord back n (n-(q+1)))=false:=by
         refine Nat.testBit_lt_two_pow (Nat.lt_of_lt_of_le (show _<2^1 by omega) (Nat.pow_le_pow_right (by omega) (by omega)))
        rw[this]
        simp
       ·simp[hle]
      rw[h0]
      simp
    ·have hu:∀(L:List Nat),upd (upd P j (bitAt d (P j) (a+m)).ps) j L=upd P j L:=fun L=>by
      funext k
      simp only[upd]
      split<;>rfl
     rw[hu] at r4
     exact r4.2.2
theorem tree_reads{lc lp:Nat}(back:Bool){j a n x:Nat}(hj:j<18)(hx:x<2^n)(hn:n≤16)(ha:a+2^n≤Lz.rowLen lc lp j):Reads lc lp (treeOps back j a n x n 1) (fun y=>y.tree back j a n) x:=by
 have h:=tree_go (lc:=lc) (lp:=lp) back hj hx ha n 1 (Nat.le_refl _) (by rw[Nat.sub_self];decide)
 refine⟨h.1,fun f e y hf hs hin=> ?_⟩
 have hy:y=⟨y.d,false,y.ps⟩:=by cases y;have:=hs.bad;simp only at this;subst this;rfl
 have hs2:=hs
 rw[hy] at hs2
 obtain⟨r1,r2,r3⟩:=h.2 f e y.d y.ps 0 hf hs2 hin
 have hl:=hs.ok.len j hj
 rw[←hs.ps] at hl
 have e1:y.tree back j a n=y.put j ⟨x,0,(Tr.go back n a n 1 0 y.d (y.ps j)).d,(Tr.go back n a n 1 0 y.d (y.ps j)).ps⟩:=by
  unfold Y.tree
  rw[if_neg (by rw[hs.bad];decide)]
  unfold Tr.get
  rw[if_pos ⟨hn,by omega,by omega⟩,if_pos r1,r1]
  congr 2
  refine Nat.eq_of_testBit_eq fun i=> ?_
  rw[r2 i]
  unfold later
  by_cases hi:i<n
  ·cases back
   ·simp[hi]
   ·simp[hi]
  ·have:x.testBit i=false:=Nat.testBit_lt_two_pow (Nat.lt_of_lt_of_le hx (Nat.pow_le_pow_right (by omega) (by omega)))
   rw[this]
   simp
 simp only[e1]
 exact⟨rfl,r3⟩
def halves(x:Nat):Nat→List Op
 |0=>[]
 |n+1=>.half (x/2^n%2)::halves x n
theorem direct_go{lc lp x:Nat}:∀n,(∀o ∈ halves x n,o.Ok lc lp)∧∀(f:K)(e:Es)(d:D)(P:Nat→List Nat)(v:Nat),0<f.r→Syn f lc lp e ⟨d,false,P⟩→(e.run (halves x n)).k.In f→
 ∃d2,D.direct n v d=.ok (v*2^n+x%2^n,d2)∧Syn f lc lp (e.run (halves x n)) ⟨d2,false,P⟩
 |0=>⟨fun o ho=>by simp[halves] at ho,fun f e d P v hf hs hin=>⟨d,by simp[D.direct,Nat.mod_one],hs⟩⟩
 |n+1=>by
   have ih:=direct_go (lc:=lc) (lp:=lp) (x:=x) n
   have hb:x/2^n%2≤1:=by omega
   refine⟨fun o ho=> ?_,fun f e d P v hf hs hin=> ?_⟩
   ·rw[halves,List.mem_cons] at ho
    rcases ho with rfl|ho
    ·exact hb
    ·exact ih.1 o ho
   ·rw[halves,Es.run] at hin ⊢
    have k1:=hs.ok.op (o:=.half (x/2^n%2)) hb
    have k2:=k1.1.run ih.1
    obtain⟨h1,h2,d3,h3,h4⟩:=hs.s.half hb (k2.2.trans hin) hf
    have e1:(if d.rng/2≤d.now then 2*v+1 else 2*v)=2*v+x/2^n%2:=by
     have:decide (d.rng/2≤d.now)=decide (x/2^n%2=1):=h2
     by_cases hc:d.rng/2≤d.now
     ·rw[if_pos hc]
      rw[decide_eq_true hc] at this
      have:=of_decide_eq_true this.symm
      omega
     ·rw[if_neg hc]
      rw[decide_eq_false hc] at this
      have:=of_decide_eq_false this.symm
      omega
    obtain⟨d2,h5,h6⟩:=ih.2 f (e.op (.half (x/2^n%2))) d3 P (2*v+x/2^n%2) hf ⟨h4,rfl,hs.ps,k1.1⟩ hin
    refine⟨d2,?_,h6⟩
    rw[D.direct,if_neg h1]
    rw[h3]
    simp only
    rw[e1,h5,Nat.pow_succ]
    congr 2
    have hm:=Nat.mod_mul (x:=x) (a:=2^n) (b:=2)
    rw[hm,Nat.add_mul,Nat.mul_comm 2 v,Nat.mul_assoc,Nat.mul_comm (x/2^n%2),Nat.mul_comm 2 (2^n)]
    omega
theorem direct_reads{lc lp x n:Nat}(hx:x<2^n):Reads lc lp (halves x n) (fun y=>y.direct n) x:=by
 have h:=direct_go (lc:=lc) (lp:=lp) (x:=x) n
 refine⟨h.1,fun f e y hf hs hin=> ?_⟩
 have hy:y=⟨y.d,false,y.ps⟩:=by cases y;have:=hs.bad;simp only at this;subst this;rfl
 have hs2:=hs
 rw[hy] at hs2
 obtain⟨d2,h1,h2⟩:=h.2 f e y.d y.ps 0 hf hs2 hin
 rw[Nat.mod_eq_of_lt hx,Nat.zero_mul,Nat.zero_add] at h1
 have e1:y.direct n=(x,⟨d2,false,y.ps⟩):=by
  unfold Y.direct
  rw[if_neg (by rw[hs.bad];decide),h1]
 show(y.direct n).1=x∧Syn f lc lp _ (y.direct n).2
 rw[e1]
 exact⟨rfl,h2⟩
end En
end Go.Proofs.YtffoddpjfgjelaaGreatDoor
