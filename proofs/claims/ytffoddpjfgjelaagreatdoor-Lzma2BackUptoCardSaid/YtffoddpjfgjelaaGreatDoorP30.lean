/- Part 30 of 52: lemmas of the last part, each under the conditions that it names. -/
import Derived.Deep.RegionLaw
import Derived.Deep.DeepCutAuto
import Derived.Deep.LoopGhost
import Derived.Test.YtffoddpjfgjelaaGreatDoorP02
import Derived.Test.YtffoddpjfgjelaaGreatDoorP17
import Derived.Test.YtffoddpjfgjelaaGreatDoorP25
set_option linter.unusedVariables false
set_option linter.unusedSimpArgs false
set_option maxRecDepth 1500
set_option maxHeartbeats 1000000
namespace Go.Proofs.YtffoddpjfgjelaaGreatDoor
open Go.RowKit
namespace Ga
open Mem Win
structure Own(T:TypeId)(z:Nat)(w0 w:World)(v:Value)(n:Nat)(xs:List Value):Prop where
 own:w.ownsRow 0 T z v n xs
 new:∀k,v.ownBlock=some k→w0.heap.size≤k
theorem Own.nil(T:TypeId)(z:Nat)(w0 w:World):Own T z w0 w (.slice none 0 0) 0 []:=⟨World.ownsRow_nil _ _ _ _,fun k hk=>by simp[Value.ownBlock] at hk⟩
theorem Own.step{S:Nat→Prop}{T:TypeId}{z n:Nat}{w0 w w':World}{v:Value}{xs:List Value}(h:Own T z w0 w v n xs)(hfr:Fr S w w')(hS:∀k,v.ownBlock=some k→¬S k):Own T z w0 w' v n xs:=⟨Lz.own_stepN h.own hfr hS,h.new⟩
theorem Own.keep{T:TypeId}{z n:Nat}{w0 w w':World}{v:Value}{xs:List Value}(h:Own T z w0 w v n xs)(hfr:Fr (fun _=>False) w w'):Own T z w0 w' v n xs:=h.step hfr (fun _ _ h=>h)
theorem Own.lt{T:TypeId}{z n:Nat}{w0 w:World}{v:Value}{xs:List Value}(h:Own T z w0 w v n xs):∀k,v.ownBlock=some k→k<w.heap.size:=fun k hk=>(World.ownsRow.lt h.own k hk).2
theorem Own.block{T:TypeId}{z n:Nat}{w0 w:World}{v:Value}{xs:List Value}(h:Own T z w0 w v n xs){k:Nat}(hk:v.ownBlock=some k):∃cur,w.heap[k]? =some (.cells cur T (0,0)):=Lz.own_block h.own hk
theorem Own.off{T t:TypeId}{z n i:Nat}{w0 w:World}{v:Value}{xs:List Value}{cs:Array Value}{fr:Nat×Nat}(h:Own T z w0 w v n xs)(hi:w.heap[i]? =some (.cells cs t fr))(ht:t≠T):v.ownBlock≠some i:=by
 intro hk
 obtain⟨cur,hc⟩:=h.block hk
 rw[hi] at hc
 simp only[Option.some.injEq,Obj.cells.injEq] at hc
 exact ht hc.2.1
theorem Own.slice{T:TypeId}{z n:Nat}{w0 w:World}{v:Value}{xs:List Value}(h:Own T z w0 w v n xs):∃p cap,v=.slice p n cap:=by
 rcases h.own.2 with⟨hn,h0⟩|⟨g,cap,cur,hgv,_⟩
 ·exact⟨none,0,by rw[hn,h0]⟩
 ·exact⟨_,cap,hgv⟩
theorem Own.cell{T:TypeId}{z n cap i:Nat}{w0 w:World}{p:Option Addr}{xs:List Value}{u:Value}(h:Own T z w0 w (.slice p n cap) n xs)(hi:xs[i]? =some u):∃g,p=some ⟨g,0,none⟩∧w.cell? ⟨g,i,none⟩=some u:=by
 obtain⟨h1,h2⟩:=h.own
 rcases h2 with⟨hn,h0⟩|⟨g,cap',cur,hgv,_,hg,hle,hm,hcs,ht⟩
 ·subst h0
  rw[Nat.zero_mul] at h1
  rw[List.eq_nil_of_length_eq_zero h1] at hi
  simp at hi
 ·simp only[Value.slice.injEq] at hgv
  refine⟨g,hgv.1,cell_in hg ?_⟩
  have hlt:i<n*z:=by
   rw[←h1]
   exact(List.getElem?_eq_some_iff.1 hi).1
  rw[←ht,List.getElem?_take,if_pos hlt,Array.getElem?_toList] at hi
  exact hi
theorem infoChunk:(Tryz.prog.info? 47).map (fun i=>(i.zero,i.size,i.bytes))=some (some (.agg #[.int .i64 0,.int .i64 0,.int .i64 0,.int .i64 0,.int .i64 0,.int .i64 0]),6,48):=by kernel_rfl
theorem append_own{ops:Array Oper}{rest:List Oper}{o:Oper}{a:Act}{Q:Exit→Act→World→Prop}(hgd:o.guard=none)(s y:Operand){T t:TypeId}{z bytes n:Nat}{zero:Value}
 (ho:o.op=.call {callee:=.builtin .append,args:=#[s,y],argTypes:=#[t,t]})(hu:Tryz.prog.underlying t=some (.slice T))(hinfo:(Tryz.prog.info? T).map (fun i=>(i.zero,i.size,i.bytes))=some (some zero,z,bytes))(hzs:zero.cells.size=z)(hz0:0<z)(hby:bytes≤64)
 {w0 w:World}(v:Value)(xs:List Value)(cs:Array Value)(B:Nat)(hv:a.eval s=v)(hx:a.eval y=.slice (some ⟨B,0,none⟩) 1 1)(hm:Own T z w0 w v n xs)(hle:w0.heap.size≤w.heap.size)
 (hB:w.heap[B]? =some (.cells cs T (0,0)))(hcz:cs.size=z)(h1:∀u ∈ cs.toList,u.oneCell'=true)(hb:n≤1099511627776)
 (h:∀v' w',Own T z w0 w' v' (n+1) (xs++cs.toList)→Fr (fun k=>v.ownBlock=some k) w w'→(∀k,v'.ownBlock=some k→v.ownBlock=some k∨w.heap.size≤k)→wpList Tryz.prog ops Q rest (a.put o.dst v') w'):
 wpList Tryz.prog ops Q (o::rest) a w:=by
 obtain⟨i0,hi,hz0',hz1,hz2⟩:=info_parts hinfo
 refine wpList_append_any w hgd s y t t ho T i0 _ z bytes hu hi hz0' hz1 hz2 hzs hz0 v n xs hv hm.own _ 1 cs.toList hx (Src.ofSlice w hu ⟨B,0,none⟩ 1 1 cs.toList (by simp[hcz]) (fun j u hu'=> ?_) h1) (by simp only[maxLen];omega) ?_ ?_
 ·rw[add_mid,Nat.zero_add]
  exact cell_in hB (by simpa using hu')
 ·have:(n+1)*bytes≤(n+1)*64:=Nat.mul_le_mul_left _ hby
  omega
 intro v' w' hown hfr hnew _
 refine h v' w' ⟨hown,fun k hk=> ?_⟩ hfr hnew
 rcases hnew k hk with h|h
 ·exact hm.new k h
 ·omega
end Ga
set_option maxRecDepth 100000
namespace En
open Mem Rc
structure G where
 low:Nat
 rng:Nat
 held:Nat
 wait:Nat
 out:List UInt8
def G.new:G:=⟨0,4294967295,0,0,[]⟩
def carry(g:G):Nat:=g.low/4294967296
def G.fixed(g:G):List UInt8:=g.out++UInt8.ofNat (g.held+carry g)::List.replicate g.wait (UInt8.ofNat (255+carry g))
def G.shift(g:G):G:=
 if g.low<4278190080∨4294967295<g.low then⟨g.low%16777216*256,g.rng,g.low/16777216%256,0,g.fixed⟩
 else⟨g.low%16777216*256,g.rng,g.held,g.wait+1,g.out⟩
def G.widen(g:G):G:=if 16777216≤g.rng then g else G.shift ⟨g.low,g.rng*256,g.held,g.wait,g.out⟩
def G.bit(g:G)(p b:Nat):G:=(if b=0 then⟨g.low,cutAt g.rng p,g.held,g.wait,g.out⟩ else⟨g.low+cutAt g.rng p,g.rng-cutAt g.rng p,g.held,g.wait,g.out⟩:G).widen
def G.half(g:G)(b:Nat):G:=(⟨g.low+b*(g.rng/2),g.rng/2,g.held,g.wait,g.out⟩:G).widen
def G.shifts:Nat→G→G
 |0,g=>g
 |n+1,g=>G.shifts n g.shift
def G.bytes(g:G):List UInt8:=(g.shifts 5).out
def val(l:List UInt8):Nat:=l.foldl (fun v c=>v*256+c.toNat) 0
theorem val_snoc(l:List UInt8)(c:UInt8):val (l++[c])=val l*256+c.toNat:=by simp[val]
theorem val_rep(l:List UInt8)(c:UInt8):∀n,(val (l++List.replicate n c)+(if c=255 then 1 else 0))=(if c=255 then(val l+1)*256^n else if c=0 then val l*256^n else val (l++List.replicate n c))
 |0=>by
   by_cases h:c=255
   ·rw[if_pos h,if_pos h];simp
   ·rw[if_neg h,if_neg h]
    by_cases h0:c=0
    ·rw[if_pos h0];simp
    ·rw[if_neg h0];rfl
 |n+1=>by
   have ih:=val_rep l c n
   rw[List.replicate_succ',←List.append_assoc,val_snoc]
   by_cases h:c=255
   ·rw[if_pos h,if_pos h] at*
    subst h
    rw[Nat.pow_succ,←Nat.mul_assoc,←ih]
    simp only[show(255:UInt8).toNat=255 from rfl]
    omega
   ·rw[if_neg h,if_neg h] at*
    by_cases h0:c=0
    ·rw[if_pos h0] at ih ⊢
     subst h0
     rw[Nat.pow_succ,←Nat.mul_assoc,←ih]
     simp
    ·rw[if_neg h0];rfl
theorem digs_val:∀(n:Nat)(l:List UInt8),l.length=n→digs n (val l)=l
 |0,l,h=>by rw[List.length_eq_zero_iff.1 h];rfl
 |n+1,l,h=>by
   obtain rfl|⟨m,c,rfl⟩:=List.eq_nil_or_concat l
   ·simp at h
   rw[List.concat_eq_append] at*
   have hc:=UInt8.toNat_lt c
   rw[List.length_append,List.length_singleton] at h
   rw[val_snoc,digs,show(val m*256+c.toNat)/256=val m by omega,digs_val n m (by omega),show(val m*256+c.toNat)%256=c.toNat by omega]
   simp
structure Ab(g:G)(a s r:Nat):Prop where
 val:(val g.out*256+g.held+1)*256^g.wait*4294967296+g.low=a+4294967296
 s:g.out.length+g.wait=s
 held:g.held≤255
 low:g.low+r≤8589934592
 top:g.held=255→g.low+r≤4294967296
 pos:1≤r
theorem Ab.mono{g:G}{a s r q:Nat}(h:Ab g a s r)(hq:q≤r)(h1:1≤q):Ab g a s q:=
 ⟨h.val,h.s,h.held,by have:=h.low;omega,fun e=>by have:=h.top e;omega,h1⟩
theorem Ab.fixed{g:G}{a s r:Nat}(h:Ab g a s r)(hl:g.low<4278190080∨4294967295<g.low):(En.val g.fixed+(1-carry g))=(En.val g.out*256+g.held+1)*256^g.wait∧g.fixed.length=s+1∧carry g≤1:=by
 have h1:=h.low
 have h2:=h.top
 have h3:=h.held
 have h4:=h.pos
 have hc:carry g≤1:=by unfold carry;omega
 refine⟨?_,by unfold G.fixed;simp;have:=h.s;omega,hc⟩
 unfold G.fixed
 rw[show g.out++UInt8.ofNat (g.held+carry g)::List.replicate g.wait (UInt8.ofNat (255+carry g))=(g.out++[UInt8.ofNat (g.held+carry g)])++List.replicate g.wait (UInt8.ofNat (255+carry g)) by simp]
 have hv:=val_rep (g.out++[UInt8.ofNat (g.held+carry g)]) (UInt8.ofNat (255+carry g)) g.wait
 rw[val_snoc] at hv
 rcases(show carry g=0∨carry g=1 by omega) with hc0|hc0
 ·rw[hc0] at hv ⊢
  rw[if_pos (by decide),if_pos (by decide),UInt8.toNat_ofNat',show(g.held+0)%2^8=g.held by omega] at hv
  exact hv
 ·have hh:g.held≤254:=by
   by_cases e:g.held=255
   ·have:=h2 e
    unfold carry at hc0
    omega
   ·omega
  rw[hc0] at hv ⊢
  rw[if_neg (by decide),if_neg (by decide),if_pos (by decide),UInt8.toNat_ofNat',show(g.held+1)%2^8=g.held+1 by omega] at hv
  exact hv
theorem emit_val'(T P F q m low a c:Nat)(hP:P=256*T)(hlow:low=c*P+q*T+m)(hc:c≤1)(h5:(F+(1-c))*P+low=a+P):(F*256+q+1)*P+m*256=a*256+P:=by
 have e1:q*P=256*(q*T):=by rw[hP];exact Nat.mul_left_comm ..
 have e2:F*256*P=256*(F*P):=by rw[Nat.mul_comm F,Nat.mul_assoc]
 simp only[Nat.add_mul,Nat.one_mul] at h5 ⊢
 rcases(show c=0∨c=1 by omega) with rfl|rfl
 ·simp only[Nat.zero_mul,Nat.sub_zero,Nat.one_mul] at*
  omega
 ·simp only[Nat.sub_self,Nat.zero_mul,Nat.one_mul] at*
  omega
theorem wait_val'(T P F m low a:Nat)(hP:P=256*T)(hlow:low=255*T+m)(h5:F*P+low=a+P):F*256*P+m*256=a*256+P:=by
 have e2:F*256*P=256*(F*P):=by rw[Nat.mul_comm F,Nat.mul_assoc]
 omega
theorem emit_val(F low a c:Nat){r:Nat}(hc:c=low/4294967296)(h1:low+r≤8589934592)(h4:1≤r)(hl:low<4278190080∨4294967295<low)(h5:(F+(1-c))*4294967296+low=a+4294967296):
 (F*256+low/16777216%256+1)*4294967296+low%16777216*256=a*256+4294967296:=
 emit_val' 16777216 4294967296 F (low/16777216%256) (low%16777216) low a c rfl (by clear h5;omega) (by clear h5;omega) h5
theorem wait_val(F low a:Nat)(hl:4278190080≤low∧low≤4294967295)(h5:F*4294967296+low=a+4294967296):F*256*4294967296+low%16777216*256=a*256+4294967296:=
 wait_val' 16777216 4294967296 F (low%16777216) low a rfl (by clear h5;omega) h5
theorem Ab.shift{g:G}{a s r:Nat}(h:Ab g a s r)(hr:r≤16777216):Ab g.shift (a*256) (s+1) (r*256):=by
 have h1:=h.low
 have h2:=h.top
 have h3:=h.held
 have h4:=h.pos
 have h5:=h.val
 have h6:=h.s
 have hm:g.low%16777216<16777216:=Nat.mod_lt _ (by decide)
 unfold G.shift
 by_cases hl:g.low<4278190080∨4294967295<g.low
 ·rw[if_pos hl]
  obtain⟨f1,f2,f3⟩:=h.fixed hl
  refine⟨?_,by simp only;omega,by simp only;omega,by simp only;omega,?_,by omega⟩
  ·simp only[Nat.pow_zero,Nat.mul_one]
   rw[←f1] at h5
   exact emit_val (En.val g.fixed) g.low a (carry g) rfl h1 h4 hl h5
  ·simp only
   intro e
   rcases hl with hl|hl
   ·omega
   ·omega
 ·rw[if_neg hl]
  have hl2:4278190080≤g.low∧g.low≤4294967295:=by omega
  refine⟨?_,by simp only;omega,h3,by simp only;omega,fun e=>by simp only at e ⊢;have:=h2 e;omega,by omega⟩
  simp only[Nat.pow_succ]
  rw[←Nat.mul_assoc]
  exact wait_val _ _ _ hl2 h5
structure Is(g:G)(k:K):Prop where
 ab:Ab g k.a k.s k.r
 rng:g.rng=k.r
 ok:k.Ok
theorem is_new:Is G.new K.new:=⟨⟨by decide,rfl,by decide,by decide,by decide,by decide⟩,rfl,⟨by decide,by decide,by decide⟩⟩
theorem G.widen_is{g:G}{k:K}(h:Ab g k.a k.s k.r)(hr:g.rng=k.r)(hk:k.widen.Ok):Is g.widen k.widen:=by
 refine⟨?_,?_,hk⟩
 ·unfold G.widen K.widen
  rw[hr]
  split
  ·exact h
  ·have h1:Ab ⟨g.low,k.r*256,g.held,g.wait,g.out⟩ k.a k.s k.r:=⟨h.val,h.s,h.held,h.low,h.top,h.pos⟩
   exact h1.shift (by omega)
 ·unfold G.widen K.widen
  rw[hr]
  split
  ·exact hr
  ·unfold G.shift
   split<;>rfl
theorem Is.bit{g:G}{k:K}(h:Is g k){p:Nat}(b:Nat)(hp:31≤p)(hp2:p≤2017):Is (g.bit p b) (k.bit p b):=by
 have hc:=cut_bd h.ok.lo hp hp2
 have hok:=K.bit_ok h.ok b hp hp2
 have hr:=h.rng
 obtain⟨a1,a2,a3,a4,a5,a6⟩:=h.ab
 unfold G.bit K.bit K.cut at*
 rw[hr]
 by_cases hb:b=0
 ·rw[if_pos hb] at hok ⊢
  rw[if_pos hb]
  exact G.widen_is ⟨a1,a2,a3,by simp only;omega,fun e=>by have:=a5 e;simp only;omega,by simp only;omega⟩ rfl hok
 ·rw[if_neg hb] at hok ⊢
  rw[if_neg hb]
  exact G.widen_is ⟨by simp only;omega,a2,a3,by simp only;omega,fun e=>by have:=a5 e;simp only;omega,by simp only;omega⟩ rfl hok
theorem Is.half{g:G}{k:K}(h:Is g k){b:Nat}(hb:b≤1):Is (g.half b) (k.half b):=by
 have hok:=K.half_ok h.ok hb
 have hlo:=h.ok.lo
 have hr:=h.rng
 obtain⟨a1,a2,a3,a4,a5,a6⟩:=h.ab
 unfold G.half K.half K.half0 at*
 rw[hr]
 rcases(show b=0∨b=1 by omega) with rfl|rfl
 ·exact G.widen_is ⟨by simp only;omega,a2,a3,by simp only;omega,fun e=>by have:=a5 e;simp only;omega,by simp only;omega⟩ rfl hok
 ·exact G.widen_is ⟨by simp only;omega,a2,a3,by simp only;omega,fun e=>by have:=a5 e;simp only;omega,by simp only;omega⟩ rfl hok
theorem Is.bytes{g:G}{k:K}(h:Is g k):g.bytes=k.bytes:=by
 have a0:=h.ab.mono (q:=1) (by have:=h.ok.lo;omega) (Nat.le_refl _)
 have a1:=a0.shift (by decide)
 have a2:=a1.shift (by decide)
 have a3:=a2.shift (by decide)
 have a4:=a3.shift (by decide)
 have l1:∀g:G,g.shift.low=g.low%16777216*256:=fun g=>by unfold G.shift;split<;>rfl
 have l4:g.shift.shift.shift.shift.low=0:=by
  rw[l1,l1,l1,l1]
  omega
 have a5:=a4.mono (q:=1) (by decide) (Nat.le_refl _)
 have a6:=a5.shift (by decide)
 unfold G.bytes K.bytes
 show g.shift.shift.shift.shift.shift.out=_
 have e5:g.shift.shift.shift.shift.shift=⟨0,g.shift.shift.shift.shift.rng,0,0,g.shift.shift.shift.shift.fixed⟩:=by
  rw[G.shift,if_pos (by omega),l4]
 rw[e5] at a6 ⊢
 have v:=a6.val
 have s:=a6.s
 simp only[Nat.pow_zero,Nat.mul_one,Nat.add_zero] at v s
 simp only
 have hv:=digs_val _ _ s
 rw[show En.val g.shift.shift.shift.shift.fixed=k.a by omega] at hv
 exact hv.symm
end En
namespace En
open Mem Rc Win Lz
theorem step_own{ops:Array Oper}{o:Oper}{a:Act}{K:Act→World→Prop}{Q:Exit→Act→World→Prop}{E:Prop}(hgd:o.guard=none)(s y:Operand)
 (ho:o.op=.call {callee:=.builtin .append,args:=#[s,y],argTypes:=#[22,22]}){w:World}(v x:Value)(xs ys:List UInt8)(hv:a.eval s=v)(hx:a.eval y=x)(hown:w.ownsRow 0 5 1 v xs.length (bvs xs))(hrd:Rd w x ys)
 (hb:xs.length+ys.length≤70368744177664)
 (h:∀v' w',w'.ownsRow 0 5 1 v' (xs++ys).length (bvs (xs++ys))→Fr (fun k=>v.ownBlock=some k) w w'→(∀k,v'.ownBlock=some k→v.ownBlock=some k∨w.heap.size≤k)→K (a.put o.dst v') w'):
 if Region.wanted o (yielded ops a.tmps)=true then Oper.wp Tryz.prog o a w K Q else E:=by
 obtain⟨i0,hi,hz0,hz1,hz2⟩:=info_parts infoU8
 refine step_append_any w hgd s y 22 22 ho 5 i0 (.int .u8 0) 1 1 Tryz.underlying22 hi hz0 hz1 hz2 rfl (by decide) v xs.length (bvs xs) hv hown x ys.length (bvs ys) hx (src_rd Tryz.underlying22 hrd) (by simp only[maxLen];omega) (by omega) ?_
 intro v' w' hown hfr hnew _
 exact h v' w' (by rw[List.length_append];simpa [bvs] using hown) hfr hnew
theorem append_own{ops:Array Oper}{rest:List Oper}{o:Oper}{a:Act}{Q:Exit→Act→World→Prop}(hgd:o.guard=none)(s y:Operand)
 (ho:o.op=.call {callee:=.builtin .append,args:=#[s,y],argTypes:=#[22,22]}){w:World}(v x:Value)(xs ys:List UInt8)(hv:a.eval s=v)(hx:a.eval y=x)(hown:w.ownsRow 0 5 1 v xs.length (bvs xs))(hrd:Rd w x ys)
 (hb:xs.length+ys.length≤70368744177664)
 (h:∀p n cap w',w'.ownsRow 0 5 1 (.slice p n cap) (xs++ys).length (bvs (xs++ys))→Fr (fun k=>v.ownBlock=some k) w w'→(∀k,(Value.slice p n cap).ownBlock=some k→v.ownBlock=some k∨w.heap.size≤k)→wpList Tryz.prog ops Q rest (a.put o.dst (.slice p n cap)) w'):
 wpList Tryz.prog ops Q (o::rest) a w:=by
 obtain⟨i0,hi,hz0,hz1,hz2⟩:=info_parts infoU8
 refine wpList_append_any w hgd s y 22 22 ho 5 i0 (.int .u8 0) 1 1 Tryz.underlying22 hi hz0 hz1 hz2 rfl (by decide) v xs.length (bvs xs) hv hown x ys.length (bvs ys) hx (src_rd Tryz.underlying22 hrd) (by simp only[maxLen];omega) (by omega) ?_
 intro v' w' hown hfr hnew _
 obtain⟨p,cap,rfl⟩:=own_slice hown
 exact h _ _ _ w' (by rw[List.length_append];simpa [bvs] using hown) hfr hnew
theorem off_box{w:World}{T T':TypeId}{v:Value}{z n:Nat}{xs:List Value}(h:w.ownsRow 0 T z v n xs){R:Nat}{cs:Array Value}{fr:Nat×Nat}(hR:w.heap[R]? =some (.cells cs T' fr))(hT:T'≠T):∀k,v.ownBlock=some k→k≠R:=by
 rintro k hk rfl
 obtain⟨cur,hc⟩:=own_block h hk
 rw[hR] at hc
 simp only[Option.some.injEq,Obj.cells.injEq] at hc
 exact hT hc.2.1
def boxV(low rng held wait:Nat)(v:Value):Array Value:=#[.int .u64 low,.int .u32 rng,.int .u8 held,.int .i64 wait,v]
structure EAt(w:World)(B:Nat)(v:Value)(g:G):Prop where
 box:w.heap[B]? =some (.cells (boxV g.low g.rng g.held g.wait v) 219 (0,0))
 own:w.ownsRow 0 5 1 v g.out.length (bvs g.out)
theorem EAt.off{w:World}{B:Nat}{v:Value}{g:G}(h:EAt w B v g):∀k,v.ownBlock=some k→k≠B:=fun k hk=>off_box h.own h.box (by decide) k hk
def EF(B:Nat)(v:Value)(k:Nat):Prop:=k=B∨v.ownBlock=some k
def EPost(B:Nat)(v:Value)(w:World)(g:G)(w':World):Prop:=Fr (EF B v) w w'∧∃v',EAt w' B v' g∧∀k,v'.ownBlock=some k→v.ownBlock=some k∨w.heap.size≤k
theorem EAt.keep{S:Nat→Prop}{w w':World}{B:Nat}{v:Value}{g:G}(h:EAt w B v g)(hfr:Fr S w w')(hB:¬S B)(hv:∀k,v.ownBlock=some k→¬S k):EAt w' B v g:=
 ⟨hfr.keep h.box hB,own_step h.own hfr hv⟩
theorem EPost.trans{B:Nat}{v v1:Value}{w w1 w2:World}{g2:G}(h1:Fr (EF B v) w w1)(hn:∀k,v1.ownBlock=some k→v.ownBlock=some k∨w.heap.size≤k)(h2:EPost B v1 w1 g2 w2):EPost B v w g2 w2:=by
 obtain⟨f,v2,a,n⟩:=h2
 refine⟨h1.trans' f (fun k hk e=> ?_),v2,a,fun k hk=> ?_⟩
 ·rcases e with e|e
  ·exact .inl e
  ·rcases hn k e with e|e
   ·exact .inr e
   ·omega
 ·rcases n k hk with e|e
  ·exact hn k e
  ·exact .inr (Nat.le_trans h1.size e)
theorem EAt.app{w W w2:World}{B:Nat}{v v2:Value}{g:G}{ys:List UInt8}(h:EAt w B v g)(hW:Fr (fun _=>False) w W)(hown:w2.ownsRow 0 5 1 v2 (g.out++ys).length (bvs (g.out++ys)))(hfr:Fr (fun k=>v.ownBlock=some k) W w2)
 (hnew:∀k,v2.ownBlock=some k→v.ownBlock=some k∨W.heap.size≤k):Fr (EF B v) w (w2.setCell ⟨B,4,none⟩ v2)∧EAt (w2.setCell ⟨B,4,none⟩ v2) B v2 {g with out:=g.out++ys}∧∀k,v2.ownBlock=some k→v.ownBlock=some k∨w.heap.size≤k:=by
 have hn:∀k,v2.ownBlock=some k→v.ownBlock=some k∨w.heap.size≤k:=fun k hk=>(hnew k hk).imp id (fun e=>Nat.le_trans hW.size e)
 have hb2:=hfr.keep (hW.keep h.box (fun h=>h)) (fun e=>h.off B e rfl)
 have f2:=Fr.one w2 B 4 v2
 refine⟨((hW.mono (fun _ _ h=>h.elim)).trans (hfr.mono (fun k _ e=>.inr e))).trans (f2.mono (fun k _ e=>.inl e)),⟨?_,own_step hown f2 (fun k hk e=> ?_)⟩,hn⟩
 ·rw[set_in hb2 4]
  rfl
 ·have e:k=B:=e
  subst e
  rcases hn k hk with e|e
  ·exact h.off k e rfl
  ·have:=lt_of_block h.box
   omega
theorem toU8(x:Nat):((x%256:Nat):Int)=((UInt8.ofNat x).toNat:Int):=by rw[UInt8.toNat_ofNat']
theorem wrapU8(x:Nat):IntKind.u8.wrap (x:Int)=((UInt8.ofNat x).toNat:Int):=by rw[IntKind.wrap_u8,←toU8];omega
theorem and24(a:Nat):bits BinOp.and IntKind.u64 (a:Int) 16777215=((a%16777216:Nat):Int):=by
 have hx:a%16777216<16777216:=Nat.mod_lt _ (by decide)
 have h2:(BitVec.ofInt 64 (16777215:Int)).toNat=2^24-1:=by decide
 have h1:(BitVec.ofInt 64 (a:Int)).toNat=a%2^64:=by rw[BitVec.ofInt_natCast,BitVec.toNat_ofNat]
 show IntKind.u64.wrap ((BitVec.ofInt 64 (a:Int)&&&BitVec.ofInt 64 (16777215:Int)).toNat:Int)=_
 rw[BitVec.toNat_and,h1,h2,Nat.and_two_pow_sub_one_eq_mod,Nat.mod_mod_of_dvd _ (by decide)]
 exact IntWalk.u64_in _ (by omega)
theorem EAt.set{w:World}{B:Nat}{v:Value}{g g':G}(h:EAt w B v g)(i:Nat)(x:Value)(hx:(boxV g.low g.rng g.held g.wait v).setIfInBounds i x=boxV g'.low g'.rng g'.held g'.wait v)(ho:g'.out=g.out):EAt (w.setCell ⟨B,i,none⟩ x) B v g'∧Fr (EF B v) w (w.setCell ⟨B,i,none⟩ x):=
 ⟨⟨by rw[set_in h.box i,hx],by rw[ho];exact own_step h.own (Fr.one w B i x) (fun k hk e=>h.off k hk e)⟩,(Fr.one w B i x).mono (fun _ _ e=>.inl e)⟩
theorem rep_snoc(l:List UInt8)(x y:UInt8)(n f:Nat)(h:f+1≤n):l++x::List.replicate (n-f) y=(l++x::List.replicate (n-(f+1)) y)++[y]:=by
 rw[show n-f=(n-(f+1))+1 by omega,List.replicate_succ']
 simp
theorem emit_eq(g:G)(c L q m:Nat)(x1 x2:UInt8)(hc:c=carry g)(h1:x1=UInt8.ofNat (g.held+c))(h2:x2=UInt8.ofNat (255+c))(hL:L=g.low)(hq:q=L/16777216%256)(hm:m=L%16777216)(hs:g.low<4278190080∨4294967295<g.low):
 g.shift=⟨m*256,g.rng,q,0,g.out++x1::List.replicate (g.wait-0) x2⟩:=by
 unfold G.shift G.fixed
 rw[if_pos hs,←hc,←h1,←h2,hq,hm,hL]
 rfl
theorem shift_rel{w w1 w2 w3:World}{B:Nat}{v v1 v2:Value}{g:G}(h1:Fr (EF B v) w w1)(n1:∀k,v1.ownBlock=some k→v.ownBlock=some k∨w.heap.size≤k)(h2:Fr (EF B v1) w1 w2)(n2:∀k,v2.ownBlock=some k→v1.ownBlock=some k∨w1.heap.size≤k)(h3:EAt w3 B v2 g∧Fr (EF B v2) w2 w3):
 Fr (EF B v) w w3∧EAt w3 B v2 g∧∀k,v2.ownBlock=some k→v.ownBlock=some k∨w.heap.size≤k:=by
 have hn:∀k,v2.ownBlock=some k→v.ownBlock=some k∨w.heap.size≤k:=fun k hk=>by
  rcases n2 k hk with e|e
  ·exact n1 k e
  ·exact .inr (Nat.le_trans h1.size e)
 have f2:Fr (EF B v) w w2:=h1.trans' h2 (fun k hk e=>by
  rcases e with e|e
  ·exact .inl e
  ·exact(n1 k e).elim .inr (fun e=>by omega))
 exact⟨f2.trans' h3.2 (fun k hk e=>by
  rcases e with e|e
  ·exact .inl e
  ·exact(hn k e).elim .inr (fun e=>by omega)),h3.1,hn⟩
set_option maxRecDepth 20000 in
theorem shift_emit{w:World}{B:Nat}{v:Value}{g:G}(h:EAt w B v g)(h2:g.held≤255)(h3:g.out.length+g.wait≤1099511627776)(c:Nat)(hc:c=carry g)(hc1:c≤1)(hl:g.low<4278190080∨4294967295<g.low):
    Calls Tryz.prog 198 #[ptr B] w fun e w'=>e=.returned (.tuple #[])∧EPost B v w g.shift w':=by
  have c0:w.cell? ⟨B,0,none⟩=some (.int .u64 g.low):=cell_in h.box rfl
  have c2:w.cell? ⟨B,2,none⟩=some (.int .u8 g.held):=cell_in h.box rfl
  have c3:w.cell? ⟨B,3,none⟩=some (.int .i64 g.wait):=cell_in h.box rfl
  have c4:w.cell? ⟨B,4,none⟩=some v:=cell_in h.box rfl
  have cf:=fun i=>frozen_in h.box i
  have hq:(g.low:Int)/4294967296=(c:Int):=by rw[hc];unfold carry;omega
  obtain⟨t1,h4⟩:∃t,t=decide ((g.low:Int)<4278190080):=⟨_,rfl⟩
  obtain⟨t2,h5⟩:∃t,t=decide ((4294967295:Int)<g.low):=⟨_,rfl⟩
  have h6:t1=true∨t1=false∧t2=true:=by
    rcases hl with h|h
    · exact .inl (h4.trans (decide_eq_true (by omega)))
    · exact .inr ⟨h4.trans (decide_eq_false (by omega)),h5.trans (decide_eq_true (by omega))⟩
  have HH:=Hd h
  have H2:=Hd h2
  have H3:=Hd h3
  have HC:=Hd hc
  have HS:=Hd hl
  clear h h2 h3 hl hc
  have h7:=h4.symm
  have h8:=h5.symm
  clear h4 h5
  obtain⟨L,hL0⟩:∃L,L=g.low:=⟨_,rfl⟩
  rw[←hL0] at c0 hq h7 h8
  have HL0:=Hd hL0
  clear hL0
  obtain⟨x1,hx1⟩:∃x,x=UInt8.ofNat (g.held+c):=⟨_,rfl⟩
  obtain⟨x2,hx2⟩:∃x,x=UInt8.ofNat (255+c):=⟨_,rfl⟩
  have hw1:IntKind.u8.wrap ((g.held:Int)+c)=(x1.toNat:Int):=by rw[hx1,←wrapU8];rfl
  have hw2:IntKind.u8.wrap (255+(c:Int))=(x2.toNat:Int):=by rw[hx2,←wrapU8];rfl
  have HQ6:=Hd (show IntKind.u8.wrap ((L:Int)/16777216)=((L/16777216%256:Nat):Int) by rw[IntKind.wrap_u8];omega)
  have HQ8:=Hd (and24 L)
  have hm8:L%16777216≤16777215:=by omega
  have HM8:=Hd hm8
  clear hm8
  have HX1:=Hd hx1
  have HX2:=Hd hx2
  have HW1:=Hd hw1
  have HW2:=Hd hw2
  clear hx1 hx2 hw2
  have c4':=alloc_keep c4 (.cells #[.int .u8 x1.toNat] 5)
  have HW:=Hd ((Fr.refl (fun _=>False) w).drew.alloc (.cells #[.int .u8 x1.toNat] 5))
  have HRD:=Hd (rd_one w.drew w.heap.size rfl x1 _ rfl)
  have HOW:=Hd (own_step HH.out.own HW.out (fun _ _ h=>h))
  have HL:=Hd (show∃v1,Fr (EF B v) w w∧EAt w B v1 g∧∀k,v1.ownBlock=some k→v.ownBlock=some k∨w.heap.size≤k from⟨v,Fr.refl _ _,HH.out,fun k hk=>.inl hk⟩)
  rcases h6 with rfl|⟨rfl,rfl⟩
  all_goals
    go_enter Tryz.func198,Tryz.ntmps198
    go_upto_region 2 with fail
    go_cut [] (fun wx=>∃p n cap,Fr (EF B v) w wx∧EAt wx B (.slice p n cap) {g with out:=g.out++[x1]}∧∀k,(Value.slice p n cap).ownBlock=some k→v.ownBlock=some k∨w.heap.size≤k)
    case first=>
      go_region_law (refine step_own rfl _ _ rfl v (.slice (some ⟨w.heap.size,0,none⟩) 1 1) g.out [x1] (by simp[Act.eval,Act.put]) (by simp[Act.eval,Act.put]) HOW.out HRD.out (by have:=H3.out;simp only[List.length_singleton];omega) ?_
                     intro v2 w2 hown2 hfr2 hnew2
                     obtain⟨p2,cap2,hv2⟩:=own_slice hown2
                     generalize(g.out++[x1]).length=n2 at hv2
                     subst hv2
                     obtain⟨f3,a3,n3⟩:=HH.out.app HW.out hown2 hfr2 hnew2
                     have HF3:=Hd f3
                     have HA3:=Hd a3
                     have HN3:=Hd n3
                     have hb2:=hfr2.keep (HW.out.keep HH.out.box (fun h=>h)) (fun e=>HH.out.off B e rfl)
                     have z4:=cell_in (i:=4) hb2 rfl
                     have zf:=frozen_in hb2 4
                     clear f3 a3 n3 hown2 hfr2 hnew2 hb2)
      all_goals
        go_wp2_with fail
        go_meet
        exact⟨_,_,_,HF3.out,HA3.out,HN3.out⟩
    case rest=>
      obtain⟨p1,n1,cap1,hf1,ha1,hn1⟩:=hcut
      have HF1:=Hd hf1
      have HA1:=Hd ha1
      have HN1:=Hd hn1
      clear hf1 ha1 hn1 c0 c2 c3 c4 c4' cf hq h7 h8
      go_wp2_with fail
      go_loopg [] g.wait (fun f wr=>f≤g.wait∧∃p n cap,Fr (EF B v) w wr∧EAt wr B (.slice p n cap) ⟨g.low,g.rng,g.held,f,g.out++x1::List.replicate (g.wait-f) x2⟩∧∀k,(Value.slice p n cap).ownBlock=some k→v.ownBlock=some k∨w.heap.size≤k)
      case atStart=>exact⟨Nat.le_refl _,p1,n1,cap1,HF1.out,by rw[Nat.sub_self];exact HA1.out,HN1.out⟩
      case round=>
        obtain⟨hle,p4,n4,cap4,hf4,ha4,hn4⟩:=hrel
        have d0:wr.cell? ⟨B,0,none⟩=some (.int .u64 L):=HL0.out ▸ cell_in ha4.box rfl
        have d2:wr.cell? ⟨B,2,none⟩=some (.int .u8 g.held):=cell_in ha4.box rfl
        have d3:wr.cell? ⟨B,3,none⟩=some (.int .i64 gk):=cell_in ha4.box rfl
        have d4:wr.cell? ⟨B,4,none⟩=some (.slice p4 n4 cap4):=cell_in ha4.box rfl
        have df:=fun i=>frozen_in ha4.box i
        have HF4:=Hd hf4
        have HA4:=Hd ha4
        have HN4:=Hd hn4
        have HLE:=Hd hle
        clear hf4 ha4 hn4 hle
        by_cases h0:gk=0
        · subst h0
          have hq6:=HQ6.out
          have hq8:=HQ8.out
          have hm8:=HM8.out
          obtain⟨q6,hqq⟩:∃q,q=L/16777216%256:=⟨_,rfl⟩
          obtain⟨m8,hmm⟩:∃q,q=L%16777216:=⟨_,rfl⟩
          rw[←hqq] at hq6
          rw[←hmm] at hq8 hm8
          have HQQ:=Hd hqq
          have HMM:=Hd hmm
          clear hqq hmm
          go_wp2_with fail
          go_end0
          refine⟨rfl,?_⟩
          have s1:=EAt.set (g':=⟨g.low,g.rng,q6,0,g.out++x1::List.replicate (g.wait-0) x2⟩) HA4.out 2 (.int .u8 q6) rfl rfl
          have s2:=EAt.set (g':=⟨m8*256,g.rng,q6,0,g.out++x1::List.replicate (g.wait-0) x2⟩) s1.1 0 (.int .u64 ((m8:Int)*256)) (by simp[boxV]) rfl
          have e:=emit_eq g c L q6 m8 x1 x2 HC.out HX1.out HX2.out HL0.out HQQ.out HMM.out HS.out
          rw[e]
          exact EPost.trans HF4.out HN4.out ⟨s1.2.trans s2.2,_,s2.1,fun k hk=>.inl hk⟩
        · obtain⟨f,rfl⟩:∃f,gk=f+1:=⟨gk-1,by omega⟩
          have hfb:f≤1099511627776:=by have:=HLE.out;have:=H3.out;omega
          have hw2:=HW2.out
          have d4':=alloc_keep d4 (.cells #[.int .u8 x2.toNat] 5)
          have HWr:=Hd ((Fr.refl (fun _=>False) wr).alloc (.cells #[.int .u8 x2.toNat] 5))
          have HRDr:=Hd (rd_one wr wr.heap.size rfl x2 _ rfl)
          have HOWr:=Hd (own_step HA4.out.own HWr.out (fun _ _ h=>h))
          go_wp2_with (at_builtin;refine append_own rfl _ _ rfl (.slice p4 n4 cap4) (.slice (some ⟨wr.heap.size,0,none⟩) 1 1) (g.out++x1::List.replicate (g.wait-(f+1)) x2) [x2] rfl rfl HOWr.out HRDr.out (by have:=H3.out;simp;omega) ?_;intro p2 n2 cap2 w2 hown2 hfr2 hnew2;obtain ⟨f3,a3,n3⟩:=HA4.out.app HWr.out hown2 hfr2 hnew2;have HF3:=Hd f3;have HA3:=Hd a3;have HN3:=Hd n3;have hb2:=hfr2.keep (HWr.out.keep HA4.out.box (fun h=>h)) (fun e=>HA4.out.off B e rfl);have z4:=cell_in (i:=4) hb2 rfl;have z3:w2.cell? ⟨B,3,none⟩=some (.int .i64 ((f+1:Nat):Int)):=cell_in hb2 rfl;have zf:=fun i=>frozen_in hb2 i;clear f3 a3 n3 hown2 hfr2 hnew2 hb2)
          go_roundg f
          case rel=>
            have s1:=EAt.set (g':=⟨g.low,g.rng,g.held,f,g.out++x1::List.replicate (g.wait-f) x2⟩) HA3.out 3 (.int .i64 f) rfl (rep_snoc g.out x1 x2 g.wait f HLE.out)
            exact⟨by have:=HLE.out;omega,p2,n2,cap2,shift_rel HF4.out HN4.out HF3.out HN3.out s1⟩
          case measure=>omega
set_option maxRecDepth 20000 in
theorem shift_wait{w:World}{B:Nat}{v:Value}{g:G}(h:EAt w B v g)(h3:g.out.length+g.wait≤1099511627776)(hl:¬(g.low<4278190080∨4294967295<g.low)):
 Calls Tryz.prog 198 #[ptr B] w fun e w'=>e=.returned (.tuple #[])∧EPost B v w g.shift w':=by
 have c0:w.cell? ⟨B,0,none⟩=some (.int .u64 g.low):=cell_in h.box rfl
 have c3:w.cell? ⟨B,3,none⟩=some (.int .i64 g.wait):=cell_in h.box rfl
 have cf:=fun i=>frozen_in h.box i
 have hd1:decide ((g.low:Int)<4278190080)=false:=decide_eq_false (by omega)
 have hd2:decide ((4294967295:Int)<g.low)=false:=decide_eq_false (by omega)
 have e:g.shift=⟨g.low%16777216*256,g.rng,g.held,g.wait+1,g.out⟩:=by unfold G.shift;rw[if_neg hl]
 have hq8:=and24 g.low
 have hm8:g.low%16777216≤16777215:=by omega
 have hwb:g.wait≤1099511627776:=by omega
 have HH:=Hd h
 have HE:=Hd e
 clear h h3 hl e
 obtain⟨m8,hmm⟩:∃q,q=g.low%16777216:=⟨_,rfl⟩
 rw[←hmm] at hq8 hm8
 have HMM:=Hd hmm
 clear hmm
 generalize hL:g.low=L at c0 hd1 hd2 hq8
 clear hL
 go_enter Tryz.func198,Tryz.ntmps198
 go_wp2_with fail
 go_end0
 have s1:=EAt.set (g':=⟨g.low,g.rng,g.held,g.wait+1,g.out⟩) HH.out 3 (.int .i64 ((g.wait:Int)+1)) (by simp[boxV]) rfl
 have s2:=EAt.set (g':=⟨m8*256,g.rng,g.held,g.wait+1,g.out⟩) s1.1 0 (.int .u64 ((m8:Int)*256)) (by simp[boxV]) rfl
 rw[HE.out,←HMM.out]
 exact⟨rfl,s1.2.trans s2.2,_,s2.1,fun k hk=>.inl hk⟩
theorem shift_calls{w:World}{B:Nat}{v:Value}{g:G}(h:EAt w B v g)(h1:g.low<8589934592)(h2:g.held≤255)(h3:g.out.length+g.wait≤1099511627776):
 Calls Tryz.prog 198 #[ptr B] w fun e w'=>e=.returned (.tuple #[])∧EPost B v w g.shift w':=by
 by_cases hl:g.low<4278190080∨4294967295<g.low
 ·exact shift_emit h h2 h3 (carry g) rfl (by unfold carry;omega) hl
 ·exact shift_wait h h3 hl
end En
end Go.Proofs.YtffoddpjfgjelaaGreatDoor
