/- Part 12 of 54: lemmas of the last part, each under the conditions that it names. -/
import Derived.Test.YtlgccpjccopdmaaGreatDoorP08
import Derived.Test.YtlgccpjccopdmaaGreatDoorP11
set_option linter.unusedVariables false
set_option linter.unusedSimpArgs false
set_option maxRecDepth 1500
set_option maxHeartbeats 1000000
namespace Go.Proofs.YtlgccpjccopdmaaGreatDoor
open Go.RowKit
namespace En
open Mem Rc St Lz
def matOps(u a b:Nat):Nat→Nat→Bool→List Op
 |0,_,_=>[]
 |k+1,m,same=>.bit 6 (a+m+if same then 256*(1+u/2^k%2) else 0) (b/2^k%2)::matOps u a b k (2*m+b/2^k%2) (same&&decide (b/2^k%2=u/2^k%2))
def litOps(c:C)(b:Nat):List Op:=if c.s.num<7 then treeOps false 6 c.context 8 b 8 1 else matOps (c.lastB c.s.r0) c.context b 8 1 true
def lenOps(c:C)(q n:Nat):List Op:=
 if n<10 then[.bit q 0 0]++treeOps false (q+1) (8*c.place) 3 (n-2) 3 1
 else if n<18 then[.bit q 0 1]++([.bit q 1 0]++treeOps false (q+2) (8*c.place) 3 (n-10) 3 1)
 else[.bit q 0 1]++([.bit q 1 1]++treeOps false (q+3) 0 8 (n-18) 8 1)
def restOps(slot r:Nat):List Op:=
 if(range slot).2=0 then[] else if slot<14 then treeOps true 16 (restAt slot) (range slot).2 r (range slot).2 1
 else halves (r/16) ((range slot).2-4)++treeOps true 17 0 4 (r%16) 4 1
def distOps(n slot d:Nat):List Op:=treeOps false 15 (slotAt n) 6 slot 6 1++restOps slot (d-(range slot).1)
def repOps(c:C)(i n:Nat):List Op:=
 [.bit 0 c.at 1]++([.bit 2 c.s.num 1]++(if i=0 then[.bit 3 c.s.num 0]++([.bit 1 c.at 1]++lenOps c 11 n)
  else if i=1 then[.bit 3 c.s.num 1]++([.bit 4 c.s.num 0]++lenOps c 11 n) else[.bit 3 c.s.num 1]++([.bit 4 c.s.num 1]++([.bit 5 c.s.num (i-2)]++lenOps c 11 n))))
def slotOf(d:Nat):Nat:=if d≤4 then d-1 else 2*Nat.log2 (d-1)+(d-1)/2^(Nat.log2 (d-1)-1)%2
def symOps(c:C)(y:Sy):List Op:=
 if y.kind=1 then[.bit 0 c.at 0]++litOps c y.byte
 else if y.kind=2 then[.bit 0 c.at 1]++([.bit 2 c.s.num 0]++(lenOps c 7 y.len++distOps y.len (slotOf y.dist) y.dist))
 else if y.kind=3 then repOps c y.dist y.len
 else[.bit 0 c.at 1]++([.bit 2 c.s.num 1]++([.bit 3 c.s.num 0]++[.bit 1 c.at 0]))
def norm(y:Sy):Sy:=if y.kind=1 then⟨1,y.byte,0,0⟩ else if y.kind=2 then⟨2,0,y.len,y.dist⟩ else if y.kind=3 then⟨3,0,y.len,y.dist⟩ else⟨4,0,0,0⟩
theorem place_lt(c:C)(h:c.Ok):c.place<16:=by
 unfold C.place
 have h1:c.all.length%2^c.pb<2^c.pb:=Nat.mod_lt _ (Nat.two_pow_pos _)
 have h2:2^c.pb≤2^4:=Nat.pow_le_pow_right (by omega) h.pb
 omega
theorem at_lt(c:C)(h:c.Ok):c.at<192:=by
 have h1:=place_lt c h
 have h2:=h.s.num
 unfold C.at
 omega
theorem last_lt(c:C)(d:Nat):c.lastB d<256:=by
 unfold C.lastB Win.last
 split
 ·exact UInt8.toNat_lt _
 ·simp
theorem context_le(c:C):c.context+768≤768*2^(c.lc+c.lp)∨8<c.lc:=by
 by_cases h8:8<c.lc
 ·exact .inr h8
 refine .inl ?_
 unfold C.context
 have h1:c.all.length%2^c.lp<2^c.lp:=Nat.mod_lt _ (Nat.two_pow_pos _)
 have h3:c.lastB 1/2^(8-c.lc)<2^c.lc:=by
  rw[Nat.div_lt_iff_lt_mul (Nat.two_pow_pos _),←Nat.pow_add,show c.lc+(8-c.lc)=8 by omega]
  exact last_lt c 1
 have h4:c.all.length%2^c.lp*2^c.lc+2^c.lc≤2^(c.lc+c.lp):=by
  rw[Nat.pow_add,Nat.mul_comm (2^c.lc)]
  have:(c.all.length%2^c.lp+1)*2^c.lc≤2^c.lp*2^c.lc:=Nat.mul_le_mul_right _ h1
  rw[Nat.add_mul,Nat.one_mul] at this
  exact this
 omega
theorem mat_reads{lc lp:Nat}(u a b:Nat)(ha:a+768≤768*2^(lc+lp)):∀(k n m:Nat)(same:Bool),n+k=8→2^n≤m→m<2^(n+1)→Reads lc lp (matOps u a b k m same) (litGo u a k m same) (m*2^k+b%2^k)
 |0,n,m,same,hn,h1,h2=>by
   have:=Reads.nil (lc:=lc) (lp:=lp) m
   exact this.of (fun _=>rfl) (by simp[Nat.mod_one])
 |k+1,n,m,same,hn,h1,h2=>by
   have hb:b/2^k%2≤1:=by omega
   have hm:m<256:=Nat.lt_of_lt_of_le h2 (Nat.pow_le_pow_right (n:=2) (by omega) (show n+1≤8 by omega))
   have hi:(a+m+if same then 256*(1+u/2^k%2) else 0)<Lz.rowLen lc lp 6:=by
    have e:Lz.rowLen lc lp 6=768*2^(lc+lp):=rfl
    rw[e]
    split<;>omega
   rw[Nat.pow_succ] at h2
   have ih:=mat_reads (lc:=lc) (lp:=lp) u a b ha k (n+1) (2*m+b/2^k%2) (same&&decide (b/2^k%2=u/2^k%2)) (by omega) (by rw[Nat.pow_succ];omega) (by rw[Nat.pow_succ,Nat.pow_succ];omega)
   have h0:=bit_reads (lc:=lc) (lp:=lp) (j:=6) (by omega) hi hb
   refine(h0.bind (g2:=fun v y=>litGo u a k (2*m+v) (same&&decide (v=u/2^k%2)) y) ih).of (fun _=>rfl) ?_
   have hq:=Nat.mod_mul (x:=b) (a:=2^k) (b:=2)
   rw[Nat.pow_succ,hq,Nat.add_mul,Nat.mul_comm 2 m,Nat.mul_assoc,Nat.mul_comm (b/2^k%2),Nat.mul_comm 2 (2^k)]
   omega
theorem lit_reads(c:C)(hc:c.Ok){b:Nat}(hb:b<256):Reads c.lc c.lp (litOps c b) (fun y=>y.literal c) b:=by
 have hx:c.context+768≤768*2^(c.lc+c.lp):=(context_le c).resolve_right (by have:=hc.l;omega)
 unfold litOps
 by_cases h:c.s.num<7
 ·rw[if_pos h]
  refine(tree_reads (lc:=c.lc) (lp:=c.lp) false (j:=6) (a:=c.context) (n:=8) (x:=b) (by omega) hb (by omega) (by show c.context+2^8≤768*2^(c.lc+c.lp);omega)).of (fun y=> ?_) rfl
  unfold Y.literal
  rw[if_pos h]
 ·rw[if_neg h]
  have:=(mat_reads (lc:=c.lc) (lp:=c.lp) (c.lastB c.s.r0) c.context b hx 8 0 1 true rfl (by omega) (by omega)).map (fun v=>v-256)
  refine this.of (fun y=> ?_) (by omega)
  unfold Y.literal
  rw[if_neg h]
theorem len_reads(c:C)(hc:c.Ok){q n:Nat}(hq:q=7∨q=11)(h1:2≤n)(h2:n≤273):Reads c.lc c.lp (lenOps c q n) (fun y=>y.length c q) n:=by
 have hp:=place_lt c hc
 have B:=fun(i b:Nat)(hi:i<2)(hb:b≤1)=>bit_reads (lc:=c.lc) (lp:=c.lp) (j:=q) (i:=i) (b:=b) (by omega) (by rcases hq with rfl|rfl<;>exact hi) hb
 have T:=fun(d a m x:Nat)(hx:x<2^m)(hm:m≤16)(ha:a+2^m≤Lz.rowLen c.lc c.lp (q+d))(hd:d≤3)=>tree_reads (lc:=c.lc) (lp:=c.lp) false (j:=q+d) (a:=a) (n:=m) (x:=x) (by omega) hx hm ha
 unfold lenOps
 by_cases k1:n<10
 ·rw[if_pos k1]
  have:=(B 0 0 (by omega) (by omega)).bind (g2:=fun v y=>if v=0 then((fun v=>2+v) (y.tree false (q+1) (8*c.place) 3).1,(y.tree false (q+1) (8*c.place) 3).2) else
   if(y.bit q 1).1=0 then(10+((y.bit q 1).2.tree false (q+2) (8*c.place) 3).1,((y.bit q 1).2.tree false (q+2) (8*c.place) 3).2) else(18+((y.bit q 1).2.tree false (q+3) 0 8).1,((y.bit q 1).2.tree false (q+3) 0 8).2)) (v2:=2+(n-2))
   (((T 1 (8*c.place) 3 (n-2) (by omega) (by omega) (by rcases hq with rfl|rfl<;>show _≤128<;>omega) (by omega)).map (fun v=>2+v)).of (fun _=>by rw[if_pos rfl]) rfl)
  exact this.of (fun _=>rfl) (by omega)
 rw[if_neg k1]
 by_cases k2:n<18
 ·rw[if_pos k2]
  have:=(B 0 1 (by omega) (by omega)).bind (g2:=fun v y=>if v=0 then(2+(y.tree false (q+1) (8*c.place) 3).1,(y.tree false (q+1) (8*c.place) 3).2) else
   if(y.bit q 1).1=0 then(10+((y.bit q 1).2.tree false (q+2) (8*c.place) 3).1,((y.bit q 1).2.tree false (q+2) (8*c.place) 3).2) else(18+((y.bit q 1).2.tree false (q+3) 0 8).1,((y.bit q 1).2.tree false (q+3) 0 8).2)) (v2:=10+(n-10))
   (((B 1 0 (by omega) (by omega)).bind (g2:=fun v y=>if v=0 then(10+(y.tree false (q+2) (8*c.place) 3).1,(y.tree false (q+2) (8*c.place) 3).2) else(18+(y.tree false (q+3) 0 8).1,(y.tree false (q+3) 0 8).2)) (v2:=10+(n-10))
     (((T 2 (8*c.place) 3 (n-10) (by omega) (by omega) (by rcases hq with rfl|rfl<;>show _≤128<;>omega) (by omega)).map (fun v=>10+v)).of (fun _=>by rw[if_pos rfl]) rfl)).of (fun _=>by rw[if_neg (by decide)]) rfl)
  exact this.of (fun _=>rfl) (by omega)
 ·rw[if_neg k2]
  have:=(B 0 1 (by omega) (by omega)).bind (g2:=fun v y=>if v=0 then(2+(y.tree false (q+1) (8*c.place) 3).1,(y.tree false (q+1) (8*c.place) 3).2) else
   if(y.bit q 1).1=0 then(10+((y.bit q 1).2.tree false (q+2) (8*c.place) 3).1,((y.bit q 1).2.tree false (q+2) (8*c.place) 3).2) else(18+((y.bit q 1).2.tree false (q+3) 0 8).1,((y.bit q 1).2.tree false (q+3) 0 8).2)) (v2:=18+(n-18))
   (((B 1 1 (by omega) (by omega)).bind (g2:=fun v y=>if v=0 then(10+(y.tree false (q+2) (8*c.place) 3).1,(y.tree false (q+2) (8*c.place) 3).2) else(18+(y.tree false (q+3) 0 8).1,(y.tree false (q+3) 0 8).2)) (v2:=18+(n-18))
     (((T 3 0 8 (n-18) (by omega) (by omega) (by rcases hq with rfl|rfl<;>show _≤256<;>omega) (by omega)).map (fun v=>18+v)).of (fun _=>by rw[if_neg (by decide)]) rfl)).of (fun _=>by rw[if_neg (by decide)]) rfl)
  exact this.of (fun _=>rfl) (by omega)
theorem restAt_le:∀s:Fin 14,4≤s.val→restAt s.val+2^(range s.val).2≤128:=by decide+kernel
theorem rest_reads{lc lp slot d:Nat}(hs:slot<64)(h1:(range slot).1≤d)(h2:d<(range slot).1+2^(range slot).2):Reads lc lp (restOps slot (d-(range slot).1)) (fun y=>y.rest slot) d:=by
 have hr:=range_le ⟨slot,hs⟩
 simp only at hr
 obtain⟨r1,r2,r3,r4,r5⟩:=hr
 unfold restOps
 by_cases k0:(range slot).2=0
 ·rw[if_pos k0]
  rw[k0] at h2
  refine(Reads.nil (lc:=lc) (lp:=lp) d).of (fun y=> ?_) rfl
  unfold Y.rest
  rw[if_pos k0]
  simp only[Prod.mk.injEq,and_true]
  omega
 rw[if_neg k0]
 by_cases k1:slot<14
 ·rw[if_pos k1]
  have h4:4≤slot:=by
   unfold range at k0
   split at k0
   ·exact absurd rfl k0
   ·omega
  have:=(tree_reads (lc:=lc) (lp:=lp) true (j:=16) (a:=restAt slot) (n:=(range slot).2) (x:=d-(range slot).1) (by omega) (by omega) (by omega) (restAt_le ⟨slot,k1⟩ h4)).map (fun v=>(range slot).1+v)
  refine this.of (fun y=> ?_) (by omega)
  unfold Y.rest
  rw[if_neg k0,if_pos k1]
 ·rw[if_neg k1]
  have e:2^(range slot).2=2^((range slot).2-4)*16:=by
   rw[show(16:Nat)=2^4 by rfl,←Nat.pow_add]
   congr 1
   have:=r4 (by omega)
   omega
  have A:=direct_reads (lc:=lc) (lp:=lp) (x:=(d-(range slot).1)/16) (n:=(range slot).2-4) (by omega)
  have B:=tree_reads (lc:=lc) (lp:=lp) true (j:=17) (a:=0) (n:=4) (x:=(d-(range slot).1)%16) (by omega) (by omega) (by omega) (show 0+2^4≤16 by decide)
  have:=A.bind (g2:=fun v y=>((range slot).1+v*16+(y.tree true 17 0 4).1,(y.tree true 17 0 4).2)) (B.map (fun x=>(range slot).1+(d-(range slot).1)/16*16+x))
  refine this.of (fun y=> ?_) (by omega)
  unfold Y.rest
  rw[if_neg k0,if_neg k1]
theorem dist_reads{lc lp n slot d:Nat}(hn:2≤n)(hs:slot<64)(h1:(range slot).1≤d)(h2:d<(range slot).1+2^(range slot).2):Reads lc lp (distOps n slot d) (fun y=>y.dist n) d:=by
 have A:=tree_reads (lc:=lc) (lp:=lp) false (j:=15) (a:=slotAt n) (n:=6) (x:=slot) (by omega) hs (by omega) (by show slotAt n+2^6≤256;unfold slotAt;omega)
 exact(A.bind (g2:=fun v y=>y.rest v) (rest_reads hs h1 h2)).of (fun _=>rfl) rfl
theorem slotOf_in{d:Nat}(h1:1≤d)(h2:d≤4294967295):slotOf d<64∧(range (slotOf d)).1≤d∧d<(range (slotOf d)).1+2^(range (slotOf d)).2:=by
 unfold slotOf
 by_cases h4:d≤4
 ·rw[if_pos h4]
  unfold range
  rw[if_pos (by omega)]
  simp only
  omega
 rw[if_neg h4]
 have hx:d-1≠0:=by omega
 have k1:=(Nat.le_log2 hx (k:=2)).2 (by omega)
 have k2:=(Nat.log2_lt hx (k:=32)).2 (by omega)
 have k3:=Nat.log2_self_le hx
 have k4:=Nat.lt_log2_self (n:=d-1)
 generalize Nat.log2 (d-1)=k at*
 obtain⟨j,rfl⟩:∃j,k=j+1:=⟨k-1,by omega⟩
 have hp:=Nat.two_pow_pos j
 have e1:2^(j+1)=2^j*2:=Nat.pow_succ ..
 have e2:2^(j+1+1)=2^j*2*2:=by rw[Nat.pow_succ,Nat.pow_succ]
 rw[e1] at k3
 rw[e2] at k4
 have hq1:2≤(d-1)/2^j:=(Nat.le_div_iff_mul_le hp).2 (by omega)
 have hq2:(d-1)/2^j<4:=(Nat.div_lt_iff_lt_mul hp).2 (by omega)
 have hdm:=Nat.div_add_mod (d-1) (2^j)
 have hml:=Nat.mod_lt (d-1) hp
 simp only[Nat.add_sub_cancel]
 unfold range
 rw[if_neg (by omega)]
 have e3:(2*(j+1)+(d-1)/2^j%2)/2-1=j:=by omega
 have e4:2+(2*(j+1)+(d-1)/2^j%2)%2=(d-1)/2^j:=by omega
 simp only[e3,e4]
 rw[Nat.mul_comm] at hdm
 exact⟨by omega,by omega,by omega⟩
structure May(c:C)(y:Sy):Prop where
 kind:y.kind=1∨y.kind=2∨y.kind=3∨y.kind=4
 byte:y.byte<256
 len:y.kind=2∨y.kind=3→isL y.len
 dist:y.kind=2→isD y.dist
 rep:y.kind=3→y.dist≤3
theorem sym_reads(c:C)(hc:c.Ok){y:Sy}(h:May c y):Reads c.lc c.lp (symOps c y) (fun x=>x.symbol c) (norm y):=by
 have hat:=at_lt c hc
 have hnum:=hc.s.num
 have B:=fun(j i b:Nat)(hj:j=0∧i=c.at∨j=1∧i=c.at∨(2≤j∧j≤5)∧i=c.s.num)(hb:b≤1)=>bit_reads (lc:=c.lc) (lp:=c.lp) (j:=j) (i:=i) (b:=b) (by omega) (by
  unfold Lz.rowLen
  rcases hj with⟨rfl,rfl⟩|⟨rfl,rfl⟩|⟨h1,rfl⟩
  ·exact hat
  ·exact hat
  ·rw[if_neg (by omega),if_pos (by omega)]
   omega) hb
 have b01:=B 0 c.at 1 (by omega) (by omega)
 unfold symOps norm
 by_cases k1:y.kind=1
 ·rw[if_pos k1,if_pos k1]
  exact((B 0 c.at 0 (by omega) (by omega)).bind (g2:=fun v x=>if v=0 then x.lit c else x.symbol1 c) (((lit_reads c hc h.byte).map (fun b=>(⟨1,b,0,0⟩:Sy))).of (fun _=>rfl) rfl)).of (fun _=>rfl) rfl
 rw[if_neg k1,if_neg k1]
 by_cases k2:y.kind=2
 ·rw[if_pos k2,if_pos k2]
  have hl:=h.len (.inl k2)
  have hd:=h.dist k2
  obtain⟨s1,s2,s3⟩:=slotOf_in hd.1 hd.2
  have hL:=len_reads c hc (.inl rfl:7=7∨7=11) hl.1 hl.2
  have hD:=dist_reads (lc:=c.lc) (lp:=c.lp) hl.1 s1 s2 s3
  exact(b01.bind (g2:=fun v x=>if v=0 then x.lit c else x.symbol1 c) (((B 2 c.s.num 0 (by omega) (by omega)).bind (g2:=fun v x=>if v=0 then x.match c else x.symbol2 c)
   ((hL.bind (g2:=fun n x=>((⟨2,0,n,(x.dist n).1⟩:Sy),(x.dist n).2)) (hD.map (fun d=>(⟨2,0,y.len,d⟩:Sy)))).of (fun _=>rfl) rfl)).of (fun _=>rfl) rfl)).of (fun _=>rfl) rfl
 rw[if_neg k2,if_neg k2]
 have b21:=B 2 c.s.num 1 (by omega) (by omega)
 have b30:=B 3 c.s.num 0 (by omega) (by omega)
 by_cases k3:y.kind=3
 ·rw[if_pos k3,if_pos k3]
  have hl:=h.len (.inr k3)
  have hr:=h.rep k3
  have hL:=len_reads c hc (.inr rfl:11=7∨11=11) hl.1 hl.2
  have R:=fun i:Nat=>(hL.map (fun n=>(⟨3,0,n,i⟩:Sy)))
  unfold repOps
  refine(b01.bind (g2:=fun v x=>if v=0 then x.lit c else x.symbol1 c) ((b21.bind (g2:=fun v x=>if v=0 then x.match c else x.symbol2 c) (v2:=⟨3,0,y.len,y.dist⟩) ?_).of (fun _=>rfl) rfl)).of (fun _=>rfl) rfl
  by_cases d0:y.dist=0
  ·rw[if_pos d0,d0]
   exact(b30.bind (g2:=fun v x=>if v=0 then x.short c else x.older c) (((B 1 c.at 1 (by omega) (by omega)).bind (g2:=fun v x=>if v=0 then(⟨4,0,0,0⟩,x) else x.repeat c 0) ((R 0).of (fun _=>rfl) rfl)).of (fun _=>rfl) rfl)).of (fun _=>rfl) rfl
  rw[if_neg d0]
  have b31:=B 3 c.s.num 1 (by omega) (by omega)
  by_cases d1:y.dist=1
  ·rw[if_pos d1,d1]
   exact(b31.bind (g2:=fun v x=>if v=0 then x.short c else x.older c) (((B 4 c.s.num 0 (by omega) (by omega)).bind (g2:=fun v x=>if v=1 then(x.bit 5 c.s.num).2.repeat c (2+(x.bit 5 c.s.num).1) else x.repeat c 1) ((R 1).of (fun _=>rfl) rfl)).of (fun _=>rfl) rfl)).of (fun _=>rfl) rfl
  rw[if_neg d1]
  exact(b31.bind (g2:=fun v x=>if v=0 then x.short c else x.older c) (((B 4 c.s.num 1 (by omega) (by omega)).bind (g2:=fun v x=>if v=1 then(x.bit 5 c.s.num).2.repeat c (2+(x.bit 5 c.s.num).1) else x.repeat c 1)
   (((B 5 c.s.num (y.dist-2) (by omega) (by omega)).bind (g2:=fun v x=>x.repeat c (2+v)) ((R (2+(y.dist-2))).of (fun _=>rfl) rfl)).of (fun _=>rfl) rfl)).of (fun _=>rfl) rfl)).of (fun _=>rfl) (by congr 1;omega)
 rw[if_neg k3,if_neg k3]
 exact(b01.bind (g2:=fun v x=>if v=0 then x.lit c else x.symbol1 c) ((b21.bind (g2:=fun v x=>if v=0 then x.match c else x.symbol2 c) ((b30.bind (g2:=fun v x=>if v=0 then x.short c else x.older c) (v2:=(⟨4,0,0,0⟩:Sy))
  (((B 1 c.at 0 (by omega) (by omega)).bind (g2:=fun v x=>if v=0 then((⟨4,0,0,0⟩:Sy),x) else x.repeat c 0) (l:=[.bit 1 c.at 0]) (m:=[]) (Reads.nil _)).of (fun _=>rfl) rfl)).of (fun _=>rfl) rfl)).of (fun _=>rfl) rfl)).of (fun _=>rfl) rfl
end En
namespace En
open Mem Rc Win Lz Tr
def TAt(w:World)(B:Nat)(v:Value)(b gb:Nat)(e:Es)(j:Nat):Prop:=∃g,EAt w B v g∧Is g e.k∧Prob.SetAt w b gb (e.ps j)
def TF(B:Nat)(v:Value)(gb k:Nat):Prop:=EF B v k∨k=gb
def TPost(B:Nat)(v:Value)(b gb:Nat)(w:World)(e:Es)(j:Nat)(w':World):Prop:=Fr (TF B v gb) w w'∧∃v',TAt w' B v' b gb e j∧∀k,v'.ownBlock=some k→v.ownBlock=some k∨w.heap.size≤k
theorem TAt.same{w:World}{B b gb j:Nat}{v:Value}{e:Es}(h:TAt w B v b gb e j):TPost B v b gb w e j w:=⟨Fr.refl _ _,v,h,fun k hk=>.inl hk⟩
theorem TAt.keep{S:Nat→Prop}{w w':World}{B b gb j:Nat}{v:Value}{e:Es}(h:TAt w B v b gb e j)(hfr:Fr S w w')(hS:∀k,k<w.heap.size→¬S k):TAt w' B v b gb e j:=by
 obtain⟨g,h1,h2,h3⟩:=h
 exact⟨g,h1.keep hfr (hS _ (lt_of_block h1.box)) (fun k hk=>hS k (World.ownsRow.lt h1.own k hk).2),h2,h3.step hfr (hS _ h3.lt.1) (hS _ h3.lt.2)⟩
theorem TPost.trans{w w1 w2:World}{B b gb j:Nat}{v v1:Value}{e:Es}(h1:Fr (TF B v gb) w w1)(hn:∀k,v1.ownBlock=some k→v.ownBlock=some k∨w.heap.size≤k)(h2:TPost B v1 b gb w1 e j w2):TPost B v b gb w e j w2:=by
 obtain⟨f,v2,a,n⟩:=h2
 refine⟨h1.trans' f (fun k hk e=> ?_),v2,a,fun k hk=> ?_⟩
 ·rcases e with(e|e)|e
  ·exact .inl (.inl e)
  ·rcases hn k e with e|e
   ·exact .inl (.inr e)
   ·omega
  ·exact .inr e
 ·rcases n k hk with e|e
  ·exact hn k e
  ·exact .inr (Nat.le_trans h1.size e)
theorem TAt.off{w:World}{B b gb j:Nat}{v:Value}{e:Es}(h:TAt w B v b gb e j){k:Nat}{cs:Array Value}{t:TypeId}{fr:Nat×Nat}(hk:w.heap[k]? =some (.cells cs t fr))(h1:t≠191)(h2:t≠5)(h3:t≠3∨k≠gb):¬TF B v gb k:=by
 obtain⟨g,a,_,s⟩:=h
 rintro((rfl|e)|rfl)
 ·rw[a.box] at hk
  simp only[Option.some.injEq,Obj.cells.injEq] at hk
  exact h1 hk.2.1.symm
 ·exact off_box a.own hk h2 _ e rfl
 ·obtain⟨_,_,_,hg,_⟩:=s
  rcases h3 with h3|h3
  ·rw[hg] at hk
   simp only[Option.some.injEq,Obj.cells.injEq] at hk
   exact h3 hk.2.1.symm
  ·exact h3 rfl
theorem tbit_calls{w:World}{B b gb j i bit lc lp:Nat}{v:Value}{e:Es}(h:TAt w B v b gb e j)(hok:e.Ok lc lp)(ho:Op.Ok lc lp (.bit j i bit))(hs:e.k.s≤1099511627776):
 Calls Tryz.prog 290 #[ptr B,ptr b,.int .i64 i,.int .i64 bit] w fun r w'=>r=.returned (.int .i64 0)∧TPost B v b gb w (e.op (.bit j i bit)) j w':=by
 obtain⟨g,a,hg,s⟩:=h
 obtain⟨f1,f2,f3,f4⟩:=hg.fit hs
 obtain⟨p1,p2,p3⟩:=hok.at ho.1 ho.2.1
 refine(ebit_calls a f1 f2 f3 f4 s p1 p2 p3 ho.2.2).mono ?_
 rintro r w' ⟨rfl,hf,⟨v',a',n'⟩,s'⟩
 refine⟨rfl,hf,v',⟨_,a',hg.bit bit p2 p3,?_⟩,n'⟩
 show Prob.SetAt w' b gb (upd e.ps j _ j)
 rw[upd_same]
 exact s'
theorem op_s(e:Es)(o:Op):(e.op o).k.s≤e.k.s+1:=by
 cases o with
 |bit j i b=>exact K.bit_s _ _ _
 |half b=>exact K.half_s _ _
theorem run_s:∀(l:List Op)(e:Es),(e.run l).k.s≤e.k.s+l.length
 |[],e=>Nat.le_refl _
 |o::l,e=>by
   have h1:=op_s e o
   have h2:=run_s l (e.op o)
   rw[Es.run,List.length_cons]
   omega
structure Bx(w:World)(z B b x n:Nat)(back:Bool):Prop where
 e:w.heap[z]? =some (.cells #[ptr B] 125 (0,0))
 s:w.heap[z+1]? =some (.cells #[ptr b] 182 (0,0))
 n:w.heap[z+2]? =some (.cells #[.int .i64 n] 3 (0,0))
 x:w.heap[z+3]? =some (.cells #[.int .i64 x] 3 (0,0))
 back:w.heap[z+4]? =some (.cells #[.bool back] 4 (0,0))
theorem Bx.keep{w w':World}{z B b x n gb j:Nat}{v:Value}{e:Es}{back:Bool}(h:Bx w z B b x n back)(ht:TAt w B v b gb e j)(hz:gb<z)(hfr:Fr (TF B v gb) w w'):Bx w' z B b x n back:=
 ⟨hfr.keep h.e (ht.off h.e (by decide) (by decide) (.inl (by decide))),hfr.keep h.s (ht.off h.s (by decide) (by decide) (.inl (by decide))),hfr.keep h.n (ht.off h.n (by decide) (by decide) (.inr (by omega))),hfr.keep h.x (ht.off h.x (by decide) (by decide) (.inr (by omega))),hfr.keep h.back (ht.off h.back (by decide) (by decide) (.inl (by decide)))⟩
abbrev cap(z:Nat):Array Value:=#[ptr (z+3),ptr (z+4),ptr (z+2),ptr z,ptr (z+1)]
theorem bit_of(x o:Nat)(hx:x<65536):bits BinOp.and IntKind.i64 ((x:Int)/2^o) 1=((x/2^o%2:Nat):Int):=by
 have e:(x:Int)/2^o=((x/2^o:Nat):Int):=by simp
 have hl:x/2^o≤x:=Nat.div_le_self _ _
 have:=and_low (x/2^o) 1 (by omega) (by decide)
 rw[e]
 simpa using this
theorem put1_calls{w:World}{z B b gb j a m k n x lc lp:Nat}{v:Value}{e:Es}{back:Bool}(h:TAt w B v b gb e j)(hb:Bx w z B b x n back)(hok:e.Ok lc lp)(hk:k<n)(hn:n≤16)(hx:x<65536)(ho:Op.Ok lc lp (.bit j (a+m) (x/2^ord back n k%2)))(hs:e.k.s≤1099511627776)(pl:Int)(hpl:pl=((a+m:Nat):Int)):
 Calls Tryz.prog 296 (#[.int .i64 pl,.int .i64 k]++cap z) w fun r w'=>r=.returned (.tuple #[.int .i64 ((x/2^ord back n k%2:Nat):Int),.int .i64 0])∧TPost B v b gb w (e.op (.bit j (a+m) (x/2^ord back n k%2))) j w':=by
 have c0:=cell_in (i:=0) hb.x rfl
 have c1:=cell_in (i:=0) hb.back rfl
 have c2:=cell_in (i:=0) hb.n rfl
 have hq:=bit_of x (ord back n k) hx
 have HB:=Hd (show∀q,Fr (fun _=>False) w (w.drewN q) from fun q=>(Fr.refl _ w).drewN q)
 have HT:=Hd (fun q=>tbit_calls (h.keep (HB.out q) (fun _ _ h=>h)) hok ho hs)
 rw[←hpl] at HT
 have hm:min (ord back n k) 64=ord back n k:=by have:ord back n k<n:=(by unfold ord;split<;>omega);omega
 have HE:=Hd (fun q=>(HB.out q).keep hb.e (fun h=>h))
 have HS:=Hd (fun q=>(HB.out q).keep hb.s (fun h=>h))
 have HO:=Hd (fun w=>order_calls back n k w hk hn)
 clear h hb hok ho hpl
 generalize x/2^ord back n k%2=bt at*
 go_enter Tryz.func296,Tryz.ntmps296
 go_wp2_with fail
 go_quiet ((go_at_call 266;exact quiet_left (HO.out _)))
 have d0:=cell_in (i:=0) (HE.out nq) rfl
 have d1:=cell_in (i:=0) (HS.out nq) rfl
 clear c0 c1 c2 HE HS
 go_wp2_with fail
 refine(HT.out nq).mono ?_
 rintro r w2 ⟨rfl,hp⟩
 have HP:=Hd (TPost.trans (v1:=v) ((HB.out nq).mono (fun _ _ h=>h.elim)) (fun k hk=>.inl hk) hp)
 clear hp
 go_wp2_with fail
 go_ret2
 exact⟨rfl,HP.out⟩
structure PRel(w0:World)(B:Nat)(v:Value)(b gb j a n x lc lp:Nat)(back:Bool)(fin:Es)(k m:Nat)(wr:World):Prop where
 le:k≤n
 hm:m<2^(k+1)
 ok:∃e,TPost B v b gb w0 e j wr∧e.Ok lc lp∧e.k.s+(n-k)≤1099511627776∧e.run (treeOps back j a n x (n-k) m)=fin∧∀o ∈ treeOps back j a n x (n-k) m,o.Ok lc lp
theorem pdown_calls{w:World}{z B b gb j a n x lc lp:Nat}{v:Value}{e:Es}{back:Bool}(h:TAt w B v b gb e j)(hb:Bx w z B b x n back)(hz:gb<z)(hok:e.Ok lc lp)(hn:n≤16)(hx:x<65536)(ha:a≤1099511627776)(ho:∀o ∈ treeOps back j a n x n 1,o.Ok lc lp)(hs:e.k.s+n≤1099511627776):
 Calls Tryz.prog 264 #[.int .i64 a,.int .i64 n,.func (Fn.func 296) #[] (cap z)] w fun r w'=>r=.returned (.int .i64 0)∧TPost B v b gb w (e.run (treeOps back j a n x n 1)) j w':=by
 have HB:=Hd (fun(wr:World)(hf:Fr (TF B v gb) w wr)=>hb.keep h hz hf)
 have H0:=Hd (show PRel w B v b gb j a n x lc lp back (e.run (treeOps back j a n x n 1)) 0 1 w from⟨Nat.zero_le _,by decide,e,h.same,hok,hs,rfl,ho⟩)
 generalize e.run (treeOps back j a n x n 1)=fin at*
 clear h hb hok ho hs
 go_enter Tryz.func264,Tryz.ntmps264
 go_wp2_with fail
 go_loopw [7,8,9,10,12](fun s7 _ _ _ i wr=>∃k m:Nat,i=.int .i64 k∧s7=.int .i64 m∧PRel w B v b gb j a n x lc lp back fin k m wr) (fun _ _ _ _ i _=>n-(intOf i).toNat)
 case atStart=>exact⟨0,1,rfl,rfl,H0.out⟩
 case round=>
  obtain⟨k,m,rfl,rfl,hk,hm,e1,⟨f1,v1,t1,n1⟩,ok1,s1,r1,o1⟩:=hrel
  by_cases hlt:k<n
  ·obtain⟨f,hf⟩:∃f,n-k=f+1:=⟨n-k-1,by omega⟩
   have hkf:n-(f+1)=k:=by omega
   rw[hf] at s1 r1 o1
   rw[treeOps,hkf] at r1 o1
   have hp:(2:Nat)^(k+1)≤2^16:=Nat.pow_le_pow_right (by omega) (by omega)
   have hb1:x/2^ord back n k%2≤1:=by omega
   have hO:=o1 _ (List.mem_cons_self ..)
   have HC:=Hd (fun(pl:Int)(hpl:pl=((a+m:Nat):Int))=>put1_calls t1 (HB.out wr f1) ok1 hlt hn hx hO (by omega) pl hpl)
   have HF1:=Hd f1
   have HN1:=Hd n1
   have HOK:=Hd (ok1.op hO).1
   have HSS:=Hd (show(e1.op (.bit j (a+m) (x/2^ord back n k%2))).k.s+f≤1099511627776 by have:=op_s e1 (.bit j (a+m) (x/2^ord back n k%2));omega)
   have HR:=Hd (show(e1.op (.bit j (a+m) (x/2^ord back n k%2))).run (treeOps back j a n x f (2*m+x/2^ord back n k%2))=fin from r1)
   have HO:=Hd (fun o ho=>o1 o (List.mem_cons_of_mem _ ho))
   have hmb:m≤65536:=by omega
   have HMB:=Hd (show 2*m+x/2^ord back n k%2<2^(k+1+1) by rw[Nat.pow_succ];omega)
   clear f1 t1 n1 ok1 s1 r1 o1 hO hp hm
   generalize e1.op (.bit j (a+m) (x/2^ord back n k%2))=e2 at*
   generalize x/2^ord back n k%2=bt at*
   go_wp2_with fail
   refine(HC.out _ (by omega)).mono ?_
   rintro r w2 ⟨rfl,hp⟩
   have HP:=Hd (TPost.trans HF1.out HN1.out hp)
   clear hp
   go_wp2_with fail
   go_roundw
   case rel=>exact⟨k+1,2*m+bt,by go_num,by go_num,by omega,HMB.out,e2,HP.out,HOK.out,by have:=HSS.out;omega,by rw[show n-(k+1)=f by omega];exact HR.out,by rw[show n-(k+1)=f by omega];exact HO.out⟩
   case measure=>simp[intOf];omega
  ·obtain rfl:k=n:=by omega
   rw[Nat.sub_self] at r1
   have HR:=Hd (show e1=fin from r1)
   have HP:=Hd (show TPost B v b gb w e1 j wr from⟨f1,v1,t1,n1⟩)
   clear f1 t1 n1 ok1 s1 r1 o1 hm hlt
   go_wp2_with fail
   go_ret
   rw[←HR.out]
   exact⟨rfl,HP.out⟩
theorem holds_calls(x n:Nat)(w:World)(hn:n≤16)(hx:x<2^n):Calls Tryz.prog 295 #[.int .i64 x,.int .i64 n] w fun e w'=>e=.returned (.bool true)∧w=w':=by
 have hp:2^n≤65536:=Nat.le_trans (Nat.pow_le_pow_right (by omega) hn) (by decide)
 have hpi:((2^n:Nat):Int)=2^n:=by simp
 have hw2:IntKind.i64.wrap (2^n)=2^n:=by
  rw[←hpi]
  exact IntWalk.i64_in _ (by omega)
 have hw:IntKind.i64.wrap (1*2^n)=2^n:=by rw[Int.one_mul];exact hw2
 have hmin:min n 64=n:=by omega
 have t1:decide ((x:Int)<2^n)=true:=decide_eq_true (by rw[←hpi];omega)
 have z1:decide ((x:Int)≥0)=true:=by simp
 have z2:decide ((0:Int)≤(x:Int))=true:=by simp
 clear hp hpi hx
 go_enter Tryz.func295,Tryz.ntmps295
 go_wp2_with fail
 go_ret
 exact⟨rfl,rfl⟩
theorem put_calls{w:World}{B b gb j a n x lc lp:Nat}{v:Value}{e:Es}{back:Bool}(h:TAt w B v b gb e j)(hok:e.Ok lc lp)(hn:n≤16)(hx:x<2^n)(ha:a+2^n≤Lz.rowLen lc lp j)(hj:j<18)(hs:e.k.s+n≤1099511627776)(hl:Lz.rowLen lc lp j≤1099511627776):
 Calls Tryz.prog 293 #[ptr B,ptr b,.int .i64 a,.int .i64 n,.int .i64 x,.bool back] w fun r w'=>r=.returned (.int .i64 0)∧TPost B v b gb w (e.run (treeOps back j a n x n 1)) j w':=by
 have hp16:2^n≤65536:=Nat.le_trans (Nat.pow_le_pow_right (by omega) hn) (by decide)
 have hlen:=hok.len j hj
 have hops:=(tree_reads (lc:=lc) (lp:=lp) back hj hx hn ha).1
 obtain⟨hfr,hsz,b1,b2,b3,b4,b5⟩:=five w (.cells #[ptr B] 125) (.cells #[ptr b] 182) (.cells #[.int .i64 n] 3) (.cells #[.int .i64 x] 3) (.cells #[.bool back] 4)
 have HT:=Hd (h.keep hfr (fun _ _ h=>h))
 have HBX:=Hd (show Bx _ w.heap.size B b x n back from⟨b1,b2,b3,b4,b5⟩)
 have HFR:=Hd hfr
 have HSZ:=Hd hsz
 have hgl:gb<w.heap.size:=by obtain⟨_,_,_,s⟩:=h;exact s.lt.2
 have HTH:=Hd (fun(W:World)(hf:Fr (fun _=>False) w W)=>show Calls Tryz.prog 263 #[ptr b,.int .i64 a,.int .i64 n] W (fun r w'=>r=.returned (.bool true)∧Fr (fun _=>False) W w') from by
  obtain⟨_,_,_,s⟩:=h
  have:=there_calls b gb a n (e.ps j) W (s.keep hf) (by omega) (by omega) (by omega)
  rwa [show thereB (e.ps j) a n=true from decide_eq_true ⟨hn,by omega,by omega⟩] at this)
 have HDN:=Hd (fun(W:World)(hf:Fr (fun _=>False) w W)(hbx:Bx W w.heap.size B b x n back)=>pdown_calls (h.keep hf (fun _ _ h=>h)) hbx hgl hok hn (by omega) (by omega) hops hs)
 clear hfr hsz b1 b2 b3 b4 b5 h hok hops
 go_enter Tryz.func293,Tryz.ntmps293
 go_wp2_with fail
 generalize hz:w.heap.size=z at*
 generalize World.alloc (World.alloc (World.alloc (World.alloc (World.alloc w _) _) _) _) _=W at*
 refine(HTH.out W HFR.out).mono ?_
 rintro r w2 ⟨rfl,hf2⟩
 have hb2:Bx w2 z B b x n back:=⟨hf2.keep HBX.out.e (fun h=>h),hf2.keep HBX.out.s (fun h=>h),hf2.keep HBX.out.n (fun h=>h),hf2.keep HBX.out.x (fun h=>h),hf2.keep HBX.out.back (fun h=>h)⟩
 have d3:=cell_in (i:=0) hb2.x rfl
 have d2:=cell_in (i:=0) hb2.n rfl
 have HB2:=Hd hb2
 have HF2:=Hd (HFR.out.trans hf2)
 have HH:=Hd (holds_calls x n w2 hn hx)
 clear hb2 hf2
 go_wp2_with fail
 refine HH.out.mono ?_
 rintro r w3 ⟨rfl,rfl⟩
 go_wp2_with fail
 refine(HDN.out w2 HF2.out HB2.out).mono ?_
 rintro r w4 ⟨rfl,hp⟩
 have HP:=Hd (TPost.trans (v1:=v) (HF2.out.mono (fun _ _ h=>h.elim)) (fun k hk=>.inl hk) hp)
 clear hp
 go_wp2_with fail
 go_ret
 exact⟨rfl,HP.out⟩
theorem tput_calls{w:World}{B b gb j a n x lc lp:Nat}{v:Value}{e:Es}(h:TAt w B v b gb e j)(hok:e.Ok lc lp)(hn:n≤16)(hx:x<2^n)(ha:a+2^n≤Lz.rowLen lc lp j)(hj:j<18)(hs:e.k.s+n≤1099511627776)(hl:Lz.rowLen lc lp j≤1099511627776):
 Calls Tryz.prog 292 #[ptr B,ptr b,.int .i64 a,.int .i64 n,.int .i64 x] w fun r w'=>r=.returned (.int .i64 0)∧TPost B v b gb w (e.run (treeOps false j a n x n 1)) j w':=by
 have HC:=Hd (put_calls (back:=false) h hok hn hx ha hj hs hl)
 clear h hok
 generalize e.run (treeOps false j a n x n 1)=e2 at*
 go_enter Tryz.func292,Tryz.ntmps292
 go_wp2_with fail
 refine HC.out.mono ?_
 rintro r w4 ⟨rfl,hp⟩
 go_wp2_with fail
 go_ret
 exact⟨rfl,hp⟩
theorem tback_calls{w:World}{B b gb j a n x lc lp:Nat}{v:Value}{e:Es}(h:TAt w B v b gb e j)(hok:e.Ok lc lp)(hn:n≤16)(hx:x<2^n)(ha:a+2^n≤Lz.rowLen lc lp j)(hj:j<18)(hs:e.k.s+n≤1099511627776)(hl:Lz.rowLen lc lp j≤1099511627776):
 Calls Tryz.prog 289 #[ptr B,ptr b,.int .i64 a,.int .i64 n,.int .i64 x] w fun r w'=>r=.returned (.int .i64 0)∧TPost B v b gb w (e.run (treeOps true j a n x n 1)) j w':=by
 have HC:=Hd (put_calls (back:=true) h hok hn hx ha hj hs hl)
 clear h hok
 generalize e.run (treeOps true j a n x n 1)=e2 at*
 go_enter Tryz.func289,Tryz.ntmps289
 go_wp2_with fail
 refine HC.out.mono ?_
 rintro r w4 ⟨rfl,hp⟩
 go_wp2_with fail
 go_ret
 exact⟨rfl,hp⟩
end En
namespace En
open Mem Rc St Lz
structure Xe where
 c:C
 e:Es
def Xe.ap(x:Xe)(y:Sy):Nat×List UInt8×S:=apply x.c.size x.c.all x.c.s y
def Xe.put(x:Xe)(y:Sy):Xe:=⟨(x.c.on (x.ap y).2.1).to (x.ap y).2.2,x.e.run (symOps x.c y)⟩
def Xe.putAll:List Sy→Xe→Xe
 |[],x=>x
 |y::l,x=>putAll l (x.put y)
def Xe.made:List Sy→Xe→List UInt8
 |[],_=>[]
 |y::l,x=>(x.ap y).2.1++made l (x.put y)
def Legal:List Sy→Xe→Prop
 |[],_=>True
 |y::l,x=>May x.c y∧(x.ap y).1=0∧Legal l (x.put y)
structure Xe.Ok(x:Xe):Prop where
 c:x.c.Ok
 e:x.e.Ok x.c.lc x.c.lp
theorem Xe.Ok.put{x:Xe}(h:x.Ok){y:Sy}(hy:May x.c y)(h0:(x.ap y).1=0):(x.put y).Ok:=
 ⟨⟨h.c.l,h.c.pb,apply_ok h0 h.c.s⟩,(h.e.run (sym_reads x.c h.c hy).1).1⟩
theorem Xe.Ok.putAll:∀{l:List Sy}{x:Xe},x.Ok→Legal l x→(x.putAll l).Ok∧x.e.k.In (x.putAll l).e.k∧(x.putAll l).c.lc=x.c.lc∧(x.putAll l).c.lp=x.c.lp
 |[],x,h,_=>⟨h,.refl _,rfl,rfl⟩
 |y::l,x,h,⟨h1,h2,h3⟩=>by
   have ih:=(h.put h1 h2).putAll h3
   exact⟨ih.1,((h.e.run (sym_reads x.c h.c h1).1).2).trans ih.2.1,ih.2.2⟩
end En
end Go.Proofs.YtlgccpjccopdmaaGreatDoor
