/- Part 27 of 48: lemmas of the last part, each under the conditions that it names. -/
import Derived.Test.YtffoddpjfgjelaaGreatDoorQ20
import Derived.Test.YtffoddpjfgjelaaGreatDoorQ26
set_option linter.unusedVariables false
set_option linter.unusedSimpArgs false
set_option maxRecDepth 1500
namespace Go.Proofs.YtffoddpjfgjelaaGreatDoor
open Go.RowKit
namespace En
open Mem Rc St Lz
def matOps(u a b:Nat):Nat→Nat→Bool→List Op
 |0,_,_=>[]
 |k+1,m,same=>.bit 6 (a+m+if same then 256*(1+u/2^k%2) else 0) (b/2^k%2)::matOps u a b k (2*m+b/2^k%2) (same&&decide (b/2^k%2=u/2^k%2))
def litOps(c:C)(b:Nat):List Op:=if c.s.num<7 then treeOps false 6 c.context 8 b 8 1 else matOps (c.lastB c.s.r0) c.context b 8 1 true
def lenOps(c:C)(q n:Nat):List Op:=
 if n<10 then[.bit q 0 0]++treeOps false (q+1) (8*c.place) 3 (n-2) 3 1
 else if n<18 then[.bit q 0 1]++([.bit q 1 0]++treeOps false (q+2) (8*c.place) 3 (n-10) 3 1)
 else[.bit q 0 1]++([.bit q 1 1]++treeOps false (q+3) 0 8 (n-18) 8 1)
def restOps(slot r:Nat):List Op:=
 if(range slot).2=0 then[] else if slot<14 then treeOps true 16 (restAt slot) (range slot).2 r (range slot).2 1
 else halves (r/16) ((range slot).2-4)++treeOps true 17 0 4 (r%16) 4 1
def distOps(n slot d:Nat):List Op:=treeOps false 15 (slotAt n) 6 slot 6 1++restOps slot (d-(range slot).1)
def repOps(c:C)(i n:Nat):List Op:=
 [.bit 0 c.at 1]++([.bit 2 c.s.num 1]++(if i=0 then[.bit 3 c.s.num 0]++([.bit 1 c.at 1]++lenOps c 11 n)
  else if i=1 then[.bit 3 c.s.num 1]++([.bit 4 c.s.num 0]++lenOps c 11 n) else[.bit 3 c.s.num 1]++([.bit 4 c.s.num 1]++([.bit 5 c.s.num (i-2)]++lenOps c 11 n))))
def slotOf(d:Nat):Nat:=if d≤4 then d-1 else 2*Nat.log2 (d-1)+(d-1)/2^(Nat.log2 (d-1)-1)%2
def symOps(c:C)(y:Sy):List Op:=
 if y.kind=1 then[.bit 0 c.at 0]++litOps c y.byte
 else if y.kind=2 then[.bit 0 c.at 1]++([.bit 2 c.s.num 0]++(lenOps c 7 y.len++distOps y.len (slotOf y.dist) y.dist))
 else if y.kind=3 then repOps c y.dist y.len
 else[.bit 0 c.at 1]++([.bit 2 c.s.num 1]++([.bit 3 c.s.num 0]++[.bit 1 c.at 0]))
def norm(y:Sy):Sy:=if y.kind=1 then⟨1,y.byte,0,0⟩ else if y.kind=2 then⟨2,0,y.len,y.dist⟩ else if y.kind=3 then⟨3,0,y.len,y.dist⟩ else⟨4,0,0,0⟩
theorem place_lt(c:C)(h:c.Ok):c.place<16:=by
 unfold C.place
 have h1:c.all.length%2^c.pb<2^c.pb:=Nat.mod_lt _ (Nat.two_pow_pos _)
 have h2:2^c.pb≤2^4:=Nat.pow_le_pow_right (by omega) h.pb
 omega
theorem at_lt(c:C)(h:c.Ok):c.at<192:=by
 have h1:=place_lt c h
 have h2:=h.s.num
 unfold C.at
 omega
theorem last_lt(c:C)(d:Nat):c.lastB d<256:=by
 unfold C.lastB Win.last
 split
 ·exact UInt8.toNat_lt _
 ·simp
theorem context_le(c:C):c.context+768≤768*2^(c.lc+c.lp)∨8<c.lc:=by
 by_cases h8:8<c.lc
 ·exact .inr h8
 refine .inl ?_
 unfold C.context
 have h1:c.all.length%2^c.lp<2^c.lp:=Nat.mod_lt _ (Nat.two_pow_pos _)
 have h3:c.lastB 1/2^(8-c.lc)<2^c.lc:=by
  rw[Nat.div_lt_iff_lt_mul (Nat.two_pow_pos _),←Nat.pow_add,show c.lc+(8-c.lc)=8 by omega]
  exact last_lt c 1
 have h4:c.all.length%2^c.lp*2^c.lc+2^c.lc≤2^(c.lc+c.lp):=by
  rw[Nat.pow_add,Nat.mul_comm (2^c.lc)]
  have:(c.all.length%2^c.lp+1)*2^c.lc≤2^c.lp*2^c.lc:=Nat.mul_le_mul_right _ h1
  rw[Nat.add_mul,Nat.one_mul] at this
  exact this
 omega
theorem mat_reads{lc lp:Nat}(u a b:Nat)(ha:a+768≤768*2^(lc+lp)):∀(k n m:Nat)(same:Bool),n+k=8→2^n≤m→m<2^(n+1)→Reads lc lp (matOps u a b k m same) (litGo u a k m same) (m*2^k+b%2^k)
 |0,n,m,same,hn,h1,h2=>by
   have:=Reads.nil (lc:=lc) (lp:=lp) m
   exact this.of (fun _=>rfl) (by simp[Nat.mod_one])
 |k+1,n,m,same,hn,h1,h2=>by
   have hb:b/2^k%2≤1:=by omega
   have hm:m<256:=Nat.lt_of_lt_of_le h2 (Nat.pow_le_pow_right (n:=2) (by omega) (show n+1≤8 by omega))
   have hi:(a+m+if same then 256*(1+u/2^k%2) else 0)<Lz.rowLen lc lp 6:=by
    have e:Lz.rowLen lc lp 6=768*2^(lc+lp):=rfl
    rw[e]
    split<;>omega
   rw[Nat.pow_succ] at h2
   have ih:=mat_reads (lc:=lc) (lp:=lp) u a b ha k (n+1) (2*m+b/2^k%2) (same&&decide (b/2^k%2=u/2^k%2)) (by omega) (by rw[Nat.pow_succ];omega) (by rw[Nat.pow_succ,Nat.pow_succ];omega)
   have h0:=bit_reads (lc:=lc) (lp:=lp) (j:=6) (by omega) hi hb
   refine(h0.bind (g2:=fun v y=>litGo u a k (2*m+v) (same&&decide (v=u/2^k%2)) y) ih).of (fun _=>rfl) ?_
   have hq:=Nat.mod_mul (x:=b) (a:=2^k) (b:=2)
   rw[Nat.pow_succ,hq,Nat.add_mul,Nat.mul_comm 2 m,Nat.mul_assoc,Nat.mul_comm (b/2^k%2),Nat.mul_comm 2 (2^k)]
   omega
theorem lit_reads(c:C)(hc:c.Ok){b:Nat}(hb:b<256):Reads c.lc c.lp (litOps c b) (fun y=>y.literal c) b:=by
 have hx:c.context+768≤768*2^(c.lc+c.lp):=(context_le c).resolve_right (by have:=hc.l;omega)
 unfold litOps
 by_cases h:c.s.num<7
 ·rw[if_pos h]
  refine(tree_reads (lc:=c.lc) (lp:=c.lp) false (j:=6) (a:=c.context) (n:=8) (x:=b) (by omega) hb (by omega) (by show c.context+2^8≤768*2^(c.lc+c.lp);omega)).of (fun y=> ?_) rfl
  unfold Y.literal
  rw[if_pos h]
 ·rw[if_neg h]
  have:=(mat_reads (lc:=c.lc) (lp:=c.lp) (c.lastB c.s.r0) c.context b hx 8 0 1 true rfl (by omega) (by omega)).map (fun v=>v-256)
  refine this.of (fun y=> ?_) (by omega)
  unfold Y.literal
  rw[if_neg h]
theorem len_reads(c:C)(hc:c.Ok){q n:Nat}(hq:q=7∨q=11)(h1:2≤n)(h2:n≤273):Reads c.lc c.lp (lenOps c q n) (fun y=>y.length c q) n:=by
 have hp:=place_lt c hc
 have B:=fun(i b:Nat)(hi:i<2)(hb:b≤1)=>bit_reads (lc:=c.lc) (lp:=c.lp) (j:=q) (i:=i) (b:=b) (by omega) (by rcases hq with rfl|rfl<;>exact hi) hb
 have T:=fun(d a m x:Nat)(hx:x<2^m)(hm:m≤16)(ha:a+2^m≤Lz.rowLen c.lc c.lp (q+d))(hd:d≤3)=>tree_reads (lc:=c.lc) (lp:=c.lp) false (j:=q+d) (a:=a) (n:=m) (x:=x) (by omega) hx hm ha
 unfold lenOps
 by_cases k1:n<10
 ·rw[if_pos k1]
  have:=(B 0 0 (by omega) (by omega)).bind (g2:=fun v y=>if v=0 then((fun v=>2+v) (y.tree false (q+1) (8*c.place) 3).1,(y.tree false (q+1) (8*c.place) 3).2) else
   if(y.bit q 1).1=0 then(10+((y.bit q 1).2.tree false (q+2) (8*c.place) 3).1,((y.bit q 1).2.tree false (q+2) (8*c.place) 3).2) else(18+((y.bit q 1).2.tree false (q+3) 0 8).1,((y.bit q 1).2.tree false (q+3) 0 8).2)) (v2:=2+(n-2))
   (((T 1 (8*c.place) 3 (n-2) (by omega) (by omega) (by rcases hq with rfl|rfl<;>show _≤128<;>omega) (by omega)).map (fun v=>2+v)).of (fun _=>by rw[if_pos rfl]) rfl)
  exact this.of (fun _=>rfl) (by omega)
 rw[if_neg k1]
 by_cases k2:n<18
 ·rw[if_pos k2]
  have:=(B 0 1 (by omega) (by omega)).bind (g2:=fun v y=>if v=0 then(2+(y.tree false (q+1) (8*c.place) 3).1,(y.tree false (q+1) (8*c.place) 3).2) else
   if(y.bit q 1).1=0 then(10+((y.bit q 1).2.tree false (q+2) (8*c.place) 3).1,((y.bit q 1).2.tree false (q+2) (8*c.place) 3).2) else(18+((y.bit q 1).2.tree false (q+3) 0 8).1,((y.bit q 1).2.tree false (q+3) 0 8).2)) (v2:=10+(n-10))
   (((B 1 0 (by omega) (by omega)).bind (g2:=fun v y=>if v=0 then(10+(y.tree false (q+2) (8*c.place) 3).1,(y.tree false (q+2) (8*c.place) 3).2) else(18+(y.tree false (q+3) 0 8).1,(y.tree false (q+3) 0 8).2)) (v2:=10+(n-10))
     (((T 2 (8*c.place) 3 (n-10) (by omega) (by omega) (by rcases hq with rfl|rfl<;>show _≤128<;>omega) (by omega)).map (fun v=>10+v)).of (fun _=>by rw[if_pos rfl]) rfl)).of (fun _=>by rw[if_neg (by decide)]) rfl)
  exact this.of (fun _=>rfl) (by omega)
 ·rw[if_neg k2]
  have:=(B 0 1 (by omega) (by omega)).bind (g2:=fun v y=>if v=0 then(2+(y.tree false (q+1) (8*c.place) 3).1,(y.tree false (q+1) (8*c.place) 3).2) else
   if(y.bit q 1).1=0 then(10+((y.bit q 1).2.tree false (q+2) (8*c.place) 3).1,((y.bit q 1).2.tree false (q+2) (8*c.place) 3).2) else(18+((y.bit q 1).2.tree false (q+3) 0 8).1,((y.bit q 1).2.tree false (q+3) 0 8).2)) (v2:=18+(n-18))
   (((B 1 1 (by omega) (by omega)).bind (g2:=fun v y=>if v=0 then(10+(y.tree false (q+2) (8*c.place) 3).1,(y.tree false (q+2) (8*c.place) 3).2) else(18+(y.tree false (q+3) 0 8).1,(y.tree false (q+3) 0 8).2)) (v2:=18+(n-18))
     (((T 3 0 8 (n-18) (by omega) (by omega) (by rcases hq with rfl|rfl<;>show _≤256<;>omega) (by omega)).map (fun v=>18+v)).of (fun _=>by rw[if_neg (by decide)]) rfl)).of (fun _=>by rw[if_neg (by decide)]) rfl)
  exact this.of (fun _=>rfl) (by omega)
theorem restAt_le:∀s:Fin 14,4≤s.val→restAt s.val+2^(range s.val).2≤128:=by decide+kernel
theorem rest_reads{lc lp slot d:Nat}(hs:slot<64)(h1:(range slot).1≤d)(h2:d<(range slot).1+2^(range slot).2):Reads lc lp (restOps slot (d-(range slot).1)) (fun y=>y.rest slot) d:=by
 have hr:=range_le ⟨slot,hs⟩
 simp only at hr
 obtain⟨r1,r2,r3,r4,r5⟩:=hr
 unfold restOps
 by_cases k0:(range slot).2=0
 ·rw[if_pos k0]
  rw[k0] at h2
  refine(Reads.nil (lc:=lc) (lp:=lp) d).of (fun y=> ?_) rfl
  unfold Y.rest
  rw[if_pos k0]
  simp only[Prod.mk.injEq,and_true]
  omega
 rw[if_neg k0]
 by_cases k1:slot<14
 ·rw[if_pos k1]
  have h4:4≤slot:=by
   unfold range at k0
   split at k0
   ·exact absurd rfl k0
   ·omega
  have:=(tree_reads (lc:=lc) (lp:=lp) true (j:=16) (a:=restAt slot) (n:=(range slot).2) (x:=d-(range slot).1) (by omega) (by omega) (by omega) (restAt_le ⟨slot,k1⟩ h4)).map (fun v=>(range slot).1+v)
  refine this.of (fun y=> ?_) (by omega)
  unfold Y.rest
  rw[if_neg k0,if_pos k1]
 ·rw[if_neg k1]
  have e:2^(range slot).2=2^((range slot).2-4)*16:=by
   rw[show(16:Nat)=2^4 by rfl,←Nat.pow_add]
   congr 1
   have:=r4 (by omega)
   omega
  have A:=direct_reads (lc:=lc) (lp:=lp) (x:=(d-(range slot).1)/16) (n:=(range slot).2-4) (by omega)
  have B:=tree_reads (lc:=lc) (lp:=lp) true (j:=17) (a:=0) (n:=4) (x:=(d-(range slot).1)%16) (by omega) (by omega) (by omega) (show 0+2^4≤16 by decide)
  have:=A.bind (g2:=fun v y=>((range slot).1+v*16+(y.tree true 17 0 4).1,(y.tree true 17 0 4).2)) (B.map (fun x=>(range slot).1+(d-(range slot).1)/16*16+x))
  refine this.of (fun y=> ?_) (by omega)
  unfold Y.rest
  rw[if_neg k0,if_neg k1]
theorem dist_reads{lc lp n slot d:Nat}(hn:2≤n)(hs:slot<64)(h1:(range slot).1≤d)(h2:d<(range slot).1+2^(range slot).2):Reads lc lp (distOps n slot d) (fun y=>y.dist n) d:=by
 have A:=tree_reads (lc:=lc) (lp:=lp) false (j:=15) (a:=slotAt n) (n:=6) (x:=slot) (by omega) hs (by omega) (by show slotAt n+2^6≤256;unfold slotAt;omega)
 exact(A.bind (g2:=fun v y=>y.rest v) (rest_reads hs h1 h2)).of (fun _=>rfl) rfl
theorem slotOf_in{d:Nat}(h1:1≤d)(h2:d≤4294967295):slotOf d<64∧(range (slotOf d)).1≤d∧d<(range (slotOf d)).1+2^(range (slotOf d)).2:=by
 unfold slotOf
 by_cases h4:d≤4
 ·rw[if_pos h4]
  unfold range
  rw[if_pos (by omega)]
  simp only
  omega
 rw[if_neg h4]
 have hx:d-1≠0:=by omega
 have k1:=(Nat.le_log2 hx (k:=2)).2 (by omega)
 have k2:=(Nat.log2_lt hx (k:=32)).2 (by omega)
 have k3:=Nat.log2_self_le hx
 have k4:=Nat.lt_log2_self (n:=d-1)
 generalize Nat.log2 (d-1)=k at*
 obtain⟨j,rfl⟩:∃j,k=j+1:=⟨k-1,by omega⟩
 have hp:=Nat.two_pow_pos j
 have e1:2^(j+1)=2^j*2:=Nat.pow_succ ..
 have e2:2^(j+1+1)=2^j*2*2:=by rw[Nat.pow_succ,Nat.pow_succ]
 rw[e1] at k3
 rw[e2] at k4
 have hq1:2≤(d-1)/2^j:=(Nat.le_div_iff_mul_le hp).2 (by omega)
 have hq2:(d-1)/2^j<4:=(Nat.div_lt_iff_lt_mul hp).2 (by omega)
 have hdm:=Nat.div_add_mod (d-1) (2^j)
 have hml:=Nat.mod_lt (d-1) hp
 simp only[Nat.add_sub_cancel]
 unfold range
 rw[if_neg (by omega)]
 have e3:(2*(j+1)+(d-1)/2^j%2)/2-1=j:=by omega
 have e4:2+(2*(j+1)+(d-1)/2^j%2)%2=(d-1)/2^j:=by omega
 simp only[e3,e4]
 rw[Nat.mul_comm] at hdm
 exact⟨by omega,by omega,by omega⟩
structure May(c:C)(y:Sy):Prop where
 kind:y.kind=1∨y.kind=2∨y.kind=3∨y.kind=4
 byte:y.byte<256
 len:y.kind=2∨y.kind=3→isL y.len
 dist:y.kind=2→isD y.dist
 rep:y.kind=3→y.dist≤3
theorem sym_reads(c:C)(hc:c.Ok){y:Sy}(h:May c y):Reads c.lc c.lp (symOps c y) (fun x=>x.symbol c) (norm y):=by
 have hat:=at_lt c hc
 have hnum:=hc.s.num
 have B:=fun(j i b:Nat)(hj:j=0∧i=c.at∨j=1∧i=c.at∨(2≤j∧j≤5)∧i=c.s.num)(hb:b≤1)=>bit_reads (lc:=c.lc) (lp:=c.lp) (j:=j) (i:=i) (b:=b) (by omega) (by
  unfold Lz.rowLen
  rcases hj with⟨rfl,rfl⟩|⟨rfl,rfl⟩|⟨h1,rfl⟩
  ·exact hat
  ·exact hat
  ·rw[if_neg (by omega),if_pos (by omega)]
   omega) hb
 have b01:=B 0 c.at 1 (by omega) (by omega)
 unfold symOps norm
 by_cases k1:y.kind=1
 ·rw[if_pos k1,if_pos k1]
  exact((B 0 c.at 0 (by omega) (by omega)).bind (g2:=fun v x=>if v=0 then x.lit c else x.symbol1 c) (((lit_reads c hc h.byte).map (fun b=>(⟨1,b,0,0⟩:Sy))).of (fun _=>rfl) rfl)).of (fun _=>rfl) rfl
 rw[if_neg k1,if_neg k1]
 by_cases k2:y.kind=2
 ·rw[if_pos k2,if_pos k2]
  have hl:=h.len (.inl k2)
  have hd:=h.dist k2
  obtain⟨s1,s2,s3⟩:=slotOf_in hd.1 hd.2
  have hL:=len_reads c hc (.inl rfl:7=7∨7=11) hl.1 hl.2
  have hD:=dist_reads (lc:=c.lc) (lp:=c.lp) hl.1 s1 s2 s3
  exact(b01.bind (g2:=fun v x=>if v=0 then x.lit c else x.symbol1 c) (((B 2 c.s.num 0 (by omega) (by omega)).bind (g2:=fun v x=>if v=0 then x.match c else x.symbol2 c)
   ((hL.bind (g2:=fun n x=>((⟨2,0,n,(x.dist n).1⟩:Sy),(x.dist n).2)) (hD.map (fun d=>(⟨2,0,y.len,d⟩:Sy)))).of (fun _=>rfl) rfl)).of (fun _=>rfl) rfl)).of (fun _=>rfl) rfl
 rw[if_neg k2,if_neg k2]
 have b21:=B 2 c.s.num 1 (by omega) (by omega)
 have b30:=B 3 c.s.num 0 (by omega) (by omega)
 by_cases k3:y.kind=3
 ·rw[if_pos k3,if_pos k3]
  have hl:=h.len (.inr k3)
  have hr:=h.rep k3
  have hL:=len_reads c hc (.inr rfl:11=7∨11=11) hl.1 hl.2
  have R:=fun i:Nat=>(hL.map (fun n=>(⟨3,0,n,i⟩:Sy)))
  unfold repOps
  refine(b01.bind (g2:=fun v x=>if v=0 then x.lit c else x.symbol1 c) ((b21.bind (g2:=fun v x=>if v=0 then x.match c else x.symbol2 c) (v2:=⟨3,0,y.len,y.dist⟩) ?_).of (fun _=>rfl) rfl)).of (fun _=>rfl) rfl
  by_cases d0:y.dist=0
  ·rw[if_pos d0,d0]
   exact(b30.bind (g2:=fun v x=>if v=0 then x.short c else x.older c) (((B 1 c.at 1 (by omega) (by omega)).bind (g2:=fun v x=>if v=0 then(⟨4,0,0,0⟩,x) else x.repeat c 0) ((R 0).of (fun _=>rfl) rfl)).of (fun _=>rfl) rfl)).of (fun _=>rfl) rfl
  rw[if_neg d0]
  have b31:=B 3 c.s.num 1 (by omega) (by omega)
  by_cases d1:y.dist=1
  ·rw[if_pos d1,d1]
   exact(b31.bind (g2:=fun v x=>if v=0 then x.short c else x.older c) (((B 4 c.s.num 0 (by omega) (by omega)).bind (g2:=fun v x=>if v=1 then(x.bit 5 c.s.num).2.repeat c (2+(x.bit 5 c.s.num).1) else x.repeat c 1) ((R 1).of (fun _=>rfl) rfl)).of (fun _=>rfl) rfl)).of (fun _=>rfl) rfl
  rw[if_neg d1]
  exact(b31.bind (g2:=fun v x=>if v=0 then x.short c else x.older c) (((B 4 c.s.num 1 (by omega) (by omega)).bind (g2:=fun v x=>if v=1 then(x.bit 5 c.s.num).2.repeat c (2+(x.bit 5 c.s.num).1) else x.repeat c 1)
   (((B 5 c.s.num (y.dist-2) (by omega) (by omega)).bind (g2:=fun v x=>x.repeat c (2+v)) ((R (2+(y.dist-2))).of (fun _=>rfl) rfl)).of (fun _=>rfl) rfl)).of (fun _=>rfl) rfl)).of (fun _=>rfl) (by congr 1;omega)
 rw[if_neg k3,if_neg k3]
 exact(b01.bind (g2:=fun v x=>if v=0 then x.lit c else x.symbol1 c) ((b21.bind (g2:=fun v x=>if v=0 then x.match c else x.symbol2 c) ((b30.bind (g2:=fun v x=>if v=0 then x.short c else x.older c) (v2:=(⟨4,0,0,0⟩:Sy))
  (((B 1 c.at 0 (by omega) (by omega)).bind (g2:=fun v x=>if v=0 then((⟨4,0,0,0⟩:Sy),x) else x.repeat c 0) (l:=[.bit 1 c.at 0]) (m:=[]) (Reads.nil _)).of (fun _=>rfl) rfl)).of (fun _=>rfl) rfl)).of (fun _=>rfl) rfl)).of (fun _=>rfl) rfl
end En
namespace En
open Mem Rc St Lz
structure Xe where
 c:C
 e:Es
def Xe.ap(x:Xe)(y:Sy):Nat×List UInt8×S:=apply x.c.size x.c.all x.c.s y
def Xe.put(x:Xe)(y:Sy):Xe:=⟨(x.c.on (x.ap y).2.1).to (x.ap y).2.2,x.e.run (symOps x.c y)⟩
def Xe.putAll:List Sy→Xe→Xe
 |[],x=>x
 |y::l,x=>putAll l (x.put y)
def Xe.made:List Sy→Xe→List UInt8
 |[],_=>[]
 |y::l,x=>(x.ap y).2.1++made l (x.put y)
def Legal:List Sy→Xe→Prop
 |[],_=>True
 |y::l,x=>May x.c y∧(x.ap y).1=0∧Legal l (x.put y)
structure Xe.Ok(x:Xe):Prop where
 c:x.c.Ok
 e:x.e.Ok x.c.lc x.c.lp
theorem Xe.Ok.put{x:Xe}(h:x.Ok){y:Sy}(hy:May x.c y)(h0:(x.ap y).1=0):(x.put y).Ok:=
 ⟨⟨h.c.l,h.c.pb,apply_ok h0 h.c.s⟩,(h.e.run (sym_reads x.c h.c hy).1).1⟩
theorem Xe.Ok.putAll:∀{l:List Sy}{x:Xe},x.Ok→Legal l x→(x.putAll l).Ok∧x.e.k.In (x.putAll l).e.k∧(x.putAll l).c.lc=x.c.lc∧(x.putAll l).c.lp=x.c.lp
 |[],x,h,_=>⟨h,.refl _,rfl,rfl⟩
 |y::l,x,h,⟨h1,h2,h3⟩=>by
   have ih:=(h.put h1 h2).putAll h3
   exact⟨ih.1,((h.e.run (sym_reads x.c h.c h1).1).2).trans ih.2.1,ih.2.2⟩
theorem apply_norm(size:Nat)(all:List UInt8)(s:S){y:Sy}(hk:y.kind=1∨y.kind=2∨y.kind=3∨y.kind=4):apply size all s (norm y)=apply size all s y∧St.size (norm y)=St.size y:=by
 obtain⟨k,b,n,d⟩:=y
 simp only at hk
 rcases hk with rfl|rfl|rfl|rfl
 ·exact⟨by simp[norm,apply,S.next],by simp[norm,St.size,S.next]⟩
 ·exact⟨by simp[norm,apply,S.next,distOf,lenOfSy],by simp[norm,St.size,S.next]⟩
 ·exact⟨by simp[norm,apply,S.next,distOf,lenOfSy],by simp[norm,St.size,S.next]⟩
 ·exact⟨by simp[norm,apply,S.next,distOf,lenOfSy],by simp[norm,St.size,S.next]⟩
theorem size_pos{y:Sy}{c:C}(h:May c y):1≤St.size y:=by
 obtain⟨k,b,n,d⟩:=y
 have hk:=h.kind
 have hl:=h.len
 have hd:=h.dist
 simp only at hk hl hd
 rcases hk with rfl|rfl|rfl|rfl
 ·simp[St.size,S.next]
 ·have h1:=hl (.inl rfl)
  have e:St.size ⟨2,b,n,d⟩=n:=by
   have e:(S.new.next ⟨2,b,n,d⟩).1=0:=by unfold S.next;rw[if_neg (by simp),if_neg (by simp),if_pos rfl,if_pos h1,if_pos (hd rfl)]
   unfold St.size
   rw[e,if_pos rfl,if_pos (.inl rfl)]
  omega
 ·have h1:=hl (.inr rfl)
  have e:St.size ⟨3,b,n,d⟩=n:=by
   have e:(S.new.next ⟨3,b,n,d⟩).1=0:=by unfold S.next;rw[if_neg (by simp),if_neg (by simp),if_neg (by simp),if_pos h1]
   unfold St.size
   rw[e,if_pos rfl,if_pos (.inr rfl)]
  omega
 ·simp[St.size,S.next]
theorem take_go{f:K}(hf:0<f.r):∀(l:List Sy)(x:Xe)(y:Y)(q n:Nat)(ls:List Sy)(out:List UInt8),x.Ok→Legal l x→Syn f x.c.lc x.c.lp x.e y→(x.putAll l).e.k=f→l.length<q→n=out.length+(x.made l).length→
 ∃y2,takeGo n q x.c y ls out=some ((x.putAll l).c,y2,ls++l.map norm,out++x.made l)∧Syn f x.c.lc x.c.lp (x.putAll l).e y2
 |[],x,y,q,n,ls,out,h,hl,hs,hf2,hq,hn=>by
   obtain⟨q,rfl⟩:∃p,q=p+1:=⟨q-1,by simp at hq;omega⟩
   refine⟨y,?_,hs⟩
   simp only[Xe.made,List.length_nil] at hn
   rw[takeGo,if_pos (by omega)]
   simp[Xe.putAll,Xe.made]
 |z::l,x,y,q,n,ls,out,h,⟨h1,h2,h3⟩,hs,hf2,hq,hn=>by
   obtain⟨q,rfl⟩:∃p,q=p+1:=⟨q-1,by simp at hq;omega⟩
   have hr:=sym_reads x.c h.c h1
   have hp:=h.put h1 h2
   have hin:(x.e.run (symOps x.c z)).k.In f:=by
    rw[←hf2]
    exact(hp.putAll h3).2.1
   obtain⟨r1,r2⟩:=hr.2 f x.e y hf hs hin
   simp only at r1 r2
   obtain⟨a1,a2⟩:=apply_norm x.c.size x.c.all x.c.s h1.kind
   have hlen:(x.ap z).2.1.length=St.size z:=apply_len h2 h1.kind
   have hsz:=size_pos h1
   rw[Xe.made,List.length_append,hlen] at hn
   obtain⟨y2,e2,s2⟩:=take_go hf l (x.put z) (y.symbol x.c).2 q n (ls++[norm z]) (out++(x.ap z).2.1) hp h3 r2 hf2 (by simp at hq;omega) (by rw[List.length_append,hlen];omega)
   refine⟨y2,?_,s2⟩
   rw[takeGo,if_neg (by omega),r1,r2.bad,a1,a2,if_neg (by
    rintro(h|h|h)
    ·cases h
    ·omega
    ·omega),if_neg (by
    show¬(x.ap z).1≠0
    rw[h2]
    simp)]
   rw[show takeGo n q ((x.c.on (apply x.c.size x.c.all x.c.s z).2.1).to (apply x.c.size x.c.all x.c.s z).2.2) (y.symbol x.c).2 (ls++[norm z]) (out++(apply x.c.size x.c.all x.c.s z).2.1)=takeGo n q (x.put z).c (y.symbol x.c).2 (ls++[norm z]) (out++(x.ap z).2.1) from rfl,e2]
   simp[Xe.made,Xe.putAll,Xe.put]
theorem made_len:∀{l:List Sy}{x:Xe},Legal l x→l.length≤(x.made l).length
 |[],_,_=>Nat.zero_le _
 |y::l,x,⟨h1,h2,h3⟩=>by
   have ih:=made_len h3
   have h4:(x.ap y).2.1.length=St.size y:=apply_len h2 h1.kind
   have h5:=size_pos h1
   rw[Xe.made,List.length_append,List.length_cons]
   omega
theorem take_put{x:Xe}(h:x.Ok)(hk:x.e.k=K.new){l:List Sy}(hl:Legal l x):takeAll x.c x.e.ps (x.putAll l).e.k.bytes (x.made l).length=some (l.map norm,x.made l,(x.putAll l).c,(x.putAll l).e.ps):=by
 have hp:=h.putAll hl
 have hf:0<(x.putAll l).e.k.r:=by have:=hp.1.e.k.lo;omega
 have hin:=hp.2.1
 rw[hk] at hin
 obtain⟨d,h1,h2⟩:=init_sync hin hf
 rw[←hk] at h2
 have hml:=made_len hl
 obtain⟨y2,e2,s2⟩:=take_go hf l x ⟨d,false,x.e.ps⟩ ((x.made l).length+1) (x.made l).length [] [] h hl ⟨h2,rfl,rfl,h.e⟩ rfl (by omega) (by simp)
 have hfin:=Sync.fin s2.s
 unfold takeAll
 rw[h1]
 simp only
 rw[e2]
 simp only
 rw[if_pos hfin,s2.ps]
 simp
end En
namespace En
open Mem Rc St Lz Ck Wire
theorem split3(n:Nat)(h:1≤n):(n-1)/65536*65536+((n-1)/256%256*256+(n-1)%256)+1=n:=by omega
theorem split2(n:Nat)(h:1≤n):(n-1)/256*256+(n-1)%256+1=n:=by omega
structure HeadOk(h:Head):Prop where
 kind:1≤h.kind∧h.kind≤6
 raw:h.kind≤2→1≤h.size∧h.size≤65536∧h.packed=h.size
 packed:3≤h.kind→1≤h.size∧h.size≤2097152∧1≤h.packed∧h.packed≤65536
 props:h.lc+h.lp≤4∧h.pb≤4
 none:h.kind<5→h.lc=0∧h.lp=0∧h.pb=0
theorem toN{x:Nat}(h:x<256):(UInt8.ofNat x).toNat=x:=by rw[UInt8.toNat_ofNat'];omega
theorem props_back:∀pb:Fin 5,∀lc:Fin 5,∀lp:Fin 5,lc.val+lp.val≤4→bytePropsOk ((5*pb.val+lp.val)*9+lc.val)=true∧((5*pb.val+lp.val)*9+lc.val)%9=lc.val∧((5*pb.val+lp.val)*9+lc.val)/9%5=lp.val∧((5*pb.val+lp.val)*9+lc.val)/45=pb.val∧(5*pb.val+lp.val)*9+lc.val<256:=by decide+kernel
theorem beV_two(a b c:UInt8)(t:List UInt8):beV (a::b::t) 2=a.toNat*256+b.toNat:=by simp[beV]
theorem get_head{h:Head}(hh:HeadOk h)(t:List UInt8)(ht:1≤t.length):Ck.get ((headB h++t).take 6)=(h,(headB h).length,0)∧kindOf ((headB h++t).getD 0 0).toNat=some h.kind:=by
 obtain⟨⟨k1,k2⟩,hr,hp,⟨q1,q2⟩,hn⟩:=hh
 obtain⟨kind,size,packed,lc,lp,pb⟩:=h
 simp only at*
 by_cases hk:kind≤2
 ·obtain⟨r1,r2,rfl⟩:=hr hk
  obtain⟨rfl,rfl,rfl⟩:=hn (by omega)
  have e:headB ⟨kind,packed,packed,0,0,0⟩=[UInt8.ofNat kind,UInt8.ofNat ((packed-1)/256),UInt8.ofNat ((packed-1)%256)]:=by
   unfold headB
   rw[if_neg (by simp only;omega),if_pos hk]
  rw[e]
  have hl:3≤(([UInt8.ofNat kind,UInt8.ofNat ((packed-1)/256),UInt8.ofNat ((packed-1)%256)]++t).take 6).length:=by simp
  obtain⟨t',ht'⟩:∃t',([UInt8.ofNat kind,UInt8.ofNat ((packed-1)/256),UInt8.ofNat ((packed-1)%256)]++t).take 6=UInt8.ofNat kind::UInt8.ofNat ((packed-1)/256)::UInt8.ofNat ((packed-1)%256)::t':=⟨t.take 3,by simp⟩
  rw[ht'] at hl ⊢
  refine⟨?_,?_⟩
  ·unfold Ck.get
   simp only[List.getD_cons_zero,toN (show kind<256 by omega),List.drop_succ_cons,List.drop_zero]
   rw[if_neg (by simp),if_neg (by omega),if_pos hk,if_neg (by simp),beV_two _ _ 0,toN (by omega),toN (by omega),show(packed-1)/256*256+(packed-1)%256+1=packed by omega]
   rfl
  ·simp only[List.cons_append,List.getD_cons_zero,toN (show kind<256 by omega)]
   unfold kindOf
   rw[if_pos hk]
 ·obtain⟨r1,r2,r3,r4⟩:=hp (by omega)
  have hx:128+32*(kind-3)+(size-1)/65536<256:=by omega
  have hm32:(size-1)/65536<32:=by omega
  have hx2:(128+32*(kind-3)+(size-1)/65536-128)/32=kind-3:=by generalize(size-1)/65536=m at*;clear hr hp hn;omega
  have hx3:(128+32*(kind-3)+(size-1)/65536)%32=(size-1)/65536:=by generalize(size-1)/65536=m at*;clear hr hp hn;omega
  have hsz:(size-1)/65536*65536+((size-1)/256%256*256+(size-1)%256)+1=size:=split3 size r1
  have hpk:(packed-1)/256*256+(packed-1)%256+1=packed:=split2 packed r3
  have hkd:3+(128+32*(kind-3)+(size-1)/65536-128)/32=kind:=by rw[hx2];omega
  obtain⟨t',ht',h5⟩:∃t',(headB ⟨kind,size,packed,lc,lp,pb⟩++t).take 6=UInt8.ofNat (128+32*(kind-3)+(size-1)/65536)::UInt8.ofNat ((size-1)/256%256)::UInt8.ofNat ((size-1)%256)::UInt8.ofNat ((packed-1)/256)::UInt8.ofNat ((packed-1)%256)::t'∧
   (kind<5∧(headB ⟨kind,size,packed,lc,lp,pb⟩).length=5∨5≤kind∧(headB ⟨kind,size,packed,lc,lp,pb⟩).length=6∧t'=[UInt8.ofNat ((5*pb+lp)*9+lc)]):=by
   unfold headB
   rw[if_neg (by simp only;omega),if_neg hk]
   by_cases h5:kind<5
   ·rw[if_pos h5]
    exact⟨t.take 1,by simp,.inl ⟨h5,rfl⟩⟩
   ·rw[if_neg h5]
    exact⟨_,by simp,.inr ⟨by omega,rfl,rfl⟩⟩
  refine⟨?_,?_⟩
  ·rw[ht']
   unfold Ck.get
   simp only[List.getD_cons_zero,toN hx,List.drop_succ_cons,List.drop_zero]
   rw[if_neg (by simp),if_neg (by omega),if_neg (by omega),if_neg (by omega),if_neg (by simp),beV_two _ _ 0,beV_two _ _ 0,toN (by omega),toN (by omega),toN (by omega),toN (by omega),hx3,hsz,hpk,hkd,hx2]
   rcases h5 with⟨h5,hl⟩|⟨h5,hl,rfl⟩
   ·rw[if_pos (by omega),hl]
    obtain⟨rfl,rfl,rfl⟩:=hn h5
    rfl
   ·obtain⟨p1,p2,p3,p4,p5⟩:=props_back ⟨pb,by omega⟩ ⟨lc,by omega⟩ ⟨lp,by omega⟩ q1
    simp only at p1 p2 p3 p4 p5
    rw[if_neg (by omega),if_neg (by simp)]
    simp only[List.getD_cons_succ,List.getD_cons_zero,toN p5,p1,p2,p3,p4,if_true,hl]
  ·have e:(headB ⟨kind,size,packed,lc,lp,pb⟩++t).getD 0 0=UInt8.ofNat (128+32*(kind-3)+(size-1)/65536):=by
    unfold headB
    rw[if_neg (by simp only;omega),if_neg hk]
    rfl
   rw[e,toN hx]
   unfold kindOf
   rw[if_neg (by omega),if_neg (by omega)]
   congr 1
   omega
abbrev Chk:=Head×List UInt8
def rowB:List Chk→List UInt8
 |[]=>[]
 |p::l=>headB p.1++(p.2++rowB l)
def fold{U:Type}(F:U→Head→List UInt8→Option U):List Chk→U→Option U
 |[],u=>some u
 |p::l,u=>(F u p.1 p.2).bind (fold F l)
def moves:List Chk→Nat→Prop
 |[],_=>True
 |p::l,now=>HeadOk p.1∧p.2.length=p.1.packed∧Ck.move now p.1.kind<3∧moves l (Ck.move now p.1.kind)
def readE{U:Type}(F:U→Head→List UInt8→Option U)(b:List UInt8)(packed size:Int):Nat→Sr→U→Except (Nat×Nat) (Nat×U)
 |0,_,_=>.error (0,0)
 |f+1,s,u=>
   if s.now=3 then .ok (s.at',u)
   else match nextP b packed size s with
    |.error x=>.error x
    |.ok (h,part,fr,s2)=>match F u h part with
      |none=>.error (fr,2)
      |some u2=>readE F b packed size f s2 u2
theorem readP_E(b:List UInt8)(packed size:Int):∀(f:Nat)(s:Sr)(u:US),readP b packed size f s u=readE US.step b packed size f s u
 |0,s,u=>rfl
 |f+1,s,u=>by
   unfold readP readE
   split
   ·rfl
   cases nextP b packed size s with
   |error x=>rfl
   |ok r=>
     obtain⟨h,part,fr,s2⟩:=r
     simp only
     cases u.step h part with
     |none=>rfl
     |some u2=>exact readP_E b packed size f s2 u2
theorem beyond_no(n:Nat):beyond (-1) n=false:=by unfold beyond;simp
theorem next_one{b:List UInt8}{s:Sr}{h:Head}{part more:List UInt8}(hh:HeadOk h)(hp:part.length=h.packed)(hb:b.drop s.at'=headB h++(part++more))(hm:Ck.move s.now h.kind≠4):
 nextP b (-1) (-1) s=.ok (h,part,s.at'+(headB h).length,⟨s.at'+(headB h).length+h.packed,s.plain+h.size,Ck.move s.now h.kind⟩):=by
 have hpos:1≤part.length:=by
  rw[hp]
  rcases Nat.lt_or_ge h.kind 3 with k|k
  ·have:=hh.raw (by omega);omega
  ·exact(hh.packed k).2.2.1
 obtain⟨g1,g2⟩:=get_head hh (part++more) (by rw[List.length_append];omega)
 rw[←hb] at g1 g2
 have hlen:=congrArg List.length hb
 rw[List.length_drop,List.length_append,List.length_append] at hlen
 have g3:(b.drop s.at').getD 0 0=b.getD s.at' 0:=by rw[List.getD_eq_getElem?_getD,List.getD_eq_getElem?_getD,List.getElem?_drop,Nat.add_zero]
 rw[g3] at g2
 unfold nextP
 rw[beyond_no,if_neg (by decide),if_neg (by omega),g2]
 simp only
 rw[if_neg hm,if_neg (by have:=hh.kind;omega),g1]
 simp only[beyond_no]
 rw[if_neg (by simp),if_neg (by simp),if_neg (by omega),←List.drop_drop,hb,List.drop_left,List.take_append_of_le_length (by omega),List.take_of_length_le (by omega)]
theorem next_end{b:List UInt8}{s:Sr}{more:List UInt8}(hb:b.drop s.at'=0::more)(hn:s.now<3):
 nextP b (-1) (-1) s=.ok (Head.none,[],s.at'+1,⟨s.at'+1,s.plain,3⟩):=by
 have hlen:=congrArg List.length hb
 rw[List.length_drop,List.length_cons] at hlen
 have g3:(b.drop s.at').getD 0 0=b.getD s.at' 0:=by rw[List.getD_eq_getElem?_getD,List.getD_eq_getElem?_getD,List.getElem?_drop,Nat.add_zero]
 have g1:Ck.get ((b.drop s.at').take 6)=(Head.none,1,0):=by
  rw[hb]
  rfl
 have hm:Ck.move s.now 0=3:=by
  have:∀a:Fin 3,Ck.move a 0=3:=by decide
  exact this ⟨s.now,hn⟩
 rw[hb] at g3
 unfold nextP
 rw[beyond_no,if_neg (by decide),if_neg (by omega),←g3]
 simp only[List.getD_cons_zero]
 rw[show kindOf (0:UInt8).toNat=some 0 from rfl]
 simp only
 rw[hm,if_neg (by decide),if_neg (by unfold ends;simp),g1]
 simp only[beyond_no]
 rw[if_neg (by simp),if_neg (by simp),if_neg (show¬b.length-(s.at'+1)<Head.none.packed by simp[Head.none])]
 rfl
theorem rowB_len{l:List Chk}{now:Nat}(h:moves l now):l.length≤(rowB l).length:=by
 induction l generalizing now with
 |nil=>exact Nat.zero_le _
 |cons p l ih=>
   have h4:=ih h.2.2.2
   have hk:=h.1
   have hp:=h.2.1
   have hpos:1≤p.2.length:=by
    rw[hp]
    rcases Nat.lt_or_ge p.1.kind 3 with k|k
    ·have:=hk.raw (by omega);omega
    ·exact(hk.packed k).2.2.1
   rw[rowB,List.length_append,List.length_append,List.length_cons]
   omega
theorem read_row{U:Type}(F:U→Head→List UInt8→Option U)(b behind:List UInt8):∀(l:List Chk)(f:Nat)(s:Sr)(u u2 u3:U),moves l s.now→s.now<3→b.drop s.at'=rowB l++0::behind→fold F l u=some u2→F u2 Head.none []=some u3→l.length+2≤f→
 readE F b (-1) (-1) f s u=.ok (s.at'+(rowB l).length+1,u3)
 |[],f,s,u,u2,u3,hm,hn,hb,hf,h3,hq=>by
   obtain⟨f,rfl⟩:∃g,f=g+2:=⟨f-2,by simp at hq;omega⟩
   simp only[fold,Option.some.injEq] at hf
   subst hf
   rw[readE,if_neg (by omega),next_end hb hn]
   simp only[h3]
   rw[readE,if_pos rfl]
   rfl
 |p::l,f,s,u,u2,u3,hm,hn,hb,hf,h3,hq=>by
   obtain⟨f,rfl⟩:∃g,f=g+1:=⟨f-1,by simp at hq;omega⟩
   obtain⟨m1,m2,m3,m4⟩:=hm
   rw[rowB,List.append_assoc,List.append_assoc] at hb
   have hx:=next_one m1 m2 hb (by omega)
   simp only[fold] at hf
   cases hF:F u p.1 p.2 with
   |none=>rw[hF] at hf;cases hf
   |some v=>
     rw[hF,Option.bind_some] at hf
     have hb2:b.drop (s.at'+(headB p.1).length+p.1.packed)=rowB l++0::behind:=by
      rw[←List.drop_drop,←List.drop_drop,hb,List.drop_left,←m2,List.drop_left]
     have ih:=read_row F b behind l f ⟨s.at'+(headB p.1).length+p.1.packed,s.plain+p.1.size,Ck.move s.now p.1.kind⟩ v u2 u3 m4 m3 hb2 hf h3 (by simp at hq;omega)
     rw[readE,if_neg (by omega),hx]
     simp only[hF]
     rw[ih,rowB,List.length_append,List.length_append,m2]
     simp only[Except.ok.injEq,Prod.mk.injEq,and_true]
     omega
end En
namespace Cs
open Mem Wire Win Ck
structure US where
 c:Lz.C
 ps:Nat→List Nat
 pr:Nat×Nat×Nat
 out:List (List St.Sy)
def US.clear(u:US):US:={u with c:={u.c.fresh u.c.lc u.c.lp u.c.pb with all:=[]},ps:=Lz.fresh u.c.lc u.c.lp}
def US.props(u:US)(h:Head):US:={u with pr:=(h.lc,h.lp,h.pb)}
def US.reset(u:US):US:={u with c:=u.c.fresh u.pr.1 u.pr.2.1 u.pr.2.2,ps:=Lz.fresh u.pr.1 u.pr.2.1}
def US.raw(u:US)(h:Head)(part:List UInt8):US:={u with c:=u.c.on part,out:=u.out++(if h.kind=0 then[] else[[]])}
def US.take(u:US)(part:List UInt8)(n:Nat):Option US:=(Lz.takeAll u.c u.ps part n).map fun r=>{u with c:=r.2.2.1,ps:=r.2.2.2,out:=u.out++[r.1]}
def US.step(u:US)(h:Head)(part:List UInt8):Option US:=
 if h.kind=0∨h.kind=2 then some (u.raw h part)
 else if h.kind=1 then some (u.clear.raw h part)
 else if h.kind=3 then u.take part h.size
 else if h.kind=4 then u.reset.take part h.size
 else if h.kind=5 then((u.props h).reset).take part h.size
 else((u.clear.props h).reset).take part h.size
def readP(b:List UInt8)(packed size:Int):Nat→Sr→US→Except (Nat×Nat) (Nat×US)
 |0,_,_=>.error (0,0)
 |f+1,s,u=>
   if s.now=3 then .ok (s.at',u)
   else match nextP b packed size s with
    |.error x=>.error x
    |.ok (h,part,fr,s2)=>match u.step h part with
      |none=>.error (fr,2)
      |some u2=>readP b packed size f s2 u2
def US.start(dict:Nat):US:=⟨⟨0,0,0,St.S.new,dict,[]⟩,Lz.fresh 0 0,(0,0,0),[]⟩
def unpackP(b:List UInt8)(dict packed size:Int):Except (Nat×Nat) (Nat×List (List St.Sy)):=
 if dict<1∨4294967295<dict∨packed< -1∨size< -1 then .error (0,7)
 else match readP b packed size (b.length+2) ⟨0,0,0⟩ (US.start dict.toNat) with
  |.error x=>.error x
  |.ok (n,u)=>.ok (n,u.out)
end Cs
end Go.Proofs.YtffoddpjfgjelaaGreatDoor
