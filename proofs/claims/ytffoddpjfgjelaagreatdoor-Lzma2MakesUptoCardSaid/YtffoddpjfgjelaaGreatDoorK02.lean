/- Part 2 of 54: lemmas of the last part, each under the conditions that it names. -/
import Derived.Deep.RegionLaw
import Derived.Deep.QuietTactic
import Derived.BigQuiet
import Derived.LoopN
import Derived.Laws.CopyOwn
import Derived.Deep.DeepCutAuto
import Derived.WalkLawsBesides
import Derived.IntWalk
import Derived.Test.YtffoddpjfgjelaaGreatDoorK01
set_option linter.unusedVariables false
set_option linter.unusedSimpArgs false
set_option maxRecDepth 1500
set_option maxHeartbeats 8000000
namespace Go.Proofs.YtffoddpjfgjelaaGreatDoor
open Go.RowKit
namespace Win
open Mem
theorem rd_step1{S:Nat→Prop}{w w':World}{v:Value}{xs:List UInt8}(h:Rd w v xs)(c:Fr S w w')(j:0<xs.length→∀k,v.ownBlock=some k→¬S k):Rd w' v xs:=by
 obtain⟨p,a,rfl,e,f,g⟩:=h;refine⟨p,a,rfl,e,f,fun d=> ?_⟩;obtain⟨b,o,rfl,l⟩:=g d;refine⟨b,o,rfl,fun i x m=> ?_⟩;have:=l i x m;rw[World.cell?_of_block (w:=w) (c.block b (block_lt_of_cell this) (j d b rfl))];exact this
structure Raw(w:World)(B:Nat)(rv:Value)(size:Nat)(ring:List UInt8)(t pos:Nat):Prop where
 box:w.heap[B]? =some (.cells #[.int .i64 size,rv,.int .i64 t,.int .i64 pos] 210 (0,0))
 own:w.ownsRow 0 5 1 rv ring.length (bvs ring)
 apart:∀k,rv.ownBlock=some k→k≠B
theorem Raw.keep{S:Nat→Prop}{w w':World}{B size t pos:Nat}{rv:Value}{ring:List UInt8}(h:Raw w B rv size ring t pos)(a:Fr S w w')(b:¬S B)(c:∀k,rv.ownBlock=some k→¬S k):Raw w' B rv size ring t pos:=
 ⟨a.keep h.box b,own_step h.own a c,h.apart⟩
theorem winV_nb{a b d:Int}{p:Option Addr}{n c:Nat}:∀(i:Nat)(m:Int),(#[.int .i64 a,.slice p n c,.int .i64 b,.int .i64 d]:Array Value)[i]? ≠some (Value.int .u8 m)
 |0,m=>by simp
 |1,m=>by simp
 |2,m=>by simp
 |3,m=>by simp
 |i+4,m=>by simp
theorem rd_off{w:World}{v:Value}{xs:List UInt8}(h:Rd w v xs)(d:0<xs.length){g:Nat}{c:Array Value}{T:TypeId}{fr:Nat×Nat}(q:w.heap[g]? =some (.cells c T fr))(a:∀(i:Nat)(n:Int),c[i]? ≠some (Value.int .u8 n)):∀k,v.ownBlock=some k→k≠g:=by
 obtain⟨p,j,rfl,_,_,l⟩:=h;obtain⟨b,o,rfl,m⟩:=l d;intro k f;simp only[Value.ownBlock,Option.some.injEq] at f;subst f;rintro rfl;have e:=m 0 xs[0] (by simp[d]);rw[cell_of_row w _ _ _ _ _ q] at e;exact a (o+0) (xs[0].toNat:Int) e
set_option maxRecDepth 100000 in
theorem slice_hbI(p:Option Addr)(n a b:Nat)(h:Int)(c:h=b)(f:b≤a)(W:World):
 (Instr.slice 22 (.slice p n a) none (some (.int .i64 h)) none).run Tryz.prog W=.ok (.slice p b a) W:=by
 subst c;obtain⟨i,d,g,e,_⟩:=info_parts infoU8;rw[run_slice_h (P:=Tryz.prog) W 22 p n a Tryz.underlying22 .i64 b (by omega) (by omega)];cases p<;>simp[sizeOf,typeInfo,d,e,Result.andThen,sliced,Addr.add,show Tryz.prog.elem 22=5 by kernel_rfl]
theorem drop_block(p:Option Addr)(n m b c a:Nat):(Value.slice (dropP p b a) m c).ownBlock=(Value.slice p n b).ownBlock:=by
 unfold dropP;split
 ·cases p<;>rfl
 ·cases p with
  |none=>rfl
  |some x=>simp only[Option.map_some,Value.ownBlock];congr 1;unfold Addr.add;split<;>rfl
def PutRel(B size n al:Nat)(rp:Option Addr)(rl rc:Nat)(all b:List UInt8)(w:World)(s1:Value)(wx:World):Prop:=
 ∃(b2 all2:List UInt8)(p2:Option Addr)(cap2:Nat)(rv2:Value)(ring2:List UInt8)(t2:Nat),s1=.slice p2 b2.length cap2∧Rd wx (.slice p2 b2.length cap2) b2∧b2.length≤n∧Raw wx B rv2 size ring2 t2 (al+n)∧RingOf size all2 ring2 t2∧(0<b2.length→size≤all2.length)∧
  (∀rg q,RingOf size (all2++b2) rg q→RingOf size (all++b) rg q)∧Fr (fun k=>k=B∨(Value.slice rp rl rc).ownBlock=some k) w wx∧(∀k,rv2.ownBlock=some k→(Value.slice rp rl rc).ownBlock=some k∨w.heap.size≤k)∧(0<b2.length→∀k,(Value.slice p2 b2.length cap2).ownBlock=some k→rv2.ownBlock≠some k)
def lenOf:Value→Nat
 |.slice _ n _=>n
 |_=>0
set_option maxRecDepth 100000 in
theorem put_calls(B size t:Nat)(rv v:Value)(all ring b:List UInt8)(w:World)(h:At w B rv size all ring t)(hr:Rd w v b)(i1:0<b.length→∀k,v.ownBlock=some k→rv.ownBlock≠some k)(k4:all.length+b.length≤1152921504606846976):
    Calls Tryz.prog 122 #[.pointer (some ⟨B,0,none⟩),v] w fun e w'=>e=.returned (.tuple #[])∧∃rv' ring' t',Fr (fun k=>k=B∨rv.ownBlock=some k) w w'∧At w' B rv' size (all++b) ring' t'∧(∀k,rv'.ownBlock=some k→rv.ownBlock=some k∨w.heap.size≤k):=by
  obtain⟨rp,rc,rfl⟩:=h.slice;obtain⟨p,c5,rfl,l3,m1,_⟩:=id hr;have c0:=h.pos;have j3:=h.top;have h4:=h.of;have E:=h.of.len;have n0:=h.of.t_le;have c3:=cell_in (i:=3) h.box rfl;have f3:=frozen_in h.box 3;-- behind the first store
  have c6:=Fr.one w B 3 (.int .i64 ((all.length:Int)+b.length));have a7:(w.setCell ⟨B,3,none⟩ (.int .i64 ((all.length:Int)+b.length))).heap[B]? =some (.cells #[.int .i64 size,.slice rp ring.length rc,.int .i64 t,.int .i64 ((all.length+b.length:Nat):Int)] 210 (0,0)):=by
    rw[set_in h.box 3 _,show((all.length+b.length:Nat):Int)=(all.length:Int)+b.length by omega];rfl
  have h5:Raw (w.setCell ⟨B,3,none⟩ (.int .i64 ((all.length:Int)+b.length))) B (.slice rp ring.length rc) size ring t (all.length+b.length):=⟨a7,own_step h.own c6 (fun k f=>h.apart k f),h.apart⟩;have j1:=rd_step1 hr c6 (fun L k f=>rd_off hr L h.box winV_nb k f);have d0:=cell_in (i:=0) a7 rfl;have l8:b.length≤1152921504606846976:=by omega
  have l6:all.length≤1152921504606846976:=by omega
  have a6:=Hd h5;have f5:=Hd j1;have g2:=Hd c6;have f2:=Hd h4;have g0:=Hd i1;have HW:=Hd h;clear h hr h5 j1 c6 h4 i1 a7;generalize hn:b.length=n at*;generalize f7:all.length=al at*;generalize V:ring.length=rl at*;have HN:=Hd hn;have e9:=Hd f7;have g5:=Hd V;clear hn f7 V;have m7:(al:Int)+n≤2305843009213693952:=by omega
  go_enter Tryz.func122,Tryz.ntmps122;go_upto_if 21 with fail;generalize w.setCell ⟨B,3,none⟩ (.int .i64 ((al:Int)+n))=W0 at*;go_cut [1] (fun s1 wx=>∃(b':List UInt8)(p':Option Addr)(cap':Nat),s1=.slice p' b'.length cap'∧wx=W0∧b'.length≤size∧Rd W0 (.slice p' b'.length cap') b'∧(∀rg q,RingOf size (all++b') rg q→RingOf size (all++b) rg q)∧(Value.slice p' b'.length cap').ownBlock=(Value.slice p n c5).ownBlock∧b'.length≤n);case first=>
    by_cases m4:size<n
    · have t1:decide ((n:Int)>size)=true:=by simp;omega
      have t2:decide ((size:Int)<n)=true:=by simp;omega
      have f9:=slice_lI p n c5 (n-size) ((n:Int)-size) (by omega) (by omega);have i2:(b.drop (n-size)).length=size:=by rw[List.length_drop,HN.out];omega
      have c2:=rd_drop f5.out (a:=n-size) (by rw[HN.out];omega);rw[show n-(n-size)=size by omega] at f9 c2;have C:=Hd c2;have a1:=Hd i2;have b3:∀rg q,RingOf size (all++b.drop (n-size)) rg q→RingOf size (all++b) rg q:=fun rg q hq=>by
        have:=hq.cut (y:=all++b.take (n-size)) a1.out c0;rw[List.append_assoc,List.take_append_drop] at this;exact this
      have HC:=Hd b3;clear c2 i2 b3;go_wp2_with fail;go_meet;exact⟨b.drop (n-size),_,_,by rw[a1.out],rfl,by rw[a1.out];exact Nat.le_refl _,by rw[a1.out];exact C.out,HC.out,by rw[a1.out];exact drop_block p n size c5 _ _,by rw[a1.out];omega⟩
    · have t1:decide ((n:Int)>size)=false:=by simp;omega
      have t2:decide ((size:Int)<n)=false:=by simp;omega
      go_wp2_with fail;go_meet;exact⟨b,p,c5,by rw[HN.out],rfl,by rw[HN.out];omega,by rw[HN.out];exact f5.out,fun _ _ h=>h,by rw[HN.out],by rw[HN.out];exact Nat.le_refl _⟩
  case rest=>
  obtain⟨b1,p1,j,rfl,rfl,l7,e6,a9,a8,i3⟩:=hcut;have d4:=Hd e6;have P:=Hd a9;have O:=Hd a8;have d6:=a6.out.box;obtain⟨e0,e1⟩:=cs2 d6 rfl rfl;generalize c8:b1.length=n1 at*;have F:=Hd c8;clear c8 e6 a9 a8 d6 f5;have l4:rl≤size:=by omega
  have j9:∃g:Nat,g=min n1 (size-rl):=⟨_,rfl⟩;obtain⟨g,hg⟩:=j9;have e4:(if(size:Int)-rl<n1 then(size:Int)-rl else n1)=(g:Int):=by split<;>omega
  have d1:=Hd e4;have d2:=Hd E;have HG:=Hd hg;clear e4 E hg;go_wp2_with fail;go_quiet (fail);simp only[d1.out];have c7:=(R0 wc).drewN nq;have h6:=a6.out.keep c7 (fun h=>h) (fun _ _ h=>h);have g9:=d4.out.keep c7;have h2:=g2.out.trans (c7.mono (fun _ _ h=>h.elim));generalize World.drewN wc nq=W1 at*;have a2:=Hd h6;have Q:=Hd g9;have c4:=Hd h2;clear c7 h6 g9 h2 e0 e1 a6 d4 g2;go_upto_if 45 with fail;go_cut [1] (fun s1 wx=>PutRel B size n al rp rl rc all b w s1 wx);case first=>
    by_cases m2:0<g
    · have t3:decide ((g:Int)>0)=true:=by simp;omega
      have t4:decide ((0:Int)<g)=true:=by simp;omega
      have hg:=HG.out;have i8:g≤n1:=by omega
      have m3:rl+g≤size:=by omega
      obtain⟨i0,hi,k9,l0,l1⟩:=info_parts infoU8;have S:=(R0 W1).drew;have G:=a2.out.keep S (fun h=>h) (fun _ _ h=>h);have x1:W1.drew.cell? ⟨B,1,none⟩=_:=cell_in (i:=1) G.box rfl;have f9:=slice_hbI p1 n1 j g g rfl (by have Y:=Q.out;obtain⟨q,c,h,h1,_⟩:=Y;simp only[Value.slice.injEq] at h;obtain⟨_,_,rfl⟩:=h;have:=F.out;omega);have j2:=slice_lI p1 n1 j g g rfl i8;have N:(b1.take g).length=g:=by rw[List.length_take,F.out];omega
      have e8:=rd_take (Q.out.keep S) (m:=g) (by rw[F.out];exact i8);have M:W1.drew.ownsRow 0 5 1 (.slice rp rl rc) rl (bvs ring):=by have:=G.own;rw[g5.out] at this;exact this
      have g6:=Hd e8;have a5:=Hd M;have C:=Hd G;have g7:=Hd N;clear S G e8 M N hg;go_wp2_with fail
      go_region_law (refine step_append_any _ rfl _ _ 22 22 rfl 5 i0 (.int .u8 0) 1 1 Tryz.underlying22 hi k9 l0 l1 rfl (by decide) (.slice rp rl rc) rl (bvs ring) (by simp[Act.eval,Act.put]) a5.out (.slice p1 g j) g (bvs (b1.take g)) (by simp[Act.eval,Act.put]) (by have Y:=src_rd Tryz.underlying22 g6.out;rw[g7.out] at Y;exact Y) (by simp only[maxLen];omega) (by omega) ?_
                     intro v' w' A D b8 f8;obtain⟨r,o,rfl⟩:=own_slice A;have H:=D.keep C.out.box (fun h=>C.out.apart B h rfl);have j8:=frozen_in H 1;have l9:=cell_in (i:=1) H rfl;have R:=Hd A;have W:=Hd D;have x:=Hd b8;have f0:=Hd H;have s1:=set_in H 1 (.slice r (rl+g) o);have k1:(w'.setCell ⟨B,1,none⟩ (.slice r (rl+g) o)).cell? ⟨B,1,none⟩=some (.slice r (rl+g) o):=cell_in s1 rfl;have k2:(w'.setCell ⟨B,1,none⟩ (.slice r (rl+g) o)).cell? ⟨B,2,none⟩=some (.int .i64 t):=cell_in s1 rfl;have k3:=frozen_in s1 2;clear A D b8 f8 H s1)
      go_wp2_with fail;go_meet;have hg:=HG.out;have E:=d2.out;have c8:=F.out;have V:=g5.out;have N:=g7.out;have l5:B<W1.heap.size:=lt_of_block a2.out.box;have j0:∀k,(Value.slice r (rl+g) o).ownBlock=some k→k≠B:=fun k f=>by
        rcases x.out k f with h|h
        · exact a2.out.apart k h
        · have:W1.drew.heap.size=W1.heap.size:=rfl
          omega
      have s1:=set_in f0.out 1 (.slice r (rl+g) o);have s2:=set_in s1 2 (.int .i64 ((rl:Int)+g));have i7:=(Fr.one w' B 1 (.slice r (rl+g) o)).trans (Fr.one _ B 2 (.int .i64 ((rl:Int)+g)));have d8:Fr (fun k=>k=B∨(Value.slice rp rl rc).ownBlock=some k) W1 _:=((Fr.refl _ W1).drew.trans (W.out.mono (fun _ _ h=>.inr h))).trans (i7.mono (fun _ _ h=>.inl h));have e2:∀k,0<n1→(Value.slice p1 n1 j).ownBlock=some k→(Value.slice rp rl rc).ownBlock≠some k:=fun k L f=>g0.out (by omega) k (by rw[←O.out];exact f);have i4:=fun(_:Nat)=>drop_block p1 n1 (n1-g) j (j-g) g;have i9:∀k,0<n1→(Value.slice p1 n1 j).ownBlock=some k→k<W1.heap.size:=fun k L f=>by
        obtain⟨q,c,he,_,_,h3⟩:=Q.out;simp only[Value.slice.injEq] at he;obtain⟨b',o',k7,h8⟩:=h3 (by omega);rw[he.1,k7] at f;simp only[Value.ownBlock,Option.some.injEq] at f;subst f;exact block_lt_of_cell (h8 0 b1[0] (by rw[List.getElem?_eq_getElem]))
      have I:Rd _ (.slice (dropP p1 j g) (n1-g) (j-g)) (b1.drop g):=rd_step1 (rd_drop Q.out (a:=g) (by omega)) d8 (fun L k f h=>by
        rw[List.length_drop] at L;rw[i4 0] at f;rcases h with h|h
        · exact rd_off Q.out (by omega) a2.out.box winV_nb k f h
        · exact e2 k (by omega) f h)
      have K:(b1.drop g).length=n1-g:=by rw[List.length_drop,c8]
      refine⟨b1.drop g,all++b1.take g,dropP p1 j g,j-g,.slice r (rl+g) o,ring++b1.take g,rl+g,by rw[K],by rw[K];exact I,by rw[K];omega,⟨?_,?_,j0⟩,?_,?_,?_,?_,?_,?_⟩
      · rw[s2,show((rl+g:Nat):Int)=(rl:Int)+g by omega]
        rfl
      · have Y:=own_step R.out i7 j0
        rw[←bvs_append] at Y;rw[show(ring++b1.take g).length=rl+g by rw[List.length_append,V,N]];exact Y
      · have Y:=f2.out.grow (b:=b1.take g) c0 (by omega) (by omega)
        rw[V,N] at Y;exact Y
      · intro L
        rw[K] at L;have Y:=f2.out.len;have f7:=e9.out;rw[List.length_append,N];omega
      · intro rg q hq
        rw[List.append_assoc,List.take_append_drop] at hq;exact P.out rg q hq
      · exact(c4.out.mono (fun _ _ h=>.inl h)).trans d8
      · intro k f
        rcases x.out k f with h|h
        · exact .inl h
        · have Y:=c4.out.size
          have:W1.drew.heap.size=W1.heap.size:=rfl;exact .inr (by omega)
      · intro L k f he
        rw[K] at L f;rw[i4 0] at f;rcases x.out k he with h|h
        · exact e2 k (by omega) f h
        · have:=i9 k (by omega) f
          have:W1.drew.heap.size=W1.heap.size:=rfl;omega
    · have t3:decide ((g:Int)>0)=false:=by simp;omega
      have t4:decide ((0:Int)<g)=false:=by simp;omega
      go_wp2_with fail;go_meet;have hg:=HG.out;have E:=d2.out;have k5:=f2.out;refine⟨b1,all,p1,j,_,ring,t,by rw[F.out],by rw[F.out];exact Q.out,by rw[F.out];exact i3,?_,k5,?_,P.out,c4.out.mono (fun _ _ h=>.inl h),fun k f=>.inl f,fun L k f=> ?_⟩
      · exact a2.out
      · rw[F.out,e9.out];omega
      · rw[F.out] at L f
        exact g0.out (by omega) k (by rw[←O.out];exact f)
  case rest=>
  have g1:=Hd hcut;clear hcut d1 HG a2 Q c4 P O F;go_wp2_with fail;go_loopw [1,5] (fun s1 _ wx=>PutRel B size n al rp rl rc all b w s1 wx) (fun s1 _ _=>lenOf s1);case atStart=>exact g1.out
  case round=>
    obtain⟨b2,g8,p2,s,n3,d,t2,rfl,I,l2,U,e5,a0,b0,e3,b9,d9⟩:=hrel;obtain⟨r,o,rfl⟩:=own_slice U.own;have C:=Hd I;have l:=Hd U;have d3:=Hd e5;have X:=Hd a0;have a3:=Hd b0;have W:=Hd e3;have x:=Hd b9;have c9:=Hd d9;clear I U e5 a0 b0 e3 b9 d9;generalize b7:b2.length=n2 at*;generalize c1:d.length=r2 at*;have f1:=Hd b7;have f4:=Hd c1;clear b7 c1;by_cases L:0<n2
    · have t5:decide ((n2:Int)>0)=true:=by simp;omega
      have t6:decide ((0:Int)<n2)=true:=by simp;omega
      have b5:=d3.out.full (X.out L);have c1:size=r2:=by rw[←f4.out];exact b5.1.symm
      have m8:=b5.2.1;have m9:=b5.2.2.1;have j4:=Hd b5;have x0:=cell_in (i:=0) l.out.box rfl;have x2:=cell_in (i:=2) l.out.box rfl;have xf:=frozen_in l.out.box 2;subst c1;clear b5;go_wp2_with fail;go_quiet (fail);have b4:=(R0 wr).drewN nq;have d7:=l.out.keep b4 (fun h=>h) (fun _ _ h=>h);have a4:=Hd b4;have z:=Hd d7;clear b4 d7 x0 x2 xf;generalize World.drewN wr nq=W2 at*;have x0:=cell_in (i:=0) z.out.box rfl;have x2:=cell_in (i:=2) z.out.box rfl;have xf:=frozen_in z.out.box 2;go_upto_if 79 with fail;go_cut [] (fun wx=>∃u,u=(if t2=size then 0 else t2)∧Raw wx B (.slice r size o) size d u (al+n)∧Fr (fun k=>k=B) wr wx);case first=>
        by_cases ht:t2=size
        · have y1:decide ((t2:Int)=size)=true:=by simp;omega
          go_wp2_with fail;go_meet;have i5:=Fr.one W2 B 2 (.int .i64 0);refine⟨0,by rw[if_pos ht],⟨?_,own_step z.out.own i5 (fun k f=>z.out.apart k f),z.out.apart⟩,(a4.out.mono (fun _ _ h=>h.elim)).trans i5⟩;rw[set_in z.out.box 2 _];rfl
        · have y1:decide ((t2:Int)=size)=false:=by simp;omega
          go_wp2_with fail;go_meet;exact⟨t2,by rw[if_neg ht],z.out,a4.out.mono (fun _ _ h=>h.elim)⟩
      case rest=>
      obtain⟨u,hu,h7,f6⟩:=hcut;have k8:u<size:=by split at hu<;>omega
      have HU:=Hd hu;obtain⟨m,hm⟩:∃m,m=min n2 (size-u):=⟨_,rfl⟩;have k0:m≤n2:=by omega
      have m6:u+m≤size:=by omega
      have m5:0<m:=by omega
      have b6:∀k,(Value.slice p2 n2 s).ownBlock=some k→k≠B:=rd_off C.out (by rw[f1.out];exact L) l.out.box winV_nb;have e7:Rd wc (.slice p2 n2 s) b2:=C.out.step f6 (fun k f=>b6 k f);have S:=(R0 wc).drew;have G:=h7.keep S (fun h=>h) (fun _ _ h=>h);have d5:=Hd (e7.keep S);have J:=Hd G;have g4:=Hd f6;have HM:=Hd hm;have y1:wc.drew.cell? ⟨B,1,none⟩=_:=cell_in (i:=1) G.box rfl;have y2:wc.drew.cell? ⟨B,2,none⟩=_:=cell_in (i:=2) G.box rfl;have f9:=slice_lI r size o u u rfl (by omega);have j2:=slice_lI p2 n2 s m m rfl k0;have M:wc.drew.ownsRow 0 5 1 (.slice r size o) size (bvs d):=by have:=G.own;rw[f4.out] at this;exact this
      have a5:=Hd M;have j5:=Hd b6;clear hu h7 f6 e7 S G hm M b6 x0 x2 xf z a4 d0 c3 f3;go_wp2_with fail
      go_region_law (refine step_copy_any rfl _ _ 22 22 5 rfl Tryz.underlying22 (by kernel_rfl) r size o u d 5 (by simp[Act.eval,Act.put]) a5.out k8 p2 n2 s b2 (by simp[Act.eval,Act.put]) d5.out L m HM.out ?_
                     intro w' A D;have H:=D.keep J.out.box (fun h=>J.out.apart B h rfl);have j8:=frozen_in H 2;have m0:=cell_in (i:=2) H rfl;have R:=Hd A;have g3:=Hd D;have f0:=Hd H;clear A D H)
      all_goals go_wp2_with fail
      all_goals
        have b7:=f1.out;have c1:=f4.out;have i6:=Fr.one w' B 2 (.int .i64 ((u:Int)+m));have Z:=(g3.out.mono (T:=fun k=>k=B∨(Value.slice r size o).ownBlock=some k) (fun _ _ h=>.inr h)).trans (i6.mono (fun _ _ h=>.inl h));have K:(b2.drop m).length=n2-m:=by rw[List.length_drop,b7]
        have N:(b2.take m).length=m:=by rw[List.length_take,b7];omega
        have hw:=j4.out.write HU.out (b:=b2.take m) (by omega) (by omega);rw[N] at hw;have I:=rd_step1 (rd_drop d5.out (a:=m) (by omega)) Z (fun Y k f h=>by
          rw[drop_block p2 n2 (n2-m) s (s-m) m] at f;rcases h with h|h
          · exact j5.out k f h
          · exact c9.out L k f h)
        have V:(d.take u++b2.take m++d.drop (u+m)).length=size:=hw.1;have k6:=own_step R.out i6 (fun k f=>J.out.apart k f);have j7:=set_in f0.out 2 (.int .i64 ((u:Int)+m));refine⟨⟨b2.drop m,g8++b2.take m,dropP p2 s m,s-m,.slice r size o,d.take u++b2.take m++d.drop (u+m),u+m,by rw[K],by rw[K];exact I,by rw[K];omega,⟨?_,?_,J.out.apart⟩,hw.ring,?_,?_,?_,x.out,?_⟩,?_⟩
        · rw[j7,show((u+m:Nat):Int)=(u:Int)+m by omega]
          rfl
        · rw[V];exact k6
        · intro _
          have:=X.out L;rw[List.length_append];omega
        · intro rg q hq
          rw[List.append_assoc,List.take_append_drop] at hq;exact a3.out rg q hq
        · have h1:Fr (fun k=>k=B∨(Value.slice r size o).ownBlock=some k) wr _:=((g4.out.mono (fun _ _ h=>.inl h)).drew).trans Z
          exact W.out.trans' h1 (fun i hi h=>by
            rcases h with h|h
            · exact .inl h
            · rcases x.out i h with h|h
              · exact .inr h
              · omega)
        · intro Y k f
          rw[drop_block p2 n2 _ s (s-m) m] at f;exact c9.out L k f
        · show n2-m<n2
          omega
    · have t5:decide ((n2:Int)>0)=false:=by simp;omega
      have t6:decide ((0:Int)<n2)=false:=by simp;omega
      go_wp2_with fail;go_end0;have j6:b2=[]:=List.eq_nil_of_length_eq_zero (by have:=f1.out;omega);subst j6;have Z:=a3.out d t2 (by rw[List.append_nil];exact d3.out);have E:(all++b).length=al+n:=by rw[List.length_append,e9.out,HN.out]
      exact⟨rfl,_,d,t2,W.out,⟨by rw[E];exact l.out.box,l.out.own,Z,c0,j3,by rw[E];omega,l.out.apart⟩,x.out⟩
end Win
namespace Win
open Mem
def grown(all:List UInt8)(d:Nat):Nat→List UInt8
 |0=>all
 |k+1=>grown all d k++[(grown all d k).getD ((grown all d k).length-d) 0]
theorem grown_len(all:List UInt8)(d:Nat):∀k,(grown all d k).length=all.length+k
 |0=>rfl
 |k+1=>by rw[grown,List.length_append,grown_len all d k];rfl
theorem grown_pre(all:List UInt8)(d:Nat):∀k,∃y,grown all d k=all++y
 |0=>⟨[],by simp[grown]⟩
 |k+1=>by
   obtain⟨y,a⟩:=grown_pre all d k;exact⟨y++[(grown all d k).getD ((grown all d k).length-d) 0],by rw[grown,←List.append_assoc,←a]⟩
def copied(all:List UInt8)(d k:Nat):List UInt8:=(grown all d k).drop all.length
theorem copied_len(all:List UInt8)(d k:Nat):(copied all d k).length=k:=by rw[copied,List.length_drop,grown_len];omega
theorem grown_eq(all:List UInt8)(d k:Nat):grown all d k=all++copied all d k:=by
 obtain⟨y,a⟩:=grown_pre all d k;rw[copied,a,List.drop_left]
theorem copied_zero(all:List UInt8)(d:Nat):copied all d 0=[]:=by simp[copied,grown]
theorem copied_succ(all:List UInt8)(d k:Nat):copied all d (k+1)=copied all d k++[(grown all d k).getD ((grown all d k).length-d) 0]:=by
 have h:=grown_len all d k;simp only[copied,grown];rw[List.drop_append_of_le_length (by omega)]
set_option maxRecDepth 100000 in
theorem make_bytes(n:Nat)(h:n≤281474976710656)(W:World):
 (Instr.makeSlice 22 (.int .i64 0) (.int .i64 n)).run Tryz.prog W=.ok (.slice (some ⟨W.heap.size,0,none⟩) 0 n) (W.alloc (.cells (madeCells [Value.int .u8 0].toArray n) 5)):=by
 obtain⟨i,b,d,c,a⟩:=info_parts infoU8;have:=run_make (P:=Tryz.prog) W 22 5 i (.int .u8 0) Tryz.underlying22 b d .i64 .i64 0 n (by omega) (by omega) (by rw[a];omega) (by omega);rw[this,c,Int.toNat_natCast,Nat.mul_one];rfl
structure Mine(w0 w:World)(v:Value)(xs:List UInt8):Prop where
 own:w.ownsRow 0 5 1 v xs.length (bvs xs)
 new:∀k,v.ownBlock=some k→w0.heap.size≤k
theorem Mine.nil(w0 w:World):Mine w0 w (.slice none 0 0) []:=⟨World.ownsRow_nil _ _ _ _,fun k a=>by simp[Value.ownBlock] at a⟩
theorem Mine.rd{w0 w:World}{v:Value}{xs:List UInt8}(h:Mine w0 w v xs):Rd w v xs:=Rd.of_own h.own
theorem Mine.slice{w0 w:World}{v:Value}{xs:List UInt8}(h:Mine w0 w v xs):∃p cap,v=.slice p xs.length cap:=own_slice h.own
theorem Mine.step{S:Nat→Prop}{w0 w w':World}{v:Value}{xs:List UInt8}(h:Mine w0 w v xs)(a:Fr S w w')(b:∀k,v.ownBlock=some k→¬S k):Mine w0 w' v xs:=⟨own_step h.own a b,h.new⟩
theorem Mine.keep{w0 w w':World}{v:Value}{xs:List UInt8}(h:Mine w0 w v xs)(a:Fr (fun _=>False) w w'):Mine w0 w' v xs:=h.step a (fun _ _ h=>h)
theorem Mine.lt{w0 w:World}{v:Value}{xs:List UInt8}(h:Mine w0 w v xs):∀k,v.ownBlock=some k→k<w.heap.size:=fun k a=>(World.ownsRow.lt h.own k a).2
theorem append_mine{e:Array Oper}{rest:List Oper}{o:Oper}{a:Act}{Q:Exit→Act→World→Prop}(i:o.guard=none)(s y:Operand)
 (t:o.op=.call {callee:=.builtin .append,args:=#[s,y],argTypes:=#[22,22]}){w0 w:World}(v x:Value)(xs ys:List UInt8)(hv:a.eval s=v)(hx:a.eval y=x)(hm:Mine w0 w v xs)(hle:w0.heap.size≤w.heap.size)(hrd:Rd w x ys)
 (hb:xs.length+ys.length≤70368744177664)
 (h:∀p b n f,n=xs.length+ys.length→Mine w0 f (.slice p n b) (xs++ys)→Fr (fun k=>v.ownBlock=some k) w f→(∀k,(Value.slice p n b).ownBlock=some k→v.ownBlock=some k∨w.heap.size≤k)→wpList Tryz.prog e Q rest (a.put o.dst (.slice p n b)) f):
 wpList Tryz.prog e Q (o::rest) a w:=by
 obtain⟨u,q,j,l,m⟩:=info_parts infoU8;refine wpList_append_any w i s y 22 22 t 5 u (.int .u8 0) 1 1 Tryz.underlying22 q j l m rfl (by decide) v xs.length (bvs xs) hv hm.own x ys.length (bvs ys) hx (src_rd Tryz.underlying22 hrd) (by simp only[maxLen];omega) (by omega) ?_;intro z f d g c _;obtain⟨p,b,rfl⟩:=own_slice d;refine h p b _ f rfl ⟨by rw[List.length_append,bvs_append];exact d,fun k r=> ?_⟩ g c;rcases c k r with h|h
 ·exact hm.new k h
 ·omega
theorem copy_out(B size t d n:Nat)(rv:Value)(all ring:List UInt8)(w:World)(h:At w B rv size all ring t)(b:¬(1≤d∧d≤ring.length)∨273<n):
 Calls Tryz.prog 197 #[.pointer (some ⟨B,0,none⟩),.int .i64 d,.int .i64 n] w fun e f=>e=.returned (.tuple #[.slice none 0 0,.int .i64 7])∧w=f:=by
 have g:=Hd h;clear h;by_cases a:1≤d∧d≤ring.length
 ·have i:273<n:=by omega
  have j:decide ((n:Int)<0)=false:=by simp
  have k:decide ((n:Int)>273)=true:=by simp;omega
  have l:decide ((273:Int)<n)=true:=by simp;omega
  have c:=Hd a;clear a b;go_enter Tryz.func197,Tryz.ntmps197;go_wp2_with fail;refine(in_calls B size t d rv all ring w g.out).mono ?_;rw[decide_eq_true c.out];rintro e f ⟨rfl,rfl⟩;go_wp2_with fail;go_ret2;exact⟨rfl,rfl⟩
 ·have c:=Hd a
  clear a b;go_enter Tryz.func197,Tryz.ntmps197;go_wp2_with fail;refine(in_calls B size t d rv all ring w g.out).mono ?_;rw[decide_eq_false c.out];rintro e f ⟨rfl,rfl⟩;go_wp2_with fail;go_ret2;exact⟨rfl,rfl⟩
def CopyRel(B size d n:Nat)(rv:Value)(all:List UInt8)(w:World)(k:Nat)(s:Value)(wx:World):Prop:=
 ∃(rv2:Value)(ring2:List UInt8)(t2:Nat),At wx B rv2 size (grown all d k) ring2 t2∧Fr (fun k=>k=B∨rv.ownBlock=some k) w wx∧(∀k,rv2.ownBlock=some k→rv.ownBlock=some k∨w.heap.size≤k)∧
  Mine w wx s (copied all d k)∧(∀k,s.ownBlock=some k→rv2.ownBlock≠some k)
set_option maxRecDepth 100000 in
theorem copy_in(B size t d n:Nat)(rv:Value)(all ring:List UInt8)(w:World)(h:At w B rv size all ring t)(H:1≤d∧d≤ring.length)(hn:n≤273)(b6:all.length≤1152921504606846000):
    Calls Tryz.prog 197 #[.pointer (some ⟨B,0,none⟩),.int .i64 d,.int .i64 n] w fun e w'=>∃v,e=.returned (.tuple #[v,.int .i64 0])∧CopyRel B size d n rv all w n v w':=by
  have n1:decide ((n:Int)<0)=false:=by simp
  have n2:decide ((n:Int)>273)=false:=by simp;omega
  have n3:decide ((273:Int)<n)=false:=by simp;omega
  have hB:B<w.heap.size:=lt_of_block h.box;have hl:=h.of.len;have c0:=h.pos;have b5:1≤d:=H.1;have c2:d≤size:=by omega
  have c3:d≤all.length:=by omega
  have HA:=Hd h;have a8:=Hd H;have c5:=make_bytes n (by omega);clear h H;go_enter Tryz.func197,Tryz.ntmps197;go_wp2_with fail;refine(in_calls B size t d rv all ring w HA.out).mono ?_;rw[decide_eq_true a8.out];rintro e w' ⟨rfl,rfl⟩;go_wp2_with fail;have a4:=(R0 w).alloc (.cells (madeCells [Value.int .u8 0].toArray n) 5);go_loopw [8,9,25](fun s8 _ s25 wx=>∃k:Nat,k≤n∧s25=.int .i64 (k:Int)∧CopyRel B size d n rv all w k s8 wx) (fun _ _ s25 _=>(n-(intOf s25).toNat));case atStart=>
    refine⟨0,by omega,rfl,rv,ring,t,(HA.out.keep a4 (fun h=>h) (fun _ _ h=>h)),a4.mono (fun _ _ h=>h.elim),fun k l=>.inl l,⟨?_,fun k l=> ?_⟩,fun k l he=> ?_⟩
    · rw[copied_zero]
      exact World.ownsRow_made w _ n (Nat.zero_le _) (by simp only[maxLen];omega) (by simp[madeCells])
    · simp only[Value.ownBlock,Option.some.injEq] at l
      omega
    · simp only[Value.ownBlock,Option.some.injEq] at l
      have:=(World.ownsRow.lt HA.out.own k he).2;omega
  case round=>
    obtain⟨k,l,rfl,u,a,t2,S,V,Y,G,x⟩:=hrel;obtain⟨p2,R,rfl⟩:=G.slice;rw[copied_len] at*;have f:=Hd S;have C:=Hd V;have E:=Hd Y;have g:=Hd G;have r:=Hd x;clear S V Y G x;by_cases c4:k<n
    · have a2:=grown_len all d k
      have A:=f.out.of.len;have hc:(grown all d k)[(grown all d k).length-d]? =some ((grown all d k).getD ((grown all d k).length-d) 0):=by
        rw[List.getD_eq_getElem?_getD,List.getElem?_eq_getElem (by omega)];rfl
      have a1:grown all d (k+1)=grown all d k++[(grown all d k).getD ((grown all d k).length-d) 0]:=rfl;have a3:=copied_succ all d k;have a0:=copied_len all d k;have a7:=Hd a1;have b3:=Hd a3;have L:=Hd a0;have b2:=Hd A;have P:=Hd a2;have HC:=Hd hc;clear a1 a3 a0 A a2 hc;generalize b4:(grown all d k).getD ((grown all d k).length-d) 0=c at*;clear b4;go_wp2_with fail;refine(back_calls B size t2 d u (grown all d k) a c wr f.out b5 (by have:=b2.out;have:=P.out;omega) HC.out).mono ?_;rintro e w1 ⟨rfl,rfl⟩;go_wp2_with fail;have s:=(R0 wr).alloc (.cells #[.int .u8 (c.toNat:Int)] 5);have z:=rd_one wr _ rfl c _ rfl;refine(put_calls B size t2 u (.slice (some ⟨wr.heap.size,0,none⟩) 1 1) (grown all d k) a [c] _ (f.out.keep s (fun h=>h) (fun _ _ h=>h)) z (fun _ k l he=> ?_) ?_).mono ?_
      · simp only[Value.ownBlock,Option.some.injEq] at l
        have:=(World.ownsRow.lt f.out.own k he).2;omega
      · have:=P.out
        simp only[List.length_singleton];omega
      rintro e w2 ⟨rfl,b7,J,t3,j,U,Z⟩;have W:=(g.out.keep s).step j (fun k l h=>by
        rcases h with h|h
        · have:=g.out.new k l
          omega
        · exact r.out k l h)
      have a5:=Hd U;have a9:=Hd W;have F:=Hd Z;have M:=Hd j;have a6:=Hd s;clear z U W Z j s;have b:=(R0 w2).alloc (.cells #[.int .u8 (c.toNat:Int)] 5);have o:=rd_one w2 _ rfl c _ rfl;have D:=Hd (a9.out.keep b);have K:=Hd (a5.out.keep b (fun h=>h) (fun _ _ h=>h));have N:=Hd (C.out.trans' (a6.out.mono (T:=fun k=>k=B∨u.ownBlock=some k) (fun _ _ h=>h.elim)|>.trans M.out|>.trans (b.mono (fun _ _ h=>h.elim))) (fun i hi h=>by
        rcases h with h|h
        · exact .inl h
        · rcases E.out i h with h|h
          · exact .inr h
          · omega))
      have Q:=Hd o;have c6:wr.heap.size+1≤w2.heap.size:=by have:=M.out.size;simpa using this
      clear b o
      go_wp2_with (at_builtin
                   refine append_mine rfl _ _ rfl (w0:=w) (.slice p2 k R) (.slice (some ⟨w2.heap.size,0,none⟩) 1 1) (copied all d k) [c] rfl rfl D.out N.out.size Q.out (by rw[L.out];simp only[List.length_singleton];omega) ?_;intro p5 b8 n5 w5 I X y m;rw[L.out,List.length_singleton] at I;have b0:=Hd X;have O:=Hd y;have b1:=Hd m;have c1:=Hd I;clear X y m I)
      go_roundw;case rel=>
        refine⟨k+1,by omega,by go_num,b7,J,t3,?_,?_,?_,?_,?_⟩
        · rw[a7.out]
          exact K.out.keep O.out (fun h=>by
            have:=D.out.new _ h;omega) (fun q hq h=>by
            rcases F.out q hq with p|p
            · exact r.out q h p
            · have:=g.out.lt q h
              simp at p;omega)
        · exact N.out.trans' O.out (fun i hi h=>by
            have:=D.out.new _ h;omega)
        · intro q hq
          rcases F.out q hq with p|p
          · exact E.out q p
          · have:=C.out.size
            simp at p;exact .inr (by omega)
        · rw[b3.out];exact b0.out
        · intro q hq p
          have b9:=(World.ownsRow.lt K.out.own q p).2;rcases b1.out q hq with h|h
          · rcases F.out q p with h3|h3
            · exact r.out q h h3
            · have:=g.out.lt q h
              simp at h3;omega
          · omega
      case measure=>simp[intOf];omega
    · obtain rfl:k=n:=by omega
      go_wp2_with fail;go_ret2;exact⟨_,rfl,u,a,t2,f.out,C.out,E.out,g.out,r.out⟩
end Win
namespace St
open Mem
structure S where
 num:Nat
 r0:Nat
 r1:Nat
 r2:Nat
 r3:Nat
abbrev isD(d:Nat):Prop:=1≤d∧d≤4294967295
structure S.Ok(s:S):Prop where
 num:s.num<12
 r0:isD s.r0
 r1:isD s.r1
 r2:isD s.r2
 r3:isD s.r3
def S.cells(s:S):Array Value:=#[.int .i64 s.num,.int .i64 s.r0,.int .i64 s.r1,.int .i64 s.r2,.int .i64 s.r3]
def S.new:S:=⟨0,1,1,1,1⟩
theorem S.new_ok:S.new.Ok:=by constructor<;>simp[S.new,isD]
theorem dist_calls(d:Nat)(w:World):Calls Tryz.prog 187 #[.int .i64 d] w fun e j=>e=.returned (.bool (decide (1≤d∧d≤4294967295)))∧w=j:=by
 generalize f:decide (1≤d∧d≤4294967295)=q;have a:=Hd f;clear f;by_cases b:1≤d
 ·have g:decide ((d:Int)≥1)=true:=by simp;omega
  have h:decide ((1:Int)≤d)=true:=by simp;omega
  by_cases c:d≤4294967295
  ·have i:decide ((d:Int)≤4294967295)=true:=by simp;omega
   go_enter Tryz.func187,Tryz.ntmps187;go_wp2_with fail;go_ret;exact⟨by rw[←a.out];simp[b,c],rfl⟩
  ·have i:decide ((d:Int)≤4294967295)=false:=by simp;omega
   go_enter Tryz.func187,Tryz.ntmps187;go_wp2_with fail;go_ret;exact⟨by rw[←a.out];simp[c],rfl⟩
 ·have g:decide ((d:Int)≥1)=false:=by simp;omega
  have h:decide ((1:Int)≤d)=false:=by simp;omega
  go_enter Tryz.func187,Tryz.ntmps187;go_wp2_with fail;go_ret;exact⟨by rw[←a.out];simp[b],rfl⟩
theorem len_calls(d:Nat)(w:World):Calls Tryz.prog 186 #[.int .i64 d] w fun e j=>e=.returned (.bool (decide (2≤d∧d≤273)))∧w=j:=by
 generalize f:decide (2≤d∧d≤273)=q;have a:=Hd f;clear f;by_cases b:2≤d
 ·have g:decide ((d:Int)≥2)=true:=by simp;omega
  have h:decide ((2:Int)≤d)=true:=by simp;omega
  by_cases c:d≤273
  ·have i:decide ((d:Int)≤273)=true:=by simp;omega
   go_enter Tryz.func186,Tryz.ntmps186;go_wp2_with fail;go_ret;exact⟨by rw[←a.out];simp[b,c],rfl⟩
  ·have i:decide ((d:Int)≤273)=false:=by simp;omega
   go_enter Tryz.func186,Tryz.ntmps186;go_wp2_with fail;go_ret;exact⟨by rw[←a.out];simp[c],rfl⟩
 ·have g:decide ((d:Int)≥2)=false:=by simp;omega
  have h:decide ((2:Int)≤d)=false:=by simp;omega
  go_enter Tryz.func186,Tryz.ntmps186;go_wp2_with fail;go_ret;exact⟨by rw[←a.out];simp[b],rfl⟩
theorem new_calls(w:World):Calls Tryz.prog 34 #[] w fun e h=>e=.returned (.agg S.new.cells)∧Fr (fun _=>False) w h:=by
 have a:=heap_alloc_new w (.cells #[.int .i64 0,.int .i64 1,.int .i64 1,.int .i64 1,.int .i64 1] 84);obtain⟨b,c,d,f,g⟩:=cs5 a rfl rfl rfl rfl rfl;clear a;go_enter Tryz.func34,Tryz.ntmps34;go_wp2_with fail;refine bodyPost_ret (v:=.agg #[.int .i64 0,.int .i64 1,.int .i64 1,.int .i64 1,.int .i64 1]) (by simp[results,Tryz.results34,go_sem,b,c,d,f,g]) rfl ?_;exact⟨rfl,(Fr.refl _ _).alloc _⟩
theorem literal_calls(s:S)(w:World):Calls Tryz.prog 242 #[.agg s.cells] w fun e k=>e=.returned (.bool (decide (s.num<7)))∧Fr (fun _=>False) w k:=by
 obtain⟨n,a,b,c,d⟩:=s;unfold S.cells;generalize i:decide (n<7)=q;have g:=Hd i;have f:=Hd ((R0 w).alloc (.cells #[.int .i64 n,.int .i64 a,.int .i64 b,.int .i64 c,.int .i64 d] 84));clear i;have l:decide ((n:Int)≥0)=true:=by simp
 have m:decide ((0:Int)≤n)=true:=by simp
 by_cases h:n<7
 ·have j:decide ((n:Int)<7)=true:=by simp;omega
  go_enter Tryz.func242,Tryz.ntmps242;go_wp2_with fail;go_ret;exact⟨by rw[←g.out];simp[h],f.out⟩
 ·have j:decide ((n:Int)<7)=false:=by simp;omega
  go_enter Tryz.func242,Tryz.ntmps242;go_wp2_with fail;go_ret;exact⟨by rw[←g.out];simp[h],f.out⟩
set_option maxRecDepth 100000 in
theorem reps_at(a b c d:Int):(∀w,(Instr.index 82 (.agg #[.int .i64 a,.int .i64 b,.int .i64 c,.int .i64 d]) (.int .i64 0)).run Tryz.prog w=.ok (.int .i64 a) w)∧(∀w,(Instr.index 82 (.agg #[.int .i64 a,.int .i64 b,.int .i64 c,.int .i64 d]) (.int .i64 1)).run Tryz.prog w=.ok (.int .i64 b) w)∧(∀w,(Instr.index 82 (.agg #[.int .i64 a,.int .i64 b,.int .i64 c,.int .i64 d]) (.int .i64 2)).run Tryz.prog w=.ok (.int .i64 c) w)∧(∀w,(Instr.index 82 (.agg #[.int .i64 a,.int .i64 b,.int .i64 c,.int .i64 d]) (.int .i64 3)).run Tryz.prog w=.ok (.int .i64 d) w):=by
 refine⟨?_,?_,?_,?_⟩;all_goals exact fun _=>by kernel_rfl
def repAt(s:S)(k:Nat):Nat:=if k=0 then s.r0 else if k=1 then s.r1 else if k=2 then s.r2 else s.r3
set_option maxRecDepth 100000 in
theorem right_calls(s:S)(t:s.Ok)(w:World):Calls Tryz.prog 185 #[.agg s.cells] w fun e f=>e=.returned (.bool true)∧Fr (fun _=>False) w f:=by
 obtain⟨n,a,b,c,d⟩:=s;obtain⟨r,g,h,i,j⟩:=t;simp only at r g h i j;unfold S.cells;have q:=Hd ((R0 w).alloc (.cells #[.int .i64 n,.int .i64 a,.int .i64 b,.int .i64 c,.int .i64 d] 84));have v:decide ((n:Int)≥0)=true:=by simp
 have x:decide ((0:Int)≤n)=true:=by simp
 have y:decide ((n:Int)<12)=true:=by simp;omega
 have l:=Hd (decide_eq_true g);have m:=Hd (decide_eq_true h);have o:=Hd (decide_eq_true i);have p:=Hd (decide_eq_true j);clear g h i j;obtain⟨z,A,B,C⟩:=reps_at a b c d;go_enter Tryz.func185,Tryz.ntmps185;go_wp2_with fail;go_loopw [4,7](fun _ s7 wx=>∃k:Nat,k≤4∧s7=.int .i64 (k:Int)∧wx=w.alloc (.cells #[.int .i64 n,.int .i64 a,.int .i64 b,.int .i64 c,.int .i64 d] 84)) (fun _ s7 _=>4-(intOf s7).toNat);case atStart=>exact⟨0,by omega,rfl,rfl⟩
 case round=>
  obtain⟨k,u,rfl,rfl⟩:=hrel;obtain rfl|rfl|rfl|rfl|rfl:k=0∨k=1∨k=2∨k=3∨k=4:=by omega
  ·go_wp2_with fail
   refine(dist_calls a _).mono ?_;rw[show decide (1≤a∧a≤4294967295)=true from l.out];rintro e f ⟨rfl,rfl⟩;go_wp2_with fail;go_roundw;case rel=>exact⟨1,by omega,by first|rfl|trivial,by first|rfl|trivial⟩
   case measure=>simp[intOf]
  ·go_wp2_with fail
   refine(dist_calls b _).mono ?_;rw[show decide (1≤b∧b≤4294967295)=true from m.out];rintro e f ⟨rfl,rfl⟩;go_wp2_with fail;go_roundw;case rel=>exact⟨2,by omega,by first|rfl|trivial,by first|rfl|trivial⟩
   case measure=>simp[intOf]
  ·go_wp2_with fail
   refine(dist_calls c _).mono ?_;rw[show decide (1≤c∧c≤4294967295)=true from o.out];rintro e f ⟨rfl,rfl⟩;go_wp2_with fail;go_roundw;case rel=>exact⟨3,by omega,by first|rfl|trivial,by first|rfl|trivial⟩
   case measure=>simp[intOf]
  ·go_wp2_with fail
   refine(dist_calls d _).mono ?_;rw[show decide (1≤d∧d≤4294967295)=true from p.out];rintro e f ⟨rfl,rfl⟩;go_wp2_with fail;go_roundw;case rel=>exact⟨4,by omega,by first|rfl|trivial,by first|rfl|trivial⟩
   case measure=>simp[intOf]
  ·go_wp2_with fail
   go_ret;exact⟨rfl,q.out⟩
def range(s:Nat):Nat×Nat:=if s<4 then(s+1,0) else((2+s%2)*2^(s/2-1)+1,s/2-1)
theorem range_calls(s:Nat)(b:s≤63)(w:World):Calls Tryz.prog 244 #[.int .i64 s] w fun e a=>e=.returned (.tuple #[.int .i64 (range s).1,.int .i64 (range s).2,.int .i64 0])∧w=a:=by
 obtain rfl|rfl|rfl|rfl|rfl|rfl|rfl|rfl|rfl|rfl|rfl|rfl|rfl|rfl|rfl|rfl|rfl|rfl|rfl|rfl|rfl|rfl|rfl|rfl|rfl|rfl|rfl|rfl|rfl|rfl|rfl|rfl|rfl|rfl|rfl|rfl|rfl|rfl|rfl|rfl|rfl|rfl|rfl|rfl|rfl|rfl|rfl|rfl|rfl|rfl|rfl|rfl|rfl|rfl|rfl|rfl|rfl|rfl|rfl|rfl|rfl|rfl|rfl|rfl:s=0∨s=1∨s=2∨s=3∨s=4∨s=5∨s=6∨s=7∨s=8∨s=9∨s=10∨s=11∨s=12∨s=13∨s=14∨s=15∨s=16∨s=17∨s=18∨s=19∨s=20∨s=21∨s=22∨s=23∨s=24∨s=25∨s=26∨s=27∨s=28∨s=29∨s=30∨s=31∨s=32∨s=33∨s=34∨s=35∨s=36∨s=37∨s=38∨s=39∨s=40∨s=41∨s=42∨s=43∨s=44∨s=45∨s=46∨s=47∨s=48∨s=49∨s=50∨s=51∨s=52∨s=53∨s=54∨s=55∨s=56∨s=57∨s=58∨s=59∨s=60∨s=61∨s=62∨s=63:=by omega
 all_goals
  go_enter Tryz.func244,Tryz.ntmps244;go_wp2_with fail;go_ret3;exact⟨by kernel_rfl,rfl⟩
end St
namespace St
open Mem
def litL:List Nat:=[0,0,0,0,1,2,3,4,5,6,4,5]
def matchL:List Nat:=[7,7,7,7,7,7,7,10,10,10,10,10]
def repL:List Nat:=[8,8,8,8,8,8,8,11,11,11,11,11]
def shortL:List Nat:=[9,9,9,9,9,9,9,11,11,11,11,11]
def rowOf(l:List Nat):Array Value:=(l.map fun(x:Nat)=>Value.int .i64 (x:Int)).toArray
structure Tabs(w:World):Prop where
 lit:∃T fr,w.heap[1]? =some (.cells (rowOf litL) T fr)
 short:∃T fr,w.heap[2]? =some (.cells (rowOf shortL) T fr)
 mat:∃T fr,w.heap[3]? =some (.cells (rowOf matchL) T fr)
 rep:∃T fr,w.heap[4]? =some (.cells (rowOf repL) T fr)
 size:6≤w.heap.size
theorem Tabs.step{S:Nat→Prop}{w w':World}(h:Tabs w)(a:Fr S w w')(m:∀k,S k→6≤k):Tabs w':=by
 obtain⟨⟨n,b,f⟩,⟨o,c,g⟩,⟨p,d,i⟩,⟨q,e,j⟩,l⟩:=h;refine⟨⟨n,b,a.keep f (fun h=> ?_)⟩,⟨o,c,a.keep g (fun h=> ?_)⟩,⟨p,d,a.keep i (fun h=> ?_)⟩,⟨q,e,a.keep j (fun h=> ?_)⟩,Nat.le_trans l a.size⟩;all_goals exact absurd (m _ h) (by decide)
theorem Tabs.keep{w w':World}(h:Tabs w)(a:Fr (fun _=>False) w w'):Tabs w':=h.step a (fun _ h=>h.elim)
theorem tab_at{w:World}{g n:Nat}{l:List Nat}(h:∃T a,w.heap[g]? =some (.cells (rowOf l) T a))(b:n<l.length):w.cell? ⟨g,n,none⟩=some (.int .i64 (l.getD n 0:Nat)):=by
 obtain⟨T,a,h⟩:=h;refine cell_in h ?_;simp[rowOf,b]
def S.lit(s:S):S:={s with num:=litL.getD s.num 0}
def S.short(s:S):S:={s with num:=shortL.getD s.num 0}
def S.mat(s:S)(d:Nat):S:=⟨matchL.getD s.num 0,d,s.r0,s.r1,s.r2⟩
def S.rep(s:S)(k:Nat):S:=if k=0 then⟨repL.getD s.num 0,s.r0,s.r1,s.r2,s.r3⟩ else if k=1 then⟨repL.getD s.num 0,s.r1,s.r0,s.r2,s.r3⟩ else if k=2 then⟨repL.getD s.num 0,s.r2,s.r0,s.r1,s.r3⟩ else⟨repL.getD s.num 0,s.r3,s.r0,s.r1,s.r2⟩
theorem L_lt:∀n:Fin 12,litL.getD n 0<12∧shortL.getD n 0<12∧matchL.getD n 0<12∧repL.getD n 0<12:=by decide
theorem S.Ok.lit{s:S}(h:s.Ok):s.lit.Ok:=⟨(L_lt ⟨s.num,h.num⟩).1,h.r0,h.r1,h.r2,h.r3⟩
theorem S.Ok.short{s:S}(h:s.Ok):s.short.Ok:=⟨(L_lt ⟨s.num,h.num⟩).2.1,h.r0,h.r1,h.r2,h.r3⟩
theorem S.Ok.mat{s:S}{d:Nat}(h:s.Ok)(a:isD d):(s.mat d).Ok:=⟨(L_lt ⟨s.num,h.num⟩).2.2.1,a,h.r0,h.r1,h.r2⟩
theorem S.Ok.rep{s:S}{k:Nat}(h:s.Ok):(s.rep k).Ok:=by
 have a:=(L_lt ⟨s.num,h.num⟩).2.2.2;unfold S.rep;split
 ·exact⟨a,h.r0,h.r1,h.r2,h.r3⟩
 ·split
  ·exact⟨a,h.r1,h.r0,h.r2,h.r3⟩
  ·split
   ·exact⟨a,h.r2,h.r0,h.r1,h.r3⟩
   ·exact⟨a,h.r3,h.r0,h.r1,h.r2⟩
theorem box3(w:World)(A B:Array Value):Fr (fun _=>False) w (((w.alloc (.cells A 84)).alloc (.cells B 110)).alloc (.cells #[.int .i64 0,.int .i64 0,.int .i64 0,.int .i64 0,.int .i64 0] 84))∧
 (((w.alloc (.cells A 84)).alloc (.cells B 110)).alloc (.cells #[.int .i64 0,.int .i64 0,.int .i64 0,.int .i64 0,.int .i64 0] 84)).heap[w.heap.size]? =some (.cells A 84 (0,0))∧
 (((w.alloc (.cells A 84)).alloc (.cells B 110)).alloc (.cells #[.int .i64 0,.int .i64 0,.int .i64 0,.int .i64 0,.int .i64 0] 84)).heap[w.heap.size+1]? =some (.cells B 110 (0,0))∧
 (((w.alloc (.cells A 84)).alloc (.cells B 110)).alloc (.cells #[.int .i64 0,.int .i64 0,.int .i64 0,.int .i64 0,.int .i64 0] 84)).heap[w.heap.size+1+1]? =some (.cells #[.int .i64 0,.int .i64 0,.int .i64 0,.int .i64 0,.int .i64 0] 84 (0,0)):=by
 have a:=((R0 ((w.alloc (.cells A 84)).alloc (.cells B 110))).alloc (.cells #[.int .i64 0,.int .i64 0,.int .i64 0,.int .i64 0,.int .i64 0] 84)).keep (heap_alloc_new (w.alloc (.cells A 84)) (.cells B 110)) (fun h=>h);have b:=heap_alloc_new ((w.alloc (.cells A 84)).alloc (.cells B 110)) (.cells #[.int .i64 0,.int .i64 0,.int .i64 0,.int .i64 0,.int .i64 0] 84);simp only[World.size_alloc] at a b;exact⟨(((Fr.refl _ w).alloc _).alloc _).alloc _,(((R0 (w.alloc (.cells A 84))).alloc _).alloc _).keep (heap_alloc_new w _) (fun h=>h),a,b⟩
end St
namespace St
open Mem
def propsBad(lc lp pb:Int):Bool:=decide (lc<0∨lp<0∨pb<0∨4<pb∨4<lc∨4-lc<lp)
theorem props_calls(lc lp pb:Int)(w:World)(v:-9223372036854775808≤lc∧lc≤9223372036854775807)(y:-9223372036854775808≤lp∧lp≤9223372036854775807)(z:-9223372036854775808≤pb∧pb≤9223372036854775807):
 Calls Tryz.prog 49 #[.agg #[.int .i64 lc,.int .i64 lp,.int .i64 pb]] w fun e G=>(∃x,e=.returned (.tuple #[.int .i64 x,.int .i64 (if propsBad lc lp pb then 6 else 0)]))∧Fr (fun _=>False) w G:=by
 have b:=Hd ((R0 w).alloc (.cells #[.int .i64 lc,.int .i64 lp,.int .i64 pb] 24));go_enter Tryz.func49,Tryz.ntmps49;by_cases A:lc<0
 ·have m:(decide (lc<0))=true:=by simp;omega
  have a:propsBad lc lp pb=true:=by unfold propsBad;simp;omega
  rw[a];go_wp2_with fail;go_ret2;exact⟨⟨_,rfl⟩,b.out⟩
 have c:(decide (lc<0))=false:=by simp;omega
 by_cases B:lp<0
 ·have n:(decide (lp<0))=true:=by simp;omega
  have a:propsBad lc lp pb=true:=by unfold propsBad;simp;omega
  rw[a];go_wp2_with fail;go_ret2;exact⟨⟨_,rfl⟩,b.out⟩
 have d:(decide (lp<0))=false:=by simp;omega
 by_cases C:pb<0
 ·have o:(decide (pb<0))=true:=by simp;omega
  have a:propsBad lc lp pb=true:=by unfold propsBad;simp;omega
  rw[a];go_wp2_with fail;go_ret2;exact⟨⟨_,rfl⟩,b.out⟩
 have f:(decide (pb<0))=false:=by simp;omega
 by_cases D:4<pb
 ·have p:(decide (4<pb))=true:=by simp;omega
  have q:(decide (pb>4))=true:=by simp;omega
  have a:propsBad lc lp pb=true:=by unfold propsBad;simp;omega
  rw[a];go_wp2_with fail;go_ret2;exact⟨⟨_,rfl⟩,b.out⟩
 have g:(decide (4<pb))=false:=by simp;omega
 have h:(decide (pb>4))=false:=by simp;omega
 by_cases E:4<lc
 ·have r:(decide (4<lc))=true:=by simp;omega
  have s:(decide (lc>4))=true:=by simp;omega
  have a:propsBad lc lp pb=true:=by unfold propsBad;simp;omega
  rw[a];go_wp2_with fail;go_ret2;exact⟨⟨_,rfl⟩,b.out⟩
 have i:(decide (4<lc))=false:=by simp;omega
 have j:(decide (lc>4))=false:=by simp;omega
 by_cases F:4-lc<lp
 ·have t:(decide (4-lc<lp))=true:=by simp;omega
  have u:(decide (lp>4-lc))=true:=by simp;omega
  have a:propsBad lc lp pb=true:=by unfold propsBad;simp;omega
  rw[a];go_wp2_with fail;go_ret2;exact⟨⟨_,rfl⟩,b.out⟩
 have k:(decide (4-lc<lp))=false:=by simp;omega
 have l:(decide (lp>4-lc))=false:=by simp;omega
 have a:propsBad lc lp pb=false:=by unfold propsBad;simp;omega
 rw[a];go_wp2_with fail;go_ret2;exact⟨⟨_,rfl⟩,b.out⟩
theorem props_ok(lc lp pb:Nat)(b:lc+lp≤4)(c:pb≤4)(w:World):
 Calls Tryz.prog 49 #[.agg #[.int .i64 lc,.int .i64 lp,.int .i64 pb]] w fun e a=>(∃x,e=.returned (.tuple #[.int .i64 x,.int .i64 0]))∧Fr (fun _=>False) w a:=by
 have h:=props_calls lc lp pb w (by omega) (by omega) (by omega);rwa [if_neg (by unfold propsBad;simp;omega)] at h
def bytePropsOk(b:Nat):Bool:=decide (b%9+b/9%5≤4∧b/45≤4)
end St
namespace Lz
open Mem St
def rowLen(lc lp j:Nat):Nat:=
 if j=0∨j=1 then 192 else if j≤5 then 12 else if j=6 then 768*2^(lc+lp) else if j=7∨j=11 then 2 else if j=10∨j=14∨j=15 then 256 else if j=17 then 16 else 128
def sumFrom:Nat→Nat→Nat
 |_,0=>0
 |s,k+1=>2^(range s).2+sumFrom (s+1) k
def restAt(slot:Nat):Nat:=sumFrom 4 (slot-4)
theorem range_le:∀s:Fin 64,(range s).1+2^(range s).2≤4294967297∧(range s).2≤30∧1≤(range s).1∧(14≤s.val→4≤(range s).2)∧(4≤s.val→s.val<14→(range s).2≤5∧1≤(range s).2):=by decide+kernel
theorem and_low(a k:Nat)(g:a<9223372036854775808)(c:k≤62):bits BinOp.and IntKind.i64 (a:Int) (2^k-1)=((a%2^k:Nat):Int):=by
 have h:(2:Nat)^k≤4611686018427387904:=Nat.le_trans (Nat.pow_le_pow_right (by omega) c) (by decide);have b:=Nat.two_pow_pos k;have e:((2:Int)^k-1)=((2^k-1:Nat):Int):=by
  have:((2^k:Nat):Int)=(2:Int)^k:=by simp
  omega
 rw[e];have d:(BitVec.ofInt 64 (a:Int)).toNat=a:=by
  rw[BitVec.ofInt_natCast,BitVec.toNat_ofNat];exact Nat.mod_eq_of_lt (by omega)
 have f:(BitVec.ofInt 64 ((2^k-1:Nat):Int)).toNat=2^k-1:=by
  rw[BitVec.ofInt_natCast,BitVec.toNat_ofNat];exact Nat.mod_eq_of_lt (by omega)
 show IntKind.i64.wrap ((BitVec.ofInt 64 (a:Int)&&&BitVec.ofInt 64 ((2^k-1:Nat):Int)).toNat:Int)=_;rw[BitVec.toNat_and,d,f,Nat.and_two_pow_sub_one_eq_mod];have:=Nat.mod_lt a b;exact IntWalk.i64_in _ (by omega)
theorem place_calls(T place pb:Nat)(w:World)(f:w.cell? ⟨T,2,none⟩=some (.int .i64 pb))(c:pb≤4)(b:place<9223372036854775808):
 Calls Tryz.prog 240 #[.pointer (some ⟨T,0,none⟩),.int .i64 place] w fun e d=>e=.returned (.int .i64 (place%2^pb:Nat))∧w=d:=by
 have a:=and_low place pb b (by omega);obtain rfl|rfl|rfl|rfl|rfl:pb=0∨pb=1∨pb=2∨pb=3∨pb=4:=by omega
 all_goals
  simp only[Int.reducePow,Int.reduceSub,Nat.reducePow] at a ⊢;go_enter Tryz.func240,Tryz.ntmps240;go_wp2_with fail;go_ret;first
   |exact⟨rfl,rfl⟩
   |exact⟨ret_int (by simp[Nat.mod_one]),rfl⟩
theorem at_calls(T place pb num:Nat)(w:World)(b:w.cell? ⟨T,2,none⟩=some (.int .i64 pb))(k:w.cell? ⟨T,3,none⟩=some (.int .i64 num))(a:pb≤4)(f:place<9223372036854775808)(c:num<12):
 Calls Tryz.prog 192 #[.pointer (some ⟨T,0,none⟩),.int .i64 place] w fun e g=>e=.returned (.int .i64 ((num*16+place%2^pb:Nat):Int))∧∃m,g=w.drewN m:=by
 have d:=Hd (fun m=>place_calls T place pb (w.drewN m) (by simpa using b) a f);have j:place%2^pb<16:=Nat.lt_of_lt_of_le (Nat.mod_lt _ (Nat.two_pow_pos pb)) (Nat.pow_le_pow_right (by omega) a);generalize place%2^pb=x at*;have h:IntKind.i64.wrap ((num:Int)*16)=(num:Int)*16:=IntWalk.i64_in _ (by omega);have i:IntKind.i64.wrap ((num:Int)*16+x)=(num:Int)*16+x:=IntWalk.i64_in _ (by omega);clear b;go_enter Tryz.func192,Tryz.ntmps192;go_wp2_with fail;go_quiet (exact quiet_left (d.out _));go_wp2_with fail;go_ret;exact⟨ret_int (by omega),_,rfl⟩
theorem context_calls(T place lc lp a:Nat)(w:World)(h:w.cell? ⟨T,0,none⟩=some (.int .i64 lc))(i:w.cell? ⟨T,1,none⟩=some (.int .i64 lp))(k:lc+lp≤4)(f:place<9223372036854775808)(j:a<256):
 Calls Tryz.prog 241 #[.pointer (some ⟨T,0,none⟩),.int .i64 place,.int .u8 a] w fun e g=>e=.returned (.int .i64 ((768*(place%2^lp*2^lc+a/2^(8-lc)):Nat):Int))∧∃m,g=w.drewN m:=by
 have d:=and_low place lp f (by omega);have b:lc=0∨lc=1∨lc=2∨lc=3∨lc=4:=by omega
 have c:lp=0∨lp=1∨lp=2∨lp=3∨lp=4:=by omega
 rcases b with rfl|rfl|rfl|rfl|rfl;all_goals
  rcases c with rfl|rfl|rfl|rfl|rfl
 all_goals first|(exfalso;omega)|skip
 all_goals
  simp only[Int.reducePow,Int.reduceSub,Nat.reducePow,Nat.reduceSub] at d ⊢;go_enter Tryz.func241,Tryz.ntmps241;go_wp2_with fail;go_quiet (fail);go_wp2_with fail;go_ret;exact⟨ret_int (by omega),_,rfl⟩
theorem late_calls(s:Nat)(w:World):Calls Tryz.prog 245 #[.int .i64 s] w fun e a=>e=.returned (.bool (decide (14≤s)))∧w=a:=by
 by_cases h:14≤s;all_goals
  have e:decide (14≤s)=decide (14≤s):=rfl;go_enter Tryz.func245,Tryz.ntmps245;go_wp2_with fail;go_ret;refine⟨?_,rfl⟩;simp[h];try omega
theorem sumFrom_snoc:∀(k s:Nat),sumFrom s (k+1)=sumFrom s k+2^(range (s+k)).2
 |0,s=>by simp[sumFrom]
 |k+1,s=>by rw[sumFrom,sumFrom_snoc k (s+1),sumFrom,show s+1+k=s+(k+1) by omega];omega
theorem sumFrom_le:∀k:Fin 11,sumFrom 4 k≤128:=by decide+kernel
theorem restAt_calls(a:Nat)(w:World)(h:a≤14):Calls Tryz.prog 246 #[.int .i64 a] w fun e l=>e=.returned (.int .i64 (restAt a))∧w=l:=by
 go_enter Tryz.func246,Tryz.ntmps246;go_wp2_with fail;go_loop [3,4](fun t i=>∃k:Nat,4+k≤max a 4∧i=.int .i64 ((4+k:Nat):Int)∧t=.int .i64 (sumFrom 4 k)) (fun _ i=>a-(intOf i).toNat);case atStart=>exact⟨0,by omega,rfl,rfl⟩
 case round=>
  obtain⟨k,p,rfl,rfl⟩:=hrel;by_cases m:4+k<a
  ·have d:=range_le ⟨4+k,by omega⟩
   have o:=sumFrom_le ⟨k,by omega⟩;simp only at d o;have g:=(d.2.2.2.2 (by omega) (by omega)).1;have j:2^(range (4+k)).2≤32:=Nat.pow_le_pow_right (n:=2) (by omega) g;have c:=Hd (sumFrom_snoc k 4);have f:=Hd (range_calls (4+k) (by omega) w);clear d;generalize range (4+k)=r at*;obtain⟨q,b⟩:=r;simp only at g j c f;generalize sumFrom 4 k=s0 at*;go_wp2_with fail;refine f.out.mono ?_;rintro e l ⟨rfl,rfl⟩;obtain rfl|rfl|rfl|rfl|rfl|rfl:b=0∨b=1∨b=2∨b=3∨b=4∨b=5:=by omega
   all_goals
    simp only[Nat.reducePow] at c j;go_wp2_with fail;go_round;case rel=>exact⟨k+1,by omega,by go_num,by rw[c.out];go_num⟩
    case measure=>simp[intOf];omega
  ·go_wp2_with fail
   go_ret;refine⟨ret_int ?_,rfl⟩;unfold restAt;congr 2;omega
end Lz
end Go.Proofs.YtffoddpjfgjelaaGreatDoor
namespace Go.Proofs.YtffoddpjfgjelaaGreatDoor
namespace Prob
def taken(p:Int):Int:=if p<0 then 0 else if 2047<p then 2047 else p
def next(p bit:Int):Int:=if bit=0 then taken p+(2048-taken p)/32 else taken p-taken p/32
def bnd(r p:Int):Int:=(r/2048)*taken p
theorem taken_lo(p:Int):0≤taken p:=by unfold taken;split<;>(try split)<;>omega
theorem taken_hi(p:Int):taken p≤2047:=by unfold taken;split<;>(try split)<;>omega
theorem taken_id(p:Int)(h:0≤p)(a:p≤2047):taken p=p:=by unfold taken;rw[if_neg (by omega),if_neg (by omega)]
end Prob
end Go.Proofs.YtffoddpjfgjelaaGreatDoor
