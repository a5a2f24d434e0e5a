/- Part 12 of 54: lemmas of the last part, each under the conditions that it names. -/
import Derived.Deep.RegionLaw
import Derived.Deep.DeepCutAuto
import Derived.Deep.LoopGhost
import Derived.BigRegion
import Derived.Test.YtffoddpjfgjelaaGreatDoorK05
import Derived.Test.YtffoddpjfgjelaaGreatDoorK09
set_option linter.unusedVariables false
set_option linter.unusedSimpArgs false
set_option maxRecDepth 1500
set_option maxHeartbeats 1000000
namespace Go.Proofs.YtffoddpjfgjelaaGreatDoor
open Go.RowKit
namespace En
open Mem Rc Win Lz
theorem step_own{m:Array Oper}{o:Oper}{a:Act}{K:Act→World→Prop}{Q:Exit→Act→World→Prop}{E:Prop}(g:o.guard=none)(s y:Operand)
 (p:o.op=.call {callee:=.builtin .append,args:=#[s,y],argTypes:=#[22,22]}){w:World}(v x:Value)(xs ys:List UInt8)(hv:a.eval s=v)(hx:a.eval y=x)(b:w.ownsRow 0 5 1 v xs.length (bvs xs))(hrd:Rd w x ys)
 (hb:xs.length+ys.length≤70368744177664)
 (h:∀d e,e.ownsRow 0 5 1 d (xs++ys).length (bvs (xs++ys))→Fr (fun k=>v.ownBlock=some k) w e→(∀k,d.ownBlock=some k→v.ownBlock=some k∨w.heap.size≤k)→K (a.put o.dst d) e):
 if Region.wanted o (yielded m a.tmps)=true then Oper.wp Tryz.prog o a w K Q else E:=by
 obtain⟨q,n,i,j,l⟩:=info_parts infoU8;refine step_append_any w g s y 22 22 p 5 q (.int .u8 0) 1 1 Tryz.underlying22 n i j l rfl (by decide) v xs.length (bvs xs) hv b x ys.length (bvs ys) hx (src_rd Tryz.underlying22 hrd) (by simp only[maxLen];omega) (by omega) ?_;intro d e b f c _;exact h d e (by rw[List.length_append];simpa [bvs] using b) f c
theorem append_own{e:Array Oper}{rest:List Oper}{o:Oper}{a:Act}{Q:Exit→Act→World→Prop}(i:o.guard=none)(s y:Operand)
 (r:o.op=.call {callee:=.builtin .append,args:=#[s,y],argTypes:=#[22,22]}){w:World}(v x:Value)(xs ys:List UInt8)(hv:a.eval s=v)(hx:a.eval y=x)(b:w.ownsRow 0 5 1 v xs.length (bvs xs))(hrd:Rd w x ys)
 (hb:xs.length+ys.length≤70368744177664)
 (h:∀p n c f,f.ownsRow 0 5 1 (.slice p n c) (xs++ys).length (bvs (xs++ys))→Fr (fun k=>v.ownBlock=some k) w f→(∀k,(Value.slice p n c).ownBlock=some k→v.ownBlock=some k∨w.heap.size≤k)→wpList Tryz.prog e Q rest (a.put o.dst (.slice p n c)) f):
 wpList Tryz.prog e Q (o::rest) a w:=by
 obtain⟨t,q,j,l,m⟩:=info_parts infoU8;refine wpList_append_any w i s y 22 22 r 5 t (.int .u8 0) 1 1 Tryz.underlying22 q j l m rfl (by decide) v xs.length (bvs xs) hv b x ys.length (bvs ys) hx (src_rd Tryz.underlying22 hrd) (by simp only[maxLen];omega) (by omega) ?_;intro u f b g d _;obtain⟨p,c,rfl⟩:=own_slice b;exact h _ _ _ f (by rw[List.length_append];simpa [bvs] using b) g d
theorem off_box{w:World}{T b:TypeId}{v:Value}{z n:Nat}{xs:List Value}(h:w.ownsRow 0 T z v n xs){R:Nat}{c:Array Value}{fr:Nat×Nat}(e:w.heap[R]? =some (.cells c b fr))(f:b≠T):∀k,v.ownBlock=some k→k≠R:=by
 rintro k g rfl;obtain⟨d,a⟩:=own_block h g;rw[e] at a;simp only[Option.some.injEq,Obj.cells.injEq] at a;exact f a.2.1
def boxV(low rng held wait:Nat)(v:Value):Array Value:=#[.int .u64 low,.int .u32 rng,.int .u8 held,.int .i64 wait,v]
structure EAt(w:World)(B:Nat)(v:Value)(g:G):Prop where
 box:w.heap[B]? =some (.cells (boxV g.low g.rng g.held g.wait v) 219 (0,0))
 own:w.ownsRow 0 5 1 v g.out.length (bvs g.out)
theorem EAt.off{w:World}{B:Nat}{v:Value}{g:G}(h:EAt w B v g):∀k,v.ownBlock=some k→k≠B:=fun k a=>off_box h.own h.box (by decide) k a
def EF(B:Nat)(v:Value)(k:Nat):Prop:=k=B∨v.ownBlock=some k
def EPost(B:Nat)(v:Value)(w:World)(g:G)(w':World):Prop:=Fr (EF B v) w w'∧∃v',EAt w' B v' g∧∀k,v'.ownBlock=some k→v.ownBlock=some k∨w.heap.size≤k
theorem EAt.keep{S:Nat→Prop}{w w':World}{B:Nat}{v:Value}{g:G}(h:EAt w B v g)(a:Fr S w w')(b:¬S B)(c:∀k,v.ownBlock=some k→¬S k):EAt w' B v g:=
 ⟨a.keep h.box b,own_step h.own a c⟩
theorem EPost.trans{B:Nat}{v v1:Value}{w g h:World}{g2:G}(b:Fr (EF B v) w g)(d:∀k,v1.ownBlock=some k→v.ownBlock=some k∨w.heap.size≤k)(i:EPost B v1 g g2 h):EPost B v w g2 h:=by
 obtain⟨f,j,a,n⟩:=i;refine⟨b.trans' f (fun k c e=> ?_),j,a,fun k c=> ?_⟩
 ·rcases e with e|e
  ·exact .inl e
  ·rcases d k e with e|e
   ·exact .inr e
   ·omega
 ·rcases n k c with e|e
  ·exact d k e
  ·exact .inr (Nat.le_trans b.size e)
theorem EAt.app{w W d:World}{B:Nat}{v v2:Value}{g:G}{l:List UInt8}(h:EAt w B v g)(f:Fr (fun _=>False) w W)(c:d.ownsRow 0 5 1 v2 (g.out++l).length (bvs (g.out++l)))(a:Fr (fun k=>v.ownBlock=some k) W d)
 (b:∀k,v2.ownBlock=some k→v.ownBlock=some k∨W.heap.size≤k):Fr (EF B v) w (d.setCell ⟨B,4,none⟩ v2)∧EAt (d.setCell ⟨B,4,none⟩ v2) B v2 {g with out:=g.out++l}∧∀k,v2.ownBlock=some k→v.ownBlock=some k∨w.heap.size≤k:=by
 have n:∀k,v2.ownBlock=some k→v.ownBlock=some k∨w.heap.size≤k:=fun k j=>(b k j).imp id (fun e=>Nat.le_trans f.size e);have i:=a.keep (f.keep h.box (fun h=>h)) (fun e=>h.off B e rfl);have m:=Fr.one d B 4 v2;refine⟨((f.mono (fun _ _ h=>h.elim)).trans (a.mono (fun k _ e=>.inr e))).trans (m.mono (fun k _ e=>.inl e)),⟨?_,own_step c m (fun k j e=> ?_)⟩,n⟩
 ·rw[set_in i 4]
  rfl
 ·have e:k=B:=e
  subst e;rcases n k j with e|e
  ·exact h.off k e rfl
  ·have:=lt_of_block h.box
   omega
theorem toU8(x:Nat):((x%256:Nat):Int)=((UInt8.ofNat x).toNat:Int):=by rw[UInt8.toNat_ofNat']
theorem wrapU8(x:Nat):IntKind.u8.wrap (x:Int)=((UInt8.ofNat x).toNat:Int):=by rw[IntKind.wrap_u8,←toU8];omega
theorem and24(a:Nat):bits BinOp.and IntKind.u64 (a:Int) 16777215=((a%16777216:Nat):Int):=by
 have d:a%16777216<16777216:=Nat.mod_lt _ (by decide);have c:(BitVec.ofInt 64 (16777215:Int)).toNat=2^24-1:=by decide
 have b:(BitVec.ofInt 64 (a:Int)).toNat=a%2^64:=by rw[BitVec.ofInt_natCast,BitVec.toNat_ofNat]
 show IntKind.u64.wrap ((BitVec.ofInt 64 (a:Int)&&&BitVec.ofInt 64 (16777215:Int)).toNat:Int)=_;rw[BitVec.toNat_and,b,c,Nat.and_two_pow_sub_one_eq_mod,Nat.mod_mod_of_dvd _ (by decide)];exact IntWalk.u64_in _ (by omega)
theorem EAt.set{w:World}{B:Nat}{v:Value}{g g':G}(h:EAt w B v g)(i:Nat)(x:Value)(b:(boxV g.low g.rng g.held g.wait v).setIfInBounds i x=boxV g'.low g'.rng g'.held g'.wait v)(a:g'.out=g.out):EAt (w.setCell ⟨B,i,none⟩ x) B v g'∧Fr (EF B v) w (w.setCell ⟨B,i,none⟩ x):=
 ⟨⟨by rw[set_in h.box i,b],by rw[a];exact own_step h.own (Fr.one w B i x) (fun k hk e=>h.off k hk e)⟩,(Fr.one w B i x).mono (fun _ _ e=>.inl e)⟩
theorem rep_snoc(l:List UInt8)(x y:UInt8)(n f:Nat)(h:f+1≤n):l++x::List.replicate (n-f) y=(l++x::List.replicate (n-(f+1)) y)++[y]:=by
 rw[show n-f=(n-(f+1))+1 by omega,List.replicate_succ'];simp
theorem emit_eq(g:G)(c L q m:Nat)(a b:UInt8)(h:c=carry g)(d:a=UInt8.ofNat (g.held+c))(e:b=UInt8.ofNat (255+c))(f:L=g.low)(j:q=L/16777216%256)(i:m=L%16777216)(k:g.low<4278190080∨4294967295<g.low):
 g.shift=⟨m*256,g.rng,q,0,g.out++a::List.replicate (g.wait-0) b⟩:=by
 unfold G.shift G.fixed;rw[if_pos k,←h,←d,←e,j,i,f];rfl
theorem shift_rel{w c d a:World}{B:Nat}{v v1 v2:Value}{g:G}(f:Fr (EF B v) w c)(j:∀k,v1.ownBlock=some k→v.ownBlock=some k∨w.heap.size≤k)(m:Fr (EF B v1) c d)(n:∀k,v2.ownBlock=some k→v1.ownBlock=some k∨c.heap.size≤k)(h:EAt a B v2 g∧Fr (EF B v2) d a):
 Fr (EF B v) w a∧EAt a B v2 g∧∀k,v2.ownBlock=some k→v.ownBlock=some k∨w.heap.size≤k:=by
 have i:∀k,v2.ownBlock=some k→v.ownBlock=some k∨w.heap.size≤k:=fun k b=>by
  rcases n k b with e|e
  ·exact j k e
  ·exact .inr (Nat.le_trans f.size e)
 have l:Fr (EF B v) w d:=f.trans' m (fun k b e=>by
  rcases e with e|e
  ·exact .inl e
  ·exact(j k e).elim .inr (fun e=>by omega))
 exact⟨l.trans' h.2 (fun k b e=>by
  rcases e with e|e
  ·exact .inl e
  ·exact(i k e).elim .inr (fun e=>by omega)),h.1,i⟩
set_option maxRecDepth 20000 in
theorem shift_emit{w:World}{B:Nat}{v:Value}{g:G}(h:EAt w B v g)(h2:g.held≤255)(h3:g.out.length+g.wait≤1099511627776)(c:Nat)(hc:c=carry g)(c7:c≤1)(hl:g.low<4278190080∨4294967295<g.low):
    Calls Tryz.prog 198 #[ptr B] w fun e w'=>e=.returned (.tuple #[])∧EPost B v w g.shift w':=by
  have c0:w.cell? ⟨B,0,none⟩=some (.int .u64 g.low):=cell_in h.box rfl;have c2:w.cell? ⟨B,2,none⟩=some (.int .u8 g.held):=cell_in h.box rfl;have c3:w.cell? ⟨B,3,none⟩=some (.int .i64 g.wait):=cell_in h.box rfl;have c4:w.cell? ⟨B,4,none⟩=some v:=cell_in h.box rfl;have cf:=fun i=>frozen_in h.box i;have hq:(g.low:Int)/4294967296=(c:Int):=by rw[hc];unfold carry;omega
  obtain⟨t1,h4⟩:∃t,t=decide ((g.low:Int)<4278190080):=⟨_,rfl⟩;obtain⟨t2,h5⟩:∃t,t=decide ((4294967295:Int)<g.low):=⟨_,rfl⟩;have h6:t1=true∨t1=false∧t2=true:=by
    rcases hl with h|h
    · exact .inl (h4.trans (decide_eq_true (by omega)))
    · exact .inr ⟨h4.trans (decide_eq_false (by omega)),h5.trans (decide_eq_true (by omega))⟩
  have O:=Hd h;have H2:=Hd h2;have H3:=Hd h3;have HC:=Hd hc;have HS:=Hd hl;clear h h2 h3 hl hc;have h7:=h4.symm;have h8:=h5.symm;clear h4 h5;obtain⟨L,F⟩:∃L,L=g.low:=⟨_,rfl⟩;rw[←F] at c0 hq h7 h8;have P:=Hd F;clear F;obtain⟨m,K⟩:∃x,x=UInt8.ofNat (g.held+c):=⟨_,rfl⟩;obtain⟨o,M⟩:∃x,x=UInt8.ofNat (255+c):=⟨_,rfl⟩;have c1:IntKind.u8.wrap ((g.held:Int)+c)=(m.toNat:Int):=by rw[K,←wrapU8];rfl
  have J:IntKind.u8.wrap (255+(c:Int))=(o.toNat:Int):=by rw[M,←wrapU8];rfl
  have b0:=Hd (show IntKind.u8.wrap ((L:Int)/16777216)=((L/16777216%256:Nat):Int) by rw[IntKind.wrap_u8];omega);have b1:=Hd (and24 L);have s:L%16777216≤16777215:=by omega
  have a6:=Hd s;clear s;have b5:=Hd K;have b6:=Hd M;have c5:=Hd c1;have b4:=Hd J;clear K M J;have b7:=alloc_keep c4 (.cells #[.int .u8 m.toNat] 5);have HW:=Hd ((R0 w).drew.alloc (.cells #[.int .u8 m.toNat] 5));have b3:=Hd (rd_one w.drew w.heap.size rfl m _ rfl);have a9:=Hd (own_step O.out.own HW.out (fun _ _ h=>h));have HL:=Hd (show∃v1,Fr (EF B v) w w∧EAt w B v1 g∧∀k,v1.ownBlock=some k→v.ownBlock=some k∨w.heap.size≤k from⟨v,Fr.refl _ _,O.out,fun k hk=>.inl hk⟩);rcases h6 with rfl|⟨rfl,rfl⟩;all_goals
    go_enter Tryz.func198,Tryz.ntmps198;go_upto_region 2 with fail;go_cut [] (fun wx=>∃p n cap,Fr (EF B v) w wx∧EAt wx B (.slice p n cap) {g with out:=g.out++[m]}∧∀k,(Value.slice p n cap).ownBlock=some k→v.ownBlock=some k∨w.heap.size≤k);case first=>
      go_region_law (refine step_own rfl _ _ rfl v (.slice (some ⟨w.heap.size,0,none⟩) 1 1) g.out [m] (by simp[Act.eval,Act.put]) (by simp[Act.eval,Act.put]) a9.out b3.out (by have:=H3.out;simp only[List.length_singleton];omega) ?_
                     intro v2 w2 a b d;obtain⟨p2,u,a2⟩:=own_slice a;generalize(g.out++[m]).length=n2 at a2;subst a2;obtain⟨V,T,n3⟩:=O.out.app HW.out a b d;have A:=Hd V;have z:=Hd T;have D:=Hd n3;have j:=b.keep (HW.out.keep O.out.box (fun h=>h)) (fun e=>O.out.off B e rfl);have z4:=cell_in (i:=4) j rfl;have zf:=frozen_in j 4;clear V T n3 a b d j)
      all_goals
        go_wp2_with fail;go_meet;exact⟨_,_,_,A.out,z.out,D.out⟩
    case rest=>
      obtain⟨p1,n1,U,X,W,a0⟩:=hcut;have a5:=Hd X;have a4:=Hd W;have a8:=Hd a0;clear X W a0 c0 c2 c3 c4 b7 cf hq h7 h8;go_wp2_with fail;go_loopg [] g.wait (fun f wr=>f≤g.wait∧∃p n cap,Fr (EF B v) w wr∧EAt wr B (.slice p n cap) ⟨g.low,g.rng,g.held,f,g.out++m::List.replicate (g.wait-f) o⟩∧∀k,(Value.slice p n cap).ownBlock=some k→v.ownBlock=some k∨w.heap.size≤k);case atStart=>exact⟨Nat.le_refl _,p1,n1,U,a5.out,by rw[Nat.sub_self];exact a4.out,a8.out⟩
      case round=>
        obtain⟨Z,p4,n4,y,Y,l,a1⟩:=hrel;have d0:wr.cell? ⟨B,0,none⟩=some (.int .u64 L):=P.out ▸ cell_in l.box rfl;have d2:wr.cell? ⟨B,2,none⟩=some (.int .u8 g.held):=cell_in l.box rfl;have d3:wr.cell? ⟨B,3,none⟩=some (.int .i64 gk):=cell_in l.box rfl;have d4:wr.cell? ⟨B,4,none⟩=some (.slice p4 n4 y):=cell_in l.box rfl;have df:=fun i=>frozen_in l.box i;have N:=Hd Y;have r:=Hd l;have Q:=Hd a1;have C:=Hd Z;clear Y l a1 Z;by_cases h0:gk=0
        · subst h0
          have b8:=b0.out;have b9:=b1.out;have s:=a6.out;obtain⟨q6,I⟩:∃q,q=L/16777216%256:=⟨_,rfl⟩;obtain⟨m8,H⟩:∃q,q=L%16777216:=⟨_,rfl⟩;rw[←I] at b8;rw[←H] at b9 s;have b2:=Hd I;have a7:=Hd H;clear I H;go_wp2_with fail;go_end0;refine⟨rfl,?_⟩;have s1:=EAt.set (g':=⟨g.low,g.rng,q6,0,g.out++m::List.replicate (g.wait-0) o⟩) r.out 2 (.int .u8 q6) rfl rfl;have s2:=EAt.set (g':=⟨m8*256,g.rng,q6,0,g.out++m::List.replicate (g.wait-0) o⟩) s1.1 0 (.int .u64 ((m8:Int)*256)) (by simp[boxV]) rfl;have e:=emit_eq g c L q6 m8 m o HC.out b5.out b6.out P.out b2.out a7.out HS.out;rw[e];exact EPost.trans N.out Q.out ⟨s1.2.trans s2.2,_,s2.1,fun k hk=>.inl hk⟩
        · obtain⟨f,rfl⟩:∃f,gk=f+1:=⟨gk-1,by omega⟩
          have c8:f≤1099511627776:=by have:=C.out;have:=H3.out;omega
          have J:=b4.out;have c6:=alloc_keep d4 (.cells #[.int .u8 o.toNat] 5);have E:=Hd ((R0 wr).alloc (.cells #[.int .u8 o.toNat] 5));have S:=Hd (rd_one wr wr.heap.size rfl o _ rfl);have R:=Hd (own_step r.out.own E.out (fun _ _ h=>h));go_wp2_with (at_builtin;refine append_own rfl _ _ rfl (.slice p4 n4 y) (.slice (some ⟨wr.heap.size,0,none⟩) 1 1) (g.out++m::List.replicate (g.wait-(f+1)) o) [o] rfl rfl R.out S.out (by have:=H3.out;simp;omega) ?_;intro p2 n2 u w2 a b d;obtain ⟨V,T,n3⟩:=r.out.app E.out a b d;have A:=Hd V;have z:=Hd T;have D:=Hd n3;have j:=b.keep (E.out.keep r.out.box (fun h=>h)) (fun e=>r.out.off B e rfl);have z4:=cell_in (i:=4) j rfl;have z3:w2.cell? ⟨B,3,none⟩=some (.int .i64 ((f+1:Nat):Int)):=cell_in j rfl;have zf:=fun i=>frozen_in j i;clear V T n3 a b d j);go_roundg f;case rel=>
            have s1:=EAt.set (g':=⟨g.low,g.rng,g.held,f,g.out++m::List.replicate (g.wait-f) o⟩) z.out 3 (.int .i64 f) rfl (rep_snoc g.out m o g.wait f C.out);exact⟨by have:=C.out;omega,p2,n2,u,shift_rel N.out Q.out A.out D.out s1⟩
          case measure=>omega
set_option maxRecDepth 20000 in
theorem shift_wait{w:World}{B:Nat}{v:Value}{g:G}(h:EAt w B v g)(t:g.out.length+g.wait≤1099511627776)(l:¬(g.low<4278190080∨4294967295<g.low)):
 Calls Tryz.prog 198 #[ptr B] w fun e z=>e=.returned (.tuple #[])∧EPost B v w g.shift z:=by
 have s:w.cell? ⟨B,0,none⟩=some (.int .u64 g.low):=cell_in h.box rfl;have A:w.cell? ⟨B,3,none⟩=some (.int .i64 g.wait):=cell_in h.box rfl;have C:=fun i=>frozen_in h.box i;have d:decide ((g.low:Int)<4278190080)=false:=decide_eq_false (by omega);have f:decide ((4294967295:Int)<g.low)=false:=decide_eq_false (by omega);have e:g.shift=⟨g.low%16777216*256,g.rng,g.held,g.wait+1,g.out⟩:=by unfold G.shift;rw[if_neg l]
 have b:=and24 g.low;have j:g.low%16777216≤16777215:=by omega
 have y:g.wait≤1099511627776:=by omega
 have r:=Hd h;have p:=Hd e;clear h t l e;obtain⟨m,a⟩:∃q,q=g.low%16777216:=⟨_,rfl⟩;rw[←a] at b j;have c:=Hd a;clear a;generalize u:g.low=L at s d f b;clear u;go_enter Tryz.func198,Tryz.ntmps198;go_wp2_with fail;go_end0;have n:=EAt.set (g':=⟨g.low,g.rng,g.held,g.wait+1,g.out⟩) r.out 3 (.int .i64 ((g.wait:Int)+1)) (by simp[boxV]) rfl;have o:=EAt.set (g':=⟨m*256,g.rng,g.held,g.wait+1,g.out⟩) n.1 0 (.int .u64 ((m:Int)*256)) (by simp[boxV]) rfl;rw[p.out,←c.out];exact⟨rfl,n.2.trans o.2,_,o.1,fun k x=>.inl x⟩
theorem shift_calls{w:World}{B:Nat}{v:Value}{g:G}(h:EAt w B v g)(f:g.low<8589934592)(c:g.held≤255)(a:g.out.length+g.wait≤1099511627776):
 Calls Tryz.prog 198 #[ptr B] w fun e d=>e=.returned (.tuple #[])∧EPost B v w g.shift d:=by
 by_cases b:g.low<4278190080∨4294967295<g.low
 ·exact shift_emit h c a (carry g) rfl (by unfold carry;omega) b
 ·exact shift_wait h a b
end En
namespace En
open Mem Rc Win Lz
structure G.Fit(g:G):Prop where
 low:g.low<8589934592
 held:g.held≤255
 len:g.out.length+g.wait≤1099511627776
theorem EAt.same{w:World}{B:Nat}{v:Value}{g:G}(h:EAt w B v g):EPost B v w g w:=⟨Fr.refl _ _,v,h,fun k a=>.inl a⟩
theorem widen_calls{w:World}{B:Nat}{v:Value}{g:G}(h:EAt w B v g)(p:g.Fit)(y:65536≤g.rng)(z:g.rng<4294967296):
 Calls Tryz.prog 347 #[ptr B] w fun e L=>e=.returned (.tuple #[])∧EPost B v w g.widen L:=by
 have l:w.cell? ⟨B,1,none⟩=some (.int .u32 g.rng):=cell_in h.box rfl;by_cases d:16777216≤g.rng
 ·have n:decide ((g.rng:Int)<16777216)=false:=decide_eq_false (by omega)
  have a:=Hd (show EPost B v w g.widen w by unfold G.widen;rw[if_pos d];exact h.same);clear h p y z d;generalize g.rng=r at*;go_enter Tryz.func347,Tryz.ntmps347;go_wp2_with fail;go_loopw [] (fun wr=>wr=w) (fun _=>0);case atStart=>rfl
  case round=>
   obtain rfl:=hrel;go_wp2_with fail;go_end0;exact⟨rfl,a.out⟩
 ·have n:decide ((g.rng:Int)<16777216)=true:=decide_eq_true (by omega)
  have s:g.rng<16777216:=by omega
  have E:=Hd h;have i:=Hd p;have u:=Hd (show g.widen=G.shift ⟨g.low,g.rng*256,g.held,g.wait,g.out⟩ by unfold G.widen;rw[if_neg d]);have D:=Hd (show decide (((g.rng*256:Nat):Int)<16777216)=false from decide_eq_false (by omega));obtain⟨r,m⟩:∃r,r=g.rng:=⟨_,rfl⟩;rw[←m] at l n s;have F:=Hd m;have x:=frozen_in h.box 1;clear h p y z d m;go_enter Tryz.func347,Tryz.ntmps347;go_wp2_with fail;go_loopg [] 2 (fun f wr=>f=2∧wr=w∨f=1∧EPost B v w g.widen wr);case atStart=>exact .inl ⟨rfl,rfl⟩
  case round=>
   rcases hrel with⟨rfl,rfl⟩|⟨rfl,b⟩
   ·go_wp2_with fail
    have t:=EAt.set (g':=⟨g.low,g.rng*256,g.held,g.wait,g.out⟩) E.out 1 (.int .u32 ((r:Int)*256)) (by simp[boxV,F.out]) rfl;have C:=shift_calls t.1 i.out.low i.out.held i.out.len;have H:=Hd C;have j:=Hd t.2;clear t C l x;refine H.out.mono ?_;rintro e N ⟨rfl,b⟩;have a:=Hd (EPost.trans j.out (fun k J=>.inl J) b);clear b;go_wp2_with fail;go_roundg 1;case rel=>exact .inr ⟨rfl,by rw[u.out];exact a.out⟩
    case measure=>omega
   ·have a:=Hd b
    obtain⟨q,M,A,K⟩:=b;have c:g.widen.rng=g.rng*256:=by rw[u.out];unfold G.shift;split<;>rfl
    have I:wr.cell? ⟨B,1,none⟩=some (.int .u32 ((g.rng*256:Nat):Int)):=by rw[←c];exact cell_in A.box rfl
    have o:=D.out;clear q A K c l x n;generalize g.rng*256=r2 at I o;go_wp2_with fail;go_end0;exact⟨rfl,a.out⟩
theorem g_bit(g:G)(p b:Nat):g.bit p b=(⟨if b=0 then g.low else g.low+cutAt g.rng p,if b=0 then cutAt g.rng p else g.rng-cutAt g.rng p,g.held,g.wait,g.out⟩:G).widen:=by
 unfold G.bit;split<;>rfl
def BPost(B:Nat)(v:Value)(b gb:Nat)(w:World)(g:G)(ps:List Nat)(w':World):Prop:=Fr (fun k=>EF B v k∨k=gb) w w'∧(∃v',EAt w' B v' g∧∀k,v'.ownBlock=some k→v.ownBlock=some k∨w.heap.size≤k)∧Prob.SetAt w' b gb ps
theorem EAt.offSet{w:World}{B:Nat}{v:Value}{g:G}(h:EAt w B v g){b d:Nat}{ps:List Nat}(f:Prob.SetAt w b d ps):¬EF B v b∧¬EF B v d:=by
 obtain⟨_,_,a,c,_⟩:=f;refine⟨?_,?_⟩
 ·rintro(rfl|e)
  ·rw[h.box] at a
   simp at a
  ·exact off_box h.own a (by decide) _ e rfl
 ·rintro(rfl|e)
  ·rw[h.box] at c
   simp at c
  ·exact off_box h.own c (by decide) _ e rfl
theorem BPost.of{w d j:World}{B b a:Nat}{v v1:Value}{g:G}{ps c:List Nat}(q:Prob.SetAt w b a ps)(o:Fr (EF B v) w d)(l:EAt d B v1 g)(p:∀k,v1.ownBlock=some k→v.ownBlock=some k∨w.heap.size≤k)(f:Prob.SetAt d b a ps)(m:Fr (fun k=>k=a) d j)(i:Prob.SetAt j b a c):BPost B v b a w g c j:=by
 have n:=l.offSet f;refine⟨(o.mono (fun _ _ h=>.inl h)).trans' m (fun k _ e=>.inr e),⟨v1,l.keep m (fun e=>n.2 (.inl e.symm)) (fun k hk e=>n.2 (.inr (by rw[←e];exact hk))),p⟩,i⟩
theorem ebit_calls{w:World}{B b P i p d:Nat}{v:Value}{g:G}{ps:List Nat}(h:EAt w B v g)(hf:g.Fit)(h0:16777216≤g.rng)(h1:g.rng<4294967296)(h2:g.low+g.rng≤8589934592)(hs:Prob.SetAt w b P ps)(hp:ps[i]? =some p)(Q:31≤p)(a:p≤2017)(hb:d≤1):
 Calls Tryz.prog 343 #[ptr B,ptr b,.int .i64 i,.int .i64 d] w fun e w'=>e=.returned (.int .i64 0)∧BPost B v b P w (g.bit p d) (ps.set i (Prob.nextN p d)) w':=by
 have hc:=cut_bd h0 Q a;have c0:w.cell? ⟨B,0,none⟩=some (.int .u64 g.low):=cell_in h.box rfl;have c1:w.cell? ⟨B,1,none⟩=some (.int .u32 g.rng):=cell_in h.box rfl;have cf:=fun i=>frozen_in h.box i;have Y:=Hd (Prob.at_set b P i p ps w hs hp);have n:=Hd (bound_cut g.rng p w (by omega) (by omega));obtain⟨j,x⟩:∃c,c=cutAt g.rng p:=⟨_,rfl⟩;have I:=Hd x;rw[←x] at n hc;obtain⟨F,y⟩:∃l,l=g.low+j:=⟨_,rfl⟩;obtain⟨V,S⟩:∃r,r=g.rng-j:=⟨_,rfl⟩;have A:IntKind.u64.wrap ((g.low:Int)+(j:Int))=(F:Int):=by rw[IntWalk.u64_in _ (by omega),y];rfl
 have T:IntKind.u64.wrap (j:Int)=(j:Int):=IntWalk.u64_in _ (by omega);have C:IntKind.u32.wrap ((g.rng:Int)-(j:Int))=(V:Int):=by rw[IntWalk.u32_in _ (by omega)];omega
 have M:=Hd (show∀(H:World)(l r:Nat),EAt H B v ⟨l,r,g.held,g.wait,g.out⟩→(l=g.low∧r=j∨l=F∧r=V)→Calls Tryz.prog 347 #[ptr B] H fun e w'=>e=.returned (.tuple #[])∧EPost B v H (G.widen ⟨l,r,g.held,g.wait,g.out⟩) w' from fun H l r ha hr=>widen_calls ha ⟨by simp only;omega,hf.held,hf.len⟩ (by simp only;omega) (by simp only;omega));have HG:=Hd (g_bit g p d);have X:=Hd h;have E:=Hd hs;have HP:=Hd hp;have J:=Hd y;have K:=Hd S;clear h hf h0 h1 h2 hs hp Q a hc x y S;generalize hL:g.low=L at c0 A;generalize hR:g.rng=R at c1 C n;have HL:=Hd hL;have HR:=Hd hR;clear hL hR;go_enter Tryz.func343,Tryz.ntmps343;go_wp2_with fail;refine Y.out.mono ?_;rintro e H ⟨rfl,rfl⟩;go_wp2_with fail;refine n.out.mono ?_;rintro e H ⟨rfl,rfl⟩;rcases(show d=0∨d=1 by omega) with rfl|rfl
 ·go_wp2_with fail
  have D:=EAt.set (g':=⟨g.low,j,g.held,g.wait,g.out⟩) X.out 1 (.int .u32 j) rfl rfl;refine(M.out _ g.low j D.1 (.inl ⟨rfl,rfl⟩)).mono ?_;rintro e w2 ⟨rfl,a⟩;obtain⟨u,v2,N,U⟩:=EPost.trans D.2 (fun k hk=>.inl hk) a;have z:=X.out.offSet E.out;have f:=E.out.step u z.1 z.2;have Z:=Hd (Prob.turn_set b P i p 0 ps w2 f HP.out);have o:=Hd u;have m:=Hd N;have q:=Hd U;have s:=Hd f;clear D a u N U z f c0 c1 cf A C T;go_wp2_with fail;refine Z.out.mono ?_;rintro e w3 ⟨rfl,O,W⟩;have t:=Hd (BPost.of E.out o.out m.out q.out s.out O W);clear O W;go_wp2_with fail;go_ret;rw[HG.out,←I.out];exact⟨rfl,by simpa [J.out,K.out] using t.out⟩
 ·go_wp2_with fail
  have s0:=EAt.set (g':=⟨F,g.rng,g.held,g.wait,g.out⟩) X.out 0 (.int .u64 F) rfl rfl;have s1:=EAt.set (g':=⟨F,V,g.held,g.wait,g.out⟩) s0.1 1 (.int .u32 V) rfl rfl;have D:=And.intro s1.1 (s0.2.trans s1.2);clear s0 s1;refine(M.out _ F V D.1 (.inr ⟨rfl,rfl⟩)).mono ?_;rintro e w2 ⟨rfl,a⟩;obtain⟨u,v2,N,U⟩:=EPost.trans D.2 (fun k hk=>.inl hk) a;have z:=X.out.offSet E.out;have f:=E.out.step u z.1 z.2;have Z:=Hd (Prob.turn_set b P i p 1 ps w2 f HP.out);have o:=Hd u;have m:=Hd N;have q:=Hd U;have s:=Hd f;clear D a u N U z f c0 c1 cf A C T;go_wp2_with fail;refine Z.out.mono ?_;rintro e w3 ⟨rfl,O,W⟩;have t:=Hd (BPost.of E.out o.out m.out q.out s.out O W);clear O W;go_wp2_with fail;go_ret;rw[HG.out,←I.out];exact⟨rfl,by simpa [J.out,K.out] using t.out⟩
end En
namespace En
open Mem Rc Win Lz
def G.halves(x:Nat):Nat→G→G
 |0,g=>g
 |n+1,g=>G.halves x n (g.half (x/2^n%2))
def K.halves(x:Nat):Nat→K→K
 |0,k=>k
 |n+1,k=>K.halves x n (k.half (x/2^n%2))
theorem Is.fit{g:G}{k:K}(h:Is g k)(f:k.s≤1099511627776):g.Fit∧16777216≤g.rng∧g.rng<4294967296∧g.low+g.rng≤8589934592:=by
 have a:=h.ab.low;have b:=h.ok.lo;have c:=h.ok.hi;have d:=h.rng;have e:=h.ab.s;exact⟨⟨by omega,h.ab.held,by omega⟩,by omega,by omega,by omega⟩
theorem K.half_s(k:K)(b:Nat):(k.half b).s≤k.s+1:=by
 unfold K.half K.widen K.half0;split<;>simp
theorem K.bit_s(k:K)(p b:Nat):(k.bit p b).s≤k.s+1:=by
 unfold K.bit K.widen K.cut;split<;>split<;>simp
theorem and1_u32(a:Nat)(h:a<4294967296):bits BinOp.and IntKind.u32 (a:Int) 1=((a%2:Nat):Int):=by
 have c:(BitVec.ofInt 32 (1:Int)).toNat=2^1-1:=by decide
 have b:(BitVec.ofInt 32 (a:Int)).toNat=a:=by
  rw[BitVec.ofInt_natCast,BitVec.toNat_ofNat];exact Nat.mod_eq_of_lt (by omega)
 show IntKind.u32.wrap ((BitVec.ofInt 32 (a:Int)&&&BitVec.ofInt 32 (1:Int)).toNat:Int)=_;rw[BitVec.toNat_and,b,c,Nat.and_two_pow_sub_one_eq_mod];exact IntWalk.u32_in _ (by omega)
theorem bit_at(x j:Nat)(h:x<4294967296):(bits BinOp.and IntKind.u32 ((x:Int)/2^j) 1==1)=decide (x/2^j%2=1):=by
 have e:(x:Int)/2^j=((x/2^j:Nat):Int):=by simp
 have a:x/2^j≤x:=Nat.div_le_self _ _;rw[e,and1_u32 _ (by omega)];generalize x/2^j%2=b;rw[Bool.eq_iff_iff];simp;omega
def DRel(B:Nat)(v:Value)(w:World)(fin:G)(x n:Nat)(wr:World):Prop:=∃g k,Is g k∧k.s+n≤1099511627776∧g.halves x n=fin∧EPost B v w g wr
theorem direct_calls{w:World}{B:Nat}{v:Value}{g:G}{k:K}(x n:Nat)(h:EAt w B v g)(d:Is g k)(H:k.s+n≤1099511627776)(hn:n≤32)(hx:x<4294967296):
 Calls Tryz.prog 344 #[ptr B,.int .u32 x,.int .i64 n] w fun e X=>e=.returned (.int .i64 0)∧EPost B v w (g.halves x n) X:=by
 have HR:=Hd (show DRel B v w (g.halves x n) x n w from⟨g,k,d,H,rfl,h.same⟩);generalize g.halves x n=fin at*;have D:=fun(j:Nat)(c:Nat)(hc:c=x/2^j%2)=>Hd (show(bits BinOp.and IntKind.u32 ((x:Int)/2^j) 1==1)=decide (c=1) from by rw[hc];exact bit_at x j hx);clear h d H g k;go_enter Tryz.func344,Tryz.ntmps344;go_wp2_with fail;go_loopw [2](fun s2 wr=>∃j:Nat,j≤n∧s2=.int .i64 ((j:Int)-1)∧DRel B v w fin x j wr) (fun s2 _=>(intOf s2+1).toNat);case atStart=>exact⟨n,Nat.le_refl _,rfl,HR.out⟩
 case round=>
  obtain⟨j,hj,rfl,g,k,d,H,o,a⟩:=hrel;have HP:=Hd a;obtain⟨E,P,r,F⟩:=a;have HA:=Hd r;have HF:=Hd E;have HN:=Hd F;have Z:=Hd d;have HS:=Hd H;have f:=Hd o;have J:wr.cell? ⟨B,0,none⟩=some (.int .u64 g.low):=cell_in r.box rfl;have M:wr.cell? ⟨B,1,none⟩=some (.int .u32 g.rng):=cell_in r.box rfl;have T:=fun i=>frozen_in r.box i;clear E r F d H o;rcases Nat.eq_zero_or_pos j with rfl|a0
  ·have e:G.halves x 0 g=fin:=f.out
   clear J M T;go_wp2_with fail;go_ret;rw[←e];exact⟨rfl,HP.out⟩
  ·obtain⟨m,rfl⟩:∃m,j=m+1:=⟨j-1,by omega⟩
   obtain⟨b,N⟩:∃b,b=x/2^m%2:=⟨_,rfl⟩;have hB:=(D m b N).out;have W:b≤1:=by omega
   have HB:=Hd N;obtain⟨V,f2,f3,f4⟩:=Z.out.fit (by have:=HS.out;omega);obtain⟨h,hh⟩:∃h,h=g.rng/2:=⟨_,rfl⟩;obtain⟨O,s⟩:∃l,l=g.low+h:=⟨_,rfl⟩;have t:(g.rng:Int)/2%4294967296=(h:Int):=by omega
   have I:IntKind.u64.wrap (h:Int)=(h:Int):=IntWalk.u64_in _ (by omega);have u:IntKind.u64.wrap ((g.low:Int)+(h:Int))=(O:Int):=by rw[IntWalk.u64_in _ (by omega),s];rfl
   have C:=Hd (show∀(Q:World)(l:Nat),EAt Q B P ⟨l,h,g.held,g.wait,g.out⟩→l=g.low+b*h→Calls Tryz.prog 347 #[ptr B] Q fun e X=>e=.returned (.tuple #[])∧EPost B P Q (g.half b) X from fun Q l r hl=>by
    have:=widen_calls r ⟨by simp only;rcases(show b=0∨b=1 by omega) with rfl|rfl<;>omega,V.held,V.len⟩ (by simp only;omega) (by simp only;omega);unfold G.half;rw[←hh,←hl];exact this)
   have Y:=Hd (show∀y,EPost B P wr (g.half b) y→DRel B v w fin x m y from fun y a=>⟨_,_,Z.out.half W,by have:=HS.out;have:=K.half_s k b;omega,by rw[←f.out,G.halves,N],EPost.trans HF.out HN.out a⟩);have z:=EAt.set (g':=⟨g.low,h,g.held,g.wait,g.out⟩) HA.out 1 (.int .u32 h) rfl rfl;have s2:=EAt.set (g':=⟨O,h,g.held,g.wait,g.out⟩) z.1 0 (.int .u64 O) rfl rfl;have q:=Hd z;have A:=Hd s2;have S:=Hd s;have U:(wr.setCell ⟨B,1,none⟩ (.int .u32 h)).cell? ⟨B,0,none⟩=some (.int .u64 g.low):=cell_in z.1.box rfl;have d1:(wr.setCell ⟨B,1,none⟩ (.int .u32 h)).cell? ⟨B,1,none⟩=some (.int .u32 h):=cell_in z.1.box rfl;have df:=fun i=>frozen_in z.1.box i;clear V f2 f3 f4 N hh s z s2;generalize g.low=L at J U u;generalize g.rng=R at M t;rcases(show b=0∨b=1 by omega) with rfl|rfl
   ·rw[show decide ((0:Nat)=1)=false from rfl] at hB
    go_wp2_with fail;refine(C.out _ _ q.out.1 (by omega)).mono ?_;rintro e y ⟨rfl,a⟩;have p:=Hd (Y.out y (EPost.trans q.out.2 (fun k d=>.inl d) a));clear a J M T u t I U d1 df;go_wp2_with fail;go_roundw;case rel=>exact⟨m,by omega,by go_num,p.out⟩
    case measure=>simp[intOf]
   ·rw[show decide ((1:Nat)=1)=true from rfl] at hB
    go_wp2_with fail;go_region;go_wp2_with fail;refine(C.out _ O (A.out.1.keep (R0 _).drew (fun h=>h) (fun _ _ h=>h)) (by rw[S.out];omega)).mono ?_;rintro e y ⟨rfl,a⟩;have p:=Hd (Y.out y (EPost.trans ((q.out.2.trans A.out.2).trans (Fr.refl (EF B P) _).drew) (fun k d=>.inl d) a));clear a J M T u t I U d1 df;go_wp2_with fail;go_roundw;case rel=>exact⟨m,by omega,by go_num,p.out⟩
    case measure=>simp[intOf]
theorem fork_calls{w:World}{B:Nat}{v:Value}{g:G}(h:EAt w B v g)(Q:g.out.length+g.wait≤1099511627776):
    Calls Tryz.prog 121 #[ptr B] w fun e S=>∃B',e=.returned (ptr B')∧w.heap.size≤B'∧Fr (fun _=>False) w S∧∃v',EAt S B' v' g∧∀k,v'.ownBlock=some k→w.heap.size≤k:=by
  obtain⟨p,a,rfl⟩:=own_slice h.own;have V:=Hd h;have H3:=Hd Q;have Z:w.cell? ⟨B,0,none⟩=some (.int .u64 g.low):=cell_in h.box rfl;have c1:w.cell? ⟨B,1,none⟩=some (.int .u32 g.rng):=cell_in h.box rfl;have c2:w.cell? ⟨B,2,none⟩=some (.int .u8 g.held):=cell_in h.box rfl;have c3:w.cell? ⟨B,3,none⟩=some (.int .i64 g.wait):=cell_in h.box rfl;have P:w.cell? ⟨B,4,none⟩=some (.slice p g.out.length a):=cell_in h.box rfl;have a2:=lt_of_block h.box;obtain⟨n,M⟩:∃n,n=g.out.length:=⟨_,rfl⟩;rw[←M] at P;have a4:n+g.wait≤1099511627776:=by omega
  have a3:∀W:World,(Instr.makeSlice 22 (.int .i64 0) (.int .i64 ((n:Int)+g.wait+8))).run Tryz.prog W=.ok (.slice (some ⟨W.heap.size,0,none⟩) 0 (n+g.wait+8)) (W.alloc (.cells (madeCells [Value.int .u8 0].toArray (n+g.wait+8)) 5)):=fun W=>by
    rw[←make_bytes (n+g.wait+8) (by omega) W];rfl
  have x:=heap_alloc_new w (.cells (boxV g.low g.rng g.held g.wait (.slice p n a)) 219);have s:=(R0 w).alloc (.cells (boxV g.low g.rng g.held g.wait (.slice p n a)) 219);have q:=Hd x;have j:=Hd s;have O:=Hd M;clear h Q M x s;go_enter Tryz.func121,Tryz.ntmps121;go_wp2_with fail;have N:=Hd (show∀W,W=w.alloc (.cells #[.int .u64 g.low,.int .u32 g.rng,.int .u8 g.held,.int .i64 g.wait,.slice p n a] 219)→W.heap.size=w.heap.size+1∧Fr (fun _=>False) w W∧W.heap[w.heap.size]? =some (.cells (boxV g.low g.rng g.held g.wait (.slice p n a)) 219 (0,0))∧EAt W B (.slice p n a) g from fun W D=>by
    subst D;exact⟨by simp,j.out,q.out,by have:=V.out.keep j.out (fun h=>h) (fun _ _ h=>h);rw[←O.out] at this;exact this⟩)
  generalize D:w.alloc (.cells #[.int .u64 g.low,.int .u32 g.rng,.int .u8 g.held,.int .i64 g.wait,.slice p n a] 219)=W;obtain⟨T,y,U,A⟩:=N.out W D.symm;generalize R:w.heap.size=z at*;have l:=Hd T;have I:=Hd y;have J:=Hd U;have Y:=Hd A;have K:=Hd R;have d3:W.cell? ⟨B,3,none⟩=some (.int .i64 g.wait):=cell_in A.box rfl;have d4:W.cell? ⟨B,4,none⟩=some (.slice p n a):=cell_in A.box rfl;have a0:=alloc_keep d3 (.cells (madeCells [Value.int .u8 0].toArray (n+g.wait+8)) 5);have a1:=alloc_keep d4 (.cells (madeCells [Value.int .u8 0].toArray (n+g.wait+8)) 5);have C:=Hd ((R0 W).drew.alloc (.cells (madeCells [Value.int .u8 0].toArray (n+g.wait+8)) 5));have X:=Hd (show(W.drew.alloc (.cells (madeCells [Value.int .u8 0].toArray (n+g.wait+8)) 5)).ownsRow 0 5 1 (.slice (some ⟨W.heap.size,0,none⟩) 0 (n+g.wait+8)) 0 [] from World.ownsRow_made W.drew _ (n+g.wait+8) (Nat.zero_le _) (by simp only[maxLen];omega) (by rw[size_madeCells,Nat.mul_one]));have H:=Hd (Rd.of_own (A.keep C.out (fun h=>h) (fun _ _ h=>h)).own);clear T y U A Z c1 c2 c3 P R D N j q;have a5:IntKind.i64.wrap ((n:Int)+g.wait)=(n:Int)+g.wait:=IntWalk.i64_in _ (by omega);have a6:IntKind.i64.wrap ((n:Int)+g.wait+8)=(n:Int)+g.wait+8:=IntWalk.i64_in _ (by omega)
  go_region_law (refine step_own rfl _ _ rfl (.slice (some ⟨W.heap.size,0,none⟩) 0 (n+g.wait+8)) (.slice p n a) [] g.out (by simp[Act.eval,Act.put]) (by simp[Act.eval,Act.put]) X.out H.out (by have:=O.out;simp only[List.length_nil];omega) ?_
                 intro v2 y b c d;obtain⟨p2,r,u⟩:=own_slice b;generalize([]++g.out).length=n2 at u;subst u;have f:=c.keep (C.out.keep J.out (fun h=>h)) (fun e=>by simp only[Value.ownBlock,Option.some.injEq] at e;have:=l.out;omega);have o:=Hd b;have F:=Hd c;have m:=Hd d;have E:=Hd f;have z4:=cell_in (i:=4) f rfl;have zf:=frozen_in f 4;clear b c d f)
  all_goals
    go_wp2_with fail;go_ret;have t:∀k,(Value.slice p2 n2 r).ownBlock=some k→W.heap.size≤k:=fun k hk=>by
      rcases m.out k hk with e|e
      · simp only[Value.ownBlock,Option.some.injEq] at e
        omega
      · exact Nat.le_trans C.out.size e
    have L:=(C.out.trans' F.out (fun k hk e=>by simp only[Value.ownBlock,Option.some.injEq] at e;omega));refine⟨z,rfl,by have:=K.out;omega,(I.out.trans L).trans' (Fr.one y z 4 _) (fun k hk e=>by have:=K.out;omega),_,⟨?_,own_step o.out (Fr.one y z 4 _) (fun k hk e=>by have:=t k hk;have:=l.out;omega)⟩,fun k hk=>by have:=t k hk;have:=l.out;have:=K.out;omega⟩;rw[set_in E.out 4];rfl
end En
namespace En
open Mem Rc Win Lz
theorem shifts_succ:∀(n:Nat)(g:G),g.shifts (n+1)=(g.shifts n).shift
 |0,g=>rfl
 |n+1,g=>shifts_succ n g.shift
theorem Is.shifts{g:G}{k:K}(h:Is g k):∀j,j≤4→∃a,Ab (g.shifts j) a (k.s+j) (256^j)
 |0,_=>⟨k.a,h.ab.mono (by have:=h.ok.lo;simp;omega) (Nat.le_refl _)⟩
 |j+1,hj=>by
   obtain⟨a,b⟩:=h.shifts j (by omega);have c:256^j≤16777216:=Nat.le_trans (Nat.pow_le_pow_right (by omega) (show j≤3 by omega)) (by decide);rw[shifts_succ,Nat.pow_succ];exact⟨_,b.shift c⟩
theorem new_calls(w:World):Calls Tryz.prog 66 #[] w fun e a=>e=.returned (ptr w.heap.size)∧Fr (fun _=>False) w a∧EAt a w.heap.size (.slice none 0 0) G.new:=by
 go_enter Tryz.func66,Tryz.ntmps66;go_wp2_with fail;go_ret;exact⟨rfl,(Fr.refl _ w).alloc _,heap_alloc_new w _,World.ownsRow_nil _ _ _ _⟩
theorem bytes_calls{w:World}{B:Nat}{v:Value}{g:G}{k:K}(h:EAt w B v g)(o:Is g k)(R:k.s≤1099511627000):
 Calls Tryz.prog 134 #[ptr B] w fun e y=>∃v',e=.returned v'∧Fr (fun _=>False) w y∧Mine w y v' k.bytes:=by
 have E:=Hd (fork_calls h (by have:=o.ab.s;omega));have C:=Hd (show∀(d:World)(b:Nat)(m:Value)(j:Nat),EAt d b m (g.shifts j)→j<5→Calls Tryz.prog 198 #[ptr b] d fun e y=>e=.returned (.tuple #[])∧EPost b m d (g.shifts (j+1)) y from fun d b m j x O=>by
  obtain⟨a,c⟩:=o.shifts j (by omega);have D:=c.pos;have Q:=c.low;rw[shifts_succ];exact shift_calls x (by omega) c.held (by have:=c.s;omega))
 have q:=Hd o.bytes;unfold G.bytes at q;clear h o R;go_enter Tryz.func134,Tryz.ntmps134;go_wp2_with fail;refine E.out.mono ?_;rintro e d ⟨b,rfl,N,s,m,x,J⟩;have L:=Hd (show EPost b m d (g.shifts 0) d from x.same);have p:=Hd s;have F:=Hd J;clear s x J E;go_wp2_with fail;go_loopw [6](fun s6 wr=>∃j:Nat,j≤5∧s6=.int .i64 j∧EPost b m d (g.shifts j) wr) (fun s6 _=>5-(intOf s6).toNat);case atStart=>exact⟨0,by omega,rfl,L.out⟩
 case round=>
  obtain⟨j,O,rfl,r,u,n,t⟩:=hrel;have S:=Hd (show EPost b m d (g.shifts j) wr from⟨r,u,n,t⟩);by_cases H:j<5
  ·have I:=C.out wr b u j n H
   have M:=Hd I;have f:=Hd r;have l:=Hd t;clear r n t I;go_wp2_with fail;refine M.out.mono ?_;rintro e V ⟨rfl,D⟩;have A:=Hd (EPost.trans f.out l.out D);clear D;go_wp2_with fail;go_roundw;case rel=>exact⟨j+1,by omega,by go_num,A.out⟩
   case measure=>simp[intOf];omega
  ·obtain rfl:j=5:=by omega
   have T:wr.cell? ⟨b,4,none⟩=some u:=cell_in n.box rfl;have z:=Hd n;have f:=Hd r;have l:=Hd t;clear r n t H;go_wp2_with fail;go_ret;have P:∀k,u.ownBlock=some k→w.heap.size≤k:=fun k o=>(l.out k o).elim (F.out k) (fun e=>Nat.le_trans p.out.size e);refine⟨u,rfl,p.out.trans' f.out (fun i U e=> ?_),?_⟩
   ·rcases e with e|e
    ·omega
    ·have:=F.out i e
     omega
   ·rw[←q.out]
    exact⟨z.out.own,P⟩
end En
namespace En
open Mem Rc Win Lz Tr
def TAt(w:World)(B:Nat)(v:Value)(b gb:Nat)(e:Es)(j:Nat):Prop:=∃g,EAt w B v g∧Is g e.k∧Prob.SetAt w b gb (e.ps j)
def TF(B:Nat)(v:Value)(gb k:Nat):Prop:=EF B v k∨k=gb
def TPost(B:Nat)(v:Value)(b gb:Nat)(w:World)(e:Es)(j:Nat)(w':World):Prop:=Fr (TF B v gb) w w'∧∃v',TAt w' B v' b gb e j∧∀k,v'.ownBlock=some k→v.ownBlock=some k∨w.heap.size≤k
theorem TAt.same{w:World}{B b a j:Nat}{v:Value}{e:Es}(h:TAt w B v b a e j):TPost B v b a w e j w:=⟨Fr.refl _ _,v,h,fun k c=>.inl c⟩
theorem TAt.keep{S:Nat→Prop}{w w':World}{B b i j:Nat}{v:Value}{e:Es}(h:TAt w B v b i e j)(a:Fr S w w')(c:∀k,k<w.heap.size→¬S k):TAt w' B v b i e j:=by
 obtain⟨g,d,l,f⟩:=h;exact⟨g,d.keep a (c _ (lt_of_block d.box)) (fun k hk=>c k (World.ownsRow.lt d.own k hk).2),l,f.step a (c _ f.lt.1) (c _ f.lt.2)⟩
theorem TPost.trans{w i l:World}{B b c j:Nat}{v v1:Value}{e:Es}(d:Fr (TF B v c) w i)(h:∀k,v1.ownBlock=some k→v.ownBlock=some k∨w.heap.size≤k)(m:TPost B v1 b c i e j l):TPost B v b c w e j l:=by
 obtain⟨f,o,a,n⟩:=m;refine⟨d.trans' f (fun k g e=> ?_),o,a,fun k g=> ?_⟩
 ·rcases e with(e|e)|e
  ·exact .inl (.inl e)
  ·rcases h k e with e|e
   ·exact .inl (.inr e)
   ·omega
  ·exact .inr e
 ·rcases n k g with e|e
  ·exact h k e
  ·exact .inr (Nat.le_trans d.size e)
theorem TAt.off{w:World}{B b f j:Nat}{v:Value}{e:Es}(h:TAt w B v b f e j){k:Nat}{i:Array Value}{t:TypeId}{fr:Nat×Nat}(c:w.heap[k]? =some (.cells i t fr))(l:t≠219)(m:t≠5)(d:t≠3∨k≠f):¬TF B v f k:=by
 obtain⟨g,a,_,s⟩:=h;rintro((rfl|e)|rfl)
 ·rw[a.box] at c
  simp only[Option.some.injEq,Obj.cells.injEq] at c;exact l c.2.1.symm
 ·exact off_box a.own c m _ e rfl
 ·obtain⟨_,_,_,n,_⟩:=s
  rcases d with d|d
  ·rw[n] at c
   simp only[Option.some.injEq,Obj.cells.injEq] at c;exact d c.2.1.symm
  ·exact d rfl
theorem tbit_calls{w:World}{B b d j i c lc lp:Nat}{v:Value}{e:Es}(h:TAt w B v b d e j)(k:e.Ok lc lp)(f:Op.Ok lc lp (.bit j i c))(z:e.k.s≤1099511627776):
 Calls Tryz.prog 343 #[ptr B,ptr b,.int .i64 i,.int .i64 c] w fun r l=>r=.returned (.int .i64 0)∧TPost B v b d w (e.op (.bit j i c)) j l:=by
 obtain⟨g,a,m,s⟩:=h;obtain⟨q,t,u,x⟩:=m.fit z;obtain⟨C,n,o⟩:=k.at f.1 f.2.1;refine(ebit_calls a q t u x s C n o f.2.2).mono ?_;rintro r l ⟨rfl,y,⟨E,p,A⟩,D⟩;refine⟨rfl,y,E,⟨_,p,m.bit c n o,?_⟩,A⟩;show Prob.SetAt l b d (upd e.ps j _ j);rw[upd_same];exact D
theorem op_s(e:Es)(o:Op):(e.op o).k.s≤e.k.s+1:=by
 cases o with
 |bit j i b=>exact K.bit_s _ _ _
 |half b=>exact K.half_s _ _
theorem run_s:∀(l:List Op)(e:Es),(e.run l).k.s≤e.k.s+l.length
 |[],e=>Nat.le_refl _
 |o::l,e=>by
   have a:=op_s e o;have b:=run_s l (e.op o);rw[Es.run,List.length_cons];omega
structure Bx(w:World)(z B b x n:Nat)(back:Bool):Prop where
 e:w.heap[z]? =some (.cells #[ptr B] 146 (0,0))
 s:w.heap[z+1]? =some (.cells #[ptr b] 211 (0,0))
 n:w.heap[z+2]? =some (.cells #[.int .i64 n] 3 (0,0))
 x:w.heap[z+3]? =some (.cells #[.int .i64 x] 3 (0,0))
 back:w.heap[z+4]? =some (.cells #[.bool back] 4 (0,0))
theorem Bx.keep{w w':World}{z B b x n d j:Nat}{v:Value}{e:Es}{back:Bool}(h:Bx w z B b x n back)(c:TAt w B v b d e j)(f:d<z)(a:Fr (TF B v d) w w'):Bx w' z B b x n back:=
 ⟨a.keep h.e (c.off h.e (by decide) (by decide) (.inl (by decide))),a.keep h.s (c.off h.s (by decide) (by decide) (.inl (by decide))),a.keep h.n (c.off h.n (by decide) (by decide) (.inr (by omega))),a.keep h.x (c.off h.x (by decide) (by decide) (.inr (by omega))),a.keep h.back (c.off h.back (by decide) (by decide) (.inl (by decide)))⟩
abbrev cap(z:Nat):Array Value:=#[ptr (z+3),ptr (z+4),ptr (z+2),ptr z,ptr (z+1)]
theorem bit_of(x o:Nat)(b:x<65536):bits BinOp.and IntKind.i64 ((x:Int)/2^o) 1=((x/2^o%2:Nat):Int):=by
 have e:(x:Int)/2^o=((x/2^o:Nat):Int):=by simp
 have a:x/2^o≤x:=Nat.div_le_self _ _;have:=and_low (x/2^o) 1 (by omega) (by decide);rw[e];simpa using this
theorem put1_calls{w:World}{z B b t j a m k n x lc lp:Nat}{v:Value}{e:Es}{back:Bool}(h:TAt w B v b t e j)(c:Bx w z B b x n back)(d:e.Ok lc lp)(l:k<n)(H:n≤16)(J:x<65536)(u:Op.Ok lc lp (.bit j (a+m) (x/2^ord back n k%2)))(I:e.k.s≤1099511627776)(A:Int)(f:A=((a+m:Nat):Int)):
 Calls Tryz.prog 349 (#[.int .i64 A,.int .i64 k]++cap z) w fun r K=>r=.returned (.tuple #[.int .i64 ((x/2^ord back n k%2:Nat):Int),.int .i64 0])∧TPost B v b t w (e.op (.bit j (a+m) (x/2^ord back n k%2))) j K:=by
 have E:=cell_in (i:=0) c.x rfl;have F:=cell_in (i:=0) c.back rfl;have G:=cell_in (i:=0) c.n rfl;have O:=bit_of x (ord back n k) J;have g:=Hd (show∀q,Fr (fun _=>False) w (w.drewN q) from fun q=>(Fr.refl _ w).drewN q);have s:=Hd (fun q=>tbit_calls (h.keep (g.out q) (fun _ _ h=>h)) d u I);rw[←f] at s;have N:min (ord back n k) 64=ord back n k:=by have:ord back n k<n:=(by unfold ord;split<;>omega);omega
 have o:=Hd (fun q=>(g.out q).keep c.e (fun h=>h));have p:=Hd (fun q=>(g.out q).keep c.s (fun h=>h));have C:=Hd (fun w=>order_calls back n k w l H);clear h c d u f;generalize x/2^ord back n k%2=bt at*;go_enter Tryz.func349,Tryz.ntmps349;go_wp2_with fail;go_quiet ((go_at_call 318;exact quiet_left (C.out _)));have L:=cell_in (i:=0) (o.out nq) rfl;have M:=cell_in (i:=0) (p.out nq) rfl;clear E F G o p;go_wp2_with fail;refine(s.out nq).mono ?_;rintro r P ⟨rfl,y⟩;have D:=Hd (TPost.trans (v1:=v) ((g.out nq).mono (fun _ _ h=>h.elim)) (fun k l=>.inl l) y);clear y;go_wp2_with fail;go_ret2;exact⟨rfl,D.out⟩
structure PRel(w0:World)(B:Nat)(v:Value)(b gb j a n x lc lp:Nat)(back:Bool)(fin:Es)(k m:Nat)(wr:World):Prop where
 le:k≤n
 hm:m<2^(k+1)
 ok:∃e,TPost B v b gb w0 e j wr∧e.Ok lc lp∧e.k.s+(n-k)≤1099511627776∧e.run (treeOps back j a n x (n-k) m)=fin∧∀o ∈ treeOps back j a n x (n-k) m,o.Ok lc lp
theorem pdown_calls{w:World}{z B b d j a n x lc lp:Nat}{v:Value}{e:Es}{back:Bool}(h:TAt w B v b d e j)(O:Bx w z B b x n back)(Z:d<z)(t:e.Ok lc lp)(X:n≤16)(Y:x<65536)(ha:a≤1099511627776)(u:∀o ∈ treeOps back j a n x n 1,o.Ok lc lp)(Q:e.k.s+n≤1099511627776):
 Calls Tryz.prog 316 #[.int .i64 a,.int .i64 n,.func (Fn.func 349) #[] (cap z)] w fun r w'=>r=.returned (.int .i64 0)∧TPost B v b d w (e.run (treeOps back j a n x n 1)) j w':=by
 have S:=Hd (fun(wr:World)(L:Fr (TF B v d) w wr)=>O.keep h Z L);have R:=Hd (show PRel w B v b d j a n x lc lp back (e.run (treeOps back j a n x n 1)) 0 1 w from⟨Nat.zero_le _,by decide,e,h.same,t,Q,rfl,u⟩);generalize e.run (treeOps back j a n x n 1)=fin at*;clear h O t u Q;go_enter Tryz.func316,Tryz.ntmps316;go_wp2_with fail;go_loopw [7,8,9,10,12](fun s7 _ _ _ i wr=>∃k m:Nat,i=.int .i64 k∧s7=.int .i64 m∧PRel w B v b d j a n x lc lp back fin k m wr) (fun _ _ _ _ i _=>n-(intOf i).toNat);case atStart=>exact⟨0,1,rfl,rfl,R.out⟩
 case round=>
  obtain⟨k,m,rfl,rfl,hk,P,l,⟨q,v1,C,A⟩,c,N,g,p⟩:=hrel;by_cases s:k<n
  ·obtain⟨f,L⟩:∃f,n-k=f+1:=⟨n-k-1,by omega⟩
   have M:n-(f+1)=k:=by omega
   rw[L] at N g p;rw[treeOps,M] at g p;have y:(2:Nat)^(k+1)≤2^16:=Nat.pow_le_pow_right (by omega) (by omega);have V:x/2^ord back n k%2≤1:=by omega
   have K:=p _ (List.mem_cons_self ..);have T:=Hd (fun(pl:Int)(hpl:pl=((a+m:Nat):Int))=>put1_calls C (S.out wr q) c s X Y K (by omega) pl hpl);have D:=Hd q;have F:=Hd A;have G:=Hd (c.op K).1;have J:=Hd (show(l.op (.bit j (a+m) (x/2^ord back n k%2))).k.s+f≤1099511627776 by have:=op_s l (.bit j (a+m) (x/2^ord back n k%2));omega);have I:=Hd (show(l.op (.bit j (a+m) (x/2^ord back n k%2))).run (treeOps back j a n x f (2*m+x/2^ord back n k%2))=fin from g);have U:=Hd (fun o u=>p o (List.mem_cons_of_mem _ u));have W:m≤65536:=by omega
   have E:=Hd (show 2*m+x/2^ord back n k%2<2^(k+1+1) by rw[Nat.pow_succ];omega);clear q C A c N g p K y P;generalize l.op (.bit j (a+m) (x/2^ord back n k%2))=e2 at*;generalize x/2^ord back n k%2=bt at*;go_wp2_with fail;refine(T.out _ (by omega)).mono ?_;rintro r w2 ⟨rfl,y⟩;have H:=Hd (TPost.trans D.out F.out y);clear y;go_wp2_with fail;go_roundw;case rel=>exact⟨k+1,2*m+bt,by go_num,by go_num,by omega,E.out,e2,H.out,G.out,by have:=J.out;omega,by rw[show n-(k+1)=f by omega];exact I.out,by rw[show n-(k+1)=f by omega];exact U.out⟩
   case measure=>simp[intOf];omega
  ·obtain rfl:k=n:=by omega
   rw[Nat.sub_self] at g;have I:=Hd (show l=fin from g);have H:=Hd (show TPost B v b d w l j wr from⟨q,v1,C,A⟩);clear q C A c N g p P s;go_wp2_with fail;go_ret;rw[←I.out];exact⟨rfl,H.out⟩
theorem holds_calls(x n:Nat)(w:World)(d:n≤16)(g:x<2^n):Calls Tryz.prog 348 #[.int .i64 x,.int .i64 n] w fun e h=>e=.returned (.bool true)∧w=h:=by
 have f:2^n≤65536:=Nat.le_trans (Nat.pow_le_pow_right (by omega) d) (by decide);have a:((2^n:Nat):Int)=2^n:=by simp
 have b:IntKind.i64.wrap (2^n)=2^n:=by
  rw[←a];exact IntWalk.i64_in _ (by omega)
 have i:IntKind.i64.wrap (1*2^n)=2^n:=by rw[Int.one_mul];exact b
 have c:min n 64=n:=by omega
 have j:decide ((x:Int)<2^n)=true:=decide_eq_true (by rw[←a];omega);have k:decide ((x:Int)≥0)=true:=by simp
 have l:decide ((0:Int)≤(x:Int))=true:=by simp
 clear f a g;go_enter Tryz.func348,Tryz.ntmps348;go_wp2_with fail;go_ret;exact⟨rfl,rfl⟩
theorem put_calls{w:World}{B b u j a n x lc lp:Nat}{v:Value}{e:Es}{back:Bool}(h:TAt w B v b u e j)(m:e.Ok lc lp)(q:n≤16)(P:x<2^n)(T:a+2^n≤Lz.rowLen lc lp j)(L:j<18)(U:e.k.s+n≤1099511627776)(Z:Lz.rowLen lc lp j≤1099511627776):
 Calls Tryz.prog 346 #[ptr B,ptr b,.int .i64 a,.int .i64 n,.int .i64 x,.bool back] w fun r E=>r=.returned (.int .i64 0)∧TPost B v b u w (e.run (treeOps back j a n x n 1)) j E:=by
 have O:2^n≤65536:=Nat.le_trans (Nat.pow_le_pow_right (by omega) q) (by decide);have M:=m.len j L;have g:=(tree_reads (lc:=lc) (lp:=lp) back L P q T).1;obtain⟨l,t,G,H,I,J,K⟩:=five w (.cells #[ptr B] 146) (.cells #[ptr b] 211) (.cells #[.int .i64 n] 3) (.cells #[.int .i64 x] 3) (.cells #[.bool back] 4);have V:=Hd (h.keep l (fun _ _ h=>h));have d:=Hd (show Bx _ w.heap.size B b x n back from⟨G,H,I,J,K⟩);have p:=Hd l;have S:=Hd t;have D:u<w.heap.size:=by obtain⟨_,_,_,s⟩:=h;exact s.lt.2
 have C:=Hd (fun(W:World)(hf:Fr (fun _=>False) w W)=>show Calls Tryz.prog 315 #[ptr b,.int .i64 a,.int .i64 n] W (fun r E=>r=.returned (.bool true)∧Fr (fun _=>False) W E) from by
  obtain⟨_,_,_,s⟩:=h;have:=there_calls b u a n (e.ps j) W (s.keep hf) (by omega) (by omega) (by omega);rwa [show thereB (e.ps j) a n=true from decide_eq_true ⟨q,by omega,by omega⟩] at this)
 have A:=Hd (fun(W:World)(hf:Fr (fun _=>False) w W)(hbx:Bx W w.heap.size B b x n back)=>pdown_calls (h.keep hf (fun _ _ h=>h)) hbx D m q (by omega) (by omega) g U);clear l t G H I J K h m g;go_enter Tryz.func346,Tryz.ntmps346;go_wp2_with fail;generalize hz:w.heap.size=z at*;generalize World.alloc (World.alloc (World.alloc (World.alloc (World.alloc w _) _) _) _) _=W at*;refine(C.out W p.out).mono ?_;rintro r F ⟨rfl,c⟩;have f:Bx F z B b x n back:=⟨c.keep d.out.e (fun h=>h),c.keep d.out.s (fun h=>h),c.keep d.out.n (fun h=>h),c.keep d.out.x (fun h=>h),c.keep d.out.back (fun h=>h)⟩;have Y:=cell_in (i:=0) f.x rfl;have X:=cell_in (i:=0) f.n rfl;have y:=Hd f;have o:=Hd (p.out.trans c);have Q:=Hd (holds_calls x n F q P);clear f c;go_wp2_with fail;refine Q.out.mono ?_;rintro r w3 ⟨rfl,rfl⟩;go_wp2_with fail;refine(A.out F o.out y.out).mono ?_;rintro r w4 ⟨rfl,N⟩;have R:=Hd (TPost.trans (v1:=v) (o.out.mono (fun _ _ h=>h.elim)) (fun k hk=>.inl hk) N);clear N;go_wp2_with fail;go_ret;exact⟨rfl,R.out⟩
theorem tput_calls{w:World}{B b d j a n x lc lp:Nat}{v:Value}{e:Es}(h:TAt w B v b d e j)(c:e.Ok lc lp)(l:n≤16)(p:x<2^n)(g:a+2^n≤Lz.rowLen lc lp j)(i:j<18)(o:e.k.s+n≤1099511627776)(k:Lz.rowLen lc lp j≤1099511627776):
 Calls Tryz.prog 345 #[ptr B,ptr b,.int .i64 a,.int .i64 n,.int .i64 x] w fun r q=>r=.returned (.int .i64 0)∧TPost B v b d w (e.run (treeOps false j a n x n 1)) j q:=by
 have f:=Hd (put_calls (back:=false) h c l p g i o k);clear h c;generalize e.run (treeOps false j a n x n 1)=e2 at*;go_enter Tryz.func345,Tryz.ntmps345;go_wp2_with fail;refine f.out.mono ?_;rintro r s ⟨rfl,m⟩;go_wp2_with fail;go_ret;exact⟨rfl,m⟩
theorem tback_calls{w:World}{B b d j a n x lc lp:Nat}{v:Value}{e:Es}(h:TAt w B v b d e j)(c:e.Ok lc lp)(l:n≤16)(p:x<2^n)(g:a+2^n≤Lz.rowLen lc lp j)(i:j<18)(o:e.k.s+n≤1099511627776)(k:Lz.rowLen lc lp j≤1099511627776):
 Calls Tryz.prog 342 #[ptr B,ptr b,.int .i64 a,.int .i64 n,.int .i64 x] w fun r q=>r=.returned (.int .i64 0)∧TPost B v b d w (e.run (treeOps true j a n x n 1)) j q:=by
 have f:=Hd (put_calls (back:=true) h c l p g i o k);clear h c;generalize e.run (treeOps true j a n x n 1)=e2 at*;go_enter Tryz.func342,Tryz.ntmps342;go_wp2_with fail;refine f.out.mono ?_;rintro r s ⟨rfl,m⟩;go_wp2_with fail;go_ret;exact⟨rfl,m⟩
end En
namespace En
open Mem Ck
def headB(h:Head):List UInt8:=
 if h.kind=0 then[0]
 else if h.kind≤2 then[UInt8.ofNat h.kind,UInt8.ofNat ((h.size-1)/256),UInt8.ofNat ((h.size-1)%256)]
 else[UInt8.ofNat (128+32*(h.kind-3)+(h.size-1)/65536),UInt8.ofNat ((h.size-1)/256%256),UInt8.ofNat ((h.size-1)%256),UInt8.ofNat ((h.packed-1)/256),UInt8.ofNat ((h.packed-1)%256)]++
  (if h.kind<5 then[] else[UInt8.ofNat ((5*h.pb+h.lp)*9+h.lc)])
end En
namespace En
open Mem Rc St Lz
structure Xe where
 c:C
 e:Es
def Xe.ap(x:Xe)(y:Sy):Nat×List UInt8×S:=apply x.c.size x.c.all x.c.s y
def Xe.put(x:Xe)(y:Sy):Xe:=⟨(x.c.on (x.ap y).2.1).to (x.ap y).2.2,x.e.run (symOps x.c y)⟩
def Xe.putAll:List Sy→Xe→Xe
 |[],x=>x
 |y::l,x=>putAll l (x.put y)
def Xe.made:List Sy→Xe→List UInt8
 |[],_=>[]
 |y::l,x=>(x.ap y).2.1++made l (x.put y)
def Legal:List Sy→Xe→Prop
 |[],_=>True
 |y::l,x=>May x.c y∧(x.ap y).1=0∧Legal l (x.put y)
structure Xe.Ok(x:Xe):Prop where
 c:x.c.Ok
 e:x.e.Ok x.c.lc x.c.lp
theorem Xe.Ok.put{x:Xe}(h:x.Ok){y:Sy}(b:May x.c y)(a:(x.ap y).1=0):(x.put y).Ok:=
 ⟨⟨h.c.l,h.c.pb,apply_ok a h.c.s⟩,(h.e.run (sym_reads x.c h.c b).1).1⟩
theorem Xe.Ok.putAll:∀{l:List Sy}{x:Xe},x.Ok→Legal l x→(x.putAll l).Ok∧x.e.k.In (x.putAll l).e.k∧(x.putAll l).c.lc=x.c.lc∧(x.putAll l).c.lp=x.c.lp
 |[],x,h,_=>⟨h,.refl _,rfl,rfl⟩
 |y::l,x,h,⟨h1,h2,h3⟩=>by
   have a:=(h.put h1 h2).putAll h3;exact⟨a.1,((h.e.run (sym_reads x.c h.c h1).1).2).trans a.2.1,a.2.2⟩
end En
end Go.Proofs.YtffoddpjfgjelaaGreatDoor
