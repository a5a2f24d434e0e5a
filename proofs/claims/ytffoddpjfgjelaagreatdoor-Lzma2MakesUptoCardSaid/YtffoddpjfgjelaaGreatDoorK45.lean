/- Part 45 of 54: lemmas of the last part, each under the conditions that it names. -/
import Derived.Test.YtffoddpjfgjelaaGreatDoorK17
import Derived.Test.YtffoddpjfgjelaaGreatDoorK18
import Derived.Test.YtffoddpjfgjelaaGreatDoorK25
set_option linter.unusedVariables false
set_option linter.unusedSimpArgs false
set_option maxRecDepth 1500
set_option maxHeartbeats 4000000
namespace Go.Proofs.YtffoddpjfgjelaaGreatDoor
open Go.RowKit
namespace Rx
open Mem Win St Ps
theorem rd_at{w:World}{g o b i:Nat}{data:List UInt8}{x:UInt8}(h:Rd w (.slice (some ⟨g,o,none⟩) data.length b) data)(c:data[i]? =some x):w.cell? ⟨g,o+i,none⟩=some (.int .u8 x.toNat):=by
 obtain⟨a,j,e,_,_,d⟩:=h;obtain⟨k,l,rfl,f⟩:=d (Nat.lt_of_le_of_lt (Nat.zero_le i) (List.getElem?_eq_some_iff.1 c).1);simp only[Value.slice.injEq,Option.some.injEq,Addr.mk.injEq,and_true,true_and] at e;obtain⟨⟨rfl,rfl⟩,rfl⟩:=e;exact f i x c
theorem bne_f{x y:UInt8}(h:x=y):((x.toNat:Int) !=(y.toNat:Int))=false:=by subst h;simp
theorem bne_t{x y:UInt8}(h:¬x=y):((x.toNat:Int) !=(y.toNat:Int))=true:=by
 simp only[bne_iff_ne,ne_eq,Int.natCast_inj];exact fun e=>h (UInt8.toNat_inj.1 e)
def mtOf(D:List UInt8)(p most:Nat)(S:List Nat):List (Nat×Nat):=if most<3 then[] else S.map fun d=>(Px.run D p d most,d)
theorem mtOf_snoc(D:List UInt8)(p most:Nat)(S:List Nat)(d:Nat):mtOf D p most (S++[d])=if most<3 then[] else mtOf D p most S++[(Px.run D p d most,d)]:=by
 unfold mtOf;split
 ·rfl
 ·simp
def upTo(D:List UInt8)(p k:Nat):List Nat:=(List.range' 1 k).filter (Px.same3 D p)
theorem upTo_succ(D:List UInt8)(p k:Nat):upTo D p (k+1)=if Px.same3 D p (k+1)=true then upTo D p k++[k+1] else upTo D p k:=by
 unfold upTo;rw[List.range'_concat,List.filter_append,show 1+1*k=k+1 by omega];by_cases h:Px.same3 D p (k+1)=true
 ·rw[if_pos h,List.filter_cons_of_pos h]
  rfl
 ·rw[if_neg h,List.filter_cons_of_neg h]
  simp
theorem upTo_full{D:List UInt8}{p k dict:Nat}(b:k≤min p dict)(a:(upTo D p k).length≤32)(h:(upTo D p k).length=32∨k=min p dict):upTo D p k=Px.dists D dict p:=by
 have e:List.range' 1 (min p dict)=List.range' 1 k++List.range' (1+k) (min p dict-k):=by
  rw[List.range'_append_1];congr 1;omega
 unfold Px.dists;rcases h with h|h
 ·rw[e,List.filter_append]
  show upTo D p k=(upTo D p k++_).take 32;rw[←h,List.take_left]
 ·rw[←h]
  show upTo D p k=(upTo D p k).take 32;rw[List.take_of_length_le a]
set_option maxRecDepth 100000 in
theorem matches_calls(a:Option Addr)(f Q tp dict p:Nat)(data:List UInt8)(w:World)(h:Rd w (.slice a data.length f) data)(hp:p<tp)(ht:tp≤data.length)(hb:data.length≤1099511627776):
    Calls Tryz.prog 200 #[pcV a data.length f Q tp dict,.int .i64 p] w fun e w'=>Fr (fun _=>False) w w'∧∃v,e=.returned v∧Mts w w' v (Px.mts data tp dict p):=by
  have hx:=heap_alloc_new w (.cells #[.slice a data.length f,.int .i64 Q,.int .i64 tp,.int .i64 dict] 101);have T:=(R0 w).alloc (.cells #[.slice a data.length f,.int .i64 Q,.int .i64 tp,.int .i64 dict] 101);have HR:=Hd (h.keep T);obtain⟨a',cp,e,_,_,b0⟩:=h;obtain⟨g,o,rfl,_⟩:=b0 (by omega);simp only[Value.slice.injEq,true_and] at e;obtain⟨rfl,rfl⟩:=e;have HX:=Hd hx;have HF:=Hd T;have c0:=cell_in (i:=0) hx rfl;clear hx T b0;have HE:=Hd (show Px.mts data tp dict p=mtOf data p (min 273 (tp-p)) (Px.dists data dict p) from rfl);by_cases h3:(data.length:Int)<(p:Int)+3
  · have e:Px.mts data tp dict p=[]:=by unfold Px.mts;rw[if_pos (by omega)]
    rw[e];clear e;go_enter Tryz.func200,Tryz.ntmps200;go_wp2_with fail;go_ret;exact⟨HF.out,_,rfl,Ga.Own.nil _ _ _ _⟩
  · generalize Px.mts data tp dict p=M at*
    obtain⟨m,hm⟩:∃m,min 273 (tp-p)=m:=⟨_,rfl⟩;rw[hm] at HE;go_enter Tryz.func200,Tryz.ntmps200;go_wp2_with fail;have b3:w.heap.size<(w.alloc (.cells #[.slice (some ⟨g,o,none⟩) data.length f,.int .i64 Q,.int .i64 tp,.int .i64 dict] 101)).heap.size:=by simp
    generalize w.alloc (.cells #[.slice (some ⟨g,o,none⟩) data.length f,.int .i64 Q,.int .i64 tp,.int .i64 dict] 101)=W at*;clear c0;go_loopw [5,6,7](fun s5 s6 s7 wr=>∃k d:Nat,s6=.int .i64 (upTo data p k).length∧s7=.int .i64 d∧d=k+1∧k≤min p dict∧(upTo data p k).length≤32∧Fr (fun _=>False) W wr∧Mts W wr s5 (mtOf data p m (upTo data p k))) (fun _ _ s7 _=>p+2-(intOf s7).toNat);case atStart=>
      refine⟨0,1,rfl,rfl,rfl,Nat.zero_le _,Nat.zero_le _,Fr.refl _ _,?_⟩;rw[show mtOf data p m (upTo data p 0)=[] by unfold mtOf;split<;>rfl];exact Ga.Own.nil _ _ _ _
    case round=>
      obtain⟨k,d,rfl,rfl,z,hk,R,X,B⟩:=hrel;have a5:=X.keep HX.out (fun h=>h);obtain⟨c0,c1,c2,c3⟩:=cs4 a5 rfl rfl rfl rfl;have P:=Hd X;have y:=Hd B;have b7:=Hd a5;obtain⟨sn,a3⟩:∃sn,(upTo data p k).length=sn:=⟨_,rfl⟩;have n:=Hd a3;rw[a3] at R ⊢;clear X B a5 a3;by_cases hs:(sn:Int)<32
      · have HU:=Hd (usable_calls (some ⟨g,o,none⟩) data.length f Q tp dict p d wr)
        by_cases N:1≤d∧d≤p∧d≤dict
        · rw[decide_eq_true N] at HU
          have J:=Hd (fun(w':World)(T:Fr (fun _=>False) W w')=>run_calls (some ⟨g,o,none⟩) f Q tp dict p d data w' (HR.out.keep T) N.1 N.2.1 (by omega) ht hb);obtain⟨D,Y⟩:∃D,Px.run data p d (min 273 (tp-p))=D:=⟨_,rfl⟩;rw[Y] at J;have K:∀i,i<data.length→data[i]? =some (data.getD i 0):=fun i hi=>by rw[List.getD_eq_getElem?_getD,List.getElem?_eq_getElem hi];rfl
          have S:=fun(w':World)(T:Fr (fun _=>False) W w')(i:Nat)(hi:i<data.length)=>rd_at (HR.out.keep T) (K i hi);have Z:Px.same3 data p d=(decide (data.getD p 0=data.getD (p-d) 0)&&(decide (data.getD (p+1) 0=data.getD (p+1-d) 0)&&decide (data.getD (p+2) 0=data.getD (p+2-d) 0))):=by
            unfold Px.same3;rw[K p (by omega),K (p-d) (by omega),K (p+1) (by omega),K (p+1-d) (by omega),K (p+2) (by omega),K (p+2-d) (by omega)];simp only[Option.some.injEq]
          have b6:=Hd Z;have b:=upTo_succ data p k;rw[←z,Z] at b;have c8:IntKind.i64.wrap ((p:Int)-(d:Int))=((p-d:Nat):Int):=by rw[IntWalk.i64_in _ (by omega)];omega
          have c9:IntKind.i64.wrap ((p:Int)+1-(d:Int))=((p+1-d:Nat):Int):=by rw[IntWalk.i64_in _ (by omega)];omega
          have d0:IntKind.i64.wrap ((p:Int)+2-(d:Int))=((p+2-d:Nat):Int):=by rw[IntWalk.i64_in _ (by omega)];omega
          have i0:(0:Int)≤(p:Int):=by omega
          have i1:(p:Int)<(data.length:Int):=by omega
          have i2:(0:Int)≤(p:Int)+1:=by omega
          have i3:(p:Int)+1<(data.length:Int):=by omega
          have i4:(0:Int)≤(p:Int)+2:=by omega
          have i5:(p:Int)+2<(data.length:Int):=by omega
          have j0:(0:Int)≤((p-d:Nat):Int):=by omega
          have j1:((p-d:Nat):Int)<(data.length:Int):=by omega
          have j2:(0:Int)≤((p+1-d:Nat):Int):=by omega
          have j3:((p+1-d:Nat):Int)<(data.length:Int):=by omega
          have j4:(0:Int)≤((p+2-d:Nat):Int):=by omega
          have j5:((p+2-d:Nat):Int)<(data.length:Int):=by omega
          have b9:=Hd z;have c6:d≤p:=N.2.1;clear z;go_wp2_with fail;refine HU.out.mono ?_;rintro e E ⟨rfl,r⟩;have l:=P.out.trans r;have q0:=S E l p (by omega);have q1:=S E l (p+1) (by omega);have q2:=S E l (p+2) (by omega);have r0:=S E l (p-d) (by omega);have r1:=S E l (p+1-d) (by omega);have r2:=S E l (p+2-d) (by omega);have a4:=r.keep b7.out (fun h=>h);clear c0 c1 c2 c3;obtain⟨c0,c1,c2,c3⟩:=cs4 a4 rfl rfl rfl rfl;have c4:=Hd a4;have O:=Hd l;have c:=Hd b;have a9:=Hd Y;have u:=Hd N;have F:=Hd (y.out.keep r);clear r l S K Z b a4 N Y HU;generalize data.getD p 0=x0 at*;generalize data.getD (p+1) 0=x1 at*;generalize data.getD (p+2) 0=x2 at*;generalize data.getD (p-d) 0=y0 at*;generalize data.getD (p+1-d) 0=y1 at*;generalize data.getD (p+2-d) 0=y2 at*;rcases(show(x0=y0∧x1=y1∧x2=y2)∨(¬x0=y0)∨(x0=y0∧¬x1=y1)∨(x0=y0∧x1=y1∧¬x2=y2) from by
            by_cases q:x0=y0
            · by_cases x:x1=y1
              · by_cases C:x2=y2
                · exact .inl ⟨q,x,C⟩
                · exact .inr (.inr (.inr ⟨q,x,C⟩))
              · exact .inr (.inr (.inl ⟨q,x⟩))
            · exact .inr (.inl q)) with⟨q,x,C⟩|q|⟨q,x⟩|⟨q,x,C⟩
          · have e0:=bne_f q
            have e1:=bne_f x;have e2:=bne_f C;rw[decide_eq_true q,decide_eq_true x,decide_eq_true C] at c;have b:=c.out;rw[if_pos (show(true&&(true&&true))=true from rfl)] at b;have c:=Hd b;have L:(upTo data p d).length=sn+1:=by rw[b,List.length_append,n.out];rfl
            have s:=Hd L;have B:mtOf data p m (upTo data p d)=if m<3 then[] else mtOf data p m (upTo data p k)++[(D,d)]:=by
              rw[b,mtOf_snoc,←hm,a9.out]
            have c7:(mtOf data p m (upTo data p k)).length≤32:=by
              unfold mtOf;split
              · exact Nat.zero_le _
              · rw[List.length_map,n.out]
                exact R
            have c5:D<3↔m<3:=by
              have h1:=Px.run_le data p d (min 273 (tp-p));have h2:=fun A=>Px.run_three (most:=min 273 (tp-p)) (show Px.same3 data p d=true from by rw[b6.out,decide_eq_true q,decide_eq_true x,decide_eq_true C];rfl) A;rw[a9.out,hm] at h1 h2;omega
            have G:=Hd B;clear b q x C L B;go_wp2_with fail;go_quiet (fail);go_wp2_with fail;refine(J.out _ (O.out.drewN _)).mono ?_;rintro e w3 ⟨rfl,U⟩;have a7:=Hd ((O.out.drewN _).trans U);have H:=Hd (F.out.keep (((R0 E).drewN _).trans U));clear U;by_cases A:m<3
            · have t:¬(3:Int)≤(D:Int):=by omega
              go_wp2_with fail;go_roundw
              · refine⟨d,d+1,by rw[s.out];simp,by simp,rfl,by have:=u.out;omega,by rw[s.out];omega,a7.out,?_⟩
                rw[G.out,if_pos A];have h:=H.out;unfold mtOf at h;rw[if_pos A] at h;exact h
              · have:=u.out
                simp[intOf];omega
            · have t:(3:Int)≤(D:Int):=by omega
              have V:=(R0 w3).alloc (.cells #[.int .i64 D,.int .i64 d] 310);have HB:=Hd (heap_alloc_new w3 (.cells #[.int .i64 D,.int .i64 d] 310));have I:=Hd (H.out.keep V);have a8:=Hd (a7.out.trans V);clear V
              go_wp2_with (at_builtin
                           refine Ga.append_own rfl _ _ rfl Tryz.underlying317 infoMatch rfl (by decide) (by decide) (w0:=W) u5 _ #[.int .i64 D,.int .i64 d] w3.heap.size rfl rfl I.out a8.out.size HB.out rfl (by simp[Value.oneCell']) (by omega) ?_;intro v5 w5 b2 b1 b8;have b5:=Hd b2;have b4:=Hd (a8.out.trans' b1 (fun j hj e=>by have:=I.out.new j e;omega));clear b2 b1 b8)
              go_roundw
              · refine⟨d,d+1,by rw[s.out];simp,by simp,rfl,by have:=u.out;omega,by rw[s.out];omega,b4.out,?_⟩
                rw[G.out,if_neg A];unfold Mts;rw[mtCells_snoc,List.length_append];exact b5.out
              · have:=u.out
                simp[intOf];omega
          case' inr.inl=>have e0:=bne_t q
          case' inr.inr.inl=>
            have e0:=bne_f q;have e1:=bne_t x
          case' inr.inr.inr=>
            have e0:=bne_f q;have e1:=bne_f x;have e2:=bne_t C
          all_goals
            have b:=c.out;rw[if_neg (by simp[*])] at b;have c:=Hd b;clear b;go_wp2_with fail;go_quiet (fail);go_wp2_with fail;go_roundw
            · refine⟨d,d+1,by rw[c.out,n.out],by simp,rfl,by have:=u.out;omega,by rw[c.out,n.out];exact R,O.out.drewN _,?_⟩
              rw[c.out];exact F.out.keep ((R0 E).drewN _)
            · have:=u.out
              simp[intOf];omega
        · rw[decide_eq_false N] at HU
          have HD:=Hd (upTo_full hk (by rw[n.out];omega) (.inr (by omega)));clear N z;go_wp2_with fail;refine HU.out.mono ?_;rintro e E ⟨rfl,r⟩;have a6:=Hd r;clear r;go_wp2_with fail;go_ret;rw[HE.out,←HD.out];exact⟨HF.out.trans (P.out.trans a6.out),_,rfl,(y.out.keep a6.out).own,fun j hj=>Nat.le_trans (Nat.le_of_lt b3) (y.out.new j hj)⟩
      · have HD:=Hd (upTo_full hk (by rw[n.out];omega) (.inl (by rw[n.out];omega)))
        clear z;go_wp2_with fail;go_ret;rw[HE.out,←HD.out];exact⟨HF.out.trans P.out,_,rfl,y.out.own,fun j hj=>Nat.le_trans (Nat.le_of_lt b3) (y.out.new j hj)⟩
end Rx
namespace Rx
open Mem Win St Ps
def one(f:Nat→Nat)(b:Nat×Nat)(d i:Nat):Nat×Nat:=if 2≤f d∧b.1<f d then(f d,i) else b
def repTo(f:Nat→Nat)(s:S):Nat→Nat×Nat
 |0=>(0,0)
 |i+1=>one f (repTo f s i) (repAt s i) i
theorem repTo_four(f:Nat→Nat)(s:S):repTo f s 4=Px.repB f s:=rfl
theorem repTo_le(D:List UInt8)(tp dict p:Nat)(s:S):∀i,(repTo (Px.rn D tp dict p) s i).1≤273∧(repTo (Px.rn D tp dict p) s i).2≤i
 |0=>⟨Nat.zero_le _,Nat.le_refl _⟩
 |i+1=>by
   obtain⟨a,b⟩:=repTo_le D tp dict p s i;unfold repTo one;split
   ·exact⟨Px.rn_le D tp dict p _,Nat.le_succ i⟩
   ·exact⟨a,by omega⟩
set_option maxRecDepth 100000 in
theorem rep_calls(a:Option Addr)(j E tp dict p:Nat)(s:S)(data:List UInt8)(w:World)(h:Rd w (.slice a data.length j) data)(hp:p<tp)(ht:tp≤data.length)(hb:data.length≤1099511627776):
 Calls Tryz.prog 199 #[pcV a data.length j E tp dict,.int .i64 p,.agg s.cells] w fun e A=>Fr (fun _=>False) w A∧e=.returned (.tuple #[.int .i64 (Px.repB (Px.rn data tp dict p) s).1,.int .i64 (Px.repB (Px.rn data tp dict p) s).2]):=by
 rw[←repTo_four];have a0:=repTo_le data tp dict p s;have R:=Hd (show∀d,Px.rn data tp dict p d=if 1≤d∧d≤p∧d≤dict then Px.run data p d (min 273 (tp-p)) else 0 from fun d=>rfl);have Z:=fun d=>Px.rn_le data tp dict p d;generalize Px.rn data tp dict p=f at*;obtain⟨o,q,r,t,u⟩:=s;have K:∀(A:World)(B:Nat),A.heap[B]? =some (.cells (S.cells ⟨o,q,r,t,u⟩) 103 (0,0))→∀i,i<4→A.cell? ⟨B,1+i,none⟩=some (.int .i64 (repAt ⟨o,q,r,t,u⟩ i)):=fun A B Q i hi=>by
  obtain rfl|rfl|rfl|rfl:i=0∨i=1∨i=2∨i=3:=by omega
  ·exact cell_in (i:=1) Q rfl
  ·exact cell_in (i:=2) Q rfl
  ·exact cell_in (i:=3) Q rfl
  ·exact cell_in (i:=4) Q rfl
 have G:=Hd K;have HR:=Hd h;simp only[S.cells] at G ⊢;have g:=((R0 _).alloc (.cells #[.int .i64 o,.int .i64 q,.int .i64 r,.int .i64 t,.int .i64 u] 103)).keep (heap_alloc_new w (.cells #[.slice a data.length j,.int .i64 E,.int .i64 tp,.int .i64 dict] 101)) (fun h=>h);have m:=heap_alloc_new (w.alloc (.cells #[.slice a data.length j,.int .i64 E,.int .i64 tp,.int .i64 dict] 101)) (.cells #[.int .i64 o,.int .i64 q,.int .i64 r,.int .i64 t,.int .i64 u] 103);have HF:=Hd (((R0 w).alloc (.cells #[.slice a data.length j,.int .i64 E,.int .i64 tp,.int .i64 dict] 101)).alloc (.cells #[.int .i64 o,.int .i64 q,.int .i64 r,.int .i64 t,.int .i64 u] 103));rw[World.size_alloc] at m;have T:=Hd g;have U:=Hd m;clear g m h K;go_enter Tryz.func199,Tryz.ntmps199;go_wp2_with fail;generalize(w.alloc (.cells #[.slice a data.length j,.int .i64 E,.int .i64 tp,.int .i64 dict] 101)).alloc (.cells #[.int .i64 o,.int .i64 q,.int .i64 r,.int .i64 t,.int .i64 u] 103)=W at*;go_loopw [8,9,10](fun s8 s9 s10 wr=>∃i:Nat,s8=.int .i64 (repTo f ⟨o,q,r,t,u⟩ i).1∧s9=.int .i64 (repTo f ⟨o,q,r,t,u⟩ i).2∧s10=.int .i64 i∧i≤4∧Fr (fun _=>False) W wr) (fun _ _ s10 _=>4-(intOf s10).toNat);case atStart=>exact⟨0,rfl,rfl,rfl,by omega,Fr.refl _ _⟩
 case round=>
  obtain⟨i,rfl,rfl,rfl,hi,v⟩:=hrel;have D:=Hd v;obtain⟨X,Y⟩:=a0 i;have c:=Hd (show repTo f ⟨o,q,r,t,u⟩ (i+1)=one f (repTo f ⟨o,q,r,t,u⟩ i) (repAt ⟨o,q,r,t,u⟩ i) i from rfl);by_cases h4:(i:Int)<4
  ·have g:=v.keep T.out (fun h=>h)
   have m:=v.keep U.out (fun h=>h);obtain⟨M,N,O,P⟩:=cs4 g rfl rfl rfl rfl;have ci:=G.out wr _ m i (by omega);have i0:(0:Int)≤(i:Int):=by omega
   generalize repTo f ⟨o,q,r,t,u⟩ i=b at*;obtain⟨V,bi⟩:=b;generalize repAt ⟨o,q,r,t,u⟩ i=d at*;have l:=R.out d;have J:=Z d;obtain⟨n,hn⟩:∃n,f d=n:=⟨_,rfl⟩;unfold one at c;rw[hn] at l J c;have H:=Hd g;simp only at X Y c ⊢;have L:=Hd (usable_calls a data.length j E tp dict p d wr);clear v g m hn;by_cases z:1≤d∧d≤p∧d≤dict
   ·rw[decide_eq_true z] at L
    rw[if_pos z] at l;have y:=Hd (fun(A:World)(hf:Fr (fun _=>False) W A)=>run_calls a j E tp dict p d data A (HR.out.keep (HF.out.trans hf)) z.1 z.2.1 (by omega) ht hb);rw[←l] at y;clear z l;go_wp2_with fail;refine L.out.mono ?_;rintro e w1 ⟨rfl,k⟩;have g:=k.keep H.out (fun h=>h);have x:=Hd (D.out.trans k);clear M N O P k;obtain⟨M,N,O,P⟩:=cs4 g rfl rfl rfl rfl;clear g;go_wp2_with fail;refine(y.out _ x.out).mono ?_;rintro e w2 ⟨rfl,I⟩;have C:=Hd (x.out.trans I);clear I M N O P;by_cases F:2≤n∧V<n
    ·have t1:decide ((2:Int)≤(n:Int))=true:=decide_eq_true (by omega)
     have t2:V<n:=F.2;rw[if_pos F] at c;clear F;go_wp2_with fail;go_roundw
     ·exact⟨i+1,by rw[c.out],by rw[c.out],by simp,by omega,C.out⟩
     ·simp[intOf];omega
    ·rw[if_neg F] at c
     by_cases h2:2≤n
     ·have t1:decide ((2:Int)≤(n:Int))=true:=decide_eq_true (by omega)
      have t2:¬V<n:=fun h=>F ⟨h2,h⟩;clear F;go_wp2_with fail;go_roundw
      ·exact⟨i+1,by rw[c.out],by rw[c.out],by simp,by omega,C.out⟩
      ·simp[intOf];omega
     ·have t1:decide ((2:Int)≤(n:Int))=false:=decide_eq_false (by omega)
      clear F;go_wp2_with fail;go_roundw
      ·exact⟨i+1,by rw[c.out],by rw[c.out],by simp,by omega,C.out⟩
      ·simp[intOf];omega
   ·rw[decide_eq_false z] at L
    rw[if_neg z] at l;rw[if_neg (by omega)] at c;clear z l;go_wp2_with fail;refine L.out.mono ?_;rintro e w1 ⟨rfl,k⟩;have x:=Hd (D.out.trans k);clear k M N O P;go_wp2_with fail;go_roundw
    ·exact⟨i+1,by rw[c.out],by rw[c.out],by simp,by omega,x.out⟩
    ·simp[intOf];omega
  ·obtain rfl:i=4:=by omega
   clear v;go_wp2_with fail;go_ret2;exact⟨HF.out.trans D.out,rfl⟩
end Rx
namespace Rx
open Mem Win St Ps
theorem bestM_take{M:List (Nat×Nat)}{k:Nat}{x:Nat×Nat}(h:M[k]? =some x):Px.bestM (M.take (k+1))=if(Px.bestM (M.take k)).1<x.1 then x else Px.bestM (M.take k):=by
 rw[List.take_add_one,h];exact Px.bestM_snoc _ _
set_option maxRecDepth 100000 in
theorem first_calls(a:Option Addr)(n I tp dict p:Nat)(s:S)(data:List UInt8)(w:World)(h:Rd w (.slice a data.length n) data)(hp:p<tp)(ht:tp≤data.length)(hb:data.length≤1099511627776):
 Calls Tryz.prog 137 #[pcV a data.length n I tp dict,.int .i64 p,.agg s.cells] w fun e v=>Fr (fun _=>False) w v∧e=.returned (.agg (Px.first data tp dict p s).cells):=by
 have B:=Hd (fun(v:World)(L:Fr (fun _=>False) w v)=>rep_calls a n I tp dict p s data v (h.keep L) hp ht hb);have d8:=Hd (fun(v:World)(L:Fr (fun _=>False) w v)=>matches_calls a n I tp dict p data v (h.keep L) hp ht hb);have c5:=Hd (fun(v:World)=>usable_calls a data.length n I tp dict p s.r0 v);have c4:=Hd (fun(v:World)(L:Fr (fun _=>False) w v)(h1:1≤s.r0)(h2:s.r0≤p)=>run_calls a n I tp dict p s.r0 data v (h.keep L) h1 h2 (by omega) ht hb);have b9:=Hd (show Px.rn data tp dict p s.r0=if 1≤s.r0∧s.r0≤p∧s.r0≤dict then Px.run data p s.r0 (min 273 (tp-p)) else 0 from rfl);have b2:=repTo_le data tp dict p s 4;rw[repTo_four] at b2;obtain⟨⟨rb,rk⟩,G⟩:∃r,Px.repB (Px.rn data tp dict p) s=r:=⟨_,rfl⟩;have e9:(Px.mts data tp dict p).length≤32:=by
  unfold Px.mts;split
  ·exact Nat.zero_le _
  ·rw[List.length_map]
   unfold Px.dists;rw[List.length_take];omega
 have d5:=Hd (fun(n9 d9:Nat)(h9:(n9,d9)=Px.bestM (Px.mts data tp dict p))=>Ps.first_eq G.symm h9);rw[G] at B b2;have HR:=Hd h;simp only at B b2;clear G;obtain⟨nn,R,q1,q2,q3⟩:=s;simp only[S.cells] at B c4 c5 b9 ⊢;have c:=(((R0 _).alloc (.cells #[.int .i64 nn,.int .i64 R,.int .i64 q1,.int .i64 q2,.int .i64 q3] 103)).alloc (.cells #[.int .i64 0,.int .u8 0,.int .i64 0,.int .i64 0] 110)).keep (heap_alloc_new w (.cells #[.slice a data.length n,.int .i64 I,.int .i64 tp,.int .i64 dict] 101)) (fun h=>h);have u:=((R0 _).alloc (.cells #[.int .i64 0,.int .u8 0,.int .i64 0,.int .i64 0] 110)).keep (heap_alloc_new (w.alloc (.cells #[.slice a data.length n,.int .i64 I,.int .i64 tp,.int .i64 dict] 101)) (.cells #[.int .i64 nn,.int .i64 R,.int .i64 q1,.int .i64 q2,.int .i64 q3] 103)) (fun h=>h);have b3:=heap_alloc_new ((w.alloc (.cells #[.slice a data.length n,.int .i64 I,.int .i64 tp,.int .i64 dict] 101)).alloc (.cells #[.int .i64 nn,.int .i64 R,.int .i64 q1,.int .i64 q2,.int .i64 q3] 103)) (.cells #[.int .i64 0,.int .u8 0,.int .i64 0,.int .i64 0] 110);have HF:=Hd ((((R0 w).alloc (.cells #[.slice a data.length n,.int .i64 I,.int .i64 tp,.int .i64 dict] 101)).alloc (.cells #[.int .i64 nn,.int .i64 R,.int .i64 q1,.int .i64 q2,.int .i64 q3] 103)).alloc (.cells #[.int .i64 0,.int .u8 0,.int .i64 0,.int .i64 0] 110));simp only[World.size_alloc] at u b3;have c6:=Hd c;have c7:=Hd u;have c8:=Hd b3;obtain⟨H,V,X,Y⟩:=cs4 c rfl rfl rfl rfl;obtain⟨s0,s1,s2,s3,s4⟩:=cs5 u rfl rfl rfl rfl rfl;clear c u b3 h;go_enter Tryz.func137,Tryz.ntmps137;go_wp2_with fail;generalize((w.alloc (.cells #[.slice a data.length n,.int .i64 I,.int .i64 tp,.int .i64 dict] 101)).alloc (.cells #[.int .i64 nn,.int .i64 R,.int .i64 q1,.int .i64 q2,.int .i64 q3] 103)).alloc (.cells #[.int .i64 0,.int .u8 0,.int .i64 0,.int .i64 0] 110)=W at*;refine(B.out _ HF.out).mono ?_;rintro e w2 ⟨a5,rfl⟩;have a6:=a5.alloc (.cells #[.int .i64 0,.int .i64 0] 310);have d1:=heap_alloc_new w2 (.cells #[.int .i64 0,.int .i64 0] 310);have c:=a6.keep c6.out (fun h=>h);clear H V X Y s0 s1 s2 s3 s4;obtain⟨H,V,X,Y⟩:=cs4 c rfl rfl rfl rfl;have b5:=Hd a6;have d6:=Hd d1;have e8:=a5.size;have f0:=lt_of_block c8.out;clear a5 a6 d1 c;go_wp2_with fail;refine(d8.out _ (HF.out.trans b5.out)).mono ?_;rintro e w4 ⟨a7,mv,rfl,P⟩;obtain⟨pm,cm,rfl⟩:=P.slice;generalize Px.mts data tp dict p=M at*;obtain⟨B9,a4⟩:∃B9,w2.heap.size=B9:=⟨_,rfl⟩;have a9:=a7.keep d6.out (fun h=>h);have a0:∀j,(Value.slice pm M.length cm).ownBlock=some j→B9<j:=fun j hj=>by
  have:=P.new j hj;rw[World.size_alloc,a4] at this;omega
 rw[a4] at a9 e8 ⊢;have d4:=Hd (b5.out.trans a7);have e0:=Hd P;have d7:=Hd a9;have b8:=Hd a0;clear H V X Y a7 P a9 a0 a4;go_wp2_with fail;go_loopw [11](fun s11 wr=>∃k:Nat,s11=.int .i64 k∧k≤M.length∧Fr (fun j=>j=B9) w4 wr∧wr.heap[B9]? =some (.cells #[.int .i64 (Px.bestM (M.take k)).1,.int .i64 (Px.bestM (M.take k)).2] 310 (0,0))) (fun s11 _=>M.length-(intOf s11).toNat);case atStart=>exact⟨0,rfl,Nat.zero_le _,Fr.refl _ _,d7.out⟩
 case round=>
  obtain⟨k,rfl,hk,D,t⟩:=hrel;by_cases a8:k<M.length
  ·obtain⟨g2,rfl,m0,m1⟩:=mt_cell (e0.out.step D (fun j hj e=>by have:=b8.out j hj;omega)) a8
   have A:=bestM_take (List.getElem?_eq_getElem a8);generalize M[k]=m at*;obtain⟨mn,md⟩:=m;generalize Px.bestM (M.take k)=b at*;obtain⟨bn,bd⟩:=b;simp only at A t m0 m1;obtain⟨b0,b1,bf⟩:=cf2 t rfl rfl;have i0:(0:Int)≤(k:Int):=by omega
   have i1:(k:Int)<(M.length:Int):=by omega
   have b7:=Hd D;have b4:=Hd t;by_cases hc:bn<mn
   ·rw[if_pos hc] at A
    have a3:=Hd A;clear D t A;go_wp2_with fail;go_quiet (fail);go_wp2_with fail;go_roundw
    ·exact⟨k+1,by simp,by omega,((b7.out.drewN _).setCell (p:=⟨B9,0,none⟩) (.inl rfl) _).setCell (p:=⟨B9,1,none⟩) (.inl rfl) _,by rw[a3.out];exact set_in (set_in b4.out 0 (.int .i64 mn)) 1 (.int .i64 md)⟩
    ·simp[intOf];omega
   ·rw[if_neg hc] at A
    have a3:=Hd A;clear D t A;go_wp2_with fail;go_quiet (fail);go_wp2_with fail;go_roundw
    ·exact⟨k+1,by simp,by omega,b7.out.drewN _,by rw[a3.out];exact b4.out⟩
    ·simp[intOf];omega
  ·have e7:k=M.length:=by omega
   subst e7;rw[List.take_length] at t;obtain⟨⟨n9,d9⟩,h9⟩:∃b,Px.bestM M=b:=⟨_,rfl⟩;rw[h9] at t;have a1:=Hd (d5.out n9 d9 h9.symm);simp only at t;obtain⟨b0,b1⟩:=cs2 t rfl rfl;have O:=d4.out.trans' D (fun j hj e=>by omega);have f:=O.keep c8.out (fun h=>h);have yf:=fun i=>frozen_in f i;obtain⟨y0,y1,y2,y3⟩:=cs4 f rfl rfl rfl rfl;have F:=Hd f;have y:=Hd (HF.out.trans O);have a2:=Hd O;have E:w.heap.size≤w.heap.size+1+1:=by omega
   have hl:¬((M.length:Int)<(M.length:Int)):=by omega
   clear hk a8 D t h9 O f;by_cases q:rb≠0∧n9≤rb+1
   ·have e1:(0:Int)<(rb:Int):=by omega
    have e2:(n9:Int)≤(rb:Int)+1:=by omega
    have l:=Hd (a1.out.trans (if_pos q));clear q;go_wp2_with fail;refine bodyPost_ret (results_cell_row Tryz.results137 _ _ (w.heap.size+1+1) _ _ _ _ rfl (y4 F.out _ _ _ _) Tryz.underlying110 rfl symSize) rfl ?_;exact⟨fr4z y.out E _ _ _ _,by rw[l.out];rfl⟩
   ·by_cases Q:n9=0
    ·subst Q
     have G:rb=0:=by omega
     subst G;have l:=Hd (a1.out.trans ((if_neg q).trans (if_neg (by omega))));have c:=a2.out.keep c6.out (fun h=>h);have u:=a2.out.keep c7.out (fun h=>h);obtain⟨H,V,X,Y⟩:=cs4 c rfl rfl rfl rfl;have s1:=cell_in (i:=1) u rfl;have HU:=Hd (c5.out wr);obtain⟨x,hx⟩:∃x,data[p]? =some x:=⟨data[p],List.getElem?_eq_getElem (by omega)⟩;have e4:=Hd (HR.out.keep y.out);have Z:∀v:World,Fr (fun _=>False) wr v→∃g o,a=some ⟨g,o,none⟩∧v.cell? ⟨g,o+p,none⟩=some (.int .u8 x.toNat):=fun v L=>by
      obtain⟨a',cp,e',_,_,e5⟩:=e4.out.keep L;obtain⟨g',o',e2,e6⟩:=e5 (by omega);simp only[Value.slice.injEq] at e';exact⟨g',o',by rw[e'.1,e2],e6 p x hx⟩
     have T:=Hd Z;have d0:(data.getD p 0).toNat=x.toNat:=by rw[List.getD_eq_getElem?_getD,hx];rfl
     rw[d0] at l;have i0:(0:Int)≤(p:Int):=by omega
     have i1:(p:Int)<(data.length:Int):=by omega
     have z:=b9.out;clear q u Z d0 hx;by_cases hu:1≤R∧R≤p∧R≤dict
     ·rw[decide_eq_true hu] at HU
      rw[if_pos hu] at z;have U:=Hd (fun(v:World)(L:Fr (fun _=>False) w v)=>c4.out v L hu.1 hu.2.1);obtain⟨n5,d2⟩:∃n5,Px.run data p R (min 273 (tp-p))=n5:=⟨_,rfl⟩;rw[d2] at U z;rw[z] at l;have C:=Hd c;clear hu z d2 c;go_wp2_with fail;refine HU.out.mono ?_;rintro e w5 ⟨rfl,N⟩;have c:=N.keep C.out (fun h=>h);have u:=(a2.out.trans N).keep c7.out (fun h=>h);clear H V X Y s1 y0 y1 y2 y3 yf;obtain⟨H,V,X,Y⟩:=cs4 c rfl rfl rfl rfl;have s1:=cell_in (i:=1) u rfl;have b6:=Hd N;clear c u N;go_wp2_with fail;refine(U.out w5 (y.out.trans b6.out)).mono ?_;rintro e w6 ⟨rfl,c9⟩;have d:=b6.out.trans c9;have f:=d.keep F.out (fun h=>h);have yf:=fun i=>frozen_in f i;obtain⟨y0,y1,y2,y3⟩:=cs4 f rfl rfl rfl rfl;have K:=Hd f;have J:=Hd (y.out.trans d);have c:=d.keep C.out (fun h=>h);obtain⟨g,o,rfl,q1⟩:=T.out w6 d;clear H V X Y s1;have H:=cell_in (i:=0) c rfl;clear c9 d f c;by_cases h5:0<n5
      ·have t5:(0:Int)<(n5:Int):=by omega
       rw[if_pos h5] at l;clear h5;go_wp2_with fail;refine bodyPost_ret (results_cell_row Tryz.results137 _ _ (w.heap.size+1+1) _ _ _ _ rfl (y4 K.out _ _ _ _) Tryz.underlying110 rfl symSize) rfl ?_;exact⟨fr4z J.out E _ _ _ _,by rw[l.out];rfl⟩
      ·have t5:¬(0:Int)<(n5:Int):=by omega
       rw[if_neg h5] at l;clear h5;go_wp2_with fail;refine bodyPost_ret (results_cell_row Tryz.results137 _ _ (w.heap.size+1+1) _ _ _ _ rfl (y4 K.out _ _ _ _) Tryz.underlying110 rfl symSize) rfl ?_;exact⟨fr4z J.out E _ _ _ _,by rw[l.out];rfl⟩
     ·rw[decide_eq_false hu] at HU
      rw[if_neg hu] at z;rw[z,if_neg (by omega)] at l;have C:=Hd c;clear hu z c;go_wp2_with fail;refine HU.out.mono ?_;rintro e w6 ⟨rfl,d⟩;have f:=d.keep F.out (fun h=>h);clear H V X Y s1 y0 y1 y2 y3 yf;have yf:=fun i=>frozen_in f i;obtain⟨y0,y1,y2,y3⟩:=cs4 f rfl rfl rfl rfl;have K:=Hd f;have J:=Hd (y.out.trans d);have c:=d.keep C.out (fun h=>h);obtain⟨g,o,rfl,q1⟩:=T.out w6 d;have H:=cell_in (i:=0) c rfl;clear d f c;go_wp2_with fail;refine bodyPost_ret (results_cell_row Tryz.results137 _ _ (w.heap.size+1+1) _ _ _ _ rfl (y4 K.out _ _ _ _) Tryz.underlying110 rfl symSize) rfl ?_;exact⟨fr4z J.out E _ _ _ _,by rw[l.out];rfl⟩
    ·have e3:(0:Int)<(n9:Int):=by omega
     have l:=Hd (a1.out.trans ((if_neg q).trans (if_pos Q)));by_cases d3:rb=0
     ·subst d3
      clear q Q;go_wp2_with fail;refine bodyPost_ret (results_cell_row Tryz.results137 _ _ (w.heap.size+1+1) _ _ _ _ rfl (y4 F.out _ _ _ _) Tryz.underlying110 rfl symSize) rfl ?_;exact⟨fr4z y.out E _ _ _ _,by rw[l.out];rfl⟩
     ·have e1:(0:Int)<(rb:Int):=by omega
      have e2:¬(n9:Int)≤(rb:Int)+1:=by omega
      clear q Q d3;go_wp2_with fail;refine bodyPost_ret (results_cell_row Tryz.results137 _ _ (w.heap.size+1+1) _ _ _ _ rfl (y4 F.out _ _ _ _) Tryz.underlying110 rfl symSize) rfl ?_;exact⟨fr4z y.out E _ _ _ _,by rw[l.out];rfl⟩
end Rx
namespace Rx
open Mem Win St Ps
theorem length_calls(y:Sy)(w:World):Calls Tryz.prog 139 #[.agg y.cells] w fun e l=>e=.returned (.int .i64 (if y.kind=2∨y.kind=3 then y.len else 1:Nat))∧Fr (fun _=>False) w l:=by
 obtain⟨k,b,n,d⟩:=y;simp only[Sy.cells];have g:=heap_alloc_new w (.cells #[.int .i64 k,.int .u8 b,.int .i64 n,.int .i64 d] 110);have f:=Hd ((R0 w).alloc (.cells #[.int .i64 k,.int .u8 b,.int .i64 n,.int .i64 d] 110));have m:=cell_in (i:=0) g rfl;have o:=cell_in (i:=2) g rfl;clear g;by_cases a:k=2
 ·have h:((k:Int)==2)=true:=by subst a;rfl
  rw[if_pos (.inl a)];clear a;go_enter Tryz.func139,Tryz.ntmps139;go_wp2_with fail;go_ret;exact⟨rfl,f.out⟩
 ·have h:((k:Int)==2)=false:=by simp;omega
  by_cases c:k=3
  ·have j:((k:Int)==3)=true:=by subst c;rfl
   rw[if_pos (.inr c)];clear a c;go_enter Tryz.func139,Tryz.ntmps139;go_wp2_with fail;go_ret;exact⟨rfl,f.out⟩
  ·have j:((k:Int)==3)=false:=by simp;omega
   rw[if_neg (by omega)];clear a c;go_enter Tryz.func139,Tryz.ntmps139;go_wp2_with fail;go_ret;exact⟨rfl,f.out⟩
theorem refuses_calls(a:Option Addr)(n b c tp dict:Nat)(w:World)(l:c≤tp)(m:tp≤n)(o:1≤dict)(p:dict≤4294967295):
 Calls Tryz.prog 135 #[pcV a n b c tp dict] w fun e g=>e=.returned (.int .i64 0)∧Fr (fun _=>False) w g:=by
 have d:=heap_alloc_new w (.cells #[.slice a n b,.int .i64 c,.int .i64 tp,.int .i64 dict] 101);have f:=Hd ((R0 w).alloc (.cells #[.slice a n b,.int .i64 c,.int .i64 tp,.int .i64 dict] 101));obtain⟨h,i,j,k⟩:=cs4 d rfl rfl rfl rfl;have q:¬(c:Int)<0:=by omega
 have r:¬(tp:Int)<(c:Int):=by omega
 have s:¬(n:Int)<(tp:Int):=by omega
 have t:¬(dict:Int)<1:=by omega
 have u:¬(4294967295:Int)<(dict:Int):=by omega
 clear d;go_enter Tryz.func135,Tryz.ntmps135;go_wp2_with fail;go_ret;exact⟨rfl,f.out⟩
structure RG(w wr:World)(bp bs br:Nat)(a:Option Addr)(cap fm tp dict:Nat)(data:List UInt8)(s:S)(p:Nat)(t:S)(l:List Sy)(v:Value):Prop where
 fr:Fr (fun _=>False) w wr
 pc:wr.heap[bp]? =some (.cells #[.slice a data.length cap,.int .i64 fm,.int .i64 tp,.int .i64 dict] 101 (0,0))
 st:wr.heap[bs]? =some (.cells t.cells 103 (0,0))
 rs:wr.heap[br]? =some (.cells #[.int .i64 0,.int .i64 0,.int .i64 0,.int .i64 0,.int .i64 0] 103 (0,0))
 sy:Lz.Syms w wr v l
 gr:Px.Greedy data tp dict l fm s p t
 ok:t.Ok
 hi:p≤tp
 cnt:l.length≤p
theorem RG.keep{w wr d:World}{e g f:Nat}{a:Option Addr}{b i tp dict:Nat}{data:List UInt8}{s:S}{p:Nat}{t:S}{l:List Sy}{v:Value}(h:RG w wr e g f a b i tp dict data s p t l v)(c:Fr (fun _=>False) wr d):RG w d e g f a b i tp dict data s p t l v:=
 ⟨h.fr.trans c,c.keep h.pc (fun h=>h),c.keep h.st (fun h=>h),c.keep h.rs (fun h=>h),h.sy.step c (fun _ _ h=>h),h.gr,h.ok,h.hi,h.cnt⟩
set_option maxRecDepth 100000 in
theorem greedy_calls(a:Option Addr)(c j tp dict:Nat)(s:S)(data:List UInt8)(w:World)(h:Rd w (.slice a data.length c) data)(hs:s.Ok)(e6:j≤tp)(ht:tp≤data.length)(hb:data.length≤1073741824)(f9:1≤dict)(e4:dict≤4294967295):
    Calls Tryz.prog 83 #[pcV a data.length c j tp dict,.agg s.cells] w fun e I=>Fr (fun _=>False) w I∧∃v l t,e=.returned (.tuple #[v,.agg t.cells,.int .i64 0])∧Lz.Syms w I v l∧Hid (Px.Greedy data tp dict l j s tp t):=by
  have HR:=Hd h;have HS:=Hd hs;have c9:=Hd (fun(I:World)=>Rf.rright_calls s hs I);have f5:=Hd (fun(I:World)=>refuses_calls a data.length c j tp dict I e6 ht f9 e4);obtain⟨R,N,O,P,Q⟩:=s;simp only[S.cells] at c9 ⊢;have b4:=(((R0 _).alloc (.cells #[.int .i64 R,.int .i64 N,.int .i64 O,.int .i64 P,.int .i64 Q] 103)).alloc (.cells #[.int .i64 0,.int .i64 0,.int .i64 0,.int .i64 0,.int .i64 0] 103)).keep (heap_alloc_new w (.cells #[.slice a data.length c,.int .i64 j,.int .i64 tp,.int .i64 dict] 101)) (fun h=>h);have b5:=((R0 _).alloc (.cells #[.int .i64 0,.int .i64 0,.int .i64 0,.int .i64 0,.int .i64 0] 103)).keep (heap_alloc_new (w.alloc (.cells #[.slice a data.length c,.int .i64 j,.int .i64 tp,.int .i64 dict] 101)) (.cells #[.int .i64 R,.int .i64 N,.int .i64 O,.int .i64 P,.int .i64 Q] 103)) (fun h=>h);have b6:=heap_alloc_new ((w.alloc (.cells #[.slice a data.length c,.int .i64 j,.int .i64 tp,.int .i64 dict] 101)).alloc (.cells #[.int .i64 R,.int .i64 N,.int .i64 O,.int .i64 P,.int .i64 Q] 103)) (.cells #[.int .i64 0,.int .i64 0,.int .i64 0,.int .i64 0,.int .i64 0] 103);have hf:=((((R0 w).alloc (.cells #[.slice a data.length c,.int .i64 j,.int .i64 tp,.int .i64 dict] 101)).alloc (.cells #[.int .i64 R,.int .i64 N,.int .i64 O,.int .i64 P,.int .i64 Q] 103)).alloc (.cells #[.int .i64 0,.int .i64 0,.int .i64 0,.int .i64 0,.int .i64 0] 103));simp only[World.size_alloc] at b5 b6;obtain⟨c0,c1,c2,c3⟩:=cs4 b4 rfl rfl rfl rfl;have d8:=Hd b4;have d9:=Hd b5;have f8:=Hd b6;have HF:=Hd hf;clear b4 b5 b6 hf h hs;go_enter Tryz.func83,Tryz.ntmps83;go_wp2_with fail;generalize((w.alloc (.cells #[.slice a data.length c,.int .i64 j,.int .i64 tp,.int .i64 dict] 101)).alloc (.cells #[.int .i64 R,.int .i64 N,.int .i64 O,.int .i64 P,.int .i64 Q] 103)).alloc (.cells #[.int .i64 0,.int .i64 0,.int .i64 0,.int .i64 0,.int .i64 0] 103)=W at*;refine(f5.out W).mono ?_;rintro e w1 ⟨rfl,a5⟩;have f0:=a5.keep d9.out (fun h=>h);clear c0 c1 c2 c3;obtain⟨c0,c1,c2,c3,c4⟩:=cs5 f0 rfl rfl rfl rfl rfl;have f2:=Hd a5;clear a5 f0;go_wp2_with fail;refine(c9.out w1).mono ?_;rintro e w2 ⟨rfl,e5⟩;have B:=f2.out.trans e5;have e9:=B.keep d8.out (fun h=>h);clear c0 c1 c2 c3 c4;have c1:=cell_in (i:=1) e9 rfl;have J:=Hd B;clear e5 B e9;have H0:=Hd (show RG w w2 w.heap.size (w.heap.size+1) (w.heap.size+1+1) a c j tp dict data ⟨R,N,O,P,Q⟩ j ⟨R,N,O,P,Q⟩ [] (.slice none 0 0) from
    ⟨HF.out.trans J.out,J.out.keep d8.out (fun h=>h),J.out.keep d9.out (fun h=>h),J.out.keep f8.out (fun h=>h),⟨World.ownsRow_nil _ _ _ _,fun k C=>by simp[Value.ownBlock] at C⟩,⟨rfl,rfl⟩,HS.out,e6,Nat.zero_le _⟩)
  go_wp2_with fail;go_loopw [8,9] (fun s8 s9 wr=>∃(p:Nat)(t:S)(l:List Sy),s9=.int .i64 p∧RG w wr w.heap.size (w.heap.size+1) (w.heap.size+1+1) a c j tp dict data ⟨R,N,O,P,Q⟩ p t l s8) (fun _ s9 _=>tp-(intOf s9).toNat);case atStart=>exact⟨j,_,[],rfl,H0.out⟩
  case round=>
    obtain⟨p,t,l,rfl,hg⟩:=hrel;have r:=Hd hg;have g7:=hg.hi;obtain⟨c0,c1,c2,c3⟩:=cs4 hg.pc rfl rfl rfl rfl;have a9:=hg.st;obtain⟨tn,t0,t1,t2,t3⟩:=t;simp only[S.cells] at a9;obtain⟨d0,d1,d2,d3,d4⟩:=cs5 a9 rfl rfl rfl rfl rfl;clear hg a9;by_cases g5:(p:Int)<(tp:Int)
    · have a3:=Hd (first_calls a c j tp dict p ⟨tn,t0,t1,t2,t3⟩ data wr (HR.out.keep r.out.fr) (by omega) ht (by omega))
      obtain⟨U,X,a2⟩:=Px.first_fits (D:=data) (dict:=dict) (s:=⟨tn,t0,t1,t2,t3⟩) (show p<tp by omega);have M:=Px.first_next data tp dict p ⟨tn,t0,t1,t2,t3⟩ e4;have a8:=r.out.gr.snoc (show p<tp by omega);generalize Px.first data tp dict p ⟨tn,t0,t1,t2,t3⟩=y at*;have HN:=Hd (fun I=>Rf.rnext_calls ⟨tn,t0,t1,t2,t3⟩ r.out.ok y a2 I);have Y:=S.next_ok r.out.ok M;generalize S.next ⟨tn,t0,t1,t2,t3⟩ y=rr at*;obtain⟨er,rn,ra,rb,rc,rd⟩:=rr;have K:=Hd (fun I=>length_calls y I);rw[X] at K;obtain⟨m,hm⟩:∃m,max 1 y.len=m:=⟨_,rfl⟩;rw[hm] at K U a8;have g6:1≤m:=by omega
      obtain⟨G,E,H,F⟩:=y;simp only[S.cells,Sy.cells] at a3 HN K M;have g4:=Hd M;have c7:=Hd Y;have f4:=Hd a8;clear X a2 M Y a8 hm;go_wp2_with fail;refine a3.out.mono ?_;rintro e w5 ⟨a6,rfl⟩;have e7:=a6.alloc (.cells #[.int .i64 G,.int .u8 E,.int .i64 H,.int .i64 F] 110);have b7:=heap_alloc_new w5 (.cells #[.int .i64 G,.int .u8 E,.int .i64 H,.int .i64 F] 110);have a7:=(R0 (w5.alloc (.cells #[.int .i64 G,.int .u8 E,.int .i64 H,.int .i64 F] 110))).alloc (.cells #[.int .i64 G,.int .u8 E,.int .i64 H,.int .i64 F] 110);have e0:=Hd (a7.keep b7 (fun h=>h));have a4:=heap_alloc_new (w5.alloc (.cells #[.int .i64 G,.int .u8 E,.int .i64 H,.int .i64 F] 110)) (.cells #[.int .i64 G,.int .u8 E,.int .i64 H,.int .i64 F] 110);rw[World.size_alloc] at a4;have b8:=Hd a4;have b:=Hd (r.out.keep (e7.trans a7));obtain⟨b0,b1,b2,b3⟩:=cs4 b7 rfl rfl rfl rfl;have g9:=a6.size;have f6:=Hd (show∀k,u8.ownBlock=some k→k<wr.heap.size from fun k C=>(World.ownsRow.lt r.out.sy.own k C).2);clear e7 b7 a7 a4 a6 a3 c0 c1 c2 c3 d0 d1 d2 d3 d4;generalize e3:(w5.alloc (.cells #[.int .i64 G,.int .u8 E,.int .i64 H,.int .i64 F] 110)).alloc (.cells #[.int .i64 G,.int .u8 E,.int .i64 H,.int .i64 F] 110)=W7 at e0 b8 b;have f7:=Hd e3;clear e3
      go_wp2_with (at_builtin
                   rw[f7.out];refine Lz.append_sym rfl _ _ rfl (w0:=w) u8 l ⟨G,E,H,F⟩ (w5.heap.size+1) rfl rfl b.out.sy b.out.fr.size b8.out (by have:=b.out.cnt;omega) ?_;intro v9 w9 e2 u g0;have o:∀{k:Nat}{cs:Array Value}{t:TypeId}{fr:Nat×Nat},W7.heap[k]? =some (.cells cs t fr)→t≠110→¬u8.ownBlock=some k:=fun{k cs t fr} C ht e=>by
                     obtain⟨e1,hc⟩:=Lz.own_block b.out.sy.own e;exact neOf C hc ht rfl
                   have q:=u.keep b.out.st (o b.out.st (by decide));have Z:=u.keep b.out.pc (o b.out.pc (by decide));have a0:=u.keep b.out.rs (o b.out.rs (by decide));have A:=u.keep e0.out (fun e=>by have:=f6.out _ e;omega);have V:=b.out.fr.trans' u (fun k C e=>by have:=b.out.sy.new k e;omega);have d6:=Hd e2;have d7:=Hd q;have c8:=Hd Z;have d5:=Hd a0;have b9:=Hd A;have c6:=Hd V;simp only[S.cells] at q;obtain⟨d0,d1,d2,d3,d4⟩:=cs5 q rfl rfl rfl rfl rfl;clear b0 b1 b2 b3;obtain⟨b0,b1,b2,b3⟩:=cs4 A rfl rfl rfl rfl;clear o q Z a0 A V e2 u g0)
      with_reducible refine(HN.out w9).mono ?_
      rintro e f1 ⟨rfl,n⟩;have d:=n.keep d7.out (fun h=>h);have z:=n.keep b9.out (fun h=>h);have df:=fun i=>frozen_in d i;simp only[S.cells] at d;clear d0 d1 d2 d3 d4 b0 b1 b2 b3;obtain⟨d0,d1,d2,d3,d4⟩:=cs5 d rfl rfl rfl rfl rfl;obtain⟨b0,b1,b2,b3⟩:=cs4 z rfl rfl rfl rfl;have x:=Hd d;have f:=Hd n;have g8:=lt_of_block r.out.rs;have g2:¬w5.heap.size=w.heap.size+1:=by omega
      have g3:¬w.heap.size+1=w5.heap.size:=by omega
      clear d z n;go_wp2_with fail;obtain⟨W9,L⟩:∃W9,W9=(((((f1.setCell ⟨w.heap.size+1,0,none⟩ (.int .i64 rn)).setCell ⟨w.heap.size+1,1,none⟩ (.int .i64 ra)).setCell ⟨w.heap.size+1,2,none⟩ (.int .i64 rb)).setCell ⟨w.heap.size+1,3,none⟩ (.int .i64 rc)).setCell ⟨w.heap.size+1,4,none⟩ (.int .i64 rd)):=⟨_,rfl⟩;have g:Fr (fun k=>k=w.heap.size+1) f1 W9:=by
        rw[L];exact((((Fr.one _ _ _ _).trans (Fr.one _ _ _ _)).trans (Fr.one _ _ _ _)).trans (Fr.one _ _ _ _)).trans (Fr.one _ _ _ _)
      have a1:W9.heap[w.heap.size+1]? =some (.cells #[.int .i64 rn,.int .i64 ra,.int .i64 rb,.int .i64 rc,.int .i64 rd] 103 (0,0)):=by
        rw[L];exact set_in (set_in (set_in (set_in (set_in x.out 0 (.int .i64 rn)) 1 (.int .i64 ra)) 2 (.int .i64 rb)) 3 (.int .i64 rc)) 4 (.int .i64 rd)
      rw[←L];have f3:=Hd (show RG w W9 w.heap.size (w.heap.size+1) (w.heap.size+1+1) a c j tp dict data ⟨R,N,O,P,Q⟩ (p+m) ⟨rn,ra,rb,rc,rd⟩ (l++[⟨G,E,H,F⟩]) v9 from
        ⟨(c6.out.trans f.out).trans' g (fun k C e=>by omega),g.keep (f.out.keep c8.out (fun h=>h)) (by omega),a1,g.keep (f.out.keep d5.out (fun h=>h)) (by omega),(d6.out.step f.out (fun _ _ h=>h)).step g (fun k C e=>by
          subst e;obtain⟨e1,hc⟩:=Lz.own_block (d6.out.step f.out (fun _ _ h=>h)).own C;exact neOf x.out hc (by decide) rfl),f4.out,c7.out,U,by have:=r.out.cnt;rw[List.length_append,List.length_singleton];omega⟩)
      clear g a1 L;refine(K.out W9).mono ?_;rintro e h0 ⟨rfl,T⟩;have c5:=Hd T;clear T;go_wp2_with fail;go_roundw
      · exact⟨p+m,⟨rn,ra,rb,rc,rd⟩,l++[⟨G,E,H,F⟩],by simp,f3.out.keep c5.out⟩
      · simp[intOf];omega
    · have g1:p=tp:=by omega
      subst g1;have e8:=r.out.rs;obtain⟨z0,z1,z2,z3,z4,zf⟩:=cf5 e8 rfl rfl rfl rfl rfl;go_upto_region 13 with fail;go_region;all_goals go_wp2_with fail
      all_goals
        refine bodyPost_ret (v:=.tuple #[u8,.agg #[.int .i64 tn,.int .i64 t0,.int .i64 t1,.int .i64 t2,.int .i64 t3],.int .i64 0]) (by simp[results,Tryz.results83,go_sem,z0,z1,z2,z3,z4]) rfl ?_;refine⟨?_,u8,l,⟨tn,t0,t1,t2,t3⟩,rfl,r.out.sy.step (S:=fun k=>k=w.heap.size+1+1) ?_ (fun k C e=> ?_),Hd r.out.gr⟩
        · refine Fr.drew ?_
          repeat refine Fr.setCell ?_ (.inr (Nat.le_succ_of_le (Nat.le_succ _))) _
          exact r.out.fr
        · refine Fr.drew ?_
          repeat refine Fr.setCell ?_ (.inl (by simp)) _
          exact Fr.refl _ _
        · subst e
          obtain⟨e1,hc⟩:=Lz.own_block r.out.sy.own C;exact neOf e8 hc (by decide) rfl
end Rx
end Go.Proofs.YtffoddpjfgjelaaGreatDoor
