/- Part 41 of 54: lemmas of the last part, each under the conditions that it names. -/
import Derived.Deep.CutBlock
import Derived.Deep.DeepCutAuto
import Derived.Deep.RegionHeld3
import Derived.Carry
import Derived.Test.YtffoddpjfgjelaaGreatDoorK40
set_option linter.unusedVariables false
set_option linter.unusedSimpArgs false
set_option maxRecDepth 1500
set_option maxHeartbeats 4000000
namespace Go.Proofs.YtffoddpjfgjelaaGreatDoor
open Go.RowKit
namespace Rf
open Mem Rc Prob St Lz Win
structure WAt(w:World)(V:Nat)(av:Value)(size:Nat)(all:List UInt8):Prop where
 v:w.heap[V]? =some (.cells #[.int .i64 size,av] 246 (0,0))
 own:w.ownsRow 0 5 1 av all.length (bvs all)
theorem WAt.step{S:Nat→Prop}{w w':World}{V size:Nat}{av:Value}{all:List UInt8}(h:WAt w V av size all)(a:Fr S w w')(b:¬S V)(c:∀k,av.ownBlock=some k→¬S k):WAt w' V av size all:=
 ⟨a.keep h.v b,own_step h.own a c⟩
theorem WAt.keep{w w':World}{V size:Nat}{av:Value}{all:List UInt8}(h:WAt w V av size all)(a:Fr (fun _=>False) w w'):WAt w' V av size all:=h.step a (fun h=>h) (fun _ _ h=>h)
theorem WAt.ne{w:World}{V size:Nat}{av:Value}{all:List UInt8}(h:WAt w V av size all):∀k,av.ownBlock=some k→k≠V:=by
 intro k c;obtain⟨a,b⟩:=own_block h.own c;exact blk_ne b h.v (by decide)
theorem WAt.lt{w:World}{V size:Nat}{av:Value}{all:List UInt8}(h:WAt w V av size all):V<w.heap.size∧∀k,av.ownBlock=some k→k<w.heap.size:=⟨lt_of_block h.v,fun k a=>(World.ownsRow.lt h.own k a).2⟩
theorem any_mine{w:World}{v:Value}{xs:List UInt8}(h:w.ownsRow 0 5 1 v xs.length (bvs xs)):Mine {w with heap:=#[]} w v xs:=⟨h,fun _ _=>Nat.zero_le _⟩
def PutW(V size:Nat)(av:Value)(all xs:List UInt8)(w w':World):Prop:=
 ∃av',WAt w' V av' size (all++xs)∧Fr (fun k=>k=V∨av.ownBlock=some k) w w'∧∀k,av'.ownBlock=some k→av.ownBlock=some k∨w.heap.size≤k
theorem putW_end{V size:Nat}{av v2:Value}{all xs:List UInt8}{w a:World}(h:WAt w V av size all)(f:a.ownsRow 0 5 1 v2 (all++xs).length (bvs (all++xs)))(d:Fr (fun k=>av.ownBlock=some k) w a)(l:∀k,v2.ownBlock=some k→av.ownBlock=some k∨w.heap.size≤k):
 PutW V size av all xs w (a.setCell ⟨V,1,none⟩ v2):=by
 have c:=d.keep h.v (fun e=>h.ne V e rfl);have b:=Fr.one a V 1 v2;refine⟨v2,⟨set_in c 1 v2,own_step f b (fun k j e=> ?_)⟩,(d.mono (T:=fun k=>k=V∨av.ownBlock=some k) (fun _ _ h=>.inr h)).trans (b.mono (fun _ _ h=>.inl h)),l⟩;obtain⟨g,i⟩:=own_block f j;exact blk_ne i c (by decide) e
theorem put_calls(V size:Nat)(av q:Value)(all xs:List UInt8)(w:World)(h:WAt w V av size all)(j:Rd w q xs)(u:all.length+xs.length≤70368744177664):
    Calls Tryz.prog 91 #[ptr V,q] w fun e v=>e=.returned (.tuple #[])∧PutW V size av all xs w v:=by
  obtain⟨p,c,rfl⟩:=own_slice h.own;obtain⟨m,l,rfl,f,g,i⟩:=j;have j:Rd w (.slice m xs.length l) xs:=⟨m,l,rfl,f,g,i⟩;clear f g i;have y:w.cell? ⟨V,1,none⟩=some (.slice p all.length c):=cell_in h.v rfl;have s:=Hd (any_mine h.own);have H:=Hd h;have t:=Hd j;clear h j;go_enter Tryz.func91,Tryz.ntmps91
  go_wp2_with (at_builtin
               refine append_mine rfl _ _ rfl (w0:={w with heap:=#[]}) (.slice p all.length c) (.slice m xs.length l) all xs rfl rfl s.out (Nat.zero_le _) t.out u ?_;intro A n z x k d a b;have o:=putW_end H.out d.own a b;have B:x.cell? ⟨V,1,none⟩=some (.slice p all.length c):=cell_in (a.keep H.out.v (fun e=>H.out.ne V e rfl)) rfl;have C:=frozen_in (a.keep H.out.v (fun e=>H.out.ne V e rfl)) 1;have r:=Hd o;clear o k d a b)
  go_end0;exact⟨rfl,r.out⟩
def CopyR(V size d:Nat)(av:Value)(all:List UInt8)(w:World)(k:Nat)(s:Value)(wx:World):Prop:=
 ∃av2,WAt wx V av2 size (grown all d k)∧Fr (fun k=>k=V∨av.ownBlock=some k) w wx∧(∀k,av2.ownBlock=some k→av.ownBlock=some k∨w.heap.size≤k)∧Mine w wx s (copied all d k)∧(∀k,s.ownBlock=some k→av2.ownBlock≠some k)
theorem copy_bad(V size d n:Nat)(av:Value)(all:List UInt8)(w:World)(h:WAt w V av size all)(a:¬(1≤d∧d≤min size all.length)∨273<n):
 Calls Tryz.prog 155 #[ptr V,.int .i64 d,.int .i64 n] w fun e i=>e=.returned (.tuple #[.slice none 0 0,.int .i64 7])∧Fr (fun _=>False) w i:=by
 obtain⟨p,f,rfl⟩:=own_slice h.own;have c:=Hd (has_calls V size all.length f d p w (cell_in h.v rfl) (cell_in h.v rfl));have k:decide ((n:Int)<0)=false:=by simp
 clear h;by_cases b:1≤d∧d≤min size all.length
 ·have g:273<n:=a.resolve_left (fun h=>h b)
  rw[decide_eq_true b] at c;have l:decide ((n:Int)>273)=true:=by rw[decide_eq_true_eq];omega
  have o:decide ((273:Int)<n)=true:=by rw[decide_eq_true_eq];omega
  clear b a g;go_enter Tryz.func155,Tryz.ntmps155;go_wp2_with fail;refine c.out.mono ?_;rintro e j ⟨rfl,m,rfl⟩;go_wp2_with fail;go_ret2;exact⟨rfl,(Fr.refl _ w).drewN m⟩
 ·rw[decide_eq_false b] at c
  clear b a;go_enter Tryz.func155,Tryz.ntmps155;go_wp2_with fail;refine c.out.mono ?_;rintro e j ⟨rfl,m,rfl⟩;go_wp2_with fail;go_ret2;exact⟨rfl,(Fr.refl _ w).drewN m⟩
theorem copy_step{V size d k:Nat}{av av2 s2 q v7:Value}{all:List UInt8}{c:UInt8}{w wr E F r w7:World}(h:WAt wr V av2 size (grown all d k))(H:Fr (fun k=>k=V∨av.ownBlock=some k) w wr)(C:∀k,av2.ownBlock=some k→av.ownBlock=some k∨w.heap.size≤k)(u:Mine w wr s2 (copied all d k))(j:∀k,s2.ownBlock=some k→av2.ownBlock≠some k)
 (L:grown all d (k+1)=grown all d k++[c])(K:copied all d (k+1)=copied all d k++[c])(J:V<w.heap.size)
 (s:Fr (fun _=>False) wr E)(z:F.ownsRow 0 5 1 q (grown all d k++[c]).length (bvs (grown all d k++[c])))(n:Fr (fun k=>av2.ownBlock=some k) E F)(x:∀k,q.ownBlock=some k→av2.ownBlock=some k∨E.heap.size≤k)
 (t:Fr (fun _=>False) (F.setCell ⟨V,1,none⟩ q) r):Mine w r s2 (copied all d k)∧(Mine w w7 v7 (copied all d k++[c])→Fr (fun k=>s2.ownBlock=some k) r w7→(∀k,v7.ownBlock=some k→s2.ownBlock=some k∨r.heap.size≤k)→CopyR V size d av all w (k+1) v7 w7):=by
 have b:=h.keep s;obtain⟨G,l,f,i⟩:=putW_end (xs:=[c]) b z n x;have A:G=q:=by
  have e:=l.v;have I:=n.keep b.v (fun e=>b.ne V e rfl);rw[set_in I 1 q] at e;simp at e;exact e.symm
 subst A;have m:=l.keep t;have M:=s.size;have O:=t.size;have N:=f.size;have p:∀k,s2.ownBlock=some k→k<wr.heap.size:=fun k hk=>(World.ownsRow.lt u.own k hk).2;have g:Mine w r s2 (copied all d k):=by
  refine((u.keep s).step f (fun k hk e=> ?_)).keep t;rcases e with e|e
  ·have:=u.new k hk
   omega
  ·exact j k hk e
 refine⟨g,fun v o y=>⟨G,?_,?_,fun k hk=> ?_,by rw[K];exact v,fun k hk e=> ?_⟩⟩
 ·rw[L]
  refine m.step o (fun e=> ?_) (fun k hk e=> ?_)
  ·have:=g.new V e
   omega
  ·rcases i k hk with a|a
   ·exact j k e a
   ·have:=p k e
    omega
 ·refine((H.trans' (T:=fun k=>k=V∨av2.ownBlock=some k) ((lift s).trans (f.trans (lift t))) (fun k hk e=> ?_)).trans' o (fun k hk e=> ?_))
  ·rcases e with e|e
   ·exact .inl e
   ·rcases C k e with a|a
    ·exact .inr a
    ·omega
  ·have:=g.new k e
   omega
 ·have:=H.size
  rcases i k hk with a|a
  ·exact C k a
  ·exact .inr (by omega)
 ·have D:=m.lt.2 k e
  rcases y k hk with a|a
  ·rcases i k e with B|B
   ·exact j k a B
   ·have:=p k a
    omega
  ·omega
set_option maxRecDepth 100000 in
theorem copy_calls(V size d n:Nat)(av:Value)(all:List UInt8)(w:World)(h:WAt w V av size all)(P:1≤d∧d≤min size all.length)(hn:n≤273)(a8:all.length+n≤70368744177664):
    Calls Tryz.prog 155 #[ptr V,.int .i64 d,.int .i64 n] w fun e w'=>∃v,e=.returned (.tuple #[v,.int .i64 0])∧CopyR V size d av all w n v w':=by
  obtain⟨p,Y,L⟩:=own_slice h.own;have HH:=Hd (has_calls V size all.length Y d p w (cell_in h.v rfl) (by rw[←L];exact cell_in h.v rfl));rw[decide_eq_true P] at HH;have n1:decide ((n:Int)<0)=false:=by simp
  have n2:decide ((n:Int)>273)=false:=by rw[decide_eq_false_iff_not];omega
  have n3:decide ((273:Int)<n)=false:=by rw[decide_eq_false_iff_not];omega
  have a5:=h.lt.1;have H:=Hd h;have b4:1≤d:=P.1;have b5:d≤all.length:=by omega
  clear h P L;go_enter Tryz.func155,Tryz.ntmps155;go_wp2_with fail;refine HH.out.mono ?_;rintro e T ⟨rfl,m,rfl⟩;go_wp2_with fail;go_loopw [8,9](fun s8 i wx=>∃k:Nat,k≤n∧i=.int .i64 (k:Int)∧CopyR V size d av all w k s8 wx) (fun _ i _=>(n-(intOf i).toNat));case atStart=>exact⟨0,by omega,rfl,av,H.out.keep ((Fr.refl _ w).drewN m),lift ((Fr.refl _ w).drewN m),fun k R=>.inl R,by rw[copied_zero];exact Mine.nil _ _,fun k R=>by simp[Value.ownBlock] at R⟩
  case round=>
    obtain⟨k,R,rfl,b3,g,D,K,O,t⟩:=hrel;obtain⟨p8,C,rfl⟩:=O.slice;obtain⟨p2,a,rfl⟩:=own_slice g.own;have q:=Hd g;have z:=Hd D;have E:=Hd K;have A:=Hd O;have r:=Hd t;clear D K O t;by_cases b8:k<n
    · have j:=grown_len all d k
      have s:=copied_len all d k;have hc:(grown all d k)[all.length+k-d]? =some ((grown all d k).getD ((grown all d k).length-d) 0):=by
        rw[j,List.getD_eq_getElem?_getD,List.getElem?_eq_getElem (by omega)];rfl
      have a1:=Hd (show grown all d (k+1)=grown all d k++[(grown all d k).getD ((grown all d k).length-d) 0] from rfl);have a4:=Hd (copied_succ all d k);have M:Rd wr (.slice p2 (grown all d k).length a) (grown all d k):=Rd.of_own g.own;obtain⟨N,S,b1,a7⟩:=Win.byte_at M hc;subst b1;have v1:wr.cell? ⟨V,1,none⟩=some (.slice (some ⟨N,S,none⟩) (grown all d k).length a):=cell_in g.v rfl;clear g M hc;rw[j] at v1;have ei:((all.length+k:Nat):Int)-(d:Int)=((all.length+k-d:Nat):Int):=by omega
      have b6:(0:Int)≤((all.length+k-d:Nat):Int):=by omega
      have b7:((all.length+k-d:Nat):Int)<((all.length+k:Nat):Int):=by omega
      have a6:all.length+k+1≤70368744177664:=by omega
      generalize(grown all d k).getD ((grown all d k).length-d) 0=c at*;generalize all.length+k-d=ix at*;generalize all.length+k=gn at*;rw[j] at q E r;rw[s] at A r;have a2:=Hd j;have a0:=Hd s;rw[s];clear j s;go_wp2_with fail;go_quiet (fail);have I:=Hd ((R0 wr).drewN nq);clear v1 a7;generalize wr.drewN nq=T at*;have J:=q.out.keep I.out;have v1:T.cell? ⟨V,1,none⟩=some (.slice (some ⟨N,S,none⟩) gn a):=cell_in J.v rfl;have y:=Hd ((R0 T).alloc (.cells #[.int .u8 (c.toNat:Int)] 5));have x:=Hd (J.keep y.out);have U:=Hd (rd_one T _ rfl c _ rfl);clear J
      go_wp2_with (at_builtin
                   first
                   | (refine append_mine rfl _ _ rfl (w0:={ (T.alloc (.cells #[.int .u8 (c.toNat : Int)] 5)) with heap:=#[] }) (.slice (some ⟨N,S,none⟩) gn a) (.slice (some ⟨T.heap.size,0,none⟩) 1 1) (grown all d k) [c] rfl rfl (any_mine x.out.own) (Nat.zero_le _) U.out (by rw [a2.out]; exact a6) ?_
                      intro p5 f n5 Q a9 Z b l;have B:=b.keep x.out.v (fun e=>x.out.ne V e rfl);have z1:Q.cell? ⟨V,1,none⟩=some (.slice (some ⟨N,S,none⟩) gn a):=cell_in B rfl;have z2:=frozen_in B 1;have W:=Hd (fun v7 w7=>copy_step (v7:=v7) (w7:=w7) q.out z.out E.out A.out r.out a1.out a4.out a5 (I.out.trans y.out) Z.own b l ((R0 (Q.setCell ⟨V,1,none⟩ (.slice p5 n5 f))).alloc (.cells #[.int .u8 (c.toNat:Int)] 5)));have a3:=Hd (W.out (.slice none 0 0) Q).1;have X:Hid (w.heap.size≤((Q.setCell ⟨V,1,none⟩ (.slice p5 n5 f)).alloc (.cells #[.int .u8 (c.toNat:Int)] 5)).heap.size):=Hd (by have:=z.out.size;have:=I.out.size;have:=y.out.size;have:=b.size;simp;omega);have F:=Hd (rd_one (Q.setCell ⟨V,1,none⟩ (.slice p5 n5 f)) Q.heap.size (by simp) c _ rfl);clear a9 Z b l B)
                   | (refine append_mine rfl _ _ rfl (w0:=w) (.slice p8 k C) (.slice (some ⟨Q.heap.size,0,none⟩) 1 1) (copied all d k) [c] rfl rfl a3.out X.out F.out (by rw [a0.out]; simp only [List.length_singleton]; omega) ?_
                      intro p7 b2 n7 w7 b0 G u o;have HC:=Hd ((W.out _ _).2 G u o);clear b0 G u o))
      go_roundw;case rel=>exact⟨k+1,by omega,by go_num,HC.out⟩
      case measure=>simp[intOf];omega
    · obtain rfl:k=n:=by omega
      go_wp2_with fail;go_ret2;exact⟨_,rfl,_,q.out,z.out,E.out,A.out,r.out⟩
end Rf
namespace Rf
open Mem Rc Prob St Lz Win
theorem rsize_eq(y:Sy)(a:y.Ok):St.size y=if fe y=0 then(if y.kind=2∨y.kind=3 then y.len else 1) else 0:=by
 unfold St.size;rw[fe_next _ _ a]
theorem rsize_calls(y:Sy)(m:y.Ok)(w:World):Calls Tryz.prog 157 #[.agg y.cells] w fun e x=>e=.returned (.int .i64 (St.size y))∧Fr (fun _=>False) w x:=by
 have g:=rsize_eq y m;have f:=fun W=>Hd (rformed_calls y m W);obtain⟨kind,a,c,dist⟩:=y;have r:=m.kind;simp only at r g;generalize St.size ⟨kind,a,c,dist⟩=sz at*;generalize fe ⟨kind,a,c,dist⟩=er at*;unfold Sy.cells at*;simp only at f ⊢;have n:=heap_alloc_new w (.cells #[.int .i64 kind,.int .u8 a,.int .i64 c,.int .i64 dist] 110);have o:=Hd ((R0 w).alloc (.cells #[.int .i64 kind,.int .u8 a,.int .i64 c,.int .i64 dist] 110));obtain⟨p,t,q,u⟩:=cs4 n rfl rfl rfl rfl;have s:=Hd n;have k:=Hd g;clear n g m;by_cases l:er=0
 ·have v:((er:Int) !=0)=false:=by simp[l]
  rcases r with rfl|rfl|rfl|rfl;all_goals
   go_enter Tryz.func157,Tryz.ntmps157;go_wp2_with fail;refine(f _).out.mono ?_;rintro e z ⟨rfl,b⟩;have j:=b.keep s.out (fun h=>h);clear p t q u;have p:=cell_in (i:=0) j rfl;have q:=cell_in (i:=2) j rfl;have d:=Hd (o.out.trans b);clear b j;go_wp2_with fail;go_ret;refine⟨?_,d.out⟩;rw[k.out,if_pos l];rfl
 ·have v:((er:Int) !=0)=true:=by simp[l]
  go_enter Tryz.func157,Tryz.ntmps157;go_wp2_with fail;refine(f _).out.mono ?_;rintro e z ⟨rfl,b⟩;have d:=Hd (o.out.trans b);clear b;go_wp2_with fail;go_ret;exact⟨by rw[k.out,if_neg l];rfl,d.out⟩
theorem rdist_calls(s:S)(y:Sy)(p:y.Ok)(w:World):Calls Tryz.prog 156 #[.agg s.cells,.agg y.cells] w fun e v=>e=.returned (.int .i64 (distOf s y))∧Fr (fun _=>False) w v:=by
 obtain⟨n,a,b,c,d⟩:=s;obtain⟨kind,g,k,dist⟩:=y;have r:=p.kind;have l:=p.dist;simp only at r l;unfold S.cells Sy.cells distOf repAt;simp only;obtain⟨u,_,j,f,_⟩:=Rc.three w (.cells #[.int .i64 n,.int .i64 a,.int .i64 b,.int .i64 c,.int .i64 d] 103) (.cells #[.int .i64 kind,.int .u8 g,.int .i64 k,.int .i64 dist] 110) (.cells #[] 110);clear u j f;have q:=(R0 w).alloc (.cells #[.int .i64 n,.int .i64 a,.int .i64 b,.int .i64 c,.int .i64 d] 103);have o:=(R0 (w.alloc (.cells #[.int .i64 n,.int .i64 a,.int .i64 b,.int .i64 c,.int .i64 d] 103))).alloc (.cells #[.int .i64 kind,.int .u8 g,.int .i64 k,.int .i64 dist] 110);have j:=o.keep (heap_alloc_new w (.cells #[.int .i64 n,.int .i64 a,.int .i64 b,.int .i64 c,.int .i64 d] 103)) (fun h=>h);have f:=heap_alloc_new (w.alloc (.cells #[.int .i64 n,.int .i64 a,.int .i64 b,.int .i64 c,.int .i64 d] 103)) (.cells #[.int .i64 kind,.int .u8 g,.int .i64 k,.int .i64 dist] 110);simp only[World.size_alloc] at f;have m:=Hd (q.trans o);obtain⟨x,z,A,B,C⟩:=cs5 j rfl rfl rfl rfl rfl;have D:=cell_in (i:=0) f rfl;have E:=cell_in (i:=3) f rfl;clear j f q o p;rcases r with rfl|rfl|rfl|rfl
 ·clear l
  go_enter Tryz.func156,Tryz.ntmps156;go_wp2_with fail;go_ret;exact⟨rfl,m.out⟩
 ·clear l
  go_enter Tryz.func156,Tryz.ntmps156;go_wp2_with fail;go_ret;exact⟨rfl,m.out⟩
 ·have t:=l rfl
  clear l;obtain rfl|rfl|rfl|rfl:dist=0∨dist=1∨dist=2∨dist=3:=by omega
  all_goals
   go_enter Tryz.func156,Tryz.ntmps156;go_wp2_with fail;go_ret;exact⟨rfl,m.out⟩
 ·clear l
  go_enter Tryz.func156,Tryz.ntmps156;go_wp2_with fail;go_ret;exact⟨rfl,m.out⟩
end Rf
namespace Rf
open Mem Rc Prob St Lz Win
theorem five_fr(w:World)(z:Nat)(a b c d e:Value):Fr (fun k=>k=z) w (((((w.setCell ⟨z,0,none⟩ a).setCell ⟨z,1,none⟩ b).setCell ⟨z,2,none⟩ c).setCell ⟨z,3,none⟩ d).setCell ⟨z,4,none⟩ e):=
 ((((Fr.one w z 0 a).trans (Fr.one _ z 1 b)).trans (Fr.one _ z 2 c)).trans (Fr.one _ z 3 d)).trans (Fr.one _ z 4 e)
structure AppOk(V size:Nat)(av:Value)(all bytes:List UInt8)(v:Value)(w w':World):Prop where
 ex:∃av2,WAt w' V av2 size (all++bytes)∧(∀k,av2.ownBlock=some k→av.ownBlock=some k∨w.heap.size≤k)∧∀k,v.ownBlock=some k→av2.ownBlock≠some k
 fr:Fr (fun k=>k=V∨av.ownBlock=some k) w w'
 mine:Mine w w' v bytes
def AppPost(V size:Nat)(av:Value)(all:List UInt8)(s:S)(y:Sy)(w:World)(e:Ending)(w':World):Prop:=
 if(St.apply size all s y).1=0 then∃v,e=.returned (.tuple #[v,.agg (St.apply size all s y).2.2.cells,.int .i64 0])∧AppOk V size av all (St.apply size all s y).2.1 v w w'
 else e=.returned (.tuple #[.slice none 0 0,.agg S.zero.cells,.int .i64 (St.apply size all s y).1])∧Fr (fun _=>False) w w'
theorem rd_list1{w:World}(c:UInt8)(x:Int)(b:x=(c.toNat:Int)):Mine w (w.alloc (.cells #[.int .u8 x] 5)) (.slice (some ⟨w.heap.size,0,none⟩) 1 1) [c]:=by
 subst b;exact⟨⟨rfl,.inr ⟨w.heap.size,1,_,rfl,Nat.zero_le _,heap_alloc_new w _,by simp,by simp[maxLen],by simp,by simp[bvs,bv]⟩⟩,fun k a=>by simp only[Value.ownBlock,Option.some.injEq] at a;omega⟩
theorem AppOk.fin{V size z:Nat}{av v:Value}{all bytes:List UInt8}{w g m wc:World}(h:AppOk V size av all bytes v g m)(i:Fr (fun _=>False) w g)(u:w.heap.size≤z)(r:z<g.heap.size)(s:V<w.heap.size)(d:∀k,av.ownBlock=some k→k<w.heap.size)(f:Fr (fun k=>k=z) m wc):AppOk V size av all bytes v w wc:=by
 obtain⟨⟨b,o,j,p⟩,l,c⟩:=h;have t:=i.size;have q:=l.size;have n:∀k,b.ownBlock=some k→¬k=z:=fun k a e=>by
  rcases j k a with h|h
  ·have:=d k h
   omega
  ·omega
 refine⟨⟨b,o.step f (fun e=>by omega) n,fun k a=>(j k a).imp id (fun h=>by omega),p⟩,?_,⟨(c.step f (fun k a e=>by have:=c.new k a;omega)).own,fun k a=>by have:=c.new k a;omega⟩⟩;exact((lift (S:=fun k=>k=V∨av.ownBlock=some k) i).trans l).trans' f (fun k a e=>by omega)
theorem AppOk.fin0{V size:Nat}{av v:Value}{all bytes:List UInt8}{w a b:World}(h:AppOk V size av all bytes v a b)(c:Fr (fun _=>False) w a):AppOk V size av all bytes v a b∧Fr (fun _=>False) w a:=⟨h,c⟩
theorem AppOk.of_put{V size:Nat}{av:Value}{all:List UInt8}{c:UInt8}{x:Int}{w w':World}(j:x=(c.toNat:Int))(b:∀k,av.ownBlock=some k→k<w.heap.size)(l:V<w.heap.size)(h:PutW V size av all [c] (w.alloc (.cells #[.int .u8 x] 5)) w'):AppOk V size av all [c] (.slice (some ⟨w.heap.size,0,none⟩) 1 1) w w':=by
 obtain⟨d,i,f,g⟩:=h;refine⟨⟨d,i,fun k a=>(g k a).imp id (fun h=>by simp at h;omega),fun k a e=> ?_⟩,(lift ((R0 w).alloc (.cells #[.int .u8 x] 5))).trans f,(rd_list1 c x j).step f (fun k a e=> ?_)⟩
 ·simp only[Value.ownBlock,Option.some.injEq] at a
  subst a;rcases g _ e with h|h
  ·have:=b _ h
   omega
  ·simp at h
   omega
 ·simp only[Value.ownBlock,Option.some.injEq] at a
  subst a;rcases e with e|e
  ·omega
  ·have:=b _ e
   omega
theorem AppOk.of_copy{V size d n:Nat}{av v:Value}{all:List UInt8}{w w':World}(h:CopyR V size d av all w n v w'):AppOk V size av all (copied all d n) v w w':=by
 obtain⟨a,b,c,e,f,g⟩:=h;rw[grown_eq] at b;exact⟨⟨a,b,e,g⟩,c,f⟩
set_option maxRecDepth 100000 in
theorem rapplyz_in(V size:Nat)(av:Value)(all:List UInt8)(s:S)(hs:s.Ok)(y:Sy)(hy:y.Ok)(w:World)(h:WAt w V av size all)(d5:all.length+273≤70368744177664)(x u:Int)
 (b4:∀W,Hid (Calls Tryz.prog 138 #[.agg s.cells,.agg #[.int .i64 y.kind,.int .u8 y.byte,.int .i64 x,.int .i64 u]] W fun e w'=>e=.returned (.tuple #[.agg (s.next y).2.cells,.int .i64 (s.next y).1])∧Fr (fun _=>False) W w'))
 (K:∀W,Hid (Calls Tryz.prog 157 #[.agg #[.int .i64 y.kind,.int .u8 y.byte,.int .i64 x,.int .i64 u]] W fun e w'=>e=.returned (.int .i64 (St.size y))∧Fr (fun _=>False) W w'))
 (a4:∀W,Hid (Calls Tryz.prog 156 #[.agg s.cells,.agg #[.int .i64 y.kind,.int .u8 y.byte,.int .i64 x,.int .i64 u]] W fun e w'=>e=.returned (.int .i64 (distOf s y))∧Fr (fun _=>False) W w')):
 Calls Tryz.prog 89 #[ptr V,.agg s.cells,.agg #[.int .i64 y.kind,.int .u8 y.byte,.int .i64 x,.int .i64 u]] w (AppPost V size av all s y w):=by
 have M:=fe_next s y hy;have c6:=rsize_eq y hy;obtain⟨O,g⟩:∃O,O=St.apply size all s y:=⟨_,rfl⟩;obtain⟨post,A⟩:∃post,post=AppPost V size av all s y w:=⟨_,rfl⟩;have b5:Hid (∀v w',O.1=0→AppOk V size av all O.2.1 v w w'→post (.returned (.tuple #[v,.agg O.2.2.cells,.int .i64 0])) w'):=Hd (fun v w' h0 h1=>by
  rw[A];unfold AppPost;rw[←g,if_pos h0];exact⟨v,rfl,h1⟩)
 have b6:Hid (∀w',O.1≠0→Fr (fun _=>False) w w'→post (.returned (.tuple #[.slice none 0 0,.agg S.zero.cells,.int .i64 O.1])) w'):=Hd (fun w' h0 h1=>by
  rw[A];unfold AppPost;rw[←g,if_neg h0];exact⟨rfl,h1⟩)
 rw[←A];clear A;unfold St.apply at g;obtain⟨hV,c1⟩:=h.lt;have a9:=hy.kind;have d8:=hy.byte;have c4:lenOfSy y≤273∨y.kind=1∨fe y≠0:=by
  unfold lenOfSy fe;rcases a9 with hk|hk|hk|hk
  ·exact .inr (.inl hk)
  ·by_cases hl:isL y.len
   ·exact .inl (by rw[if_neg (by omega)];exact hl.2)
   ·exact .inr (.inr (by rw[if_neg (by omega),if_pos hk,if_neg (fun h=>hl h.1)];decide))
  ·by_cases hl:isL y.len
   ·exact .inl (by rw[if_neg (by omega)];exact hl.2)
   ·exact .inr (.inr (by rw[if_neg (by omega),if_neg (by omega),if_neg hl];decide))
  ·exact .inl (by rw[if_pos hk];decide)
 have a1:fe y=0→y.kind≠1→St.size y=lenOfSy y:=by
  intro h0 h1;rw[c6,if_pos h0];unfold lenOfSy;rcases a9 with hk|hk|hk|hk
  ·exact absurd hk h1
  ·rw[if_pos (.inl hk),if_neg (by omega)]
  ·rw[if_pos (.inr hk),if_neg (by omega)]
  ·rw[if_neg (by omega),if_pos hk]
 have d6:=S.next_err s y;rw[M] at d6;obtain⟨nx,a8⟩:∃nx,nx=s.next y:=⟨_,rfl⟩;rw[←a8] at g M;have L:∀W,Hid (Calls Tryz.prog 138 #[.agg s.cells,.agg #[.int .i64 y.kind,.int .u8 y.byte,.int .i64 x,.int .i64 u]] W fun e w'=>e=.returned (.tuple #[.agg nx.2.cells,.int .i64 nx.1])∧Fr (fun _=>False) W w'):=by rw[a8];exact b4
 clear b4 a8 c6;generalize d3:distOf s y=dd at*;generalize lenOfSy y=ln at*;generalize St.size y=sz at*;generalize fe y=er at*;obtain⟨ne,Z,N,R,X,Y⟩:=nx;simp only at g M L;subst M;obtain⟨n,a,b,c,d⟩:=s;obtain⟨kind,l,e2,dist⟩:=y;unfold S.cells at*;simp only at g L K a4 a9 d8 c4 a1 ⊢;have HW:=Hd h;have P:=Hd g;have J:=Hd c1;clear h g c1 hs hy d3;obtain⟨c3,a2,b0,b1,b2⟩:=Rc.three w (.cells #[.int .i64 n,.int .i64 a,.int .i64 b,.int .i64 c,.int .i64 d] 103) (.cells #[.int .i64 kind,.int .u8 l,.int .i64 x,.int .i64 u] 110) (.cells #[.int .i64 0,.int .i64 0,.int .i64 0,.int .i64 0,.int .i64 0] 103);have b3:=Hd c3;obtain⟨q0,q1,q2,q3,q4⟩:=cs5 b0 rfl rfl rfl rfl rfl;obtain⟨y0,y1,y2,y3⟩:=cs4 b1 rfl rfl rfl rfl;have HB:=Hd (And.intro b0 (And.intro b1 b2));clear c3 b0 b1 b2;go_enter Tryz.func89,Tryz.ntmps89;go_wp2_with fail;generalize hz:w.heap.size=z at*;have HZ:=Hd hz;have d1:=Hd a2;clear hz a2;generalize World.alloc (World.alloc (World.alloc w _) _) _=W at*;refine(L _).out.mono ?_;rintro e w1 ⟨rfl,a7⟩;have c7:=heap_alloc_new w1 (.cells #[.int .i64 Z,.int .i64 N,.int .i64 R,.int .i64 X,.int .i64 Y] 103);have I:=a7.trans ((R0 w1).alloc (.cells #[.int .i64 Z,.int .i64 N,.int .i64 R,.int .i64 X,.int .i64 Y] 103));have e1:z+1+1<w1.heap.size:=by have:=d1.out;have:=a7.size;omega
 have e0:V<w1.heap.size:=by omega
 clear q0 q1 q2 q3 q4 y0 y1 y2 y3;have m:=Hd (And.intro (I.keep HB.out.1 (fun h=>h)) (And.intro (I.keep HB.out.2.1 (fun h=>h)) (I.keep HB.out.2.2 (fun h=>h))));have Q:=Hd (b3.out.trans I);have b9:=Hd c7;have c0:=Hd (show z+1+1<(w1.alloc (.cells #[.int .i64 Z,.int .i64 N,.int .i64 R,.int .i64 X,.int .i64 Y] 103)).heap.size from by simp;omega);have c5:(w1.alloc (.cells #[.int .i64 Z,.int .i64 N,.int .i64 R,.int .i64 X,.int .i64 Y] 103)).heap.size=w1.heap.size+1:=by simp
 have b8:=Hd c5;clear c5;have a5:=Hd (HW.out.keep (b3.out.trans I));clear I c7 a7;go_upto_region 2 with fail;generalize c8:w1.heap.size=z9 at*;generalize w1.alloc (.cells #[.int .i64 Z,.int .i64 N,.int .i64 R,.int .i64 X,.int .i64 Y] 103)=w9 at*;clear c8;by_cases G:ne=0
 ·have t0:((ne:Int) !=0)=false:=by simp[G]
  obtain⟨y0,y1⟩:=cs2 m.out.2.1 rfl rfl;subst G;by_cases C:kind=1
  ·subst C
   have g:O=(0,[UInt8.ofNat l],⟨Z,N,R,X,Y⟩):=by rw[P.out,if_pos rfl,if_pos rfl]
   have q:=Hd g;have a6:(l:Int)=((UInt8.ofNat l).toNat:Int):=by
    rw[UInt8.toNat_ofNat'];omega
   have b7:=Hd (put_calls V size av (.slice (some ⟨w9.heap.size,0,none⟩) 1 1) all [UInt8.ofNat l] (w9.alloc (.cells #[.int .u8 (l:Int)] 5)) (a5.out.keep ((R0 _).alloc _)) (rd_one w9 (w9.heap.size) rfl (UInt8.ofNat l) (l:Int) a6) (by simp only [List.length_singleton];omega));have c9:=Hd a6;clear g a6;go_wp2_with fail;refine b7.out.mono ?_;rintro e p ⟨rfl,a0⟩;have F:=AppOk.of_put c9.out (fun k hk=>by have:=J.out k hk;have:=b8.out;omega) (by have:=b8.out;omega) a0;have B:∀{k:Nat}{o:Obj},w9.heap[k]? =some o→z≤k→p.heap[k]? =some o:=fun hk hz=>F.fr.keep hk (fun e=>by
    rcases e with e|e
    ·omega
    ·have:=J.out _ e
     omega)
   have hr:=B m.out.2.2 (by omega);have ht:=B b9.out (by omega);obtain⟨r0,r1,r2,r3,r4⟩:=cs5 hr rfl rfl rfl rfl rfl;obtain⟨u0,u1,u2,u3,u4⟩:=cs5 ht rfl rfl rfl rfl rfl;have rf:=fun i=>frozen_in hr i;have U:=Hd F;clear y0 y1 hr ht B F a0 b7;go_wp2_with fail;go_region;all_goals go_wp2_with fail
   all_goals
    refine bodyPost_ret (v:=.tuple #[.slice (some ⟨w9.heap.size,0,none⟩) 1 1,.agg #[.int .i64 Z,.int .i64 N,.int .i64 R,.int .i64 X,.int .i64 Y],.int .i64 0]) (by simp[results,Tryz.results89,go_sem,r0,r1,r2,r3,r4]) rfl ?_;have t:=b5.out;rw[q.out] at t;exact t _ _ rfl (U.out.fin Q.out (by have:=HZ.out;omega) c0.out (by have:=HZ.out;omega) (fun k hk=>by have:=J.out k hk;have:=HZ.out;omega) ((five_fr _ (z+1+1) _ _ _ _ _)).drew)
  ·have d9:(0:Nat)=0:=rfl
   have d7:=a1 rfl C;have d4:ln≤273:=by rcases c4 with h|h|h;exact h;exact absurd h C;exact absurd rfl h
   subst d7;have H:=Hd (show∀w':World,Fr (fun _=>False) w9 w'→w'.cell? ⟨z,0,none⟩=some (.int .i64 n)∧w'.cell? ⟨z,1,none⟩=some (.int .i64 a)∧w'.cell? ⟨z,2,none⟩=some (.int .i64 b)∧w'.cell? ⟨z,3,none⟩=some (.int .i64 c)∧w'.cell? ⟨z,4,none⟩=some (.int .i64 d)∧w'.cell? ⟨z+1,0,none⟩=some (.int .i64 kind)∧w'.cell? ⟨z+1,1,none⟩=some (.int .u8 l)∧w'.cell? ⟨z+1,2,none⟩=some (.int .i64 x)∧w'.cell? ⟨z+1,3,none⟩=some (.int .i64 u) from fun w' h=>⟨cell_in (i:=0) (h.keep m.out.1 (fun h=>h)) rfl,cell_in (i:=1) (h.keep m.out.1 (fun h=>h)) rfl,cell_in (i:=2) (h.keep m.out.1 (fun h=>h)) rfl,cell_in (i:=3) (h.keep m.out.1 (fun h=>h)) rfl,cell_in (i:=4) (h.keep m.out.1 (fun h=>h)) rfl,cell_in (i:=0) (h.keep m.out.2.1 (fun h=>h)) rfl,cell_in (i:=1) (h.keep m.out.2.1 (fun h=>h)) rfl,cell_in (i:=2) (h.keep m.out.2.1 (fun h=>h)) rfl,cell_in (i:=3) (h.keep m.out.2.1 (fun h=>h)) rfl⟩);have r:=Hd (R0 w9).drew;have E:=Hd (H.out _ r.out);have tk:((kind:Int)==1)=false:=by simp;omega
   by_cases D:1≤dd∧dd≤min size all.length
   ·have g:O=(0,copied all dd sz,⟨Z,N,R,X,Y⟩):=by rw[P.out,if_pos rfl,if_neg C,if_pos D]
    have q:=Hd g;have a3:=Hd (show∀w':World,Fr (fun _=>False) w9 w'→Calls Tryz.prog 155 #[ptr V,.int .i64 dd,.int .i64 sz] w' _ from fun w' h=>copy_calls V size dd sz av all w' (a5.out.keep h) D d4 (by omega));clear g D C;go_wp2_with fail;go_region_held3 (fun w'=>w'.cell? ⟨z,0,none⟩=some (.int .i64 n)∧w'.cell? ⟨z,1,none⟩=some (.int .i64 a)∧w'.cell? ⟨z,2,none⟩=some (.int .i64 b)∧w'.cell? ⟨z,3,none⟩=some (.int .i64 c)∧w'.cell? ⟨z,4,none⟩=some (.int .i64 d)∧w'.cell? ⟨z+1,0,none⟩=some (.int .i64 kind)∧w'.cell? ⟨z+1,1,none⟩=some (.int .u8 l)∧w'.cell? ⟨z+1,2,none⟩=some (.int .i64 x)∧w'.cell? ⟨z+1,3,none⟩=some (.int .i64 u)) (first|with_reducible exact E.out) ((first
    | (go_at_call 156
       with_reducible refine(a4 _).out.mono ?_
       rintro e wc ⟨rfl,f⟩;have r:=Hd (r.out.trans f);have E:=Hd (H.out _ r.out);clear f)
    | (go_at_call 157
       with_reducible refine(K _).out.mono ?_
       rintro e wc ⟨rfl,f⟩;have r:=Hd (r.out.trans f);have E:=Hd (H.out _ r.out);clear f)
    | (go_at_call 155
       with_reducible refine(a3.out _ r.out).mono ?_
       rintro e p ⟨v,rfl,c2⟩;have F:=AppOk.of_copy c2;have B:∀{k:Nat}{o:Obj},w9.heap[k]? =some o→z≤k→p.heap[k]? =some o:=fun hk hz=>F.fr.keep (r.out.keep hk (fun h=>h)) (fun e=>by
        rcases e with e|e
        ·omega
        ·have:=J.out _ e
         omega)
       have j:=Hd (And.intro (B m.out.1 (Nat.le_refl _)) (And.intro (B m.out.2.1 (by omega)) (And.intro (B m.out.2.2 (by omega)) (B b9.out (by omega)))));have U:=Hd (F.fin0 (Q.out.trans r.out));have d2:=Hd (Nat.lt_of_lt_of_le c0.out r.out.size);have E:=Hd (show p.cell? ⟨z,0,none⟩=some (.int .i64 n)∧p.cell? ⟨z,1,none⟩=some (.int .i64 a)∧p.cell? ⟨z,2,none⟩=some (.int .i64 b)∧p.cell? ⟨z,3,none⟩=some (.int .i64 c)∧p.cell? ⟨z,4,none⟩=some (.int .i64 d)∧p.cell? ⟨z+1,0,none⟩=some (.int .i64 kind)∧p.cell? ⟨z+1,1,none⟩=some (.int .u8 l)∧p.cell? ⟨z+1,2,none⟩=some (.int .i64 x)∧p.cell? ⟨z+1,3,none⟩=some (.int .i64 u) from⟨cell_in (i:=0) j.out.1 rfl,cell_in (i:=1) j.out.1 rfl,cell_in (i:=2) j.out.1 rfl,cell_in (i:=3) j.out.1 rfl,cell_in (i:=4) j.out.1 rfl,cell_in (i:=0) j.out.2.1 rfl,cell_in (i:=1) j.out.2.1 rfl,cell_in (i:=2) j.out.2.1 rfl,cell_in (i:=3) j.out.2.1 rfl⟩);clear F B c2)))
    all_goals
     obtain⟨r0,r1,r2,r3,r4⟩:=cs5 j.out.2.2.1 rfl rfl rfl rfl rfl;obtain⟨u0,u1,u2,u3,u4⟩:=cs5 j.out.2.2.2 rfl rfl rfl rfl rfl;have rf:=fun i=>frozen_in j.out.2.2.1 i;clear y0 y1
    all_goals go_wp2_with fail
    all_goals go_region
    all_goals go_wp2_with fail
    all_goals
     refine bodyPost_ret (v:=.tuple #[v,.agg #[.int .i64 Z,.int .i64 N,.int .i64 R,.int .i64 X,.int .i64 Y],.int .i64 0]) (by simp[results,Tryz.results89,go_sem,r0,r1,r2,r3,r4]) rfl ?_;have t:=b5.out;rw[q.out] at t;exact t _ _ rfl (U.out.1.fin U.out.2 (by have:=HZ.out;omega) d2.out (by have:=HZ.out;omega) (fun k hk=>by have:=J.out k hk;have:=HZ.out;omega) ((five_fr _ (z+1+1) _ _ _ _ _)).drew)
   ·have g:O=(7,[],.zero):=by rw[P.out,if_pos rfl,if_neg C,if_neg D]
    have q:=Hd g;have a3:=Hd (show∀w':World,Fr (fun _=>False) w9 w'→Calls Tryz.prog 155 #[ptr V,.int .i64 dd,.int .i64 sz] w' _ from fun w' h=>copy_bad V size dd sz av all w' (a5.out.keep h) (.inl D));clear g D C;go_wp2_with fail;go_region_held3 (fun w'=>w'.cell? ⟨z,0,none⟩=some (.int .i64 n)∧w'.cell? ⟨z,1,none⟩=some (.int .i64 a)∧w'.cell? ⟨z,2,none⟩=some (.int .i64 b)∧w'.cell? ⟨z,3,none⟩=some (.int .i64 c)∧w'.cell? ⟨z,4,none⟩=some (.int .i64 d)∧w'.cell? ⟨z+1,0,none⟩=some (.int .i64 kind)∧w'.cell? ⟨z+1,1,none⟩=some (.int .u8 l)∧w'.cell? ⟨z+1,2,none⟩=some (.int .i64 x)∧w'.cell? ⟨z+1,3,none⟩=some (.int .i64 u)) (first|with_reducible exact E.out) ((first
    | (go_at_call 156
       with_reducible refine(a4 _).out.mono ?_
       rintro e wc ⟨rfl,f⟩;have r:=Hd (r.out.trans f);have E:=Hd (H.out _ r.out);clear f)
    | (go_at_call 157
       with_reducible refine(K _).out.mono ?_
       rintro e wc ⟨rfl,f⟩;have r:=Hd (r.out.trans f);have E:=Hd (H.out _ r.out);clear f)
    | (go_at_call 155
       with_reducible refine(a3.out _ r.out).mono ?_
       rintro e p ⟨rfl,f⟩;have r:=Hd (r.out.trans f);have E:=Hd (H.out _ r.out);clear f)))
    all_goals
     have hr:=r.out.keep m.out.2.2 (fun h=>h);obtain⟨r0,r1,r2,r3,r4,rf⟩:=cf5 hr rfl rfl rfl rfl rfl;clear y0 y1 hr
    all_goals go_wp2_with fail
    all_goals
     refine bodyPost_ret (v:=.tuple #[.slice none 0 0,.agg #[.int .i64 0,.int .i64 0,.int .i64 0,.int .i64 0,.int .i64 0],.int .i64 7]) (by simp[results,Tryz.results89,go_sem,r0,r1,r2,r3,r4]) rfl ?_;have t:=b6.out;rw[q.out] at t;exact t _ (by decide) ((Q.out.trans r.out).trans' (T:=fun k=>k=z+1+1) (five_fr _ (z+1+1) _ _ _ _ _) (fun k hk e=>by have:=HZ.out;omega))
 ·have t0:((ne:Int) !=0)=true:=by simp[G]
  have g:O=(ne,[],.zero):=by rw[P.out,if_neg G]
  have q:=Hd g;have d0:=Hd G;obtain⟨r0,r1,r2,r3,r4,rf⟩:=cf5 m.out.2.2 rfl rfl rfl rfl rfl;clear g G;go_wp2_with fail;refine bodyPost_ret (v:=.tuple #[.slice none 0 0,.agg #[.int .i64 0,.int .i64 0,.int .i64 0,.int .i64 0,.int .i64 0],.int .i64 ne]) (by simp[results,Tryz.results89,go_sem,r0,r1,r2,r3,r4]) rfl ?_;have t:=b6.out;rw[q.out] at t;refine t _ d0.out (Q.out.trans' (T:=fun k=>k=z+1+1) (five_fr _ (z+1+1) _ _ _ _ _) (fun k hk e=>by have:=HZ.out;omega))
theorem rapply_calls(V size:Nat)(av:Value)(all:List UInt8)(s:S)(c:s.Ok)(y:Sy)(b:y.Ok)(w:World)(h:WAt w V av size all)(a:all.length+273≤70368744177664):
 Calls Tryz.prog 89 #[ptr V,.agg s.cells,.agg y.cells] w (AppPost V size av all s y w):=
 rapplyz_in V size av all s c y b w h a y.len y.dist (fun W=>Hd (rnext_calls s c y b W)) (fun W=>Hd (rsize_calls y b W)) (fun W=>Hd (rdist_calls s y b W))
end Rf
namespace Rf
open Mem Rc Prob St Lz Win
theorem rdistz_calls(s:S)(k:Int)(q:k=1∨k=4)(f:Nat)(j dist:Int)(w:World):Calls Tryz.prog 156 #[.agg s.cells,.agg #[.int .i64 k,.int .u8 f,.int .i64 j,.int .i64 dist]] w fun e r=>e=.returned (.int .i64 s.r0)∧Fr (fun _=>False) w r:=by
 obtain⟨n,a,b,c,d⟩:=s;unfold S.cells;simp only;have o:=(R0 w).alloc (.cells #[.int .i64 n,.int .i64 a,.int .i64 b,.int .i64 c,.int .i64 d] 103);have m:=(R0 (w.alloc (.cells #[.int .i64 n,.int .i64 a,.int .i64 b,.int .i64 c,.int .i64 d] 103))).alloc (.cells #[.int .i64 k,.int .u8 f,.int .i64 j,.int .i64 dist] 110);have l:=m.keep (heap_alloc_new w (.cells #[.int .i64 n,.int .i64 a,.int .i64 b,.int .i64 c,.int .i64 d] 103)) (fun h=>h);have g:=heap_alloc_new (w.alloc (.cells #[.int .i64 n,.int .i64 a,.int .i64 b,.int .i64 c,.int .i64 d] 103)) (.cells #[.int .i64 k,.int .u8 f,.int .i64 j,.int .i64 dist] 110);simp only[World.size_alloc] at g;have p:=Hd (o.trans m);obtain⟨t,u,v,x,y⟩:=cs5 l rfl rfl rfl rfl rfl;have z:=cell_in (i:=0) g rfl;have A:=cell_in (i:=3) g rfl;clear l g o m;rcases q with rfl|rfl;all_goals
  go_enter Tryz.func156,Tryz.ntmps156;go_wp2_with fail;go_ret;exact⟨rfl,p.out⟩
def AppPostZ(V size:Nat)(av:Value)(all:List UInt8)(s:S)(z:Sz)(w:World)(e:Ending)(w':World):Prop:=
 if(applyZ size all s z).1=0 then∃v,e=.returned (.tuple #[v,.agg (applyZ size all s z).2.2.cells,.int .i64 0])∧AppOk V size av all (applyZ size all s z).2.1 v w w'
 else e=.returned (.tuple #[.slice none 0 0,.agg S.zero.cells,.int .i64 (applyZ size all s z).1])∧Fr (fun _=>False) w w'
theorem rapplyz_bad(V:Nat)(s:S)(A:s.Ok)(z:Sz)(D:z.byte<256)(q:z.bad≠0)(w:World):
 Calls Tryz.prog 89 #[ptr V,.agg s.cells,.agg z.cells] w fun e U=>e=.returned (.tuple #[.slice none 0 0,.agg S.zero.cells,.int .i64 z.bad])∧Fr (fun _=>False) w U:=by
 have g:=fun W=>Hd (rnextz_calls s A z D W);rw[if_neg q] at g;have t0:((z.bad:Int) !=0)=true:=by simp[q]
 clear q A;generalize z.bad=E at*;obtain⟨n,a,b,c,d⟩:=s;obtain⟨kind,l,r,dist⟩:=z;unfold S.cells Sz.cells S.zero at*;simp only at g ⊢;obtain⟨m,f,t,u,x⟩:=Rc.three w (.cells #[.int .i64 n,.int .i64 a,.int .i64 b,.int .i64 c,.int .i64 d] 103) (.cells #[.int .i64 kind,.int .u8 l,.int .i64 r,.int .i64 dist] 110) (.cells #[.int .i64 0,.int .i64 0,.int .i64 0,.int .i64 0,.int .i64 0] 103);have o:=Hd m;obtain⟨G,J,K,L,M⟩:=cs5 t rfl rfl rfl rfl rfl;obtain⟨X,Y,Z,y3⟩:=cs4 u rfl rfl rfl rfl;have H:=Hd x;clear m t u x;go_enter Tryz.func89,Tryz.ntmps89;go_wp2_with fail;generalize B:w.heap.size=z at*;have I:=Hd B;have C:=Hd f;clear B f;generalize World.alloc (World.alloc (World.alloc w _) _) _=W at*;refine(g _).out.mono ?_;rintro e F ⟨rfl,i⟩;have j:=(R0 F).alloc (.cells #[.int .i64 0,.int .i64 0,.int .i64 0,.int .i64 0,.int .i64 0] 103);have y:=(i.trans j).keep H.out (fun h=>h);have p:=Hd (o.out.trans (i.trans j));clear G J K L M X Y Z y3 i j;obtain⟨N,O,P,Q,R,rf⟩:=cf5 y rfl rfl rfl rfl rfl;clear y;go_upto_region 2 with fail;generalize F.alloc (.cells #[.int .i64 0,.int .i64 0,.int .i64 0,.int .i64 0,.int .i64 0] 103)=w9 at*;go_wp2_with fail;refine bodyPost_ret (v:=.tuple #[.slice none 0 0,.agg #[.int .i64 0,.int .i64 0,.int .i64 0,.int .i64 0,.int .i64 0],.int .i64 E]) (by simp[results,Tryz.results89,go_sem,N,O,P,Q,R]) rfl ?_;exact⟨rfl,p.out.trans' (T:=fun k=>k=z+1+1) (five_fr _ (z+1+1) _ _ _ _ _) (fun k hk e=>by have:=I.out;omega)⟩
theorem rapplyz_calls(V size:Nat)(av:Value)(all:List UInt8)(s:S)(j:s.Ok)(z:Sz)(f:z.byte<256)(w:World)(h:WAt w V av size all)(a:all.length+273≤70368744177664):
 Calls Tryz.prog 89 #[ptr V,.agg s.cells,.agg z.cells] w (AppPostZ V size av all s z w):=by
 unfold AppPostZ applyZ;by_cases c:z.bad=0
 ·rw[if_pos c]
  obtain⟨q,y⟩:=Sz.ok c f;have l:=Sz.same c;have g:=c;obtain⟨k,b,n,d⟩:=z;simp only at l f;by_cases x:k=2∨k=3
  ·obtain⟨t,u,v⟩:=l x
   have o:=rapply_calls V size av all s j _ q w h a;unfold Sy.cells at o;rw[t,u,v] at o;exact o
  ·have p:k=1∨k=4:=by
    unfold Sz.bad at c;simp only at c;split at c
    ·assumption
    ·rw[if_neg (by omega),if_neg (by omega)] at c
     simp at c
   have i:∀W,Calls Tryz.prog 138 #[.agg s.cells,.agg #[.int .i64 k,.int .u8 b,.int .i64 n,.int .i64 d]] W (fun e r=>e=.returned (.tuple #[.agg (s.next (Sz.sy ⟨k,b,n,d⟩)).2.cells,.int .i64 (s.next (Sz.sy ⟨k,b,n,d⟩)).1])∧Fr (fun _=>False) W r):=fun W=>by
    have:=rnextz_calls s j ⟨k,b,n,d⟩ f W;rw[g,if_pos rfl] at this;rw[y s];exact this
   have m:=fun W=>rsizez_calls ⟨k,b,n,d⟩ g f W;rcases p with rfl|rfl
   ·exact rapplyz_in V size av all s j _ q w h a n d (fun W=>Hd (i W)) (fun W=>Hd (m W)) (fun W=>Hd (rdistz_calls s 1 (.inl rfl) b n d W))
   ·exact rapplyz_in V size av all s j _ q w h a n d (fun W=>Hd (i W)) (fun W=>Hd (m W)) (fun W=>Hd (rdistz_calls s 4 (.inr rfl) b n d W))
 ·rw[if_neg c]
  refine(rapplyz_bad V s j z f c w).mono fun e r A=> ?_;simp only;rw[if_neg c];exact A
end Rf
namespace Rf
open Mem Rc Prob St Lz Win
theorem new12_calls(w:World):Calls Tryz.prog 78 #[] w fun e h=>e=.returned (.agg #[.int .i64 0,.int .i64 1,.int .i64 1,.int .i64 1,.int .i64 1])∧Fr (fun _=>False) w h:=by
 have a:=heap_alloc_new w (.cells #[.int .i64 0,.int .i64 1,.int .i64 1,.int .i64 1,.int .i64 1] 103);obtain⟨b,c,d,f,g⟩:=cs5 a rfl rfl rfl rfl rfl;clear a;go_enter Tryz.func78,Tryz.ntmps78;go_wp2_with fail;refine bodyPost_ret (v:=.agg #[.int .i64 0,.int .i64 1,.int .i64 1,.int .i64 1,.int .i64 1]) (by simp[results,Tryz.results78,go_sem,b,c,d,f,g]) rfl ?_;exact⟨rfl,(Fr.refl _ _).alloc _⟩
set_option maxRecDepth 100000 in
theorem make_five(W:World):(Instr.makeSlice 22 (.int .i64 5) (.int .i64 5)).run Tryz.prog W=.ok (.slice (some ⟨W.heap.size,0,none⟩) 5 5) (W.alloc (.cells (madeCells [Value.int .u8 0].toArray 5) 5)):=by
 obtain⟨i,b,d,c,a⟩:=info_parts infoU8;have:=run_make (P:=Tryz.prog) W 22 5 i (.int .u8 0) Tryz.underlying22 b d .i64 .i64 5 5 (by omega) (by omega) (by rw[a];omega) (by omega);rw[this,c];rfl
set_option maxRecDepth 100000 in
theorem new10_calls(size:Nat)(b:1≤size)(c:size≤4294967295)(w:World):Calls Tryz.prog 77 #[.int .i64 size] w fun e a=>e=.returned (.tuple #[ptr w.heap.size,.int .i64 0])∧Fr (fun _=>False) w a∧a.heap[w.heap.size]? =some (.cells #[.int .i64 size,.slice none 0 0] 246 (0,0)):=by
 have d:decide ((size:Int)<1)=false:=by rw[decide_eq_false_iff_not];omega
 have f:decide ((size:Int)>4294967295)=false:=by rw[decide_eq_false_iff_not];omega
 have g:decide ((4294967295:Int)<size)=false:=by rw[decide_eq_false_iff_not];omega
 go_enter Tryz.func77,Tryz.ntmps77;go_wp2_with fail;go_ret2;exact⟨rfl,(Fr.refl _ w).alloc _,heap_alloc_new w _⟩
theorem kV_fresh(l:RL)(c:C)(lc lp pb a:Nat):(((((((((kV l c).setIfInBounds 0 (.int .i64 lc)).setIfInBounds 1 (.int .i64 lp)).setIfInBounds 2 (.int .i64 pb)).setIfInBounds 9 (.map (some a))).setIfInBounds 4 (.int .i64 0)).setIfInBounds 5 (.int .i64 1)).setIfInBounds 6 (.int .i64 1)).setIfInBounds 7 (.int .i64 1)).setIfInBounds 8 (.int .i64 1)=kV {l with M:=a,st:=[]} (c.fresh lc lp pb):=by
 simp[kV,C.fresh,S.new]
theorem kV_9(l:RL)(c:C)(lc lp pb:Nat):((((kV l c).setIfInBounds 0 (.int .i64 lc)).setIfInBounds 1 (.int .i64 lp)).setIfInBounds 2 (.int .i64 pb))[9]? =some (.map (some l.M)):=by simp[kV]
theorem mk_map(W:World):(Instr.makeMap 104 none).run Tryz.prog W=.ok (.map (some W.heap.size)) (W.alloc (.map #[] 0)):=rfl
theorem reset_calls{l:RL}{c:C}{ps:Nat→List Nat}{w:World}(h:Cod w l c ps)(lc lp pb:Nat)(hl:lc+lp≤4)(o:pb≤4):
 Calls Tryz.prog 42 #[ptr l.K,propV lc lp pb] w fun e w'=>e=.returned (.int .i64 0)∧Fr (fun k=>k=l.K) w w'∧∃M',w.heap.size≤M'∧Cod w' {l with M:=M',st:=[]} (c.fresh lc lp pb) (Lz.fresh lc lp):=by
 have O:=heap_alloc_new w (.cells #[.int .i64 lc,.int .i64 lp,.int .i64 pb] 24);have F:=Hd ((R0 w).alloc (.cells #[.int .i64 lc,.int .i64 lp,.int .i64 pb] 24));obtain⟨K,L,N⟩:=cs3 O rfl rfl rfl;have HX:=Hd O;have H:=Hd h;have a2:=lt_of_block h.k;have G:=fun W=>Hd (propsByte_calls lc lp pb hl o W);clear h O;have a3:=mk_map;go_enter Tryz.func42,Tryz.ntmps42;go_wp2_with fail;refine(G _).out.mono ?_;rintro e w2 ⟨rfl,n⟩;have B:=n.keep HX.out (fun h=>h);have t:=Hd (F.out.trans n);have E:=H.out.keep t.out;clear K L N n;obtain⟨K,L,N⟩:=cs3 B rfl rfl rfl;obtain⟨p0,p1,p2,p3,p4,p5,p6,p7,p8,Q,v0,v1⟩:=E.cells;have R:=fun i=>frozen_in E.k i;have H2:=Hd E;clear E B;go_upto_region 5 with fail;have V:=(((Fr.one w2 l.K 0 (.int .i64 lc)).trans (Fr.one _ l.K 1 (.int .i64 lp))).trans (Fr.one _ l.K 2 (.int .i64 pb)));have Z:=set_in (set_in (set_in H2.out.k 0 (.int .i64 lc)) 1 (.int .i64 lp)) 2 (.int .i64 pb);have q:=Hd Z;have u:=Hd (((t.out.mono (T:=fun k=>k=l.K) (fun _ _ h=>h.elim)).trans V));clear V Z p0 p1 p2 p3 p4 p5 p6 p7 p8 Q v0 v1 R K L N;generalize World.setCell (World.setCell (World.setCell w2 _ _) _ _) _ _=w3 at*;have a1:=lt_of_block q.out;have Q:w3.cell? ⟨l.K,9,none⟩=some (.map (some l.M)):=cell_in (i:=9) q.out (kV_9 l c lc lp pb);have R:=frozen_in q.out 9;have f:=(R0 w3).alloc (.map #[] 0);have q9:(w3.alloc (.map #[] 0)).cell? ⟨l.K,9,none⟩=some (.map (some l.M)):=cell_in (i:=9) (f.keep q.out (fun h=>h)) (kV_9 l c lc lp pb);have qf:=frozen_in (f.keep q.out (fun h=>h)) 9;have y:=KM.made w3;have s:=Hd f;have D:=Hd y;clear f y;go_upto_region 6 with fail;have h4:=set_in q.out 9 (.map (some w3.heap.size));have X:=Fr.one w3 l.K 9 (.map (some w3.heap.size));have d:=KM.made (w3.setCell ⟨l.K,9,none⟩ (.map (some w3.heap.size)));have A:(w3.setCell ⟨l.K,9,none⟩ (.map (some w3.heap.size))).heap.size=w3.heap.size:=by simp
 rw[A] at d;have b:=(R0 (w3.setCell ⟨l.K,9,none⟩ (.map (some w3.heap.size)))).alloc (.map #[] 0);have H4:=Hd (b.keep h4 (fun h=>h));have I:=Hd ((u.out.trans X).trans (b.mono (fun _ _ h=>h.elim)));have v:=Hd d;have P:w.heap.size≤w3.heap.size:=u.out.size;clear h4 X d A b Q R q9 qf D s;generalize hm:w3.heap.size=M' at*;generalize World.alloc (World.setCell w3 _ _) _=w4 at*;have U:=Hd (new12_calls w4);go_wp2_with fail;refine U.out.mono ?_;rintro e r ⟨rfl,g⟩;have m:=g.keep H4.out (fun h=>h);have k4:r.cell? ⟨l.K,4,none⟩=some (.int .i64 c.s.num):=cell_in (i:=4) m (by simp[kV]);have k5:r.cell? ⟨l.K,5,none⟩=some (.int .i64 c.s.r0):=cell_in (i:=5) m (by simp[kV]);have k6:r.cell? ⟨l.K,6,none⟩=some (.int .i64 c.s.r1):=cell_in (i:=6) m (by simp[kV]);have k7:r.cell? ⟨l.K,7,none⟩=some (.int .i64 c.s.r2):=cell_in (i:=7) m (by simp[kV]);have k8:r.cell? ⟨l.K,8,none⟩=some (.int .i64 c.s.r3):=cell_in (i:=8) m (by simp[kV]);have kf:=fun i=>frozen_in m i;have J:=Hd (I.out.trans (g.mono (fun _ _ h=>h.elim)));have H5:=Hd m;have x:=Hd (v.out.step g (fun h=>h));clear g m U;go_wp2_with fail;go_ret;have Y:=((((Fr.one r l.K 4 (.int .i64 0)).trans (Fr.one _ l.K 5 (.int .i64 1))).trans (Fr.one _ l.K 6 (.int .i64 1))).trans (Fr.one _ l.K 7 (.int .i64 1))).trans (Fr.one _ l.K 8 (.int .i64 1));have h6:=set_in (set_in (set_in (set_in (set_in H5.out 4 (.int .i64 0)) 5 (.int .i64 1)) 6 (.int .i64 1)) 7 (.int .i64 1)) 8 (.int .i64 1);rw[kV_fresh] at h6;have a:=J.out.trans Y;have z:=x.out.step Y (fun(e:M'=l.K)=>by omega);refine⟨rfl,a,M',P,h6,a.keep H.out.v (fun e=>blk_ne H.out.k H.out.v (by decide) e.symm),own_step H.out.all a (fun k hk e=> ?_),⟨z,by simp,by simp⟩,Has.start _ (fun j hj p o=> ?_),⟨hl,o,S.new_ok⟩,fun j hj=>Lz.fresh_len lc lp j,fun j hj p o=> ?_,H.out.size,H.out.much⟩
 ·obtain⟨a0,hc⟩:=own_block H.out.all hk
  exact blk_ne hc H.out.k (by decide) e
 ·simp only[Lz.fresh,List.mem_replicate] at o
  exact o.2
 ·simp only[Lz.fresh,List.mem_replicate] at o
  omega
end Rf
namespace Rf
open Mem Rc Prob St Lz Win En Ga
theorem wfork_calls(V size:Nat)(av:Value)(all:List UInt8)(w:World)(h:WAt w V av size all)(C:all.length≤70368744177664):
    Calls Tryz.prog 80 #[ptr V] w fun e y=>∃V' av',e=.returned (ptr V')∧Fr (fun _=>False) w y∧WAt y V' av' size all∧w.heap.size≤V'∧∀k,av'.ownBlock=some k→w.heap.size≤k:=by
  obtain⟨p,g,rfl⟩:=own_slice h.own;have B:w.cell? ⟨V,0,none⟩=some (.int .i64 size):=cell_in h.v rfl;have u:w.cell? ⟨V,1,none⟩=some (.slice p all.length g):=cell_in h.v rfl;have s:=Hd (Rd.of_own h.own);have t:=Hd h.v;have z:=Hd (show([]:List UInt8).length+all.length≤70368744177664 by simp only[List.length_nil];omega);clear h C;obtain⟨n,r⟩:∃n,n=all.length:=⟨_,rfl⟩;have D:=Hd r;rw[←r] at u s t;clear r;go_enter Tryz.func80,Tryz.ntmps80
  go_wp2_with (at_builtin
               refine append_mine rfl _ _ rfl (w0:=w) (.slice none 0 0) (.slice p n g) [] all rfl rfl (Mine.nil _ _) (Nat.le_refl _) s.out z.out ?_;intro x a v m l i b d;have o:=Hd i;have A:=Hd l;have c:Fr (fun _=>False) w m:=b.mono (fun k _ e=>by simp[Value.ownBlock] at e);have E:m.cell? ⟨V,0,none⟩=some (.int .i64 size):=cell_in (c.keep t.out (fun h=>h)) rfl;have f:=Hd c;clear l i b d c B u)
  go_ret;have j:=(R0 m).alloc (.cells #[.int .i64 size,.slice x v a] 246);have q:=o.out.keep j;rw[List.nil_append] at q;exact⟨_,.slice x v a,rfl,f.out.trans j,⟨heap_alloc_new m _,q.own⟩,f.out.size,q.new⟩
end Rf
namespace Rf
open Mem Rc Prob St Lz Win
theorem names_len:names.all (fun a=>decide (a.str.length≤40))=true:=by kernel_rfl
theorem name_len{a:Nm}(b:a ∈ names):a.str.length≤40:=by simpa using List.all_eq_true.1 names_len a b
def SetPost(l:RL)(c:C)(ps:Nat→List Nat)(a:Nm)(w:World)(e:Ending)(w':World):Prop:=
 ∃en st',e=.returned (ptr en.b)∧look st' a.str=some en∧Fr (fun k=>k=l.M) w w'∧Cod w' {l with st:=st'} c ps∧∀k,SF l.M st' k→SF l.M l.st k∨w.heap.size≤k
theorem kmF{w:World}{M:Nat}{st:List Ent}(h:KM w M st){k:Nat}{c:Array Value}{t:TypeId}{fr:Nat×Nat}(d:w.heap[k]? =some (.cells c t fr)):¬k=M:=by
 rintro rfl;obtain⟨D,⟨e,a,b,_⟩,_⟩:=h;rw[d] at b;cases b
theorem Set_calls{l:RL}{c:C}{ps:Nat→List Nat}{w:World}(h:Cod w l c ps)(a:Nm)(M:a ∈ names):Calls Tryz.prog 88 #[ptr l.K,bstr a.str] w (SetPost l c ps a w):=by
 have P:=name_len M;have b:=h.sets.km.seek a.str (by simp only[maxLen];omega);have N:=h.has.count;obtain⟨Q,R,S,U,V,W,X,Y,Z,p9,v0,v1⟩:=h.cells;have H:=Hd h;clear h;cases hlk:look l.st a.str with
 |some en=>
   rw[hlk] at b;simp only at b;have t:=Hd hlk;clear hlk;go_enter Tryz.func88,Tryz.ntmps88;go_wp2_with fail;go_ret;exact⟨en,l.st,rfl,t.out,Fr.refl _ _,H.out,fun k g=>.inl g⟩
 |none=>
   rw[hlk] at b;simp only at b;have t:=Hd hlk;have HN:=Hd (rset_new w);clear hlk;go_enter Tryz.func88,Tryz.ntmps88;go_wp2_with fail;refine HN.out.mono ?_;rintro e G ⟨rfl,r,L⟩;have m:=Hd (H.out.keep r);have I:=Hd r;have O:=Hd L;clear Q R S U V W X Y Z p9 v0 v1 r L b;obtain⟨Q,R,S,U,V,W,X,Y,Z,p9,v0,v1⟩:=m.out.cells;obtain⟨D,q,K,v⟩:=m.out.sets.km;have HD:=Hd K;have F:=Hd v;have z:=key_of a.str (by simp only[maxLen];omega);clear K v;go_wp2_with (first|(at_mapUpdate;refine wpList_mapUpdate_own _ rfl _ _ _ 104 rfl 9 170 (Maps.string_keyed Tryz.underlying9) Tryz.underlying104 _ l.M l.st.length D rfl q (by simp only[maxLen];omega) _ _ (.string a.str) rfl rfl z (.lit (.int .i64 (w.heap.size+1:Nat))) [] (RV_ptr _) ?_;intro w2 i y)|fail);have d:Fr (fun k=>k=l.M) G w2:=(Fr.refl _ G).grown y (fun k g=>.inl (Option.some.inj g).symm);obtain⟨_,n⟩:=O.out.box;obtain⟨_,o⟩:=O.out.row;have B:=kmF m.out.sets.km n;have E:=kmF m.out.sets.km o;clear n o;have u:=O.out.step d B E;have A:KM w2 l.M (l.st++[⟨a.str,w.heap.size+1,w.heap.size,List.replicate 768 1024⟩]):=KM.add (w:=G) ⟨a.str,w.heap.size+1,w.heap.size,List.replicate 768 1024⟩ t.out HD.out F.out i;have j:=m.out.sets.add (e:=⟨a.str,w.heap.size+1,w.heap.size,List.replicate 768 1024⟩) d A u (.inr (fun f hf=>by have:=(H.out.sets.at' f hf).lt;simp only;omega));have p:=m.out.sets' (d.mono (fun k _ g=>.inl g)) j (m.out.has.add M t.out (w.heap.size+1) w.heap.size) m.out.len m.out.okp;have J:=Hd ((I.out.mono (T:=fun k=>k=l.M) (fun _ _ h=>h.elim)).trans d);have s:=Hd p;clear p j A u B E d q i y;go_ret;refine⟨⟨a.str,w.heap.size+1,w.heap.size,List.replicate 768 1024⟩,_,rfl,?_,J.out,s.out,fun k g=> ?_⟩
   ·rw[look_add _ _ _ t.out,if_pos rfl]
   ·rcases g with g|⟨e,x,g⟩
    ·exact .inl (.inl g)
    ·rcases List.mem_append.1 x with x|x
     ·exact .inl (.inr ⟨e,x,g⟩)
     ·obtain rfl:=List.mem_singleton.1 x
      simp only at g;exact .inr (by omega)
end Rf
end Go.Proofs.YtffoddpjfgjelaaGreatDoor
