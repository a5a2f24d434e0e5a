/- Part 24 of 54: lemmas of the last part, each under the conditions that it names. -/
import Derived.OwnWalkIn
import Derived.Shelf.Strconv.Itoa0
import Derived.Lib.ItoaNum
import Derived.Test.YtffoddpjfgjelaaGreatDoorK12
import Derived.Test.YtffoddpjfgjelaaGreatDoorK23
set_option linter.unusedVariables false
set_option linter.unusedSimpArgs false
set_option maxRecDepth 1500
set_option maxHeartbeats 4000000
namespace Go.Proofs.YtffoddpjfgjelaaGreatDoor
open Go.RowKit
namespace Ps
open Mem Win St Fi Pk
def zOf(y:Sy):Sz:=⟨y.kind,y.byte,y.len,y.dist⟩
theorem zOf_sy(y:Sy):(zOf y).sy=y:=by simp[zOf,Sz.sy]
def ParsePost(w:World)(data:List UInt8)(tp fm:Nat)(s:S)(R:List Sy→S→Prop)(e:Ending)(w':World):Prop:=
 Fr (fun _=>False) w w'∧∃v l t,e=.returned (.tuple #[v,.agg t.cells,.int .i64 0])∧Lz.Syms w w' v l∧Pk.Steps data tp l fm s tp t∧t.Ok∧Hid (R l t)
theorem rdlt{w:World}{v:Value}{xs:List UInt8}(h:Rd w v xs)(d:0<xs.length):∀k,v.ownBlock=some k→k<w.heap.size:=by
 obtain⟨p,c,rfl,_,_,e⟩:=h;obtain⟨b,o,rfl,f⟩:=e d;intro k a;simp only[Value.ownBlock,Option.some.injEq] at a;subst a;exact block_lt_of_cell (f 0 (xs[0]) (by simp))
theorem neOf{w:World}{k j:Nat}{e a:Array Value}{t d:TypeId}{fr b:Nat×Nat}(f:w.heap[k]? =some (.cells e t fr))(c:w.heap[j]? =some (.cells a d b))(h:t≠d):¬k=j:=by
 rintro rfl;rw[f] at c;simp only[Option.some.injEq,Obj.cells.injEq] at c;exact h c.2.1
structure GR(w:World)(data:List UInt8)(tp fm dict:Nat)(s:S)(P F M B:Nat)(pv dv:Value)(p:Nat)(t:S)(l:List Sy)(v:Value)(wr:World):Prop where
 fr:Fr (fun k=>w.heap.size≤k) w wr
 st:wr.heap[w.heap.size]? =some (.cells t.cells 84 (0,0))
 rs:wr.heap[w.heap.size+1]? =some (.cells S.zero.cells 84 (0,0))
 sy:Lz.Syms w wr v l
 steps:Pk.Steps data tp l fm s p t
 ok:t.Ok
 bx:wr.heap[P]? =some (.cells #[pv,.int .i64 tp,.int .i64 dict,ptr F] 235 (0,0))
 fi:FiAt wr F data dict p dv M B
 hi:p≤tp
 cnt:l.length+fm≤p
 gr:Px.Greedy data tp dict l fm s p t
theorem GR.keep{w wr b:World}{data:List UInt8}{tp d dict P F M B p:Nat}{s t:S}{pv c v:Value}{l:List Sy}(h:GR w data tp d dict s P F M B pv c p t l v wr)(a:Fr (fun _=>False) wr b):GR w data tp d dict s P F M B pv c p t l v b:=
 ⟨h.fr.trans (a.mono (fun _ _ h=>h.elim)),a.keep h.st (fun h=>h),a.keep h.rs (fun h=>h),h.sy.step a (fun _ _ h=>h),h.steps,h.ok,a.keep h.bx (fun h=>h),h.fi.still a,h.hi,h.cnt,h.gr⟩
theorem GR.pc{w wr:World}{data:List UInt8}{tp c dict P F M B p:Nat}{s t:S}{pv b v:Value}{l:List Sy}(h:GR w data tp c dict s P F M B pv b p t l v wr)(a:Rd w pv data)(d:0<data.length):PcAt wr P tp dict pv (ptr F) data:=
 ⟨h.bx,a.step h.fr (fun k e f=>by
  have:=rdlt a d k e;omega)⟩
theorem GR.tabs{w wr:World}{data:List UInt8}{tp c dict P F M B p:Nat}{s t:S}{pv b v:Value}{l:List Sy}(h:GR w data tp c dict s P F M B pv b p t l v wr)(a:Tabs w):Tabs wr:=a.step h.fr (fun k d=>Nat.le_trans a.size d)
set_option maxRecDepth 100000 in
theorem greedy_calls(pv:Value)(data:List UInt8)(Q tp dict:Nat)(s:S)(w:World)(h:Rd w pv data)(hT:Tabs w)(hs:s.Ok)(k2:Q<tp)(ht:tp≤data.length)(hb:data.length≤1073741824)(j6:1≤dict)(f4:dict≤4294967295):
    Calls Tryz.prog 72 #[pv,.int .i64 Q,.int .i64 tp,.int .i64 dict,.agg s.cells] w (ParsePost w data tp Q s (fun l t=>Px.Greedy data tp dict l Q s tp t)):=by
  have hx:=heap_alloc_new w (.cells s.cells 84);have f7:=((R0 w).alloc (.cells s.cells 84)).alloc (.cells S.zero.cells 84);have i9:=((R0 (w.alloc (.cells s.cells 84))).alloc (.cells S.zero.cells 84)).keep hx (fun h=>h);have g1:=heap_alloc_new (w.alloc (.cells s.cells 84)) (.cells S.zero.cells 84);rw[World.size_alloc] at g1;have HN:=Hd (newPiece_calls pv data Q tp dict _ (h.keep f7) (by omega) ht (by omega) j6 f4);have h3:=Hd (fun(w':World)(hf:Fr (fun _=>False) w w')=>right_calls s hs w' (hT.keep hf));have HR:=Hd h;have HT:=Hd hT;have HS:=Hd hs;have e5:=Hd f7;have f0:=Hd i9;have f1:=Hd g1;obtain⟨pa,pc,rfl,_⟩:=h;obtain⟨sn,s0,s1,s2,s3⟩:=s;simp only[S.cells,S.zero] at HN h3 f0 f1 e5 ⊢;clear hx f7 i9 g1 hT hs;go_enter Tryz.func72,Tryz.ntmps72;go_wp2_with fail;refine HN.out.mono ?_;rintro e w2 ⟨a3,P,F,dv,M,B,rfl,i7,a5,j4,j5⟩;simp only[World.size_alloc] at j4 j5;have d9:=Hd (e5.out.trans a3);have f2:=Hd (a3.keep f0.out (fun h=>h));have h7:=Hd (a3.keep f1.out (fun h=>h));have h0:=Hd i7;have g5:=Hd a5;obtain⟨c0,c1,c2,c3,c4⟩:=cs5 f2.out rfl rfl rfl rfl rfl;clear a3 i7 a5 f0 f1 HN;go_wp2_with fail;refine(h3.out w2 d9.out).mono ?_;rintro e w3 ⟨rfl,I⟩;have H0:=Hd (show GR w data tp Q dict ⟨sn,s0,s1,s2,s3⟩ P F M B (.slice pa data.length pc) dv Q ⟨sn,s0,s1,s2,s3⟩ [] (.slice none 0 0) w3 from
    ⟨(d9.out.trans I).mono (fun _ _ h=>h.elim),I.keep f2.out (fun h=>h),I.keep h7.out (fun h=>h),⟨World.ownsRow_nil _ _ _ _,fun k o=>by simp[Value.ownBlock] at o⟩,⟨rfl,rfl⟩,HS.out,I.keep h0.out.box (fun h=>h),g5.out.still I,by omega,by simp,⟨rfl,rfl⟩⟩)
  clear I f2 h7 h0 g5 d9 e5 c0 c1 c2 c3 c4;go_wp2_with fail;go_loopw [16,17] (fun s16 s17 wr=>∃(p:Nat)(t:S)(l:List Sy),s17=.int .i64 p∧GR w data tp Q dict ⟨sn,s0,s1,s2,s3⟩ P F M B (.slice pa data.length pc) dv p t l s16 wr) (fun _ s17 _=>tp-(intOf s17).toNat);case atStart=>exact⟨Q,_,[],rfl,H0.out⟩
  case round=>
    obtain⟨p,t,l,rfl,hG⟩:=hrel;have j:=Hd hG;clear hG;by_cases f9:p<tp
    · have e6:=Hd (first_calls P F tp dict p M B (.slice pa data.length pc) dv data t wr (j.out.pc HR.out (by omega)) j.out.fi f9 ht (by omega) f4)
      have r:=j.out.st;obtain⟨tn,t0,t1,t2,t3⟩:=t;simp only[S.cells] at r e6;obtain⟨c0,c1,c2,c3,c4⟩:=cs5 r rfl rfl rfl rfl rfl;clear r;go_wp2_with fail;refine e6.out.mono ?_;rintro e w5 ⟨f5,y,rfl,i4,h8⟩;obtain⟨d,b,f,c⟩:=y;have d8:=Hd i4;have i0:=j.out.keep f5;have k3:=f5.size;have i6:=(R0 w5).alloc (.cells #[.int .i64 d,.int .u8 b,.int .i64 f,.int .i64 c] 110);have i3:=heap_alloc_new w5 (.cells #[.int .i64 d,.int .u8 b,.int .i64 f,.int .i64 c] 110);have N:=Hd (i0.keep i6);have d7:=Hd i3
      have j2:=Hd (show∀k,u16.ownBlock=some k→k<wr.heap.size from fun k o=>(World.ownsRow.lt j.out.sy.own k o).2);clear i6 i4 f5 i0 e6 c0 c1 c2 c3 c4;have e7:=Hd (next_calls ⟨tn,t0,t1,t2,t3⟩ N.out.ok ⟨d,b,f,c⟩ d8.out.ok _ (N.out.tabs HT.out));have r:=N.out.st;obtain⟨c0,c1,c2,c3,c4⟩:=cs5 r rfl rfl rfl rfl rfl;obtain⟨d0,d1,d2,d3⟩:=cs4 d7.out rfl rfl rfl rfl;have b7:(S.next ⟨tn,t0,t1,t2,t3⟩ ⟨d,b,f,c⟩).1=0:=by
        rw[h8.out];exact Px.first_next data tp dict p _ f4
      generalize i8:S.next ⟨tn,t0,t1,t2,t3⟩ ⟨d,b,f,c⟩=rr at*;obtain⟨er,Z,V,W,X,Y⟩:=rr;have h5:=Hd i8;simp only[S.cells,Sy.cells] at e7 b7 ⊢;clear r i8 i3
      go_wp2_with fail;refine e7.out.mono ?_;rintro e w7 ⟨rfl,a4⟩;have i1:=N.out.keep a4;have a9:=Hd (a4.keep d7.out (fun h=>h));have f6:=(R0 w7).alloc (.cells #[.int .i64 Z,.int .i64 V,.int .i64 W,.int .i64 X,.int .i64 Y] 84);have g9:=Hd (i1.keep f6);have g3:=Hd (heap_alloc_new w7 (.cells #[.int .i64 Z,.int .i64 V,.int .i64 W,.int .i64 X,.int .i64 Y] 84));have L:=Hd (f6.keep a9.out (fun h=>h));have j9:=a4.size;rw[World.size_alloc] at j9;clear a4 i1 f6 a9 d7 N c0 c1 c2 c3 c4 d0 d1 d2 d3;obtain rfl:er=0:=b7
      · obtain⟨d0,d1,d2,d3⟩:=cs4 L.out rfl rfl rfl rfl
        have G:=(R0 (w7.alloc (.cells #[.int .i64 Z,.int .i64 V,.int .i64 W,.int .i64 X,.int .i64 Y] 84))).alloc (.cells #[.int .i64 d,.int .u8 b,.int .i64 f,.int .i64 c] 110);have a:=Hd (g9.out.keep G);have J:=Hd (G.keep g3.out (fun h=>h));have b0:=Hd (G.keep L.out (fun h=>h));have f3:=heap_alloc_new (w7.alloc (.cells #[.int .i64 Z,.int .i64 V,.int .i64 W,.int .i64 X,.int .i64 Y] 84)) (.cells #[.int .i64 d,.int .u8 b,.int .i64 f,.int .i64 c] 110);rw[World.size_alloc] at f3;have g2:=Hd f3;clear G f3
        go_wp2_with (at_builtin
                     refine Lz.append_sym rfl _ _ rfl (w0:=w) u16 l ⟨d,b,f,c⟩ (w7.heap.size+1) rfl rfl a.out.sy a.out.fr.size g2.out (by have:=a.out.cnt;omega) ?_;intro v9 w9 i2 z j8;have C:∀{k:Nat}{cs:Array Value}{t:TypeId}{fr:Nat×Nat},((w7.alloc (.cells #[.int .i64 Z,.int .i64 V,.int .i64 W,.int .i64 X,.int .i64 Y] 84)).alloc (.cells #[.int .i64 d,.int .u8 b,.int .i64 f,.int .i64 c] 110)).heap[k]? =some (.cells cs t fr)→t≠110→¬u16.ownBlock=some k:=fun{k cs t fr} o ht e=>by
                       obtain⟨a0,T⟩:=Lz.own_block a.out.sy.own e;rw[o] at T;simp only[Option.some.injEq,Obj.cells.injEq] at T;exact ht T.2.1
                     have H:=z.keep a.out.st (C a.out.st (by decide));have d4:=z.keep a.out.rs (C a.out.rs (by decide));have b5:=z.keep a.out.bx (C a.out.bx (by decide));have b4:=z.keep J.out (C J.out (by decide));have b6:=z.keep b0.out (fun e=>by have:=j2.out _ e;omega);have b9:=a.out.fi.keep z (fun k o f9=>by
                       obtain⟨a0,T⟩:=Lz.own_block a.out.sy.own o;exact⟨_,_,_,T,by decide,by decide,by decide⟩)
                     have c7:=a.out.fr.trans' z (fun k o e=>a.out.sy.new k e);obtain⟨n0,n1,n2,n3,n4⟩:=cs5 b4 rfl rfl rfl rfl rfl;have sf:=fun i=>frozen_in H i;obtain⟨q0,q1,q2,q3,q4⟩:=cs5 H rfl rfl rfl rfl rfl;have e8:=Hd i2;have E:=Hd H;have b3:=Hd d4;have a8:=Hd b5;have K:=Hd b6;have b1:=Hd b9;have b2:=Hd c7;clear C H d4 b5 b4 b6 b9 c7 i2 z j8)
        obtain⟨W9,a2⟩:∃W9,W9=(((((w9.setCell ⟨w.heap.size,0,none⟩ (.int .i64 Z)).setCell ⟨w.heap.size,1,none⟩ (.int .i64 V)).setCell ⟨w.heap.size,2,none⟩ (.int .i64 W)).setCell ⟨w.heap.size,3,none⟩ (.int .i64 X)).setCell ⟨w.heap.size,4,none⟩ (.int .i64 Y)):=⟨_,rfl⟩;have g:Fr (fun k=>k=w.heap.size) w9 W9:=by
          rw[a2];exact((((Fr.one _ _ _ _).trans (Fr.one _ _ _ _)).trans (Fr.one _ _ _ _)).trans (Fr.one _ _ _ _)).trans (Fr.one _ _ _ _)
        have d6:W9.heap[w.heap.size]? =some (.cells #[.int .i64 Z,.int .i64 V,.int .i64 W,.int .i64 X,.int .i64 Y] 84 (0,0)):=by
          rw[a2];exact set_in (set_in (set_in (set_in (set_in E.out 0 (.int .i64 Z)) 1 (.int .i64 V)) 2 (.int .i64 W)) 3 (.int .i64 X)) 4 (.int .i64 Y)
        have a6:S.next ⟨tn,t0,t1,t2,t3⟩ ⟨d,b,f,c⟩=(0,⟨Z,V,W,X,Y⟩):=h5.out;have a1:(S.next ⟨tn,t0,t1,t2,t3⟩ ⟨d,b,f,c⟩).1=0:=by rw[a6]
        have q:=d8.out.right a1;have a7:=d8.out.size a1;have D:=S.next_ok j.out.ok a1;have u:=j.out.steps.snoc q;have j7:=q.fits;have f8:=j.out.gr.snoc f9;rw[←h8.out,a6,show max 1 (⟨d,b,f,c⟩:Sy).len=St.size ⟨d,b,f,c⟩ by(have h9:=a7;simp only at h9 ⊢;split at h9<;>omega)] at f8;have j1:=Hd f8;clear f8;rw[a6] at D u;have k1:1≤St.size ⟨d,b,f,c⟩:=by
          have:(1:Int)≤(St.size ⟨d,b,f,c⟩:Nat):=by rw[←a7];split<;>omega
          omega
        have U:=e8.out.step g (fun k o e=>by
          subst e;obtain⟨a0,T⟩:=Lz.own_block e8.out.own o;exact neOf E.out T (by decide) rfl)
        have m:=b1.out.keep g (fun k o _=>by
          subst o;exact⟨_,_,(0,0),E.out,by decide,by decide,by decide⟩)
        have d5:=g.keep b3.out (by omega);have x:=g.keep a8.out (by omega);have R:=g.keep K.out (by have h1:=j.out.fr.size;have h2:=lt_of_block j.out.st;omega);have c8:=b2.out.trans (g.mono (fun k o h=>by omega));have c9:(l++[(⟨d,b,f,c⟩:Sy)]).length+Q≤p+St.size ⟨d,b,f,c⟩:=by
          have:=j.out.cnt;rw[List.length_append,List.length_singleton];omega
        rw[←a2];have j3:=Hd (show∀w',Fr (fun k=>k=F) W9 w'→FiAt w' F data dict (p+St.size ⟨d,b,f,c⟩) dv M B→GR w data tp Q dict ⟨sn,s0,s1,s2,s3⟩ P F M B (.slice pa data.length pc) dv (p+St.size ⟨d,b,f,c⟩) ⟨Z,V,W,X,Y⟩ (l++[⟨d,b,f,c⟩]) v9 w' from fun w' hf a5=>
          ⟨c8.trans (hf.mono (fun k o h=>by omega)),hf.keep d6 (by omega),hf.keep d5 (by omega),U.step hf (fun k o e=>by
            subst e;obtain⟨a0,T⟩:=Lz.own_block U.own o;exact neOf m.box T (by decide) rfl),u,D,hf.keep x (fun e=>neOf x m.box (by decide) e),a5,by omega,c9,j1.out⟩)
        have j0:=Hd m;have h6:=Hd a7;have O:=Hd (show∀w',Fr (fun k=>k=F) W9 w'→(w'.cell? ⟨P,3,none⟩=some (ptr F)∧w'.cell? ⟨w5.heap.size,0,none⟩=some (.int .i64 d)∧w'.cell? ⟨w5.heap.size,1,none⟩=some (.int .u8 b)∧w'.cell? ⟨w5.heap.size,2,none⟩=some (.int .i64 f)∧w'.cell? ⟨w5.heap.size,3,none⟩=some (.int .i64 c)) from fun w' hf=>by
          have h1:=hf.keep x (fun e=>neOf x m.box (by decide) e);have h2:=hf.keep R (fun e=>neOf R m.box (by decide) e);exact⟨cell_in (i:=3) h1 rfl,cell_in (i:=0) h2 rfl,cell_in (i:=1) h2 rfl,cell_in (i:=2) h2 rfl,cell_in (i:=3) h2 rfl⟩)
        have k0:p+St.size ⟨d,b,f,c⟩≤data.length:=by omega
        clear a2 g d6 a6 a1 q a7 D u U m d5 x R c8 c9 n0 n1 n2 n3 n4 q0 q1 q2 q3 q4 sf d0 d1 d2 d3 b2 b1 K a8 b3 E e8 g2 b0 J a L g3 g9 e7 h5;generalize St.size ⟨d,b,f,c⟩=n at*;have HR:=Hd ((R0 W9).drew);have e9:=Hd (O.out _ (HR.out.mono (fun _ _ h=>h.elim)));obtain⟨e0,e1,e2,e3,e4⟩:=O.out W9 (Fr.refl _ _);go_cut [14] (fun s14 wx=>s14=.int .i64 0∧Fr (fun k=>k=F) W9 wx∧FiAt wx F data dict (p+n) dv M B);case first=>
          go_region_held3 (fun w'=>w'.cell? ⟨P,3,none⟩=some (ptr F)∧w'.cell? ⟨w5.heap.size,0,none⟩=some (.int .i64 d)∧w'.cell? ⟨w5.heap.size,1,none⟩=some (.int .u8 b)∧w'.cell? ⟨w5.heap.size,2,none⟩=some (.int .i64 f)∧w'.cell? ⟨w5.heap.size,3,none⟩=some (.int .i64 c)) (with_reducible exact e9.out) ((first
            | (go_at_call 128
               refine(size_calls _ _ _ _ _ (by omega)).mono ?_;rintro e wc ⟨rfl,A⟩;rw[h6.out];have HR:=Hd (HR.out.trans A);have e9:=Hd (O.out _ (HR.out.mono (fun _ _ h=>h.elim)));clear A)
            | (go_at_call 127
               refine(skip_calls F dict p n M B data dv _ (j0.out.still HR.out) k0 (by omega)).mono ?_;rintro e wc ⟨rfl,A,c5⟩;have h4:=Hd ((HR.out.mono (fun _ _ h=>h.elim)).trans A);have e9:=Hd (O.out _ h4.out);have g6:=Hd c5;clear A c5)))
          all_goals go_wp2_with fail
          all_goals go_meet
          all_goals exact⟨rfl,h4.out,g6.out⟩
        case rest=>
          obtain⟨rfl,i5,c6⟩:=hcut;have g8:=Hd i5;have g7:=Hd c6;obtain⟨e0,e1,e2,e3,e4⟩:=O.out wc g8.out;clear i5 c6;go_wp2_with fail;refine(size_calls _ _ _ _ _ (by omega)).mono ?_;rintro e k4 ⟨rfl,b8⟩;rw[h6.out];have g4:=Hd b8;clear b8;go_wp2_with fail;go_roundw
          · exact⟨p+n,⟨Z,V,W,X,Y⟩,l++[⟨d,b,f,c⟩],by simp,(j3.out _ g8.out g7.out).keep g4.out⟩
          · skip
            simp[intOf];omega
    · have hp:p=tp:=by have:=j.out.hi;omega
      subst hp;have r:=j.out.st;have g0:=j.out.rs;obtain⟨tn,t0,t1,t2,t3⟩:=t;simp only[S.cells,S.zero] at r g0;obtain⟨c0,c1,c2,c3,c4⟩:=cs5 r rfl rfl rfl rfl rfl;obtain⟨z0,z1,z2,z3,z4,zf⟩:=cf5 g0 rfl rfl rfl rfl rfl;go_upto_region 18 with fail;go_region;all_goals go_wp2_with fail
      all_goals
        refine bodyPost_ret (v:=.tuple #[u16,.agg #[.int .i64 tn,.int .i64 t0,.int .i64 t1,.int .i64 t2,.int .i64 t3],.int .i64 0]) (by simp[results,Tryz.results72,go_sem,z0,z1,z2,z3,z4]) rfl ?_;refine⟨?_,u16,l,⟨tn,t0,t1,t2,t3⟩,rfl,j.out.sy.step (S:=fun k=>k=w.heap.size+1) ?_ (fun k o e=> ?_),j.out.steps,j.out.ok,Hd j.out.gr⟩
        · refine Fr.drew ?_
          repeat refine Fr.setCell ?_ (.inr (Nat.le_succ _)) _
          exact j.out.fr.mono (fun k o h=>by omega)
        · refine Fr.drew ?_
          repeat refine Fr.setCell ?_ (.inl (by simp)) _
          exact Fr.refl _ _
        · subst e
          obtain⟨a0,T⟩:=Lz.own_block j.out.sy.own o;exact neOf g0 T (by decide) rfl
end Ps
end Go.Proofs.YtffoddpjfgjelaaGreatDoor
namespace Go.Proofs.YtffoddpjfgjelaaGreatDoor
open Go.RowKit Go.Shelf
namespace Ps
open Mem Win St Fi Pk
attribute [local go_sem] Oper.semAt_some
theorem appendIn_own{F:Fence}{x:Nat}{d:Array Oper}{rest:List Oper}{o:Oper}{a:Act}{Q:Exit→Act→World→Prop}(l:o.guard=none)(s y:Operand){T t:TypeId}{z bytes n:Nat}{zero:Value}
 (m:o.op=.call {callee:=.builtin .append,args:=#[s,y],argTypes:=#[t,t]})(hu:Tryz.prog.underlying t=some (.slice T))(hinfo:(Tryz.prog.info? T).map (fun i=>(i.zero,i.size,i.bytes))=some (some zero,z,bytes))(hzs:zero.cells.size=z)(hz0:0<z)(hby:bytes≤64)
 {w0 w:World}(v:Value)(xs:List Value)(cs:Array Value)(B:Nat)(hv:a.eval s=v)(hx:a.eval y=.slice (some ⟨B,0,none⟩) 1 1)(hm:Ga.Own T z w0 w v n xs)(hle:w0.heap.size≤w.heap.size)
 (hB:w.heap[B]? =some (.cells cs T (0,0)))(hcz:cs.size=z)(h1:∀u ∈ cs.toList,u.oneCell'=true)(hb:n≤1099511627776)
 (h:∀e f,Ga.Own T z w0 f e (n+1) (xs++cs.toList)→Fr (fun k=>v.ownBlock=some k) w f→(∀k,e.ownBlock=some k→v.ownBlock=some k∨w.heap.size≤k)→wpListIn F x Tryz.prog d Q rest (a.put o.dst e) f):
 wpListIn F x Tryz.prog d Q (o::rest) a w:=by
 obtain⟨I,E,b,p,q⟩:=info_parts hinfo;refine wpListIn_plain l fun K D=> ?_;obtain⟨e,f,H,A,C,r,J⟩:=run_append_any (P:=Tryz.prog) w t t o.type T I _ z bytes hu E b p q hzs hz0 v n xs hm.own _ 1 cs.toList (Src.ofSlice w hu ⟨B,0,none⟩ 1 1 cs.toList (by simp[hcz]) (fun j u hu'=>by
  rw[add_mid,Nat.zero_add];exact cell_in hB (by simpa using hu')) h1) (by simp only[maxLen];omega) (by
  have:(n+1)*bytes≤(n+1)*64:=Nat.mul_le_mul_left _ hby
  omega)
 unfold Oper.wpIn;refine⟨by simp[Oper.about,m,resolve,Target.leads,Sem.run_pure],?_⟩;rw[Oper.semAt_plain F _ _ (by rw[m];intro c g;cases g)];simp[execOp,m,resolve,invoke,builtin,hv,hx,H,Result.andThen];refine D _ _ (h e f ⟨A,fun k G=> ?_⟩ C r);rcases r k G with h|h
 ·exact hm.new k h
 ·omega
theorem infoMatch:(Tryz.prog.info? 310).map (fun i=>(i.zero,i.size,i.bytes))=some (some (.agg #[.int .i64 0,.int .i64 0]),2,16):=by kernel_rfl
def mtCells(l:List (Nat×Nat)):List Value:=l.flatMap (fun x=>[.int .i64 (x.1:Nat),.int .i64 (x.2:Nat)])
theorem mtCells_snoc(l:List (Nat×Nat))(x:Nat×Nat):mtCells (l++[x])=mtCells l++[.int .i64 (x.1:Nat),.int .i64 (x.2:Nat)]:=by simp[mtCells]
def Mts(w0 w:World)(v:Value)(l:List (Nat×Nat)):Prop:=Ga.Own 310 2 w0 w v l.length (mtCells l)
theorem keepsO{S:Nat→Prop}{W b:World}(f:Fr S W b)(g:∀k,S k→∃c t d,W.heap[k]? =some (.cells c t d)):KeepsOthers W b:=
 ⟨f.size,fun k o a h=>(f.block k (Array.getElem?_eq_some_iff.1 a).1 (fun i=>by
  obtain⟨c,t,d,e⟩:=g k i;rw[a] at e;cases e
  cases h)).trans a⟩
theorem mts_own{B:Nat}{w0:World}{v:Value}{l:List (Nat×Nat)}:OwnFrom B (fun(_:Unit) W=>Mts w0 W v l):=fun s W j a c h i=>
 c.step (S:=fun k=>a=some k) ((Fr.refl _ W).grown h (fun k e=>.inl e)) (fun k hk e=>by
  obtain⟨_,o,b,g⟩:=i k e;obtain⟨d,f⟩:=c.block hk;rw[f] at b;cases b
  cases g)
set_option maxRecDepth 100000 in
theorem steps_calls(P F tp dict p M B:Nat)(pv dv:Value)(data:List UInt8)(w:World)(a7:PcAt w P tp dict pv (ptr F) data)(h:FiAt w F data dict p dv M B)(hp:p<tp)(ht:tp≤data.length)(hb:data.length≤1073741824)(hd:dict≤4294967295):
    Calls Tryz.prog 188 #[ptr P,.int .i64 p] w fun e w'=>Fr (fun _=>False) w w'∧∃v l,e=.returned v∧Mts w w' v l∧(∀x ∈ l,MOk data dict p (min 273 (tp-p)) x)∧l.length≤273∧Hid (l=(Px.up (Px.mts data tp dict p)).1):=by
  have HH:=Hd h;have b5:=Hd a7;have c3:=cell_in (i:=3) a7.box rfl;clear a7 h;have f2:Tryz.prog.follows .mixedOrders=true:=by kernel_rfl
  refine(callsIn_wide (n:=5)).1 ?_;refine callsIn_of_wp_marks Tryz.func188 rfl trivial ?_ rfl;simp only[Tryz.ntmps188,List.size_toArray,List.length_cons,List.length_nil,Nat.reduceAdd,Nat.reduceSub,Array.replicate_succ,Array.replicate_zero,List.push_toArray,List.append_toArray,List.nil_append,List.cons_append];have e5:Fence.wide.fn 235:=trivial;have e4:Fence.wide.fn 183:=trivial;have e6:Fence.wide.depth=none:=rfl;gi_wp2_with fail;have a5:=((R0 w).alloc (.cells #[.slice none 0 0] 317)).alloc (.cells #[.int .i64 0] 3);have G:=((R0 (w.alloc (.cells #[.slice none 0 0] 317))).alloc (.cells #[.int .i64 0] 3)).keep (heap_alloc_new w (.cells #[.slice none 0 0] 317)) (fun h=>h);have X:=heap_alloc_new (w.alloc (.cells #[.slice none 0 0] 317)) (.cells #[.int .i64 0] 3);have j:((w.alloc (.cells #[.slice none 0 0] 317)).alloc (.cells #[.int .i64 0] 3)).heap.size=w.heap.size+2:=by simp
  rw[World.size_alloc] at X;generalize(w.alloc (.cells #[.slice none 0 0] 317)).alloc (.cells #[.int .i64 0] 3)=W0 at*;obtain⟨d,T⟩:∃d,w.heap.size=d:=⟨_,rfl⟩;rw[T] at G X j;rw[T];have J:=Hd T;have a2:=Hd a5;have b8:=Hd G;have b9:=Hd X;have HR:=Hd ((R0 W0).drew);have HS:=Hd (show∀w':World,Fr (fun _=>False) W0 w'→w'.cell? ⟨P,3,none⟩=some (ptr F) from fun w' hf=>cell_in (i:=3) ((a5.trans hf).keep b5.out.box (fun h=>h)) rfl);have b6:=Hd (HS.out _ HR.out);have e3:=HS.out W0 (Fr.refl _ _);clear T a5 G X;refine wpIn_wide.2 ?_;go_region_held3 (fun w'=>w'.cell? ⟨P,3,none⟩=some (ptr F)) (first|with_reducible exact b6.out|exact HS.out _ (((Fr.refl _ W0).alloc _).alloc _).drew) ((first
      | (go_at_call 183
         with_reducible refine(most_calls P tp dict p pv (ptr F) data _ (b5.out.keep (a2.out.trans HR.out)) (by omega) (by omega)).mono ?_
         rintro e wc ⟨rfl,rfl⟩)
      | (go_at_call 235
         with_reducible refine(matches_calls F (most tp p) _).mono ?_
         rintro e wc ⟨rfl,rfl⟩)))
  gi_wp2_with fail;have m:=((((R0 W0).alloc (.cells #[ptr F] 233)).alloc (.cells #[.int .i64 (most tp p)] 3)).drew);have c8:=m.keep b8.out (fun h=>h);have c9:=m.keep b9.out (fun h=>h);have d1:((((W0.alloc (.cells #[ptr F] 233)).alloc (.cells #[.int .i64 (most tp p)] 3))).drew).heap[d+2]? =some (.cells #[ptr F] 233 (0,0)):=j ▸ ((R0 _).alloc (.cells #[.int .i64 (most tp p)] 3)).keep (heap_alloc_new W0 (.cells #[ptr F] 233)) (fun h=>h);have a1:((((W0.alloc (.cells #[ptr F] 233)).alloc (.cells #[.int .i64 (most tp p)] 3))).drew).heap[d+2+1]? =some (.cells #[.int .i64 (most tp p)] 3 (0,0)):=by
    have:=heap_alloc_new (W0.alloc (.cells #[ptr F] 233)) (.cells #[.int .i64 (most tp p)] 3);rw[World.size_alloc,j] at this;exact this
  have e7:((((W0.alloc (.cells #[ptr F] 233)).alloc (.cells #[.int .i64 (most tp p)] 3))).drew).heap.size=d+4:=by simp[j]
  have m:=a2.out.trans m;have e1:=most_le tp p (by omega);clear j b8 b9 a2 HR HS b6 e3 c3;generalize(((W0.alloc (.cells #[ptr F] 233)).alloc (.cells #[.int .i64 (most tp p)] 3))).drew=W1 at*;obtain⟨Q,a6⟩:∃Q,min 273 (tp-p)=Q:=⟨_,rfl⟩;have c4:most tp p=Q:=a6;rw[c4] at e1 a1 ⊢;refine wpIn_rangeFunc_ownH rfl (by omega) (gf:=263) (lb:=#[ptr (d+2),ptr (d+2+1)]) rfl trivial (enters_of Tryz.func263 (by kernel_rfl) rfl)
    (matches_stops (5-1) F (d+2) (d+2+1) M B dict p Q data dv w W1 (fun k=>k=d∨k=d+1) HH.out (m.mono (fun _ _ h=>h.elim)) (fun k e=>by have:=J.out;omega) (by omega) (by omega) (cell_in (i:=0) d1 rfl) (cell_in (i:=0) a1 rfl) (by omega) (by omega) (by omega) (by omega))
    kpf_t (fun W l o o' hl=>kpf_b W l o o' hl) (Below.refl _ _) (fun _=>rfl)
    (fun(I:List (Mt data dict p Q)) W=>(∃(v:Value)(l:List (Nat×Nat))(q:Nat),W.heap[d]? =some (.cells #[v] 317 (0,0))∧W.heap[d+1]? =some (.cells #[.int .i64 q] 3 (0,0))∧Mts W1 W v l∧(∀x ∈ l,MOk data dict p Q x)∧l.length≤q∧q≤273∧Hid ((l,q)=Px.up (I.map (·.1))))∧Fr (fun k=>w.heap.size≤k) w W∧W1.heap.size≤W.heap.size)
    (fun _ _ _=>False) ?hI (fun _ _ _ _ _ h _ _=>h) ⟨⟨.slice none 0 0,[],0,c8,c9,Ga.Own.nil _ _ _ _,fun x h=>by simp at h,by simp,by omega,Hd rfl⟩,m.mono (fun _ _ h=>h.elim),Nat.le_refl _⟩
    (fun(x:Mt data dict p Q) a' W=>∃Y v,W.heap[d]? =some (.cells #[v] 317 (0,0))∧v.ownBlock≠some Y∧W1.heap.size≤Y∧W.heap[Y]? =some (.cells #[.int .i64 (x.1.1:Nat),.int .i64 (x.1.2:Nat)] 310 (0,0))∧a'={tmps:=#[ptr P,.int .i64 p,undef,undef,.slice none 0 0,ptr d,ptr (d+1),ptr Y,ptr P,ptr P,.pointer (some ⟨P,3,none⟩),ptr F,ptr P,.int .i64 p,.int .i64 Q,.func (.func 263) #[] #[ptr (d+2),ptr (d+2+1)],.agg #[.int .i64 (x.1.1:Nat),.int .i64 (x.1.2:Nat)],undef,undef,undef,undef,undef,undef,undef,undef,undef,undef,undef],defers:=[]})
    ?hAx ?assign ?body ?done ?stop
  case hI=>
    intro I W W' z hs Z hr;obtain⟨⟨v,l,q,h1,h2,h3,h4,h5,h6⟩,hf,hw⟩:=hs;exact⟨⟨v,l,q,cells_own (B:=W1.heap.size) (b:=d) (fun(_:Unit)=>#[v]) 317 () W W' z h1 Z hr,cells_own (B:=W1.heap.size) (b:=d+1) (fun(_:Unit)=>#[Value.int .i64 (q:Int)]) 3 () W W' z h2 Z hr,mts_own (B:=W1.heap.size) () W W' z h3 Z hr,h4,h5,h6⟩,fr_own (B:=W1.heap.size) (by have:=J.out;omega) () W W' z hf Z hr,Nat.le_trans hw Z.size⟩
  case hAx=>
    intro x a' s W W' z hs Z hr;obtain⟨Y,v,hv,hn,h1,h2,h3⟩:=hs;exact⟨Y,v,cells_own (B:=W1.heap.size) (b:=d) (fun(_:Unit)=>#[v]) 317 () W W' z hv Z hr,hn,h1,cells_own (B:=W1.heap.size) (b:=Y) (fun(_:Unit)=>#[Value.int .i64 (x.1.1:Nat),.int .i64 (x.1.2:Nat)]) 310 () W W' z h2 Z hr,h3⟩
  case assign=>
    rintro l I x W K hi hK;obtain⟨⟨v,H,q,g,A,O,E,V,U⟩,C,R⟩:=hi;have HK:=Hd hK;clear hK;gi_wp2;have f:=(R0 W).alloc (.cells #[.int .i64 (x.1.1:Nat),.int .i64 (x.1.2:Nat)] 310);exact HK.out _ _ ((KeepsOthers.alloc _ _).from _) ((Fr.refl _ W).alloc _) ⟨⟨v,H,q,f.keep g (fun h=>h),f.keep A (fun h=>h),O.keep f,E,V,U⟩,C.alloc _,by rw[World.size_alloc];omega⟩ ⟨W.heap.size,v,f.keep g (fun h=>h),(fun e=>Nat.lt_irrefl _ (O.lt _ e)),R,heap_alloc_new _ _,rfl⟩
  case body=>
    rintro l I x a' W hl ⟨r,hr⟩ ⟨⟨v,H,q,g,A,O,E,V,U,HE⟩,C,R⟩ ⟨Y,v',a8,c6,e9,hx,rfl⟩ f1;rw[g] at a8;simp only[Option.some.injEq,Obj.cells.injEq,Array.mk.injEq,List.cons.injEq,and_true] at a8;subst a8;have d4:=Hd c6;have b7:=Hd (show Px.up ((I++[x]).map (·.1))=if q<x.1.1 then(H++[x.1],x.1.1) else(H,q) by
      rw[List.map_append];simp only[List.map_cons,List.map_nil];rw[Px.up_snoc,←HE.out])
    clear c6;obtain⟨x0,x1⟩:=cs2 hx rfl rfl;have c0:=cell_in (i:=0) g rfl;have d0:=cell_in (i:=0) A rfl;have d9:w.heap.size≤d:=by have:=J.out;omega
    by_cases f0:(q:Int)<((x.1.1:Nat):Int)
    · have f:=(R0 W).alloc (.cells #[.int .i64 (x.1.1:Nat),.int .i64 (x.1.2:Nat)] 310)
      have HM:=Hd (O.keep f);have d3:=Hd (heap_alloc_new W (.cells #[.int .i64 (x.1.1:Nat),.int .i64 (x.1.2:Nat)] 310));have c1:=Hd (f.keep g (fun h=>h));have c2:=Hd (f.keep A (fun h=>h));have d6:=Hd (f.keep hx (fun h=>h));clear f
      gi_wp2_with (gi_at_builtin
                   refine appendIn_own rfl _ _ rfl Tryz.underlying317 infoMatch rfl (by decide) (by decide) (w0:=W1) v (mtCells H) #[.int .i64 (x.1.1:Nat),.int .i64 (x.1.2:Nat)] W.heap.size rfl rfl HM.out (by rw[World.size_alloc];omega) d3.out rfl (by intro u hu;simp only[List.mem_cons,List.not_mem_nil,or_false] at hu;rcases hu with rfl|rfl<;>rfl) (by omega) ?_;intro v9 w9 a3 N c5;have b1:=N.keep c1.out (HM.out.off c1.out (by decide));have b2:=N.keep c2.out (HM.out.off c2.out (by decide));have e2:=N.keep d6.out d4.out;have c0:=cell_in (i:=0) b1 rfl;have cf:=fun i=>frozen_in b1 i;have df:=fun i=>frozen_in b2 i;have d0:=cell_in (i:=0) b2 rfl;have x0:=cell_in (i:=0) e2 rfl;have b4:=Hd a3;obtain⟨p9,L,rfl⟩:=a3.slice;have b3:=Hd N;have e8:=Hd c5;clear c5 a3 N)
      have f3:=HM.out.lt;have a9:Fr (fun k=>v.ownBlock=some k) W w9:=((Fr.refl _ W).alloc _).trans b3.out;have hS:∀k,v.ownBlock=some k→∃cs t fr,W.heap[k]? =some (.cells cs t fr):=fun k hk=>by
        obtain⟨d7,hc⟩:=O.block hk;exact⟨_,_,_,hc⟩
      have a0:∀k,v.ownBlock=some k→W1.heap.size≤k:=O.new;have a4:∀{y:Value},Fr (fun k=>k=d∨k=d+1) w9 ((w9.setCell ⟨d,0,none⟩ y).setCell ⟨d+1,0,none⟩ (.int .i64 (x.1.1:Nat))):=((Fr.refl _ w9).setCell (p:=⟨d,0,none⟩) (.inl (.inl rfl)) _).setCell (p:=⟨d+1,0,none⟩) (.inl (.inr rfl)) _;have c7:∀k,(Value.slice p9 (H.length+1) L).ownBlock=some k→¬(k=d∨k=d+1):=fun k hk e=>by
        have:=b4.out.new k hk;omega
      have e0:Mts W1 w9 (.slice p9 (H.length+1) L) (H++[x.1]):=by
        unfold Mts;rw[mtCells_snoc,List.length_append,List.length_singleton];exact b4.out
      have G:=x.2;have j:=a4 (y:=.slice p9 (H.length+1) L);refine⟨((keepsO a9 hS).trans ((KeepsOthers.setCell _ _ _).trans (KeepsOthers.setCell _ _ _))).from _,(a9.mono (fun k _ hk=>.inr (by have:=a0 k hk;omega))).trans (a4.mono (fun k _ hk=>.inl hk)),⟨_,?_,H++[x.1],x.1.1,?_,e0.step a4 c7,?_,?_,?_,Hd (by rw[b7.out,if_pos (by omega)])⟩,?_,?_⟩
      · exact(Fr.one _ (d+1) 0 _).keep (set_in b1 0 _) (by omega)
      · exact set_in ((Fr.one _ d 0 _).keep b2 (by omega)) 0 _
      · intro a b d8
        rcases List.mem_append.1 d8 with h|h
        · exact E _ h
        · rw[List.mem_singleton] at h
          rw[h];exact G
      · rw[List.length_append,List.length_singleton]
        omega
      · have:=G.le
        omega
      · refine((C.alloc _).trans' b3.out (fun k hk hs=> ?_)).trans (j.mono (fun k _ hk=>by omega))
        have:=a0 k hs;omega
      · have h1:=j.size
        have h2:=a9.size;omega
    · gi_wp2
      exact⟨KeepsFrom.refl _ _,Fr.refl _ _,⟨v,g,H,q,A,O,fun a b h=>E _ h,V,U,Hd (by rw[b7.out,if_neg (by omega)])⟩,C,by first|exact R|omega⟩
  case done=>
    rintro D xs W hD d2 ⟨⟨v,H,q,g,A,O,E,V,U,HE⟩,C,R⟩ hK;have d5:=Hd d2;clear d2;have c0:=cell_in (i:=0) g rfl;gi_wp2;have d9:w.heap.size≤d:=by have:=J.out;omega
    refine⟨by simp,.inl ⟨_,_,rfl,run_takeDeferred hK,?_⟩⟩;refine⟨_,by simp[results,Tryz.results188,go_sem],(C.grown (grownBy_putObj' _ D _) (fun k e=>by cases e;exact .inl (by have:=J.out;omega))).mono (fun k hk h=>by omega),v,H,rfl,⟨(O.step (S:=fun k=>k=D) ((Fr.refl _ W).grown (grownBy_putObj' _ D _) (fun k e=>by cases e;exact .inl rfl)) (fun k hk e=> ?_)).own,fun k hk=>by have:=O.new k hk;have:=m.size;omega⟩,?_,by omega,Hd (by rw[Px.mts_eq,show min 273 (tp-p)=Q by assumption,←d5.out,←HE.out])⟩
    · subst e
      obtain⟨d7,hc⟩:=O.block hk;rw[hc] at hK;cases hK
    · have a6:min 273 (tp-p)=Q:=by assumption
      rw[a6];exact E
  case stop=>
    rintro D c I W _ _ h _;exact h.elim
end Ps
end Go.Proofs.YtffoddpjfgjelaaGreatDoor
namespace Go.Proofs.YtffoddpjfgjelaaGreatDoor
open Go.RowKit
namespace En
open Mem Rc Win Lz St
def lenRen:Go.Shelf.Ren:=⟨fun n=>if n=129 then 283 else n,fun n=>if n=3 then 3 else if n=4 then 4 else if n=5 then 5 else if n=9 then 9 else if n=46 then 40 else if n=53 then 67 else n,fun n=>n⟩
theorem len64_calls(x:Int)(w:World)(a:0≤x)(b:x≤18446744073709551615):Calls Tryz.prog 283 #[.int .u64 x] w fun e c=>e=.returned (.int .i64 (Lib.bitLen x.toNat))∧c=w:=
 Any.bits_Len64 (ρ:=lenRen) ⟨by kernel_rfl,by kernel_rfl,by kernel_rfl,fun _=>by kernel_rfl,fun _=>by kernel_rfl,fun _=>by kernel_rfl,by kernel_rfl,fun _=>by kernel_rfl,fun _=>by kernel_rfl,fun _=>by kernel_rfl,by kernel_rfl,fun _=>by kernel_rfl,fun _=>by kernel_rfl,fun _=>by kernel_rfl,by kernel_rfl,fun _=>by kernel_rfl,fun _=>by kernel_rfl,fun _=>by kernel_rfl,by kernel_rfl,fun _=>by kernel_rfl,fun _=>by kernel_rfl,fun _=>by kernel_rfl,by kernel_rfl,fun _=>by kernel_rfl,fun _=>by kernel_rfl,fun _=>by kernel_rfl⟩ x w a b
theorem len_calls(x:Nat)(w:World)(h:x<18446744073709551616):Calls Tryz.prog 267 #[.int .u64 x] w fun e b=>e=.returned (.int .i64 (Lib.bitLen x))∧w=b:=by
 have a:=Hd (len64_calls x w (by omega) (by omega));rw[Int.toNat_natCast] at a;clear h;go_enter Tryz.func267,Tryz.ntmps267;go_wp2_with fail;refine a.out.mono ?_;rintro e b ⟨rfl,rfl⟩;go_wp2_with fail;go_ret;exact⟨rfl,rfl⟩
theorem bitLen_log(x:Nat)(a:x≠0)(h:x<18446744073709551616):Lib.bitLen x=Nat.log2 x+1:=by
 obtain⟨d,b,c⟩:=Lib.bitLenAux_bounds 64 x h a;have:Nat.log2 x=Lib.bitLenAux 64 x-1:=(Nat.log2_eq_iff a).2 ⟨b,by rw[show Lib.bitLenAux 64 x-1+1=Lib.bitLenAux 64 x by omega];exact c⟩;unfold Lib.bitLen;omega
theorem and1_u64(x j:Nat):bits BinOp.and IntKind.u64 ((x:Int)/2^j) 1=((x/2^j%2:Nat):Int):=by
 have e:(x:Int)/2^j=((x/2^j:Nat):Int):=by simp
 rw[e];generalize x/2^j=a;have d:a%2<2:=Nat.mod_lt _ (by decide);have c:(BitVec.ofInt 64 (1:Int)).toNat=2^1-1:=by decide
 have b:(BitVec.ofInt 64 (a:Int)).toNat=a%2^64:=by rw[BitVec.ofInt_natCast,BitVec.toNat_ofNat]
 show IntKind.u64.wrap ((BitVec.ofInt 64 (a:Int)&&&BitVec.ofInt 64 (1:Int)).toNat:Int)=_;rw[BitVec.toNat_and,b,c,Nat.and_two_pow_sub_one_eq_mod,Nat.mod_mod_of_dvd _ (by decide)];exact IntWalk.u64_in _ (by omega)
theorem slot_calls(d:Nat)(w:World)(n:1≤d)(o:d≤4294967295):Calls Tryz.prog 243 #[.int .i64 d] w fun e g=>e=.returned (.tuple #[.int .i64 (slotOf d),.int .i64 0])∧w=g:=by
 have v:IntKind.u64.wrap ((d:Int)-1)=((d-1:Nat):Int):=by rw[IntWalk.u64_in _ (by omega)];omega
 have c:=dist_calls d w;rw[decide_eq_true (show 1≤d∧d≤4294967295 from⟨n,o⟩)] at c;have c:=Hd c;by_cases h:d≤4
 ·have e:((slotOf d:Nat):Int)=((d-1:Nat):Int):=by unfold slotOf;rw[if_pos h]
  rw[e];have t:decide (((d-1:Nat):Int)<4)=true:=decide_eq_true (by omega);have y:d-1≤3:=by omega
  clear e;generalize d-1=x at*;have s:IntKind.i64.wrap (x:Int)=(x:Int):=IntWalk.i64_in _ (by omega);go_enter Tryz.func243,Tryz.ntmps243;go_wp2_with fail;refine c.out.mono ?_;rintro e g ⟨rfl,rfl⟩;go_wp2_with fail;go_ret2;exact⟨rfl,rfl⟩
 ·have a:d-1≠0:=by omega
  have z:=(Nat.le_log2 a (k:=2)).2 (by omega);have A:=(Nat.log2_lt a (k:=32)).2 (by omega);have e:slotOf d=2*Nat.log2 (d-1)+(d-1)/2^(Nat.log2 (d-1)-1)%2:=by unfold slotOf;rw[if_neg h]
  have f:=len_calls (d-1) w (by omega);rw[bitLen_log _ a (by omega)] at f;have t:decide (((d-1:Nat):Int)<4)=false:=decide_eq_false (by omega);rw[e];have f:=Hd f;clear h e a;generalize d-1=x at*;generalize Nat.log2 x=k at*;obtain⟨j,rfl⟩:∃j,k=j+1:=⟨k-1,by omega⟩;have u:((j+1+1:Nat):Int)-2=(j:Int):=by omega
  have m:((j+1+1:Nat):Int)-1=(j:Int)+1:=by omega
  have l:min j 64=j:=by omega
  obtain⟨b,i⟩:∃b,b=x/2^j%2:=⟨_,rfl⟩;have q:bits BinOp.and IntKind.u64 ((x:Int)/2^j) 1=(b:Int):=by rw[i];exact and1_u64 x j
  have p:b≤1:=by omega
  have r:IntKind.i64.wrap (b:Int)=(b:Int):=IntWalk.i64_in _ (by omega);rw[Nat.add_sub_cancel,←i];clear i;go_enter Tryz.func243,Tryz.ntmps243;go_wp2_with fail;refine c.out.mono ?_;rintro e g ⟨rfl,rfl⟩;go_wp2_with fail;refine f.out.mono ?_;rintro e g ⟨rfl,rfl⟩;go_wp2_with fail;go_ret2;exact⟨by congr 1,rfl⟩
end En
namespace Ps
open Mem Win St Fi Pk
theorem slotOf_le(d:Nat)(a:1≤d)(b:d≤4294967295):En.slotOf d≤63:=by
 unfold En.slotOf;split
 ·omega
 ·rename_i h
  have c:Nat.log2 (d-1)<32:=(Nat.log2_lt (by omega)).2 (by omega);omega
theorem bitsGo_log:∀(k x:Nat),x<2^(k+2)→Px.bitsGo k x=if x<4 then 0 else Nat.log2 x-1
 |0,x,h=>by
   rw[if_pos (by simpa using h)];rfl
 |k+1,x,h=>by
   unfold Px.bitsGo;by_cases a:x<4
   ·rw[if_pos a,if_neg (by omega)]
   ·rw[if_neg a,if_pos (by omega),bitsGo_log k (x/2) (by rw[Nat.pow_succ] at h;omega)]
    have e:Nat.log2 x=Nat.log2 (x/2)+1:=by rw[Nat.log2_def x,if_pos (by omega)]
    by_cases b:x/2<4
    ·have c:Nat.log2 (x/2)=1:=(Nat.log2_eq_iff (by omega)).2 (by omega)
     rw[if_pos b,e,c]
    ·have d:2≤Nat.log2 (x/2):=(Nat.le_log2 (by omega)).2 (by omega)
     rw[if_neg b,e];omega
theorem bits_slot(d:Nat)(c:1≤d)(e:d≤4294967295):(St.range (En.slotOf d)).2=Px.bits d:=by
 unfold Px.bits;rw[bitsGo_log 64 (d-1) (by omega)];unfold En.slotOf St.range;by_cases a:d≤4
 ·rw[if_pos a,if_pos (by omega),if_pos (by omega)]
 ·rw[if_neg a,if_neg (show¬d-1<4 by omega)]
  have f:2≤Nat.log2 (d-1):=(Nat.le_log2 (by omega)).2 (by omega);have g:(d-1)/2^(Nat.log2 (d-1)-1)%2<2:=Nat.mod_lt _ (by decide);generalize(d-1)/2^(Nat.log2 (d-1)-1)%2=b at*;rw[if_neg (by omega)];show(2*Nat.log2 (d-1)+b)/2-1=_;omega
theorem bitsGo_le:∀k x:Nat,Px.bitsGo k x≤k
 |0,_=>Nat.le_refl _
 |k+1,x=>by
   unfold Px.bitsGo;split
   ·exact Nat.succ_le_succ (bitsGo_le k _)
   ·exact Nat.zero_le _
theorem bits_le(d:Nat):Px.bits d≤64:=bitsGo_le _ _
theorem long_le(n:Nat):Px.long n≤10:=by
 unfold Px.long;split
 ·decide
 ·split<;>decide
theorem length_calls(n:Nat)(w:World):Calls Tryz.prog 266 #[.int .i64 n] w fun e f=>e=.returned (.int .i64 (Px.long n:Nat))∧w=f:=by
 unfold Px.long;by_cases a:n≤9
 ·have c:decide ((n:Int)≤9)=true:=decide_eq_true (by omega)
  rw[if_pos a];clear a;go_enter Tryz.func266,Tryz.ntmps266;go_wp2_with fail;go_ret;exact⟨rfl,rfl⟩
 ·have c:decide ((n:Int)≤9)=false:=decide_eq_false (by omega)
  rw[if_neg a];clear a;by_cases b:n≤17
  ·have d:decide ((n:Int)≤17)=true:=decide_eq_true (by omega)
   rw[if_pos b];clear b;go_enter Tryz.func266,Tryz.ntmps266;go_wp2_with fail;go_ret;exact⟨rfl,rfl⟩
  ·have d:decide ((n:Int)≤17)=false:=decide_eq_false (by omega)
   rw[if_neg b];clear b;go_enter Tryz.func266,Tryz.ntmps266;go_wp2_with fail;go_ret;exact⟨rfl,rfl⟩
theorem match_calls(n d:Nat)(w:World):Calls Tryz.prog 236 #[.int .i64 n,.int .i64 d] w fun e b=>e=.returned (.agg (Sy.cells ⟨2,0,n,d⟩))∧Fr (fun _=>False) w b:=by
 have a:=heap_alloc_new w (.cells #[.int .i64 0,.int .u8 0,.int .i64 0,.int .i64 0] 110);have c:=(R0 w).alloc (.cells #[.int .i64 0,.int .u8 0,.int .i64 0,.int .i64 0] 110);obtain⟨f,g,h,i,j⟩:=cf4 a rfl rfl rfl rfl;go_enter Tryz.func236,Tryz.ntmps236;go_wp2_with fail;refine bodyPost_ret (v:=.agg #[.int .i64 2,.int .u8 0,.int .i64 n,.int .i64 d]) (by simp[results,Tryz.results236,go_sem]) rfl ?_;exact⟨rfl,(R0 w).alloc _⟩
set_option maxRecDepth 100000 in
theorem price_calls(n d:Nat)(w:World)(U:Tabs w)(Y:2≤n)(A:n≤273)(g:1≤d)(j:d≤4294967295):
    Calls Tryz.prog 237 #[.agg (Sy.cells ⟨2,0,n,d⟩)] w fun e w'=>e=.returned (.tuple #[.int .i64 (Px.price n d:Nat),.int .i64 0])∧Fr (fun _=>False) w w':=by
  have V:Sy.Ok ⟨2,0,n,d⟩:=⟨.inr (.inl rfl),fun h=>absurd h (by simp),by simp⟩;have C:S.new.Ok:=S.new_ok;have m:=fun W(h:Tabs W)=>Hd (next_calls S.new C ⟨2,0,n,d⟩ V W h);have k:(S.next S.new ⟨2,0,n,d⟩).1=0:=by
    unfold S.next;rw[if_neg (show¬(2:Nat)=1 by decide),if_neg (show¬(2:Nat)=4 by decide),if_pos rfl,if_pos (show isL n from⟨Y,A⟩),if_pos (show isD d from⟨g,j⟩)]
  generalize S.new.next ⟨2,0,n,d⟩=r at*;obtain⟨E,rn,ra,rb,rc,rd⟩:=r;have p:=heap_alloc_new w (.cells (Sy.cells ⟨2,0,n,d⟩) 110);have F:=(R0 w).alloc (.cells (Sy.cells ⟨2,0,n,d⟩) 110);simp only[Sy.cells,S.cells] at p F m ⊢;have s:∀W,Tabs W→Hid (Calls Tryz.prog 126 #[.agg S.new.cells,.agg #[.int .i64 2,.int .u8 0,.int .i64 n,.int .i64 d]] W fun e w'=>e=.returned (.tuple #[.agg #[.int .i64 rn,.int .i64 ra,.int .i64 rb,.int .i64 rc,.int .i64 rd],.int .i64 E])∧Fr (fun _=>False) W w'):=m;clear m;have m:=s;have L:∀w':World,Fr (fun _=>False) (w.alloc (.cells #[.int .i64 2,.int .u8 0,.int .i64 n,.int .i64 d] 110)) w'→w'.cell? ⟨w.heap.size,0,none⟩=some (.int .i64 2)∧w'.cell? ⟨w.heap.size,1,none⟩=some (.int .u8 0)∧w'.cell? ⟨w.heap.size,2,none⟩=some (.int .i64 n)∧w'.cell? ⟨w.heap.size,3,none⟩=some (.int .i64 d):=fun w' h=>
    ⟨cell_in (i:=0) (h.keep p (fun h=>h)) rfl,cell_in (i:=1) (h.keep p (fun h=>h)) rfl,cell_in (i:=2) (h.keep p (fun h=>h)) rfl,cell_in (i:=3) (h.keep p (fun h=>h)) rfl⟩
  have D:=Hd (U.keep F);have q:=Hd F;have H:=Hd (show E=0 from k);have G:=Hd (bits_slot d g j);clear p F U s V C k;go_enter Tryz.func237,Tryz.ntmps237;go_wp2_with fail;have B:Fr (fun _=>False) w (w.alloc (.cells #[.int .i64 2,.int .u8 0,.int .i64 n,.int .i64 d] 110)):=q.out;have t:Hid (Tabs (w.alloc (.cells #[.int .i64 2,.int .u8 0,.int .i64 n,.int .i64 d] 110))):=D;generalize Z:w.alloc (.cells #[.int .i64 2,.int .u8 0,.int .i64 n,.int .i64 d] 110)=wb at*;have I:=Hd B;have D:=t;have o:=Hd L;have b:=Hd (R0 wb).drew;have c:=Hd (L wb.drew b.out);obtain⟨v,x,y,z⟩:=c.out;clear L Z B t q;go_cut [5] (fun s5 wx=>s5=.int .i64 E∧Fr (fun _=>False) wb wx);case first=>
    go_region_held3 (fun w'=>w'.cell? ⟨w.heap.size,0,none⟩=some (.int .i64 2)∧w'.cell? ⟨w.heap.size,1,none⟩=some (.int .u8 0)∧w'.cell? ⟨w.heap.size,2,none⟩=some (.int .i64 n)∧w'.cell? ⟨w.heap.size,3,none⟩=some (.int .i64 d)) (first|with_reducible exact c.out|(refine o.out _ ?_;(repeat refine Fr.setCell ?_ (.inr (by first|exact b.out.size|exact K.out)) _);first|exact b.out|exact b.out.alloc _)) ((first
      | (go_at_call 34
         first
           | (refine (new_at wb _ b.out).mono ?_
              rintro e wc ⟨rfl,a⟩;have b:=Hd (b.out.trans a);have c:=Hd (o.out _ b.out);obtain⟨v,x,y,z⟩:=c.out
              try (have f:=a.keep u.out (fun h=>h)
                   obtain⟨N,O,P,Q,R,T⟩:=cf5 f rfl rfl rfl rfl rfl;have u:=Hd f;clear f)
              clear a)
           | (refine (new_at wb _ (b.out.alloc _)).mono ?_
              rintro e wc ⟨rfl,a⟩;have K:=Hd b.out.size;have b:=Hd ((b.out.alloc _).trans a);have c:=Hd (o.out _ b.out);obtain⟨v,x,y,z⟩:=c.out;have f:=a.keep (heap_alloc_new _ _) (fun h=>h);try simp only[World.size_drew] at f
              obtain⟨N,O,P,Q,R,T⟩:=cf5 f rfl rfl rfl rfl rfl;have u:=Hd f;clear f;clear a))
      | (go_at_call 126
         first
           | (refine (m _ (D.out.keep b.out)).out.mono ?_
              rintro e wc ⟨rfl,a⟩;have b:=Hd (b.out.trans a);have c:=Hd (o.out _ b.out);obtain⟨v,x,y,z⟩:=c.out
              try (have f:=a.keep u.out (fun h=>h)
                   obtain⟨N,O,P,Q,R,T⟩:=cf5 f rfl rfl rfl rfl rfl;have u:=Hd f;clear f)
              clear a)
           | (refine (m _ (D.out.keep (b.out.alloc _))).out.mono ?_
              rintro e wc ⟨rfl,a⟩;have K:=Hd b.out.size;have b:=Hd ((b.out.alloc _).trans a);have c:=Hd (o.out _ b.out);obtain⟨v,x,y,z⟩:=c.out;have f:=a.keep (heap_alloc_new _ _) (fun h=>h);try simp only[World.size_drew] at f
              obtain⟨N,O,P,Q,R,T⟩:=cf5 f rfl rfl rfl rfl rfl;have u:=Hd f;clear f;clear a))))
    all_goals go_wp2_with fail
    all_goals go_meet
    all_goals
      refine⟨rfl,?_⟩;(repeat refine Fr.setCell ?_ (.inr (by first|exact b.out.size|exact K.out)) _)
      first|exact b.out|exact b.out.alloc _
  case rest=>
    obtain⟨rfl,l⟩:=hcut;obtain⟨v,x,y,z⟩:=o.out _ l;have J:=Hd (I.out.trans l);obtain rfl:E=0:=H.out;have M:=slotOf_le d g j;clear l;have a0:Px.bits d≤64:=bits_le d;have a1:Px.long n≤10:=long_le n;go_wp2_with ((first
      | (go_at_call 243
         refine(En.slot_calls d _ g j).mono ?_;rintro e X ⟨rfl,rfl⟩)
      | (go_at_call 244
         refine(St.range_calls _ M _).mono ?_;rintro e X ⟨rfl,rfl⟩;rw[G.out])
      | (go_at_call 266
         refine(length_calls _ _).mono ?_;rintro e X ⟨rfl,rfl⟩)))
    go_ret2;exact⟨by unfold Px.price;simp,J.out⟩
end Ps
end Go.Proofs.YtffoddpjfgjelaaGreatDoor
