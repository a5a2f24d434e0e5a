/- Part 15 of 54: lemmas of the last part, each under the conditions that it names. -/
import Derived.Test.YtffoddpjfgjelaaGreatDoorK14
set_option linter.unusedVariables false
set_option linter.unusedSimpArgs false
set_option maxRecDepth 1500
set_option maxHeartbeats 4000000
namespace Go.Proofs.YtffoddpjfgjelaaGreatDoor
open Go.RowKit
namespace Enc
open Mem Win Lz St
def NewTab(w:World)(lc lp pb:Nat)(s:S)(ps:Nat→List Nat)(e:Ending)(w':World):Prop:=∃T' c h,e=.returned (ptr T')∧Fr (fun _=>False) w w'∧w.heap.size≤T'∧Tab w' T' c h lc lp pb s ps∧∀j,j<18→w.heap.size≤c j∧w.heap.size≤h j
theorem set_off{w:World}{b g F:Nat}{p:List Nat}{f:Array Value}{fr:Nat×Nat}(h:Prob.SetAt w b g p)(d:w.heap[F]? =some (.cells f 217 fr)):¬b=F∧¬g=F:=by
 obtain⟨e,i,a,c,_⟩:=h;constructor
 ·rintro rfl
  rw[d] at a;simp at a
 ·rintro rfl
  rw[d] at c;simp at c
set_option maxRecDepth 100000 in
theorem tabForkP_calls(T lc lp pb:Nat)(b g:Nat→Nat)(s:S)(ps:Nat→List Nat)(w:World)(hT:Tab w T b g lc lp pb s ps)(hl:∀j,j<18→0<(ps j).length∧(ps j).length≤1048576):
 Calls Tryz.prog 119 #[ptr T] w (NewTab w lc lp pb s ps):=by
 have X:=Hd hT;have B:=Hd hl;have a8:=lt_of_block hT.box;have Q:=Hd hT.box;clear hT hl;have a9:(tabV lc lp pb s b).size=26:=rfl;have D:(storeCells ⟨w.heap.size,0,none⟩ (tabV lc lp pb s b).toList).run Tryz.prog (w.alloc (.cells #[.int .i64 0,.int .i64 0,.int .i64 0,.int .i64 0,.int .i64 0,.int .i64 0,.int .i64 0,.int .i64 0,.pointer none,.pointer none,.pointer none,.pointer none,.pointer none,.pointer none,.pointer none,.pointer none,.pointer none,.pointer none,.pointer none,.pointer none,.pointer none,.pointer none,.pointer none,.pointer none,.pointer none,.pointer none] 217))=.ok () (w.alloc (.cells (tabV lc lp pb s b) 217)):=run_storeCells_new w _ #[.int .i64 0,.int .i64 0,.int .i64 0,.int .i64 0,.int .i64 0,.int .i64 0,.int .i64 0,.int .i64 0,.pointer none,.pointer none,.pointer none,.pointer none,.pointer none,.pointer none,.pointer none,.pointer none,.pointer none,.pointer none,.pointer none,.pointer none,.pointer none,.pointer none,.pointer none,.pointer none,.pointer none,.pointer none] (tabV lc lp pb s b) (by kernel_rfl) rfl (by simp[tabV,Value.oneCell']);go_enter Tryz.func119,Tryz.ntmps119;go_wp2_with (first
  |(with_reducible refine wpList_load_row rfl 217 _ rfl T rfl 217 (tabV lc lp pb s b) (0,0) _ Q.out Tryz.underlying217 rfl ?_ ?_;kernel_rfl))
 have K:=((R0 w).alloc (.cells (tabV lc lp pb s b) 217)).alloc (.cells (ptrsF w.heap.size) 303);have L:=((R0 (w.alloc (.cells (tabV lc lp pb s b) 217))).alloc (.cells (ptrsF w.heap.size) 303)).keep (heap_alloc_new w (.cells (tabV lc lp pb s b) 217)) (fun h=>h);have E:=heap_alloc_new (w.alloc (.cells (tabV lc lp pb s b) 217)) (.cells (ptrsF w.heap.size) 303);rw[World.size_alloc] at E;go_loopw [5,21] (fun _ i wr=>∃(k:Nat)(c h:Nat→Nat),k≤10∧i=.int .i64 k∧Fr (fun _=>False) w wr∧wr.heap[w.heap.size]? =some (.cells (tabV lc lp pb s c) 217 (0,0))∧wr.heap[w.heap.size+1]? =some (.cells (ptrsF w.heap.size) 303 (0,0))∧(∀j,k≤j→c (rowK j)=b (rowK j))∧Got w wr k c h ps) (fun _ i _=>10-(intOf i).toNat);case atStart=>exact⟨0,b,b,by omega,rfl,K,L,E,fun _ _=>rfl,⟨fun j hj=>absurd hj (by omega),fun i j hi=>absurd hi (by omega)⟩⟩
 case round=>
  obtain⟨k,c,h,hk,rfl,u,Y,Z,a0,G⟩:=hrel;have n:=Hd G;have U:=Hd (show w.heap.size+2≤wr.heap.size from lt_of_block Z);clear G;by_cases v:k<10
  ·have g0:=cell_in Z (ptrs_at w.heap.size k v)
   have f0:=cell_in Y (tab_off lc lp pb s c k v);rw[a0 k (Nat.le_refl _)] at f0;have HK:=Hd (setForkP_calls _ _ _ wr ((X.out.set (rowK k) (rowK_lt v)).keep u) (B.out _ (rowK_lt v)).1 (B.out _ (rowK_lt v)).2);have I:=Hd u;have d:=Hd Y;have HG:=Hd Z;clear u Y Z D K L E;go_wp2_with fail;refine HK.out.mono ?_;rintro e w2 ⟨q,rfl,y,a1,a2,a3⟩;have C:=y.keep d.out (fun h=>h);have z0:=cell_in C (tab_off lc lp pb s c k v);have zf:=frozen_in C (offK k);have R:=Hd C;have F:=Hd y;have W:=Hd (n.out.snoc y U.out a1 a2 a3);clear C y a1 a2 a3;go_wp2_with fail;go_roundw;case rel=>
    refine⟨k+1,updN c (rowK k) (q+1),updN h (rowK k) q,by omega,by go_num,(I.out.trans F.out).setCell (.inr (Nat.le_refl _)) _,?_,?_,fun j hj=> ?_,W.out.step (Fr.one _ _ _ _) (fun h=>set_off h R.out)⟩
    ·rw[set_in R.out,tab_set lc lp pb s c (q+1) k v]
    ·exact((Fr.refl (fun i=>i=w.heap.size) w2).setCell (.inl rfl) _).keep (F.out.keep HG.out (fun h=>h)) (by omega)
    ·unfold updN
     rw[if_neg (fun e=>by have:=rowK_inj e;omega)];exact a0 j (by omega)
   case measure=>simp[intOf];omega
  ·obtain rfl:k=10:=by omega
   have o:=u.keep Q.out (fun h=>h);have J:=Hd (show∀w':World,Fr (fun i=>i=w.heap.size) wr w'→w'.cell? ⟨T,15,none⟩=some (.pointer (some ⟨b 7,0,none⟩))∧w'.cell? ⟨T,16,none⟩=some (.pointer (some ⟨b 8,0,none⟩))∧w'.cell? ⟨T,17,none⟩=some (.pointer (some ⟨b 9,0,none⟩))∧w'.cell? ⟨T,18,none⟩=some (.pointer (some ⟨b 10,0,none⟩))∧w'.cell? ⟨T,19,none⟩=some (.pointer (some ⟨b 11,0,none⟩))∧w'.cell? ⟨T,20,none⟩=some (.pointer (some ⟨b 12,0,none⟩))∧w'.cell? ⟨T,21,none⟩=some (.pointer (some ⟨b 13,0,none⟩))∧w'.cell? ⟨T,22,none⟩=some (.pointer (some ⟨b 14,0,none⟩)) from fun w' h=>⟨cell_in (i:=15) (h.keep o (by omega)) rfl,cell_in (i:=16) (h.keep o (by omega)) rfl,cell_in (i:=17) (h.keep o (by omega)) rfl,cell_in (i:=18) (h.keep o (by omega)) rfl,cell_in (i:=19) (h.keep o (by omega)) rfl,cell_in (i:=20) (h.keep o (by omega)) rfl,cell_in (i:=21) (h.keep o (by omega)) rfl,cell_in (i:=22) (h.keep o (by omega)) rfl⟩);have t:=Hd (show∀(w':World),Fr (fun i=>i=w.heap.size) wr w'→∀m,m<18→Prob.SetAt w' (b m) (g m) (ps m) from fun w' h m hm=>(X.out.set m hm).keep (u.trans' h (fun i hi(e:i=w.heap.size)=>by omega)));have I:=Hd u;have d:=Hd Y;have l:=Hd (Fr.refl (fun i=>i=w.heap.size) wr);obtain⟨c0,c1,c2,c3,c4,c5,c6,c7⟩:=J.out wr l.out;clear u Y Z D K L E o;go_wp2_with fail;have z:=Hd (J.out _ (l.out.drew));obtain⟨c0,c1,c2,c3,c4,c5,c6,c7⟩:=z.out;have l:=Hd l.out.drew;have d:=Hd ((R0 wr).drew.keep d.out (fun h=>h));have V:=n;have n:=Hd (n.out.keep (R0 wr).drew);go_region_held3 (fun w'=>w'.cell? ⟨T,15,none⟩=some (.pointer (some ⟨b 7,0,none⟩))∧w'.cell? ⟨T,16,none⟩=some (.pointer (some ⟨b 8,0,none⟩))∧w'.cell? ⟨T,17,none⟩=some (.pointer (some ⟨b 9,0,none⟩))∧w'.cell? ⟨T,18,none⟩=some (.pointer (some ⟨b 10,0,none⟩))∧w'.cell? ⟨T,19,none⟩=some (.pointer (some ⟨b 11,0,none⟩))∧w'.cell? ⟨T,20,none⟩=some (.pointer (some ⟨b 12,0,none⟩))∧w'.cell? ⟨T,21,none⟩=some (.pointer (some ⟨b 13,0,none⟩))∧w'.cell? ⟨T,22,none⟩=some (.pointer (some ⟨b 14,0,none⟩))) (first|with_reducible exact z.out|with_reducible exact J.out _ l.out|with_reducible exact J.out _ (fr4 l.out _ _ _ _ _ _ _ _)|with_reducible exact J.out _ (fr4 (fr4 l.out _ _ _ _ _ _ _ _) _ _ _ _ _ _ _ _)) ((first
    | (go_at_call 179
       go_loud (
       with_reducible refine(lenForkP_calls (b 7) (b 8) (b 9) (b 10) (g 7) (g 8) (g 9) (g 10) (ps 7) (ps 8) (ps 9) (ps 10) _ (t.out _ l.out 7 (by decide)) (t.out _ l.out 8 (by decide)) (t.out _ l.out 9 (by decide)) (t.out _ l.out 10 (by decide)) (B.out 7 (by decide)) (B.out 8 (by decide)) (B.out 9 (by decide)) (B.out 10 (by decide))).mono ?_
       rintro e wc ⟨M,N,O,P,rfl,a,A⟩;have l:=Hd (l.out.trans (a.mono (fun _ _ h=>h.elim)));have z:=Hd (J.out _ l.out);obtain⟨c0,c1,c2,c3,c4,c5,c6,c7⟩:=z.out;have d:=Hd (a.keep d.out (fun h=>h));have n:=Hd (n.out.keep a);have f:=Hd A;have y0:wc.cell? ⟨w.heap.size,15,none⟩=some (.pointer (some ⟨c 7,0,none⟩)):=cell_in (i:=15) d.out rfl;have y1:wc.cell? ⟨w.heap.size,16,none⟩=some (.pointer (some ⟨c 8,0,none⟩)):=cell_in (i:=16) d.out rfl;have y2:wc.cell? ⟨w.heap.size,17,none⟩=some (.pointer (some ⟨c 9,0,none⟩)):=cell_in (i:=17) d.out rfl;have y3:wc.cell? ⟨w.heap.size,18,none⟩=some (.pointer (some ⟨c 10,0,none⟩)):=cell_in (i:=18) d.out rfl;have y4:wc.cell? ⟨w.heap.size,19,none⟩=some (.pointer (some ⟨c 11,0,none⟩)):=cell_in (i:=19) d.out rfl;have y5:wc.cell? ⟨w.heap.size,20,none⟩=some (.pointer (some ⟨c 12,0,none⟩)):=cell_in (i:=20) d.out rfl;have y6:wc.cell? ⟨w.heap.size,21,none⟩=some (.pointer (some ⟨c 13,0,none⟩)):=cell_in (i:=21) d.out rfl;have y7:wc.cell? ⟨w.heap.size,22,none⟩=some (.pointer (some ⟨c 14,0,none⟩)):=cell_in (i:=22) d.out rfl;have yf:=fun i=>frozen_in d.out i;clear a A))
    | (go_at_call 179
       with_reducible refine(lenForkP_calls (b 11) (b 12) (b 13) (b 14) (g 11) (g 12) (g 13) (g 14) (ps 11) (ps 12) (ps 13) (ps 14) _ (t.out _ l.out 11 (by decide)) (t.out _ l.out 12 (by decide)) (t.out _ l.out 13 (by decide)) (t.out _ l.out 14 (by decide)) (B.out 11 (by decide)) (B.out 12 (by decide)) (B.out 13 (by decide)) (B.out 14 (by decide))).mono ?_
       rintro e wc ⟨q4,q5,q6,q7,rfl,a,A⟩;have l:=Hd (l.out.trans (a.mono (fun _ _ h=>h.elim)));have z:=Hd (J.out _ l.out);obtain⟨c0,c1,c2,c3,c4,c5,c6,c7⟩:=z.out;have d:=Hd (a.keep d.out (fun h=>h));have n:=Hd (n.out.keep a);have f:=Hd (show M+1<N∧N+1<O∧O+1<P∧P+1<q4∧wr.heap.size≤M∧Prob.SetAt wc (M+1) M (ps 7)∧Prob.SetAt wc (N+1) N (ps 8)∧Prob.SetAt wc (O+1) O (ps 9)∧Prob.SetAt wc (P+1) P (ps 10) from
        ⟨f.out.2.1,f.out.2.2.1,f.out.2.2.2.1,Nat.lt_of_lt_of_le f.out.2.2.2.2.1 A.1,f.out.1,f.out.2.2.2.2.2.1.keep a,f.out.2.2.2.2.2.2.1.keep a,f.out.2.2.2.2.2.2.2.1.keep a,f.out.2.2.2.2.2.2.2.2.keep a⟩)
       have a4:=Hd A;have y0:wc.cell? ⟨w.heap.size,15,none⟩=some (.pointer (some ⟨c 7,0,none⟩)):=cell_in (i:=15) d.out rfl;have y1:wc.cell? ⟨w.heap.size,16,none⟩=some (.pointer (some ⟨c 8,0,none⟩)):=cell_in (i:=16) d.out rfl;have y2:wc.cell? ⟨w.heap.size,17,none⟩=some (.pointer (some ⟨c 9,0,none⟩)):=cell_in (i:=17) d.out rfl;have y3:wc.cell? ⟨w.heap.size,18,none⟩=some (.pointer (some ⟨c 10,0,none⟩)):=cell_in (i:=18) d.out rfl;have y4:wc.cell? ⟨w.heap.size,19,none⟩=some (.pointer (some ⟨c 11,0,none⟩)):=cell_in (i:=19) d.out rfl;have y5:wc.cell? ⟨w.heap.size,20,none⟩=some (.pointer (some ⟨c 12,0,none⟩)):=cell_in (i:=20) d.out rfl;have y6:wc.cell? ⟨w.heap.size,21,none⟩=some (.pointer (some ⟨c 13,0,none⟩)):=cell_in (i:=21) d.out rfl;have y7:wc.cell? ⟨w.heap.size,22,none⟩=some (.pointer (some ⟨c 14,0,none⟩)):=cell_in (i:=22) d.out rfl;have yf:=fun i=>frozen_in d.out i;clear a A)))
   go_wp2_with fail;go_ret;have r:=f.out;have x:=a4.out;have a7:Fr (fun i=>i=w.heap.size) wc ((((((((wc.setCell ⟨w.heap.size,15,none⟩ (.pointer (some ⟨M+1,0,none⟩))).setCell ⟨w.heap.size,16,none⟩ (.pointer (some ⟨N+1,0,none⟩))).setCell ⟨w.heap.size,17,none⟩ (.pointer (some ⟨O+1,0,none⟩))).setCell ⟨w.heap.size,18,none⟩ (.pointer (some ⟨P+1,0,none⟩))).setCell ⟨w.heap.size,19,none⟩ (.pointer (some ⟨q4+1,0,none⟩))).setCell ⟨w.heap.size,20,none⟩ (.pointer (some ⟨q5+1,0,none⟩))).setCell ⟨w.heap.size,21,none⟩ (.pointer (some ⟨q6+1,0,none⟩))).setCell ⟨w.heap.size,22,none⟩ (.pointer (some ⟨q7+1,0,none⟩))):=fr4 (fr4 (Fr.refl _ _) _ _ _ _ _ _ _ _) _ _ _ _ _ _ _ _;have D:∀{b g:Nat}{p:List Nat},Prob.SetAt wc b g p→Prob.SetAt ((((((((wc.setCell ⟨w.heap.size,15,none⟩ (.pointer (some ⟨M+1,0,none⟩))).setCell ⟨w.heap.size,16,none⟩ (.pointer (some ⟨N+1,0,none⟩))).setCell ⟨w.heap.size,17,none⟩ (.pointer (some ⟨O+1,0,none⟩))).setCell ⟨w.heap.size,18,none⟩ (.pointer (some ⟨P+1,0,none⟩))).setCell ⟨w.heap.size,19,none⟩ (.pointer (some ⟨q4+1,0,none⟩))).setCell ⟨w.heap.size,20,none⟩ (.pointer (some ⟨q5+1,0,none⟩))).setCell ⟨w.heap.size,21,none⟩ (.pointer (some ⟨q6+1,0,none⟩))).setCell ⟨w.heap.size,22,none⟩ (.pointer (some ⟨q7+1,0,none⟩))) b g p:=fun{b g p} hs=>hs.step a7 (set_off hs d.out).1 (set_off hs d.out).2;have a6:=set_in (set_in (set_in (set_in (set_in (set_in (set_in (set_in d.out 15 (.pointer (some ⟨M+1,0,none⟩))) 16 (.pointer (some ⟨N+1,0,none⟩))) 17 (.pointer (some ⟨O+1,0,none⟩))) 18 (.pointer (some ⟨P+1,0,none⟩))) 19 (.pointer (some ⟨q4+1,0,none⟩))) 20 (.pointer (some ⟨q5+1,0,none⟩))) 21 (.pointer (some ⟨q6+1,0,none⟩))) 22 (.pointer (some ⟨q7+1,0,none⟩));obtain⟨h',a5,H⟩:=tab_of (lc:=lc) (lp:=lp) (pb:=pb) (s:=s) V.out n.out U.out r.2.2.2.2.1 r.1 r.2.1 r.2.2.1 r.2.2.2.1 x.2.1 x.2.2.1 x.2.2.2.1 r.2.2.2.2.2.1 r.2.2.2.2.2.2.1 r.2.2.2.2.2.2.2.1 r.2.2.2.2.2.2.2.2 x.2.2.2.2.2.1 x.2.2.2.2.2.2.1 x.2.2.2.2.2.2.2.1 x.2.2.2.2.2.2.2.2 D a6;exact⟨w.heap.size,fun j=>h' j+1,h',rfl,I.out.trans' (fr4 (fr4 l.out _ _ _ _ _ _ _ _) _ _ _ _ _ _ _ _) (fun i hi e=>by omega),Nat.le_refl _,a5,fun j hj=>⟨Nat.le_trans (H j hj) (Nat.le_succ _),H j hj⟩⟩
end Enc
namespace En
open Mem Rc Win Lz St
structure XL where
 D:Nat
 E:Nat
 T:Nat
 W:Nat
 v:Value
 rv:Value
 ring:List UInt8
 t:Nat
 b:Nat→Nat
 g:Nat→Nat
structure XAt(w:World)(l:XL)(x:Xe):Prop where
 d:w.heap[l.D]? =some (.cells #[ptr l.T,ptr l.W,ptr l.E] 149 (0,0))
 tab:Tab w l.T l.b l.g x.c.lc x.c.lp x.c.pb x.c.s x.e.ps
 win:Win.At w l.W l.rv x.c.size x.c.all l.ring l.t
 rc:∃g,EAt w l.E l.v g∧Is g x.e.k
 ok:x.Ok
def XF(l:XL)(k:Nat):Prop:=EF l.E l.v k∨∃j,j<18∧k=l.g j
theorem XAt.off{w:World}{l:XL}{x:Xe}(h:XAt w l x){k:Nat}{c:Array Value}{t:TypeId}{fr:Nat×Nat}(b:w.heap[k]? =some (.cells c t fr))(d:t≠219)(f:t≠5)(i:t≠3):¬XF l k:=by
 obtain⟨g,a,_⟩:=h.rc;rintro((rfl|e)|⟨j,n,rfl⟩)
 ·rw[a.box] at b
  simp only[Option.some.injEq,Obj.cells.injEq] at b;exact d b.2.1.symm
 ·exact off_box a.own b f _ e rfl
 ·obtain⟨_,_,_,m,_⟩:=h.tab.set j n
  rw[m] at b;simp only[Option.some.injEq,Obj.cells.injEq] at b;exact i b.2.1.symm
structure XSep(l:XL):Prop where
 rv:∀k,l.rv.ownBlock=some k→l.v.ownBlock≠some k
def XPost(l:XL)(w:World)(x:Xe)(w':World):Prop:=Fr (XF l) w w'∧∃v',XAt w' {l with v:=v'} x∧XSep {l with v:=v'}∧∀k,v'.ownBlock=some k→l.v.ownBlock=some k∨w.heap.size≤k
def Xe.ops(x:Xe)(o:List Op):Xe:=⟨x.c,x.e.run o⟩
def onRow(j:Nat):Op→Prop
 |.bit k _ _=>k=j
 |.half _=>True
theorem run_row{j k:Nat}(a:k≠j):∀(o:List Op)(e:Es),(∀q ∈ o,onRow j q)→(e.run o).ps k=e.ps k
 |[],e,_=>rfl
 |q::o,e,h=>by
   rw[Es.run,run_row a o _ (fun r b=>h r (List.mem_cons_of_mem _ b))];have:=h q (List.mem_cons_self ..);cases q with
   |bit i _ _=>
     have e:i=j:=this;subst e;exact upd_other _ _ a
   |half _=>rfl
theorem XAt.post{w w':World}{l:XL}{x:Xe}(h:XAt w l x)(m:XSep l){o:List Op}(t:∀q ∈ o,q.Ok x.c.lc x.c.lp){f:Value}{g:G}(a:Fr (XF l) w w')(r:EAt w' l.E f g)(c:Is g (x.e.run o).k)(i:∀k,f.ownBlock=some k→l.v.ownBlock=some k∨w.heap.size≤k)(u:∀j,j<18→Prob.SetAt w' (l.b j) (l.g j) ((x.e.run o).ps j)):XPost l w (x.ops o) w':=by
 have d:=World.ownsRow.lt h.win.own;refine⟨a,f,⟨a.keep h.d (h.off h.d (by decide) (by decide) (by decide)),⟨a.keep h.tab.box (h.off h.tab.box (by decide) (by decide) (by decide)),u,h.tab.inj⟩,h.win.keep a (h.off h.win.box (by decide) (by decide) (by decide)) (fun k hk e=> ?_),⟨g,r,c⟩,⟨h.ok.c,(h.ok.e.run t).1⟩⟩,⟨fun k hk e=> ?_⟩,i⟩
 ·obtain⟨p,b⟩:=own_block h.win.own hk
  rcases e with(e|e)|⟨j,s,e⟩
  ·obtain⟨v,n,_⟩:=h.rc
   rw[e,n.box] at b;simp at b
  ·exact m.rv k hk e
  ·obtain⟨_,_,_,c,_⟩:=h.tab.set j s
   rw[e,c] at b;simp at b
 ·rcases i k e with e|e
  ·exact m.rv k hk e
  ·have:=(d k hk).2
   omega
theorem XPost.trans{w g h:World}{l:XL}{v1:Value}{x:Xe}(b:Fr (XF l) w g)(d:∀k,v1.ownBlock=some k→l.v.ownBlock=some k∨w.heap.size≤k)(i:XPost {l with v:=v1} g x h):XPost l w x h:=by
 obtain⟨f,j,a,s,n⟩:=i;refine⟨b.trans' f (fun k c e=> ?_),j,a,s,fun k c=> ?_⟩
 ·rcases e with(e|e)|e
  ·exact .inl (.inl e)
  ·rcases d k e with e|e
   ·exact .inl (.inr e)
   ·omega
  ·exact .inr e
 ·rcases n k c with e|e
  ·exact d k e
  ·exact .inr (Nat.le_trans b.size e)
theorem XAt.row{w w':World}{l:XL}{x:Xe}(h:XAt w l x)(u:XSep l){j:Nat}(d:j<18){o:List Op}(t:∀q ∈ o,q.Ok x.c.lc x.c.lp)(v:∀q ∈ o,onRow j q)(z:TPost l.E l.v (l.b j) (l.g j) w (x.e.run o) j w'):XPost l w (x.ops o) w':=by
 obtain⟨m,B,⟨g,a,r,y⟩,s⟩:=z;have c:Fr (XF l) w w':=m.mono (fun k _ e=>e.imp id (fun e=>⟨j,d,e⟩));refine h.post u t c a r s (fun i b=> ?_);by_cases e:i=j
 ·rw[e]
  exact y
 ·rw[run_row e o x.e v]
  obtain⟨A,n,_⟩:=h.rc;have f:=n.offSet (h.tab.set i b);have p:=h.off (h.tab.set i b).choose_spec.choose_spec.1 (by decide) (by decide) (by decide);refine(h.tab.set i b).step m (fun q=>p (q.imp id (fun q=>⟨j,d,q⟩))) (fun q=> ?_);rcases q with q|q
  ·exact f.2 q
  ·exact e (h.tab.inj i j b d q)
theorem XAt.tat{w:World}{l:XL}{x:Xe}(h:XAt w l x){j:Nat}(c:j<18):TAt w l.E l.v (l.b j) (l.g j) x.e j:=by
 obtain⟨g,a,b⟩:=h.rc;exact⟨g,a,b,h.tab.set j c⟩
theorem XAt.keep{w w':World}{l:XL}{x:Xe}(h:XAt w l x)(b:Fr (fun _=>False) w w'):XAt w' l x:=by
 obtain⟨g,a,c⟩:=h.rc;exact⟨b.keep h.d (fun h=>h),⟨b.keep h.tab.box (fun h=>h),fun j d=>(h.tab.set j d).keep b,h.tab.inj⟩,h.win.keep b (fun h=>h) (fun _ _ h=>h),⟨g,a.keep b (fun h=>h) (fun _ _ h=>h),c⟩,h.ok⟩
theorem tree_row(back:Bool)(j a n x:Nat):∀q m,∀o ∈ treeOps back j a n x q m,onRow j o
 |0,m,o,h=>by simp[treeOps] at h
 |q+1,m,o,h=>by
   rw[treeOps,List.mem_cons] at h;rcases h with rfl|h
   ·rfl
   ·exact tree_row back j a n x q _ o h
theorem tree_len(back:Bool)(j a n x:Nat):∀q m,(treeOps back j a n x q m).length=q
 |0,m=>rfl
 |q+1,m=>by rw[treeOps,List.length_cons,tree_len]
theorem rowLen_le{lc lp:Nat}(h:lc+lp≤4)(j:Nat):Lz.rowLen lc lp j≤12288:=by
 have a:2^(lc+lp)≤2^4:=Nat.pow_le_pow_right (by omega) h;unfold Lz.rowLen;repeat' split
 all_goals omega
abbrev sinkV(E:Nat):Value:=.agg #[ptr E]
def SPost(l:XL)(w:World)(x:Xe)(e:Ending)(w':World):Prop:=e=.returned (.tuple #[])∧XPost l w x w'
theorem XPost.box{w a b:World}{l:XL}{x:Xe}(c:Fr (fun _=>False) w a)(d:XPost l a x b):XPost l w x b:=XPost.trans (v1:=l.v) (c.mono (fun _ _ h=>h.elim)) (fun k hk=>.inl hk) d
theorem cbit_calls{w:World}{l:XL}{x:Xe}(h:XAt w l x)(g:XSep l){j i a:Nat}(c:Op.Ok x.c.lc x.c.lp (.bit j i a))(r:x.e.k.s≤1099511627000):
 Calls Tryz.prog 339 #[sinkV l.E,ptr (l.b j),.int .i64 i,.int .i64 a] w (SPost l w (x.ops [.bit j i a])):=by
 have b:=(R0 w).alloc (.cells #[ptr l.E] 242);have p:=Hd b;have m:=Hd (tbit_calls ((h.keep b).tat c.1) h.ok.e c (by omega));have k:=Hd (fun w'(d:TPost l.E l.v (l.b j) (l.g j) _ (x.e.op (.bit j i a)) j w')=>XPost.box b ((h.keep b).row g c.1 (o:=[.bit j i a]) (fun q hq=>by simp only[List.mem_singleton] at hq;subst hq;exact c) (fun q hq=>by simp only[List.mem_singleton] at hq;subst hq;rfl) d));clear h g c b;go_enter Tryz.func339,Tryz.ntmps339;go_wp2_with fail;refine m.out.mono ?_;rintro e n ⟨rfl,d⟩;have f:=Hd (k.out n d);clear d;go_wp2_with fail;go_end0;exact⟨rfl,f.out⟩
theorem ctree_calls{w:World}{l:XL}{x:Xe}(h:XAt w l x)(k:XSep l){j a n v:Nat}(c:j<18)(i:n≤16)(m:v<2^n)(g:a+2^n≤Lz.rowLen x.c.lc x.c.lp j)(s:x.e.k.s≤1099511627000):
 Calls Tryz.prog 341 #[sinkV l.E,ptr (l.b j),.int .i64 a,.int .i64 n,.int .i64 v] w (SPost l w (x.ops (treeOps false j a n v n 1))):=by
 have b:=(R0 w).alloc (.cells #[ptr l.E] 242);have q:=Hd (tput_calls ((h.keep b).tat c) h.ok.e i m g c (by omega) (by have:=rowLen_le h.ok.c.l j;omega));have p:=Hd (fun w'(d:TPost l.E l.v (l.b j) (l.g j) _ (x.e.run (treeOps false j a n v n 1)) j w')=>XPost.box b ((h.keep b).row k c (tree_reads (lc:=x.c.lc) (lp:=x.c.lp) false c m i g).1 (tree_row _ _ _ _ _ _ _) d));clear h k b;generalize treeOps false j a n v n 1=o at*;go_enter Tryz.func341,Tryz.ntmps341;go_wp2_with fail;refine q.out.mono ?_;rintro e r ⟨rfl,d⟩;have f:=Hd (p.out r d);clear d;go_wp2_with fail;go_end0;exact⟨rfl,f.out⟩
theorem cback_calls{w:World}{l:XL}{x:Xe}(h:XAt w l x)(k:XSep l){j a n v:Nat}(c:j<18)(i:n≤16)(m:v<2^n)(g:a+2^n≤Lz.rowLen x.c.lc x.c.lp j)(s:x.e.k.s≤1099511627000):
 Calls Tryz.prog 338 #[sinkV l.E,ptr (l.b j),.int .i64 a,.int .i64 n,.int .i64 v] w (SPost l w (x.ops (treeOps true j a n v n 1))):=by
 have b:=(R0 w).alloc (.cells #[ptr l.E] 242);have q:=Hd (tback_calls ((h.keep b).tat c) h.ok.e i m g c (by omega) (by have:=rowLen_le h.ok.c.l j;omega));have p:=Hd (fun w'(d:TPost l.E l.v (l.b j) (l.g j) _ (x.e.run (treeOps true j a n v n 1)) j w')=>XPost.box b ((h.keep b).row k c (tree_reads (lc:=x.c.lc) (lp:=x.c.lp) true c m i g).1 (tree_row _ _ _ _ _ _ _) d));clear h k b;generalize treeOps true j a n v n 1=o at*;go_enter Tryz.func338,Tryz.ntmps338;go_wp2_with fail;refine q.out.mono ?_;rintro e r ⟨rfl,d⟩;have f:=Hd (p.out r d);clear d;go_wp2_with fail;go_end0;exact⟨rfl,f.out⟩
theorem halves_k(x:Nat):∀n(e:Es),(e.run (halves x n)).k=e.k.halves x n∧(e.run (halves x n)).ps=e.ps
 |0,e=>⟨rfl,rfl⟩
 |n+1,e=>halves_k x n (e.op (.half (x/2^n%2)))
theorem halves_is{g:G}{k:K}(x:Nat):∀n,Is g k→Is (g.halves x n) (k.halves x n)
 |0,h=>h
 |n+1,h=>halves_is x n (h.half (by omega))
theorem cdirect_calls{w:World}{l:XL}{x:Xe}(h:XAt w l x)(k:XSep l){n v:Nat}(s:n≤32)(m:v<4294967296)(y:x.e.k.s≤1099511627000):
 Calls Tryz.prog 340 #[sinkV l.E,.int .i64 v,.int .i64 n] w (SPost l w (x.ops (halves v n))):=by
 have b:=(R0 w).alloc (.cells #[ptr l.E] 242);obtain⟨g,a,f⟩:=h.rc;have q:=Hd (direct_calls v n (a.keep b (fun h=>h) (fun _ _ h=>h)) f (by omega) s m);have p:=Hd (fun w'(c:EPost l.E l.v _ (g.halves v n) w')=>XPost.box b ((h.keep b).post k (o:=halves v n) (direct_go (lc:=x.c.lc) (lp:=x.c.lp) (x:=v) n).1 (c.1.mono (fun _ _ e=>.inl e)) c.2.choose_spec.1 (by rw[(halves_k v n x.e).1];exact halves_is v n f) c.2.choose_spec.2 (fun j i=>by
  rw[(halves_k v n x.e).2];obtain⟨u,r,_⟩:=(h.keep b).rc;have:=r.offSet ((h.keep b).tab.set j i);exact((h.keep b).tab.set j i).step c.1 this.1 this.2)))
 have z:IntKind.u32.wrap (v:Int)=(v:Int):=IntWalk.u32_in _ (by omega);clear h k b a f;generalize halves v n=o at*;generalize g.halves v n=g2 at*;clear m;go_enter Tryz.func340,Tryz.ntmps340;go_wp2_with fail;refine q.out.mono ?_;rintro e t ⟨rfl,c⟩;have d:=Hd (p.out t c);clear c;go_wp2_with fail;go_end0;exact⟨rfl,d.out⟩
end En
namespace En
open Mem Rc Win Lz St
structure XCells(w:World)(l:XL)(x:Xe):Prop where
 d0:w.cell? ⟨l.D,0,none⟩=some (ptr l.T)
 d1:w.cell? ⟨l.D,1,none⟩=some (ptr l.W)
 d2:w.cell? ⟨l.D,2,none⟩=some (ptr l.E)
 t0:w.cell? ⟨l.T,0,none⟩=some (.int .i64 x.c.lc)
 t1:w.cell? ⟨l.T,1,none⟩=some (.int .i64 x.c.lp)
 t2:w.cell? ⟨l.T,2,none⟩=some (.int .i64 x.c.pb)
 t3:w.cell? ⟨l.T,3,none⟩=some (.int .i64 x.c.s.num)
 t4:w.cell? ⟨l.T,4,none⟩=some (.int .i64 x.c.s.r0)
 t5:w.cell? ⟨l.T,5,none⟩=some (.int .i64 x.c.s.r1)
 t6:w.cell? ⟨l.T,6,none⟩=some (.int .i64 x.c.s.r2)
 t7:w.cell? ⟨l.T,7,none⟩=some (.int .i64 x.c.s.r3)
 row:∀j,j<18→w.cell? ⟨l.T,8+j,none⟩=some (ptr (l.b j))
theorem XAt.cells{w:World}{l:XL}{x:Xe}(h:XAt w l x):XCells w l x:=by
 refine⟨cell_in h.d rfl,cell_in h.d rfl,cell_in h.d rfl,cell_in h.tab.box rfl,cell_in h.tab.box rfl,cell_in h.tab.box rfl,cell_in h.tab.box rfl,cell_in h.tab.box rfl,cell_in h.tab.box rfl,cell_in h.tab.box rfl,cell_in h.tab.box rfl,fun j a=>cell_in h.tab.box ?_⟩;have:∀j,j<18→(tabV x.c.lc x.c.lp x.c.pb x.c.s l.b)[8+j]? =some (ptr (l.b j)):=by
  intro j a;match j,a with
  |0,_|1,_|2,_|3,_|4,_|5,_|6,_|7,_|8,_|9,_|10,_|11,_|12,_|13,_|14,_|15,_|16,_|17,_=>rfl
  |n+18,h=>omega
 exact this j a
theorem XAt.drewN{w:World}{l:XL}{x:Xe}(h:XAt w l x)(n:Nat):XAt (w.drewN n) l x:=h.keep ((Fr.refl _ _).drewN n)
theorem XAt.pos{w:World}{l:XL}{x:Xe}(h:XAt w l x)(m:Nat):Calls Tryz.prog 193 #[ptr l.W] (w.drewN m) fun e a=>e=.returned (.int .i64 x.c.all.length)∧w.drewN m=a:=
 Win.pos_calls l.W x.c.size l.t l.rv x.c.all l.ring _ (h.drewN m).win
theorem XAt.placeC{w:World}{l:XL}{x:Xe}(h:XAt w l x)(m:Nat):Calls Tryz.prog 240 #[ptr l.T,.int .i64 x.c.all.length] (w.drewN m) fun e a=>e=.returned (.int .i64 x.c.place)∧w.drewN m=a:=
 place_calls l.T x.c.all.length x.c.pb _ (h.drewN m).cells.t2 h.ok.c.pb (by have:=h.win.much;omega)
abbrev iV(E:Nat):Value:=.iface 242 (sinkV E)
theorem ops_ops(x:Xe)(o p:List Op):(x.ops o).ops p=x.ops (o++p):=by unfold Xe.ops;rw[Es.run_append]
theorem m_bit (k E : Nat) (w : World) : (method (k + 1) 242 (sinkV E) "pith/lzenc.bit").run Tryz.prog w = .ok (339, sinkV E) w := by kernel_rfl
theorem m_tree (k E : Nat) (w : World) : (method (k + 1) 242 (sinkV E) "pith/lzenc.tree").run Tryz.prog w = .ok (341, sinkV E) w := by kernel_rfl
theorem m_back (k E : Nat) (w : World) : (method (k + 1) 242 (sinkV E) "pith/lzenc.back").run Tryz.prog w = .ok (338, sinkV E) w := by kernel_rfl
theorem m_direct (k E : Nat) (w : World) : (method (k + 1) 242 (sinkV E) "pith/lzenc.direct").run Tryz.prog w = .ok (340, sinkV E) w := by kernel_rfl
theorem na_bit (k E : Nat) (w : World) : (nilAhead (k + 1) 242 (sinkV E) "pith/lzenc.bit").run Tryz.prog w = .ok (some false) w := by kernel_rfl
theorem na_tree (k E : Nat) (w : World) : (nilAhead (k + 1) 242 (sinkV E) "pith/lzenc.tree").run Tryz.prog w = .ok (some false) w := by kernel_rfl
theorem na_back (k E : Nat) (w : World) : (nilAhead (k + 1) 242 (sinkV E) "pith/lzenc.back").run Tryz.prog w = .ok (some false) w := by kernel_rfl
set_option maxRecDepth 4000 in
theorem length_calls{w:World}{l:XL}{x:Xe}(h:XAt w l x)(g:XSep l){q n:Nat}(hq:q=7∨q=11)(h1:2≤n)(h2:n≤273)(hs:x.e.k.s≤1099511620000):
 Calls Tryz.prog 195 #[ptr l.D,iV l.E,.agg #[ptr (l.b q),ptr (l.b (q+1)),ptr (l.b (q+2)),ptr (l.b (q+3))],.int .i64 n] w (SPost l w (x.ops (lenOps x.c q n))):=by
 have hf:=(R0 w).alloc (.cells #[ptr (l.b q),ptr (l.b (q+1)),ptr (l.b (q+2)),ptr (l.b (q+3))] 214);have hx:=heap_alloc_new w (.cells #[ptr (l.b q),ptr (l.b (q+1)),ptr (l.b (q+2)),ptr (l.b (q+3))] 214);have M:=h.keep hf;have HF:=Hd hf;have Y:=Hd g;clear h g hf;have a9:=place_lt x.c M.ok.c;obtain⟨S,N⟩:∃a,a=8*x.c.place:=⟨_,rfl⟩;have b0:8*(x.c.place:Int)=(S:Int):=by omega
 have C:S+8≤128:=by omega
 have a1:=Hd (show n<10→lenOps x.c q n=[.bit q 0 0]++treeOps false (q+1) S 3 (n-2) 3 1 from fun k=>by unfold lenOps;rw[if_pos k,N]);have a4:=Hd (show¬n<10→n<18→lenOps x.c q n=[.bit q 0 1]++([.bit q 1 0]++treeOps false (q+2) S 3 (n-10) 3 1) from fun k T=>by unfold lenOps;rw[if_neg k,if_pos T,N]);have a5:=Hd (show¬n<10→¬n<18→lenOps x.c q n=[.bit q 0 1]++([.bit q 1 1]++treeOps false (q+3) 0 8 (n-18) 8 1) from fun k T=>by unfold lenOps;rw[if_neg k,if_neg T]);go_enter Tryz.func195,Tryz.ntmps195;go_wp2_with fail;generalize hW:w.alloc (.cells #[ptr (l.b q),ptr (l.b (q+1)),ptr (l.b (q+2)),ptr (l.b (q+3))] 214)=W at*;have A:=Hd M.pos;have X:=Hd M.placeC;have c0:=M.cells.d0;have c1:=M.cells.d1;have HX:=Hd hx;have HA:=Hd M;clear hW hx M N;go_quiet (first|exact quiet_left (A.out _)|exact quiet_left (X.out _));have P:=((R0 W).drewN nq).keep HX.out (fun h=>h);have J:=Hd P;have m:=Hd (HA.out.drewN nq);have a0:=Hd (HF.out.drewN nq);clear A X HX HA HF c0 c1;generalize W.drewN nq=W1 at*;have z0:=cell_in (i:=0) P rfl;clear P;have a6:=fun k=>m_bit k l.E;have a7:=fun k=>m_tree k l.E;have p:=Hd (show∀(W:World)(l':XL)(x':Xe)(Q:World),XAt W l' x'→W.heap[w.heap.size]? =some (.cells #[ptr (l.b q),ptr (l.b (q+1)),ptr (l.b (q+2)),ptr (l.b (q+3))] 214 (0,0))→Fr (XF l') W Q→Q.heap[w.heap.size]? =some (.cells #[ptr (l.b q),ptr (l.b (q+1)),ptr (l.b (q+2)),ptr (l.b (q+3))] 214 (0,0)) from fun W l' x' Q ha hb hf=>hf.keep hb (ha.off hb (by decide) (by decide) (by decide)));have s:=Hd (show∀(o:List Op)(Q:World),lenOps x.c q n=o→XPost l W1 (x.ops o) Q→XPost l w (x.ops (lenOps x.c q n)) Q from fun o Q e g=>by rw[e];exact XPost.box a0.out g);have f:=Hd (show∀(i c:Nat),i<2→c≤1→Op.Ok x.c.lc x.c.lp (.bit q i c) from fun i c hi hc=>⟨by omega,by rcases hq with rfl|rfl<;>exact hi,hc⟩);by_cases k1:n<10
 ·have d1:decide ((n:Int)-2<8)=true:=decide_eq_true (by omega)
  have B:(n:Int)-2=((n-2:Nat):Int):=by omega
  have hc:=cbit_calls m.out Y.out (f.out 0 0 (by omega) (by omega)) (by omega);have HC:=Hd hc;have U:=Hd (a1.out k1);have E2:=Hd B;clear hc B;go_wp2_with fail;refine HC.out.mono ?_;rintro e w2 ⟨rfl,u,v2,z,E,D⟩;have b:=p.out _ _ _ _ m.out J.out u;have z1:=cell_in (i:=1) b rfl;have R:=Hd (ctree_calls (j:=q+1) (a:=S) (n:=3) (v:=n-2) z E (by omega) (by omega) (by omega) (by rcases hq with rfl|rfl<;>exact C) (by have:=run_s [.bit q 0 0] x.e;simp only[List.length_singleton] at this;exact Nat.le_trans this (by omega)));rw[←E2.out] at R;have r:=Hd u;have t:=Hd D;clear u z E D b z0;go_wp2_with fail;refine R.out.mono ?_;rintro e w3 ⟨rfl,g⟩;have V:=Hd (s.out _ w3 U.out (by rw[←ops_ops];exact XPost.trans r.out t.out g));clear g;go_wp2_with fail;go_end0;exact⟨rfl,V.out⟩
 have c1:=cbit_calls m.out Y.out (f.out 0 1 (by omega) (by omega)) (by omega);have HC:=Hd c1;have d1:decide ((n:Int)-2<8)=false:=decide_eq_false (by omega);clear c1;by_cases T:n<18
 ·have d2:decide ((n:Int)-2<16)=true:=decide_eq_true (by omega)
  have U:=Hd (a4.out k1 T);go_wp2_with fail;refine HC.out.mono ?_;rintro e w2 ⟨rfl,u,v2,z,E,D⟩;have b:=p.out _ _ _ _ m.out J.out u;have z1:=cell_in (i:=0) b rfl;have d:=run_s [.bit q 0 1] x.e;simp only[List.length_singleton] at d;have HU:=Hd d;have G:=Hd (cbit_calls z E (f.out 1 0 (by omega) (by omega)) (Nat.le_trans d (by omega)));have r:=Hd u;have t:=Hd D;have F:=Hd z;have K:=Hd b;clear u z E D b z0 d;go_wp2_with fail;refine G.out.mono ?_;rintro e w3 ⟨rfl,L,v3,Z,s3,n3⟩;have y:=p.out _ _ _ _ F.out K.out L;have z2:=cell_in (i:=2) y rfl;have d:=run_s [.bit q 1 0] (x.e.run [.bit q 0 1]);simp only[List.length_singleton] at d;have O:=ctree_calls (j:=q+2) (a:=S) (n:=3) (v:=n-10) Z s3 (by omega) (by omega) (by omega) (by rcases hq with rfl|rfl<;>exact C) (Nat.le_trans d (by have:=HU.out;omega));have B:((n-10:Nat):Int)=(n:Int)-2-8:=by omega
  rw[B] at O;have R:=Hd O;have H:=Hd L;have I:=Hd n3;clear L Z s3 n3 y z1 d O B;go_wp2_with fail;refine R.out.mono ?_;rintro e w4 ⟨rfl,g⟩;have V:=Hd (s.out _ w4 U.out (by rw[←ops_ops,←ops_ops];exact XPost.trans r.out t.out (XPost.trans H.out I.out g)));clear g;go_wp2_with fail;go_end0;exact⟨rfl,V.out⟩
 ·have d2:decide ((n:Int)-2<16)=false:=decide_eq_false (by omega)
  have U:=Hd (a5.out k1 T);go_wp2_with fail;refine HC.out.mono ?_;rintro e w2 ⟨rfl,u,v2,z,E,D⟩;have b:=p.out _ _ _ _ m.out J.out u;have z1:=cell_in (i:=0) b rfl;have d:=run_s [.bit q 0 1] x.e;simp only[List.length_singleton] at d;have HU:=Hd d;have G:=Hd (cbit_calls z E (f.out 1 1 (by omega) (by omega)) (Nat.le_trans d (by omega)));have r:=Hd u;have t:=Hd D;have F:=Hd z;have K:=Hd b;clear u z E D b z0 d;go_wp2_with fail;refine G.out.mono ?_;rintro e w3 ⟨rfl,L,v3,Z,s3,n3⟩;have y:=p.out _ _ _ _ F.out K.out L;have z2:=cell_in (i:=3) y rfl;have d:=run_s [.bit q 1 1] (x.e.run [.bit q 0 1]);simp only[List.length_singleton] at d;have O:=ctree_calls (j:=q+3) (a:=0) (n:=8) (v:=n-18) Z s3 (by omega) (by omega) (by omega) (by rcases hq with rfl|rfl<;>exact(show 0+2^8≤256 by decide)) (Nat.le_trans d (by have:=HU.out;omega));have B:((n-18:Nat):Int)=(n:Int)-2-16:=by omega
  rw[B] at O;have R:=Hd O;have H:=Hd L;have I:=Hd n3;clear L Z s3 n3 y z1 d O B;go_wp2_with fail;refine R.out.mono ?_;rintro e w4 ⟨rfl,g⟩;have V:=Hd (s.out _ w4 U.out (by rw[←ops_ops,←ops_ops];exact XPost.trans r.out t.out (XPost.trans H.out I.out g)));clear g;go_wp2_with fail;go_end0;exact⟨rfl,V.out⟩
end En
namespace Wire
open Mem Win
structure Wr(w0 w:World)(B:Nat)(v:Value)(bs:List UInt8):Prop where
 box:w.heap[B]? =some (.cells #[.int .i64 bs.length,v] 300 (0,0))
 own:Mine w0 w v bs
 new:w0.heap.size≤B
 apart:∀k,v.ownBlock=some k→k≠B
theorem onT_calls(B n k:Nat)(v:Value)(T:TypeId)(w:World)(h:w.heap[B]? =some (.cells #[.int .i64 n,v] T (0,0)))(d:n+k≤9223372036854775807):
 Calls Tryz.prog 175 #[.pointer (some ⟨B,0,none⟩),.int .i64 k] w fun e a=>e=.returned (.tuple #[])∧Fr (fun k=>k=B) w a∧a.heap[B]? =some (.cells #[.int .i64 ((n+k:Nat):Int),v] T (0,0)):=by
 have b:w.cell? ⟨B,0,none⟩=some (.int .i64 n):=cell_in h rfl;have c:=frozen_in h 0;have f:IntKind.i64.wrap ((n:Int)+k)=((n+k:Nat):Int):=by rw[IntWalk.i64_in _ (by omega)];omega
 have H:=Hd h;clear h;generalize n+k=nk at*;go_enter Tryz.func175,Tryz.ntmps175;go_wp2_with fail;go_end0;exact⟨rfl,Fr.one _ _ _ _,by rw[set_in H.out 0];rfl⟩
theorem newWriter_calls(w:World):Calls Tryz.prog 115 #[] w fun e a=>e=.returned (.pointer (some ⟨w.heap.size,0,none⟩))∧Fr (fun _=>False) w a∧Wr w a w.heap.size (.slice none 0 0) []:=by
 go_enter Tryz.func115,Tryz.ntmps115;go_wp2_with fail;go_ret;exact⟨rfl,(Fr.refl _ w).alloc _,heap_alloc_new w _,Mine.nil _ _,Nat.le_refl _,fun k b=>by simp[Value.ownBlock] at b⟩
theorem Wr.on{w0 w e f:World}{B:Nat}{v v2:Value}{l b:List UInt8}(h:Wr w0 w B v l)(o:w0.heap.size≤w.heap.size)(W:World)(j:Fr (fun _=>False) w W)(m:Mine w0 e v2 b)(g:Fr (fun k=>v.ownBlock=some k) W e)(d:∀k,v2.ownBlock=some k→v.ownBlock=some k∨W.heap.size≤k)
 (a:Fr (fun k=>k=B) (e.setCell ⟨B,1,none⟩ v2) f)(n:f.heap[B]? =some (.cells #[.int .i64 b.length,v2] 300 (0,0))):Wr w0 f B v2 b∧Fr (fun k=>w0.heap.size≤k) w f:=by
 have p:=lt_of_block h.box;have c:∀k,v2.ownBlock=some k→k≠B:=fun k hk=>by
  rcases d k hk with i|i
  ·exact h.apart k i
  ·have:=j.size
   omega
 refine⟨⟨n,(m.step ((Fr.one e B 1 v2).trans a) (fun k hk=>c k hk)),h.new,c⟩,?_⟩;have q:=h.new;refine((j.mono (fun _ _ h=>h.elim)).trans' g (fun k _ hk=>h.own.new k hk)).trans (((Fr.one e B 1 v2).trans a).mono (fun k _ hk=> ?_));show w0.heap.size≤k;omega
theorem add_calls{w0 w:World}(B:Nat)(v:Value)(m:List UInt8)(c:UInt8)(x:Int)(L:x=(c.toNat:Int))(h:Wr w0 w B v m)(s:w0.heap.size≤w.heap.size)(K:m.length≤1000000):
 Calls Tryz.prog 177 #[.pointer (some ⟨B,0,none⟩),.int .u8 x] w fun e O=>e=.returned (.tuple #[])∧∃v',Wr w0 O B v' (m++[c])∧Fr (fun k=>w0.heap.size≤k) w O:=by
 obtain⟨p,n,rfl⟩:=h.own.slice;have S:w.cell? ⟨B,1,none⟩=some (.slice p m.length n):=cell_in h.box rfl;have u:=Hd ((R0 w).alloc (.cells #[.int .u8 x] 5));have G:=Hd (rd_one w w.heap.size rfl c x L);have P:=Hd h;have o:=Hd s;have A:=Hd (u.out.keep h.box (fun h=>h));have R:=Hd (h.own.keep u.out);have J:=Hd K;obtain⟨y,f⟩:∃y,y=m.length:=⟨_,rfl⟩;have d:=Hd f;rw[←f] at S;have z:=Hd (show∀k,(Value.slice p y n).ownBlock=some k→k≠B from fun k T=>h.apart k (by rw[←f];exact T));clear h s L K f;go_enter Tryz.func177,Tryz.ntmps177;go_wp2_with (at_builtin;refine append_mine rfl _ _ rfl (w0:=w0) (.slice p y n) (.slice (some ⟨w.heap.size,0,none⟩) 1 1) m [c] rfl rfl (by rw[d.out];exact R.out) (Nat.le_trans o.out u.out.size) G.out (by have:=J.out;simp only[List.length_singleton];omega) ?_;intro N j M U t q a b;have g:=a.keep A.out (fun h=>z.out B h rfl);have W:=cell_in (i:=1) g rfl;have X:=frozen_in g 1;have H:=Hd g;have D:=Hd q;have C:=Hd a;have E:=Hd b;have Q:=Hd t;clear g q a b t);have F:=Hd (onT_calls B m.length 1 (.slice N M j) 300 (U.setCell ⟨B,1,none⟩ (.slice N M j)) (by rw[set_in H.out 1,←d.out];rfl) (by have:=J.out;omega));go_wp2_with fail;refine F.out.mono ?_;rintro e V ⟨rfl,l,r⟩;have I:=Hd (Wr.on P.out o.out _ u.out D.out (by have:=C.out;rw[d.out] at this;exact this) (by have:=E.out;rw[d.out] at this;exact this) l (by rw[List.length_append];exact r));clear l r;go_wp2_with fail;go_end0;exact⟨rfl,_,I.out⟩
theorem wput_calls{w0 w:World}(B:Nat)(v:Value)(l A:List UInt8)(q:Option Addr)(n M:Nat)(h:Wr w0 w B v l)(u:w0.heap.size≤w.heap.size)(y:Rd w (.slice q n M) A)(O:l.length+A.length≤1000000)(z:A.length=n):
 Calls Tryz.prog 116 #[.pointer (some ⟨B,0,none⟩),.slice q n M] w fun e R=>e=.returned (.tuple #[])∧∃v',Wr w0 R B v' (l++A)∧Fr (fun k=>w0.heap.size≤k) w R:=by
 obtain⟨p,m,rfl⟩:=h.own.slice;have T:w.cell? ⟨B,1,none⟩=some (.slice p l.length m):=cell_in h.box rfl;have J:=Hd y;have F:=Hd h;have o:=Hd u;have N:=Hd O;have r:=Hd z;obtain⟨C,c⟩:∃C,C=l.length:=⟨_,rfl⟩;have j:=Hd c;rw[←c] at T;have D:=Hd (show∀k,(Value.slice p C m).ownBlock=some k→k≠B from fun k U=>h.apart k (by rw[←c];exact U));clear h u O c y z;go_enter Tryz.func116,Tryz.ntmps116;go_wp2_with (at_builtin;refine append_mine rfl _ _ rfl (w0:=w0) (.slice p C m) (.slice q n M) l A rfl rfl (by rw[j.out];exact F.out.own) o.out J.out (by have:=N.out;omega) ?_;intro Q f P V x s a b;have d:=a.keep F.out.box (fun h=>D.out B h rfl);have X:=cell_in (i:=1) d rfl;have Y:=frozen_in d 1;have K:=Hd d;have G:=Hd s;have E:=Hd a;have H:=Hd b;have S:=Hd x;clear d s a b x);have I:=Hd (onT_calls B l.length n (.slice Q P f) 300 (V.setCell ⟨B,1,none⟩ (.slice Q P f)) (by rw[set_in K.out 1];rfl) (by have:=N.out;have:=r.out;omega));go_wp2_with fail;refine I.out.mono ?_;rintro e W ⟨rfl,g,t⟩;have L:=Hd (Wr.on F.out o.out _ (Fr.refl _ _) G.out (by have:=E.out;rw[j.out] at this;exact this) (by have:=H.out;rw[j.out] at this;exact this) g (by rw[List.length_append,r.out];exact t));clear g t;go_wp2_with fail;go_end0;exact⟨rfl,_,L.out⟩
theorem bytes_calls{w0 w:World}(B:Nat)(v:Value)(a:List UInt8)(h:Wr w0 w B v a)(q:0<a.length)(E:a.length≤1000000):
    Calls Tryz.prog 118 #[.pointer (some ⟨B,0,none⟩)] w fun e s=>Fr (fun _=>False) w s∧∃p b,e=.returned (.slice p a.length b)∧Mine w s (.slice p a.length b) a:=by
  obtain⟨p,b,rfl⟩:=h.own.slice;have l:=h.own.rd;have C:w.cell? ⟨B,1,none⟩=some (.slice p a.length b):=cell_in h.box rfl;have d:=(R0 w).alloc (.cells (Array.replicate a.length (.int .u8 0)) 5);have r:=heap_alloc_new w (.cells (Array.replicate a.length (.int .u8 0)) 5);have z:=make_u8 a.length (by omega);have j:(w.alloc (.cells (Array.replicate a.length (.int .u8 0)) 5)).ownsRow 0 5 1 (.slice (some ⟨w.heap.size,0,none⟩) a.length a.length) a.length (bvs (List.replicate a.length 0)):=by
    refine own_row (g:=w.heap.size) ?_ (by simp[bvs]) (by simp only[maxLen];omega);rw[r];simp[bvs,bv]
  have G:(w.alloc (.cells (Array.replicate a.length (.int .u8 0)) 5)).cell? ⟨B,1,none⟩=some (.slice p a.length b):=cell_in (d.keep h.box (fun h=>h)) rfl;have u:=Hd j;have x:=Hd (l.keep d);have t:=Hd d;have A:=Tryz.underlying22;clear l d r j h;go_enter Tryz.func118,Tryz.ntmps118
  go_wp2_with (refine wpList_copy_any rfl (.tmp 10) (.tmp 14) 22 22 5 rfl A sizeU8 (some ⟨w.heap.size,0,none⟩) a.length a.length 0 (List.replicate a.length 0) 5 (by rw[dropP_zero];rfl) u.out q p a.length b a rfl x.out q a.length (by omega) ?_
               intro F c f;have n:=Hd c;have m:=Hd f;clear c f)
  go_ret;have o:=n.out;simp only[List.take_zero,List.nil_append,Nat.zero_add] at o;rw[List.drop_of_length_le (by simp),List.append_nil,List.take_length] at o;refine⟨t.out.trans' m.out (fun i D h=> ?_),_,_,rfl,o,fun k y=>by simp only[Value.ownBlock,Option.some.injEq] at y;omega⟩;simp only[Value.ownBlock,Option.some.injEq] at h;omega
end Wire
namespace Enc
open Mem Win
end Enc
namespace Enc
open Mem Win
theorem sized_raw(k n lc lp pb:Nat)(d:k=1∨k=2)(w:World):Calls Tryz.prog 114 #[.agg #[.int .i64 k,.int .i64 n,.int .i64 n,.int .i64 lc,.int .i64 lp,.int .i64 pb]] w fun e m=>e=.returned (.bool (decide (1≤n∧n≤65536)))∧Fr (fun _=>False) w m:=by
 have a:=Hd ((R0 w).alloc (.cells #[.int .i64 k,.int .i64 n,.int .i64 n,.int .i64 lc,.int .i64 lp,.int .i64 pb] 47));have h:=heap_alloc_new w (.cells #[.int .i64 k,.int .i64 n,.int .i64 n,.int .i64 lc,.int .i64 lp,.int .i64 pb] 47);obtain⟨p,r,s⟩:=cs3 h rfl rfl rfl;clear h;generalize g:decide (1≤n∧n≤65536)=q;have b:=Hd g;clear g;have o:((n:Int)==(n:Int))=true:=by simp
 by_cases c:1≤n
 ·have i:decide ((n:Int)≥1)=true:=by simp;omega
  have j:decide ((1:Int)≤n)=true:=by simp;omega
  by_cases f:n≤65536
  ·have l:decide ((n:Int)≤65536)=true:=by simp;omega
   rcases d with rfl|rfl;all_goals
    go_enter Tryz.func114,Tryz.ntmps114;go_wp2_with fail;go_ret;exact⟨by rw[←b.out];simp[c,f],a.out⟩
  ·have l:decide ((n:Int)≤65536)=false:=by simp;omega
   rcases d with rfl|rfl;all_goals
    go_enter Tryz.func114,Tryz.ntmps114;go_wp2_with fail;go_ret;exact⟨by rw[←b.out];simp[c,f],a.out⟩
 ·have i:decide ((n:Int)≥1)=false:=by simp;omega
  have j:decide ((1:Int)≤n)=false:=by simp;omega
  rcases d with rfl|rfl;all_goals
   go_enter Tryz.func114,Tryz.ntmps114;go_wp2_with fail;go_ret;exact⟨by rw[←b.out];simp[c],a.out⟩
theorem sized_packed(k n m lc lp pb:Nat)(r:k=3∨k=4∨k=5∨k=6)(w:World):Calls Tryz.prog 114 #[.agg #[.int .i64 k,.int .i64 n,.int .i64 m,.int .i64 lc,.int .i64 lp,.int .i64 pb]] w fun e z=>e=.returned (.bool (En.sizedP n m))∧Fr (fun _=>False) w z:=by
 have b:=Hd ((R0 w).alloc (.cells #[.int .i64 k,.int .i64 n,.int .i64 m,.int .i64 lc,.int .i64 lp,.int .i64 pb] 47));have i:=heap_alloc_new w (.cells #[.int .i64 k,.int .i64 n,.int .i64 m,.int .i64 lc,.int .i64 lp,.int .i64 pb] 47);obtain⟨A,B,C⟩:=cs3 i rfl rfl rfl;clear i;generalize g:En.sizedP n m=q;unfold En.sizedP at g;have c:=Hd g;clear g;have j:(1≤n∧decide ((n:Int)≥1)=true∧decide ((1:Int)≤n)=true)∨(¬1≤n∧decide ((n:Int)≥1)=false∧decide ((1:Int)≤n)=false):=by simp;omega
 have l:(n≤2097152∧decide ((n:Int)≤2097152)=true)∨(¬n≤2097152∧decide ((n:Int)≤2097152)=false):=by simp;omega
 have o:(1≤m∧decide ((m:Int)≥1)=true∧decide ((1:Int)≤m)=true)∨(¬1≤m∧decide ((m:Int)≥1)=false∧decide ((1:Int)≤m)=false):=by simp;omega
 have p:(m≤65536∧decide ((m:Int)≤65536)=true)∨(¬m≤65536∧decide ((m:Int)≤65536)=false):=by simp;omega
 rcases r with rfl|rfl|rfl|rfl;all_goals
  rcases j with⟨a,s,t⟩|⟨a,s,t⟩
  ·rcases l with⟨d,u⟩|⟨d,u⟩
   ·rcases o with⟨f,v,x⟩|⟨f,v,x⟩
    ·rcases p with⟨h,y⟩|⟨h,y⟩
     all_goals
      go_enter Tryz.func114,Tryz.ntmps114;go_wp2_with fail;go_ret;exact⟨by rw[←c.out];simp[a,d,f,h],b.out⟩
    ·go_enter Tryz.func114,Tryz.ntmps114
     go_wp2_with fail;go_ret;exact⟨by rw[←c.out];simp[a,d,f],b.out⟩
   ·go_enter Tryz.func114,Tryz.ntmps114
    go_wp2_with fail;go_ret;exact⟨by rw[←c.out];simp[a,d],b.out⟩
  ·go_enter Tryz.func114,Tryz.ntmps114
   go_wp2_with fail;go_ret;exact⟨by rw[←c.out];simp[a],b.out⟩
end Enc
namespace Wire
open Mem Win
theorem whigh_calls{w0 w:World}(B:Nat)(v:Value)(n:List UInt8)(x:Nat)(C:x<16777216)(h:Wr w0 w B v n)(p:w0.heap.size≤w.heap.size)(A:n.length≤1000):
 Calls Tryz.prog 117 #[.pointer (some ⟨B,0,none⟩),.int .u64 x,.int .i64 2] w fun e D=>e=.returned (.int .i64 0)∧∃m,Wr w0 D B m (n++[UInt8.ofNat (x/256),UInt8.ofNat (x%256)])∧Fr (fun k=>w0.heap.size≤k) w D:=by
 have q:=Hd p;have E:=Hd h;have t:=Hd A;have u:=Hd C;clear h p A C;go_enter Tryz.func117,Tryz.ntmps117;go_wp2_with fail;refine(wide_calls _).mono ?_;rintro e I ⟨rfl,rfl⟩;go_wp2_with fail;go_loopw [12] (fun i wr=>∃(k:Nat)(m:Value),k≤2∧i=.int .i64 k∧Wr w0 wr B m (n++[UInt8.ofNat (x/256),UInt8.ofNat (x%256)].take k)∧Fr (fun k=>w0.heap.size≤k) w wr) (fun i _=>2-(intOf i).toNat);case atStart=>exact⟨0,v,by omega,rfl,by simpa using E.out,Fr.refl _ _⟩
 case round=>
  obtain⟨k,m,G,rfl,z,l⟩:=hrel;have c:=Nat.le_trans q.out l.size;have g:=Hd l;have o:=Hd c;have r:=Hd z;clear l c z;have F:k=0∨k=1∨k=2:=by omega
  clear G;rcases F with rfl|rfl|rfl
  ·have d:=fun(y:Int)(hy:y=((UInt8.ofNat (x/256)).toNat:Int))=>Hd (add_calls (w0:=w0) (w:=wr) B m n (UInt8.ofNat (x/256)) y hy (by simpa using r.out) o.out (by have:=t.out;omega))
   go_wp2_with fail;refine(d _ ?_).out.mono ?_
   ·have:=u.out
    rw[UInt8.toNat_ofNat'];simp<;>omega
   rintro e H ⟨rfl,s,b,a⟩;have j:=Hd b;have f:=Hd a;clear b a;go_wp2_with fail;go_roundw;case rel=>exact⟨1,s,by omega,by go_num,by simpa using j.out,g.out.trans f.out⟩
   case measure=>simp[intOf]
  ·have d:=fun(y:Int)(hy:y=((UInt8.ofNat (x%256)).toNat:Int))=>Hd (add_calls (w0:=w0) (w:=wr) B m (n++[UInt8.ofNat (x/256)]) (UInt8.ofNat (x%256)) y hy (by simpa using r.out) o.out (by have:=t.out;rw[List.length_append,List.length_singleton];omega))
   go_wp2_with fail;refine(d _ ?_).out.mono ?_
   ·have:=u.out
    rw[UInt8.toNat_ofNat'];simp<;>omega
   rintro e H ⟨rfl,s,b,a⟩;have j:=Hd b;have f:=Hd a;clear b a;go_wp2_with fail;go_roundw;case rel=>exact⟨2,s,by omega,by go_num,by simpa using j.out,g.out.trans f.out⟩
   case measure=>simp[intOf]
  ·go_wp2_with fail
   go_ret;exact⟨rfl,m,by simpa using r.out,g.out⟩
end Wire
namespace Enc
open Mem Win
theorem hput_raw(k m lc lp pb:Nat)(F:k=1∨k=2)(hm:m<65536)(w:World):Calls Tryz.prog 67 #[.agg #[.int .i64 k,.int .i64 (m+1:Nat),.int .i64 (m+1:Nat),.int .i64 lc,.int .i64 lp,.int .i64 pb]] w fun e T=>Fr (fun _=>False) w T∧∃p j,e=.returned (.tuple #[.slice p 3 j,.int .i64 0])∧Mine w T (.slice p 3 j) [UInt8.ofNat k,UInt8.ofNat (m/256),UInt8.ofNat (m%256)]:=by
 have K:=fun W=>Hd (sized_raw k (m+1) lc lp pb F W);rw[show decide (1≤m+1∧m+1≤65536)=true by simp;omega] at K;have R:=Hd ((R0 w).alloc (.cells #[.int .i64 k,.int .i64 (m+1:Nat),.int .i64 (m+1:Nat),.int .i64 lc,.int .i64 lp,.int .i64 pb] 47));have N:=heap_alloc_new w (.cells #[.int .i64 k,.int .i64 (m+1:Nat),.int .i64 (m+1:Nat),.int .i64 lc,.int .i64 lp,.int .i64 pb] 47);have S:=Hd N;obtain⟨U,V⟩:=cs2 N rfl rfl;clear N;rcases F with rfl|rfl
 ·go_enter Tryz.func67,Tryz.ntmps67
  go_wp2_with fail;refine(K _).out.mono ?_;rintro e i ⟨rfl,a⟩;have f:=a.keep S.out (fun h=>h);obtain⟨Z,c1⟩:=cs2 f rfl rfl;have s:=Hd f;have n:=Hd (R.out.trans a);clear a f U V;go_wp2_with fail;refine(Wire.newWriter_calls _).mono ?_;rintro e A ⟨rfl,a,I⟩;have g:=a.keep s.out (fun h=>h);obtain⟨d0,d1⟩:=cs2 g rfl rfl;have E:=Hd g;have o:=Hd a;have z:=Hd I;clear a g I;go_wp2_with fail;have l:=(R0 A).alloc (.cells #[.int .u8 1] 5);have v:=rd_one A A.heap.size rfl 1 1 rfl;refine(Wire.wput_calls (w0:=i) i.heap.size (.slice none 0 0) [] [1] (some ⟨A.heap.size,0,none⟩) 1 1 ⟨l.keep z.out.box (fun h=>h),z.out.own.keep l,z.out.new,z.out.apart⟩ (Nat.le_trans o.out.size l.size) v (by decide) rfl).mono ?_;rintro e Q ⟨rfl,O,t,b⟩;have x:=b.keep (l.keep E.out (fun h=>h)) (by have:=lt_of_block s.out;omega);obtain⟨X,Y⟩:=cs2 x rfl rfl;have C:=Hd t;have q:=Hd ((o.out.trans l).trans' b (fun k L M=>by omega));clear b x t l v;have J:=fun(y:Int)(hy:y=(m:Int))=>Hd (show Calls Tryz.prog 117 #[.pointer (some ⟨i.heap.size,0,none⟩),.int .u64 y,.int .i64 2] Q _ from hy ▸ Wire.whigh_calls (w0:=i) i.heap.size O [1] m (by omega) C.out q.out.size (by decide));go_wp2_with fail;refine(J _ ?_).out.mono ?_
  ·try simp
   try omega
  rintro e w4 ⟨rfl,P,u,c⟩;have D:=Hd u;have r:=Hd (q.out.trans' c (fun k L M=>by omega));clear c u;go_wp2_with fail;refine(Wire.bytes_calls (w0:=i) i.heap.size P [1,UInt8.ofNat (m/256),UInt8.ofNat (m%256)] D.out (by simp) (by simp)).mono ?_;rintro e w5 ⟨d,p,j,rfl,H⟩;have G:=Hd H;have B:=Hd d;clear d H;go_wp2_with fail;go_ret2;exact⟨n.out.trans (r.out.trans B.out),p,j,rfl,G.out.own,fun k F=>Nat.le_trans (Nat.le_trans n.out.size r.out.size) (G.out.new k F)⟩
 ·go_enter Tryz.func67,Tryz.ntmps67
  go_wp2_with fail;refine(K _).out.mono ?_;rintro e i ⟨rfl,a⟩;have f:=a.keep S.out (fun h=>h);obtain⟨Z,c1⟩:=cs2 f rfl rfl;have s:=Hd f;have n:=Hd (R.out.trans a);clear a f U V;go_wp2_with fail;refine(Wire.newWriter_calls _).mono ?_;rintro e A ⟨rfl,a,I⟩;have g:=a.keep s.out (fun h=>h);obtain⟨d0,d1⟩:=cs2 g rfl rfl;have E:=Hd g;have o:=Hd a;have z:=Hd I;clear a g I;go_wp2_with fail;have l:=(R0 A).alloc (.cells #[.int .u8 2] 5);have v:=rd_one A A.heap.size rfl 2 2 rfl;refine(Wire.wput_calls (w0:=i) i.heap.size (.slice none 0 0) [] [2] (some ⟨A.heap.size,0,none⟩) 1 1 ⟨l.keep z.out.box (fun h=>h),z.out.own.keep l,z.out.new,z.out.apart⟩ (Nat.le_trans o.out.size l.size) v (by decide) rfl).mono ?_;rintro e Q ⟨rfl,O,t,b⟩;have x:=b.keep (l.keep E.out (fun h=>h)) (by have:=lt_of_block s.out;omega);obtain⟨X,Y⟩:=cs2 x rfl rfl;have C:=Hd t;have q:=Hd ((o.out.trans l).trans' b (fun k L M=>by omega));clear b x t l v;have J:=fun(y:Int)(hy:y=(m:Int))=>Hd (show Calls Tryz.prog 117 #[.pointer (some ⟨i.heap.size,0,none⟩),.int .u64 y,.int .i64 2] Q _ from hy ▸ Wire.whigh_calls (w0:=i) i.heap.size O [2] m (by omega) C.out q.out.size (by decide));go_wp2_with fail;refine(J _ ?_).out.mono ?_
  ·try simp
   try omega
  rintro e w4 ⟨rfl,P,u,c⟩;have D:=Hd u;have r:=Hd (q.out.trans' c (fun k L M=>by omega));clear c u;go_wp2_with fail;refine(Wire.bytes_calls (w0:=i) i.heap.size P [2,UInt8.ofNat (m/256),UInt8.ofNat (m%256)] D.out (by simp) (by simp)).mono ?_;rintro e w5 ⟨d,p,j,rfl,H⟩;have G:=Hd H;have B:=Hd d;clear d H;go_wp2_with fail;go_ret2;exact⟨n.out.trans (r.out.trans B.out),p,j,rfl,G.out.own,fun k F=>Nat.le_trans (Nat.le_trans n.out.size r.out.size) (G.out.new k F)⟩
end Enc
end Go.Proofs.YtffoddpjfgjelaaGreatDoor
