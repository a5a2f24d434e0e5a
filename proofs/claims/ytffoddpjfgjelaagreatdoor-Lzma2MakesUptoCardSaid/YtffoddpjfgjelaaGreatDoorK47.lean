/- Part 47 of 54: lemmas of the last part, each under the conditions that it names. -/
import Derived.Deep.RegionWith
import Derived.Test.YtffoddpjfgjelaaGreatDoorK26
import Derived.Test.YtffoddpjfgjelaaGreatDoorK46
set_option linter.unusedVariables false
set_option linter.unusedSimpArgs false
set_option maxRecDepth 1500
set_option maxHeartbeats 1000000
namespace Go.Proofs.YtffoddpjfgjelaaGreatDoor
open Go.RowKit
namespace Rx
open Mem Win St Ps
theorem take_at{P:Program}{e:Array Oper}{Q:Exit→Act→World→Prop}{g:Region.Mode}{f:Nat}{b:Array Bool}{a:Act}{w:World}(i d:Nat){j:Oper}(v:Value)(q:e[i]? =some j)(k:j.dst=some d)(l:Region.noSelect e=true)(m:Region.free g e b i=true)(n:(Region.ready g e b).contains i=true)
 (o:∀c a w,Q (.panic c) (a.put (some d) v) w→Q (.panic c) a w)(p:Yields P e j v a)(h:wpAny P g e Q f (b.setIfInBounds i true) (a.put (some d) v) w):wpAny P g e Q (f+1) b a w:=
 wpAny_take q l m n (by rw[k];exact o) p (by rw[k];exact h)
theorem rn_pos{D:List UInt8}{tp dict p d:Nat}(e:p<tp):0<Px.rn D tp dict p d↔(1≤d∧d≤p∧d≤dict)∧D[p]? =D[p-d]? :=by
 unfold Px.rn;by_cases a:1≤d∧d≤p∧d≤dict
 ·rw[if_pos a]
  have b:=Px.run_is D p d (min 273 (tp-p));generalize Px.run D p d (min 273 (tp-p))=n at*;constructor
  ·intro h
   exact⟨a,b.eq 0 h⟩
  ·rintro⟨_,h⟩
   by_cases c:n=0
   ·subst c
    exact absurd h (b.ne (by omega))
   ·omega
 ·rw[if_neg a]
  exact⟨fun h=>absurd h (by omega),fun h=>absurd h.1 a⟩
set_option maxRecDepth 100000 in
theorem named_calls(a:Option Addr)(f E tp dict p:Nat)(z:Px.Stp)(s:S)(data:List UInt8)(w:World)(h:Rd w (.slice a data.length f) data)(hp:p<tp)(ht:tp≤data.length)(hb:data.length≤1099511627776):
 Calls Tryz.prog 141 #[pcV a data.length f E tp dict,.int .i64 p,.agg (z.sy data p).cells,.agg s.cells] w fun e w'=>Fr (fun _=>False) w w'∧e=.returned (.agg (Px.named data tp dict p z s).cells):=by
 obtain⟨r,c,t,u,v⟩:=s;have a7:∀(w':World)(B:Nat),w'.heap[B]? =some (.cells (S.cells ⟨r,c,t,u,v⟩) 103 (0,0))→∀i,i<4→w'.cell? ⟨B,1+i,none⟩=some (.int .i64 (repAt ⟨r,c,t,u,v⟩ i)):=fun w' B hB i hi=>by
  obtain rfl|rfl|rfl|rfl:i=0∨i=1∨i=2∨i=3:=by omega
  ·exact cell_in (i:=1) hB rfl
  ·exact cell_in (i:=2) hB rfl
  ·exact cell_in (i:=3) hB rfl
  ·exact cell_in (i:=4) hB rfl
 have a0:=Hd a7;have HR:=Hd h;have a9:=Hd (fun(w':World)=>usable_calls a data.length f E tp dict p c w');have a2:=Hd (rn_pos (D:=data) (dict:=dict) (d:=c) hp);have m:=Hd (show Px.named data tp dict p z ⟨r,c,t,u,v⟩=Px.named data tp dict p z ⟨r,c,t,u,v⟩ from rfl);obtain⟨y,Y⟩:∃y,z.sy data p=y:=⟨_,rfl⟩;rw[Y];obtain⟨Z,P,Q,F⟩:=y;have HY:=Hd Y;simp only[S.cells,Sy.cells] at a0 ⊢;obtain⟨PA,b0⟩:∃PA:Array Value,PA=#[.slice a data.length f,.int .i64 E,.int .i64 tp,.int .i64 dict]:=⟨_,rfl⟩;have X:=((((R0 _).alloc (.cells #[.int .i64 Z,.int .u8 P,.int .i64 Q,.int .i64 F] 110)).alloc (.cells #[.int .i64 r,.int .i64 c,.int .i64 t,.int .i64 u,.int .i64 v] 103)).alloc (.cells #[.int .i64 0,.int .u8 0,.int .i64 0,.int .i64 0] 110)).keep (heap_alloc_new w (.cells #[.slice a data.length f,.int .i64 E,.int .i64 tp,.int .i64 dict] 101)) (fun h=>h);have l:=(((R0 _).alloc (.cells #[.int .i64 r,.int .i64 c,.int .i64 t,.int .i64 u,.int .i64 v] 103)).alloc (.cells #[.int .i64 0,.int .u8 0,.int .i64 0,.int .i64 0] 110)).keep (heap_alloc_new (w.alloc (.cells #[.slice a data.length f,.int .i64 E,.int .i64 tp,.int .i64 dict] 101)) (.cells #[.int .i64 Z,.int .u8 P,.int .i64 Q,.int .i64 F] 110)) (fun h=>h);have q:=((R0 _).alloc (.cells #[.int .i64 0,.int .u8 0,.int .i64 0,.int .i64 0] 110)).keep (heap_alloc_new ((w.alloc (.cells #[.slice a data.length f,.int .i64 E,.int .i64 tp,.int .i64 dict] 101)).alloc (.cells #[.int .i64 Z,.int .u8 P,.int .i64 Q,.int .i64 F] 110)) (.cells #[.int .i64 r,.int .i64 c,.int .i64 t,.int .i64 u,.int .i64 v] 103)) (fun h=>h);have k:=heap_alloc_new (((w.alloc (.cells #[.slice a data.length f,.int .i64 E,.int .i64 tp,.int .i64 dict] 101)).alloc (.cells #[.int .i64 Z,.int .u8 P,.int .i64 Q,.int .i64 F] 110)).alloc (.cells #[.int .i64 r,.int .i64 c,.int .i64 t,.int .i64 u,.int .i64 v] 103)) (.cells #[.int .i64 0,.int .u8 0,.int .i64 0,.int .i64 0] 110);have HF:=Hd (((((R0 w).alloc (.cells #[.slice a data.length f,.int .i64 E,.int .i64 tp,.int .i64 dict] 101)).alloc (.cells #[.int .i64 Z,.int .u8 P,.int .i64 Q,.int .i64 F] 110)).alloc (.cells #[.int .i64 r,.int .i64 c,.int .i64 t,.int .i64 u,.int .i64 v] 103)).alloc (.cells #[.int .i64 0,.int .u8 0,.int .i64 0,.int .i64 0] 110));simp only[World.size_alloc] at l q k;have J:=Hd X;have a3:=Hd l;have a4:=Hd q;have a5:=Hd k;obtain⟨c0,c1,c2,c3⟩:=cs4 X rfl rfl rfl rfl;obtain⟨d0,d1,d2,d3⟩:=cs4 l rfl rfl rfl rfl;have s1:=cell_in (i:=1) q rfl;obtain⟨y0,y1,y2,y3,yf⟩:=cf4 k rfl rfl rfl rfl;have N:w.heap.size≤w.heap.size+1+1+1:=by omega
 have hk:Z=1∨Z=2:=by
  unfold Px.Stp.sy at Y;split at Y
  ·exact .inl (congrArg Sy.kind Y).symm
  ·exact .inr (congrArg Sy.kind Y).symm
 clear X l q k h Y a7 b0 PA m;rcases hk with rfl|rfl
 ·go_enter Tryz.func141,Tryz.ntmps141
  go_wp2_with fail;generalize(((w.alloc (.cells #[.slice a data.length f,.int .i64 E,.int .i64 tp,.int .i64 dict] 101)).alloc (.cells #[.int .i64 1,.int .u8 P,.int .i64 Q,.int .i64 F] 110)).alloc (.cells #[.int .i64 r,.int .i64 c,.int .i64 t,.int .i64 u,.int .i64 v] 103)).alloc (.cells #[.int .i64 0,.int .u8 0,.int .i64 0,.int .i64 0] 110)=W at*;have HU:=Hd (fun w'=>a9.out w');have a1:=a2.out;obtain⟨g,o,rfl,hq⟩:∃g o,a=some ⟨g,o,none⟩∧∀w',Fr (fun _=>False) W w'→∀(i:Nat)(hi:i<data.length),w'.cell? ⟨g,o+i,none⟩=some (.int .u8 (data.getD i 0).toNat):=by
   obtain⟨a',cp,e',_,_,b1⟩:=HR.out;obtain⟨g',o',rfl,_⟩:=b1 (by omega);simp only[Value.slice.injEq] at e';obtain⟨rfl, -,rfl⟩:=e';exact⟨g',o',rfl,fun w' L i hi=>rd_at (HR.out.keep (HF.out.trans L)) (by rw[List.getD_eq_getElem?_getD,List.getElem?_eq_getElem hi];rfl)⟩
  have hg:∀i,i<data.length→data[i]? =some (data.getD i 0):=fun i hi=>by rw[List.getD_eq_getElem?_getD,List.getElem?_eq_getElem hi];rfl
  have HS:=Hd (show∀w':World,Fr (fun _=>False) W w'→w'.cell? ⟨w.heap.size,0,none⟩=some (.slice (some ⟨g,o,none⟩) data.length f)∧w'.cell? ⟨w.heap.size,1,none⟩=some (.int .i64 E)∧w'.cell? ⟨w.heap.size,2,none⟩=some (.int .i64 tp)∧w'.cell? ⟨w.heap.size,3,none⟩=some (.int .i64 dict)∧w'.cell? ⟨w.heap.size+1+1,1,none⟩=some (.int .i64 c)∧w'.cell? ⟨g,o+p,none⟩=some (.int .u8 (data.getD p 0).toNat)∧w'.cell? ⟨g,o+(p-c),none⟩=some (.int .u8 (data.getD (p-c) 0).toNat) from fun w' L=>
   ⟨cell_in (i:=0) (L.keep J.out (fun h=>h)) rfl,cell_in (i:=1) (L.keep J.out (fun h=>h)) rfl,cell_in (i:=2) (L.keep J.out (fun h=>h)) rfl,cell_in (i:=3) (L.keep J.out (fun h=>h)) rfl,cell_in (i:=1) (L.keep a4.out (fun h=>h)) rfl,hq w' L p (by omega),hq w' L (p-c) (by omega)⟩)
  have O:=Hd (R0 W).drew;have U:=Hd (HS.out _ O.out);have C:0<Px.rn data tp dict p c↔(1≤c∧c≤p∧c≤dict)∧data.getD p 0=data.getD (p-c) 0:=by
   rw[a1];constructor
   ·rintro⟨h1,h2⟩
    rw[hg p (by omega),hg (p-c) (by omega)] at h2;exact⟨h1,Option.some.inj h2⟩
   ·rintro⟨h1,h2⟩
    exact⟨h1,by rw[hg p (by omega),hg (p-c) (by omega),h2]⟩
  have m:∀b:Bool,b=decide (0<Px.rn data tp dict p c)→Hid (Px.named data tp dict p z ⟨r,c,t,u,v⟩=if b=true then⟨4,0,0,0⟩ else⟨1,P,Q,F⟩):=fun b hb=>Hd (by
   obtain⟨z1,z2⟩:=sy_lit HY.out;unfold Px.named;rw[if_pos z1,hb,←z2];by_cases h:0<Px.rn data tp dict p c
   ·rw[if_pos h,if_pos (decide_eq_true h)]
   ·rw[if_neg h,if_neg (by simpa using h)])
  generalize data.getD p 0=x0 at*;generalize data.getD (p-c) 0=x1 at*;obtain⟨c0,c1,c2,c3,s1,k0,k1⟩:=U.out;have i0:(0:Int)≤(p:Int):=by omega
  have i1:(p:Int)<(data.length:Int):=by omega
  clear a1 a2 hq hg;go_cut [35] (fun s35 wx=>s35=.bool (decide (0<Px.rn data tp dict p c))∧Fr (fun _=>False) W wx);case first=>
   by_cases hu:1≤c∧c≤p∧c≤dict
   ·have hw:IntKind.i64.wrap ((p:Int)-(c:Int))=((p-c:Nat):Int):=by rw[IntWalk.i64_in _ (by omega)];omega
    have i2:(0:Int)≤((p-c:Nat):Int):=by omega
    have i3:((p-c:Nat):Int)<(data.length:Int):=by omega
    have V:=Hd (fun w'=>(decide_eq_true hu) ▸ HU.out w');have HB:Hid (∃b,b=decide (0<Px.rn data tp dict p c)∧((x0.toNat:Int)==(x1.toNat:Int))=b):=Hd ⟨_,rfl,by
     by_cases hx:x0=x1
     ·rw[decide_eq_true (C.2 ⟨hu,hx⟩),hx]
      simp
     ·rw[decide_eq_false (fun h=>hx (C.1 h).2)]
      simp only[beq_eq_false_iff_ne,ne_eq,Int.natCast_inj];exact fun e=>hx (UInt8.toNat_inj.1 e)⟩
    obtain⟨b,a6,b2⟩:=HB.out;have R:=Hd a6;clear a6 hu C;go_region_held3 (fun w'=>w'.cell? ⟨w.heap.size,0,none⟩=some (.slice (some ⟨g,o,none⟩) data.length f)∧w'.cell? ⟨w.heap.size,1,none⟩=some (.int .i64 E)∧w'.cell? ⟨w.heap.size,2,none⟩=some (.int .i64 tp)∧w'.cell? ⟨w.heap.size,3,none⟩=some (.int .i64 dict)∧w'.cell? ⟨w.heap.size+1+1,1,none⟩=some (.int .i64 c)∧w'.cell? ⟨g,o+p,none⟩=some (.int .u8 x0.toNat)∧w'.cell? ⟨g,o+(p-c),none⟩=some (.int .u8 x1.toNat)) (with_reducible exact U.out) ((
     (go_at_call 201
      with_reducible refine(V.out _).mono ?_
      rintro e wc ⟨rfl,n⟩;have O:=Hd (O.out.trans n);have U:=Hd (HS.out _ O.out);clear n)))
    all_goals go_wp2_with fail
    all_goals go_meet
    all_goals exact⟨by rw[R.out],O.out⟩
   ·have V:=Hd (fun w'=>(decide_eq_false hu) ▸ HU.out w')
    have R:=Hd (decide_eq_false (fun h=>hu (C.1 h).1));clear hu C;refine wp_region_any (by kernel_rfl) ?_;change wpAny _ _ _ _ _ _ _ (World.drew _);refine take_at 1 14 (.int .i64 p) rfl rfl (by kernel_rfl) (by kernel_rfl) (by kernel_rfl) (fun _ _ _ h=>h) (.inl ⟨by rfl,fun w=>by go_simp⟩) ?_;refine take_at 2 15 (.pointer (some ⟨w.heap.size+1+1,1,none⟩)) rfl rfl (by kernel_rfl) (by kernel_rfl) (by kernel_rfl) (fun _ _ _ h=>h) (.inl ⟨by rfl,fun w=>by go_simp⟩) ?_;refine take_at 3 16 (.pointer (some ⟨w.heap.size+1+1,1,none⟩)) rfl rfl (by kernel_rfl) (by kernel_rfl) (by kernel_rfl) (fun _ _ _ h=>h) (.inl ⟨by rfl,fun w=>by go_simp⟩) ?_;refine wpAny_ready (rs:=[0,4]) (by kernel_rfl) (by simp) ?_;refine AllReady.cons rfl (fun K I=> ?_) (AllReady.cons rfl (fun K I=> ?_) AllReady.nil);all_goals
     go_simp;refine I _ _ ?_;clear I K
    case' refine_1=>refine wpAny_ready (rs:=[4]) (by kernel_rfl) (by simp) (AllReady.cons rfl (fun K I=> ?_) AllReady.nil)
    case' refine_2=>refine wpAny_ready (rs:=[0]) (by kernel_rfl) (by simp) (AllReady.cons rfl (fun K I=> ?_) AllReady.nil)
    all_goals
     go_simp;refine I _ _ ?_;clear I K;refine wpAny_ready (rs:=[5]) (by kernel_rfl) (by simp) (AllReady.cons rfl (fun K I=> ?_) AllReady.nil);go_simp;refine(V.out _).mono ?_;rintro e wc ⟨rfl,n⟩;have O:=Hd (O.out.trans n);clear n;refine I _ _ ?_;clear I K;refine take_at 6 19 (.bool false) rfl rfl (by kernel_rfl) (by kernel_rfl) (by kernel_rfl) (fun _ _ _ h=>h) (.inl ⟨by rfl,fun w=>by go_simp⟩) ?_;refine take_at 7 20 undef rfl rfl (by kernel_rfl) (by kernel_rfl) (by kernel_rfl) (fun _ _ _ h=>h) (.inr ⟨by kernel_rfl,rfl⟩) ?_;refine take_at 8 21 undef rfl rfl (by kernel_rfl) (by kernel_rfl) (by kernel_rfl) (fun _ _ _ h=>h) (.inr ⟨by kernel_rfl,rfl⟩) ?_;refine take_at 9 22 undef rfl rfl (by kernel_rfl) (by kernel_rfl) (by kernel_rfl) (fun _ _ _ h=>h) (.inr ⟨by kernel_rfl,rfl⟩) ?_;refine take_at 10 23 undef rfl rfl (by kernel_rfl) (by kernel_rfl) (by kernel_rfl) (fun _ _ _ h=>h) (.inr ⟨by kernel_rfl,rfl⟩) ?_;refine take_at 11 24 undef rfl rfl (by kernel_rfl) (by kernel_rfl) (by kernel_rfl) (fun _ _ _ h=>h) (.inr ⟨by kernel_rfl,rfl⟩) ?_;refine take_at 12 25 undef rfl rfl (by kernel_rfl) (by kernel_rfl) (by kernel_rfl) (fun _ _ _ h=>h) (.inr ⟨by kernel_rfl,rfl⟩) ?_;refine take_at 13 26 undef rfl rfl (by kernel_rfl) (by kernel_rfl) (by kernel_rfl) (fun _ _ _ h=>h) (.inr ⟨by kernel_rfl,rfl⟩) ?_;refine take_at 14 27 undef rfl rfl (by kernel_rfl) (by kernel_rfl) (by kernel_rfl) (fun _ _ _ h=>h) (.inr ⟨by kernel_rfl,rfl⟩) ?_;refine take_at 15 28 undef rfl rfl (by kernel_rfl) (by kernel_rfl) (by kernel_rfl) (fun _ _ _ h=>h) (.inr ⟨by kernel_rfl,rfl⟩) ?_;refine take_at 16 29 undef rfl rfl (by kernel_rfl) (by kernel_rfl) (by kernel_rfl) (fun _ _ _ h=>h) (.inr ⟨by kernel_rfl,rfl⟩) ?_;refine take_at 17 30 undef rfl rfl (by kernel_rfl) (by kernel_rfl) (by kernel_rfl) (fun _ _ _ h=>h) (.inr ⟨by kernel_rfl,rfl⟩) ?_;refine take_at 18 31 undef rfl rfl (by kernel_rfl) (by kernel_rfl) (by kernel_rfl) (fun _ _ _ h=>h) (.inr ⟨by kernel_rfl,rfl⟩) ?_;refine take_at 19 32 undef rfl rfl (by kernel_rfl) (by kernel_rfl) (by kernel_rfl) (fun _ _ _ h=>h) (.inr ⟨by kernel_rfl,rfl⟩) ?_;refine take_at 20 33 undef rfl rfl (by kernel_rfl) (by kernel_rfl) (by kernel_rfl) (fun _ _ _ h=>h) (.inr ⟨by kernel_rfl,rfl⟩) ?_;refine take_at 21 34 undef rfl rfl (by kernel_rfl) (by kernel_rfl) (by kernel_rfl) (fun _ _ _ h=>h) (.inr ⟨by kernel_rfl,rfl⟩) ?_;refine take_at 22 35 (.bool false) rfl rfl (by kernel_rfl) (by kernel_rfl) (by kernel_rfl) (fun _ _ _ h=>h) (.inl ⟨by rfl,fun w=>by go_simp⟩) ?_;refine wpAny_done (by kernel_rfl) ?_ _;simp only[Act.put,List.setIfInBounds_toArray,List.set_cons_succ,List.set_cons_zero]
    all_goals go_wp2_with fail
    all_goals go_meet
    all_goals exact⟨by rw[R.out],O.out⟩
  case rest=>
   obtain⟨rfl,M⟩:=hcut;have hn:=m _ rfl;have k:=M.keep a5.out (fun h=>h);have l:=M.keep a3.out (fun h=>h);have G:=Hd k;have x:=Hd (HF.out.trans M);clear c0 c1 c2 c3 s1 k0 k1 d0 d1 d2 d3 y0 y1 y2 y3 yf m C;obtain⟨d0,d1,d2,d3⟩:=cs4 l rfl rfl rfl rfl;obtain⟨y0,y1,y2,y3,yf⟩:=cf4 k rfl rfl rfl rfl;clear k l M;generalize decide (0<Px.rn data tp dict p c)=b at*;cases b
   ·go_wp2_with fail
    refine bodyPost_ret (results_cell_row Tryz.results141 _ _ (w.heap.size+1+1+1) _ _ _ _ rfl (y4 G.out _ _ _ _) Tryz.underlying110 rfl symSize) rfl ?_;exact⟨fr4z x.out N _ _ _ _,by rw[hn.out];rfl⟩
   ·go_wp2_with fail
    refine bodyPost_ret (results_cell_row Tryz.results141 _ _ (w.heap.size+1+1+1) _ _ _ _ rfl (y4 G.out _ _ _ _) Tryz.underlying110 rfl symSize) rfl ?_;exact⟨fr4z x.out N _ _ _ _,by rw[hn.out];rfl⟩
 ·go_enter Tryz.func141,Tryz.ntmps141
  go_wp2_with fail;generalize(((w.alloc (.cells #[.slice a data.length f,.int .i64 E,.int .i64 tp,.int .i64 dict] 101)).alloc (.cells #[.int .i64 2,.int .u8 P,.int .i64 Q,.int .i64 F] 110)).alloc (.cells #[.int .i64 r,.int .i64 c,.int .i64 t,.int .i64 u,.int .i64 v] 103)).alloc (.cells #[.int .i64 0,.int .u8 0,.int .i64 0,.int .i64 0] 110)=W at*;go_loopw [9](fun s9 wr=>∃i:Nat,s9=.int .i64 i∧i≤4∧Hid (∀j,j<i→repAt ⟨r,c,t,u,v⟩ j≠F)∧Fr (fun _=>False) W wr) (fun s9 _=>4-(intOf s9).toNat);case atStart=>exact⟨0,rfl,by omega,Hd (fun j hj=>absurd hj (Nat.not_lt_zero _)),Fr.refl _ _⟩
  case round=>
   obtain⟨i,rfl,hi,T,A⟩:=hrel;have k:=A.keep a5.out (fun h=>h);have l:=A.keep a3.out (fun h=>h);have q:=A.keep a4.out (fun h=>h);have G:=Hd k;have x:=Hd A;clear c0 c1 c2 c3 s1 d0 d1 d2 d3 y0 y1 y2 y3 yf;obtain⟨d0,d1,d2,d3⟩:=cs4 l rfl rfl rfl rfl;obtain⟨y0,y1,y2,y3,yf⟩:=cf4 k rfl rfl rfl rfl;by_cases h4:i<4
   ·have t4:(i:Int)<4:=by omega
    have i0:(0:Int)≤(i:Int):=by omega
    have ci:=a0.out wr _ q i h4;generalize hd:repAt ⟨r,c,t,u,v⟩ i=d at*;have HD:=Hd hd;clear hd l q k A;by_cases H:d=F
    ·have t5:((d:Int)==(F:Int))=true:=by subst H;simp
     have m:=Hd (named_rep (tp:=tp) (dict:=dict) HY.out h4 (HD.out.trans H) T.out);clear H h4;go_wp2_with fail;go_quiet (fail);go_wp2_with fail;refine bodyPost_ret (results_cell_row Tryz.results141 _ _ (w.heap.size+1+1+1) _ _ _ _ rfl (y4 G.out _ _ _ _) Tryz.underlying110 rfl symSize) rfl ?_;exact⟨fr4z (HF.out.trans (x.out.drewN _)) N _ _ _ _,by rw[←m.out];rfl⟩
    ·have t5:((d:Int)==(F:Int))=false:=by simp;omega
     have a8:=Hd H;clear H;go_wp2_with fail;go_quiet (fail);go_wp2_with fail;go_roundw
     ·exact⟨i+1,by simp,by omega,Hd (fun j hj=>by
       by_cases e:j=i
       ·subst e
        rw[HD.out];exact a8.out
       ·exact T.out j (by omega)),x.out.drewN _⟩
     ·simp[intOf];omega
   ·obtain rfl:i=4:=by omega
    have m:=Hd (named_none (tp:=tp) (dict:=dict) HY.out T.out);clear l q k A;go_wp2_with fail;refine bodyPost_ret (results_cell_row Tryz.results141 _ _ (w.heap.size+1+1+1) _ _ _ _ rfl (y4 G.out _ _ _ _) Tryz.underlying110 rfl symSize) rfl ?_;exact⟨fr4z (HF.out.trans x.out) N _ _ _ _,by rw[←m.out];rfl⟩
end Rx
namespace Rx
open Mem Win St Ps
theorem syms_len{w0 w:World}{v:Value}{l:List Sy}(h:Lz.Syms w0 w v l):l.length≤maxLen:=by
 obtain⟨_,a⟩:=h.own;rcases a with⟨_,b⟩|⟨_,_,_,_,_,_,c,a,_⟩
 ·rw[b]
  exact Nat.zero_le _
 ·exact Nat.le_trans c a
structure RC(pl:List Px.Stp)(L:List Sy)(pv:Value)(w w2 wr:World)(bp bs br:Nat)(a:Option Addr)(cap fm tp dict:Nat)(data:List UInt8)(s:S)(p:Nat)(t:S)(l:List Sy)(v:Value):Prop where
 fr:Fr (fun _=>False) w wr
 pc:wr.heap[bp]? =some (.cells #[.slice a data.length cap,.int .i64 fm,.int .i64 tp,.int .i64 dict] 101 (0,0))
 st:wr.heap[bs]? =some (.cells t.cells 103 (0,0))
 rs:wr.heap[br]? =some (.cells #[.int .i64 0,.int .i64 0,.int .i64 0,.int .i64 0,.int .i64 0] 103 (0,0))
 sy:Lz.Syms w2 wr v l
 ps:Lz.Syms w wr pv L
 old:∀k,pv.ownBlock=some k→k<w2.heap.size
 gr:Px.Cheap data tp dict fm pl l fm s p t
 ge:fm≤p
 sz:w2.heap.size≤wr.heap.size
 ok:t.Ok
 hi:p≤tp
 cnt:l.length≤p
theorem RC.keep{j:List Px.Stp}{L:List Sy}{pv:Value}{w k wr d:World}{e g f:Nat}{a:Option Addr}{c i tp dict:Nat}{data:List UInt8}{s:S}{p:Nat}{t:S}{l:List Sy}{v:Value}(h:RC j L pv w k wr e g f a c i tp dict data s p t l v)(b:Fr (fun _=>False) wr d):RC j L pv w k d e g f a c i tp dict data s p t l v:=
 ⟨h.fr.trans b,b.keep h.pc (fun h=>h),b.keep h.st (fun h=>h),b.keep h.rs (fun h=>h),h.sy.step b (fun _ _ h=>h),h.ps.step b (fun _ _ h=>h),h.old,h.gr,h.ge,Nat.le_trans h.sz b.size,h.ok,h.hi,h.cnt⟩
set_option maxRecDepth 100000 in
theorem cheap_calls(a:Option Addr)(d x tp dict:Nat)(s:S)(data:List UInt8)(w:World)(h:Rd w (.slice a data.length d) data)(hs:s.Ok)(h7:x<tp)(ht:tp≤data.length)(hb:data.length≤1073741823)(j4:1≤dict)(h6:dict≤4294967295):
    Calls Tryz.prog 84 #[pcV a data.length d x tp dict,.agg s.cells] w fun e w'=>Fr (fun _=>False) w w'∧∃v l t,e=.returned (.tuple #[v,.agg t.cells,.int .i64 0])∧Lz.Syms w w' v l∧Hid (∃pl,Px.Plan data tp dict pl∧pl.length=tp-x∧Px.Cheap data tp dict x pl l x s tp t):=by
  have HR:=Hd h;have HS:=Hd hs;have g4:=Hd (fun(w':World)=>Rf.rright_calls s hs w');have g2:=Hd (fun(w':World)(E:Fr (fun _=>False) w w')=>plan_calls a d x tp dict data w' (h.keep E) h7 ht hb j4 h6);obtain⟨sn,s0,s1,s2,s3⟩:=s;simp only[S.cells] at g4 ⊢;have e8:=(((R0 _).alloc (.cells #[.int .i64 sn,.int .i64 s0,.int .i64 s1,.int .i64 s2,.int .i64 s3] 103)).alloc (.cells #[.int .i64 0,.int .i64 0,.int .i64 0,.int .i64 0,.int .i64 0] 103)).keep (heap_alloc_new w (.cells #[.slice a data.length d,.int .i64 x,.int .i64 tp,.int .i64 dict] 101)) (fun h=>h);have e9:=((R0 _).alloc (.cells #[.int .i64 0,.int .i64 0,.int .i64 0,.int .i64 0,.int .i64 0] 103)).keep (heap_alloc_new (w.alloc (.cells #[.slice a data.length d,.int .i64 x,.int .i64 tp,.int .i64 dict] 101)) (.cells #[.int .i64 sn,.int .i64 s0,.int .i64 s1,.int .i64 s2,.int .i64 s3] 103)) (fun h=>h);have f0:=heap_alloc_new ((w.alloc (.cells #[.slice a data.length d,.int .i64 x,.int .i64 tp,.int .i64 dict] 101)).alloc (.cells #[.int .i64 sn,.int .i64 s0,.int .i64 s1,.int .i64 s2,.int .i64 s3] 103)) (.cells #[.int .i64 0,.int .i64 0,.int .i64 0,.int .i64 0,.int .i64 0] 103);have E:=((((R0 w).alloc (.cells #[.slice a data.length d,.int .i64 x,.int .i64 tp,.int .i64 dict] 101)).alloc (.cells #[.int .i64 sn,.int .i64 s0,.int .i64 s1,.int .i64 s2,.int .i64 s3] 103)).alloc (.cells #[.int .i64 0,.int .i64 0,.int .i64 0,.int .i64 0,.int .i64 0] 103));simp only[World.size_alloc] at e9 f0;obtain⟨c0,c1,c2,c3⟩:=cs4 e8 rfl rfl rfl rfl;have g9:=Hd e8;have h0:=Hd e9;have j2:=Hd f0;have HF:=Hd E;clear e8 e9 f0 E h hs;go_enter Tryz.func84,Tryz.ntmps84;go_wp2_with fail;generalize((w.alloc (.cells #[.slice a data.length d,.int .i64 x,.int .i64 tp,.int .i64 dict] 101)).alloc (.cells #[.int .i64 sn,.int .i64 s0,.int .i64 s1,.int .i64 s2,.int .i64 s3] 103)).alloc (.cells #[.int .i64 0,.int .i64 0,.int .i64 0,.int .i64 0,.int .i64 0] 103)=W at*;refine(g2.out W HF.out).mono ?_;rintro e w1 ⟨d9,pv,L,pl,rfl,a9,J⟩;obtain⟨pm,cp,rfl⟩:=own_slice a9.own;obtain⟨n,hn⟩:∃n,L.length=n:=⟨_,rfl⟩;rw[hn];have d5:=Hd hn;have g3:=Hd a9;have j6:n≤maxLen:=by
    rw[←hn];exact syms_len a9
  simp only[maxLen] at j6;clear a9 hn;have i3:=d9.keep h0.out (fun h=>h);clear c0 c1 c2 c3;obtain⟨c0,c1,c2,c3,c4⟩:=cs5 i3 rfl rfl rfl rfl rfl;have i7:=Hd d9;clear d9 i3;go_wp2_with fail;refine(g4.out w1).mono ?_;rintro e w2 ⟨rfl,e4⟩;have a1:=i7.out.trans e4;have U:=Hd (g3.out.step e4 (fun _ _ h=>h));have i0:=a1.keep g9.out (fun h=>h);clear c0 c1 c2 c3 c4;have c1:=cell_in (i:=1) i0 rfl;have R:=Hd a1;clear e4 a1 i0;have H0:=Hd (show RC pl L (.slice pm n cp) w w2 w2 w.heap.size (w.heap.size+1) (w.heap.size+1+1) a d x tp dict data ⟨sn,s0,s1,s2,s3⟩ x ⟨sn,s0,s1,s2,s3⟩ [] (.slice none 0 0) from
    ⟨HF.out.trans R.out,R.out.keep g9.out (fun h=>h),R.out.keep h0.out (fun h=>h),R.out.keep j2.out (fun h=>h),⟨World.ownsRow_nil _ _ _ _,fun k G=>by simp[Value.ownBlock] at G⟩,d5.out ▸ ⟨U.out.own,fun k G=>Nat.le_trans HF.out.size (U.out.new k G)⟩,fun k G=>(World.ownsRow.lt (d5.out ▸ U.out).own k G).2,⟨rfl,rfl⟩,Nat.le_refl _,Nat.le_refl _,HS.out,Nat.le_of_lt h7,Nat.zero_le _⟩)
  have f4:=Hd J.out.2.2;go_wp2_with fail;go_loopw [9,10,11] (fun s9 s10 s11 wr=>∃(p:Nat)(t:S)(l A B:List Sy),s10=.int .i64 p∧s11=.int .i64 A.length∧A++B=L∧RC pl L (.slice pm n cp) w w2 wr w.heap.size (w.heap.size+1) (w.heap.size+1+1) a d x tp dict data ⟨sn,s0,s1,s2,s3⟩ p t l s9∧Hid (Along data tp x pl B p tp)) (fun _ _ s11 _=>n-(intOf s11).toNat);case atStart=>exact⟨x,_,[],[],L,rfl,rfl,rfl,H0.out,f4⟩
  case round=>
    obtain⟨p,t,l,A,B,rfl,rfl,a5,hg,f3⟩:=hrel;have X:A.length+B.length=n:=by rw[←d5.out,←a5,List.length_append]
    have j:=Hd hg;have k5:=hg.hi;obtain⟨c0,c1,c2,c3⟩:=cs4 hg.pc rfl rfl rfl rfl;have C:=hg.st;obtain⟨tn,t0,t1,t2,t3⟩:=t;simp only[S.cells] at C;obtain⟨d0,d1,d2,d3,d4⟩:=cs5 C rfl rfl rfl rfl rfl;clear hg C;rcases B with _|⟨y0,B⟩
    · have j7:tp=p:=f3.out
      subst j7;have hl:¬((A.length:Int)<(n:Int)):=by rw[List.length_nil] at X;omega
      have h9:=j.out.rs;obtain⟨z0,z1,z2,z3,z4,zf⟩:=cf5 h9 rfl rfl rfl rfl rfl;go_upto_region 15 with fail;go_region;all_goals go_wp2_with fail
      all_goals
        refine bodyPost_ret (v:=.tuple #[u9,.agg #[.int .i64 tn,.int .i64 t0,.int .i64 t1,.int .i64 t2,.int .i64 t3],.int .i64 0]) (by simp[results,Tryz.results84,go_sem,z0,z1,z2,z3,z4]) rfl ?_;refine⟨?_,u9,l,⟨tn,t0,t1,t2,t3⟩,rfl,Lz.Syms.mk (j.out.sy.step (S:=fun k=>k=w.heap.size+1+1) ?_ (fun k G e=> ?_)).own (fun k G=>Nat.le_trans (HF.out.trans R.out).size (j.out.sy.new k G)),Hd ⟨pl,J.out.1,J.out.2.1,j.out.gr⟩⟩
        · refine Fr.drew ?_
          repeat refine Fr.setCell ?_ (.inr (Nat.le_succ_of_le (Nat.le_succ _))) _
          exact j.out.fr
        · refine Fr.drew ?_
          repeat refine Fr.setCell ?_ (.inl (by simp)) _
          exact Fr.refl _ _
        · subst e
          obtain⟨o,hc⟩:=Lz.own_block j.out.sy.own G;exact neOf h9 hc (by decide) rfl
    · obtain⟨a3,z,hz,i5,d8⟩:=f3.out
      rw[List.length_cons] at X;obtain ⟨g,j8,o,h8,q,e0,e1,e2,e3,_,_⟩:=sy_open (show Lz.Syms w wr (.slice pm n cp) (A++y0::B) from by rw [a5];exact j.out.ps);simp only[Value.slice.injEq] at h8;obtain⟨rfl, -, -⟩:=h8;have T:=Hd (fun(w':World)(E:Fr (fun _=>False) w w')=>named_calls a d x tp dict p z ⟨tn,t0,t1,t2,t3⟩ data w' (HR.out.keep E) a3 ht (by omega));rw[i5] at T;have c5:=J.out.1.pos hz;obtain⟨bb,a7⟩:=J.out.1.best hz (by rw[J.out.2.1];omega);rw[show tp-pl.length+(p-x)=p by(have:=j.out.ge;rw[J.out.2.1];omega)] at a7;have a2:=best_fits a7 a3;obtain⟨b7,c9⟩:=Px.named_fits (D:=data) (tp:=tp) (dict:=dict) (p:=p) (s:=⟨tn,t0,t1,t2,t3⟩) c5;have a8:=Px.named_next ⟨tn,t0,t1,t2,t3⟩ a7 h6;have e7:=j.out.gr.snoc a3 hz;generalize Px.named data tp dict p z ⟨tn,t0,t1,t2,t3⟩=y at*;have HN:=Hd (fun w'=>Rf.rnext_calls ⟨tn,t0,t1,t2,t3⟩ j.out.ok y c9 w');have b8:=S.next_ok j.out.ok a8;generalize S.next ⟨tn,t0,t1,t2,t3⟩ y=rr at*;obtain⟨er,rn,ra,rb,rc,rd⟩:=rr;have N:=Hd (fun w'=>length_calls y w');rw[b7] at N;obtain⟨m,hm⟩:∃m,z.n=m:=⟨_,rfl⟩;rw[hm] at N a2 e7 d8;obtain⟨yk,yb,yl,yd⟩:=y;obtain⟨vk,vb,vl,vd⟩:=y0;simp only[S.cells,Sy.cells] at T HN N a8 e0 e1 e2 e3;have k1:=Hd a8;have g0:=Hd b8;have i9:=Hd e7;have f5:=Hd d8;have i6:=Hd a5;obtain⟨k,G⟩:∃k,A.length=k:=⟨_,rfl⟩;have HK:=Hd G;rw[G] at e0 e1 e2 e3 X ⊢;have v0:=cell_in (i:=k*4) q e0;have v1:=cell_in (i:=k*4+1) q e1;have v2:=cell_in (i:=k*4+2) q e2;have v3:=cell_in (i:=k*4+3) q e3;have M:=Hd q;have a4:=Hd (show o[k*4]? =some (.int .i64 vk)∧o[k*4+1]? =some (.int .u8 vb)∧o[k*4+2]? =some (.int .i64 vl)∧o[k*4+3]? =some (.int .i64 vd) from⟨e0,e1,e2,e3⟩);have i1:(0:Int)≤(k:Int):=by omega
      have i2:(k:Int)<(n:Int):=by omega
      have k3:=lt_of_block q;clear b7 c9 a8 b8 e7 hm d8 a5 hz i5 a7 c5 G e0 e1 e2 e3 q;have HS:=Hd (show∀w':World,Fr (fun _=>False) wr w'→(w'.cell? ⟨w.heap.size,0,none⟩=some (.slice a data.length d)∧w'.cell? ⟨w.heap.size,1,none⟩=some (.int .i64 x)∧w'.cell? ⟨w.heap.size,2,none⟩=some (.int .i64 tp)∧w'.cell? ⟨w.heap.size,3,none⟩=some (.int .i64 dict)∧w'.cell? ⟨w.heap.size+1,0,none⟩=some (.int .i64 tn)∧w'.cell? ⟨w.heap.size+1,1,none⟩=some (.int .i64 t0)∧w'.cell? ⟨w.heap.size+1,2,none⟩=some (.int .i64 t1)∧w'.cell? ⟨w.heap.size+1,3,none⟩=some (.int .i64 t2)∧w'.cell? ⟨w.heap.size+1,4,none⟩=some (.int .i64 t3)∧w'.cell? ⟨g,k*4,none⟩=some (.int .i64 vk)∧w'.cell? ⟨g,k*4+1,none⟩=some (.int .u8 vb)∧w'.cell? ⟨g,k*4+2,none⟩=some (.int .i64 vl)∧w'.cell? ⟨g,k*4+3,none⟩=some (.int .i64 vd)) from fun w' E=>by
        have C:=j.out.st;simp only[S.cells] at C;exact⟨cell_in (i:=0) (E.keep j.out.pc (fun h=>h)) rfl,cell_in (i:=1) (E.keep j.out.pc (fun h=>h)) rfl,cell_in (i:=2) (E.keep j.out.pc (fun h=>h)) rfl,cell_in (i:=3) (E.keep j.out.pc (fun h=>h)) rfl,cell_in (i:=0) (E.keep C (fun h=>h)) rfl,cell_in (i:=1) (E.keep C (fun h=>h)) rfl,cell_in (i:=2) (E.keep C (fun h=>h)) rfl,cell_in (i:=3) (E.keep C (fun h=>h)) rfl,cell_in (i:=4) (E.keep C (fun h=>h)) rfl,
          cell_in (i:=k*4) (E.keep M.out (fun h=>h)) a4.out.1,cell_in (i:=k*4+1) (E.keep M.out (fun h=>h)) a4.out.2.1,cell_in (i:=k*4+2) (E.keep M.out (fun h=>h)) a4.out.2.2.1,cell_in (i:=k*4+3) (E.keep M.out (fun h=>h)) a4.out.2.2.2⟩)
      have I:=Hd (R0 wr).drew;have d7:=Hd (HS.out wr.drew I.out);have d6:=Hd (((R0 wr).alloc (.cells #[.int .i64 0,.int .u8 0,.int .i64 0,.int .i64 0] 110)).drew);have i4:((wr.alloc (.cells #[.int .i64 0,.int .u8 0,.int .i64 0,.int .i64 0] 110)).drew).heap[wr.heap.size]? =some (.cells #[.int .i64 0,.int .u8 0,.int .i64 0,.int .i64 0] 110 (0,0)):=heap_alloc_new wr _;have j3:=Hd i4;clear i4 c0 c1 c2 c3 d0 d1 d2 d3 d4 v0 v1 v2 v3;obtain⟨c0,c1,c2,c3,d0,d1,d2,d3,d4,v0,v1,v2,v3⟩:=HS.out wr (Fr.refl _ _);go_upto_region 11 with fail;go_cut [12] (fun s12 wx=>∃Y,s12=.pointer (some ⟨Y,0,none⟩)∧wx.heap[Y]? =some (.cells #[.int .i64 yk,.int .u8 yb,.int .i64 yl,.int .i64 yd] 110 (0,0))∧Fr (fun _=>False) wr wx∧wr.heap.size≤Y);case first=>
        go_region_held3 (fun w'=>w'.cell? ⟨w.heap.size,0,none⟩=some (.slice a data.length d)∧w'.cell? ⟨w.heap.size,1,none⟩=some (.int .i64 x)∧w'.cell? ⟨w.heap.size,2,none⟩=some (.int .i64 tp)∧w'.cell? ⟨w.heap.size,3,none⟩=some (.int .i64 dict)∧w'.cell? ⟨w.heap.size+1,0,none⟩=some (.int .i64 tn)∧w'.cell? ⟨w.heap.size+1,1,none⟩=some (.int .i64 t0)∧w'.cell? ⟨w.heap.size+1,2,none⟩=some (.int .i64 t1)∧w'.cell? ⟨w.heap.size+1,3,none⟩=some (.int .i64 t2)∧w'.cell? ⟨w.heap.size+1,4,none⟩=some (.int .i64 t3)∧w'.cell? ⟨g,k*4,none⟩=some (.int .i64 vk)∧w'.cell? ⟨g,k*4+1,none⟩=some (.int .u8 vb)∧w'.cell? ⟨g,k*4+2,none⟩=some (.int .i64 vl)∧w'.cell? ⟨g,k*4+3,none⟩=some (.int .i64 vd))
          (first|with_reducible exact d7.out|with_reducible exact HS.out _ I.out|with_reducible exact HS.out _ d6.out|with_reducible exact HS.out _ (I.out.alloc _)|(refine HS.out _ ?_;(repeat refine Fr.setCell ?_ (.inr (by first|exact Nat.le_refl _|exact I.out.size)) _);first|exact I.out|exact I.out.alloc _)) ((
          (go_at_call 141
           first
             | (with_reducible refine (T.out _ (j.out.fr.trans I.out)).mono ?_
                rintro e wc ⟨F,rfl⟩;have I:=Hd (I.out.trans F);have d7:=Hd (HS.out _ I.out);clear F)
             | (with_reducible refine (T.out _ (j.out.fr.trans d6.out)).mono ?_
                rintro e wc ⟨F,rfl⟩;have hz:=F.keep j3.out (fun h=>h);have I:=Hd (d6.out.trans F);have d7:=Hd (HS.out _ I.out);obtain⟨z0,z1,z2,z3,zf⟩:=cf4 hz rfl rfl rfl rfl;have HZ:=Hd hz;clear hz F))))
        all_goals go_wp2_with fail
        all_goals go_meet
        all_goals first
          |with_reducible exact⟨_,rfl,heap_alloc_new wc _,I.out.alloc _,I.out.size⟩
          |with_reducible exact⟨_,rfl,y4 HZ.out _ _ _ _,fr4z I.out (Nat.le_refl _) _ _ _ _,Nat.le_refl _⟩
      case rest=>
        obtain⟨Y,rfl,f1,e5,k2⟩:=hcut;have e6:=(R0 wc).alloc (.cells #[.int .i64 yk,.int .u8 yb,.int .i64 yl,.int .i64 yd] 110);have h3:=Hd (e6.keep f1 (fun h=>h));have f6:=Hd (heap_alloc_new wc (.cells #[.int .i64 yk,.int .u8 yb,.int .i64 yl,.int .i64 yd] 110));have c:=Hd (j.out.keep (e5.trans e6));obtain⟨b0,b1,b2,b3⟩:=cs4 f1 rfl rfl rfl rfl;have k7:=e5.size;have j0:=Hd (show∀k,u9.ownBlock=some k→k<wr.heap.size from fun k G=>(World.ownsRow.lt j.out.sy.own k G).2);clear e6 f1 e5 T c0 c1 c2 c3 d0 d1 d2 d3 d4 v0 v1 v2 v3;generalize h5:wc.alloc (.cells #[.int .i64 yk,.int .u8 yb,.int .i64 yl,.int .i64 yd] 110)=W7 at h3 f6 c;have j1:=Hd h5;clear h5
        go_wp2_with (at_builtin
                     rw[j1.out];refine Lz.append_sym rfl _ _ rfl (w0:=w2) u9 l ⟨yk,yb,yl,yd⟩ wc.heap.size rfl rfl c.out.sy c.out.sz f6.out (by have:=c.out.cnt;have:=c.out.hi;omega) ?_;intro v9 w9 h4 H j5;have P:∀{k:Nat}{cs:Array Value}{t:TypeId}{fr:Nat×Nat},W7.heap[k]? =some (.cells cs t fr)→t≠110→¬u9.ownBlock=some k:=fun{k cs t fr} G ht e=>by
                       obtain⟨o,hc⟩:=Lz.own_block c.out.sy.own e;exact neOf G hc ht rfl
                     have Q:=H.keep c.out.st (P c.out.st (by decide));have b9:=H.keep c.out.pc (P c.out.pc (by decide));have c7:=H.keep c.out.rs (P c.out.rs (by decide));have a0:=H.keep h3.out (fun e=>by have:=j0.out _ e;omega);have c6:=c.out.ps.step H (fun b hb e=>by
                       have h1:=c.out.old b hb;have h2:=c.out.sy.new b e;omega)
                     have b6:=c.out.fr.trans' H (fun k G e=>by
                       have h1:=c.out.sy.new k e;have h2:=(HF.out.trans R.out).size;omega)
                     have g6:=Hd h4;have g7:=Hd Q;have g1:=Hd b9;have g5:=Hd c7;have f7:=Hd a0;have b4:=Hd c6;have f9:=Hd b6;have g8:=Hd (Nat.le_trans c.out.sz H.size);simp only[S.cells] at Q;obtain⟨d0,d1,d2,d3,d4⟩:=cs5 Q rfl rfl rfl rfl rfl;clear b0 b1 b2 b3;obtain⟨b0,b1,b2,b3⟩:=cs4 a0 rfl rfl rfl rfl;clear P Q b9 c7 a0 c6 b6 h4 H j5)
        with_reducible refine(HN.out w9).mono ?_
        rintro e f2 ⟨rfl,O⟩;have u:=O.keep g7.out (fun h=>h);have Z:=O.keep f7.out (fun h=>h);have df:=fun i=>frozen_in u i;simp only[S.cells] at u;clear d0 d1 d2 d3 d4 b0 b1 b2 b3;obtain⟨d0,d1,d2,d3,d4⟩:=cs5 u rfl rfl rfl rfl rfl;obtain⟨b0,b1,b2,b3⟩:=cs4 Z rfl rfl rfl rfl;have V:=Hd u;have f:=Hd O;have k6:=lt_of_block j.out.rs;have j9:¬Y=w.heap.size+1:=by omega
        have k0:¬w.heap.size+1=Y:=by omega
        have k4:p+m≤1099511627776:=by omega
        clear u Z O;go_wp2_with fail;obtain⟨W9,a6⟩:∃W9,W9=(((((f2.setCell ⟨w.heap.size+1,0,none⟩ (.int .i64 rn)).setCell ⟨w.heap.size+1,1,none⟩ (.int .i64 ra)).setCell ⟨w.heap.size+1,2,none⟩ (.int .i64 rb)).setCell ⟨w.heap.size+1,3,none⟩ (.int .i64 rc)).setCell ⟨w.heap.size+1,4,none⟩ (.int .i64 rd)):=⟨_,rfl⟩;have r:Fr (fun k=>k=w.heap.size+1) f2 W9:=by
          rw[a6];exact((((Fr.one _ _ _ _).trans (Fr.one _ _ _ _)).trans (Fr.one _ _ _ _)).trans (Fr.one _ _ _ _)).trans (Fr.one _ _ _ _)
        have c8:W9.heap[w.heap.size+1]? =some (.cells #[.int .i64 rn,.int .i64 ra,.int .i64 rb,.int .i64 rc,.int .i64 rd] 103 (0,0)):=by
          rw[a6];exact set_in (set_in (set_in (set_in (set_in V.out 0 (.int .i64 rn)) 1 (.int .i64 ra)) 2 (.int .i64 rb)) 3 (.int .i64 rc)) 4 (.int .i64 rd)
        have K:∀{b:Nat}{o:Array Value},f2.heap[b]? =some (.cells o 110 (0,0))→¬b=w.heap.size+1:=fun{b o} hb e=>by
          subst e;exact neOf V.out hb (by decide) rfl
        rw[←a6];have i8:=Hd (show RC pl L (.slice (some ⟨g,0,none⟩) n cp) w w2 W9 w.heap.size (w.heap.size+1) (w.heap.size+1+1) a d x tp dict data ⟨sn,s0,s1,s2,s3⟩ (p+m) ⟨rn,ra,rb,rc,rd⟩ (l++[⟨yk,yb,yl,yd⟩]) v9 from
          ⟨(f9.out.trans f.out).trans' r (fun k G e=>by omega),r.keep (f.out.keep g1.out (fun h=>h)) (by omega),c8,r.keep (f.out.keep g5.out (fun h=>h)) (by omega),(g6.out.step f.out (fun _ _ h=>h)).step r (fun b hb e=>by
            obtain⟨o,hc⟩:=Lz.own_block (g6.out.step f.out (fun _ _ h=>h)).own hb;exact K hc e),(b4.out.step f.out (fun _ _ h=>h)).step r (fun b hb e=>by
            obtain⟨o,hc⟩:=Lz.own_block (b4.out.step f.out (fun _ _ h=>h)).own hb;exact K hc e),j.out.old,i9.out,Nat.le_trans j.out.ge (Nat.le_add_right _ _),Nat.le_trans (Nat.le_trans g8.out f.out.size) r.size,g0.out,a2.1,by have:=j.out.cnt;rw[List.length_append,List.length_singleton];omega⟩)
        clear r c8 a6 K;refine(N.out W9).mono ?_;rintro e k8 ⟨rfl,b5⟩;have f8:=Hd b5;clear b5;go_wp2_with fail;go_roundw
        · exact⟨p+m,⟨rn,ra,rb,rc,rd⟩,l++[⟨yk,yb,yl,yd⟩],A++[⟨vk,vb,vl,vd⟩],B,by simp,by simp[HK.out],by rw[←i6.out];simp,i8.out.keep f8.out,f5⟩
        · simp[intOf];omega
end Rx
end Go.Proofs.YtffoddpjfgjelaaGreatDoor
