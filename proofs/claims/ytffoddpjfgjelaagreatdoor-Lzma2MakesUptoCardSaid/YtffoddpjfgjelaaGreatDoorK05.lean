/- Part 5 of 54: lemmas of the last part, each under the conditions that it names. -/
import Derived.Deep.QuietTactic
import Derived.BigQuiet
import Derived.LoopN
import Derived.Deep.RegionHeld3
import Derived.Deep.CutBlock
import Derived.Deep.DeepCutAuto
import Derived.Test.YtffoddpjfgjelaaGreatDoorK04
set_option linter.unusedVariables false
set_option linter.unusedSimpArgs false
set_option maxRecDepth 1500
set_option maxHeartbeats 4000000
namespace Go.Proofs.YtffoddpjfgjelaaGreatDoor
open Go.RowKit
namespace Wire
open Mem
theorem wpList_copy_any{P:Program}{e:Array Oper}{rest:List Oper}{o:Oper}{a:Act}{w:World}{Q:Exit→Act→World→Prop}(i:o.guard=none)(d s:Operand)(g j c:TypeId)
 (t:o.op=.call {callee:=.builtin .copy,args:=#[d,s],argTypes:=#[g,j]})(hu:P.underlying g=some (.slice c))(hs:(P.info? c).map (·.size)=some 1)
 (rp:Option Addr)(rl rc u:Nat)(ring:List UInt8)(T:TypeId)(hd:a.eval d=.slice (dropP rp rc u) (rl-u) (rc-u))(hown:w.ownsRow 0 T 1 (.slice rp rl rc) rl (bvs ring))(hu1:u<rl)
 (p:Option Addr)(n cap:Nat)(b:List UInt8)(hv:a.eval s=.slice p n cap)(hb:Rd w (.slice p n cap) b)(h0:0<n)(m:Nat)(hm:m=min n (rl-u))
 (h:∀f,f.ownsRow 0 T 1 (.slice rp rl rc) rl (bvs (ring.take u++b.take m++ring.drop (u+m)))→Fr (fun k=>(Value.slice rp rl rc).ownBlock=some k) w f→wpList P e Q rest (a.put o.dst (.int .i64 (m:Int))) f):
 wpList P e Q (o::rest) a w:=by
 refine wpList_plain i fun K r=> ?_;obtain⟨f,v,l,q⟩:=run_copy_any (P:=P) w g j o.type c hu hs rp rl rc u ring T hown hu1 p n cap b hb h0 m hm;unfold Oper.wp;simp[execOp,t,resolve,invoke,builtin,hd,hv,v,Result.andThen];exact r _ _ (h f l q)
theorem make_u8(n:Nat)(h:n≤281474976710656)(W:World):
 (Instr.makeSlice 22 (.int .i64 n) (.int .i64 n)).run Tryz.prog W=.ok (.slice (some ⟨W.heap.size,0,none⟩) n n) (W.alloc (.cells (Array.replicate n (.int .u8 0)) 5)):=by
 obtain⟨i,b,d,c,a⟩:=info_parts infoU8;have:=run_make (P:=Tryz.prog) W 22 5 i (.int .u8 0) Tryz.underlying22 b d .i64 .i64 n n (by omega) (by omega) (by rw[a];omega) (by omega);rw[this,c,Int.toNat_natCast,Nat.mul_one];have e:madeCells (Value.int .u8 0).cells n=Array.replicate n (Value.int .u8 0):=by
  apply Array.ext
  ·simp[madeCells]
  ·intro k f g
   simp[madeCells,Value.cells,Nat.mod_one]
 rw[e]
structure Rdr(w:World)(B n:Nat)(v:Value)(xs:List UInt8):Prop where
 box:w.heap[B]? =some (.cells #[.int .i64 n,v] 382 (0,0))
 rd:Rd w v xs
 le:n≤xs.length
 small:xs.length≤1099511627776
theorem Rdr.slice{w:World}{B n:Nat}{v:Value}{xs:List UInt8}(h:Rdr w B n v xs):∃p a,v=.slice p xs.length a∧xs.length≤a∧a≤maxLen:=by
 obtain⟨p,a,rfl,b,c,_⟩:=h.rd;exact⟨p,a,rfl,b,c⟩
theorem rdrV_nb(a:Int)(p:Option Addr)(n c:Nat)(i:Nat)(m:Int):(#[.int .i64 a,.slice p n c]:Array Value)[i]? ≠some (Value.int .u8 m):=by
 intro h;have:=Array.mem_of_getElem? h;simp at this
theorem rd_off0{w:World}{v:Value}{xs:List UInt8}(h:Rd w v xs)(d:0<xs.length){g:Nat}{c:Array Value}{T:TypeId}{fr:Nat×Nat}(q:w.heap[g]? =some (.cells c T fr))(a:∀(i:Nat)(n:Int),c[i]? ≠some (Value.int .u8 n)):∀k,v.ownBlock=some k→k≠g:=by
 obtain⟨p,j,rfl,_,_,l⟩:=h;obtain⟨b,o,rfl,m⟩:=l d;intro k f;simp only[Value.ownBlock,Option.some.injEq] at f;subst f;rintro rfl;have e:=m 0 xs[0] (by simp[d]);rw[cell_of_row w _ _ _ _ _ q] at e;exact a _ _ e
theorem Rdr.on{w w':World}{B n k:Nat}{v:Value}{xs:List UInt8}(h:Rdr w B n v xs)(g:n+k≤xs.length)(b:Fr (fun k=>k=B) w w')(f:w'.heap[B]? =some (.cells #[.int .i64 ((n+k:Nat):Int),v] 382 (0,0))):Rdr w' B (n+k) v xs:=by
 refine⟨f,?_,g,h.small⟩;by_cases c:0<xs.length
 ·obtain⟨p,a,rfl,_⟩:=h.slice
  exact h.rd.step b (rd_off0 h.rd c h.box (rdrV_nb _ _ _ _))
 ·obtain⟨p,a,rfl,d,e,i⟩:=h.rd
  exact⟨p,a,rfl,d,e,fun h=>absurd h c⟩
theorem Rdr.keep{S:Nat→Prop}{w w':World}{B n:Nat}{v:Value}{xs:List UInt8}(h:Rdr w B n v xs)(a:Fr S w w')(b:¬S B)(c:∀k,v.ownBlock=some k→¬S k):Rdr w' B n v xs:=⟨a.keep h.box b,h.rd.step a c,h.le,h.small⟩
theorem left_calls(B n:Nat)(v:Value)(xs:List UInt8)(w:World)(h:Rdr w B n v xs):
 Calls Tryz.prog 255 #[.pointer (some ⟨B,0,none⟩)] w fun e d=>e=.returned (.int .i64 ((xs.length-n:Nat):Int))∧∃m,d=w.drewN m:=by
 obtain⟨p,a,rfl,_⟩:=h.slice;have f:w.cell? ⟨B,0,none⟩=some (.int .i64 n):=cell_in h.box rfl;have g:w.cell? ⟨B,1,none⟩=some (.slice p xs.length a):=cell_in h.box rfl;have b:=h.le;have c:=h.small;have i:IntKind.i64.wrap ((xs.length:Int)-n)=(xs.length:Int)-n:=IntWalk.i64_in _ (by omega);clear h;go_enter Tryz.func255,Tryz.ntmps255;go_wp2_with fail;go_quiet (fail);go_wp2_with fail;go_ret;exact⟨ret_int (by omega),_,rfl⟩
theorem wide_calls(w:World):Calls Tryz.prog 176 #[.int .i64 2] w fun e a=>e=.returned (.bool true)∧w=a:=by
 go_enter Tryz.func176,Tryz.ntmps176;go_wp2_with fail;go_ret;exact⟨rfl,rfl⟩
theorem number_calls(B n:Nat)(v:Value)(xs:List UInt8)(w:World)(h:Rdr w B n v xs):
 Calls Tryz.prog 257 #[.pointer (some ⟨B,0,none⟩),.int .i64 2] w fun e b=>e=.returned (.int .i64 (if xs.length-n<2 then 1 else 0))∧∃m,b=w.drewN m:=by
 have a:=Hd (left_calls B n v xs w h);clear h;by_cases d:xs.length-n<2;all_goals
  go_enter Tryz.func257,Tryz.ntmps257;go_wp2_with fail;refine(wide_calls _).mono ?_;rintro e c ⟨rfl,rfl⟩;go_wp2_with fail;refine a.out.mono ?_;rintro e c ⟨rfl,m,rfl⟩;go_wp2_with fail;go_ret;exact⟨rfl,_,rfl⟩
theorem on_calls(B n k:Nat)(v:Value)(w:World)(h:w.heap[B]? =some (.cells #[.int .i64 n,v] 382 (0,0)))(d:n+k≤9223372036854775807):
 Calls Tryz.prog 175 #[.pointer (some ⟨B,0,none⟩),.int .i64 k] w fun e a=>e=.returned (.tuple #[])∧Fr (fun k=>k=B) w a∧a.heap[B]? =some (.cells #[.int .i64 ((n+k:Nat):Int),v] 382 (0,0)):=by
 have b:w.cell? ⟨B,0,none⟩=some (.int .i64 n):=cell_in h rfl;have c:=frozen_in h 0;have f:IntKind.i64.wrap ((n:Int)+k)=((n+k:Nat):Int):=by rw[IntWalk.i64_in _ (by omega)];omega
 have H:=Hd h;clear h;generalize n+k=nk at*;go_enter Tryz.func175,Tryz.ntmps175;go_wp2_with fail;go_end0;exact⟨rfl,Fr.one _ _ _ _,by rw[set_in H.out 0];rfl⟩
theorem next_calls(B n k:Nat)(v:Value)(xs:List UInt8)(w:World)(h:Rdr w B n v xs)(z:n+k≤xs.length):
 Calls Tryz.prog 256 #[.pointer (some ⟨B,0,none⟩),.int .i64 k] w fun e u=>Fr (fun k=>k=B) w u∧Rdr u B (n+k) v xs∧∃q c,e=.returned (.slice q k c)∧Rd u (.slice q k c) ((xs.drop n).take k):=by
 obtain⟨p,f,rfl,G,I⟩:=h.slice;have L:w.cell? ⟨B,0,none⟩=some (.int .i64 n):=cell_in h.box rfl;have M:w.cell? ⟨B,1,none⟩=some (.slice p xs.length f):=cell_in h.box rfl;have J:=h.small;have O:IntKind.i64.wrap ((n:Int)+k)=(n:Int)+k:=IntWalk.i64_in _ (by omega);have t:=slice_lhI p xs.length f n (n+k) n ((n:Int)+k) rfl (by omega) (by omega) (by omega);have g:=rd_mid (a:=n) (b:=n+k) h.rd (by omega) z;rw[show n+k-n=k by omega] at t g;have H:=Hd h;have j:=Hd (fun m=>on_calls B n k (.slice p xs.length f) (w.drewN m) (((R0 w).drewN m).keep h.box (fun h=>h)) (by omega));have i:=Hd (fun m=>(Fr.refl (fun k=>k=B) w).drewN m);have d:=Hd g;clear h g;generalize dropP p f n=q at*;generalize f-n=c at*;go_enter Tryz.func256,Tryz.ntmps256;go_wp2_with fail;go_quiet (fail);have C:=Hd (j.out nq);have s:=Hd (i.out nq);clear j i;generalize w.drewN nq=W at*;go_wp2_with fail;refine C.out.mono ?_;rintro e P ⟨rfl,o,y⟩;have r:=Hd (s.out.trans o);have A:=Hd y;clear o y;go_wp2_with fail;go_ret;refine⟨r.out,H.out.on z r.out A.out,q,c,rfl,?_⟩;by_cases x:0<((xs.drop n).take k).length
 ·exact d.out.step r.out (rd_off0 d.out x H.out.box (rdrV_nb _ _ _ _))
 ·obtain⟨K,l,D,E,F,N⟩:=d.out
  exact⟨K,l,D,E,F,fun h=>absurd h x⟩
end Wire
namespace Wire
open Mem
theorem off_calls(B n:Nat)(v:Value)(xs:List UInt8)(w:World)(h:Rdr w B n v xs):
 Calls Tryz.prog 226 #[.pointer (some ⟨B,0,none⟩)] w fun e a=>e=.returned (.int .i64 n)∧w=a:=by
 have b:w.cell? ⟨B,0,none⟩=some (.int .i64 n):=cell_in h.box rfl;clear h;go_enter Tryz.func226,Tryz.ntmps226;go_wp2_with fail;go_ret;exact⟨rfl,rfl⟩
theorem u8_calls(B n:Nat)(v:Value)(xs:List UInt8)(x:UInt8)(w:World)(h:Rdr w B n v xs)(j:xs[n]? =some x):
 Calls Tryz.prog 224 #[.pointer (some ⟨B,0,none⟩)] w fun e r=>e=.returned (.tuple #[.int .i64 x.toNat,.int .i64 0])∧Fr (fun k=>k=B) w r∧Rdr r B (n+1) v xs:=by
 have A:=(List.getElem?_eq_some_iff.1 j).1;have l:=Hd (left_calls B n v xs w h);have t:=Hd (fun m=>next_calls B n 1 v xs (w.drewN m) ⟨((R0 w).drewN m).keep h.box (fun h=>h),h.rd.keep ((R0 w).drewN m),h.le,h.small⟩ (by omega));have g:=Hd (fun m=>(Fr.refl (fun k=>k=B) w).drewN m);have D:=UInt8.toNat_lt x;have b:((xs.drop n).take 1)[0]? =some x:=by
  rw[List.getElem?_take,if_pos (by omega),List.getElem?_drop];exact j
 have i:=Hd b;obtain⟨a,p⟩:∃a,a=xs.length-n:=⟨_,rfl⟩;rw[←p] at l;have y:1≤a:=by omega
 clear h j b p A;go_enter Tryz.func224,Tryz.ntmps224;go_wp2_with fail;refine l.out.mono ?_;rintro e H ⟨rfl,m,rfl⟩;go_wp2_with fail;refine(t.out m).mono ?_;rintro e I ⟨d,o,q,c,rfl,f⟩;obtain⟨E,G,C,z⟩:=Win.byte_at f i.out;have s:=Hd ((g.out m).trans d);have u:=Hd o;clear d o f;subst C;rw[Nat.add_zero] at z;have F:IntKind.i64.wrap (x.toNat:Int)=(x.toNat:Int):=IntWalk.i64_in _ (by omega);go_wp2_with fail;go_ret2;exact⟨rfl,s.out,u.out⟩
def beV(xs:List UInt8):Nat→Nat
 |0=>0
 |k+1=>beV xs k*256+(xs.getD k 0).toNat
theorem beV_lt(xs:List UInt8):∀k,beV xs k<256^k
 |0=>by simp[beV]
 |k+1=>by
   have a:=beV_lt xs k;have b:=UInt8.toNat_lt (xs.getD k 0);rw[beV,Nat.pow_succ];omega
theorem or_byte64 (a c:Nat) (d:a<72057594037927936) (b:c<256):bits BinOp.or IntKind.u64 ((a:Int)*256) (c:Int)=((a*256+c:Nat):Int):=by
 rw[show((a:Int)*256)=((a*256:Nat):Int) by omega,bits_or_u64_nat _ _ (by omega) (by omega)];congr 1;rw[Nat.mul_comm,show(256:Nat)=2^8 by rfl,Nat.two_pow_add_eq_or_of_lt (by simpa using b)]
theorem high_calls(B n:Nat)(v:Value)(xs:List UInt8)(w:World)(h:Rdr w B n v xs)(H:n+2≤xs.length):
 Calls Tryz.prog 225 #[.pointer (some ⟨B,0,none⟩),.int .i64 2] w fun e y=>e=.returned (.tuple #[.int .u64 (beV (xs.drop n) 2),.int .i64 0])∧Fr (fun k=>k=B) w y∧Rdr y B (n+2) v xs:=by
 have t:=Hd (number_calls B n v xs w h);rw[if_neg (by omega)] at t;have C:=Hd (fun m=>next_calls B n 2 v xs (w.drewN m) ⟨((R0 w).drewN m).keep h.box (fun h=>h),h.rd.keep ((R0 w).drewN m),h.le,h.small⟩ (by omega));have g:=Hd (fun m=>(Fr.refl (fun k=>k=B) w).drewN m);have j:=Hd (show∀k,k<2→((xs.drop n).take 2)[k]? =some ((xs.drop n).getD k 0) from fun k x=>by
  rw[List.getElem?_take,if_pos x,List.getD_eq_getElem?_getD,List.getElem?_eq_getElem (by rw[List.length_drop];omega)];rfl)
 clear h H;generalize xs.drop n=ys at*;go_enter Tryz.func225,Tryz.ntmps225;go_wp2_with fail;refine t.out.mono ?_;rintro e L ⟨rfl,m,rfl⟩;go_wp2_with fail;refine(C.out m).mono ?_;rintro e M ⟨b,u,q,c,rfl,d⟩;have A:=Hd ((g.out m).trans b);have E:=Hd u;have l:=Hd d;clear b u d;go_wp2_with fail;go_loop [7,20](fun a i=>∃k:Nat,k≤2∧i=.int .i64 k∧a=.int .u64 (beV ys k)) (fun _ i=>2-(intOf i).toNat);case atStart=>exact⟨0,by omega,rfl,rfl⟩
 case round=>
  obtain⟨k,x,rfl,rfl⟩:=hrel;by_cases r:k<2
  ·obtain⟨I,K,G,J⟩:=Win.byte_at l.out (j.out k r)
   have o:=beV_lt ys k;have s:256^k≤256:=Nat.le_trans (Nat.pow_le_pow_right (by omega) (show k≤1 by omega)) (by decide);have p:=UInt8.toNat_lt (ys.getD k 0);have D:=Hd (or_byte64 (beV ys k) (ys.getD k 0).toNat (by omega) p);have f:=Hd (show beV ys (k+1)=beV ys k*256+(ys.getD k 0).toNat from rfl);have F:beV ys k<256:=by omega
   subst G;clear o s;generalize beV ys k=a at*;generalize(ys.getD k 0).toNat=z at*;go_wp2_with fail;go_round;case rel=>exact⟨k+1,by omega,by go_num,by rw[D.out,f.out]⟩
   case measure=>simp[intOf];omega
  ·obtain rfl:k=2:=by omega
   go_wp2_with fail;go_ret2;exact⟨rfl,A.out,E.out⟩
theorem dropP_zero(b o c:Nat):dropP (some ⟨b,o,none⟩) c 0=some ⟨b,o,none⟩:=by
 unfold dropP;split
 ·rfl
 ·rw[Option.map_some,add_mid]
  rfl
theorem sizeU8:(Tryz.prog.info? 5).map (·.size)=some 1:=by kernel_rfl
theorem newReader_calls(v:Value)(xs:List UInt8)(w:World)(m:Rd w v xs)(x:0<xs.length)(G:xs.length≤1099511627776):
    Calls Tryz.prog 223 #[v] w fun e C=>Fr (fun _=>False) w C∧∃B v2,e=.returned (.pointer (some ⟨B,0,none⟩))∧Rdr C B 0 v2 xs∧w.heap.size≤B∧∀k,v2.ownBlock=some k→w.heap.size≤k:=by
  obtain⟨p,d,rfl,q,r,y⟩:=m;have m:Rd w (.slice p xs.length d) xs:=⟨p,d,rfl,q,r,y⟩;have f:=(R0 w).alloc (.cells (Array.replicate xs.length (.int .u8 0)) 5);have z:=heap_alloc_new w (.cells (Array.replicate xs.length (.int .u8 0)) 5);have H:=make_u8 xs.length (by omega);have c:(w.alloc (.cells (Array.replicate xs.length (.int .u8 0)) 5)).ownsRow 0 5 1 (.slice (some ⟨w.heap.size,0,none⟩) xs.length xs.length) xs.length (bvs (List.replicate xs.length 0)):=by
    refine own_row (g:=w.heap.size) ?_ (by simp[bvs]) (by simp only[maxLen];omega);rw[z];simp[bvs,bv]
  have D:=Hd c;have E:=Hd (m.keep f);have u:=Hd f;have I:=Tryz.underlying22;clear m f z c y;go_enter Tryz.func223,Tryz.ntmps223;have A:True:=trivial
  go_wp2_with (refine wpList_copy_any rfl (.tmp 7) (.tmp 8) 22 22 5 rfl I sizeU8 (some ⟨w.heap.size,0,none⟩) xs.length xs.length 0 (List.replicate xs.length 0) 5 (by rw[dropP_zero];rfl) D.out x p xs.length d xs rfl E.out x xs.length (by omega) ?_
               intro t a b;have n:=Hd a;have j:=Hd b;clear a b)
  go_ret;have s:=heap_alloc_new t (.cells #[.int .i64 0,.slice (some ⟨w.heap.size,0,none⟩) xs.length xs.length] 382);have l:=(R0 t).alloc (.cells #[.int .i64 0,.slice (some ⟨w.heap.size,0,none⟩) xs.length xs.length] 382);have o:=n.out;simp only[List.take_zero,List.nil_append,Nat.zero_add] at o;rw[List.drop_of_length_le (by simp),List.append_nil,List.take_length] at o;refine⟨(u.out.trans' j.out (fun i J h=> ?_)).trans l,t.heap.size,_,rfl,⟨s,(Rd.of_own o).keep l,by omega,G⟩,Nat.le_trans u.out.size j.out.size,fun k F=>by simp only[Value.ownBlock,Option.some.injEq] at F;omega⟩;simp only[Value.ownBlock,Option.some.injEq] at h;omega
end Wire
namespace Ck
open Mem
structure Head where
 kind:Nat
 size:Nat
 packed:Nat
 lc:Nat
 lp:Nat
 pb:Nat
def Head.cells(h:Head):Array Value:=#[.int .i64 h.kind,.int .i64 h.size,.int .i64 h.packed,.int .i64 h.lc,.int .i64 h.lp,.int .i64 h.pb]
def Head.none:Head:=⟨0,0,0,0,0,0⟩
def movesL:List Nat:=[3,1,4,4,4,4,2,3,1,1,4,4,2,2,3,1,2,2,2,2,2,4,4,4,4,4,4,4]
def Moves(w:World):Prop:=∃T fr,w.heap[5]? =some (.cells (St.rowOf movesL) T fr)
theorem Moves.step{S:Nat→Prop}{w w':World}(h:Moves w)(a:Fr S w w')(d:∀k,S k→6≤k):Moves w':=by
 obtain⟨e,b,c⟩:=h;exact⟨e,b,a.keep c (fun h=>absurd (d _ h) (by decide))⟩
def move(now kind:Nat):Nat:=movesL.getD (7*now+kind) 0
theorem move_le:∀a:Fin 4,∀k:Fin 7,move a k≤4:=by decide
theorem Moves.at{w:World}(h:Moves w){now kind:Nat}(b:now<4)(c:kind<7):w.cell? ⟨5,7*now+kind,none⟩=some (.int .i64 (move now kind)):=by
 have a:7*now+kind<movesL.length:=by simp[movesL];omega
 exact St.tab_at h a
def OrdAt(w:World)(B now:Nat):Prop:=w.heap[B]? =some (.cells #[.int .i64 now] 276 (0,0))
theorem newOrder_calls(w:World):Calls Tryz.prog 98 #[] w fun e a=>e=.returned (.pointer (some ⟨w.heap.size,0,none⟩))∧Fr (fun _=>False) w a∧OrdAt a w.heap.size 0:=by
 go_enter Tryz.func98,Tryz.ntmps98;go_wp2_with fail;go_ret;exact⟨rfl,(Fr.refl _ _).alloc _,heap_alloc_new _ _⟩
theorem ended_calls(B now:Nat)(w:World)(h:OrdAt w B now):Calls Tryz.prog 99 #[.pointer (some ⟨B,0,none⟩)] w fun e b=>e=.returned (.bool (decide (now=3)))∧w=b:=by
 have c:w.cell? ⟨B,0,none⟩=some (.int .i64 now):=cell_in h rfl;clear h;by_cases a:now=3
 ·subst a
  go_enter Tryz.func99,Tryz.ntmps99;go_wp2_with fail;go_ret;exact⟨rfl,rfl⟩
 ·have d:((now:Int)==3)=false:=by simp;omega
  rw[show decide (now=3)=false by simp[a]];clear a;go_enter Tryz.func99,Tryz.ntmps99;go_wp2_with fail;go_ret;exact⟨rfl,rfl⟩
theorem order_calls(B now kind:Nat)(w:World)(h:OrdAt w B now)(b:Moves w)(f:now<4)(d:kind<7):
 Calls Tryz.prog 162 #[.pointer (some ⟨B,0,none⟩),.int .i64 kind] w fun e c=>e=.returned (.int .i64 (if move now kind=4 then 2 else 0))∧Fr (fun k=>k=B) w c∧OrdAt c B (if move now kind=4 then now else move now kind):=by
 have g:w.cell? ⟨B,0,none⟩=some (.int .i64 now):=cell_in h rfl;have i:=frozen_in h 0;have a:=b.at f d;have H:=Hd h;clear h b;obtain rfl|rfl|rfl|rfl:now=0∨now=1∨now=2∨now=3:=by omega
 all_goals
  obtain rfl|rfl|rfl|rfl|rfl|rfl|rfl:kind=0∨kind=1∨kind=2∨kind=3∨kind=4∨kind=5∨kind=6:=by omega
 all_goals
  simp only[Nat.reduceMul,Nat.reduceAdd,Nat.mul_zero,Nat.zero_add,Nat.add_zero,move,movesL,List.getD_cons_zero,List.getD_cons_succ,Nat.reduceEqDiff,if_true,if_false] at a ⊢;go_enter Tryz.func162,Tryz.ntmps162;go_wp2_with fail;go_ret;first
   |exact⟨rfl,Fr.one _ _ _ _,set_in H.out 0 _⟩
   |exact⟨rfl,Fr.refl _ _,H.out⟩
def kindOf(x:Nat):Option Nat:=if x≤2 then some x else if x<128 then none else some (3+x/32%4)
def kindI(x:Nat):Int:=match kindOf x with
 |none=>-1
 |some k=>k
set_option maxRecDepth 100000 in
theorem kindOf_calls(x:Nat)(d:x<256)(w:World):Calls Tryz.prog 161 #[.int .u8 x] w fun e f=>e=.returned (.int .i64 (kindI x))∧w=f:=by
 have g:bits BinOp.and IntKind.u8 ((x:Int)/32) 3=((x/32%4:Nat):Int):=by
  have a:∀n:Fin 256,bits BinOp.and IntKind.u8 ((n.val:Int)/32) 3=((n.val/32%4:Nat):Int):=by decide+kernel
  exact a ⟨x,d⟩
 have c:x/32%4<4:=Nat.mod_lt _ (by omega);unfold kindI kindOf;generalize x/32%4=m at*;by_cases a:x≤2
 ·rw[if_pos a]
  simp only;go_enter Tryz.func161,Tryz.ntmps161;go_wp2_with fail;go_ret;exact⟨rfl,rfl⟩
 ·rw[if_neg a]
  by_cases b:x<128
  ·rw[if_pos b]
   simp only;go_enter Tryz.func161,Tryz.ntmps161;go_wp2_with fail;go_ret;exact⟨rfl,rfl⟩
  ·rw[if_neg b]
   simp only;go_enter Tryz.func161,Tryz.ntmps161;go_wp2_with fail;go_ret;exact⟨ret_int (by omega),rfl⟩
def beyond(told:Int)(n:Nat):Bool:=decide (0≤told∧told<(n:Int))
theorem beyond_calls(a:Int)(n:Nat)(w:World):Calls Tryz.prog 160 #[.int .i64 a,.int .i64 n] w fun e f=>e=.returned (.bool (beyond a n))∧w=f:=by
 generalize c:beyond a n=q;have d:=Hd c;clear c;go_enter Tryz.func160,Tryz.ntmps160;go_wp2_with fail;all_goals
  go_ret;refine⟨ret_bool ?_,rfl⟩;have b:=d.out;unfold beyond at b;rw[←b,Bool.eq_iff_iff];simp;try omega
end Ck
namespace Ck
open Mem Wire
def get(xs:List UInt8):Head×Nat×Nat:=
 let x:=(xs.getD 0 0).toNat
 if xs.length=0 then(Head.none,0,1)
 else if x=0 then(Head.none,1,0)
 else if x≤2 then if xs.length<3 then(Head.none,0,1) else(⟨x,beV (xs.drop 1) 2+1,beV (xs.drop 1) 2+1,0,0,0⟩,3,0)
 else if x<128 then(Head.none,0,2)
 else if xs.length<5 then(Head.none,0,1)
 else if(x-128)/32<2 then(⟨3+(x-128)/32,x%32*65536+beV (xs.drop 1) 2+1,beV (xs.drop 3) 2+1,0,0,0⟩,5,0)
 else if xs.length<6 then(Head.none,0,1)
 else if St.bytePropsOk (xs.getD 5 0).toNat then(⟨3+(x-128)/32,x%32*65536+beV (xs.drop 1) 2+1,beV (xs.drop 3) 2+1,(xs.getD 5 0).toNat%9,(xs.getD 5 0).toNat/9%5,(xs.getD 5 0).toNat/45⟩,6,0)
 else(Head.none,0,2)
theorem get_le(xs:List UInt8):(get xs).2.1≤6:=by
 unfold get;simp only;repeat' split
 all_goals simp
theorem el_at{xs:List UInt8}{n:Nat}(h:n<xs.length):xs[n]? =some (xs.getD n 0):=by
 rw[List.getD_eq_getElem?_getD,List.getElem?_eq_getElem h];rfl
theorem beV2_lt(xs:List UInt8):beV xs 2<65536:=beV_lt xs 2
theorem rdr_keep0{w w':World}{B n:Nat}{v:Value}{xs:List UInt8}(h:Rdr w B n v xs)(a:Fr (fun _=>False) w w'):Rdr w' B n v xs:=h.keep a (fun h=>h) (fun _ _ h=>h)
theorem rd_lt{w:World}{v:Value}{xs:List UInt8}(h:Rd w v xs)(a:0<xs.length):∀k,v.ownBlock=some k→k<w.heap.size:=by
 obtain⟨p,d,rfl,_,_,e⟩:=h;obtain⟨b,o,rfl,f⟩:=e a;intro k c;simp only[Value.ownBlock,Option.some.injEq] at c;subst c;exact block_lt_of_cell (f 0 xs[0] (by simp[a]))
structure G(w0 wk:World)(z2 z8 B n:Nat)(v2:Value)(xs:List UInt8)(c:Array Value):Prop where
 fr:Fr (fun _=>False) w0 wk
 b2:wk.heap[z2]? =some (.cells #[.int .i64 0,.int .i64 0,.int .i64 0,.int .i64 0,.int .i64 0,.int .i64 0] 47 (0,0))
 b8:wk.heap[z8]? =some (.cells c 47 (0,0))
 rdr:Rdr wk B n v2 xs
 o2:w0.heap.size≤z2
 o8:w0.heap.size≤z8
 oB:w0.heap.size≤B
 ne:z2≠z8
 off:∀k,v2.ownBlock=some k→k≠z2∧k≠z8
theorem G.B2{w0 d:World}{z2 b B n:Nat}{v2:Value}{xs:List UInt8}{c:Array Value}(h:G w0 d z2 b B n v2 xs c):B≠z2∧B≠b:=by
 constructor
 ·intro e
  have a:=h.rdr.box;rw[e,h.b2] at a;simp at a
 ·intro e
  have a:=h.rdr.box;rw[e,h.b8] at a;simp at a
theorem G.call{w0 g b:World}{z2 d B n f:Nat}{v2:Value}{xs:List UInt8}{c:Array Value}(h:G w0 g z2 d B n v2 xs c)(a:Fr (fun k=>k=B) g b)(j:Rdr b B f v2 xs):G w0 b z2 d B f v2 xs c:=
 ⟨h.fr.trans' a (fun i hi(e:i=B)=>by have:=h.oB;omega),a.keep h.b2 (fun(e:z2=B)=>h.B2.1 e.symm),a.keep h.b8 (fun(e:d=B)=>h.B2.2 e.symm),j,h.o2,h.o8,h.oB,h.ne,h.off⟩
theorem G.set{w0 d:World}{z2 b B n:Nat}{v2:Value}{xs:List UInt8}{c:Array Value}(h:G w0 d z2 b B n v2 xs c)(i:Nat)(u:Value):G w0 (d.setCell ⟨b,i,none⟩ u) z2 b B n v2 xs (c.setIfInBounds i u):=by
 have a:Fr (fun k=>k=b) d (d.setCell ⟨b,i,none⟩ u):=Fr.one _ _ _ _;exact⟨h.fr.trans' a (fun i hi(e:i=b)=>by have:=h.o8;omega),a.keep h.b2 h.ne,set_in h.b8 i u,h.rdr.keep a h.B2.2 (fun k f e=>(h.off k f).2 e),h.o2,h.o8,h.oB,h.ne,h.off⟩
theorem G.set6{w0 i:World}{z2 g B n:Nat}{v2:Value}{xs:List UInt8}(h:G w0 i z2 g B n v2 xs #[.int .i64 0,.int .i64 0,.int .i64 0,.int .i64 0,.int .i64 0,.int .i64 0])(a b c d e f:Value):G w0 ((((((i.setCell ⟨g,0,none⟩ a).setCell ⟨g,1,none⟩ b).setCell ⟨g,2,none⟩ c).setCell ⟨g,3,none⟩ d).setCell ⟨g,4,none⟩ e).setCell ⟨g,5,none⟩ f) z2 g B n v2 xs #[a,b,c,d,e,f]:=
 (((((h.set 0 a).set 1 b).set 2 c).set 3 d).set 4 e).set 5 f
theorem G.off'{w0 d:World}{z2 g B n:Nat}{v2:Value}{xs:List UInt8}{c:Array Value}(h:G w0 d z2 g B n v2 xs c){w':World}(a:Fr (fun k=>k=z2) d w'):Calls Tryz.prog 226 #[.pointer (some ⟨B,0,none⟩)] w' fun e b=>e=.returned (.int .i64 n)∧w'=b:=
 off_calls B n v2 xs w' (h.rdr.keep a h.B2.1 (fun k f e=>(h.off k f).1 e))
theorem G.cells'{w0 l:World}{z2 g B n:Nat}{v2:Value}{xs:List UInt8}{a b c d e f:Value}(h:G w0 l z2 g B n v2 xs #[a,b,c,d,e,f]){w':World}(j:Fr (fun k=>k=z2) l w'):
 w'.cell? ⟨g,0,none⟩=some a∧w'.cell? ⟨g,1,none⟩=some b∧w'.cell? ⟨g,2,none⟩=some c∧w'.cell? ⟨g,3,none⟩=some d∧w'.cell? ⟨g,4,none⟩=some e∧w'.cell? ⟨g,5,none⟩=some f:=by
 have i:=j.keep h.b8 (fun(e:g=z2)=>h.ne e.symm);exact⟨cell_in i rfl,cell_in i rfl,cell_in i rfl,cell_in i rfl,cell_in i rfl,cell_in i rfl⟩
theorem G.fin{w0 b:World}{z2 d B n:Nat}{v2:Value}{xs:List UInt8}{c:Array Value}(h:G w0 b z2 d B n v2 xs c){w':World}(a:Fr (fun k=>k=z2) b w'):Fr (fun _=>False) w0 w':=
 h.fr.trans' a (fun i hi(e:i=z2)=>by have:=h.o2;omega)
theorem set6{g:World}{z2:Nat}{a b c d e f:Value}:Fr (fun k=>k=z2) g ((((((g.setCell ⟨z2,0,none⟩ a).setCell ⟨z2,1,none⟩ b).setCell ⟨z2,2,none⟩ c).setCell ⟨z2,3,none⟩ d).setCell ⟨z2,4,none⟩ e).setCell ⟨z2,5,none⟩ f):=
 (((((Fr.one _ _ _ _).trans (Fr.one _ _ _ _)).trans (Fr.one _ _ _ _)).trans (Fr.one _ _ _ _)).trans (Fr.one _ _ _ _)).trans (Fr.one _ _ _ _)
abbrev zeros:Array Value:=#[.int .i64 0,.int .i64 0,.int .i64 0,.int .i64 0,.int .i64 0,.int .i64 0]
set_option maxRecDepth 100000 in
theorem get_end(v:Value)(a:List UInt8)(w:World)(z:Rd w v a)(h0:0<a.length)(hl:a.length≤1099511627776)(xs:List UInt8)(g:xs=a.take 6)(T:(xs.getD 0 0).toNat=0):
 Calls Tryz.prog 164 #[v] w fun e w'=>e=.returned (.tuple #[.agg Head.none.cells,.int .i64 1,.int .i64 0])∧Fr (fun _=>False) w w':=by
 obtain⟨p,c,rfl,R,S,W⟩:=z;have z:Rd w (.slice p a.length c) a:=⟨p,c,rfl,R,S,W⟩;have E:xs.length=min a.length 6:=by rw[g,List.length_take];omega
 have D:0<xs.length:=by omega
 have y:=el_at D;have a8:=UInt8.toNat_lt (xs.getD 0 0);have q:=(R0 w).alloc (.cells zeros 47);have Z:=heap_alloc_new w (.cells zeros 47);have u:∃M:Nat,Rd w (.slice p M c) xs∧M=xs.length∧M≤6∧((a.length≤6∧M=a.length)∨(6<a.length∧M=6)):=by
  by_cases t:a.length≤6
  ·have e:xs=a:=by rw[g,List.take_of_length_le t]
   exact⟨a.length,e ▸ z,by rw[e],t,.inl ⟨t,rfl⟩⟩
  ·have P:=rd_take (m:=6) z (by omega)
   exact⟨6,g ▸ P,by omega,by omega,.inr ⟨by omega,rfl⟩⟩
 obtain⟨M,A,hM,a6,o⟩:=u;have r:=Hd (newReader_calls (.slice p M c) xs _ (A.keep q) D (by omega));have V:=Hd Z;have U:=Hd q;have I:=Hd y;have N:=Hd E;clear z A q Z y E W g hM;generalize Y:(xs.getD 0 0).toNat=x at*;have O:=Hd Y;clear Y;have a7:=Win.slice_hbI p a.length c M (M:Int) rfl (by omega);generalize a.length=yl at*;obtain⟨t,rfl⟩|⟨t,rfl⟩:=o;all_goals go_enter Tryz.func164,Tryz.ntmps164
 all_goals
  go_wp2_with fail;refine r.out.mono ?_;rintro e w1 ⟨j,B,v2,rfl,l,Q,C⟩;have L:=Hd (u8_calls B 0 v2 xs _ w1 l I.out);rw[O.out] at L;have K:=Hd l;have d:=Hd j;have s:=Hd C;clear j l C;go_wp2_with fail;refine L.out.mono ?_;rintro e H ⟨rfl,b,n⟩;have f:=(R0 H).alloc (.cells zeros 47);have F:=heap_alloc_new H (.cells zeros 47);have J:=Hd (show G w (H.alloc (.cells zeros 47)) w.heap.size H.heap.size B 1 v2 xs zeros from by
   have s1:=d.out.size;have s2:=b.size;simp only[World.size_alloc] at s1 Q;have e1:=b.keep (d.out.keep V.out (fun h=>h)) (fun(e:w.heap.size=B)=>by omega);refine⟨((U.out.trans d.out).trans' b (fun i hi(e:i=B)=>by omega)).trans f,f.keep e1 (fun h=>h),F,rdr_keep0 n f,Nat.le_refl _,by omega,by omega,by omega,fun k X=> ?_⟩;have P:=s.out k X;have h2:=rd_lt n.rd (by have:=N.out;omega) k X;simp only[World.size_alloc] at P;omega)
  clear b n f F K d s V U r L;subst T;have q2:=J.out.b2;have q8:=J.out.b8;obtain⟨a0,a1,a2,a3,a4,a5,af⟩:=cf6 q2 rfl rfl rfl rfl rfl rfl;obtain⟨c0,c1,c2,c3,c4,c5,cf⟩:=cf6 q8 rfl rfl rfl rfl rfl rfl;clear q2 q8;go_wp2_with fail;refine bodyPost_ret (v:=.tuple #[.agg #[.int .i64 0,.int .i64 0,.int .i64 0,.int .i64 0,.int .i64 0,.int .i64 0],.int .i64 1,.int .i64 0]) (by simp[results,Tryz.results164,go_sem,a0,a1,a2,a3,a4,a5]) rfl ?_;exact⟨rfl,J.out.fin set6⟩
set_option maxRecDepth 100000 in
set_option maxRecDepth 100000 in
set_option maxRecDepth 100000 in
theorem get_raw(v:Value)(a:List UInt8)(w:World)(J:Rd w v a)(h0:0<a.length)(hl:a.length≤1099511627776)(xs:List UInt8)(j:xs=a.take 6)(s:1≤(xs.getD 0 0).toNat)(b1:(xs.getD 0 0).toNat≤2)(a7:3≤xs.length):
 Calls Tryz.prog 164 #[v] w fun e w'=>e=.returned (.tuple #[.agg (Head.mk (xs.getD 0 0).toNat (beV (xs.drop 1) 2+1) (beV (xs.drop 1) 2+1) 0 0 0).cells,.int .i64 3,.int .i64 0])∧Fr (fun _=>False) w w':=by
 obtain⟨p,d,rfl,X,Y,h3⟩:=J;have J:Rd w (.slice p a.length d) a:=⟨p,d,rfl,X,Y,h3⟩;have N:xs.length=min a.length 6:=by rw[j,List.length_take];omega
 have s:0<xs.length:=by omega
 have F:=el_at s;have b2:=UInt8.toNat_lt (xs.getD 0 0);have r:=(R0 w).alloc (.cells zeros 47);have hz:=heap_alloc_new w (.cells zeros 47);have E:∃M:Nat,Rd w (.slice p M d) xs∧M=xs.length∧M≤6∧((a.length≤6∧M=a.length)∨(6<a.length∧M=6)):=by
  by_cases D:a.length≤6
  ·have e:xs=a:=by rw[j,List.take_of_length_le D]
   exact⟨a.length,e ▸ J,by rw[e],D,.inl ⟨D,rfl⟩⟩
  ·have V:=rd_take (m:=6) J (by omega)
   exact⟨6,j ▸ V,by omega,by omega,.inr ⟨by omega,rfl⟩⟩
 obtain⟨M,K,hM,a9,q⟩:=E;have y:=Hd (newReader_calls (.slice p M d) xs _ (K.keep r) s (by omega));have HZ:=Hd hz;have HF:=Hd r;have P:=Hd F;have C:=Hd N;clear J K r hz F N h3 j hM;generalize hx:(xs.getD 0 0).toNat=x at*;have T:=Hd hx;clear hx;have b0:=Win.slice_hbI p a.length d M (M:Int) rfl (by omega);generalize a.length=yl at*;have a6:=beV2_lt (xs.drop 1);generalize I:beV (xs.drop 1) 2=n1 at*;have U:=Hd I;clear I;obtain⟨D,rfl⟩|⟨D,rfl⟩:=q;all_goals go_enter Tryz.func164,Tryz.ntmps164
 all_goals
  go_wp2_with fail;refine y.out.mono ?_;rintro e w1 ⟨l,B,Z,rfl,n,W,L⟩;have S:=Hd (u8_calls B 0 Z xs _ w1 n P.out);rw[T.out] at S;have R:=Hd n;have f:=Hd l;have A:=Hd L;clear l n L;go_wp2_with fail;refine S.out.mono ?_;rintro e t ⟨rfl,b,o⟩;have g:=(R0 t).alloc (.cells zeros 47);have O:=heap_alloc_new t (.cells zeros 47);have c:=Hd (show G w (t.alloc (.cells zeros 47)) w.heap.size t.heap.size B 1 Z xs zeros from by
   have s1:=f.out.size;have s2:=b.size;simp only[World.size_alloc] at s1 W;have e1:=b.keep (f.out.keep HZ.out (fun h=>h)) (fun(e:w.heap.size=B)=>by omega);refine⟨((HF.out.trans f.out).trans' b (fun i hi(e:i=B)=>by omega)).trans g,g.keep e1 (fun h=>h),O,rdr_keep0 o g,Nat.le_refl _,by omega,by omega,by omega,fun k hk=> ?_⟩;have V:=A.out k hk;have h2:=rd_lt o.rd (by have:=C.out;omega) k hk;simp only[World.size_alloc] at V;omega)
  clear b o g O R f A HZ HF y S;have e0:((x:Int)==0)=false:=by simp;omega
  go_wp2_with fail;generalize w.heap.size=z2 at*;generalize t.heap.size=z8 at*;generalize t.alloc (.cells zeros 47)=u at*;have Q:=Hd (high_calls B 1 Z xs u c.out.rdr (by have:=C.out;omega));rw[U.out] at Q;refine Q.out.mono ?_;rintro e w4 ⟨rfl,H,hR⟩;replace c:=Hd (c.out.call H hR);clear H hR Q u;obtain⟨u,rfl⟩:∃u,u=w4:=⟨_,rfl⟩;have q8:=c.out.b8;obtain⟨c0,c1,c2,c3,c4,c5,cf⟩:=cf6 q8 rfl rfl rfl rfl rfl rfl;clear q8;go_wp2_with fail;replace c:=Hd (c.out.set6 (.int .i64 x) (.int .i64 ((n1:Int)+1)) (.int .i64 ((n1:Int)+1)) (.int .i64 0) (.int .i64 0) (.int .i64 0));generalize((((((u.setCell ⟨z8,0,none⟩ (.int .i64 x)).setCell ⟨z8,1,none⟩ (.int .i64 ((n1:Int)+1))).setCell ⟨z8,2,none⟩ (.int .i64 ((n1:Int)+1))).setCell ⟨z8,3,none⟩ (.int .i64 0)).setCell ⟨z8,4,none⟩ (.int .i64 0)).setCell ⟨z8,5,none⟩ (.int .i64 0))=w5 at*;have a8:=True.intro;clear c0 c1 c2 c3 c4 c5 cf;have q2:=c.out.b2;obtain⟨a0,a1,a2,a3,a4,a5,af⟩:=cf6 q2 rfl rfl rfl rfl rfl rfl;clear q2;have z:=Hd (c.out.cells' (w':=w5.drew) (Fr.refl _ _).drew);have ss:=z.out;obtain⟨c0,c1,c2,c3,c4,c5⟩:=ss;go_region_held3 (fun w'=>w'.cell? ⟨z8,0,none⟩=some (.int .i64 x)∧w'.cell? ⟨z8,1,none⟩=some (.int .i64 ((n1:Int)+1))∧w'.cell? ⟨z8,2,none⟩=some (.int .i64 ((n1:Int)+1))∧w'.cell? ⟨z8,3,none⟩=some (.int .i64 0)∧w'.cell? ⟨z8,4,none⟩=some (.int .i64 0)∧w'.cell? ⟨z8,5,none⟩=some (.int .i64 0))
   (first|with_reducible exact z.out|(refine c.out.cells' ?_;((try refine Fr.drew ?_);(repeat refine Fr.setCell ?_ (.inl (by simp)) _);first|exact Fr.refl _ _|exact(Fr.refl _ _).drew))) ((first
   | (go_at_call 226
      refine(c.out.off' (by((try refine Fr.drew ?_);(repeat refine Fr.setCell ?_ (.inl (by simp)) _);first|exact Fr.refl _ _|exact(Fr.refl _ _).drew))).mono ?_;rintro e wc ⟨rfl,rfl⟩)))
  all_goals
   go_wp2_with fail;refine bodyPost_ret (v:=.tuple #[.agg #[.int .i64 x,.int .i64 ((n1:Int)+1),.int .i64 ((n1:Int)+1),.int .i64 0,.int .i64 0,.int .i64 0],.int .i64 3,.int .i64 0]) (by simp[results,Tryz.results164,go_sem,a0,a1,a2,a3,a4,a5]) rfl ?_;exact⟨rfl,c.out.fin (by((try refine Fr.drew ?_);(repeat refine Fr.setCell ?_ (.inl (by simp)) _);first|exact Fr.refl _ _|exact(Fr.refl _ _).drew))⟩
end Ck
namespace Ck
open Mem Wire
end Ck
namespace Ga
open Mem Win
structure Own(T:TypeId)(z:Nat)(w0 w:World)(v:Value)(n:Nat)(xs:List Value):Prop where
 own:w.ownsRow 0 T z v n xs
 new:∀k,v.ownBlock=some k→w0.heap.size≤k
theorem Own.nil(T:TypeId)(z:Nat)(w0 w:World):Own T z w0 w (.slice none 0 0) 0 []:=⟨World.ownsRow_nil _ _ _ _,fun k a=>by simp[Value.ownBlock] at a⟩
theorem Own.step{S:Nat→Prop}{T:TypeId}{z n:Nat}{w0 w w':World}{v:Value}{xs:List Value}(h:Own T z w0 w v n xs)(a:Fr S w w')(b:∀k,v.ownBlock=some k→¬S k):Own T z w0 w' v n xs:=⟨Lz.own_stepN h.own a b,h.new⟩
theorem Own.keep{T:TypeId}{z n:Nat}{w0 w w':World}{v:Value}{xs:List Value}(h:Own T z w0 w v n xs)(a:Fr (fun _=>False) w w'):Own T z w0 w' v n xs:=h.step a (fun _ _ h=>h)
theorem Own.lt{T:TypeId}{z n:Nat}{w0 w:World}{v:Value}{xs:List Value}(h:Own T z w0 w v n xs):∀k,v.ownBlock=some k→k<w.heap.size:=fun k a=>(World.ownsRow.lt h.own k a).2
theorem Own.block{T:TypeId}{z n:Nat}{w0 w:World}{v:Value}{xs:List Value}(h:Own T z w0 w v n xs){k:Nat}(a:v.ownBlock=some k):∃cur,w.heap[k]? =some (.cells cur T (0,0)):=Lz.own_block h.own a
theorem Own.off{T t:TypeId}{z n i:Nat}{w0 w:World}{v:Value}{xs:List Value}{b:Array Value}{fr:Nat×Nat}(h:Own T z w0 w v n xs)(d:w.heap[i]? =some (.cells b t fr))(f:t≠T):v.ownBlock≠some i:=by
 intro e;obtain⟨c,a⟩:=h.block e;rw[d] at a;simp only[Option.some.injEq,Obj.cells.injEq] at a;exact f a.2.1
theorem Own.slice{T:TypeId}{z n:Nat}{w0 w:World}{v:Value}{xs:List Value}(h:Own T z w0 w v n xs):∃p a,v=.slice p n a:=by
 rcases h.own.2 with⟨e,d⟩|⟨g,a,c,b,_⟩
 ·exact⟨none,0,by rw[e,d]⟩
 ·exact⟨_,a,b⟩
theorem Own.of_mine{w0 w:World}{v:Value}{xs:List UInt8}(h:Mine w0 w v xs):Own 5 1 w0 w v xs.length (bvs xs):=⟨h.own,h.new⟩
theorem Own.cell{T:TypeId}{z n c i:Nat}{w0 w:World}{p:Option Addr}{xs:List Value}{u:Value}(h:Own T z w0 w (.slice p n c) n xs)(b:xs[i]? =some u):∃g,p=some ⟨g,0,none⟩∧w.cell? ⟨g,i,none⟩=some u:=by
 obtain⟨d,l⟩:=h.own;rcases l with⟨t,k⟩|⟨g,f,j,a,_,o,q,s,m,r⟩
 ·subst k
  rw[Nat.zero_mul] at d;rw[List.eq_nil_of_length_eq_zero d] at b;simp at b
 ·simp only[Value.slice.injEq] at a
  refine⟨g,a.1,cell_in o ?_⟩;have e:i<n*z:=by
   rw[←d];exact(List.getElem?_eq_some_iff.1 b).1
  rw[←r,List.getElem?_take,if_pos e,Array.getElem?_toList] at b;exact b
theorem infoInt:(Tryz.prog.info? 3).map (fun i=>(i.zero,i.size,i.bytes))=some (some (.int .i64 0),1,8):=by kernel_rfl
theorem append_own{e:Array Oper}{rest:List Oper}{o:Oper}{a:Act}{Q:Exit→Act→World→Prop}(m:o.guard=none)(s y:Operand){T t:TypeId}{z bytes n:Nat}{zero:Value}
 (A:o.op=.call {callee:=.builtin .append,args:=#[s,y],argTypes:=#[t,t]})(hu:Tryz.prog.underlying t=some (.slice T))(hinfo:(Tryz.prog.info? T).map (fun i=>(i.zero,i.size,i.bytes))=some (some zero,z,bytes))(hzs:zero.cells.size=z)(hz0:0<z)(hby:bytes≤64)
 {w0 w:World}(v:Value)(xs:List Value)(cs:Array Value)(B:Nat)(hv:a.eval s=v)(hx:a.eval y=.slice (some ⟨B,0,none⟩) 1 1)(hm:Own T z w0 w v n xs)(hle:w0.heap.size≤w.heap.size)
 (hB:w.heap[B]? =some (.cells cs T (0,0)))(hcz:cs.size=z)(h1:∀u ∈ cs.toList,u.oneCell'=true)(hb:n≤1099511627776)
 (h:∀f g,Own T z w0 g f (n+1) (xs++cs.toList)→Fr (fun k=>v.ownBlock=some k) w g→(∀k,f.ownBlock=some k→v.ownBlock=some k∨w.heap.size≤k)→wpList Tryz.prog e Q rest (a.put o.dst f) g):
 wpList Tryz.prog e Q (o::rest) a w:=by
 obtain⟨C,r,d,p,q⟩:=info_parts hinfo;refine wpList_append_any w m s y t t A T C _ z bytes hu r d p q hzs hz0 v n xs hv hm.own _ 1 cs.toList hx (Src.ofSlice w hu ⟨B,0,none⟩ 1 1 cs.toList (by simp[hcz]) (fun j u hu'=> ?_) h1) (by simp only[maxLen];omega) ?_ ?_
 ·rw[add_mid,Nat.zero_add]
  exact cell_in hB (by simpa using hu')
 ·have:(n+1)*bytes≤(n+1)*64:=Nat.mul_le_mul_left _ hby
  omega
 intro f g c l b _;refine h f g ⟨c,fun k x=> ?_⟩ l b;rcases b k x with h|h
 ·exact hm.new k h
 ·omega
end Ga
namespace La
open Mem Win Ga Wire Lz
def RoomP(w:World)(b:List UInt8)(e:Ending)(w':World):Prop:=Fr (fun _=>False) w w'∧∃p cap,e=.returned (.slice p b.length cap)∧b.length<cap∧Mine w w' (.slice p (b.length+1) cap) (b++[77])
theorem room_calls(b:List UInt8)(R:Value)(w:World)(F:Rd w R b)(U:b.length≤16777216):Calls Tryz.prog 8 #[R] w (RoomP w b):=by
  obtain⟨O,a,rfl,i,d,T⟩:=F;have F:Rd w (.slice O b.length a) b:=⟨O,a,rfl,i,d,T⟩;clear i d T;obtain⟨n,N⟩:∃n,n=b.length:=⟨_,rfl⟩;have j:=(R0 w).alloc (.cells #[] 5);have A:Mine w (w.alloc (.cells #[] 5)) (.slice (some ⟨w.heap.size,0,none⟩) 0 0) []:=by
    have i:=World.ownsRow_made (base:=0) (e:=5) (size:=1) w #[] 0 (Nat.zero_le _) (by decide) rfl;refine⟨i,fun k hk=> ?_⟩;simp only[Value.ownBlock,Option.some.injEq] at hk;omega
  have G:=Hd j;have J:=Hd A;have Q:=Hd (F.keep j);have P:=Hd U;have p:=Hd N;rw[←N] at Q ⊢;clear j A F U N;go_enter Tryz.func8,Tryz.ntmps8
  go_upto_region 2 with (at_builtin
                         refine append_mine rfl _ _ rfl (w0:=w) (.slice (some ⟨w.heap.size,0,none⟩) 0 0) (.slice O n a) [] b rfl rfl J.out G.out.size Q.out (by have:=P.out;simp only[List.length_nil,List.nil_append];omega) ?_;intro p2 u n2 D B v f m;have X:n=n2:=by rw[B,List.length_nil,Nat.zero_add];exact p.out
                         clear B;subst X;have s:=Hd v;have q:=Hd f;clear v f m)
  have l:=(R0 D).alloc (.cells #[.int .u8 77] 5);have H:=Hd (s.out.keep l);have r:=Hd l;have t:=Hd (rd_one D D.heap.size rfl 77 (77:Int) rfl);clear l
  go_upto_region 3 with (at_builtin
                         refine append_mine rfl _ _ rfl (w0:=w) (.slice p2 n u) (.slice (some ⟨D.heap.size,0,none⟩) 1 1) ([]++b) [77] rfl rfl H.out (Nat.le_trans G.out.size (Nat.le_trans q.out.size r.out.size)) t.out (by have:=P.out;simp only[List.nil_append,List.length_singleton];omega) ?_;intro V c n3 w3 C x h o;have Y:n3=n+1:=by rw[C,List.nil_append,List.length_singleton,p.out]
                         clear C;subst Y;have K:=Hd x;have I:=Hd h;clear x h o)
  have E:=K.out;rw[List.nil_append] at E;have y:n<c:=by
    rcases E.own.2 with⟨a0,Z⟩|⟨g,S,W,z,h4,hg,M,_⟩
    · simp at Z
    · simp only[Value.slice.injEq] at z
      have i:=z.2.2;rw[List.length_append,List.length_singleton,←p.out] at M;omega
  have a1:=slice_hbI V (n+1) c n (n:Int) rfl (by omega);have L:=Hd E;clear E;go_wp2_with fail;go_ret;have d:Fr (fun _=>False) w D:=G.out.trans' q.out (fun k i d=>by
    simp only[Value.ownBlock,Option.some.injEq] at d;omega)
  exact⟨(d.trans r.out).trans' I.out (fun k i d=>by have:=s.out.new k d;omega),V,c,by rw[p.out];rfl,by rw[←p.out];exact y,by rw[←p.out];exact L.out⟩
theorem room_rd{w0 w:World}{p:Option Addr}{a:Nat}{b:List UInt8}(h:Mine w0 w (.slice p (b.length+1) a) (b++[77])):Rd w (.slice p b.length a) b:=by
 have c:=rd_take (m:=b.length) h.rd (by rw[List.length_append];omega);rw[List.take_left' rfl] at c;exact c
end La
namespace Mem
theorem splice_keep(b:List Value)(a:Array Value)(o:Nat)(h:o+b.length≤a.size):(splice a o b).toList.take o=a.toList.take o:=by
 have c:=congrArg (List.take o) (splice_take b a o h);rw[List.take_take,show min o (o+b.length)=o by omega] at c;rw[c];exact List.take_left' (by rw[List.length_take,Array.length_toList];omega)
section
variable {P:Program}(w:World)
theorem run_append_any2(t J N e:TypeId)(i:TypeInfo)(z:Value)(size bytes:Nat)(M:P.underlying t=some (.slice e))(K:P.info? e=some i)(U:i.zero=some z)
 (D:i.size=size)(Q:i.bytes=bytes)(S:z.cells.size=size)(Y:0<size)
 (v:Value)(n:Nat)(xs:List Value)(b:w.ownsRow 0 e size v n xs)(x:Value)(m:Nat)(a:List Value)(s:Src P size J x m a w)
 (E:n+m≤maxLen)(p:(n+m)*bytes≤140737488355328):
 ∃v' w',(Builtin.append_ #[t,J] N #[v,x]).run P w=.ok v' w'∧w'.ownsRow 0 e size v' (n+m) (xs++a)∧Fr (fun k=>v.ownBlock=some k) w w'∧
  (∀k,v'.ownBlock=some k→v.ownBlock=some k∨w.heap.size≤k)∧w'.ownsRow 0 e size v n xs:=by
 subst D;subst Q
 have L:n+m≤9223372036854775807:=by simp only[maxLen] at E;omega
 have q:(xs++a).length=(n+m)*i.size:=by rw[List.length_append,b.1,s.newsLen,Nat.add_mul]
 have grown:∀(o:Nat),o<n+m→
  (w.drew.alloc (.cells ((xs++a).toArray++Builtin.zeroCells z.cells (grownCap w (n+m) o e-(n+m))) e)).ownsRow 0 e i.size
    (.slice (some ⟨w.heap.size,0,none⟩) (n+m) (grownCap w (n+m) o e)) (n+m) (xs++a):=by
  intro o ho;have R:=grownCap_ge w (n+m) o e;have r:grownCap w (n+m) o e≤maxLen:=grownCap_le_maxLen w (n+m) o e E;refine⟨q,.inr ⟨w.heap.size,_,_,rfl,Nat.zero_le _,heap_alloc_new w.drew _,R,r,?_,?_⟩⟩
  ·simp only[Array.size_append,List.size_toArray,size_zeroCells,S,q,←Nat.add_mul]
   congr 1;omega
  ·simp only[Array.toList_append]
   rw[←q];exact List.take_left
 rcases b.2 with⟨rfl,rfl⟩|⟨g,c,d,rfl,O,F,H,r,y,l⟩
 ·have Z:xs=[]:=List.eq_nil_of_length_eq_zero (by simpa using b.1)
  subst Z;by_cases W:m=0
  ·subst W
   have X:a=[]:=List.eq_nil_of_length_eq_zero (by simpa using s.newsLen);subst X;refine⟨.slice none 0 0,w,?_,World.ownsRow_nil w 0 e i.size,Fr.refl _ _,by simp[Value.ownBlock],World.ownsRow_nil w 0 e i.size⟩;have V:=s.cells;rcases s.kind with⟨e',T⟩|T<;>simp[Builtin.append_,run_underlying M,run_underlying T,sizeOf,typeInfo,K,s.len,V]
  ·have C:=run_append_grow_src (P:=P) w t J N e i z M K U none 0 0 [] (run_firstCells_none w.drew i.size 0 0 0) x m a s (by omega) (by omega) (growslice_fits (by omega) (by simpa using p))
   have G:=grown 0 (by omega);simp only[Nat.zero_add,List.nil_append] at G C ⊢;exact⟨_,_,C,G,(Fr.refl _ _).drew.alloc _,by simp[Value.ownBlock],World.ownsRow_nil _ 0 e i.size⟩
 ·by_cases f:n+m≤c
  ·have A:n*i.size+a.length≤d.size:=by rw[s.newsLen,y,←Nat.add_mul];exact Nat.mul_le_mul_right _ f
   have C:=run_append_room_src (P:=P) w t J N e i M K g 0 n c x m a s f (fun j hj=>by rw[cell_of_row w g _ d e _ F];simp;omega) (fun j hj=>frozen_in F _);rw[Nat.zero_add] at C;refine⟨_,_,C,⟨q,.inr ⟨g,c,_,rfl,Nat.zero_le _,setCells_heap g e a _ w d F,f,r,by rw[splice_size];exact y,?_⟩⟩,(setCells_fr g a _ w).mono (fun k _ h=>by rw[Value.ownBlock];exact congrArg some h),by simp[Value.ownBlock],⟨b.1,.inr ⟨g,c,_,rfl,Nat.zero_le _,setCells_heap g e a _ w d F,H,r,by rw[splice_size];exact y,by rw[splice_keep a d _ A];exact l⟩⟩⟩;rw[show(n+m)*i.size=n*i.size+a.length by rw[s.newsLen,Nat.add_mul],splice_take a d _ A,l]
  ·have B:∀j u,xs[j]? =some u→w.cell? ((⟨g,0,none⟩:Addr).add j)=some u:=b.cells (g:=g) rfl
   have I:(Builtin.firstCells i.size n (.slice (some ⟨g,0,none⟩) n c)).run P w.drew=.ok xs.toArray w.drew:=run_firstCells_some (P:=P) w.drew i.size n ⟨g,0,none⟩ n c xs b.1 (by simpa using B);have C:=run_append_grow_src (P:=P) w t J N e i z M K U (some ⟨g,0,none⟩) n c xs I x m a s (by omega) (by omega) (growslice_fits (by omega) p);exact⟨_,_,C,grown c (by omega),(Fr.refl _ _).drew.alloc _,by simp[Value.ownBlock],⟨b.1,.inr ⟨g,c,d,rfl,O,((R0 w).drew.alloc _).keep F (fun h=>h),H,r,y,l⟩⟩⟩
end
end Mem
namespace Ga
open Mem Win
theorem append_own2{d:Array Oper}{rest:List Oper}{o:Oper}{a:Act}{Q:Exit→Act→World→Prop}(f:o.guard=none)(s y:Operand){T t:TypeId}{z bytes n:Nat}{zero:Value}
 (D:o.op=.call {callee:=.builtin .append,args:=#[s,y],argTypes:=#[t,t]})(hu:Tryz.prog.underlying t=some (.slice T))(hinfo:(Tryz.prog.info? T).map (fun i=>(i.zero,i.size,i.bytes))=some (some zero,z,bytes))(hzs:zero.cells.size=z)(hz0:0<z)(hbytes:(n+1)*bytes≤140737488355328)
 {w0 w:World}(v:Value)(xs:List Value)(cs:Array Value)(B:Nat)(hv:a.eval s=v)(hx:a.eval y=.slice (some ⟨B,0,none⟩) 1 1)(hm:Own T z w0 w v n xs)(hle:w0.heap.size≤w.heap.size)
 (hB:w.heap[B]? =some (.cells cs T (0,0)))(hcz:cs.size=z)(h1:∀u ∈ cs.toList,u.oneCell'=true)(hb:n≤70368744177664)
 (h:∀e b,Own T z w0 b e (n+1) (xs++cs.toList)→Fr (fun k=>v.ownBlock=some k) w b→(∀k,e.ownBlock=some k→v.ownBlock=some k∨w.heap.size≤k)→Own T z w0 b v n xs→wpList Tryz.prog d Q rest (a.put o.dst e) b):
 wpList Tryz.prog d Q (o::rest) a w:=by
 obtain⟨G,A,c,g,l⟩:=info_parts hinfo;have F:Src Tryz.prog z t (.slice (some ⟨B,0,none⟩) 1 1) 1 cs.toList w:=Src.ofSlice w hu ⟨B,0,none⟩ 1 1 cs.toList (by simp[hcz]) (fun j u hu'=>by
  rw[add_mid,Nat.zero_add];exact cell_in hB (by simpa using hu')) h1
 refine wpList_plain f fun K x=> ?_;obtain⟨e,b,E,p,q,m,r⟩:=run_append_any2 (P:=Tryz.prog) w t t o.type T G _ z bytes hu A c g l hzs hz0 v n xs hm.own _ 1 cs.toList F (by simp only[maxLen];omega) hbytes;unfold Oper.wp execOp;simp only[D,resolve,invoke,builtin,Sem.run_bind,Sem.run_pure,Result.andThen_ok,List.map_toArray,List.map_cons,List.map_nil,hv,hx,E];refine x _ _ (h e b ⟨p,fun k C=> ?_⟩ q m ⟨r,hm.new⟩);rcases m k C with h|h
 ·exact hm.new k h
 ·omega
theorem Own.set{T:TypeId}{z n a g i:Nat}{w0 w:World}{xs:List Value}(h:Own T z w0 w (.slice (some ⟨g,0,none⟩) n a) n xs)(t:0<n)(u:Value):Own T z w0 (w.setCell ⟨g,i,none⟩ u) (.slice (some ⟨g,0,none⟩) n a) n (xs.set i u):=by
 refine⟨?_,h.new⟩;obtain⟨j,k⟩:=h.own;refine⟨by rw[List.length_set];exact j,?_⟩;rcases k with⟨p,s⟩|⟨r,e,f,b,l,m,d,o,c,q⟩
 ·omega
 ·simp only[Value.slice.injEq,Option.some.injEq,Addr.mk.injEq,and_true] at b
  obtain⟨⟨rfl,_⟩,_,rfl⟩:=b;refine .inr ⟨g,a,_,rfl,l,set_in m i u,d,o,by simp[c],?_⟩;rw[Array.toList_setIfInBounds,List.take_set,q]
end Ga
namespace Qm
open Mem Win Ga
structure One(w0 w:World)(v:Value)(n k:Nat):Prop where
 ex:∃xs,Own 5 1 w0 w v n xs∧∀i,i<k→i<n→xs[i]? =some (.int .u8 1)
variable {n k:Nat}{w0 w w':World}{v:Value}
theorem One.of{xs:List Value}(h:Own 5 1 w0 w v n xs):One w0 w v n 0:=⟨xs,h,fun i h _=>by omega⟩
theorem One.step{S:Nat→Prop}(h:One w0 w v n k)(d:Fr S w w')(c:∀k,v.ownBlock=some k→¬S k):One w0 w' v n k:=by
 obtain⟨e,a,b⟩:=h.ex;exact⟨e,a.step d c,b⟩
theorem One.keep(h:One w0 w v n k)(a:Fr (fun _=>False) w w'):One w0 w' v n k:=h.step a (fun _ _ h=>h)
theorem One.read{p:Option Addr}{a i:Nat}(h:One w0 w (.slice p n a) n k)(d:i<k)(e:i<n):∃g,p=some ⟨g,0,none⟩∧w.cell? ⟨g,i,none⟩=some (.int .u8 1):=by
 obtain⟨f,b,c⟩:=h.ex;exact b.cell (c i d e)
theorem One.at{p:Option Addr}{c i:Nat}(h:One w0 w (.slice p n c) n k)(s:i<n):∃g a,p=some ⟨g,0,none⟩∧w.heap[g]? =some (.cells a 5 (0,0))∧n≤a.size:=by
 obtain⟨x,f,q⟩:=h.ex;obtain⟨r,j⟩:=f.own;rcases j with⟨u,o⟩|⟨g,e,a,b,_,l,m,t,d,v⟩
 ·omega
 ·simp only[Value.slice.injEq] at b
  refine⟨g,a,b.1,l,?_⟩;rw[d];omega
theorem One.put{g a:Nat}(h:One w0 w (.slice (some ⟨g,0,none⟩) n a) n k)(m:k<n):One w0 (w.setCell ⟨g,k,none⟩ (.int .u8 1)) (.slice (some ⟨g,0,none⟩) n a) n (k+1):=by
 obtain⟨j,c,d⟩:=h.ex;refine⟨j.set k (.int .u8 1),c.set (by omega) _,fun i l f=> ?_⟩;by_cases b:i=k
 ·subst b
  rw[List.getElem?_set_self];have:=c.own.1;omega
 ·rw[List.getElem?_set_ne (fun e=>b e.symm)]
  exact d i (by omega) f
theorem fr_one(w:World)(g i:Nat)(u:Value){p:Nat}{c:Nat}:Fr (fun k=>(Value.slice (some ⟨g,0,none⟩) p c).ownBlock=some k) w (w.setCell ⟨g,i,none⟩ u):=
 (Fr.one w g i u).mono (fun k _ e=>by rw[e];rfl)
theorem One.longer{m:Nat}{xs c:List Value}(h:Own 5 1 w0 w v m (xs++c))(e:xs.length=n)(b:∀i,i<k→i<n→xs[i]? =some (.int .u8 1))(d:k≤n):One w0 w v m k:=
 ⟨_,h,fun i a _=>by
  rw[List.getElem?_append_left (by omega)];exact b i a (by omega)⟩
theorem two_one(m:Int):∀u ∈ (#[.int .u8 m]:Array Value).toList,u.oneCell'=true:=by
 intro u a;simp only[List.mem_cons,List.not_mem_nil,or_false] at a;rw[a];rfl
end Qm
end Go.Proofs.YtffoddpjfgjelaaGreatDoor
