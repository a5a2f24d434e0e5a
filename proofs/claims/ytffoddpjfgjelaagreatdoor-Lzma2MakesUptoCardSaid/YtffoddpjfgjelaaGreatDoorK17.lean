/- Part 17 of 54: lemmas of the last part, each under the conditions that it names. -/
import Derived.Deep.RegionHeld3
import Derived.Test.YtffoddpjfgjelaaGreatDoorK11
import Derived.Test.YtffoddpjfgjelaaGreatDoorK12
set_option linter.unusedVariables false
set_option linter.unusedSimpArgs false
set_option maxRecDepth 1500
set_option maxHeartbeats 16000000
namespace Go.Proofs.YtffoddpjfgjelaaGreatDoor
open Go.RowKit
namespace Rf
open Mem Rc St Lz
end Rf
namespace Rf
open Mem Rc St Lz
theorem range_zero:∀s:Fin 64,((range s).2=0↔s.val<4)∧(4≤s.val→s.val<14→restAt s.val+2^(range s.val).2≤128):=by decide+kernel
theorem lastB_lt(c:C)(d:Nat):c.lastB d<256:=by
 unfold C.lastB Win.last;split
 ·exact UInt8.toNat_lt _
 ·simp
def C.lit(c:C):Nat:=c.all.length%2^c.lp*2^c.lc+c.lastB 1/2^(8-c.lc)
theorem lit_lt{c:C}(d:c.Ok):C.lit c<2^(c.lc+c.lp):=by
 have f:=d.l;unfold C.lit;have a:c.all.length%2^c.lp<2^c.lp:=Nat.mod_lt _ (Nat.two_pow_pos _);have e:c.lastB 1/2^(8-c.lc)<2^c.lc:=by
  rw[Nat.div_lt_iff_lt_mul (Nat.two_pow_pos _),←Nat.pow_add,show c.lc+(8-c.lc)=8 by omega];exact lastB_lt c 1
 rw[Nat.pow_add,Nat.mul_comm (2^c.lc)];have b:(c.all.length%2^c.lp+1)*2^c.lc≤2^c.lp*2^c.lc:=Nat.mul_le_mul_right _ a;rw[Nat.add_mul,Nat.one_mul] at b;omega
theorem context_eq(c:C):c.context=768*C.lit c:=rfl
theorem lit_16{c:C}(a:c.Ok):C.lit c<16:=Nat.lt_of_lt_of_le (lit_lt a) (Nat.pow_le_pow_right (n:=2) (by omega) a.l)
end Rf
namespace Prob
open Mem
theorem bound_calls(p:Int)(w:World):
 Calls Tryz.prog 215 #[.int .i64 p] w fun e a=>e=.returned (.int .i64 (taken p))∧w=a:=by
 go_enter Tryz.func215,Tryz.ntmps215;go_wp2;all_goals go_ret
 all_goals refine⟨ret_int ?_,rfl⟩
 all_goals(unfold taken;repeat' split)
 all_goals omega
theorem rnext_calls(p b:Int)(w:World):
 Calls Tryz.prog 216 #[.int .i64 p,.int .i64 b] w fun e a=>e=.returned (.int .i64 (next p b))∧w=a:=by
 have c:=taken_lo p;have d:=taken_hi p;go_enter Tryz.func216,Tryz.ntmps216;go_wp2_with ((with_reducible refine(bound_calls _ _).mono ?_);rintro e a ⟨rfl,rfl⟩);all_goals go_ret
 all_goals refine⟨ret_int ?_,rfl⟩
 all_goals simp only[beq_iff_eq,beq_eq_false_iff_ne] at*
 all_goals(unfold next;first|rw[if_pos (by assumption)]|rw[if_neg (by assumption)])
theorem rboundR_calls(r p:Int)(w:World)(b:0≤r)(c:r≤4294967295):
 Calls Tryz.prog 152 #[.int .u32 r,.int .i64 p] w fun e a=>e=.returned (.int .u32 (bnd r p))∧w=a:=by
 have d:=taken_lo p;have f:=taken_hi p;go_enter Tryz.func152,Tryz.ntmps152;go_wp2_with ((with_reducible refine(bound_calls _ _).mono ?_);rintro e a ⟨rfl,rfl⟩);all_goals go_ret
 all_goals refine⟨ret_int ?_,rfl⟩
 all_goals exact bnd_in r p b c
theorem rat_in(b g n a i:Nat)(N:Value)(p:Int)(w:World)(f:w.cell? ⟨b,1,none⟩=some (.slice (some ⟨g,0,none⟩) n a))
 (j:w.cell? ⟨g,i,none⟩=some (.int .i64 p))(k:i<n)(c:n≤maxLen):
 Calls Tryz.prog 150 #[.pointer (some ⟨b,0,none⟩),.int .i64 i] w fun e d=>e=.returned (.tuple #[.int .i64 p,.int .i64 0])∧w=d:=by
 unfold maxLen at c;have h:decide ((i:Int)<0)=false:=by simp
 go_enter Tryz.func150,Tryz.ntmps150;go_wp2;go_ret2;exact⟨rfl,rfl⟩
theorem rturn_in(b g n f i:Nat)(N:Value)(h:Array Value)(p a:Int)(w:World)(j:w.heap[b]? =some (.cells #[N,.slice (some ⟨g,0,none⟩) n f] 250 (0,0)))
 (c:w.heap[g]? =some (.cells h 3 (0,0)))(y:i<n)(s:n≤maxLen)(l:h[i]? =some (.int .i64 p))(o:b≠g):
 Calls Tryz.prog 153 #[.pointer (some ⟨b,0,none⟩),.int .i64 i,.int .i64 a] w fun e d=>e=.returned (.int .i64 0)∧
  Fr (fun k=>k=g) w d∧d.heap[g]? =some (.cells (h.setIfInBounds i (.int .i64 (next p a))) 3 (0,0))∧d.heap.size=w.heap.size:=by
 have q:=cell_in (i:=1) j rfl;have r:=cell_in c l;have x:=frozen_in c i;have t:=Hd j;have m:=Hd c;have u:=Hd l;clear j c l;unfold maxLen at s;have v:decide ((i:Int)<0)=false:=by simp
 go_enter Tryz.func153,Tryz.ntmps153;go_wp2_with fail;go_region_with ((with_reducible refine(rnext_calls _ _ _).mono ?_);rintro e d ⟨rfl,rfl⟩);all_goals go_wp2
 all_goals go_ret
 all_goals exact⟨rfl,(Fr.one _ _ _ _).drew,set_in m.out _ _,by simp⟩
theorem rreset_calls(b g n m:Nat)(N:Value)(p:Option Addr)(c:Array Value)(w:World)(o:w.heap[b]? =some (.cells #[N,.slice p n m] 250 (0,0)))
 (x:0<n→p=some ⟨g,0,none⟩∧w.heap[g]? =some (.cells c 3 (0,0))∧n≤c.size)(D:n≤maxLen)(q:b≠g):
 Calls Tryz.prog 217 #[.pointer (some ⟨b,0,none⟩)] w fun e s=>e=.returned (.tuple #[])∧
  Fr (fun k=>k=g∧0<n) w s∧(0<n→s.heap[g]? =some (.cells ((List.replicate n (.int .i64 1024)).toArray++c.extract n c.size) 3 (0,0)))∧s.heap.size=w.heap.size:=by
 have A:=cell_in (i:=1) o rfl;have z:=Hd o;have t:=Hd x;clear o x;unfold maxLen at D;go_enter Tryz.func217,Tryz.ntmps217;go_wp2;go_loopw [2](fun i wr=>∃k:Nat,k≤n∧i=.int .i64 k∧Fr (fun k=>k=g∧0<n) w wr∧wr.heap.size=w.heap.size∧
  (0<n→wr.heap[g]? =some (.cells ((List.replicate k (.int .i64 1024)).toArray++c.extract k c.size) 3 (0,0)))) (fun i _=>n-(intOf i).toNat)
 case atStart=>exact⟨0,by omega,rfl,Fr.refl _ _,rfl,fun h=>by rw[(t.out h).2.1];simp⟩
 case round=>
  obtain⟨k,F,rfl,f,l,a⟩:=hrel;have u:=cell_in (i:=1) (f.keep z.out (fun h=>q h.1)) rfl;have d:=Hd a;clear a;by_cases C:k<n
  ·obtain⟨rfl,r,E⟩:=t.out (by omega)
   have a:=d.out (by omega);have B:=frozen_in a k;have j:wr.cell? ⟨g,k,none⟩=c[k]? :=by
    rw[cell_of_row _ _ _ _ _ _ a];exact rep_at c k (by omega) _
   obtain⟨v,y⟩:∃v,c[k]? =some v:=⟨c[k]'(by omega),by simp⟩;rw[y] at j;clear y r a;go_wp2;go_roundw;case rel=>exact⟨k+1,by omega,by go_num,f.trans ((Fr.one _ _ _ _).mono (fun i hi(h:i=_)=>⟨h,by omega⟩)),by simpa using l,fun h=>by rw[set_in (d.out h),rep_set c k (by omega)]⟩
   case measure=>simp[intOf];omega
  ·obtain rfl:k=n:=by omega
   go_wp2;go_end0;exact⟨rfl,f,d.out,l⟩
theorem rnew_in(n:Nat)(w:World)(s:n≤1048576):
 Calls Tryz.prog 154 #[.int .i64 n] w fun e f=>e=.returned (.tuple #[.pointer (some ⟨w.heap.size+1,0,none⟩),.int .i64 0])∧
  Fr (fun _=>False) w f∧f.heap[w.heap.size+1]? =some (.cells #[.int .i64 n,.slice (some ⟨w.heap.size,0,none⟩) n n] 250 (0,0))∧
  f.heap[w.heap.size]? =some (.cells (List.replicate n (.int .i64 1024)).toArray 3 (0,0))∧f.heap.size=w.heap.size+2:=by
 have q:=make_ints n (by omega);go_enter Tryz.func154,Tryz.ntmps154;go_wp2_with fail;refine(rreset_calls (w.heap.size+1) w.heap.size n n (.int .i64 n) _ (Array.replicate n (.int .i64 0)) _ (heap_alloc2_new w _ _) (fun _=>⟨rfl,heap_alloc2_old w _ _,by simp⟩) (by simp only[maxLen];omega) (by omega)).mono ?_;rintro e k ⟨rfl,a,j,b⟩;have c:Fr (fun _=>False) w k:=(((R0 w).alloc _).alloc _).trans' a (fun i r h=>by omega);have g:=a.keep (heap_alloc2_new w _ _) (by simp);have d:k.heap[w.heap.size]? =some (.cells (List.replicate n (.int .i64 1024)).toArray 3 (0,0)):=by
  by_cases p:0<n
  ·rw[j p];simp
  ·obtain rfl:n=0:=by omega
   have:=a.keep (heap_alloc2_old w _ _) (by simp);rw[this];simp
 simp only[World.size_alloc] at b;have m:=Hd d;have l:=Hd g;have o:=Hd b;clear j g a b d;go_wp2;go_ret2;exact⟨rfl,c,l.out,m.out,o.out⟩
structure RSet(w:World)(b g:Nat)(L:List Nat):Prop where
 ex:∃(cap:Nat)(cs:Array Value),w.heap[b]? =some (.cells #[.int .i64 L.length,.slice (some ⟨g,0,none⟩) L.length cap] 250 (0,0))∧w.heap[g]? =some (.cells cs 3 (0,0))∧cs.size=cap*1∧L.length≤cap∧cap≤maxLen∧cs.toList.take (L.length*1)=L.map fun p:Nat=>Value.int .i64 (p:Int)
 ok:∀p ∈ L,p≤2047
 small:L.length≤1048576
theorem RSet.box{w:World}{b g:Nat}{L:List Nat}(h:RSet w b g L):∃cs,w.heap[b]? =some (.cells cs 250 (0,0)):=by
 obtain⟨_,_,a,_⟩:=h.ex;exact⟨_,a⟩
theorem RSet.row{w:World}{b g:Nat}{L:List Nat}(h:RSet w b g L):∃cs,w.heap[g]? =some (.cells cs 3 (0,0)):=by
 obtain⟨_,_,_,a,_⟩:=h.ex;exact⟨_,a⟩
theorem RSet.apart{w:World}{b g:Nat}{L:List Nat}(h:RSet w b g L):b≠g:=by
 rintro rfl;obtain⟨_,a⟩:=h.box;obtain⟨_,c⟩:=h.row;rw[c] at a;simp only[Option.some.injEq,Obj.cells.injEq] at a;exact absurd a.2.1 (by decide)
theorem RSet.step{S:Nat→Prop}{w w':World}{b g:Nat}{L:List Nat}(h:RSet w b g L)(a:Fr S w w')(j:¬S b)(k:¬S g):RSet w' b g L:=by
 obtain⟨c,d,e,f,i⟩:=h.ex;exact⟨⟨c,d,a.keep e j,a.keep f k,i⟩,h.ok,h.small⟩
theorem RSet.lt{w:World}{b g:Nat}{L:List Nat}(h:RSet w b g L):b<w.heap.size∧g<w.heap.size:=by
 obtain⟨_,a⟩:=h.box;obtain⟨_,c⟩:=h.row;exact⟨lt_of_block a,lt_of_block c⟩
theorem rep_take(n:Nat)(v:Value):(List.replicate n v).toArray.toList.take (n*1)=List.replicate n v:=by simp
theorem rep_size(n:Nat)(v:Value):(List.replicate n v).toArray.size=n*1:=by simp
theorem rset_new(w:World):Calls Tryz.prog 154 #[.int .i64 768] w fun e b=>e=.returned (.tuple #[.pointer (some ⟨w.heap.size+1,0,none⟩),.int .i64 0])∧Fr (fun _=>False) w b∧RSet b (w.heap.size+1) w.heap.size (List.replicate 768 1024):=by
 refine(rnew_in 768 w (by omega)).mono ?_;rintro e b ⟨rfl,a,c,d,_⟩;refine⟨rfl,a,⟨⟨768,_,by rw[List.length_replicate];exact c,d,rep_size 768 _,by rw[List.length_replicate];omega,by decide,by rw[List.length_replicate,List.map_replicate];exact rep_take 768 _⟩,fun p f=> ?_,by rw[List.length_replicate];omega⟩⟩;rw[List.mem_replicate] at f;omega
theorem rset_cell{L:List Nat}{a:Array Value}{i p:Nat}(h:a.toList.take (L.length*1)=L.map fun p:Nat=>Value.int .i64 (p:Int))(c:L[i]? =some p):a[i]? =some (.int .i64 (p:Int)):=by
 have d:=(List.getElem?_eq_some_iff.1 c).1;have b:(a.toList.take (L.length*1))[i]? =some (.int .i64 (p:Int)):=by rw[h,List.getElem?_map,c];rfl
 rw[List.getElem?_take,if_pos (by omega)] at b;rw[←Array.getElem?_toList];exact b
theorem RSet.own{w:World}{b g:Nat}{L:List Nat}(h:RSet w b g L):∃v,w.cell? ⟨b,0,none⟩=some (.int .i64 L.length)∧w.cell? ⟨b,1,none⟩=some v∧w.ownsRow 0 3 1 v L.length (L.map fun p:Nat=>Value.int .i64 (p:Int)):=by
 obtain⟨a,d,c,e,f,i,j,k⟩:=h.ex;exact⟨_,cell_in c rfl,cell_in c rfl,by rw[List.length_map,Nat.mul_one],.inr ⟨g,a,d,rfl,Nat.zero_le _,e,i,j,f,k⟩⟩
theorem RSet.of_own{w:World}{b g a:Nat}{L:List Nat}(s:0<L.length)(o:w.heap[b]? =some (.cells #[.int .i64 L.length,.slice (some ⟨g,0,none⟩) L.length a] 250 (0,0)))
 (h:w.ownsRow 0 3 1 (.slice (some ⟨g,0,none⟩) L.length a) L.length (L.map fun p:Nat=>Value.int .i64 (p:Int)))(c:∀p ∈ L,p≤2047)(q:L.length≤1048576):RSet w b g L:=by
 obtain⟨_,e⟩:=h;rcases e with⟨_,e⟩|⟨r,d,i,f,_,j,k,l,m,n⟩
 ·omega
 ·simp only[Value.slice.injEq,Option.some.injEq,Addr.mk.injEq,and_true,true_and] at f
  obtain⟨rfl,rfl⟩:=f;exact⟨⟨a,i,o,j,m,k,l,n⟩,c,q⟩
theorem rset_at(b g i p:Nat)(L:List Nat)(w:World)(h:RSet w b g L)(c:L[i]? =some p):Calls Tryz.prog 150 #[.pointer (some ⟨b,0,none⟩),.int .i64 i] w fun e l=>e=.returned (.tuple #[.int .i64 p,.int .i64 0])∧w=l:=by
 have j:=(List.getElem?_eq_some_iff.1 c).1;obtain⟨a,m,d,f,_,_,_,k⟩:=h.ex;exact rat_in b g L.length a i .nilIface p w (cell_in d rfl) (cell_in f (rset_cell k c)) j (by have:=h.small;simp only[maxLen];omega)
theorem rset_turn(b g i p v:Nat)(L:List Nat)(w:World)(h:RSet w b g L)(l:L[i]? =some p):Calls Tryz.prog 153 #[.pointer (some ⟨b,0,none⟩),.int .i64 i,.int .i64 v] w fun e m=>e=.returned (.int .i64 0)∧Fr (fun k=>k=g) w m∧RSet m b g (L.set i (nextN p v)):=by
 have t:=(List.getElem?_eq_some_iff.1 l).1;have f:=h.ok p (List.mem_of_getElem? l);obtain⟨a,r,n,s,y,j,u,o⟩:=h.ex;refine (rturn_in b g L.length a i (.int .i64 L.length) r (p:Int) (v:Int) w n s t (by have:=h.small;simp only [maxLen];omega) (rset_cell o l) h.apart).mono ?_;rintro e m ⟨rfl,d,c,_⟩;refine⟨rfl,d,⟨⟨a,_,by rw[List.length_set];exact d.keep n h.apart,c,by rw[Array.size_setIfInBounds];exact y,by rw[List.length_set];exact j,u,?_⟩,fun q x=> ?_,by rw[List.length_set];exact h.small⟩⟩
 ·rw[next_nat p v f,Array.toList_setIfInBounds,List.length_set,List.take_set,o,List.map_set]
 ·rcases List.mem_or_eq_of_mem_set x with c|c
  ·exact h.ok q c
  ·exact c ▸ nextN_le p v f
theorem rbound_nat(r p:Nat)(w:World)(c:r≤4294967295)(b:p≤2047):Calls Tryz.prog 152 #[.int .u32 r,.int .i64 p] w fun e a=>e=.returned (.int .u32 (Rc.cutAt r p))∧w=a:=by
 refine(rboundR_calls r p w (by omega) (by omega)).mono ?_;rintro e a ⟨rfl,rfl⟩;refine⟨?_,rfl⟩;apply ret_int;unfold bnd Rc.cutAt;have e:((r/2048:Nat):Int)=(r:Int)/2048:=by omega
 rw[taken_id _ (by omega) (by omega),Int.natCast_mul,e]
end Prob
namespace Rf
open Mem St
theorem rright_calls(s:S)(z:s.Ok)(w:World):Calls Tryz.prog 136 #[.agg s.cells] w fun e A=>e=.returned (.bool true)∧Fr (fun _=>False) w A:=by
 obtain⟨n,a,b,c,d⟩:=s;obtain⟨r,⟨t,f⟩,⟨u,g⟩,⟨v,h⟩,⟨x,j⟩⟩:=z;simp only at r t f u g v h x j;unfold S.cells;have l:=Hd ((R0 w).alloc (.cells #[.int .i64 n,.int .i64 a,.int .i64 b,.int .i64 c,.int .i64 d] 103));have k:=heap_alloc_new w (.cells #[.int .i64 n,.int .i64 a,.int .i64 b,.int .i64 c,.int .i64 d] 103);obtain⟨B,C,D,E,F⟩:=cs5 k rfl rfl rfl rfl rfl;clear k;have K:decide ((a:Int)<1)=false:=by rw[decide_eq_false_iff_not];omega
 have L:decide ((b:Int)<1)=false:=by rw[decide_eq_false_iff_not];omega
 have M:decide ((c:Int)<1)=false:=by rw[decide_eq_false_iff_not];omega
 have N:decide ((d:Int)<1)=false:=by rw[decide_eq_false_iff_not];omega
 have m:decide ((4294967295:Int)<a)=false:=by rw[decide_eq_false_iff_not];omega
 have o:decide ((4294967295:Int)<b)=false:=by rw[decide_eq_false_iff_not];omega
 have p:decide ((4294967295:Int)<c)=false:=by rw[decide_eq_false_iff_not];omega
 have q:decide ((4294967295:Int)<d)=false:=by rw[decide_eq_false_iff_not];omega
 have G:decide ((a:Int)>4294967295)=false:=m;have H:decide ((b:Int)>4294967295)=false:=o;have I:decide ((c:Int)>4294967295)=false:=p;have J:decide ((d:Int)>4294967295)=false:=q;have O:decide ((n:Int)≤11)=true:=by rw[decide_eq_true_eq];omega
 have P:decide ((n:Int)≥0)=true:=by rw[decide_eq_true_eq];omega
 have Q:decide ((0:Int)≤n)=true:=by rw[decide_eq_true_eq];omega
 go_enter Tryz.func136,Tryz.ntmps136;go_wp2_with fail;generalize y:w.alloc (.cells #[.int .i64 n,.int .i64 a,.int .i64 b,.int .i64 c,.int .i64 d] 103)=W at*;clear y;go_loopw [3] (fun i wr=>wr=W∧(i=.int .i64 0∨i=.int .i64 1∨i=.int .i64 2∨i=.int .i64 3∨i=.int .i64 4)) (fun i _=>4-(intOf i).toNat);case atStart=>exact⟨rfl,.inl rfl⟩
 case round=>
  obtain⟨rfl,rfl|rfl|rfl|rfl|rfl⟩:=hrel
  ·go_wp2_with fail
   go_roundw;case rel=>exact⟨by first|rfl|trivial,.inr (.inl rfl)⟩
   case measure=>first|(simp[intOf];done)|decide
  ·go_wp2_with fail
   go_roundw;case rel=>exact⟨by first|rfl|trivial,.inr (.inr (.inl rfl))⟩
   case measure=>first|(simp[intOf];done)|decide
  ·go_wp2_with fail
   go_roundw;case rel=>exact⟨by first|rfl|trivial,.inr (.inr (.inr (.inl rfl)))⟩
   case measure=>first|(simp[intOf];done)|decide
  ·go_wp2_with fail
   go_roundw;case rel=>exact⟨by first|rfl|trivial,.inr (.inr (.inr (.inr rfl)))⟩
   case measure=>first|(simp[intOf];done)|decide
  ·go_wp2_with fail
   go_ret;exact⟨rfl,l.out⟩
def fe(y:Sy):Nat:=if y.kind=1∨y.kind=4 then 0 else if y.kind=2 then(if isL y.len∧isD y.dist then 0 else 7) else if isL y.len then 0 else 7
theorem fe_next(s:S)(y:Sy)(a:y.Ok):(s.next y).1=fe y:=by
 unfold S.next fe;rcases a.kind with h|h|h|h<;>simp only[h]<;>repeat' split
 all_goals first|rfl|simp_all
theorem rformed_any(kind:Int)(d:Nat)(a dist:Int)(w:World):Calls Tryz.prog 203 #[.agg #[.int .i64 kind,.int .u8 d,.int .i64 a,.int .i64 dist]] w fun e I=>e=.returned (.int .i64 ((⟨kind,d,a,dist⟩:Sz).bad:Nat))∧Fr (fun _=>False) w I:=by
 have s:=Hd ((R0 w).alloc (.cells #[.int .i64 kind,.int .u8 d,.int .i64 a,.int .i64 dist] 110));have x:=heap_alloc_new w (.cells #[.int .i64 kind,.int .u8 d,.int .i64 a,.int .i64 dist] 110);have S:=cell_in (i:=0) x rfl;have T:=cell_in (i:=2) x rfl;have U:=cell_in (i:=3) x rfl;clear x;obtain⟨k,f⟩:∃k,k=(⟨kind,d,a,dist⟩:Sz).bad:=⟨_,rfl⟩;rw[←f];unfold Sz.bad at f;simp only at f;have b:=Hd f;clear f;obtain⟨o,g⟩:∃q,q=decide (2≤a):=⟨_,rfl⟩;obtain⟨r,l⟩:∃q,q=decide (a≤273):=⟨_,rfl⟩;obtain⟨G,m⟩:∃q,q=decide (dist<1):=⟨_,rfl⟩;obtain⟨E,h⟩:∃q,q=decide (4294967295<dist):=⟨_,rfl⟩;obtain⟨H,n⟩:∃q,q=decide (dist<0):=⟨_,rfl⟩;obtain⟨F,j⟩:∃q,q=decide (3<dist):=⟨_,rfl⟩;have J:decide ((a:Int)≥2)=o:=g.symm;have K:decide ((2:Int)≤a)=o:=g.symm;have L:decide ((a:Int)≤273)=r:=l.symm;have M:decide ((dist:Int)<1)=G:=m.symm;have N:decide ((dist:Int)>4294967295)=E:=h.symm;have O:decide ((4294967295:Int)<dist)=E:=h.symm;have P:decide ((dist:Int)<0)=H:=n.symm;have Q:decide ((dist:Int)>3)=F:=j.symm;have R:decide ((3:Int)<dist)=F:=j.symm;have t:=Hd (And.intro g (And.intro l (And.intro m (And.intro h (And.intro n j)))));clear g l m h n j;by_cases p:kind=1
 ·subst p
  have c:k=0:=by rw[b.out,if_pos (.inl rfl)]
  subst c;clear b t;cases o<;>cases r
  all_goals
   go_enter Tryz.func203,Tryz.ntmps203;go_wp2_with fail;go_ret;exact⟨rfl,s.out⟩
 by_cases v:kind=4
 ·subst v
  have c:k=0:=by rw[b.out,if_pos (.inr rfl)]
  subst c;clear b t p;cases o<;>cases r
  all_goals
   go_enter Tryz.func203,Tryz.ntmps203;go_wp2_with fail;go_ret;exact⟨rfl,s.out⟩
 by_cases u:kind=2
 ·subst u
  have c:k=if(2≤a∧a≤273)∧1≤dist∧dist≤4294967295 then 0 else 7:=by rw[b.out,if_neg (by decide),if_pos rfl]
  have z:=Hd c;clear b p v c;cases o<;>cases r<;>cases G<;>cases E
  all_goals
   go_enter Tryz.func203,Tryz.ntmps203;go_wp2_with fail;go_ret;refine⟨?_,s.out⟩;obtain⟨A,B,C,D,_,_⟩:=t.out;have c:=z.out;simp only[Bool.true_eq,Bool.false_eq,decide_eq_true_eq,decide_eq_false_iff_not] at A B C D;first
    |(rw[if_pos (by omega)] at c;rw[c];rfl)
    |(rw[if_neg (by omega)] at c;rw[c];rfl)
 by_cases y:kind=3
 ·subst y
  have c:k=if(2≤a∧a≤273)∧0≤dist∧dist≤3 then 0 else 7:=by rw[b.out,if_neg (by decide),if_neg (by decide),if_pos rfl]
  have z:=Hd c;clear b p v u c;cases o<;>cases r<;>cases H<;>cases F
  all_goals
   go_enter Tryz.func203,Tryz.ntmps203;go_wp2_with fail;go_ret;refine⟨?_,s.out⟩;obtain⟨A,B,_,_,C,D⟩:=t.out;have c:=z.out;simp only[Bool.true_eq,Bool.false_eq,decide_eq_true_eq,decide_eq_false_iff_not] at A B C D;first
    |(rw[if_pos (by omega)] at c;rw[c];rfl)
    |(rw[if_neg (by omega)] at c;rw[c];rfl)
 have c:k=6:=by rw[b.out,if_neg (by omega),if_neg u,if_neg y]
 subst c;have V:(kind==1)=false:=by rw[beq_eq_false_iff_ne];exact p
 have W:(kind==2)=false:=by rw[beq_eq_false_iff_ne];exact u
 have X:(kind==3)=false:=by rw[beq_eq_false_iff_ne];exact y
 have Y:(kind==4)=false:=by rw[beq_eq_false_iff_ne];exact v
 clear b t p u y v;cases o<;>cases r
 all_goals
  go_enter Tryz.func203,Tryz.ntmps203;go_wp2_with fail;go_ret;exact⟨rfl,s.out⟩
theorem bad_fe(y:Sy)(e:y.Ok):(⟨y.kind,y.byte,y.len,y.dist⟩:Sz).bad=fe y:=by
 obtain⟨k,b,n,d⟩:=y;obtain⟨c,a,_⟩:=e;simp only at c a;unfold fe Sz.bad;simp only;rcases c with rfl|rfl|rfl|rfl;all_goals repeat' split
 all_goals first
  |rfl
  |(exfalso;omega)
  |(exfalso;have:=a rfl;omega)
theorem rformed_calls(y:Sy)(a:y.Ok)(w:World):Calls Tryz.prog 203 #[.agg y.cells] w fun e b=>e=.returned (.int .i64 (fe y))∧Fr (fun _=>False) w b:=by
 have h:=rformed_any y.kind y.byte y.len y.dist w;rw[bad_fe y a] at h;exact h
def movedN(n k:Nat):Nat:=if k=1 then litL.getD n 0 else if k=2 then matchL.getD n 0 else if k=3 then repL.getD n 0 else shortL.getD n 0
theorem moved_calls(n k:Nat)(c:n<12)(a:k=1∨k=2∨k=3∨k=4)(w:World):Calls Tryz.prog 204 #[.int .i64 n,.int .i64 k] w fun e b=>e=.returned (.int .i64 (movedN n k))∧w=b:=by
 obtain rfl|rfl|rfl|rfl|rfl|rfl|rfl|rfl|rfl|rfl|rfl|rfl:n=0∨n=1∨n=2∨n=3∨n=4∨n=5∨n=6∨n=7∨n=8∨n=9∨n=10∨n=11:=by omega
 all_goals rcases a with rfl|rfl|rfl|rfl
 all_goals
  go_enter Tryz.func204,Tryz.ntmps204;go_wp2_with fail;go_ret;exact⟨by kernel_rfl,rfl⟩
end Rf
namespace Rf
open Mem St
def Rp(z8 mv:Nat)(w8:World)(k i c0 c1 c2 c3:Nat)(kv iv:Value)(wr:World):Prop:=
 kv=.int .i64 k∧iv=.int .i64 i∧Fr (fun k=>k=z8) w8 wr∧wr.heap[z8]? =some (.cells #[.int .i64 mv,.int .i64 c0,.int .i64 c1,.int .i64 c2,.int .i64 c3] 103 (0,0))
abbrev stA(m a b c d:Int):Array Value:=#[.int .i64 m,.int .i64 a,.int .i64 b,.int .i64 c,.int .i64 d]
set_option maxRecDepth 100000 in
theorem rnext_core(n a b c d:Nat)(hs:(⟨n,a,b,c,d⟩:S).Ok)(kind:Int)(m:Nat)(x dist:Int)(y f:Nat)(V:Array Value)(hf:y≠0→V=stA 0 0 0 0 0)
 (hv:y=0→(kind=1∨kind=4)∧V=stA f a b c d∨kind=2∧V=stA f dist a b c∨kind=3∧(dist=0∧V=stA f a b c d∨dist=1∧V=stA f b a c d∨dist=2∧V=stA f c a b d∨dist=3∧V=stA f d a b c))
 (a5:∀W,Hid (Calls Tryz.prog 203 #[.agg #[.int .i64 kind,.int .u8 m,.int .i64 x,.int .i64 dist]] W (fun e w'=>e=.returned (.int .i64 y)∧Fr (fun _=>False) W w')))
 (HM:y=0→∀W,Hid (Calls Tryz.prog 204 #[.int .i64 n,.int .i64 kind] W (fun e w'=>e=.returned (.int .i64 f)∧W=w')))(w:World):
 Calls Tryz.prog 138 #[.agg #[.int .i64 n,.int .i64 a,.int .i64 b,.int .i64 c,.int .i64 d],.agg #[.int .i64 kind,.int .u8 m,.int .i64 x,.int .i64 dist]] w fun e w'=>e=.returned (.tuple #[.agg V,.int .i64 y])∧Fr (fun _=>False) w w':=by
 have HR:=fun W=>Hd (show Calls Tryz.prog 136 #[.agg #[.int .i64 n,.int .i64 a,.int .i64 b,.int .i64 c,.int .i64 d]] W (fun e w'=>e=.returned (.bool true)∧Fr (fun _=>False) W w') from rright_calls ⟨n,a,b,c,d⟩ hs W);obtain⟨a1,a2,p,l,q⟩:=Rc.three w (.cells #[.int .i64 n,.int .i64 a,.int .i64 b,.int .i64 c,.int .i64 d] 103) (.cells #[.int .i64 kind,.int .u8 m,.int .i64 x,.int .i64 dist] 110) (.cells #[.int .i64 0,.int .i64 0,.int .i64 0,.int .i64 0,.int .i64 0] 103);have Q:=Hd a1;have HS:=Hd (show∀w':World,Fr (fun _=>False) (((w.alloc (.cells #[.int .i64 n,.int .i64 a,.int .i64 b,.int .i64 c,.int .i64 d] 103)).alloc (.cells #[.int .i64 kind,.int .u8 m,.int .i64 x,.int .i64 dist] 110)).alloc (.cells #[.int .i64 0,.int .i64 0,.int .i64 0,.int .i64 0,.int .i64 0] 103)) w'→_ from fun w' h=>And.intro (h.keep p (fun h=>h)) (And.intro (h.keep l (fun h=>h)) (h.keep q (fun h=>h))));have X:=Hd hf;have Y:=Hd hv;have R:=Hd HM;clear a1 hf hv HM;obtain⟨q0,q1,q2,q3,q4⟩:=cs5 p rfl rfl rfl rfl rfl;clear p l q;go_enter Tryz.func138,Tryz.ntmps138;go_wp2_with fail;generalize hz:w.heap.size=z at*;have Z:=Hd hz;have a6:=Hd a2;clear hz a2;generalize World.alloc (World.alloc (World.alloc w _) _) _=W at*;refine(HR _).out.mono ?_;rintro e w1 ⟨rfl,D⟩;clear q0 q1 q2 q3 q4;obtain⟨p,l,q⟩:=HS.out w1 D;obtain⟨N,y1,y2,O⟩:=cs4 l rfl rfl rfl rfl;have P:=Hd D;clear p l q D;go_wp2_with fail;refine(a5 _).out.mono ?_;rintro e r ⟨rfl,a0⟩;clear N y1 y2 O;have s:=Hd (P.out.trans a0);clear a0 P;obtain⟨p,l,q⟩:=HS.out r s.out;have L:=Hd (And.intro p (And.intro l q));obtain⟨G,H,I,J,K,rf⟩:=cf5 q rfl rfl rfl rfl rfl;by_cases M:y=0;case neg=>
  have t0:((y:Int) !=0)=true:=by simp[M]
  have o:=Hd (X.out M);clear M p l q;go_wp2_with fail;refine bodyPost_ret (v:=.tuple #[.agg V,.int .i64 y]) (by rw[o.out];simp[results,Tryz.results138,go_sem,G,H,I,J,K]) rfl ?_;exact⟨rfl,(Q.out.trans s.out).trans' (T:=fun k=>k=z+1+1) (((((Fr.one _ (z+1+1) 0 _).trans (Fr.one _ (z+1+1) 1 _)).trans (Fr.one _ (z+1+1) 2 _)).trans (Fr.one _ (z+1+1) 3 _)).trans (Fr.one _ (z+1+1) 4 _)) (fun k hk e=>by have:=Z.out;omega)⟩
 have a3:=Y.out M;have HM:=R.out M;clear X Y R;subst M;have t0:(((0:Nat):Int) !=0)=false:=rfl;obtain⟨c0,c1,c2,c3,c4⟩:=cs5 p rfl rfl rfl rfl rfl;have N:=cell_in (i:=0) l rfl;have O:=cell_in (i:=3) l rfl;have C:=Hd a3;clear p l q a3;have u:=Hd (show∀w':World,Fr (fun _=>False) r w'→w'.cell? ⟨z,0,none⟩=some (.int .i64 n)∧w'.cell? ⟨z,1,none⟩=some (.int .i64 a)∧w'.cell? ⟨z,2,none⟩=some (.int .i64 b)∧w'.cell? ⟨z,3,none⟩=some (.int .i64 c)∧w'.cell? ⟨z,4,none⟩=some (.int .i64 d)∧w'.cell? ⟨z+1,0,none⟩=some (.int .i64 kind) from fun w' h=>⟨cell_in (i:=0) (h.keep L.out.1 (fun h=>h)) rfl,cell_in (i:=1) (h.keep L.out.1 (fun h=>h)) rfl,cell_in (i:=2) (h.keep L.out.1 (fun h=>h)) rfl,cell_in (i:=3) (h.keep L.out.1 (fun h=>h)) rfl,cell_in (i:=4) (h.keep L.out.1 (fun h=>h)) rfl,cell_in (i:=0) (h.keep L.out.2.1 (fun h=>h)) rfl⟩);have U:=Hd (u.out _ (Fr.refl _ r).drew);go_wp2_with fail;go_region_held3 (fun w'=>w'.cell? ⟨z,0,none⟩=some (.int .i64 n)∧w'.cell? ⟨z,1,none⟩=some (.int .i64 a)∧w'.cell? ⟨z,2,none⟩=some (.int .i64 b)∧w'.cell? ⟨z,3,none⟩=some (.int .i64 c)∧w'.cell? ⟨z,4,none⟩=some (.int .i64 d)∧w'.cell? ⟨z+1,0,none⟩=some (.int .i64 kind)) (first|with_reducible exact U.out|with_reducible exact u.out _ ((Fr.refl _ r).drew.alloc _)|(refine u.out _ ?_;(repeat refine Fr.setCell ?_ (.inr (Nat.le_refl _)) _);exact(Fr.refl _ r).drew.alloc _)) ((first
  | (go_at_call 204
     with_reducible refine(HM _).out.mono ?_
     rintro e wc ⟨rfl,rfl⟩)))
 all_goals
  clear c0 c1 c2 c3 c4 N O G H I J K rf U u;have E:=((R0 r).alloc (.cells #[.int .i64 f,.int .i64 a,.int .i64 b,.int .i64 c,.int .i64 d] 103)).drew;have a4:((r.alloc (.cells #[.int .i64 f,.int .i64 a,.int .i64 b,.int .i64 c,.int .i64 d] 103)).drew).heap[r.heap.size]? =some (.cells #[.int .i64 f,.int .i64 a,.int .i64 b,.int .i64 c,.int .i64 d] 103 (0,0)):=heap_alloc_new r _;have a7:z+1+1<r.heap.size:=by have:=a6.out;have:=s.out.size;omega
  obtain⟨p,l,q⟩:=HS.out _ (s.out.trans E);have A:=Hd (Q.out.trans (s.out.trans E));have t:=Hd a4;have j:=Hd (And.intro p (And.intro l q));clear E a4 p l q;generalize(r.alloc (.cells #[.int .i64 f,.int .i64 a,.int .i64 b,.int .i64 c,.int .i64 d] 103)).drew=w8 at*;generalize r.heap.size=z8 at*;obtain⟨c0,c1,c2,c3,c4⟩:=cs5 j.out.1 rfl rfl rfl rfl rfl;have N:=cell_in (i:=0) j.out.2.1 rfl;have O:=cell_in (i:=3) j.out.2.1 rfl;obtain⟨t0,t1,t2,t3,t4,tf⟩:=cf5 t.out rfl rfl rfl rfl rfl;obtain⟨G,H,I,J,K,rf⟩:=cf5 j.out.2.2 rfl rfl rfl rfl rfl;obtain⟨rfl|rfl,o⟩|⟨rfl,o⟩|⟨rfl,hr⟩:=C.out;iterate 3
   focus
    have o:=Hd o;clear C;go_wp2_with fail;refine bodyPost_ret (v:=.tuple #[.agg V,.int .i64 (0:Nat)]) (by rw[o.out];simp[results,Tryz.results138,go_sem,G,H,I,J,K]) rfl ?_;refine⟨rfl,Fr.trans' (b:=_) ?_ (T:=fun k=>k=z+1+1) (((((Fr.one _ (z+1+1) 0 _).trans (Fr.one _ (z+1+1) 1 _)).trans (Fr.one _ (z+1+1) 2 _)).trans (Fr.one _ (z+1+1) 3 _)).trans (Fr.one _ (z+1+1) 4 _)) (fun k hk e=>by have:=Z.out;omega)⟩;first
     |exact A.out
     |exact A.out.trans' (T:=fun k=>k=z8) ((((Fr.one _ z8 1 _).trans (Fr.one _ z8 2 _)).trans (Fr.one _ z8 3 _)).trans (Fr.one _ z8 4 _)) (fun k hk e=>by have:=Z.out;omega)
  clear C G H I J K rf;obtain⟨rfl,o⟩|⟨rfl,o⟩|⟨rfl,o⟩|⟨rfl,o⟩:=hr;all_goals
   have o:=Hd o;go_wp2_with fail
  focus
   go_loopw [9,10] (fun kv iv wr=>Rp z8 f w8 0 0 a b c d kv iv wr∨Rp z8 f w8 0 1 a b c d kv iv wr∨Rp z8 f w8 1 2 a b c d kv iv wr∨Rp z8 f w8 2 3 a b c d kv iv wr∨Rp z8 f w8 3 4 a b c d kv iv wr) (fun _ i _=>4-(intOf i).toNat);case atStart=>exact .inl ⟨rfl,rfl,Fr.one _ z8 1 _,set_in t.out 1 _⟩
   rotate_left
  rotate_left;focus
   go_loopw [9,10] (fun kv iv wr=>Rp z8 f w8 0 0 b b c d kv iv wr∨Rp z8 f w8 1 1 b a c d kv iv wr∨Rp z8 f w8 1 2 b a c d kv iv wr∨Rp z8 f w8 2 3 b a c d kv iv wr∨Rp z8 f w8 3 4 b a c d kv iv wr) (fun _ i _=>4-(intOf i).toNat);case atStart=>exact .inl ⟨rfl,rfl,Fr.one _ z8 1 _,set_in t.out 1 _⟩
   rotate_left
  rotate_left;focus
   go_loopw [9,10] (fun kv iv wr=>Rp z8 f w8 0 0 c b c d kv iv wr∨Rp z8 f w8 1 1 c a c d kv iv wr∨Rp z8 f w8 2 2 c a b d kv iv wr∨Rp z8 f w8 2 3 c a b d kv iv wr∨Rp z8 f w8 3 4 c a b d kv iv wr) (fun _ i _=>4-(intOf i).toNat);case atStart=>exact .inl ⟨rfl,rfl,Fr.one _ z8 1 _,set_in t.out 1 _⟩
   rotate_left
  rotate_left;focus
   go_loopw [9,10] (fun kv iv wr=>Rp z8 f w8 0 0 d b c d kv iv wr∨Rp z8 f w8 1 1 d a c d kv iv wr∨Rp z8 f w8 2 2 d a b d kv iv wr∨Rp z8 f w8 3 3 d a b c kv iv wr∨Rp z8 f w8 3 4 d a b c kv iv wr) (fun _ i _=>4-(intOf i).toNat);case atStart=>exact .inl ⟨rfl,rfl,Fr.one _ z8 1 _,set_in t.out 1 _⟩
   rotate_left
  rotate_left;all_goals
   obtain⟨rfl,rfl,g,F⟩|⟨rfl,rfl,g,F⟩|⟨rfl,rfl,g,F⟩|⟨rfl,rfl,g,F⟩|⟨rfl,rfl,g,F⟩:=hrel;all_goals
    have g0:=g.keep j.out.1 (fun e=>by omega);have g1:=g.keep j.out.2.1 (fun e=>by omega);have g2:=g.keep j.out.2.2 (fun e=>by omega);clear c0 c1 c2 c3 c4 N O t0 t1 t2 t3 t4 tf;obtain⟨c0,c1,c2,c3,c4⟩:=cs5 g0 rfl rfl rfl rfl rfl;have N:=cell_in (i:=0) g1 rfl;have O:=cell_in (i:=3) g1 rfl;obtain⟨t0,t1,t2,t3,t4,tf⟩:=cf5 F rfl rfl rfl rfl rfl;obtain⟨G,H,I,J,K,rf⟩:=cf5 g2 rfl rfl rfl rfl rfl;have B:=Hd g;have HX:=Hd F;clear g0 g1 g2 g F;go_wp2_with fail
   rotate_right;focus
    refine bodyPost_ret (v:=.tuple #[.agg V,.int .i64 (0:Nat)]) (by rw[o.out];simp[results,Tryz.results138,go_sem,G,H,I,J,K]) rfl ?_;exact⟨rfl,(A.out.trans' B.out (fun k hk e=>by have:=Z.out;omega)).trans' (T:=fun k=>k=z+1+1) (((((Fr.one _ (z+1+1) 0 _).trans (Fr.one _ (z+1+1) 1 _)).trans (Fr.one _ (z+1+1) 2 _)).trans (Fr.one _ (z+1+1) 3 _)).trans (Fr.one _ (z+1+1) 4 _)) (fun k hk e=>by have:=Z.out;omega)⟩
   all_goals
    go_roundw;case rel=>
     first
      |refine .inr (.inl ⟨rfl,rfl,?_,?_⟩)
      |refine .inr (.inr (.inl ⟨rfl,rfl,?_,?_⟩))
      |refine .inr (.inr (.inr (.inl ⟨rfl,rfl,?_,?_⟩)))
      |refine .inr (.inr (.inr (.inr ⟨rfl,rfl,?_,?_⟩)))
     ·first|exact B.out|exact B.out.trans (Fr.one _ z8 _ _)
     ·first|exact HX.out|exact set_in HX.out _ _
    case measure=>first|(simp[intOf];done)|decide
theorem rnextz_calls(s:S)(p:s.Ok)(z:Sz)(t:z.byte<256)(w:World):
 Calls Tryz.prog 138 #[.agg s.cells,.agg z.cells] w fun e r=>e=.returned (.tuple #[.agg (if z.bad=0 then(s.next z.sy).2 else .zero).cells,.int .i64 z.bad])∧Fr (fun _=>False) w r:=by
 obtain⟨n,a,b,c,d⟩:=s;obtain⟨kind,i,k,dist⟩:=z;obtain⟨f,j⟩:∃f,f=(⟨kind,i,k,dist⟩:Sz).bad:=⟨_,rfl⟩;have g:=j;unfold Sz.bad at g;simp only at g;have l:f=0→kind=1∨kind=2∨kind=3∨kind=4:=fun h=>by
  rw[h] at g;split at g
  ·omega
  ·split at g
   ·omega
   ·split at g
    ·omega
    ·omega
 rw[←j];refine rnext_core n a b c d p kind i k dist f (movedN n kind.toNat) _ (fun h=>by rw[if_neg h];rfl) (fun h=> ?_) (fun W=>Hd ?_) (fun h W=>Hd ?_) w
 ·rw[if_pos h]
  unfold Sz.sy S.next;simp only;rw[h] at g;rcases l h with rfl|rfl|rfl|rfl
  ·exact .inl ⟨.inl rfl,rfl⟩
  ·rw[if_neg (by decide),if_pos rfl] at g
   refine .inr (.inl ⟨rfl,?_⟩);split at g
   ·rename_i m
    rw[if_neg (by decide),if_neg (by decide),if_pos (by decide),if_pos (by unfold isL;omega),if_pos (by unfold isD;omega)];obtain⟨q,rfl⟩:∃q:Nat,dist=q:=⟨dist.toNat,by omega⟩;rfl
   ·cases g
  ·rw[if_neg (by decide),if_neg (by decide),if_pos rfl] at g
   refine .inr (.inr ⟨rfl,?_⟩);split at g
   ·rename_i m
    rw[if_neg (by decide),if_neg (by decide),if_neg (by decide),if_pos (by unfold isL;omega)];obtain rfl|rfl|rfl|rfl:dist=0∨dist=1∨dist=2∨dist=3:=by omega
    ·exact .inl ⟨rfl,rfl⟩
    ·exact .inr (.inl ⟨rfl,rfl⟩)
    ·exact .inr (.inr (.inl ⟨rfl,rfl⟩))
    ·exact .inr (.inr (.inr ⟨rfl,rfl⟩))
   ·cases g
  ·exact .inl ⟨.inr rfl,rfl⟩
 ·rw[j]
  exact rformed_any kind i k dist W
 ·obtain⟨q,m,o⟩:∃q:Nat,kind=q∧(q=1∨q=2∨q=3∨q=4):=⟨kind.toNat,by have:=l h;omega,by have:=l h;omega⟩
  subst m;exact moved_calls n q p.num o W
theorem rnext_calls(s:S)(c:s.Ok)(y:Sy)(b:y.Ok)(w:World):
 Calls Tryz.prog 138 #[.agg s.cells,.agg y.cells] w fun e d=>e=.returned (.tuple #[.agg (s.next y).2.cells,.int .i64 (s.next y).1])∧Fr (fun _=>False) w d:=by
 have h:=rnextz_calls s c ⟨y.kind,y.byte,y.len,y.dist⟩ b.byte w;have e:(s.next y).1≠0→(s.next y).2=.zero:=by
  unfold S.next;repeat' split
  all_goals first
   |exact fun h=>absurd rfl h
   |exact fun _=>rfl
 rw[bad_fe y b,←fe_next s y b] at h;by_cases a:(s.next y).1=0
 ·rw[if_pos a] at h
  exact h
 ·rw[if_neg a,←e a] at h
  exact h
end Rf
namespace Rf
open Mem St
theorem rsizez_calls(z:Sz)(k:z.bad=0)(u:z.byte<256)(w:World):Calls Tryz.prog 157 #[.agg z.cells] w fun e E=>e=.returned (.int .i64 (St.size z.sy))∧Fr (fun _=>False) w E:=by
 have c:=fun W=>Hd (rformed_any z.kind z.byte z.len z.dist W);obtain⟨y,x⟩:=Sz.ok k u;have a:=Sz.same k;have f:St.size z.sy=if z.kind=2∨z.kind=3 then z.len.toNat else 1:=by
  unfold St.size;rw[x,if_pos rfl];have s:(z.sy.kind=2∨z.sy.kind=3)↔(z.kind=2∨z.kind=3):=by
   unfold Sz.sy;simp only;omega
  by_cases l:z.kind=2∨z.kind=3
  ·rw[if_pos l,if_pos (s.2 l)]
   rfl
  ·rw[if_neg l,if_neg (fun h=>l (s.1 h))]
 have v:z.kind=1∨z.kind=2∨z.kind=3∨z.kind=4:=by
  have t:=y.kind;unfold Sz.sy at t;simp only at t;omega
 generalize St.size z.sy=sz at*;obtain⟨kind,b,j,dist⟩:=z;simp only at v f a u c;rw[k] at c;unfold Sz.cells;simp only[Sz.sy] at a ⊢;have p:=heap_alloc_new w (.cells #[.int .i64 kind,.int .u8 b,.int .i64 j,.int .i64 dist] 110);have A:=Hd ((R0 w).alloc (.cells #[.int .i64 kind,.int .u8 b,.int .i64 j,.int .i64 dist] 110));obtain⟨q,C,r,D⟩:=cs4 p rfl rfl rfl rfl;have B:=Hd p;have o:=Hd f;have n:=Hd a;clear p f y x k a;rcases v with rfl|rfl|rfl|rfl;all_goals
  go_enter Tryz.func157,Tryz.ntmps157;go_wp2_with fail;refine(c _).out.mono ?_;rintro e F ⟨rfl,d⟩;have g:=d.keep B.out (fun h=>h);clear q C r D;have q:=cell_in (i:=0) g rfl;have r:=cell_in (i:=2) g rfl;have m:=Hd (A.out.trans d);clear d g;go_wp2_with fail;go_ret;refine⟨?_,m.out⟩;rw[o.out];first
   |rfl
   |(rw[if_pos (by decide),(n.out (by decide)).1];rfl)
end Rf
namespace Rf
open Mem St
abbrev propV(lc lp pb:Nat):Value:=.agg #[.int .i64 lc,.int .i64 lp,.int .i64 pb]
theorem allowed_calls(lc lp pb:Nat)(h:lc+lp≤4)(s:pb≤4)(w:World):Calls Tryz.prog 38 #[propV lc lp pb] w fun e c=>e=.returned (.bool true)∧Fr (fun _=>False) w c:=by
 have b:=Hd ((R0 w).alloc (.cells #[.int .i64 lc,.int .i64 lp,.int .i64 pb] 24));have a:=heap_alloc_new w (.cells #[.int .i64 lc,.int .i64 lp,.int .i64 pb] 24);obtain⟨l,m,n⟩:=cs3 a rfl rfl rfl;clear a;have d:decide ((lc:Int)≥0)=true:=by rw[decide_eq_true_eq];omega
 have f:decide ((lp:Int)≥0)=true:=by rw[decide_eq_true_eq];omega
 have g:decide ((pb:Int)≥0)=true:=by rw[decide_eq_true_eq];omega
 have i:decide ((0:Int)≤lc)=true:=by rw[decide_eq_true_eq];omega
 have j:decide ((0:Int)≤lp)=true:=by rw[decide_eq_true_eq];omega
 have k:decide ((0:Int)≤pb)=true:=by rw[decide_eq_true_eq];omega
 have o:decide ((lc:Int)≤4)=true:=by rw[decide_eq_true_eq];omega
 have p:decide ((lp:Int)≤4)=true:=by rw[decide_eq_true_eq];omega
 have q:decide ((pb:Int)≤4)=true:=by rw[decide_eq_true_eq];omega
 have r:decide ((lc:Int)+(lp:Int)≤4)=true:=by rw[decide_eq_true_eq];omega
 go_enter Tryz.func38,Tryz.ntmps38;go_wp2_with fail;go_ret;exact⟨rfl,b.out⟩
theorem propsByte_calls(lc lp pb:Nat)(h:lc+lp≤4)(m:pb≤4)(w:World):Calls Tryz.prog 76 #[propV lc lp pb] w fun e n=>e=.returned (.tuple #[.int .i64 (((5*pb+lp)*9+lc:Nat):Int),.int .i64 0])∧Fr (fun _=>False) w n:=by
 have k:=Hd ((R0 w).alloc (.cells #[.int .i64 lc,.int .i64 lp,.int .i64 pb] 24));have d:=heap_alloc_new w (.cells #[.int .i64 lc,.int .i64 lp,.int .i64 pb] 24);obtain⟨f,g,i⟩:=cs3 d rfl rfl rfl;have l:=Hd d;clear d;have j:=fun W=>Hd (allowed_calls lc lp pb h m W);go_enter Tryz.func76,Tryz.ntmps76;go_wp2_with fail;refine(j _).out.mono ?_;rintro e o ⟨rfl,a⟩;have b:=a.keep l.out (fun h=>h);clear f g i;obtain⟨f,g,i⟩:=cs3 b rfl rfl rfl;have c:=Hd (k.out.trans a);clear a b;go_wp2_with fail;go_ret2;refine⟨?_,c.out⟩;have e:(((5*pb+lp)*9+lc:Nat):Int)=(5*(pb:Int)+lp)*9+lc:=by omega
 rw[e];rfl
end Rf
namespace En
open Mem Rc
theorem digs_front:∀(n a:Nat),digs (n+1) a=UInt8.ofNat (a/256^n%256)::digs n a
 |0,a=>by simp[digs]
 |n+1,a=>by
   rw[digs,digs_front n (a/256),Nat.div_div_eq_div_mul,show 256*256^n=256^(n+1) by rw[Nat.pow_succ,Nat.mul_comm]];rfl
def addL(n m a v:Nat):List UInt8:=digs (n-m) (a/256^m)++digs m (a+v)
def addC(m a v:Nat):Nat:=(a+v)/256^m-a/256^m
theorem addL_start(n a v:Nat):addL n 0 a v=digs n a:=by simp[addL,digs]
theorem addL_end(n a v:Nat):addL n n a v=digs n (a+v):=by simp[addL,digs]
theorem addC_start(a v:Nat):addC 0 a v=v:=by simp[addC]
theorem addC_le(m a v:Nat)(h:v≤4294967295):addC m a v≤4294967296:=by
 unfold addC;have b:=Nat.pow_pos (n:=m) (show 0<256 by decide);have f:(a+v)/256^m≤a/256^m+v/256^m+1:=by
  have c:=Nat.div_add_mod a (256^m);have d:=Nat.div_add_mod v (256^m);have i:=Nat.mod_lt a b;have j:=Nat.mod_lt v b;generalize 256^m=P at*;apply Nat.le_of_lt_succ;rw[Nat.div_lt_iff_lt_mul b];have e:(a/P+v/P+1).succ*P=P*(a/P)+P*(v/P)+P+P:=by
   rw[Nat.succ_mul,Nat.add_mul,Nat.add_mul,Nat.one_mul,Nat.mul_comm (a/P),Nat.mul_comm (v/P)]
  omega
 have g:=Nat.div_le_self v (256^m);omega
theorem addC_step(m a v:Nat):addC (m+1) a v=(addC m a v+a/256^m%256)/256∧(addC m a v+a/256^m%256)%256=(a+v)/256^m%256:=by
 unfold addC;have h:a/256^m≤(a+v)/256^m:=Nat.div_le_div_right (Nat.le_add_right _ _);rw[Nat.pow_succ,←Nat.div_div_eq_div_mul,←Nat.div_div_eq_div_mul];omega
theorem addL_get{n m a v j:Nat}(h:n=m+j+1):(addL n m a v)[j]? =some (UInt8.ofNat (a/256^m%256)):=by
 unfold addL;rw[show n-m=j+1 by omega,digs,List.append_assoc,List.getElem?_append_right (by rw[digs_len];exact Nat.le_refl _),digs_len];simp
theorem addL_set{n m a v j:Nat}(h:n=m+j+1):(addL n m a v).set j (UInt8.ofNat ((addC m a v+a/256^m%256)%256))=addL n (m+1) a v:=by
 rw[(addC_step m a v).2];unfold addL;rw[show n-m=j+1 by omega,show n-(m+1)=j by omega,digs,digs_front,List.append_assoc,List.set_append_right _ _ (by rw[digs_len];exact Nat.le_refl _),digs_len,Nat.sub_self,Nat.div_div_eq_div_mul,←Nat.pow_succ];rfl
end En
namespace En
open Mem Rc Win Lz
theorem own_open{w:World}{T:TypeId}{v:Value}{n:Nat}{xs:List Value}(h:w.ownsRow 0 T 1 v n xs)(s:0<n):∃g a b,v=.slice (some ⟨g,0,none⟩) n a∧w.heap[g]? =some (.cells b T (0,0))∧(∀(i:Nat)(x:Value),xs[i]? =some x→b[i]? =some x)∧
 ∀(i:Nat)(u:Value),(w.setCell ⟨g,i,none⟩ u).ownsRow 0 T 1 v n (xs.set i u):=by
 obtain⟨l,m⟩:=h;rcases m with⟨q,r⟩|⟨g,a,b,c,o,j,f,p,e,k⟩
 ·omega
 ·refine⟨g,a,b,c,j,fun i x d=> ?_,fun i u=>⟨by rw[List.length_set];exact l,.inr ⟨g,a,_,c,o,set_in j i u,f,p,by simp[e],?_⟩⟩⟩
  ·rw[←k,List.getElem?_take] at d
   split at d
   ·rw[←Array.getElem?_toList]
    exact d
   ·cases d
  ·rw[Array.toList_setIfInBounds,List.take_set,k]
theorem fr_row(w:World)(g i:Nat)(u:Value){p:Nat}{c:Nat}:Fr (fun k=>(Value.slice (some ⟨g,0,none⟩) p c).ownBlock=some k) w (w.setCell ⟨g,i,none⟩ u):=
 (Fr.one w g i u).mono (fun k _ e=>by rw[e];rfl)
structure QR(w:World)(E:Nat)(v:Value)(L:List UInt8)(r s:Nat):Prop where
 box:w.heap[E]? =some (.cells #[v,.int .u32 r,.int .i64 s] 248 (0,0))
 own:w.ownsRow 0 5 1 v L.length (bvs L)
theorem QR.off{w:World}{E:Nat}{v:Value}{L:List UInt8}{r s:Nat}(h:QR w E v L r s):∀k,v.ownBlock=some k→k≠E:=fun k a=>off_box h.own h.box (by decide) k a
theorem QR.keep{S:Nat→Prop}{w w':World}{E:Nat}{v:Value}{L:List UInt8}{r s:Nat}(h:QR w E v L r s)(a:Fr S w w')(b:¬S E)(c:∀k,v.ownBlock=some k→¬S k):QR w' E v L r s:=
 ⟨a.keep h.box b,own_step h.own a c⟩
def QPost(E:Nat)(v:Value)(w:World)(L:List UInt8)(r s:Nat)(w':World):Prop:=Fr (EF E v) w w'∧∃v',QR w' E v' L r s∧∀k,v'.ownBlock=some k→v.ownBlock=some k∨w.heap.size≤k
theorem QPost.trans{E:Nat}{v v1:Value}{w g h:World}{L:List UInt8}{r s:Nat}(b:Fr (EF E v) w g)(d:∀k,v1.ownBlock=some k→v.ownBlock=some k∨w.heap.size≤k)(i:QPost E v1 g L r s h):QPost E v w L r s h:=by
 obtain⟨f,j,a,n⟩:=i;refine⟨b.trans' f (fun k c e=> ?_),j,a,fun k c=> ?_⟩
 ·rcases e with e|e
  ·exact .inl e
  ·rcases d k e with e|e
   ·exact .inr e
   ·omega
 ·rcases n k c with e|e
  ·exact d k e
  ·exact .inr (Nat.le_trans b.size e)
theorem QR.same{w:World}{E:Nat}{v:Value}{L:List UInt8}{r s:Nat}(h:QR w E v L r s):QPost E v w L r s w:=⟨Fr.refl _ _,v,h,fun k a=>.inl a⟩
theorem bvs_set(L:List UInt8)(i:Nat)(x:UInt8):(bvs L).set i (bv x)=bvs (L.set i x):=by unfold bvs;rw[List.map_set]
set_option maxRecDepth 100000 in
theorem adds_calls{w:World}{E:Nat}{v:Value}{n a r s x:Nat}(h:QR w E v (digs n a) r s)(hx:x≤4294967295)(hn:n≤1099511627780)(h1:1≤n):
 Calls Tryz.prog 148 #[ptr E,.int .u32 x] w fun e Y=>e=.returned (.tuple #[])∧Fr (fun k=>v.ownBlock=some k) w Y∧QR Y E v (digs n (a+x)) r s:=by
 have d:=h.own;rw[digs_len] at d;obtain⟨g,l,N,rfl,H,b,f⟩:=own_open d (by omega);have O:g≠E:=h.off g rfl;have HB:=Hd h.box;have c0:w.cell? ⟨E,0,none⟩=some (.slice (some ⟨g,0,none⟩) n l):=cell_in h.box rfl;have Z:=Hd (show w.ownsRow 0 5 1 (.slice (some ⟨g,0,none⟩) n l) n (bvs (addL n 0 a x)) by rw[addL_start];exact d);have HC:=Hd (addC_start a x);clear h H b f d;have ez:IntKind.u64.wrap (x:Int)=(x:Int):=by rw[IntKind.wrap_u64];omega
 go_enter Tryz.func148,Tryz.ntmps148;go_wp2_with fail;go_loopw [4,5] (fun c i wr=>∃(j m C:Nat)(z:Int),m+j=n∧z=(j:Int)-1∧i=.int .i64 z∧C=addC m a x∧c=.int .u64 C∧Fr (fun k=>(Value.slice (some ⟨g,0,none⟩) n l).ownBlock=some k) w wr∧wr.ownsRow 0 5 1 (.slice (some ⟨g,0,none⟩) n l) n (bvs (addL n m a x))) (fun _ i _=>(intOf i+1).toNat);case atStart=>exact⟨n,0,_,_,by omega,rfl,rfl,rfl,by rw[HC.out],Fr.refl _ _,Z.out⟩
 case round=>
  obtain⟨j,m,C,z,P,W,rfl,L,rfl,p,q⟩:=hrel;have o:=p.keep HB.out (fun e=>O (Option.some.inj e));have k0:wr.cell? ⟨E,0,none⟩=some (.slice (some ⟨g,0,none⟩) n l):=cell_in o rfl;have A:=Hd p;have M:=Hd o;have a0:C≤4294967296:=by rw[L];exact addC_le m a x hx
  have u:=Hd L;have HJ:=Hd P;cases j with
  |zero=>
    have HO:=Hd q;obtain rfl:z=-1:=by omega
    clear o p q L P W;go_wp2_with fail;go_end0;have hm:m=n:=by have:=HJ.out;omega
    subst hm;refine⟨rfl,A.out,M.out,?_⟩;have:=HO.out;rw[addL_end] at this;rw[digs_len];exact this
  |succ j=>
    obtain rfl:z=(j:Int):=by omega
    have t:n=m+j+1:=by omega
    obtain⟨g',G,N,I,H,b,f⟩:=own_open q (by omega);obtain⟨rfl,rfl⟩:g=g'∧l=G:=by simpa using I
    obtain⟨y,S⟩:∃y,y=UInt8.ofNat (a/256^m%256):=⟨_,rfl⟩;have K:y.toNat=a/256^m%256:=by rw[S,UInt8.toNat_ofNat'];omega
    have U:=b j (bv y) (by rw[S];exact bvs_at (addL_get t));have k6:wr.cell? ⟨g,j,none⟩=some (.int .u8 y.toNat):=cell_in H U;have kf:=frozen_in H j;have a1:=UInt8.toNat_lt y;have D:=Hd f;have F:=Hd K;have B:=Hd t;generalize y.toNat=yn at*;have X:(0:Int)≤(j:Int):=by omega
    have i1:(j:Int)<(n:Int):=by omega
    have d1:decide ((j:Int)≥0)=true:=decide_eq_true X;have d2:decide ((0:Int)≤(j:Int))=true:=decide_eq_true X;have e1:IntKind.u64.wrap (yn:Int)=(yn:Int):=by rw[IntKind.wrap_u64];omega
    have e2:IntKind.u64.wrap ((C:Int)+(yn:Int))=((C+yn:Nat):Int):=by rw[IntKind.wrap_u64];omega
    have e3:IntKind.u8.wrap (((C+yn:Nat):Int)%256)=(((C+yn)%256:Nat):Int):=by rw[IntKind.wrap_u8];omega
    have e4:IntKind.u64.wrap (((C+yn:Nat):Int)/256)=(((C+yn)/256:Nat):Int):=by rw[IntKind.wrap_u64];omega
    clear o p q L P W H b f I S K t U;generalize T:C+yn=Q at*;go_wp2_with fail;go_roundw;case rel=>
     have V:=addC_step m a x;rw[←u.out,←F.out,T] at V;refine⟨j,m+1,Q/256,(j:Int)-1,by have:=B.out;omega,rfl,by go_num,V.1.symm,by go_num,A.out.trans (fr_row _ _ _ _),?_⟩;have R:=D.out j (.int .u8 ((Q%256:Nat):Int));have J:=addL_set (n:=n) (m:=m) (a:=a) (v:=x) (j:=j) B.out;rw[←u.out,←F.out,T] at J;rw[←J,←bvs_set];have hb:bv (UInt8.ofNat (Q%256))=.int .u8 ((Q%256:Nat):Int):=by
      show Value.int .u8 ((UInt8.ofNat (Q%256)).toNat:Int)=_;rw[UInt8.toNat_ofNat'];congr 1
     rw[hb];exact R
    case measure=>simp[intOf]
end En
namespace En
open Mem Rc Win Lz
def QAt(w:World)(E:Nat)(v:Value)(k:K):Prop:=QR w E v k.bytes k.r k.s
def QP(E:Nat)(v:Value)(w:World)(k:K)(w':World):Prop:=QPost E v w k.bytes k.r k.s w'
theorem QR.set{w:World}{E:Nat}{v:Value}{L:List UInt8}{r s r2 s2:Nat}(h:QR w E v L r s)(i:Nat)(x:Value)(a:(#[v,.int .u32 r,.int .i64 s]:Array Value).setIfInBounds i x=#[v,.int .u32 r2,.int .i64 s2]):QR (w.setCell ⟨E,i,none⟩ x) E v L r2 s2∧Fr (EF E v) w (w.setCell ⟨E,i,none⟩ x):=
 ⟨⟨by rw[set_in h.box i,a],own_step h.own (Fr.one w E i x) (fun k hk e=>h.off k hk e)⟩,(Fr.one w E i x).mono (fun k _ e=>.inl e)⟩
theorem QR.app{w W d:World}{E:Nat}{v v2:Value}{L j:List UInt8}{r s:Nat}(h:QR w E v L r s)(f:Fr (fun _=>False) w W)(c:d.ownsRow 0 5 1 v2 (L++j).length (bvs (L++j)))(a:Fr (fun k=>v.ownBlock=some k) W d)
 (b:∀k,v2.ownBlock=some k→v.ownBlock=some k∨W.heap.size≤k):Fr (EF E v) w (d.setCell ⟨E,0,none⟩ v2)∧QR (d.setCell ⟨E,0,none⟩ v2) E v2 (L++j) r s∧∀k,v2.ownBlock=some k→v.ownBlock=some k∨w.heap.size≤k:=by
 have m:∀k,v2.ownBlock=some k→v.ownBlock=some k∨w.heap.size≤k:=fun k i=>(b k i).imp id (fun e=>Nat.le_trans f.size e);have g:=a.keep (f.keep h.box (fun h=>h)) (fun e=>h.off E e rfl);have l:=Fr.one d E 0 v2;refine⟨((f.mono (fun _ _ h=>h.elim)).trans (a.mono (fun k _ e=>.inr e))).trans (l.mono (fun k _ e=>.inl e)),⟨?_,own_step c l (fun k i e=> ?_)⟩,m⟩
 ·rw[set_in g 0]
  rfl
 ·have e:k=E:=e
  subst e;rcases m k i with e|e
  ·exact h.off k e rfl
  ·have:=lt_of_block h.box
   omega
theorem digs_more(n a:Nat):digs n a++[0]=digs (n+1) (a*256):=by
 rw[digs,Nat.mul_div_cancel _ (by decide),Nat.mul_mod_left];rfl
set_option maxRecDepth 100000 in
theorem widens_calls{w:World}{E:Nat}{v:Value}{k:K}(h:QAt w E v k)(U:65536≤k.r)(V:k.r<4294967296)(Z:k.s≤1099511627000):
 Calls Tryz.prog 149 #[ptr E] w fun e w'=>e=.returned (.tuple #[])∧QP E v w k.widen w':=by
 have F:w.cell? ⟨E,1,none⟩=some (.int .u32 k.r):=cell_in h.box rfl;by_cases q:16777216≤k.r
 ·have Y:decide ((k.r:Int)<16777216)=false:=decide_eq_false (by omega)
  have B:=Hd (show QP E v w k.widen w by unfold K.widen;rw[if_pos q];exact h.same);clear h U V q Z;generalize k.r=r at*;go_enter Tryz.func149,Tryz.ntmps149;go_wp2_with fail;go_loopw [] (fun wr=>wr=w) (fun _=>0);case atStart=>rfl
  case round=>
   obtain rfl:=hrel;go_wp2_with fail;go_end0;exact⟨rfl,B.out⟩
 ·have Y:decide ((k.r:Int)<16777216)=true:=decide_eq_true (by omega)
  have J:k.r<16777216:=by omega
  have N:=Hd (show k.widen=⟨k.a*256,k.s+1,k.r*256⟩ by unfold K.widen;rw[if_neg q]);have x:=Hd (digs_more (k.s+5) k.a);have a:k.bytes.length=k.s+5:=digs_len _ _;have n:=QR.set (r2:=k.r*256) (s2:=k.s) h 1 (.int .u32 ((k.r:Int)*256)) (by simp);have j:=Hd n.1;have l:=Hd n.2;obtain⟨p,m,hv⟩:=own_slice h.own;have S:=frozen_in h.box 1;subst hv;have u:=Hd (show k.bytes.length+([0]:List UInt8).length≤70368744177664 by rw[a];simp only[List.length_singleton];omega);generalize W:k.bytes=L at*;have HL:=Hd W;have M:=Hd (show decide (((k.r*256:Nat):Int)<16777216)=false from decide_eq_false (by omega));clear h n W U;obtain⟨r,G⟩:∃r,r=k.r:=⟨_,rfl⟩;obtain⟨s,H⟩:∃s,s=k.s:=⟨_,rfl⟩;rw[←G] at F Y J j l M V;rw[←H] at j Z a;have O:=Hd a;clear a;have P:=Hd G;have o:=Hd H;clear G H q;go_enter Tryz.func149,Tryz.ntmps149;go_wp2_with fail;go_loopg [] 2 (fun f wr=>f=2∧wr=w∨f=1∧QP E (.slice p L.length m) w k.widen wr);case atStart=>exact .inl ⟨rfl,rfl⟩
  case round=>
   rcases hrel with⟨rfl,rfl⟩|⟨rfl,I⟩
   ·go_upto_region 2 with fail
    generalize World.setCell wr _ _=w1 at*;have k0:w1.cell? ⟨E,0,none⟩=some (.slice p L.length m):=cell_in j.out.box rfl;have D:=Hd ((R0 w1).alloc (.cells #[.int .u8 0] 5));have C:=Hd (rd_one w1 w1.heap.size rfl 0 0 (by simp));have A:=Hd (own_step j.out.own D.out (fun _ _ h=>h));clear F S;go_wp2_with (at_builtin;refine append_own rfl _ _ rfl (.slice p L.length m) (.slice (some ⟨w1.heap.size,0,none⟩) 1 1) L [0] rfl rfl A.out C.out u.out ?_;intro p2 n2 R w2 d b c;obtain⟨T,Q,n3⟩:=j.out.app D.out d b c;have y:=Hd T;have t:=Hd Q;have z:=Hd n3;have g:=b.keep (D.out.keep j.out.box (fun h=>h)) (fun e=>j.out.off E e rfl);have z0:=cell_in (i:=0) g rfl;have z2:=cell_in (i:=2) g rfl;have zf:=fun i=>frozen_in g i;clear T Q n3 d b c g);go_roundg 1;case rel=>
     have n:=QR.set (r2:=r*256) (s2:=s+1) t.out 2 (.int .i64 ((s:Int)+1)) (by simp);refine .inr ⟨rfl,QPost.trans (l.out.trans y.out) (fun k hk=>(z.out k hk).imp id (fun e=>Nat.le_trans l.out.size e)) ?_⟩;rw[N.out];show QPost _ _ _ (digs (k.s+5+1) (k.a*256)) (k.r*256) (k.s+1) _;rw[←x.out,←P.out,←o.out];have e:L=digs (s+5) k.a:=by rw[o.out];exact HL.out.symm
     rw[←e];exact⟨n.2,_,n.1,fun k hk=>.inl hk⟩
    case measure=>omega
   ·have B:=Hd I
    have X:=I.2.choose_spec.1.box;have k1:wr.cell? ⟨E,1,none⟩=some (.int .u32 k.widen.r):=cell_in X rfl;have a0:decide ((k.widen.r:Int)<16777216)=false:=by rw[N.out,←P.out];exact M.out
    clear X I F S;generalize a1:k.widen.r=r2 at*;go_wp2_with fail;go_end0;exact⟨rfl,B.out⟩
end En
end Go.Proofs.YtffoddpjfgjelaaGreatDoor
