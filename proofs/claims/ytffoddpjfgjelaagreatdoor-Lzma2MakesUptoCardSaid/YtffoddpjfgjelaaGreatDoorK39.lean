/- Part 39 of 54: lemmas of the last part, each under the conditions that it names. -/
import Derived.Test.YtffoddpjfgjelaaGreatDoorK38
set_option linter.unusedVariables false
set_option linter.unusedSimpArgs false
set_option maxRecDepth 1500
set_option maxHeartbeats 2000000
namespace Go.Proofs.YtffoddpjfgjelaaGreatDoor
open Go.RowKit
namespace Rf
open Mem Rc St Lz En Ga
theorem ord_f(n f:Nat)(h:f+1≤n):Tr.ord false n (n-(f+1))=f:=by unfold Tr.ord;simp;omega
theorem ord_t(n f:Nat):Tr.ord true n (n-(f+1))=n-(f+1):=by unfold Tr.ord;simp
theorem half_facts{y:Nat}(h:y≤1099511627776):(y:Int).tdiv 2=((y/2:Nat):Int)∧wrap64 ((y:Int)/2)=((y/2:Nat):Int)∧wrap64 ((y/2:Nat):Int)=((y/2:Nat):Int)∧(y:Int).tmod 2=((y%2:Nat):Int):=by
 have e:wrap64 ((y/2:Nat):Int)=((y/2:Nat):Int):=IntWalk.wrap64_in _ (by omega);exact⟨by rw[Int.tdiv_eq_ediv_of_nonneg (Int.natCast_nonneg _)];rfl,e,e,by rw[Int.tmod_eq_emod_of_nonneg (Int.natCast_nonneg _)];rfl⟩
theorem twice_lt{m b k:Nat}(h:m<2^(k+1))(a:b≤1):2*m+b<2^(k+1+1):=by
 rw[Nat.pow_succ (n:=2) (m:=k+1)];generalize 2^(k+1)=q at*;omega
set_option maxRecDepth 100000 in
theorem rtree_calls(a:Nm)(n x:Nat)(hn:n≤16)(hx:x≤1099511627776)(w:World):
 Calls Tryz.prog 210 #[bstr a.str,.int .i64 n,.int .i64 x] w fun e S=>∃v,e=.returned v∧Fr (fun _=>False) w S∧BL w S v (treeNb false a n x n 1):=by
 go_enter Tryz.func210,Tryz.ntmps210;go_wp2_with fail;go_loopw [7,8,9] (fun lv mv i wr=>∃(f m:Nat)(z:Int)(l:List Nb)(p:Option Addr)(c:Nat),f≤n∧z=(f:Int)-1∧i=.int .i64 z∧mv=.int .i64 m∧m<2^(n-f+1)∧lv=.slice p l.length c∧l.length+f=n∧BL w wr (.slice p l.length c) l∧l++treeNb false a n x f m=treeNb false a n x n 1∧Fr (fun _=>False) w wr) (fun _ _ i _=>(intOf i+1).toNat);case atStart=>exact⟨n,1,_,[],none,0,by omega,rfl,by go_num,rfl,by rw[Nat.sub_self];decide,rfl,by simp,BL.nil _ _,rfl,Fr.refl _ _⟩
 case round=>
  obtain⟨f,m,z,l,p,c,X,R,rfl,rfl,C,rfl,M,u,Q,B⟩:=hrel;have g:=Hd u;have P:=Hd Q;have o:=Hd B;have T:=Hd M;have N:m<131072:=Nat.lt_of_lt_of_le C (Nat.le_trans (Nat.pow_le_pow_right (by decide) (show _≤17 by omega)) (by decide));clear u Q B;cases f with
  |zero=>
    obtain rfl:z=-1:=by omega
    clear R M C N;go_wp2_with fail;go_ret;refine⟨_,rfl,o.out,?_⟩;rw[←P.out];simp only[treeNb,List.append_nil];exact g.out
  |succ f=>
    obtain rfl:z=(f:Int):=by omega
    have U:=Hd (two_calls f (by omega) wr);have d1:decide ((f:Int)≥0)=true:=decide_eq_true (by omega);have d2:decide ((0:Int)≤(f:Int))=true:=decide_eq_true (by omega);have h:=Nat.two_pow_pos f;obtain⟨y,k⟩:∃y,y=x/2^f:=⟨_,rfl⟩;obtain⟨b,j⟩:∃b,b=y%2:=⟨_,rfl⟩;have K:=Hd (show treeNb false a n x (f+1) m=.bit a m b::treeNb false a n x f (2*m+b) by rw[treeNb,ord_f n f X,←k,←j]);have O:y≤x:=by rw[k];exact Nat.div_le_self _ _
    have e1:wrap64 ((x:Int)/((2^f:Nat):Int))=(y:Int):=by
     rw[show(x:Int)/((2^f:Nat):Int)=((x/2^f:Nat):Int) from rfl,←k];clear k j h C;exact IntWalk.wrap64_in _ (by omega)
    have HY:=Hd k;clear k h;have e2:(y:Int).tmod 2=(b:Int):=by rw[(half_facts (Nat.le_trans O hx)).2.2.2,←j]
    have L:b≤1:=by rw[j];exact Nat.le_of_lt_succ (Nat.mod_lt _ (by decide))
    have D:2*m+b<2^(n-f+1):=by
     rw[show n-f+1=n-(f+1)+1+1 by omega];exact twice_lt C L
    have J:=Hd D;have HB:=Hd j;have Y:l.length≤16:=by omega
    clear R C D j M;have h:=Nat.two_pow_pos f;generalize 2^f=q at*;go_wp2_with fail;refine U.out.mono ?_;rintro e w1 ⟨rfl,rfl⟩;have V:=Hd (heap_alloc_new wr (.cells #[bstr a.str,.int .i64 m,.int .i64 b] 178));have d:=Hd ((R0 wr).alloc (.cells #[bstr a.str,.int .i64 m,.int .i64 b] 178));have F:=Hd (BL.made (w0:=w) (l:=[.bit a m b]) (n:=1) V.out rfl o.out.size (by simp));have H:=Hd (g.out.keep d.out);have Z:=o.out.size;go_wp2_with (at_builtin;refine append_bits rfl _ _ rfl (w0:=w) (.slice p l.length c) (.slice (some ⟨wr.heap.size,0,none⟩) 1 1) l [.bit a m b] rfl rfl H.out F.out (Nat.le_trans o.out.size d.out.size) (by simp only[List.length_singleton];omega) ?_;intro p2 s n2 w2 E t A;have G:=Hd t;have I:=Hd A;have r:=Hd E;clear t A E);go_roundw;case rel=>
     exact⟨f,2*m+b,(f:Int)-1,l++[.bit a m b],p2,s,by omega,rfl,by go_num,by go_num,J.out,by rw[r.out],by rw[List.length_append,List.length_singleton];have:=T.out;omega,by rw[←r.out];exact G.out,by rw[←P.out,K.out,List.append_assoc];rfl,(o.out.trans d.out).trans' I.out (fun i h1 W=>by have:=g.out.new i W;omega)⟩
    case measure=>simp[intOf]
set_option maxRecDepth 100000 in
theorem rback_calls(a:Nm)(n x:Nat)(hn:n≤16)(X:x≤1099511627776)(w:World):
 Calls Tryz.prog 214 #[bstr a.str,.int .i64 n,.int .i64 x] w fun e N=>∃v,e=.returned v∧Fr (fun _=>False) w N∧BL w N v (treeNb true a n x n 1):=by
 go_enter Tryz.func214,Tryz.ntmps214;go_wp2_with fail;go_loopw [2,7,8,9] (fun xv lv mv i wr=>∃(k m y:Nat)(l:List Nb)(p:Option Addr)(c:Nat),k≤n∧i=.int .i64 k∧mv=.int .i64 m∧m<2^(k+1)∧y=x/2^k∧xv=.int .i64 y∧lv=.slice p l.length c∧l.length=k∧BL w wr (.slice p l.length c) l∧l++treeNb true a n x (n-k) m=treeNb true a n x n 1∧Fr (fun _=>False) w wr) (fun _ _ _ i _=>n-(intOf i).toNat);case atStart=>exact⟨0,1,x,[],none,0,by omega,rfl,rfl,by decide,by simp,rfl,rfl,by simp,BL.nil _ _,rfl,Fr.refl _ _⟩
 case round=>
  obtain⟨k,m,y,l,p,c,hk,rfl,rfl,D,A,rfl,rfl,L,r,h,t⟩:=hrel;have g:=Hd r;have B:=Hd t;have O:=Hd L;have W:m<131072:=Nat.lt_of_lt_of_le D (Nat.le_trans (Nat.pow_le_pow_right (by decide) (show _≤17 by omega)) (by decide));have M:y≤x:=by rw[A];exact Nat.div_le_self _ _
  clear r t;by_cases V:k<n
  ·obtain⟨f,T⟩:∃f,n-k=f+1:=⟨n-k-1,by omega⟩
   rw[T] at h;obtain⟨b,C⟩:∃b,b=y%2:=⟨_,rfl⟩;have z:treeNb true a n x (f+1) m=.bit a m b::treeNb true a n x f (2*m+b):=by rw[treeNb,ord_t,show n-(f+1)=k by omega,←A,←C]
   rw[z] at h;have Q:=Hd (show y/2=x/2^(k+1) by rw[A,Nat.div_div_eq_div_mul,←Nat.pow_succ]);clear z A;have H:=Hd h;obtain⟨Z,e4,e5,R⟩:=half_facts (Nat.le_trans M X);rw[←C] at R;have K:b≤1:=by rw[C];exact Nat.le_of_lt_succ (Nat.mod_lt _ (by decide))
   have J:=Hd (twice_lt D K);have U:l.length≤16:=by omega
   clear D C L h;have P:=Hd (heap_alloc_new wr (.cells #[bstr a.str,.int .i64 m,.int .i64 b] 178));have d:=Hd ((R0 wr).alloc (.cells #[bstr a.str,.int .i64 m,.int .i64 b] 178));have E:=Hd (BL.made (w0:=w) (l:=[.bit a m b]) (n:=1) P.out rfl B.out.size (by simp));have G:=Hd (g.out.keep d.out);go_wp2_with (at_builtin;refine append_bits rfl _ _ rfl (w0:=w) (.slice p l.length c) (.slice (some ⟨wr.heap.size,0,none⟩) 1 1) l [.bit a m b] rfl rfl G.out E.out (Nat.le_trans B.out.size d.out.size) (by simp only[List.length_singleton];omega) ?_;intro Y o n2 w2 u q s;have F:=Hd q;have I:=Hd s;have j:=Hd u;clear q s u);go_roundw;case rel=>
    exact⟨k+1,2*m+b,y/2,l++[.bit a m b],Y,o,by omega,by go_num,by go_num,J.out,Q.out,by go_num,by rw[j.out],by rw[List.length_append,List.length_singleton];have:=O.out;omega,by rw[←j.out];exact F.out,by rw[←H.out,List.append_assoc,show n-(k+1)=f by omega];rfl,(B.out.trans d.out).trans' I.out (fun i h1 S=>by have:=g.out.new i S;omega)⟩
   case measure=>simp[intOf];omega
  ·obtain rfl:k=n:=by omega
   rw[Nat.sub_self] at h;have H:=Hd h;clear D L h A;go_wp2_with fail;go_ret;refine⟨_,rfl,B.out,?_⟩;rw[←H.out];simp only[treeNb,List.append_nil];exact g.out
end Rf
end Go.Proofs.YtffoddpjfgjelaaGreatDoor
