/- Part 40 of 54: lemmas of the last part, each under the conditions that it names. -/
import Derived.Test.YtlgccpjccopdmaaGreatDoorP39
set_option linter.unusedVariables false
set_option linter.unusedSimpArgs false
set_option maxRecDepth 1500
set_option maxHeartbeats 4000000
namespace Go.Proofs.YtlgccpjccopdmaaGreatDoor
open Go.RowKit
namespace Rf
open Mem Rc St Lz En Ga
theorem ord_f(n f:Nat)(h:f+1≤n):Tr.ord false n (n-(f+1))=f:=by unfold Tr.ord;simp;omega
theorem ord_t(n f:Nat):Tr.ord true n (n-(f+1))=n-(f+1):=by unfold Tr.ord;simp
theorem half_facts{y:Nat}(h:y≤1099511627776):(y:Int).tdiv 2=((y/2:Nat):Int)∧wrap64 ((y:Int)/2)=((y/2:Nat):Int)∧wrap64 ((y/2:Nat):Int)=((y/2:Nat):Int)∧(y:Int).tmod 2=((y%2:Nat):Int):=by
 have e:wrap64 ((y/2:Nat):Int)=((y/2:Nat):Int):=IntWalk.wrap64_in _ (by omega)
 exact⟨by rw[Int.tdiv_eq_ediv_of_nonneg (Int.natCast_nonneg _)];rfl,e,e,by rw[Int.tmod_eq_emod_of_nonneg (Int.natCast_nonneg _)];rfl⟩
theorem twice_lt{m b k:Nat}(h:m<2^(k+1))(hb:b≤1):2*m+b<2^(k+1+1):=by
 rw[Nat.pow_succ (n:=2) (m:=k+1)]
 generalize 2^(k+1)=q at*
 omega
set_option maxRecDepth 100000 in
theorem rtree_calls(a:Nm)(n x:Nat)(hn:n≤16)(hx:x≤1099511627776)(w:World):
 Calls Tryz.prog 183 #[bstr a.str,.int .i64 n,.int .i64 x] w fun e w'=>∃v,e=.returned v∧Fr (fun _=>False) w w'∧BL w w' v (treeNb false a n x n 1):=by
 go_enter Tryz.func183,Tryz.ntmps183
 go_wp2_with fail
 go_loopw [7,8,9] (fun lv mv i wr=>∃(f m:Nat)(z:Int)(l:List Nb)(p:Option Addr)(cap:Nat),f≤n∧z=(f:Int)-1∧i=.int .i64 z∧mv=.int .i64 m∧m<2^(n-f+1)∧lv=.slice p l.length cap∧l.length+f=n∧BL w wr (.slice p l.length cap) l∧l++treeNb false a n x f m=treeNb false a n x n 1∧Fr (fun _=>False) w wr) (fun _ _ i _=>(intOf i+1).toNat)
 case atStart=>exact⟨n,1,_,[],none,0,by omega,rfl,by go_num,rfl,by rw[Nat.sub_self];decide,rfl,by simp,BL.nil _ _,rfl,Fr.refl _ _⟩
 case round=>
  obtain⟨f,m,z,l,p,cap,hf,hz,rfl,rfl,hm,rfl,hl,hbl,he,hfr⟩:=hrel
  have HBL:=Hd hbl
  have HE:=Hd he
  have HF:=Hd hfr
  have HL:=Hd hl
  have hm2:m<131072:=Nat.lt_of_lt_of_le hm (Nat.le_trans (Nat.pow_le_pow_right (by decide) (show _≤17 by omega)) (by decide))
  clear hbl he hfr
  cases f with
  |zero=>
    obtain rfl:z=-1:=by omega
    clear hz hl hm hm2
    go_wp2_with fail
    go_ret
    refine⟨_,rfl,HF.out,?_⟩
    rw[←HE.out]
    simp only[treeNb,List.append_nil]
    exact HBL.out
  |succ f=>
    obtain rfl:z=(f:Int):=by omega
    have HT:=Hd (two_calls f (by omega) wr)
    have d1:decide ((f:Int)≥0)=true:=decide_eq_true (by omega)
    have d2:decide ((0:Int)≤(f:Int))=true:=decide_eq_true (by omega)
    have hq0:=Nat.two_pow_pos f
    obtain⟨y,hy⟩:∃y,y=x/2^f:=⟨_,rfl⟩
    obtain⟨b,hb⟩:∃b,b=y%2:=⟨_,rfl⟩
    have HST:=Hd (show treeNb false a n x (f+1) m=.bit a m b::treeNb false a n x f (2*m+b) by rw[treeNb,ord_f n f hf,←hy,←hb])
    have hyx:y≤x:=by rw[hy];exact Nat.div_le_self _ _
    have e1:wrap64 ((x:Int)/((2^f:Nat):Int))=(y:Int):=by
     rw[show(x:Int)/((2^f:Nat):Int)=((x/2^f:Nat):Int) from rfl,←hy]
     clear hy hb hq0 hm
     exact IntWalk.wrap64_in _ (by omega)
    have HY:=Hd hy
    clear hy hq0
    have e2:(y:Int).tmod 2=(b:Int):=by rw[(half_facts (Nat.le_trans hyx hx)).2.2.2,←hb]
    have hb1:b≤1:=by rw[hb];exact Nat.le_of_lt_succ (Nat.mod_lt _ (by decide))
    have hm3:2*m+b<2^(n-f+1):=by
     rw[show n-f+1=n-(f+1)+1+1 by omega]
     exact twice_lt hm hb1
    have HM3:=Hd hm3
    have HB:=Hd hb
    have hll:l.length≤16:=by omega
    clear hz hm hm3 hb hl
    have hq0:=Nat.two_pow_pos f
    generalize 2^f=q at*
    go_wp2_with fail
    refine HT.out.mono ?_
    rintro e w1 ⟨rfl,rfl⟩
    have HX:=Hd (heap_alloc_new wr (.cells #[bstr a.str,.int .i64 m,.int .i64 b] 156))
    have HAL:=Hd ((Fr.refl (fun _=>False) wr).alloc (.cells #[bstr a.str,.int .i64 m,.int .i64 b] 156))
    have HB1:=Hd (BL.made (w0:=w) (l:=[.bit a m b]) (n:=1) HX.out rfl HF.out.size (by simp))
    have HBK:=Hd (HBL.out.keep HAL.out)
    have hwz:=HF.out.size
    go_wp2_with (at_builtin;refine append_bits rfl _ _ rfl (w0:=w) (.slice p l.length cap) (.slice (some ⟨wr.heap.size,0,none⟩) 1 1) l [.bit a m b] rfl rfl HBK.out HB1.out (Nat.le_trans HF.out.size HAL.out.size) (by simp only[List.length_singleton];omega) ?_;intro p2 cap2 n2 w2 hn2 hb2 hf2;have HB2:=Hd hb2;have HF2:=Hd hf2;have HN2:=Hd hn2;clear hb2 hf2 hn2)
    go_roundw
    case rel=>
     exact⟨f,2*m+b,(f:Int)-1,l++[.bit a m b],p2,cap2,by omega,rfl,by go_num,by go_num,HM3.out,by rw[HN2.out],by rw[List.length_append,List.length_singleton];have:=HL.out;omega,by rw[←HN2.out];exact HB2.out,by rw[←HE.out,HST.out,List.append_assoc];rfl,(HF.out.trans HAL.out).trans' HF2.out (fun i h1 h2=>by have:=HBL.out.new i h2;omega)⟩
    case measure=>simp[intOf]
set_option maxRecDepth 100000 in
theorem rback_calls(a:Nm)(n x:Nat)(hn:n≤16)(hx:x≤1099511627776)(w:World):
 Calls Tryz.prog 187 #[bstr a.str,.int .i64 n,.int .i64 x] w fun e w'=>∃v,e=.returned v∧Fr (fun _=>False) w w'∧BL w w' v (treeNb true a n x n 1):=by
 go_enter Tryz.func187,Tryz.ntmps187
 go_wp2_with fail
 go_loopw [2,7,8,9] (fun xv lv mv i wr=>∃(k m y:Nat)(l:List Nb)(p:Option Addr)(cap:Nat),k≤n∧i=.int .i64 k∧mv=.int .i64 m∧m<2^(k+1)∧y=x/2^k∧xv=.int .i64 y∧lv=.slice p l.length cap∧l.length=k∧BL w wr (.slice p l.length cap) l∧l++treeNb true a n x (n-k) m=treeNb true a n x n 1∧Fr (fun _=>False) w wr) (fun _ _ _ i _=>n-(intOf i).toNat)
 case atStart=>exact⟨0,1,x,[],none,0,by omega,rfl,rfl,by decide,by simp,rfl,rfl,by simp,BL.nil _ _,rfl,Fr.refl _ _⟩
 case round=>
  obtain⟨k,m,y,l,p,cap,hk,rfl,rfl,hm,hy,rfl,rfl,hl,hbl,he,hfr⟩:=hrel
  have HBL:=Hd hbl
  have HF:=Hd hfr
  have HL:=Hd hl
  have hm2:m<131072:=Nat.lt_of_lt_of_le hm (Nat.le_trans (Nat.pow_le_pow_right (by decide) (show _≤17 by omega)) (by decide))
  have hyx:y≤x:=by rw[hy];exact Nat.div_le_self _ _
  clear hbl hfr
  by_cases hlt:k<n
  ·obtain⟨f,hf⟩:∃f,n-k=f+1:=⟨n-k-1,by omega⟩
   rw[hf] at he
   obtain⟨b,hb⟩:∃b,b=y%2:=⟨_,rfl⟩
   have hst:treeNb true a n x (f+1) m=.bit a m b::treeNb true a n x f (2*m+b):=by rw[treeNb,ord_t,show n-(f+1)=k by omega,←hy,←hb]
   rw[hst] at he
   have HY:=Hd (show y/2=x/2^(k+1) by rw[hy,Nat.div_div_eq_div_mul,←Nat.pow_succ])
   clear hst hy
   have HE:=Hd he
   obtain⟨e3,e4,e5,e2⟩:=half_facts (Nat.le_trans hyx hx)
   rw[←hb] at e2
   have hb1:b≤1:=by rw[hb];exact Nat.le_of_lt_succ (Nat.mod_lt _ (by decide))
   have HM3:=Hd (twice_lt hm hb1)
   have hll:l.length≤16:=by omega
   clear hm hb hl he
   have HX:=Hd (heap_alloc_new wr (.cells #[bstr a.str,.int .i64 m,.int .i64 b] 156))
   have HAL:=Hd ((Fr.refl (fun _=>False) wr).alloc (.cells #[bstr a.str,.int .i64 m,.int .i64 b] 156))
   have HB1:=Hd (BL.made (w0:=w) (l:=[.bit a m b]) (n:=1) HX.out rfl HF.out.size (by simp))
   have HBK:=Hd (HBL.out.keep HAL.out)
   go_wp2_with (at_builtin;refine append_bits rfl _ _ rfl (w0:=w) (.slice p l.length cap) (.slice (some ⟨wr.heap.size,0,none⟩) 1 1) l [.bit a m b] rfl rfl HBK.out HB1.out (Nat.le_trans HF.out.size HAL.out.size) (by simp only[List.length_singleton];omega) ?_;intro p2 cap2 n2 w2 hn2 hb2 hf2;have HB2:=Hd hb2;have HF2:=Hd hf2;have HN2:=Hd hn2;clear hb2 hf2 hn2)
   go_roundw
   case rel=>
    exact⟨k+1,2*m+b,y/2,l++[.bit a m b],p2,cap2,by omega,by go_num,by go_num,HM3.out,HY.out,by go_num,by rw[HN2.out],by rw[List.length_append,List.length_singleton];have:=HL.out;omega,by rw[←HN2.out];exact HB2.out,by rw[←HE.out,List.append_assoc,show n-(k+1)=f by omega];rfl,(HF.out.trans HAL.out).trans' HF2.out (fun i h1 h2=>by have:=HBL.out.new i h2;omega)⟩
   case measure=>simp[intOf];omega
  ·obtain rfl:k=n:=by omega
   rw[Nat.sub_self] at he
   have HE:=Hd he
   clear hm hl he hy
   go_wp2_with fail
   go_ret
   refine⟨_,rfl,HF.out,?_⟩
   rw[←HE.out]
   simp only[treeNb,List.append_nil]
   exact HBL.out
end Rf
namespace Rf
open Mem Rc Prob St Lz Win En Ga
theorem alloc2(w:World)(o o':Obj):((w.alloc o).alloc o').heap[w.heap.size+1]? =some o':=by
 have:=heap_alloc_new (w.alloc o) o'
 rwa [World.size_alloc] at this
theorem name2_calls(s:List UInt8)(n p B:Nat)(hs:s.length≤900)(hn:n<100)(hp:p<100)(w:World)(hB:w.heap[B]? =some (.cells #[.int .i64 n,.int .i64 p] 3 (0,0))):Calls Tryz.prog 127 #[bstr s,.slice (some ⟨B,0,none⟩) 2 2] w fun e w'=>e=.returned (bstr (num (num s n) p))∧w=w':=by
 have HI:=Hd (itoa_calls n hn w)
 have HJ:=Hd (itoa_calls p hp w)
 have hl3:=num_len s n
 have h1:(s++[32]).length≤1001:=by simp;omega
 have h2:(dig n).length≤2:=by unfold dig;split<;>simp
 have h3:(num s n++[32]).length≤1001:=by simp;omega
 have h4:(dig p).length≤2:=by unfold dig;split<;>simp
 have r1:=run_string_add_lists (P:=Tryz.prog) w s [32] (by omega) (by simp)
 have r2:=run_string_add_lists (P:=Tryz.prog) w (s++[32]) (dig n) (by omega) (by omega)
 have r3:=run_string_add_lists (P:=Tryz.prog) w (num s n) [32] (by omega) (by simp)
 have r4:=run_string_add_lists (P:=Tryz.prog) w (num s n++[32]) (dig p) (by omega) (by omega)
 have e:s++[32]++dig n=num s n:=by simp[num]
 have e2:num s n++[32]++dig p=num (num s n) p:=by rw[num.eq_1 (num s n)];simp
 have c0:w.cell? ⟨B,0,none⟩=some (.int .i64 n):=cell_in hB rfl
 have c1:w.cell? ⟨B,1,none⟩=some (.int .i64 p):=cell_in hB rfl
 rw[e] at r2
 rw[e2] at r4
 clear hB hl3
 go_enter Tryz.func127,Tryz.ntmps127
 go_wp2_with fail
 go_loopw [0,5] (fun v i wr=>(i=.int .i64 0∧v=bstr s∨i=.int .i64 1∧v=bstr (num s n)∨i=.int .i64 2∧v=bstr (num (num s n) p))∧wr=w) (fun _ i _=>2-(intOf i).toNat)
 case atStart=>exact⟨.inl ⟨rfl,rfl⟩,rfl⟩
 case round=>
  obtain⟨⟨rfl,rfl⟩|⟨rfl,rfl⟩|⟨rfl,rfl⟩,rfl⟩:=hrel
  ·go_wp2_with fail
   refine HI.out.mono ?_
   rintro e w' ⟨rfl,rfl⟩
   go_wp2_with fail
   go_roundw
   case rel=>exact⟨.inr (.inl ⟨rfl,rfl⟩),by first|rfl|trivial⟩
   case measure=>simp[intOf]
  ·go_wp2_with fail
   refine HJ.out.mono ?_
   rintro e w' ⟨rfl,rfl⟩
   go_wp2_with fail
   go_roundw
   case rel=>exact⟨.inr (.inr ⟨rfl,rfl⟩),by first|rfl|trivial⟩
   case measure=>simp[intOf]
  ·go_wp2_with fail
   go_ret
   exact⟨rfl,rfl⟩
set_option maxRecDepth 100000 in
theorem rep14_calls{l:RL}{c:C}{ps:Nat→List Nat}{w:World}(h:Cod w l c ps)(i:Nat)(hi:i≤3):
 Calls Tryz.prog 131 #[ptr l.K,.int .i64 i] w fun e w'=>∃v,e=.returned v∧Fr (fun _=>False) w w'∧BL w w' v (whichNb c i):=by
 have p4:=h.cells.p4
 have hn:c.s.num<12:=h.okc.s.num
 obtain⟨L,hL⟩:∃L,L=whichNb c i:=⟨_,rfl⟩
 rw[←hL]
 unfold whichNb at hL
 clear h
 generalize c.s.num=n at*
 have HNA:=fun(s:List UInt8)(hs:s.length≤1000)(B:Nat)(W:World)(hB:W.heap[B]? =some (.cells #[.int .i64 n] 3 (0,0)))=>Hd (name_calls s n B hs (by omega) W hB)
 have HN:=HNA sIsRep (by decide)
 have HN0:=HNA sIsRep0 (by decide)
 have HN1:=HNA sIsRep1 (by decide)
 have HN2:=HNA sIsRep2 (by decide)
 clear HNA
 have HL:=Hd hL
 clear hL hn
 obtain rfl|rfl|rfl|rfl:i=0∨i=1∨i=2∨i=3:=by omega
 ·have hL:L=[.bit (nIsRep n) 0 1]++[.bit (nIsRep0 n) 0 0]:=HL.out
  go_enter Tryz.func131,Tryz.ntmps131
  go_wp2_with fail
  refine(HN w.heap.size _ (heap_alloc_new w _)).out.mono ?_
  rintro e w' ⟨rfl,rfl⟩
  have HF1:=Hd ((Fr.refl (fun _=>False) w).alloc (.cells #[.int .i64 n] 3))
  clear p4
  generalize World.alloc w _=w1 at*
  go_wp2_with fail
  refine(HN0 (w1.heap.size+1) _ (alloc2 w1 _ _)).out.mono ?_
  rintro e w' ⟨rfl,rfl⟩
  have HBA:=Hd ((BL.made (w0:=w) (l:=[.bit (nIsRep n) 0 1]) (n:=1) (heap_alloc_new w1 (.cells #[bstr (num sIsRep n),.int .i64 0,.int .i64 1] 156)) rfl HF1.out.size (by simp)).keep ((Fr.refl (fun _=>False) _).alloc (.cells #[.int .i64 n] 3)))
  have HF2:=Hd ((HF1.out.alloc (.cells #[bstr (num sIsRep n),.int .i64 0,.int .i64 1] 156)).alloc (.cells #[.int .i64 n] 3))
  generalize World.alloc (World.alloc w1 _) _=w2 at*
  have HBB:=Hd (BL.made (w0:=w) (l:=[.bit (nIsRep0 n) 0 0]) (n:=1) (heap_alloc_new w2 (.cells #[bstr (num sIsRep0 n),.int .i64 0,.int .i64 0] 156)) rfl HF2.out.size (by simp))
  have HBA:=Hd (HBA.out.keep ((Fr.refl (fun _=>False) w2).alloc (.cells #[bstr (num sIsRep0 n),.int .i64 0,.int .i64 0] 156)))
  have HF2:=Hd (HF2.out.alloc (.cells #[bstr (num sIsRep0 n),.int .i64 0,.int .i64 0] 156))
  go_wp2_with (at_builtin;refine append_bits rfl _ _ rfl (w0:=w) (.slice (some ⟨w1.heap.size,0,none⟩) 1 1) (.slice (some ⟨w2.heap.size,0,none⟩) 1 1) [.bit (nIsRep n) 0 1] [.bit (nIsRep0 n) 0 0] rfl rfl HBA.out HBB.out HF2.out.size (by simp only[List.length_singleton,List.length_cons,List.length_nil];omega) ?_;intro p2 cap2 n2 w3 hn2 hb2 hf2;have HB2:=Hd hb2;have HF3:=Hd hf2;have HN2':=Hd hn2;clear hb2 hf2 hn2)
  go_ret
  exact⟨_,rfl,HF2.out.trans' HF3.out (fun i h1 h2=>by have:=HBA.out.new i h2;omega),by rw[hL];exact HB2.out⟩
 ·have hL:L=[.bit (nIsRep n) 0 1]++[.bit (nIsRep0 n) 0 1,.bit (nIsRep1 n) 0 0]:=HL.out
  go_enter Tryz.func131,Tryz.ntmps131
  go_wp2_with fail
  refine(HN w.heap.size _ (heap_alloc_new w _)).out.mono ?_
  rintro e w' ⟨rfl,rfl⟩
  have HF1:=Hd ((Fr.refl (fun _=>False) w).alloc (.cells #[.int .i64 n] 3))
  clear p4
  generalize World.alloc w _=w1 at*
  go_wp2_with fail
  refine(HN0 (w1.heap.size+1) _ (alloc2 w1 _ _)).out.mono ?_
  rintro e w' ⟨rfl,rfl⟩
  have HBA:=Hd ((BL.made (w0:=w) (l:=[.bit (nIsRep n) 0 1]) (n:=1) (heap_alloc_new w1 (.cells #[bstr (num sIsRep n),.int .i64 0,.int .i64 1] 156)) rfl HF1.out.size (by simp)).keep ((Fr.refl (fun _=>False) _).alloc (.cells #[.int .i64 n] 3)))
  have HF2:=Hd ((HF1.out.alloc (.cells #[bstr (num sIsRep n),.int .i64 0,.int .i64 1] 156)).alloc (.cells #[.int .i64 n] 3))
  generalize World.alloc (World.alloc w1 _) _=w2 at*
  go_wp2_with fail
  refine(HN1 w2.heap.size _ (heap_alloc_new w2 _)).out.mono ?_
  rintro e w' ⟨rfl,rfl⟩
  have HBA:=Hd (HBA.out.keep ((Fr.refl (fun _=>False) w2).alloc (.cells #[.int .i64 n] 3)))
  have HF2:=Hd (HF2.out.alloc (.cells #[.int .i64 n] 3))
  generalize World.alloc w2 _=w2 at*
  have HBB:=Hd (BL.made (w0:=w) (l:=[.bit (nIsRep0 n) 0 1,.bit (nIsRep1 n) 0 0]) (n:=2) (heap_alloc_new w2 (.cells #[bstr (num sIsRep0 n),.int .i64 0,.int .i64 1,bstr (num sIsRep1 n),.int .i64 0,.int .i64 0] 156)) rfl HF2.out.size (by simp))
  have HBA:=Hd (HBA.out.keep ((Fr.refl (fun _=>False) w2).alloc (.cells #[bstr (num sIsRep0 n),.int .i64 0,.int .i64 1,bstr (num sIsRep1 n),.int .i64 0,.int .i64 0] 156)))
  have HF2:=Hd (HF2.out.alloc (.cells #[bstr (num sIsRep0 n),.int .i64 0,.int .i64 1,bstr (num sIsRep1 n),.int .i64 0,.int .i64 0] 156))
  go_wp2_with (at_builtin;refine append_bits rfl _ _ rfl (w0:=w) (.slice (some ⟨w1.heap.size,0,none⟩) 1 1) (.slice (some ⟨w2.heap.size,0,none⟩) 2 2) [.bit (nIsRep n) 0 1] [.bit (nIsRep0 n) 0 1,.bit (nIsRep1 n) 0 0] rfl rfl HBA.out HBB.out HF2.out.size (by simp only[List.length_singleton,List.length_cons,List.length_nil];omega) ?_;intro p2 cap2 n2 w3 hn2 hb2 hf2;have HB2:=Hd hb2;have HF3:=Hd hf2;have HN2':=Hd hn2;clear hb2 hf2 hn2)
  go_ret
  exact⟨_,rfl,HF2.out.trans' HF3.out (fun i h1 h2=>by have:=HBA.out.new i h2;omega),by rw[hL];exact HB2.out⟩
 ·have hL:L=[.bit (nIsRep n) 0 1]++[.bit (nIsRep0 n) 0 1,.bit (nIsRep1 n) 0 1,.bit (nIsRep2 n) 0 0]:=HL.out
  go_enter Tryz.func131,Tryz.ntmps131
  go_wp2_with fail
  refine(HN w.heap.size _ (heap_alloc_new w _)).out.mono ?_
  rintro e w' ⟨rfl,rfl⟩
  have HF1:=Hd ((Fr.refl (fun _=>False) w).alloc (.cells #[.int .i64 n] 3))
  clear p4
  generalize World.alloc w _=w1 at*
  go_wp2_with fail
  refine(HN0 (w1.heap.size+1) _ (alloc2 w1 _ _)).out.mono ?_
  rintro e w' ⟨rfl,rfl⟩
  have HBA:=Hd ((BL.made (w0:=w) (l:=[.bit (nIsRep n) 0 1]) (n:=1) (heap_alloc_new w1 (.cells #[bstr (num sIsRep n),.int .i64 0,.int .i64 1] 156)) rfl HF1.out.size (by simp)).keep ((Fr.refl (fun _=>False) _).alloc (.cells #[.int .i64 n] 3)))
  have HF2:=Hd ((HF1.out.alloc (.cells #[bstr (num sIsRep n),.int .i64 0,.int .i64 1] 156)).alloc (.cells #[.int .i64 n] 3))
  generalize World.alloc (World.alloc w1 _) _=w2 at*
  go_wp2_with fail
  refine(HN1 w2.heap.size _ (heap_alloc_new w2 _)).out.mono ?_
  rintro e w' ⟨rfl,rfl⟩
  have HBA:=Hd (HBA.out.keep ((Fr.refl (fun _=>False) w2).alloc (.cells #[.int .i64 n] 3)))
  have HF2:=Hd (HF2.out.alloc (.cells #[.int .i64 n] 3))
  generalize World.alloc w2 _=w2 at*
  go_wp2_with fail
  refine(HN2 w2.heap.size _ (heap_alloc_new w2 _)).out.mono ?_
  rintro e w' ⟨rfl,rfl⟩
  have HBA:=Hd (HBA.out.keep ((Fr.refl (fun _=>False) w2).alloc (.cells #[.int .i64 n] 3)))
  have HF2:=Hd (HF2.out.alloc (.cells #[.int .i64 n] 3))
  generalize World.alloc w2 _=w2 at*
  have HBB:=Hd (BL.made (w0:=w) (l:=[.bit (nIsRep0 n) 0 1,.bit (nIsRep1 n) 0 1,.bit (nIsRep2 n) 0 0]) (n:=3) (heap_alloc_new w2 (.cells #[bstr (num sIsRep0 n),.int .i64 0,.int .i64 1,bstr (num sIsRep1 n),.int .i64 0,.int .i64 1,bstr (num sIsRep2 n),.int .i64 0,.int .i64 0] 156)) rfl HF2.out.size (by simp))
  have HBA:=Hd (HBA.out.keep ((Fr.refl (fun _=>False) w2).alloc (.cells #[bstr (num sIsRep0 n),.int .i64 0,.int .i64 1,bstr (num sIsRep1 n),.int .i64 0,.int .i64 1,bstr (num sIsRep2 n),.int .i64 0,.int .i64 0] 156)))
  have HF2:=Hd (HF2.out.alloc (.cells #[bstr (num sIsRep0 n),.int .i64 0,.int .i64 1,bstr (num sIsRep1 n),.int .i64 0,.int .i64 1,bstr (num sIsRep2 n),.int .i64 0,.int .i64 0] 156))
  go_wp2_with (at_builtin;refine append_bits rfl _ _ rfl (w0:=w) (.slice (some ⟨w1.heap.size,0,none⟩) 1 1) (.slice (some ⟨w2.heap.size,0,none⟩) 3 3) [.bit (nIsRep n) 0 1] [.bit (nIsRep0 n) 0 1,.bit (nIsRep1 n) 0 1,.bit (nIsRep2 n) 0 0] rfl rfl HBA.out HBB.out HF2.out.size (by simp only[List.length_singleton,List.length_cons,List.length_nil];omega) ?_;intro p2 cap2 n2 w3 hn2 hb2 hf2;have HB2:=Hd hb2;have HF3:=Hd hf2;have HN2':=Hd hn2;clear hb2 hf2 hn2)
  go_ret
  exact⟨_,rfl,HF2.out.trans' HF3.out (fun i h1 h2=>by have:=HBA.out.new i h2;omega),by rw[hL];exact HB2.out⟩
 ·have hL:L=[.bit (nIsRep n) 0 1]++[.bit (nIsRep0 n) 0 1,.bit (nIsRep1 n) 0 1,.bit (nIsRep2 n) 0 1]:=HL.out
  go_enter Tryz.func131,Tryz.ntmps131
  go_wp2_with fail
  refine(HN w.heap.size _ (heap_alloc_new w _)).out.mono ?_
  rintro e w' ⟨rfl,rfl⟩
  have HF1:=Hd ((Fr.refl (fun _=>False) w).alloc (.cells #[.int .i64 n] 3))
  clear p4
  generalize World.alloc w _=w1 at*
  go_wp2_with fail
  refine(HN0 (w1.heap.size+1) _ (alloc2 w1 _ _)).out.mono ?_
  rintro e w' ⟨rfl,rfl⟩
  have HBA:=Hd ((BL.made (w0:=w) (l:=[.bit (nIsRep n) 0 1]) (n:=1) (heap_alloc_new w1 (.cells #[bstr (num sIsRep n),.int .i64 0,.int .i64 1] 156)) rfl HF1.out.size (by simp)).keep ((Fr.refl (fun _=>False) _).alloc (.cells #[.int .i64 n] 3)))
  have HF2:=Hd ((HF1.out.alloc (.cells #[bstr (num sIsRep n),.int .i64 0,.int .i64 1] 156)).alloc (.cells #[.int .i64 n] 3))
  generalize World.alloc (World.alloc w1 _) _=w2 at*
  go_wp2_with fail
  refine(HN1 w2.heap.size _ (heap_alloc_new w2 _)).out.mono ?_
  rintro e w' ⟨rfl,rfl⟩
  have HBA:=Hd (HBA.out.keep ((Fr.refl (fun _=>False) w2).alloc (.cells #[.int .i64 n] 3)))
  have HF2:=Hd (HF2.out.alloc (.cells #[.int .i64 n] 3))
  generalize World.alloc w2 _=w2 at*
  go_wp2_with fail
  refine(HN2 w2.heap.size _ (heap_alloc_new w2 _)).out.mono ?_
  rintro e w' ⟨rfl,rfl⟩
  have HBA:=Hd (HBA.out.keep ((Fr.refl (fun _=>False) w2).alloc (.cells #[.int .i64 n] 3)))
  have HF2:=Hd (HF2.out.alloc (.cells #[.int .i64 n] 3))
  generalize World.alloc w2 _=w2 at*
  have HBB:=Hd (BL.made (w0:=w) (l:=[.bit (nIsRep0 n) 0 1,.bit (nIsRep1 n) 0 1,.bit (nIsRep2 n) 0 1]) (n:=3) (heap_alloc_new w2 (.cells #[bstr (num sIsRep0 n),.int .i64 0,.int .i64 1,bstr (num sIsRep1 n),.int .i64 0,.int .i64 1,bstr (num sIsRep2 n),.int .i64 0,.int .i64 1] 156)) rfl HF2.out.size (by simp))
  have HBA:=Hd (HBA.out.keep ((Fr.refl (fun _=>False) w2).alloc (.cells #[bstr (num sIsRep0 n),.int .i64 0,.int .i64 1,bstr (num sIsRep1 n),.int .i64 0,.int .i64 1,bstr (num sIsRep2 n),.int .i64 0,.int .i64 1] 156)))
  have HF2:=Hd (HF2.out.alloc (.cells #[bstr (num sIsRep0 n),.int .i64 0,.int .i64 1,bstr (num sIsRep1 n),.int .i64 0,.int .i64 1,bstr (num sIsRep2 n),.int .i64 0,.int .i64 1] 156))
  go_wp2_with (at_builtin;refine append_bits rfl _ _ rfl (w0:=w) (.slice (some ⟨w1.heap.size,0,none⟩) 1 1) (.slice (some ⟨w2.heap.size,0,none⟩) 3 3) [.bit (nIsRep n) 0 1] [.bit (nIsRep0 n) 0 1,.bit (nIsRep1 n) 0 1,.bit (nIsRep2 n) 0 1] rfl rfl HBA.out HBB.out HF2.out.size (by simp only[List.length_singleton,List.length_cons,List.length_nil];omega) ?_;intro p2 cap2 n2 w3 hn2 hb2 hf2;have HB2:=Hd hb2;have HF3:=Hd hf2;have HN2':=Hd hn2;clear hb2 hf2 hn2)
  go_ret
  exact⟨_,rfl,HF2.out.trans' HF3.out (fun i h1 h2=>by have:=HBA.out.new i h2;omega),by rw[hL];exact HB2.out⟩
end Rf
namespace Rf
open Mem Rc Prob St Lz Win En Ga
theorem coder_len14(q:Nat):(coder q).length≤5:=by unfold coder;split<;>decide
set_option maxRecDepth 100000 in
theorem length14_calls{l:RL}{c:C}{ps:Nat→List Nat}{w:World}(h:Cod w l c ps)(q:Nat)(hq:q=7∨q=11)(n:Nat)(hn1:2≤n)(hn2:n≤273):
 Calls Tryz.prog 129 #[ptr l.K,bstr (coder q),.int .i64 n] w fun e w'=>∃v,e=.returned v∧Fr (fun _=>False) w w'∧BL w w' v (lenNb c q n):=by
 have hcl:=coder_len14 q
 have hpl:=h.okc.place
 have HPL:=Hd (Rf.place_calls h)
 obtain⟨L,hL⟩:∃L,L=lenNb c q n:=⟨_,rfl⟩
 rw[←hL]
 unfold lenNb at hL
 clear h
 generalize c.place=pl at*
 have HL:=Hd hL
 clear hL
 have a1:=fun W=>run_string_add_lists (P:=Tryz.prog) W (coder q) sChoice (by omega) (by decide)
 have a2:=fun W=>run_string_add_lists (P:=Tryz.prog) W (coder q) sLow (by omega) (by decide)
 have a3:=fun W=>run_string_add_lists (P:=Tryz.prog) W (coder q) sChoice2 (by omega) (by decide)
 have a4:=fun W=>run_string_add_lists (P:=Tryz.prog) W (coder q) sMid (by omega) (by decide)
 have a5:=fun W=>run_string_add_lists (P:=Tryz.prog) W (coder q) sHigh (by omega) (by decide)
 have HNL:=fun(B:Nat)(W:World)(hB:W.heap[B]? =some (.cells #[.int .i64 pl] 3 (0,0)))=>Hd (name_calls (coder q++sLow) pl B (by rw[List.length_append];have:sLow.length=4:=rfl;omega) (by omega) W hB)
 have HNM:=fun(B:Nat)(W:World)(hB:W.heap[B]? =some (.cells #[.int .i64 pl] 3 (0,0)))=>Hd (name_calls (coder q++sMid) pl B (by rw[List.length_append];have:sMid.length=4:=rfl;omega) (by omega) W hB)
 have HTL:=fun(z:Int)(x:Nat)(hz:z=(x:Int))(hx:x≤1000)(W:World)=>Hd (show Calls Tryz.prog 183 #[bstr (num (coder q++sLow) pl),.int .i64 3,.int .i64 z] W (fun e w'=>∃v,e=.returned v∧Fr (fun _=>False) W w'∧BL W w' v (treeNb false (nLow q pl) 3 x 3 1)) from by rw[hz];exact rtree_calls (nLow q pl) 3 x (by decide) (by omega) W)
 have HTM:=fun(z:Int)(x:Nat)(hz:z=(x:Int))(hx:x≤1000)(W:World)=>Hd (show Calls Tryz.prog 183 #[bstr (num (coder q++sMid) pl),.int .i64 3,.int .i64 z] W (fun e w'=>∃v,e=.returned v∧Fr (fun _=>False) W w'∧BL W w' v (treeNb false (nMid q pl) 3 x 3 1)) from by rw[hz];exact rtree_calls (nMid q pl) 3 x (by decide) (by omega) W)
 have HTH:=fun(z:Int)(x:Nat)(hz:z=(x:Int))(hx:x≤1000)(W:World)=>Hd (show Calls Tryz.prog 183 #[bstr (coder q++sHigh),.int .i64 8,.int .i64 z] W (fun e w'=>∃v,e=.returned v∧Fr (fun _=>False) W w'∧BL W w' v (treeNb false (nHigh q) 8 x 8 1)) from by rw[hz];exact rtree_calls (nHigh q) 8 x (by decide) (by omega) W)
 have hsC:sChoice=[32,67,104,111,105,99,101]:=rfl
 have hsL:sLow=[32,76,111,119]:=rfl
 have hsC2:sChoice2=[32,67,104,111,105,99,101,50]:=rfl
 have hsM:sMid=[32,77,105,100]:=rfl
 have hsH:sHigh=[32,72,105,103,104]:=rfl
 rw[hsC] at a1
 rw[hsL] at a2 HNL HTL
 rw[hsC2] at a3
 rw[hsM] at a4 HNM HTM
 rw[hsH] at a5 HTH
 clear hsC hsL hsC2 hsM hsH hcl
 go_enter Tryz.func129,Tryz.ntmps129
 go_wp2_with fail
 refine HPL.out.mono ?_
 rintro e w1 ⟨rfl,m,rfl⟩
 have HF1:=Hd ((Fr.refl (fun _=>False) w).drewN m)
 clear HPL
 generalize w.drewN m=w1 at*
 by_cases k1:n<10
 ·have t1:decide ((n:Int)-2<8)=true:=decide_eq_true (by omega)
  have hL:L=[.bit (nChoice q) 0 0]++treeNb false (nLow q pl) 3 (n-2) 3 1:=by rw[HL.out,if_pos k1]
  have HLL:=Hd hL
  clear hL HL
  go_wp2_with fail
  refine(HNL (w1.heap.size+1) _ (alloc2 w1 _ _)).out.mono ?_
  rintro e w' ⟨rfl,rfl⟩
  have HBA:=Hd ((BL.made (w0:=w) (l:=[.bit (nChoice q) 0 0]) (n:=1) (heap_alloc_new w1 (.cells #[bstr (coder q++[32,67,104,111,105,99,101]),.int .i64 0,.int .i64 0] 156)) rfl HF1.out.size (by simp)).keep ((Fr.refl (fun _=>False) _).alloc (.cells #[.int .i64 pl] 3)))
  have HF2:=Hd ((HF1.out.alloc (.cells #[bstr (coder q++[32,67,104,111,105,99,101]),.int .i64 0,.int .i64 0] 156)).alloc (.cells #[.int .i64 pl] 3))
  generalize World.alloc (World.alloc w1 _) _=w2 at*
  go_wp2_with fail
  refine(HTL _ (n-2) (by omega) (by omega) _).out.mono ?_
  rintro e w3 ⟨v3,rfl,hf3,hb3⟩
  obtain⟨p3,cap3,rfl⟩:=hb3.slice
  have HB3:=Hd (BL.older hb3 HF2.out.size)
  have HBA:=Hd (HBA.out.keep hf3)
  have HF3:=Hd (HF2.out.trans hf3)
  have hl3:(treeNb false (nLow q pl) 3 (n-2) 3 1).length=3:=treeNb_len ..
  clear hf3 hb3
  rw[hl3] at HB3 ⊢
  go_wp2_with (at_builtin;refine append_bits rfl _ _ rfl (w0:=w) (.slice (some ⟨w1.heap.size,0,none⟩) 1 1) (.slice p3 3 cap3) [.bit (nChoice q) 0 0] (treeNb false (nLow q pl) 3 (n-2) 3 1) rfl rfl HBA.out HB3.out HF3.out.size (by rw[hl3];simp only[List.length_cons,List.length_nil];omega) ?_;intro p4 cap4 n4 w4 hn4 hb4 hf4;have HB4:=Hd hb4;have HF4:=Hd hf4;clear hb4 hf4 hn4)
  go_ret
  exact⟨_,rfl,HF3.out.trans' HF4.out (fun i h1 h2=>by have:=HBA.out.new i h2;omega),by rw[HLL.out];exact HB4.out⟩
 by_cases k2:n<18
 ·have t1:decide ((n:Int)-2<8)=false:=decide_eq_false (by omega)
  have t2:decide ((n:Int)-2<16)=true:=decide_eq_true (by omega)
  have hL:L=[.bit (nChoice q) 0 1,.bit (nChoice2 q) 0 0]++treeNb false (nMid q pl) 3 (n-10) 3 1:=by rw[HL.out,if_neg k1,if_pos k2];rfl
  have HLL:=Hd hL
  clear hL HL
  go_wp2_with fail
  refine(HNM (w1.heap.size+1) _ (alloc2 w1 _ _)).out.mono ?_
  rintro e w' ⟨rfl,rfl⟩
  have HBA:=Hd ((BL.made (w0:=w) (l:=[.bit (nChoice q) 0 1,.bit (nChoice2 q) 0 0]) (n:=2) (heap_alloc_new w1 (.cells #[bstr (coder q++[32,67,104,111,105,99,101]),.int .i64 0,.int .i64 1,bstr (coder q++[32,67,104,111,105,99,101,50]),.int .i64 0,.int .i64 0] 156)) rfl HF1.out.size (by simp)).keep ((Fr.refl (fun _=>False) _).alloc (.cells #[.int .i64 pl] 3)))
  have HF2:=Hd ((HF1.out.alloc (.cells #[bstr (coder q++[32,67,104,111,105,99,101]),.int .i64 0,.int .i64 1,bstr (coder q++[32,67,104,111,105,99,101,50]),.int .i64 0,.int .i64 0] 156)).alloc (.cells #[.int .i64 pl] 3))
  generalize World.alloc (World.alloc w1 _) _=w2 at*
  go_wp2_with fail
  refine(HTM _ (n-10) (by omega) (by omega) _).out.mono ?_
  rintro e w3 ⟨v3,rfl,hf3,hb3⟩
  obtain⟨p3,cap3,rfl⟩:=hb3.slice
  have HB3:=Hd (BL.older hb3 HF2.out.size)
  have HBA:=Hd (HBA.out.keep hf3)
  have HF3:=Hd (HF2.out.trans hf3)
  have hl3:(treeNb false (nMid q pl) 3 (n-10) 3 1).length=3:=treeNb_len ..
  clear hf3 hb3
  rw[hl3] at HB3 ⊢
  go_wp2_with (at_builtin;refine append_bits rfl _ _ rfl (w0:=w) (.slice (some ⟨w1.heap.size,0,none⟩) 2 2) (.slice p3 3 cap3) [.bit (nChoice q) 0 1,.bit (nChoice2 q) 0 0] (treeNb false (nMid q pl) 3 (n-10) 3 1) rfl rfl HBA.out HB3.out HF3.out.size (by rw[hl3];simp only[List.length_cons,List.length_nil];omega) ?_;intro p4 cap4 n4 w4 hn4 hb4 hf4;have HB4:=Hd hb4;have HF4:=Hd hf4;clear hb4 hf4 hn4)
  go_ret
  exact⟨_,rfl,HF3.out.trans' HF4.out (fun i h1 h2=>by have:=HBA.out.new i h2;omega),by rw[HLL.out];exact HB4.out⟩
 ·have t1:decide ((n:Int)-2<8)=false:=decide_eq_false (by omega)
  have t2:decide ((n:Int)-2<16)=false:=decide_eq_false (by omega)
  have hL:L=[.bit (nChoice q) 0 1,.bit (nChoice2 q) 0 1]++treeNb false (nHigh q) 8 (n-18) 8 1:=by rw[HL.out,if_neg k1,if_neg k2];rfl
  have HLL:=Hd hL
  clear hL HL
  go_wp2_with fail
  have HBA:=Hd (BL.made (w0:=w) (l:=[.bit (nChoice q) 0 1,.bit (nChoice2 q) 0 1]) (n:=2) (heap_alloc_new w1 (.cells #[bstr (coder q++[32,67,104,111,105,99,101]),.int .i64 0,.int .i64 1,bstr (coder q++[32,67,104,111,105,99,101,50]),.int .i64 0,.int .i64 1] 156)) rfl HF1.out.size (by simp))
  have HF2:=Hd (HF1.out.alloc (.cells #[bstr (coder q++[32,67,104,111,105,99,101]),.int .i64 0,.int .i64 1,bstr (coder q++[32,67,104,111,105,99,101,50]),.int .i64 0,.int .i64 1] 156))
  generalize World.alloc w1 _=w2 at*
  refine(HTH _ (n-18) (by omega) (by omega) _).out.mono ?_
  rintro e w3 ⟨v3,rfl,hf3,hb3⟩
  obtain⟨p3,cap3,rfl⟩:=hb3.slice
  have HB3:=Hd (BL.older hb3 HF2.out.size)
  have HBA:=Hd (HBA.out.keep hf3)
  have HF3:=Hd (HF2.out.trans hf3)
  have hl3:(treeNb false (nHigh q) 8 (n-18) 8 1).length=8:=treeNb_len ..
  clear hf3 hb3
  rw[hl3] at HB3 ⊢
  go_wp2_with (at_builtin;refine append_bits rfl _ _ rfl (w0:=w) (.slice (some ⟨w1.heap.size,0,none⟩) 2 2) (.slice p3 8 cap3) [.bit (nChoice q) 0 1,.bit (nChoice2 q) 0 1] (treeNb false (nHigh q) 8 (n-18) 8 1) rfl rfl HBA.out HB3.out HF3.out.size (by rw[hl3];simp only[List.length_cons,List.length_nil];omega) ?_;intro p4 cap4 n4 w4 hn4 hb4 hf4;have HB4:=Hd hb4;have HF4:=Hd hf4;clear hb4 hf4 hn4)
  go_ret
  exact⟨_,rfl,HF3.out.trans' HF4.out (fun i h1 h2=>by have:=HBA.out.new i h2;omega),by rw[HLL.out];exact HB4.out⟩
end Rf
end Go.Proofs.YtlgccpjccopdmaaGreatDoor
