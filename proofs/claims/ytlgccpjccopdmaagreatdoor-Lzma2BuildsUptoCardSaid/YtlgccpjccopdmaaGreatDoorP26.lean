/- Part 26 of 54: lemmas of the last part, each under the conditions that it names. -/
import Derived.Laws.BytesArg
import Derived.Lib.SlBytesConst
import Derived.Deep.RegionHeld3
import Derived.Test.YtlgccpjccopdmaaGreatDoorP04
import Derived.Test.YtlgccpjccopdmaaGreatDoorP07
import Derived.Test.YtlgccpjccopdmaaGreatDoorP08
import Derived.Test.YtlgccpjccopdmaaGreatDoorP24
import Derived.Test.YtlgccpjccopdmaaGreatDoorP25
set_option linter.unusedVariables false
set_option linter.unusedSimpArgs false
set_option maxRecDepth 1500
set_option maxHeartbeats 4000000
namespace Go.Proofs.YtlgccpjccopdmaaGreatDoor
open Go.RowKit
namespace Ck
open Mem Win
def str(xs:List UInt8):ByteArray:=⟨xs.toArray⟩
theorem str_eq(xs:List UInt8):strOfNums (xs.map fun x=>(x.toNat:Int))=str xs:=by
 unfold strOfNums str
 congr 2
 rw[List.map_map]
 conv=>rhs;rw[←List.map_id xs]
 apply List.map_congr_left
 intro x _
 simp
theorem conv_str{w:World}{v:Value}{xs:List UInt8}(h:Rd w v xs):(convert 22 9 v).run Tryz.prog w=.ok (.string (str xs)) w:=by
 obtain⟨p,cap,rfl,h1,h2,h3⟩:=h
 by_cases h0:0<xs.length
 ·obtain⟨b,o,rfl,hc⟩:=h3 h0
  rw[run_convert_bytes_arg (P:=Tryz.prog) w 22 5 Tryz.underlying22 Tryz.underlying5 b o xs.length cap (xs.map fun x=>(x.toNat:Int)) (by simp) (fun i hi=>by
   rw[hc i xs[i] (by simp[hi])]
   simp[bv,hi]) 9 Tryz.underlying9,str_eq]
 ·have hx:xs=[]:=List.eq_nil_of_length_eq_zero (by omega)
  subst hx
  cases p with
  |none=>exact run_convert_bytes_nil (P:=Tryz.prog) w 22 5 Tryz.underlying22 Tryz.underlying5 0 cap 9 Tryz.underlying9
  |some a=>
    show(convert 22 9 (.slice (some a) 0 cap)).run Tryz.prog w=_
    rw[run_convert_bytes_string w 22 9 5 (some a) 0 cap Tryz.underlying22 Tryz.underlying5 Tryz.underlying9]
    rw[run_bytesToString w a 0 cap [] (by simp[loadCells,loadCellsFrom])]
    rfl
theorem fix1:unpackP [1,0,2,97,98,99,0,255] 4096 7 3=.ok (7,[97,98,99]):=by kernel_rfl
theorem fix2:unpackP [1,0,2,97] 4096 (-1) (-1)=.error (3,1):=by kernel_rfl
theorem raw_at{b:List UInt8}{packed size:Int}{s:Sr}(k:Nat)(h1:beyond packed (s.at'+1)=false)(h2:¬s.at'=b.length)(hk:kindOf (b.getD s.at' 0).toNat=some k)(hm:¬move s.now k=4)(he:k=0→ends packed size s.at' s.plain=true)(h5:(((b.drop s.at').take 6).getD 0 0).toNat≤2)
 (h6:(get ((b.drop s.at').take 6)).2.2=0)(h7:beyond packed (s.at'+(get ((b.drop s.at').take 6)).2.1+(get ((b.drop s.at').take 6)).1.packed)=false)(h8:beyond size (s.plain+(get ((b.drop s.at').take 6)).1.size)=false):Raw b packed size s:=
 ⟨h1,h2,by rw[hk];simp,fun k' e=>by obtain rfl:=Option.some.inj (hk.symm.trans e);exact⟨hm,he⟩,h5,h6,h7,h8⟩
theorem raw1:RawRun [1,0,2,97,98,99,0,255] 7 3 10 ⟨0,0,0⟩:=by
 refine .inr ⟨raw_at 1 (by kernel_rfl) (by decide) (by kernel_rfl) (by decide) (fun h=>by cases h) (by decide+kernel) (by kernel_rfl) (by kernel_rfl) (by kernel_rfl),fun h part fr s2 e=> ?_⟩
 rw[show nextP [1,0,2,97,98,99,0,255] 7 3 ⟨0,0,0⟩=.ok (⟨1,3,3,0,0,0⟩,[97,98,99],3,⟨6,3,1⟩) by kernel_rfl] at e
 simp only[Except.ok.injEq,Prod.mk.injEq] at e
 obtain⟨rfl,rfl,rfl,rfl⟩:=e
 refine⟨by decide,.inr ⟨raw_at 0 (by kernel_rfl) (by decide) (by kernel_rfl) (by decide) (fun _=>by kernel_rfl) (by decide+kernel) (by kernel_rfl) (by kernel_rfl) (by kernel_rfl),fun h part fr s2 e=> ?_⟩⟩
 rw[show nextP [1,0,2,97,98,99,0,255] 7 3 ⟨6,3,1⟩=.ok (⟨0,0,0,0,0,0⟩,[],7,⟨7,3,3⟩) by kernel_rfl] at e
 simp only[Except.ok.injEq,Prod.mk.injEq] at e
 obtain⟨rfl,rfl,rfl,rfl⟩:=e
 exact⟨by decide,.inl rfl⟩
theorem raw2:RawRun [1,0,2,97] (-1) (-1) 6 ⟨0,0,0⟩:=by
 refine .inr ⟨raw_at 1 (by kernel_rfl) (by decide) (by kernel_rfl) (by decide) (fun h=>by cases h) (by decide+kernel) (by kernel_rfl) (by kernel_rfl) (by kernel_rfl),fun h part fr s2 e=> ?_⟩
 rw[show nextP [1,0,2,97] (-1) (-1) ⟨0,0,0⟩=.error (3,1) by kernel_rfl] at e
 cases e
theorem row_rd(w:World)(xs:List UInt8)(B:Nat)(hB:B=w.heap.size)(cs:Array Value)(hcs:cs=(bvs xs).toArray)(fr:Nat×Nat)(hl:xs.length≤1000):Rd (w.alloc (.cells cs 5 fr)) (.slice (some ⟨B,0,none⟩) xs.length xs.length) xs:=by
 subst hB hcs
 refine⟨_,_,rfl,Nat.le_refl _,by simp only[maxLen];omega,fun _=>⟨_,0,rfl,fun i x hx=> ?_⟩⟩
 rw[cell_of_row _ _ _ _ _ _ (heap_alloc_new w _),Nat.zero_add,List.getElem?_toArray]
 exact bvs_at hx
set_option maxRecDepth 100000 in
theorem fixed_calls(w:World)(hT:St.Tabs w)(hM:Moves w):Calls Tryz.prog 11 #[] w fun e w'=>e=.returned (.bool true)∧Fr (fun _=>False) w w':=by
 have hfa:=(Fr.refl (fun _=>False) w).alloc (.cells #[.int .u8 97,.int .u8 98,.int .u8 99] 5 (3,4))
 have kc:=fun(w:World)(C:Array Value)(n c:Nat)=>Lib.run_convert_bytes_const (P:=Tryz.prog) w 22 5 C n c Tryz.underlying22 Tryz.underlying5
 have hrd:=row_rd w [97,98,99] w.heap.size rfl #[.int .u8 97,.int .u8 98,.int .u8 99] rfl (3,4) (by decide)
 have HE:=Hd (Enc.encode_calls hrd)
 have HA:=Hd hfa
 have HT:=Hd hT
 have HM:=Hd hM
 clear hT hM hfa hrd
 go_enter Tryz.func11,Tryz.ntmps11
 go_wp2_with fail
 refine HE.out.mono ?_
 rintro e w1 ⟨hfr1,p,cap,rfl,hM1⟩
 have hcv:(convert 22 9 (.slice p 7 cap)).run Tryz.prog w1=.ok (.string (str [1,0,2,97,98,99,0])) w1:=conv_str hM1.rd
 have hstr:((str [1,0,2,97,98,99,0]).toList !=[1,0,2,97,98,99,0])=false:=by decide+kernel
 have hstr2:((str [1,0,2,97,98,99,0]).toList==[1,0,2,97,98,99,0])=true:=by decide+kernel
 have HF1:=Hd (HA.out.trans hfr1)
 have HF0:=Hd hfr1
 have hfb:=(Fr.refl (fun _=>False) w1).alloc (.cells #[.int .u8 255] 5)
 have HB:=Hd hfb
 have HRD:=Hd (rd_one w1 w1.heap.size rfl 255 255 rfl)
 have HM1:=Hd (hM1.keep hfb)
 clear hfr1 hM1 hfb
 go_wp2_with (at_builtin;refine append_mine rfl _ _ rfl (w0:=w.alloc (.cells #[.int .u8 97,.int .u8 98,.int .u8 99] 5 (3,4))) (.slice p 7 cap) (.slice (some ⟨w1.heap.size,0,none⟩) 1 1) ([1,0,2]++Enc.abc++[0]) [255] rfl rfl HM1.out (Nat.le_trans HF0.out.size HB.out.size) HRD.out (by decide) ?_;intro p2 cap2 n2 w2 hn2 hM2 hfr2 hnew2;obtain rfl:n2=8:=hn2;have HM2:=Hd hM2;have HF2:=Hd hfr2;clear hM2 hfr2 hnew2)
 have HF3:=Hd ((HF1.out.trans HB.out).trans' HF2.out (fun k h1 h2=>by
  have h3:=HM1.out.new k h2
  have h4:=HA.out.size
  omega))
 refine(decode_raw [1,0,2,97,98,99,0,255] 4096 7 3 w2 (.slice p2 8 cap2) (HT.out.keep HF3.out) HM2.out.rd (HM.out.step HF3.out (fun _ h=>h.elim)) (by decide) raw1).mono ?_
 rintro e w3 hpost
 unfold DecodePost at hpost
 rw[fix1] at hpost
 obtain⟨hfr3,v3,rfl,hM3⟩:=hpost
 obtain⟨p3,cap3,rfl⟩:=hM3.slice
 have HF4:=Hd (HF3.out.trans hfr3)
 have HM3:=Hd hM3
 have hfc:=(Fr.refl (fun _=>False) w3).alloc (.cells #[.int .u8 1,.int .u8 0,.int .u8 2,.int .u8 97] 5)
 have HC:=Hd hfc
 have HRD4:=Hd (row_rd w3 [1,0,2,97] w3.heap.size rfl #[.int .u8 1,.int .u8 0,.int .u8 2,.int .u8 97] rfl (0,0) (by decide))
 clear hfr3 hM3 hfc
 go_wp2_with fail
 have HF5:=Hd (HF4.out.trans HC.out)
 refine(decode_raw [1,0,2,97] 4096 (-1) (-1) _ (.slice (some ⟨w3.heap.size,0,none⟩) 4 4) (HT.out.keep HF5.out) HRD4.out (HM.out.step HF5.out (fun _ h=>h.elim)) (by decide) raw2).mono ?_
 rintro e w5 hpost
 unfold DecodePost at hpost
 rw[fix2] at hpost
 obtain⟨hfr5,_,rfl⟩:=hpost
 have hcv3:(convert 22 9 (.slice p3 3 cap3)).run Tryz.prog w5=.ok (.string (str [97,98,99])) w5:=conv_str ((HM3.out.rd.keep HC.out).keep hfr5)
 have hstr3:((str [97,98,99]).toList !=[97,98,99])=false:=by decide+kernel
 have hstr4:((str [97,98,99]).toList==[97,98,99])=true:=by decide+kernel
 have HF6:=Hd (HF5.out.trans hfr5)
 clear hfr5
 go_wp2_with fail
 go_ret
 exact⟨rfl,HF6.out⟩
end Ck
namespace Rf
open Mem Rc St Lz
end Rf
namespace Rf
open Mem Rc St Lz
theorem range_zero:∀s:Fin 64,((range s).2=0↔s.val<4)∧(4≤s.val→s.val<14→restAt s.val+2^(range s.val).2≤128):=by decide+kernel
theorem lastB_lt(c:C)(d:Nat):c.lastB d<256:=by
 unfold C.lastB Win.last
 split
 ·exact UInt8.toNat_lt _
 ·simp
def C.lit(c:C):Nat:=c.all.length%2^c.lp*2^c.lc+c.lastB 1/2^(8-c.lc)
theorem lit_lt{c:C}(hc:c.Ok):C.lit c<2^(c.lc+c.lp):=by
 have hl:=hc.l
 unfold C.lit
 have h1:c.all.length%2^c.lp<2^c.lp:=Nat.mod_lt _ (Nat.two_pow_pos _)
 have h2:c.lastB 1/2^(8-c.lc)<2^c.lc:=by
  rw[Nat.div_lt_iff_lt_mul (Nat.two_pow_pos _),←Nat.pow_add,show c.lc+(8-c.lc)=8 by omega]
  exact lastB_lt c 1
 rw[Nat.pow_add,Nat.mul_comm (2^c.lc)]
 have h3:(c.all.length%2^c.lp+1)*2^c.lc≤2^c.lp*2^c.lc:=Nat.mul_le_mul_right _ h1
 rw[Nat.add_mul,Nat.one_mul] at h3
 omega
theorem context_eq(c:C):c.context=768*C.lit c:=rfl
theorem lit_16{c:C}(hc:c.Ok):C.lit c<16:=Nat.lt_of_lt_of_le (lit_lt hc) (Nat.pow_le_pow_right (n:=2) (by omega) hc.l)
end Rf
namespace Prob
open Mem
theorem bound_calls(p:Int)(w:World):
 Calls Tryz.prog 188 #[.int .i64 p] w fun e w'=>e=.returned (.int .i64 (taken p))∧w=w':=by
 go_enter Tryz.func188,Tryz.ntmps188
 go_wp2
 all_goals go_ret
 all_goals refine⟨ret_int ?_,rfl⟩
 all_goals(unfold taken;repeat' split)
 all_goals omega
theorem rnext_calls(p b:Int)(w:World):
 Calls Tryz.prog 189 #[.int .i64 p,.int .i64 b] w fun e w'=>e=.returned (.int .i64 (next p b))∧w=w':=by
 have h0:=taken_lo p
 have h1:=taken_hi p
 go_enter Tryz.func189,Tryz.ntmps189
 go_wp2_with ((with_reducible refine(bound_calls _ _).mono ?_);rintro e w' ⟨rfl,rfl⟩)
 all_goals go_ret
 all_goals refine⟨ret_int ?_,rfl⟩
 all_goals simp only[beq_iff_eq,beq_eq_false_iff_ne] at*
 all_goals(unfold next;first|rw[if_pos (by assumption)]|rw[if_neg (by assumption)])
theorem rboundR_calls(r p:Int)(w:World)(h0:0≤r)(h1:r≤4294967295):
 Calls Tryz.prog 136 #[.int .u32 r,.int .i64 p] w fun e w'=>e=.returned (.int .u32 (bnd r p))∧w=w':=by
 have h2:=taken_lo p
 have h3:=taken_hi p
 go_enter Tryz.func136,Tryz.ntmps136
 go_wp2_with ((with_reducible refine(bound_calls _ _).mono ?_);rintro e w' ⟨rfl,rfl⟩)
 all_goals go_ret
 all_goals refine⟨ret_int ?_,rfl⟩
 all_goals exact bnd_in r p h0 h1
theorem rat_in(b g n cap i:Nat)(N:Value)(p:Int)(w:World)(hb:w.cell? ⟨b,1,none⟩=some (.slice (some ⟨g,0,none⟩) n cap))
 (hg:w.cell? ⟨g,i,none⟩=some (.int .i64 p))(hi:i<n)(hn:n≤maxLen):
 Calls Tryz.prog 134 #[.pointer (some ⟨b,0,none⟩),.int .i64 i] w fun e w'=>e=.returned (.tuple #[.int .i64 p,.int .i64 0])∧w=w':=by
 unfold maxLen at hn
 have hd:decide ((i:Int)<0)=false:=by simp
 go_enter Tryz.func134,Tryz.ntmps134
 go_wp2
 go_ret2
 exact⟨rfl,rfl⟩
theorem rturn_in(b g n cap i:Nat)(N:Value)(cs:Array Value)(p bit:Int)(w:World)(hb:w.heap[b]? =some (.cells #[N,.slice (some ⟨g,0,none⟩) n cap] 217 (0,0)))
 (hg:w.heap[g]? =some (.cells cs 3 (0,0)))(hi:i<n)(hn:n≤maxLen)(hp:cs[i]? =some (.int .i64 p))(hbg:b≠g):
 Calls Tryz.prog 137 #[.pointer (some ⟨b,0,none⟩),.int .i64 i,.int .i64 bit] w fun e w'=>e=.returned (.int .i64 0)∧
  Fr (fun k=>k=g) w w'∧w'.heap[g]? =some (.cells (cs.setIfInBounds i (.int .i64 (next p bit))) 3 (0,0))∧w'.heap.size=w.heap.size:=by
 have hcb:=cell_in (i:=1) hb rfl
 have hcg:=cell_in hg hp
 have hf:=frozen_in hg i
 have Hb:=Hd hb
 have Hg:=Hd hg
 have Hp:=Hd hp
 clear hb hg hp
 unfold maxLen at hn
 have hd:decide ((i:Int)<0)=false:=by simp
 go_enter Tryz.func137,Tryz.ntmps137
 go_wp2_with fail
 go_region_with ((with_reducible refine(rnext_calls _ _ _).mono ?_);rintro e w' ⟨rfl,rfl⟩)
 all_goals go_wp2
 all_goals go_ret
 all_goals exact⟨rfl,(Fr.one _ _ _ _).drew,set_in Hg.out _ _,by simp⟩
theorem rreset_calls(b g n cap:Nat)(N:Value)(p:Option Addr)(cs:Array Value)(w:World)(hb:w.heap[b]? =some (.cells #[N,.slice p n cap] 217 (0,0)))
 (hp:0<n→p=some ⟨g,0,none⟩∧w.heap[g]? =some (.cells cs 3 (0,0))∧n≤cs.size)(hn:n≤maxLen)(hbg:b≠g):
 Calls Tryz.prog 190 #[.pointer (some ⟨b,0,none⟩)] w fun e w'=>e=.returned (.tuple #[])∧
  Fr (fun k=>k=g∧0<n) w w'∧(0<n→w'.heap[g]? =some (.cells ((List.replicate n (.int .i64 1024)).toArray++cs.extract n cs.size) 3 (0,0)))∧w'.heap.size=w.heap.size:=by
 have hcb:=cell_in (i:=1) hb rfl
 have Hb:=Hd hb
 have Hp:=Hd hp
 clear hb hp
 unfold maxLen at hn
 go_enter Tryz.func190,Tryz.ntmps190
 go_wp2
 go_loopw [2](fun i wr=>∃k:Nat,k≤n∧i=.int .i64 k∧Fr (fun k=>k=g∧0<n) w wr∧wr.heap.size=w.heap.size∧
  (0<n→wr.heap[g]? =some (.cells ((List.replicate k (.int .i64 1024)).toArray++cs.extract k cs.size) 3 (0,0)))) (fun i _=>n-(intOf i).toNat)
 case atStart=>exact⟨0,by omega,rfl,Fr.refl _ _,rfl,fun h=>by rw[(Hp.out h).2.1];simp⟩
 case round=>
  obtain⟨k,hk,rfl,hfr,hsz,hgr⟩:=hrel
  have hcb1:=cell_in (i:=1) (hfr.keep Hb.out (fun h=>hbg h.1)) rfl
  have Hgr:=Hd hgr
  clear hgr
  by_cases hlt:k<n
  ·obtain⟨rfl,hg0,hc⟩:=Hp.out (by omega)
   have hgr:=Hgr.out (by omega)
   have hf1:=frozen_in hgr k
   have hcg1:wr.cell? ⟨g,k,none⟩=cs[k]? :=by
    rw[cell_of_row _ _ _ _ _ _ hgr]
    exact rep_at cs k (by omega) _
   obtain⟨v,hv⟩:∃v,cs[k]? =some v:=⟨cs[k]'(by omega),by simp⟩
   rw[hv] at hcg1
   clear hv hg0 hgr
   go_wp2
   go_roundw
   case rel=>exact⟨k+1,by omega,by go_num,hfr.trans ((Fr.one _ _ _ _).mono (fun i hi(h:i=_)=>⟨h,by omega⟩)),by simpa using hsz,fun h=>by rw[set_in (Hgr.out h),rep_set cs k (by omega)]⟩
   case measure=>simp[intOf];omega
  ·obtain rfl:k=n:=by omega
   go_wp2
   go_end0
   exact⟨rfl,hfr,Hgr.out,hsz⟩
theorem rnew_in(n:Nat)(w:World)(hn:n≤1048576):
 Calls Tryz.prog 138 #[.int .i64 n] w fun e w'=>e=.returned (.tuple #[.pointer (some ⟨w.heap.size+1,0,none⟩),.int .i64 0])∧
  Fr (fun _=>False) w w'∧w'.heap[w.heap.size+1]? =some (.cells #[.int .i64 n,.slice (some ⟨w.heap.size,0,none⟩) n n] 217 (0,0))∧
  w'.heap[w.heap.size]? =some (.cells (List.replicate n (.int .i64 1024)).toArray 3 (0,0))∧w'.heap.size=w.heap.size+2:=by
 have hmk:=make_ints n (by omega)
 go_enter Tryz.func138,Tryz.ntmps138
 go_wp2_with fail
 refine(rreset_calls (w.heap.size+1) w.heap.size n n (.int .i64 n) _ (Array.replicate n (.int .i64 0)) _ (heap_alloc2_new w _ _) (fun _=>⟨rfl,heap_alloc2_old w _ _,by simp⟩) (by simp only[maxLen];omega) (by omega)).mono ?_
 rintro e w1 ⟨rfl,hfr,hg,hsz⟩
 have hfr0:Fr (fun _=>False) w w1:=(((Fr.refl (fun _=>False) w).alloc _).alloc _).trans' hfr (fun i hi h=>by omega)
 have hb:=hfr.keep (heap_alloc2_new w _ _) (by simp)
 have hg':w1.heap[w.heap.size]? =some (.cells (List.replicate n (.int .i64 1024)).toArray 3 (0,0)):=by
  by_cases h0:0<n
  ·rw[hg h0];simp
  ·obtain rfl:n=0:=by omega
   have:=hfr.keep (heap_alloc2_old w _ _) (by simp)
   rw[this];simp
 simp only[World.size_alloc] at hsz
 have HG:=Hd hg'
 have HB:=Hd hb
 have HS:=Hd hsz
 clear hg hb hfr hsz hg'
 go_wp2
 go_ret2
 exact⟨rfl,hfr0,HB.out,HG.out,HS.out⟩
structure RSet(w:World)(b g:Nat)(L:List Nat):Prop where
 box:w.heap[b]? =some (.cells #[.int .i64 L.length,.slice (some ⟨g,0,none⟩) L.length L.length] 217 (0,0))
 row:w.heap[g]? =some (.cells (L.map fun p:Nat=>Value.int .i64 (p:Int)).toArray 3 (0,0))
 ok:∀p ∈ L,p≤2047
 small:L.length≤1048576
theorem RSet.apart{w:World}{b g:Nat}{L:List Nat}(h:RSet w b g L):b≠g:=by
 rintro rfl
 have h1:=h.box
 rw[h.row] at h1
 simp only[Option.some.injEq,Obj.cells.injEq] at h1
 exact absurd h1.2.1 (by decide)
theorem RSet.step{S:Nat→Prop}{w w':World}{b g:Nat}{L:List Nat}(h:RSet w b g L)(hfr:Fr S w w')(hb:¬S b)(hg:¬S g):RSet w' b g L:=⟨hfr.keep h.box hb,hfr.keep h.row hg,h.ok,h.small⟩
theorem RSet.lt{w:World}{b g:Nat}{L:List Nat}(h:RSet w b g L):b<w.heap.size∧g<w.heap.size:=⟨lt_of_block h.box,lt_of_block h.row⟩
theorem rset_new(w:World):Calls Tryz.prog 138 #[.int .i64 768] w fun e w'=>e=.returned (.tuple #[.pointer (some ⟨w.heap.size+1,0,none⟩),.int .i64 0])∧Fr (fun _=>False) w w'∧RSet w' (w.heap.size+1) w.heap.size (List.replicate 768 1024):=by
 refine(rnew_in 768 w (by omega)).mono ?_
 rintro e w' ⟨rfl,hfr,h1,h2,_⟩
 refine⟨rfl,hfr,⟨by rw[List.length_replicate];exact h1,by rw[List.map_replicate];exact h2,fun p hp=> ?_,by rw[List.length_replicate];omega⟩⟩
 rw[List.mem_replicate] at hp
 omega
theorem rset_at(b g i p:Nat)(L:List Nat)(w:World)(h:RSet w b g L)(hp:L[i]? =some p):Calls Tryz.prog 134 #[.pointer (some ⟨b,0,none⟩),.int .i64 i] w fun e w'=>e=.returned (.tuple #[.int .i64 p,.int .i64 0])∧w=w':=by
 have hi:=(List.getElem?_eq_some_iff.1 hp).1
 refine rat_in b g L.length L.length i .nilIface p w (cell_in h.box rfl) (cell_in h.row ?_) hi (by have:=h.small;simp only[maxLen];omega)
 simp[hp]
theorem rset_turn(b g i p v:Nat)(L:List Nat)(w:World)(h:RSet w b g L)(hp:L[i]? =some p):Calls Tryz.prog 137 #[.pointer (some ⟨b,0,none⟩),.int .i64 i,.int .i64 v] w fun e w'=>e=.returned (.int .i64 0)∧Fr (fun k=>k=g) w w'∧RSet w' b g (L.set i (nextN p v)):=by
 have hi:=(List.getElem?_eq_some_iff.1 hp).1
 have hp2:=h.ok p (List.mem_of_getElem? hp)
 refine (rturn_in b g L.length L.length i (.int .i64 L.length) _ (p:Int) (v:Int) w h.box h.row hi (by have:=h.small;simp only [maxLen];omega) (by simp [hp]) h.apart).mono ?_
 rintro e w' ⟨rfl,hfr,h1,_⟩
 refine⟨rfl,hfr,⟨by rw[List.length_set];exact hfr.keep h.box h.apart,?_,fun q hq=> ?_,by rw[List.length_set];exact h.small⟩⟩
 ·rw[h1,next_nat p v hp2]
  congr 2
  apply Array.ext'
  simp
 ·rcases List.mem_or_eq_of_mem_set hq with h1|h1
  ·exact h.ok q h1
  ·exact h1 ▸ nextN_le p v hp2
theorem rbound_nat(r p:Nat)(w:World)(hr:r≤4294967295)(hp:p≤2047):Calls Tryz.prog 136 #[.int .u32 r,.int .i64 p] w fun e w'=>e=.returned (.int .u32 (Rc.cutAt r p))∧w=w':=by
 refine(rboundR_calls r p w (by omega) (by omega)).mono ?_
 rintro e w' ⟨rfl,rfl⟩
 refine⟨?_,rfl⟩
 apply ret_int
 unfold bnd Rc.cutAt
 have e:((r/2048:Nat):Int)=(r:Int)/2048:=by omega
 rw[taken_id _ (by omega) (by omega),Int.natCast_mul,e]
end Prob
namespace Rf
open Mem St
theorem rright_calls(s:S)(hs:s.Ok)(w:World):Calls Tryz.prog 120 #[.agg s.cells] w fun e w'=>e=.returned (.bool true)∧Fr (fun _=>False) w w':=by
 obtain⟨n,a,b,c,d⟩:=s
 obtain⟨h0,⟨h1,h1'⟩,⟨h2,h2'⟩,⟨h3,h3'⟩,⟨h4,h4'⟩⟩:=hs
 simp only at h0 h1 h1' h2 h2' h3 h3' h4 h4'
 unfold S.cells
 have HF:=Hd ((Fr.refl (fun _=>False) w).alloc (.cells #[.int .i64 n,.int .i64 a,.int .i64 b,.int .i64 c,.int .i64 d] 89))
 have hx:=heap_alloc_new w (.cells #[.int .i64 n,.int .i64 a,.int .i64 b,.int .i64 c,.int .i64 d] 89)
 obtain⟨c0,c1,c2,c3,c4⟩:=cs5 hx rfl rfl rfl rfl rfl
 clear hx
 have m1:decide ((a:Int)<1)=false:=by rw[decide_eq_false_iff_not];omega
 have m2:decide ((b:Int)<1)=false:=by rw[decide_eq_false_iff_not];omega
 have m3:decide ((c:Int)<1)=false:=by rw[decide_eq_false_iff_not];omega
 have m4:decide ((d:Int)<1)=false:=by rw[decide_eq_false_iff_not];omega
 have g1:decide ((4294967295:Int)<a)=false:=by rw[decide_eq_false_iff_not];omega
 have g2:decide ((4294967295:Int)<b)=false:=by rw[decide_eq_false_iff_not];omega
 have g3:decide ((4294967295:Int)<c)=false:=by rw[decide_eq_false_iff_not];omega
 have g4:decide ((4294967295:Int)<d)=false:=by rw[decide_eq_false_iff_not];omega
 have k1:decide ((a:Int)>4294967295)=false:=g1
 have k2:decide ((b:Int)>4294967295)=false:=g2
 have k3:decide ((c:Int)>4294967295)=false:=g3
 have k4:decide ((d:Int)>4294967295)=false:=g4
 have n1:decide ((n:Int)≤11)=true:=by rw[decide_eq_true_eq];omega
 have n2:decide ((n:Int)≥0)=true:=by rw[decide_eq_true_eq];omega
 have n3:decide ((0:Int)≤n)=true:=by rw[decide_eq_true_eq];omega
 go_enter Tryz.func120,Tryz.ntmps120
 go_wp2_with fail
 generalize hW:w.alloc (.cells #[.int .i64 n,.int .i64 a,.int .i64 b,.int .i64 c,.int .i64 d] 89)=W at*
 clear hW
 go_loopw [3] (fun i wr=>wr=W∧(i=.int .i64 0∨i=.int .i64 1∨i=.int .i64 2∨i=.int .i64 3∨i=.int .i64 4)) (fun i _=>4-(intOf i).toNat)
 case atStart=>exact⟨rfl,.inl rfl⟩
 case round=>
  obtain⟨rfl,rfl|rfl|rfl|rfl|rfl⟩:=hrel
  ·go_wp2_with fail
   go_roundw
   case rel=>exact⟨by first|rfl|trivial,.inr (.inl rfl)⟩
   case measure=>first|(simp[intOf];done)|decide
  ·go_wp2_with fail
   go_roundw
   case rel=>exact⟨by first|rfl|trivial,.inr (.inr (.inl rfl))⟩
   case measure=>first|(simp[intOf];done)|decide
  ·go_wp2_with fail
   go_roundw
   case rel=>exact⟨by first|rfl|trivial,.inr (.inr (.inr (.inl rfl)))⟩
   case measure=>first|(simp[intOf];done)|decide
  ·go_wp2_with fail
   go_roundw
   case rel=>exact⟨by first|rfl|trivial,.inr (.inr (.inr (.inr rfl)))⟩
   case measure=>first|(simp[intOf];done)|decide
  ·go_wp2_with fail
   go_ret
   exact⟨rfl,HF.out⟩
def fe(y:Sy):Nat:=if y.kind=1∨y.kind=4 then 0 else if y.kind=2 then(if isL y.len∧isD y.dist then 0 else 7) else if isL y.len then 0 else 7
theorem fe_next(s:S)(y:Sy)(hy:y.Ok):(s.next y).1=fe y:=by
 unfold S.next fe
 rcases hy.kind with h|h|h|h<;>simp only[h]<;>repeat' split
 all_goals first|rfl|simp_all
theorem rformed_calls(y:Sy)(hy:y.Ok)(w:World):Calls Tryz.prog 146 #[.agg y.cells] w fun e w'=>e=.returned (.int .i64 (fe y))∧Fr (fun _=>False) w w':=by
 obtain⟨kind,byte,len,dist⟩:=y
 have hk:=hy.kind
 have hd:=hy.dist
 simp only at hk hd
 unfold Sy.cells fe
 simp only
 have HF:=Hd ((Fr.refl (fun _=>False) w).alloc (.cells #[.int .i64 kind,.int .u8 byte,.int .i64 len,.int .i64 dist] 96))
 have hx:=heap_alloc_new w (.cells #[.int .i64 kind,.int .u8 byte,.int .i64 len,.int .i64 dist] 96)
 have c0:=cell_in (i:=0) hx rfl
 have c2:=cell_in (i:=2) hx rfl
 have c3:=cell_in (i:=3) hx rfl
 clear hx hy
 obtain⟨q1,hq1⟩:∃q,q=decide (2≤len):=⟨_,rfl⟩
 obtain⟨q2,hq2⟩:∃q,q=decide (len≤273):=⟨_,rfl⟩
 obtain⟨q3,hq3⟩:∃q,q=decide (dist<1):=⟨_,rfl⟩
 obtain⟨q4,hq4⟩:∃q,q=decide (4294967295<dist):=⟨_,rfl⟩
 have a1:decide ((len:Int)≥2)=q1:=by rw[hq1,Bool.eq_iff_iff];simp;omega
 have a2:decide ((2:Int)≤len)=q1:=by rw[hq1,Bool.eq_iff_iff];simp;omega
 have a3:decide ((len:Int)≤273)=q2:=by rw[hq2,Bool.eq_iff_iff];simp;omega
 have a4:decide ((dist:Int)<1)=q3:=by rw[hq3,Bool.eq_iff_iff];simp;omega
 have a5:decide ((dist:Int)>4294967295)=q4:=by rw[hq4,Bool.eq_iff_iff];simp;omega
 have a6:decide ((4294967295:Int)<dist)=q4:=by rw[hq4,Bool.eq_iff_iff];simp;omega
 have a7:decide ((dist:Int)<0)=false:=by rw[decide_eq_false_iff_not];omega
 have HL:Hid ((q1&&q2)=decide (isL len)):=Hd (by rw[hq1,hq2,Bool.eq_iff_iff];simp)
 have HDD:Hid ((!q3&& !q4)=decide (isD dist)):=Hd (by rw[hq3,hq4,Bool.eq_iff_iff];simp;omega)
 clear hq1 hq2 hq3 hq4
 have fin:∀(v:Nat)(e:Nat),v=e→(Ending.returned (.int .i64 (v:Int))=Ending.returned (.int .i64 (e:Int))):=fun v e h=>by rw[h]
 rcases hk with rfl|rfl|rfl|rfl
 ·clear hd
  go_enter Tryz.func146,Tryz.ntmps146
  cases q1<;>cases q2
  all_goals
   go_wp2_with fail
   go_ret
   exact⟨rfl,HF.out⟩
 ·clear hd
  have HL2:=Hd (show(if((2:Nat)=1∨(2:Nat)=4) then 0 else if(2:Nat)=2 then(if isL len∧isD dist then 0 else 7) else if isL len then 0 else 7)=(if isL len∧isD dist then 0 else 7) from by rw[if_neg (by decide),if_pos rfl])
  rw[HL2.out]
  cases q1<;>cases q2<;>cases q3<;>cases q4
  all_goals
   have h1:=HL.out
   have h2:=HDD.out
   simp only[Bool.and_true,Bool.and_false,Bool.not_true,Bool.not_false,Bool.true_and,Bool.false_and] at h1 h2
   have h3:(if isL len∧isD dist then 0 else 7)=(if(decide (isL len)&&decide (isD dist))=true then 0 else 7):=by simp
   rw[h3,←h1,←h2]
   have HF2:=HF
   clear h1 h2 h3 HL2 HL HDD
   go_enter Tryz.func146,Tryz.ntmps146
   go_wp2_with fail
   go_ret
   exact⟨rfl,HF2.out⟩
 ·have hd3:=hd rfl
  have a8:decide ((dist:Int)>3)=false:=by rw[decide_eq_false_iff_not];omega
  have a9:decide ((3:Int)<dist)=false:=by rw[decide_eq_false_iff_not];omega
  clear hd hd3
  have HL2:=Hd (show(if((3:Nat)=1∨(3:Nat)=4) then 0 else if(3:Nat)=2 then(if isL len∧isD dist then 0 else 7) else if isL len then 0 else 7)=(if isL len then 0 else 7) from by rw[if_neg (by decide),if_neg (by decide)])
  rw[HL2.out]
  cases q1<;>cases q2
  all_goals
   have h1:=HL.out
   simp only[Bool.and_true,Bool.and_false] at h1
   have h3:(if isL len then 0 else 7)=(if decide (isL len)=true then 0 else 7):=by simp
   rw[h3,←h1]
   have HF2:=HF
   clear h1 h3 HL2 HL HDD
   go_enter Tryz.func146,Tryz.ntmps146
   go_wp2_with fail
   go_ret
   exact⟨rfl,HF2.out⟩
 ·clear hd
  go_enter Tryz.func146,Tryz.ntmps146
  cases q1<;>cases q2
  all_goals
   go_wp2_with fail
   go_ret
   exact⟨rfl,HF.out⟩
def movedN(n k:Nat):Nat:=if k=1 then litL.getD n 0 else if k=2 then matchL.getD n 0 else if k=3 then repL.getD n 0 else shortL.getD n 0
theorem moved_calls(n k:Nat)(hn:n<12)(hk:k=1∨k=2∨k=3∨k=4)(w:World):Calls Tryz.prog 177 #[.int .i64 n,.int .i64 k] w fun e w'=>e=.returned (.int .i64 (movedN n k))∧w=w':=by
 obtain rfl|rfl|rfl|rfl|rfl|rfl|rfl|rfl|rfl|rfl|rfl|rfl:n=0∨n=1∨n=2∨n=3∨n=4∨n=5∨n=6∨n=7∨n=8∨n=9∨n=10∨n=11:=by omega
 all_goals rcases hk with rfl|rfl|rfl|rfl
 all_goals
  go_enter Tryz.func177,Tryz.ntmps177
  go_wp2_with fail
  go_ret
  exact⟨by kernel_rfl,rfl⟩
end Rf
end Go.Proofs.YtlgccpjccopdmaaGreatDoor
