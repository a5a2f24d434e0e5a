/- Part 5 of 48: lemmas of the last part, each under the conditions that it names. -/
import Derived.Deep.QuietTactic
import Derived.BigQuiet
import Derived.LoopN
import Derived.Test.YtffoddpjfgjelaaGreatDoorQ02
import Derived.Test.YtffoddpjfgjelaaGreatDoorQ03
import Derived.Test.YtffoddpjfgjelaaGreatDoorQ04
set_option linter.unusedVariables false
set_option linter.unusedSimpArgs false
set_option maxRecDepth 1500
set_option maxHeartbeats 2000000
namespace Go.Proofs.YtffoddpjfgjelaaGreatDoor
open Go.RowKit
namespace Wire
open Mem
theorem wpList_copy_any{P:Program}{ops:Array Oper}{rest:List Oper}{o:Oper}{a:Act}{w:World}{Q:Exit→Act→World→Prop}(hgd:o.guard=none)(d s:Operand)(dT sT elem:TypeId)
 (ho:o.op=.call {callee:=.builtin .copy,args:=#[d,s],argTypes:=#[dT,sT]})(hu:P.underlying dT=some (.slice elem))(hs:(P.info? elem).map (·.size)=some 1)
 (rp:Option Addr)(rl rc u:Nat)(ring:List UInt8)(T:TypeId)(hd:a.eval d=.slice (dropP rp rc u) (rl-u) (rc-u))(hown:w.ownsRow 0 T 1 (.slice rp rl rc) rl (bvs ring))(hu1:u<rl)
 (p:Option Addr)(n cap:Nat)(b:List UInt8)(hv:a.eval s=.slice p n cap)(hb:Rd w (.slice p n cap) b)(h0:0<n)(m:Nat)(hm:m=min n (rl-u))
 (h:∀w',w'.ownsRow 0 T 1 (.slice rp rl rc) rl (bvs (ring.take u++b.take m++ring.drop (u+m)))→Fr (fun k=>(Value.slice rp rl rc).ownBlock=some k) w w'→wpList P ops Q rest (a.put o.dst (.int .i64 (m:Int))) w'):
 wpList P ops Q (o::rest) a w:=by
 refine wpList_plain hgd fun K hK=> ?_
 obtain⟨w',hr,h2,h3⟩:=run_copy_any (P:=P) w dT sT o.type elem hu hs rp rl rc u ring T hown hu1 p n cap b hb h0 m hm
 unfold Oper.wp
 simp[execOp,ho,resolve,invoke,builtin,hd,hv,hr,Result.andThen]
 exact hK _ _ (h w' h2 h3)
theorem make_u8(n:Nat)(h:n≤281474976710656)(W:World):
 (Instr.makeSlice 22 (.int .i64 n) (.int .i64 n)).run Tryz.prog W=.ok (.slice (some ⟨W.heap.size,0,none⟩) n n) (W.alloc (.cells (Array.replicate n (.int .u8 0)) 5)):=by
 obtain⟨i,hi,hz,hs,hb⟩:=info_parts infoU8
 have:=run_make (P:=Tryz.prog) W 22 5 i (.int .u8 0) Tryz.underlying22 hi hz .i64 .i64 n n (by omega) (by omega) (by rw[hb];omega) (by omega)
 rw[this,hs,Int.toNat_natCast,Nat.mul_one]
 have e:madeCells (Value.int .u8 0).cells n=Array.replicate n (Value.int .u8 0):=by
  apply Array.ext
  ·simp[madeCells]
  ·intro k h1 h2
   simp[madeCells,Value.cells,Nat.mod_one]
 rw[e]
structure Rdr(w:World)(B n:Nat)(v:Value)(xs:List UInt8):Prop where
 box:w.heap[B]? =some (.cells #[.int .i64 n,v] 382 (0,0))
 rd:Rd w v xs
 le:n≤xs.length
 small:xs.length≤1099511627776
theorem Rdr.slice{w:World}{B n:Nat}{v:Value}{xs:List UInt8}(h:Rdr w B n v xs):∃p cap,v=.slice p xs.length cap∧xs.length≤cap∧cap≤maxLen:=by
 obtain⟨p,cap,rfl,h1,h2,_⟩:=h.rd
 exact⟨p,cap,rfl,h1,h2⟩
theorem rdrV_nb(a:Int)(p:Option Addr)(n c:Nat)(i:Nat)(m:Int):(#[.int .i64 a,.slice p n c]:Array Value)[i]? ≠some (Value.int .u8 m):=by
 intro h
 have:=Array.mem_of_getElem? h
 simp at this
theorem rd_off0{w:World}{v:Value}{xs:List UInt8}(h:Rd w v xs)(h0:0<xs.length){g:Nat}{cs:Array Value}{T:TypeId}{fr:Nat×Nat}(hg:w.heap[g]? =some (.cells cs T fr))(hcs:∀(i:Nat)(n:Int),cs[i]? ≠some (Value.int .u8 n)):∀k,v.ownBlock=some k→k≠g:=by
 obtain⟨p,cap,rfl,_,_,h3⟩:=h
 obtain⟨b,o,rfl,hc⟩:=h3 h0
 intro k hk
 simp only[Value.ownBlock,Option.some.injEq] at hk
 subst hk
 rintro rfl
 have h1:=hc 0 xs[0] (by simp[h0])
 rw[cell_of_row w _ _ _ _ _ hg] at h1
 exact hcs _ _ h1
theorem Rdr.on{w w':World}{B n k:Nat}{v:Value}{xs:List UInt8}(h:Rdr w B n v xs)(hk:n+k≤xs.length)(hfr:Fr (fun k=>k=B) w w')(hb:w'.heap[B]? =some (.cells #[.int .i64 ((n+k:Nat):Int),v] 382 (0,0))):Rdr w' B (n+k) v xs:=by
 refine⟨hb,?_,hk,h.small⟩
 by_cases h0:0<xs.length
 ·obtain⟨p,cap,rfl,_⟩:=h.slice
  exact h.rd.step hfr (rd_off0 h.rd h0 h.box (rdrV_nb _ _ _ _))
 ·obtain⟨p,cap,rfl,h1,h2,h3⟩:=h.rd
  exact⟨p,cap,rfl,h1,h2,fun h=>absurd h h0⟩
theorem Rdr.keep{S:Nat→Prop}{w w':World}{B n:Nat}{v:Value}{xs:List UInt8}(h:Rdr w B n v xs)(hfr:Fr S w w')(hB:¬S B)(hv:∀k,v.ownBlock=some k→¬S k):Rdr w' B n v xs:=⟨hfr.keep h.box hB,h.rd.step hfr hv,h.le,h.small⟩
theorem left_calls(B n:Nat)(v:Value)(xs:List UInt8)(w:World)(h:Rdr w B n v xs):
 Calls Tryz.prog 255 #[.pointer (some ⟨B,0,none⟩)] w fun e w'=>e=.returned (.int .i64 ((xs.length-n:Nat):Int))∧∃m,w'=w.drewN m:=by
 obtain⟨p,cap,rfl,_⟩:=h.slice
 have c0:w.cell? ⟨B,0,none⟩=some (.int .i64 n):=cell_in h.box rfl
 have c1:w.cell? ⟨B,1,none⟩=some (.slice p xs.length cap):=cell_in h.box rfl
 have hle:=h.le
 have hsm:=h.small
 have hw:IntKind.i64.wrap ((xs.length:Int)-n)=(xs.length:Int)-n:=IntWalk.i64_in _ (by omega)
 clear h
 go_enter Tryz.func255,Tryz.ntmps255
 go_wp2_with fail
 go_quiet (fail)
 go_wp2_with fail
 go_ret
 exact⟨ret_int (by omega),_,rfl⟩
theorem wide_calls(w:World):Calls Tryz.prog 176 #[.int .i64 2] w fun e w'=>e=.returned (.bool true)∧w=w':=by
 go_enter Tryz.func176,Tryz.ntmps176
 go_wp2_with fail
 go_ret
 exact⟨rfl,rfl⟩
theorem number_calls(B n:Nat)(v:Value)(xs:List UInt8)(w:World)(h:Rdr w B n v xs):
 Calls Tryz.prog 257 #[.pointer (some ⟨B,0,none⟩),.int .i64 2] w fun e w'=>e=.returned (.int .i64 (if xs.length-n<2 then 1 else 0))∧∃m,w'=w.drewN m:=by
 have HL:=Hd (left_calls B n v xs w h)
 clear h
 by_cases h2:xs.length-n<2
 all_goals
  go_enter Tryz.func257,Tryz.ntmps257
  go_wp2_with fail
  refine(wide_calls _).mono ?_
  rintro e w1 ⟨rfl,rfl⟩
  go_wp2_with fail
  refine HL.out.mono ?_
  rintro e w1 ⟨rfl,m,rfl⟩
  go_wp2_with fail
  go_ret
  exact⟨rfl,_,rfl⟩
theorem on_calls(B n k:Nat)(v:Value)(w:World)(h:w.heap[B]? =some (.cells #[.int .i64 n,v] 382 (0,0)))(hk:n+k≤9223372036854775807):
 Calls Tryz.prog 175 #[.pointer (some ⟨B,0,none⟩),.int .i64 k] w fun e w'=>e=.returned (.tuple #[])∧Fr (fun k=>k=B) w w'∧w'.heap[B]? =some (.cells #[.int .i64 ((n+k:Nat):Int),v] 382 (0,0)):=by
 have c0:w.cell? ⟨B,0,none⟩=some (.int .i64 n):=cell_in h rfl
 have f0:=frozen_in h 0
 have hw:IntKind.i64.wrap ((n:Int)+k)=((n+k:Nat):Int):=by rw[IntWalk.i64_in _ (by omega)];omega
 have H:=Hd h
 clear h
 generalize n+k=nk at*
 go_enter Tryz.func175,Tryz.ntmps175
 go_wp2_with fail
 go_end0
 exact⟨rfl,Fr.one _ _ _ _,by rw[set_in H.out 0];rfl⟩
theorem next_calls(B n k:Nat)(v:Value)(xs:List UInt8)(w:World)(h:Rdr w B n v xs)(hk:n+k≤xs.length):
 Calls Tryz.prog 256 #[.pointer (some ⟨B,0,none⟩),.int .i64 k] w fun e w'=>Fr (fun k=>k=B) w w'∧Rdr w' B (n+k) v xs∧∃q c,e=.returned (.slice q k c)∧Rd w' (.slice q k c) ((xs.drop n).take k):=by
 obtain⟨p,cap,rfl,hc1,hc2⟩:=h.slice
 have c0:w.cell? ⟨B,0,none⟩=some (.int .i64 n):=cell_in h.box rfl
 have c1:w.cell? ⟨B,1,none⟩=some (.slice p xs.length cap):=cell_in h.box rfl
 have hsm:=h.small
 have hw:IntKind.i64.wrap ((n:Int)+k)=(n:Int)+k:=IntWalk.i64_in _ (by omega)
 have hsl:=slice_lhI p xs.length cap n (n+k) n ((n:Int)+k) rfl (by omega) (by omega) (by omega)
 have hmid:=rd_mid (a:=n) (b:=n+k) h.rd (by omega) hk
 rw[show n+k-n=k by omega] at hsl hmid
 have H:=Hd h
 have HON:=Hd (fun m=>on_calls B n k (.slice p xs.length cap) (w.drewN m) (((R0 w).drewN m).keep h.box (fun h=>h)) (by omega))
 have HDR:=Hd (fun m=>(Fr.refl (fun k=>k=B) w).drewN m)
 have HMID:=Hd hmid
 clear h hmid
 generalize dropP p cap n=q at*
 generalize cap-n=c at*
 go_enter Tryz.func256,Tryz.ntmps256
 go_wp2_with fail
 go_quiet (fail)
 have HO:=Hd (HON.out nq)
 have hdr:=Hd (HDR.out nq)
 clear HON HDR
 generalize w.drewN nq=W at*
 go_wp2_with fail
 refine HO.out.mono ?_
 rintro e w2 ⟨rfl,hfr,hb⟩
 have HF:=Hd (hdr.out.trans hfr)
 have HB:=Hd hb
 clear hfr hb
 go_wp2_with fail
 go_ret
 refine⟨HF.out,H.out.on hk HF.out HB.out,q,c,rfl,?_⟩
 by_cases h0:0<((xs.drop n).take k).length
 ·exact HMID.out.step HF.out (rd_off0 HMID.out h0 H.out.box (rdrV_nb _ _ _ _))
 ·obtain⟨p2,cap2,e2,h1,h2,h3⟩:=HMID.out
  exact⟨p2,cap2,e2,h1,h2,fun h=>absurd h h0⟩
end Wire
namespace Wire
open Mem
theorem off_calls(B n:Nat)(v:Value)(xs:List UInt8)(w:World)(h:Rdr w B n v xs):
 Calls Tryz.prog 226 #[.pointer (some ⟨B,0,none⟩)] w fun e w'=>e=.returned (.int .i64 n)∧w=w':=by
 have c0:w.cell? ⟨B,0,none⟩=some (.int .i64 n):=cell_in h.box rfl
 clear h
 go_enter Tryz.func226,Tryz.ntmps226
 go_wp2_with fail
 go_ret
 exact⟨rfl,rfl⟩
theorem u8_calls(B n:Nat)(v:Value)(xs:List UInt8)(x:UInt8)(w:World)(h:Rdr w B n v xs)(hx:xs[n]? =some x):
 Calls Tryz.prog 224 #[.pointer (some ⟨B,0,none⟩)] w fun e w'=>e=.returned (.tuple #[.int .i64 x.toNat,.int .i64 0])∧Fr (fun k=>k=B) w w'∧Rdr w' B (n+1) v xs:=by
 have hn:=(List.getElem?_eq_some_iff.1 hx).1
 have HL:=Hd (left_calls B n v xs w h)
 have HN:=Hd (fun m=>next_calls B n 1 v xs (w.drewN m) ⟨((R0 w).drewN m).keep h.box (fun h=>h),h.rd.keep ((R0 w).drewN m),h.le,h.small⟩ (by omega))
 have HDR:=Hd (fun m=>(Fr.refl (fun k=>k=B) w).drewN m)
 have hxl:=UInt8.toNat_lt x
 have hel:((xs.drop n).take 1)[0]? =some x:=by
  rw[List.getElem?_take,if_pos (by omega),List.getElem?_drop]
  exact hx
 have HEL:=Hd hel
 obtain⟨a,ha⟩:∃a,a=xs.length-n:=⟨_,rfl⟩
 rw[←ha] at HL
 have ha1:1≤a:=by omega
 clear h hx hel ha hn
 go_enter Tryz.func224,Tryz.ntmps224
 go_wp2_with fail
 refine HL.out.mono ?_
 rintro e w1 ⟨rfl,m,rfl⟩
 go_wp2_with fail
 refine(HN.out m).mono ?_
 rintro e w2 ⟨hfr,hR,q,c,rfl,hrd⟩
 obtain⟨b',o',hq,hc⟩:=Win.byte_at hrd HEL.out
 have HF:=Hd ((HDR.out m).trans hfr)
 have HR:=Hd hR
 clear hfr hR hrd
 subst hq
 rw[Nat.add_zero] at hc
 have hw:IntKind.i64.wrap (x.toNat:Int)=(x.toNat:Int):=IntWalk.i64_in _ (by omega)
 go_wp2_with fail
 go_ret2
 exact⟨rfl,HF.out,HR.out⟩
theorem u8_none(B n:Nat)(v:Value)(xs:List UInt8)(w:World)(h:Rdr w B n v xs)(hx:xs.length≤n):
 Calls Tryz.prog 224 #[.pointer (some ⟨B,0,none⟩)] w fun e w'=>e=.returned (.tuple #[.int .i64 0,.int .i64 1])∧Fr (fun _=>False) w w':=by
 have HL:=Hd (left_calls B n v xs w h)
 have e0:xs.length-n=0:=by omega
 rw[e0] at HL
 clear h hx e0
 go_enter Tryz.func224,Tryz.ntmps224
 go_wp2_with fail
 refine HL.out.mono ?_
 rintro e w1 ⟨rfl,m,rfl⟩
 go_wp2_with fail
 go_ret2
 exact⟨rfl,(Fr.refl _ _).drewN _⟩
def beV(xs:List UInt8):Nat→Nat
 |0=>0
 |k+1=>beV xs k*256+(xs.getD k 0).toNat
theorem beV_lt(xs:List UInt8):∀k,beV xs k<256^k
 |0=>by simp[beV]
 |k+1=>by
   have h1:=beV_lt xs k
   have h2:=UInt8.toNat_lt (xs.getD k 0)
   rw[beV,Nat.pow_succ]
   omega
theorem or_byte64 (a c:Nat) (ha:a<72057594037927936) (hc:c<256):bits BinOp.or IntKind.u64 ((a:Int)*256) (c:Int)=((a*256+c:Nat):Int):=by
 rw[show((a:Int)*256)=((a*256:Nat):Int) by omega,bits_or_u64_nat _ _ (by omega) (by omega)]
 congr 1
 rw[Nat.mul_comm,show(256:Nat)=2^8 by rfl,Nat.two_pow_add_eq_or_of_lt (by simpa using hc)]
theorem high_none(B n:Nat)(v:Value)(xs:List UInt8)(w:World)(h:Rdr w B n v xs)(hx:xs.length-n<2):
 Calls Tryz.prog 225 #[.pointer (some ⟨B,0,none⟩),.int .i64 2] w fun e w'=>e=.returned (.tuple #[.int .u64 0,.int .i64 1])∧Fr (fun _=>False) w w':=by
 have HL:=Hd (number_calls B n v xs w h)
 rw[if_pos hx] at HL
 clear h hx
 go_enter Tryz.func225,Tryz.ntmps225
 go_wp2_with fail
 refine HL.out.mono ?_
 rintro e w1 ⟨rfl,m,rfl⟩
 go_wp2_with fail
 go_ret2
 exact⟨rfl,(Fr.refl _ _).drewN _⟩
theorem high_calls(B n:Nat)(v:Value)(xs:List UInt8)(w:World)(h:Rdr w B n v xs)(hx:n+2≤xs.length):
 Calls Tryz.prog 225 #[.pointer (some ⟨B,0,none⟩),.int .i64 2] w fun e w'=>e=.returned (.tuple #[.int .u64 (beV (xs.drop n) 2),.int .i64 0])∧Fr (fun k=>k=B) w w'∧Rdr w' B (n+2) v xs:=by
 have HL:=Hd (number_calls B n v xs w h)
 rw[if_neg (by omega)] at HL
 have HN:=Hd (fun m=>next_calls B n 2 v xs (w.drewN m) ⟨((R0 w).drewN m).keep h.box (fun h=>h),h.rd.keep ((R0 w).drewN m),h.le,h.small⟩ (by omega))
 have HDR:=Hd (fun m=>(Fr.refl (fun k=>k=B) w).drewN m)
 have HEL:=Hd (show∀k,k<2→((xs.drop n).take 2)[k]? =some ((xs.drop n).getD k 0) from fun k hk=>by
  rw[List.getElem?_take,if_pos hk,List.getD_eq_getElem?_getD,List.getElem?_eq_getElem (by rw[List.length_drop];omega)]
  rfl)
 clear h hx
 generalize xs.drop n=ys at*
 go_enter Tryz.func225,Tryz.ntmps225
 go_wp2_with fail
 refine HL.out.mono ?_
 rintro e w1 ⟨rfl,m,rfl⟩
 go_wp2_with fail
 refine(HN.out m).mono ?_
 rintro e w2 ⟨hfr,hR,q,c,rfl,hrd⟩
 have HF:=Hd ((HDR.out m).trans hfr)
 have HR:=Hd hR
 have HRD:=Hd hrd
 clear hfr hR hrd
 go_wp2_with fail
 go_loop [7,20](fun a i=>∃k:Nat,k≤2∧i=.int .i64 k∧a=.int .u64 (beV ys k)) (fun _ i=>2-(intOf i).toNat)
 case atStart=>exact⟨0,by omega,rfl,rfl⟩
 case round=>
  obtain⟨k,hk,rfl,rfl⟩:=hrel
  by_cases hlt:k<2
  ·obtain⟨b',o',hq,hc⟩:=Win.byte_at HRD.out (HEL.out k hlt)
   have hbe:=beV_lt ys k
   have hpk:256^k≤256:=Nat.le_trans (Nat.pow_le_pow_right (by omega) (show k≤1 by omega)) (by decide)
   have hcb:=UInt8.toNat_lt (ys.getD k 0)
   have HO:=Hd (or_byte64 (beV ys k) (ys.getD k 0).toNat (by omega) hcb)
   have HBE:=Hd (show beV ys (k+1)=beV ys k*256+(ys.getD k 0).toNat from rfl)
   have hb1:beV ys k<256:=by omega
   subst hq
   clear hbe hpk
   generalize beV ys k=a at*
   generalize(ys.getD k 0).toNat=z at*
   go_wp2_with fail
   go_round
   case rel=>exact⟨k+1,by omega,by go_num,by rw[HO.out,HBE.out]⟩
   case measure=>simp[intOf];omega
  ·obtain rfl:k=2:=by omega
   go_wp2_with fail
   go_ret2
   exact⟨rfl,HF.out,HR.out⟩
theorem dropP_zero(b o c:Nat):dropP (some ⟨b,o,none⟩) c 0=some ⟨b,o,none⟩:=by
 unfold dropP
 split
 ·rfl
 ·rw[Option.map_some,add_mid]
  rfl
theorem sizeU8:(Tryz.prog.info? 5).map (·.size)=some 1:=by kernel_rfl
theorem newReader_calls(v:Value)(xs:List UInt8)(w:World)(hr:Rd w v xs)(h0:0<xs.length)(hl:xs.length≤1099511627776):
    Calls Tryz.prog 223 #[v] w fun e w'=>Fr (fun _=>False) w w'∧∃B v2,e=.returned (.pointer (some ⟨B,0,none⟩))∧Rdr w' B 0 v2 xs∧w.heap.size≤B∧∀k,v2.ownBlock=some k→w.heap.size≤k:=by
  obtain⟨p,cap,rfl,hc1,hc2,h3⟩:=hr
  have hr:Rd w (.slice p xs.length cap) xs:=⟨p,cap,rfl,hc1,hc2,h3⟩
  have hf1:=(R0 w).alloc (.cells (Array.replicate xs.length (.int .u8 0)) 5)
  have hx:=heap_alloc_new w (.cells (Array.replicate xs.length (.int .u8 0)) 5)
  have hmk:=make_u8 xs.length (by omega)
  have hown:(w.alloc (.cells (Array.replicate xs.length (.int .u8 0)) 5)).ownsRow 0 5 1 (.slice (some ⟨w.heap.size,0,none⟩) xs.length xs.length) xs.length (bvs (List.replicate xs.length 0)):=by
    refine own_row (g:=w.heap.size) ?_ (by simp[bvs]) (by simp only[maxLen];omega)
    rw[hx]
    simp[bvs,bv]
  have HO:=Hd hown
  have HR:=Hd (hr.keep hf1)
  have HF:=Hd hf1
  have hu:=Tryz.underlying22
  clear hr hf1 hx hown h3
  go_enter Tryz.func223,Tryz.ntmps223
  have tok1:True:=trivial
  go_wp2_with (refine wpList_copy_any rfl (.tmp 7) (.tmp 8) 22 22 5 rfl hu sizeU8 (some ⟨w.heap.size,0,none⟩) xs.length xs.length 0 (List.replicate xs.length 0) 5 (by rw[dropP_zero];rfl) HO.out h0 p xs.length cap xs rfl HR.out h0 xs.length (by omega) ?_
               intro w2 hown2 hfr2
               have HO2:=Hd hown2
               have HF2:=Hd hfr2
               clear hown2 hfr2)
  go_ret
  have hx2:=heap_alloc_new w2 (.cells #[.int .i64 0,.slice (some ⟨w.heap.size,0,none⟩) xs.length xs.length] 382)
  have hf2:=(R0 w2).alloc (.cells #[.int .i64 0,.slice (some ⟨w.heap.size,0,none⟩) xs.length xs.length] 382)
  have h1:=HO2.out
  simp only[List.take_zero,List.nil_append,Nat.zero_add] at h1
  rw[List.drop_of_length_le (by simp),List.append_nil,List.take_length] at h1
  refine⟨(HF.out.trans' HF2.out (fun i hi h=> ?_)).trans hf2,w2.heap.size,_,rfl,⟨hx2,(Rd.of_own h1).keep hf2,by omega,hl⟩,Nat.le_trans HF.out.size HF2.out.size,fun k hk=>by simp only[Value.ownBlock,Option.some.injEq] at hk;omega⟩
  simp only[Value.ownBlock,Option.some.injEq] at h
  omega
end Wire
namespace Ck
open Mem
structure Head where
 kind:Nat
 size:Nat
 packed:Nat
 lc:Nat
 lp:Nat
 pb:Nat
def Head.cells(h:Head):Array Value:=#[.int .i64 h.kind,.int .i64 h.size,.int .i64 h.packed,.int .i64 h.lc,.int .i64 h.lp,.int .i64 h.pb]
def Head.none:Head:=⟨0,0,0,0,0,0⟩
def movesL:List Nat:=[3,1,4,4,4,4,2,3,1,1,4,4,2,2,3,1,2,2,2,2,2,4,4,4,4,4,4,4]
def Moves(w:World):Prop:=∃T fr,w.heap[5]? =some (.cells (St.rowOf movesL) T fr)
theorem Moves.step{S:Nat→Prop}{w w':World}(h:Moves w)(hfr:Fr S w w')(hS:∀k,S k→6≤k):Moves w':=by
 obtain⟨t1,f1,h1⟩:=h
 exact⟨t1,f1,hfr.keep h1 (fun h=>absurd (hS _ h) (by decide))⟩
def move(now kind:Nat):Nat:=movesL.getD (7*now+kind) 0
theorem move_le:∀a:Fin 4,∀k:Fin 7,move a k≤4:=by decide
theorem Moves.at{w:World}(h:Moves w){now kind:Nat}(h1:now<4)(h2:kind<7):w.cell? ⟨5,7*now+kind,none⟩=some (.int .i64 (move now kind)):=by
 have h3:7*now+kind<movesL.length:=by simp[movesL];omega
 exact St.tab_at h h3
def OrdAt(w:World)(B now:Nat):Prop:=w.heap[B]? =some (.cells #[.int .i64 now] 276 (0,0))
theorem newOrder_calls(w:World):Calls Tryz.prog 98 #[] w fun e w'=>e=.returned (.pointer (some ⟨w.heap.size,0,none⟩))∧Fr (fun _=>False) w w'∧OrdAt w' w.heap.size 0:=by
 go_enter Tryz.func98,Tryz.ntmps98
 go_wp2_with fail
 go_ret
 exact⟨rfl,(Fr.refl _ _).alloc _,heap_alloc_new _ _⟩
theorem ended_calls(B now:Nat)(w:World)(h:OrdAt w B now):Calls Tryz.prog 99 #[.pointer (some ⟨B,0,none⟩)] w fun e w'=>e=.returned (.bool (decide (now=3)))∧w=w':=by
 have c0:w.cell? ⟨B,0,none⟩=some (.int .i64 now):=cell_in h rfl
 clear h
 by_cases h3:now=3
 ·subst h3
  go_enter Tryz.func99,Tryz.ntmps99
  go_wp2_with fail
  go_ret
  exact⟨rfl,rfl⟩
 ·have e1:((now:Int)==3)=false:=by simp;omega
  rw[show decide (now=3)=false by simp[h3]]
  clear h3
  go_enter Tryz.func99,Tryz.ntmps99
  go_wp2_with fail
  go_ret
  exact⟨rfl,rfl⟩
theorem order_calls(B now kind:Nat)(w:World)(h:OrdAt w B now)(hM:Moves w)(hn:now<4)(hk:kind<7):
 Calls Tryz.prog 162 #[.pointer (some ⟨B,0,none⟩),.int .i64 kind] w fun e w'=>e=.returned (.int .i64 (if move now kind=4 then 2 else 0))∧Fr (fun k=>k=B) w w'∧OrdAt w' B (if move now kind=4 then now else move now kind):=by
 have c0:w.cell? ⟨B,0,none⟩=some (.int .i64 now):=cell_in h rfl
 have f0:=frozen_in h 0
 have hmv:=hM.at hn hk
 have H:=Hd h
 clear h hM
 obtain rfl|rfl|rfl|rfl:now=0∨now=1∨now=2∨now=3:=by omega
 all_goals
  obtain rfl|rfl|rfl|rfl|rfl|rfl|rfl:kind=0∨kind=1∨kind=2∨kind=3∨kind=4∨kind=5∨kind=6:=by omega
 all_goals
  simp only[Nat.reduceMul,Nat.reduceAdd,Nat.mul_zero,Nat.zero_add,Nat.add_zero,move,movesL,List.getD_cons_zero,List.getD_cons_succ,Nat.reduceEqDiff,if_true,if_false] at hmv ⊢
  go_enter Tryz.func162,Tryz.ntmps162
  go_wp2_with fail
  go_ret
  first
   |exact⟨rfl,Fr.one _ _ _ _,set_in H.out 0 _⟩
   |exact⟨rfl,Fr.refl _ _,H.out⟩
def kindOf(x:Nat):Option Nat:=if x≤2 then some x else if x<128 then none else some (3+x/32%4)
def kindI(x:Nat):Int:=match kindOf x with
 |none=>-1
 |some k=>k
set_option maxRecDepth 100000 in
theorem kindOf_calls(x:Nat)(hx:x<256)(w:World):Calls Tryz.prog 161 #[.int .u8 x] w fun e w'=>e=.returned (.int .i64 (kindI x))∧w=w':=by
 have hb:bits BinOp.and IntKind.u8 ((x:Int)/32) 3=((x/32%4:Nat):Int):=by
  have h1:∀n:Fin 256,bits BinOp.and IntKind.u8 ((n.val:Int)/32) 3=((n.val/32%4:Nat):Int):=by decide+kernel
  exact h1 ⟨x,hx⟩
 have hlt:x/32%4<4:=Nat.mod_lt _ (by omega)
 unfold kindI kindOf
 generalize x/32%4=m at*
 by_cases h1:x≤2
 ·rw[if_pos h1]
  simp only
  go_enter Tryz.func161,Tryz.ntmps161
  go_wp2_with fail
  go_ret
  exact⟨rfl,rfl⟩
 ·rw[if_neg h1]
  by_cases h2:x<128
  ·rw[if_pos h2]
   simp only
   go_enter Tryz.func161,Tryz.ntmps161
   go_wp2_with fail
   go_ret
   exact⟨rfl,rfl⟩
  ·rw[if_neg h2]
   simp only
   go_enter Tryz.func161,Tryz.ntmps161
   go_wp2_with fail
   go_ret
   exact⟨ret_int (by omega),rfl⟩
def beyond(told:Int)(n:Nat):Bool:=decide (0≤told∧told<(n:Int))
theorem beyond_calls(told:Int)(n:Nat)(w:World):Calls Tryz.prog 160 #[.int .i64 told,.int .i64 n] w fun e w'=>e=.returned (.bool (beyond told n))∧w=w':=by
 generalize hq:beyond told n=q
 have HQ:=Hd hq
 clear hq
 go_enter Tryz.func160,Tryz.ntmps160
 go_wp2_with fail
 all_goals
  go_ret
  refine⟨ret_bool ?_,rfl⟩
  have h1:=HQ.out
  unfold beyond at h1
  rw[←h1,Bool.eq_iff_iff]
  simp
  try omega
end Ck
end Go.Proofs.YtffoddpjfgjelaaGreatDoor
