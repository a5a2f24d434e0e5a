/- Part 24 of 48: lemmas of the last part, each under the conditions that it names. -/
import Derived.Laws.BytesArg
import Derived.Test.YtffoddpjfgjelaaGreatDoorQ03
import Derived.Test.YtffoddpjfgjelaaGreatDoorQ22
import Derived.Test.YtffoddpjfgjelaaGreatDoorQ23
set_option linter.unusedVariables false
set_option linter.unusedSimpArgs false
set_option maxRecDepth 1500
set_option maxHeartbeats 2000000
namespace Go.Proofs.YtffoddpjfgjelaaGreatDoor
open Go.RowKit
namespace Dl
open Mem Win
theorem cell_at{w:World}{F:Nat}{ring:List UInt8}{at' d:Nat}{back:Bool}(h:w.heap[F]? =some (.cells (fcells ring at' d back) 353 (0,0)))(hl:ring.length=256):
 w.cell? ⟨F,256,none⟩=some (.int .i64 at')∧w.cell? ⟨F,257,none⟩=some (.int .i64 d)∧w.cell? ⟨F,258,none⟩=some (.bool back)∧∀k,k<256→w.cell? ⟨F,k,none⟩=some (bv (ring.getD k 0)):=by
 have hb:(bvs ring).length=256:=by rw[bvs_length];exact hl
 refine⟨cell_in h ?_,cell_in h ?_,cell_in h ?_,fun k hk=>cell_in h ?_⟩
 ·unfold fcells
  rw[List.getElem?_toArray,List.getElem?_append_right (by omega),hb]
  rfl
 ·unfold fcells
  rw[List.getElem?_toArray,List.getElem?_append_right (by omega),hb]
  rfl
 ·unfold fcells
  rw[List.getElem?_toArray,List.getElem?_append_right (by omega),hb]
  rfl
 ·unfold fcells
  rw[List.getElem?_toArray,List.getElem?_append_left (by omega)]
  refine bvs_at ?_
  rw[List.getD_eq_getElem?_getD,List.getElem?_eq_getElem (by omega)]
  rfl
theorem u8_sub(x y:UInt8):IntKind.u8.wrap ((x.toNat:Int)-(y.toNat:Int))=((x-y).toNat:Int):=by
 have h1:=x.toNat_lt
 have h2:=y.toNat_lt
 rw[UInt8.toNat_sub]
 show((x.toNat:Int)-(y.toNat:Int))%256=_
 omega
theorem u8_add(x y:UInt8):IntKind.u8.wrap ((x.toNat:Int)+(y.toNat:Int))=((x+y).toNat:Int):=by
 have h1:=x.toNat_lt
 have h2:=y.toNat_lt
 rw[UInt8.toNat_add]
 show((x.toNat:Int)+(y.toNat:Int))%256=_
 omega
theorem out_set(os:List UInt8)(n i:Nat)(c:UInt8)(ho:os.length=i)(hi:i<n):(bvs (os++List.replicate (n-i) 0)).toArray.setIfInBounds i (.int .u8 c.toNat)=(bvs ((os++[c])++List.replicate (n-(i+1)) 0)).toArray:=by
 rw[List.setIfInBounds_toArray]
 congr 1
 show(bvs _).set i (bv c)=_
 unfold bvs
 rw[←List.map_set]
 congr 1
 rw[List.set_append_right _ _ (by omega),ho,Nat.sub_self,show n-i=(n-(i+1))+1 by omega,List.replicate_succ,List.set_cons_zero,List.append_assoc]
 rfl
theorem f_set(ring:List UInt8)(a a2 d:Nat)(back:Bool)(c:UInt8)(hl:ring.length=256)(ha:a<256):((fcells ring a d back).setIfInBounds a (.int .u8 c.toNat)).setIfInBounds 256 (.int .i64 a2)=fcells (ring.set a c) a2 d back:=by
 have hb:(bvs ring).length=256:=by rw[bvs_length];exact hl
 unfold fcells
 rw[List.setIfInBounds_toArray,List.setIfInBounds_toArray]
 congr 1
 rw[List.set_append_left _ _ (by omega),List.set_append_right _ _ (by rw[List.length_set];omega),List.length_set,hb]
 show(bvs ring).set a (bv c)++_=_
 unfold bvs
 rw[←List.map_set]
 rfl
theorem make_bytes(n:Nat)(h:n≤35184372088832)(W:World):
 (Instr.makeSlice 22 (.int .i64 n) (.int .i64 n)).run Tryz.prog W=.ok (.slice (some ⟨W.heap.size,0,none⟩) n n) (W.alloc (.cells (bvs (List.replicate n 0)).toArray 5)):=by
 obtain⟨i,hi,hz,hs,hb⟩:=info_parts infoU8
 have:=run_make (P:=Tryz.prog) W 22 5 i (.int .u8 0) Tryz.underlying22 hi hz .i64 .i64 n n (by omega) (by omega) (by rw[hb];omega) (by omega)
 rw[this,hs,Int.toNat_natCast,Nat.mul_one]
 have e:madeCells (Value.int .u8 0).cells n=(bvs (List.replicate n 0)).toArray:=by
  apply Array.ext
  ·simp[madeCells,bvs]
  ·intro k h1 h2
   simp[madeCells,Value.cells,Nat.mod_one,bvs,bv]
 rw[e]
structure NRel(w:World)(F O:Nat)(xs h:List UInt8)(d:Nat)(back:Bool)(i:Nat)(wr:World):Prop where
 fr:Fr (fun k=>k=F) w wr
 f:FAt wr F (hist back d (xs.take i) h) d back
 out:wr.heap[O]? =some (.cells (bvs (go back d (xs.take i) h++List.replicate (xs.length-i) 0)).toArray 5 (0,0))
 le:i≤xs.length
theorem NRel.round{w wr:World}{F O:Nat}{xs h:List UInt8}{d:Nat}{back:Bool}{i:Nat}(hN:NRel w F O xs h d back i wr){x:UInt8}(hx:xs[i]? =some x)(hO:w.heap.size=O)(hOF:O≠F)(nq a a2:Nat)(o c:UInt8)(ha:(hist back d (xs.take i) h).length%256=a)(ha2:a2=(a+1)%256)
 (ho:outOf back (hist back d (xs.take i) h) d x=o)(hc:plainOf back (hist back d (xs.take i) h) d x=c):
 NRel w F O xs h d back (i+1) ((((wr.drewN nq).setCell ⟨O,i,none⟩ (.int .u8 o.toNat)).setCell ⟨F,a,none⟩ (.int .u8 c.toNat)).setCell ⟨F,256,none⟩ (.int .i64 a2)).drew:=by
 obtain⟨hfr,⟨ring,hring,hbx⟩,hout,hle⟩:=hN
 have hi:i<xs.length:=(List.getElem?_eq_some_iff.1 hx).1
 have htk:xs.take (i+1)=xs.take i++[x]:=by
  rw[List.take_add_one,hx]
  rfl
 have hhl:=hist_snoc back d x (xs.take i) h
 have hgl:=go_snoc back d x (xs.take i) h
 rw[←htk,hc] at hhl
 rw[←htk,ho] at hgl
 have hgn:=go_len back d (xs.take i) h
 rw[List.length_take,Nat.min_eq_left hle] at hgn
 have f1:Fr (fun _=>False) wr (wr.drewN nq):=(Fr.refl _ _).drewN nq
 have b1:=f1.keep hbx (fun h=>h)
 have o1:=f1.keep hout (fun h=>h)
 refine⟨?_,⟨ring.set a c,?_,?_⟩,?_,hi⟩
 ·exact(((hfr.drewN nq).setCell (.inr (Nat.le_of_eq hO)) _).setCell (.inl rfl) _).setCell (.inl rfl) _|>.drew
 ·rw[hhl,←ha]
  exact hring.step c
 ·rw[hhl,List.length_append,List.length_singleton,show((hist back d (xs.take i) h).length+1)%256=a2 by omega,←f_set ring a a2 d back c hring.len (by omega)]
  rw[ha] at b1
  have b2:=set_in (set_out (g:=O) (i:=i) b1 (fun e=>hOF e.symm) (.int .u8 o.toNat)) a (.int .u8 c.toNat)
  exact(R0 _).drew.keep (set_in b2 256 _) (fun h=>h)
 ·rw[hgl,←out_set _ xs.length i o hgn hi]
  have b2:=set_out (g:=F) (i:=a) (set_in o1 i (.int .u8 o.toNat)) hOF (.int .u8 c.toNat)
  exact(R0 _).drew.keep (set_out (g:=F) (i:=256) b2 hOF (.int .i64 a2)) (fun h=>h)
set_option maxRecDepth 100000 in
theorem next_calls(F:Nat)(p:Option Addr)(cap:Nat)(xs h:List UInt8)(d:Nat)(back:Bool)(w:World)(hF:FAt w F h d back)(hr:Rd w (.slice p xs.length cap) xs)(hb:xs.length≤1073741824)(h1:1≤d)(h2:d≤256)(hh:h.length≤1073741824)(hoff:∀k,(Value.slice p xs.length cap).ownBlock=some k→0<xs.length→k≠F):
 Calls Tryz.prog 166 #[.pointer (some ⟨F,0,none⟩),.slice p xs.length cap] w fun e w'=>Fr (fun k=>k=F) w w'∧∃v,e=.returned v∧Mine w w' v (go back d xs h):=by
 have hFl:F<w.heap.size:=by
  obtain⟨r,_,hx⟩:=hF
  exact lt_of_block hx
 have HF:=Hd hF
 have HR:=Hd hr
 clear hF hr
 go_enter Tryz.func166,Tryz.ntmps166
 have hmk:=make_bytes xs.length (by omega)
 go_wp2_with fail
 go_loopw [15](fun s15 wr=>∃i:Nat,s15=.int .i64 i∧NRel w F w.heap.size xs h d back i wr) (fun s15 _=>xs.length-(intOf s15).toNat)
 case atStart=>
  obtain⟨ring,hr,hx⟩:=HF.out
  refine⟨0,rfl,(Fr.refl _ _).alloc _,⟨ring,hr,(R0 w).alloc _|>.keep hx (fun h=>h)⟩,?_,Nat.zero_le _⟩
  rw[Nat.sub_zero,List.take_zero]
  exact heap_alloc_new w _
 case round=>
  obtain⟨i,rfl,hN⟩:=hrel
  have HNR:=Hd hN
  obtain⟨hfr,⟨ring,hring,hbx⟩,hout,hle⟩:=hN
  have hhl:=hist_len back d (xs.take i) h
  rw[List.length_take,Nat.min_eq_left hle] at hhl
  have hgl:=go_len back d (xs.take i) h
  rw[List.length_take,Nat.min_eq_left hle] at hgl
  obtain⟨hh',hhe⟩:∃hh',hist back d (xs.take i) h=hh':=⟨_,rfl⟩
  rw[hhe] at hring hbx hhl
  have HHE:=Hd hhe
  clear hhe
  by_cases hlt:i<xs.length
  ·have hd:decide ((i:Int)<(xs.length:Int))=true:=by simp;omega
   obtain⟨x,hx⟩:∃x,xs[i]? =some x:=⟨xs[i],by simp[hlt]⟩
   have hrw:=HR.out.step hfr (fun k hk=>hoff k hk (by omega))
   obtain⟨p',cap',e,hc1,hc2,hc3⟩:=hrw
   simp only[Value.slice.injEq,true_and] at e
   obtain⟨rfl,rfl⟩:=e
   obtain⟨b,o,rfl,hc⟩:=hc3 (by omega)
   have cx:wr.cell? ⟨b,o+i,none⟩=some (.int .u8 x.toNat):=hc _ _ hx
   obtain⟨k0,k1,k2,k3⟩:=cell_at hbx hring.len
   obtain⟨a,ha⟩:∃a,hh'.length%256=a:=⟨_,rfl⟩
   obtain⟨r,hr⟩:∃r,r=a+256-d:=⟨_,rfl⟩
   obtain⟨q,hq⟩:∃q,q=r%256:=⟨_,rfl⟩
   have hqa:q=(hh'.length+256-d)%256:=by omega
   have hold:=hring.at' d h1 h2
   rw[←hqa] at hold
   have kq:=k3 q (by omega)
   rw[hold] at kq
   rw[ha] at k0
   have z1:IntKind.i64.wrap ((a:Int)+256)=(a:Int)+256:=IntWalk.i64_in _ (by omega)
   have z2:IntKind.i64.wrap ((a:Int)+256-(d:Int))=(r:Int):=by rw[IntWalk.i64_in _ (by omega)];omega
   have z3:((r:Int).tmod 256)=(q:Int):=by rw[hq];rfl
   have z4:IntKind.i64.wrap (q:Int)=(q:Int):=IntWalk.i64_in _ (by omega)
   have z5:(q:Int)<256:=by omega
   have z6:(0:Int)≤(q:Int):=by omega
   have HX:=Hd hx
   have HFR:=Hd hfr
   have HRING:=Hd hring
   have HBX:=Hd hbx
   have HOUT:=Hd hout
   have HHL:=Hd hhl
   have HGL:=Hd hgl
   have HA:=Hd ha
   have HHH:=Hd hh
   have HOFF:=Hd hoff
   have hq256:q<256:=by omega
   have ha256:a<256:=by omega
   obtain⟨O,hO⟩:∃O,w.heap.size=O:=⟨_,rfl⟩
   rw[hO] at hout ⊢
   have HO:=Hd hO
   have hOF:O≠F:=by omega
   have hFO:F≠O:=by omega
   have hbo:=u8_sub x (old hh' d)
   have hbp:=u8_add x (old hh' d)
   have hbp2:((x.toNat:Int)+((old hh' d).toNat:Int))%256=((x+old hh' d).toNat:Int):=u8_add x (old hh' d)
   have co:wr.cell? ⟨O,i,none⟩=some (.int .u8 0):=cell_in hout (by
    rw[List.getElem?_toArray]
    refine bvs_at (x:=0) ?_
    rw[List.getElem?_append_right (by omega),hgl,Nat.sub_self,List.getElem?_replicate,if_pos (by omega)])
   have fo:=fun j=>frozen_in hout j
   have ff:=fun j=>frozen_in hbx j
   have ka:=k3 a (by omega)
   unfold bv at ka
   generalize ring.getD a 0=ra at*
   obtain⟨a2,ha2⟩:∃a2,a2=(a+1)%256:=⟨_,rfl⟩
   have y1:IntKind.i64.wrap ((a:Int)+1)=(a:Int)+1:=IntWalk.i64_in _ (by omega)
   have y2:(((a:Int)+1).tmod 256)=(a2:Int):=by rw[ha2];rfl
   have y4:IntKind.i64.wrap (a2:Int)=(a2:Int):=IntWalk.i64_in _ (by omega)
   have y5:(a:Int)<256:=by omega
   have y6:(0:Int)≤(a:Int):=by omega
   have y7:a≠256:=by omega
   have y8:256≠a:=by omega
   have HA2:=Hd ha2
   clear hO ha2
   clear hx hfr hring hbx hout hhl hgl ha hc hc3 hc1 hc2 k3 hold hqa hq hr hh hoff
   generalize hod:old hh' d=od at*
   unfold bv at kq
   go_wp2_with fail
   go_quiet (fail)
   cases back
   ·have hpl:plainOf false hh' d x=x:=by unfold plainOf;rw[hod];rfl
    have hot:outOf false hh' d x=x-od:=by unfold outOf;rw[hod];rfl
    have HPL:=Hd hpl
    have HOT:=Hd hot
    clear hpl hot hod hbp2
    go_wp2_with fail
    go_region
    go_wp2_with fail
    go_roundw
    case rel=>
     have hn:=HNR.out
     rw[HO.out] at hn
     exact⟨i+1,by go_num,hn.round HX.out HO.out hOF nq a a2 _ _ (by rw[HHE.out];exact HA.out) HA2.out (by rw[HHE.out];exact HOT.out) (by rw[HHE.out];exact HPL.out)⟩
    case measure=>simp[intOf];omega
   ·have hpl:plainOf true hh' d x=x+od:=by unfold plainOf;rw[hod];rfl
    have hot:outOf true hh' d x=x+od:=by unfold outOf;rw[hod];rfl
    have HPL:=Hd hpl
    have HOT:=Hd hot
    have HBP:=Hd hbp2
    clear hpl hot hod hbp2
    go_wp2_with fail
    go_region
    go_wp2_with fail
    go_roundw
    case rel=>
     have hn:=HNR.out
     rw[HO.out] at hn
     simp only[HBP.out]
     exact⟨i+1,by go_num,hn.round HX.out HO.out hOF nq a a2 _ _ (by rw[HHE.out];exact HA.out) HA2.out (by rw[HHE.out];exact HOT.out) (by rw[HHE.out];exact HPL.out)⟩
    case measure=>simp[intOf];omega
  ·have hd:decide ((i:Int)<(xs.length:Int))=false:=by simp;omega
   obtain rfl:i=xs.length:=by omega
   have HNR2:=HNR
   clear hring hbx hhl hgl HNR
   have hoo:=hout
   rw[List.take_length,Nat.sub_self,List.replicate_zero,List.append_nil] at hoo
   have HOO:=Hd hoo
   clear hout hoo
   go_wp2_with fail
   go_ret
   refine⟨HNR2.out.fr,.slice (some ⟨w.heap.size,0,none⟩) xs.length xs.length,rfl,?_⟩
   have hgl:=go_len back d xs h
   refine⟨⟨by rw[bvs_length];omega,.inr ⟨w.heap.size,xs.length,_,by rw[hgl],Nat.zero_le _,HOO.out,by omega,by simp only[maxLen];omega,by simp[bvs_length,hgl],by rw[Nat.mul_one];exact List.take_of_length_le (by rw[bvs_length];exact Nat.le_refl _)⟩⟩,fun k hk=> ?_⟩
   simp only[Value.ownBlock,Option.some.injEq] at hk
   omega
end Dl
namespace Dl
open Mem Win
theorem whole_calls(p:Option Addr)(cap:Nat)(xs:List UInt8)(d:Nat)(back:Bool)(w:World)(hr:Rd w (.slice p xs.length cap) xs)(hb:xs.length≤1073741824)(h1:1≤d)(h2:d≤256):
 Calls Tryz.prog 101 #[.slice p xs.length cap,.int .i64 d,.bool back] w fun e w'=>Fr (fun _=>False) w w'∧∃v,e=.returned (.tuple #[v,.int .i64 0])∧Mine w w' v (go back d xs []):=by
 have HN:=Hd (new_in d back w h1 h2)
 have HX:=Hd (show∀w1,Fr (fun _=>False) w w1→FAt w1 w.heap.size [] d back→Calls Tryz.prog 166 #[.pointer (some ⟨w.heap.size,0,none⟩),.slice p xs.length cap] w1 fun e w'=>Fr (fun k=>k=w.heap.size) w1 w'∧∃v,e=.returned v∧Mine w1 w' v (go back d xs []) from fun w1 hf hF=>next_calls w.heap.size p cap xs [] d back w1 hF (hr.keep hf) hb h1 h2 (by simp) (fun k hk h0 e=>by
  obtain⟨p',cap',e',_,_,h3⟩:=hr
  simp only[Value.slice.injEq,true_and] at e'
  obtain⟨rfl,rfl⟩:=e'
  obtain⟨b,o,rfl,hc⟩:=h3 h0
  have:b<w.heap.size:=block_lt_of_cell (hc 0 xs[0] (by simp))
  simp only[Value.ownBlock,Option.some.injEq] at hk
  omega))
 clear hr hb h1 h2
 go_enter Tryz.func101,Tryz.ntmps101
 go_wp2_with fail
 refine HN.out.mono ?_
 rintro e w1 ⟨rfl,hf1,hF⟩
 have HF1:=Hd hf1
 have HX1:=Hd (HX.out w1 hf1 hF)
 clear hf1 hF
 go_wp2_with fail
 refine HX1.out.mono ?_
 rintro e w2 ⟨hf2,v,rfl,hM⟩
 have HF2:=Hd (HF1.out.trans' hf2 (fun k h1 h2=>by omega))
 obtain⟨q,c,rfl⟩:=hM.slice
 have HM:=Hd hM
 clear hf2 hM
 go_wp2_with fail
 go_ret2
 exact⟨HF2.out,_,rfl,HM.out.own,fun k hk=>Nat.le_trans HF1.out.size (HM.out.new k hk)⟩
theorem enc_calls(p:Option Addr)(cap:Nat)(xs:List UInt8)(d:Nat)(w:World)(hr:Rd w (.slice p xs.length cap) xs)(hb:xs.length≤1073741824)(h1:1≤d)(h2:d≤256):
 Calls Tryz.prog 58 #[.slice p xs.length cap,.int .i64 d] w fun e w'=>Fr (fun _=>False) w w'∧∃v,e=.returned (.tuple #[v,.int .i64 0])∧Mine w w' v (go false d xs []):=by
 have HW:=Hd (whole_calls p cap xs d false w hr hb h1 h2)
 clear hr hb h1 h2
 go_enter Tryz.func58,Tryz.ntmps58
 go_wp2_with fail
 refine HW.out.mono ?_
 rintro e w1 ⟨hf,v,rfl,hM⟩
 obtain⟨q,c,rfl⟩:=hM.slice
 have HF:=Hd hf
 have HM:=Hd hM
 clear hf hM
 go_wp2_with fail
 go_ret2
 exact⟨HF.out,_,rfl,HM.out⟩
theorem dec_calls(p:Option Addr)(cap:Nat)(xs:List UInt8)(d:Nat)(w:World)(hr:Rd w (.slice p xs.length cap) xs)(hb:xs.length≤1073741824)(h1:1≤d)(h2:d≤256):
 Calls Tryz.prog 54 #[.slice p xs.length cap,.int .i64 d] w fun e w'=>Fr (fun _=>False) w w'∧∃v,e=.returned (.tuple #[v,.int .i64 0])∧Mine w w' v (go true d xs []):=by
 have HW:=Hd (whole_calls p cap xs d true w hr hb h1 h2)
 clear hr hb h1 h2
 go_enter Tryz.func54,Tryz.ntmps54
 go_wp2_with fail
 refine HW.out.mono ?_
 rintro e w1 ⟨hf,v,rfl,hM⟩
 obtain⟨q,c,rfl⟩:=hM.slice
 have HF:=Hd hf
 have HM:=Hd hM
 clear hf hM
 go_wp2_with fail
 go_ret2
 exact⟨HF.out,_,rfl,HM.out⟩
end Dl
namespace Ch
open Mem Win Ck
def undone(dist:Nat)(xs:List UInt8):List UInt8:=if dist=0 then xs else Dl.go true dist xs []
def mapRes(dist:Nat):Except (Nat×Nat) (Nat×List UInt8)→Except (Nat×Nat) (Nat×List UInt8)
 |.error x=>.error x
 |.ok (n,xs)=>.ok (n,undone dist xs)
theorem dec_mem(fs:List (Nat×List UInt8))(dist dict:Nat)(lv bv:Value)(mem packed size:Int)(w:World)(hl:RdF w lv fs)(hread:readA 0 0 fs=(dist,dict,0))(hm:mem<dict):
 Calls Tryz.prog 18 #[bv,.int .i64 mem,.int .i64 packed,.int .i64 size,lv] w fun e w'=>Fr (fun _=>False) w w'∧e=.returned (.tuple #[.slice none 0 0,.int .i64 0,.int .i64 5]):=by
 have HR:=Hd (read_calls lv fs w hl)
 unfold ReadPost at HR
 rw[hread] at HR
 have t1:decide ((dict:Int)>mem)=true:=decide_eq_true (by omega)
 have t2:decide (mem<(dict:Int))=true:=decide_eq_true (by omega)
 obtain⟨p,cap,rfl,_⟩:=hl
 clear hread hm
 go_enter Tryz.func18,Tryz.ntmps18
 go_wp2_with fail
 refine HR.out.mono ?_
 rintro e w1 ⟨rfl,hf⟩
 have HF:=Hd hf
 clear hf
 go_wp2_with fail
 go_ret3
 exact⟨HF.out,rfl⟩
theorem dec_calls(fs:List (Nat×List UInt8))(dist dict:Nat)(p:Option Addr)(cap:Nat)(b:List UInt8)(lv:Value)(mem packed size:Int)(w:World)(hl:RdF w lv fs)(hT:St.Tabs w)(hM:Moves w)(hr:Rd w (.slice p b.length cap) b)(hb:b.length≤16777216)(hread:readA 0 0 fs=(dist,dict,0))(hm:¬mem<dict)(hd:dist≤256)
 (hout:∀n xs,unpackP b dict packed size=.ok (n,xs)→xs.length≤1073741824):
 Calls Tryz.prog 18 #[.slice p b.length cap,.int .i64 mem,.int .i64 packed,.int .i64 size,lv] w (DecodePost w (mapRes dist (unpackP b dict packed size))):=by
 have HR:=Hd (read_calls lv fs w hl)
 unfold ReadPost at HR
 rw[hread] at HR
 have HD:=Hd (show∀w1,Fr (fun _=>False) w w1→Calls Tryz.prog 15 #[.slice p b.length cap,.int .i64 dict,.int .i64 packed,.int .i64 size] w1 (DecodePost w1 (unpackP b dict packed size)) from fun w1 hf=>decode_calls b dict packed size w1 _ (hT.keep hf) (hr.keep hf) (hM.step hf (fun _ h=>h.elim)) hb)
 have HOUT:=Hd hout
 have t1:decide ((dict:Int)>mem)=false:=decide_eq_false (by omega)
 have t2:decide (mem<(dict:Int))=false:=decide_eq_false (by omega)
 obtain⟨q,c,rfl,_⟩:=hl
 clear hread hm hT hM hr hb hout
 obtain⟨res,hres⟩:∃res,unpackP b dict packed size=res:=⟨_,rfl⟩
 rw[hres] at HD HOUT ⊢
 clear hres
 go_enter Tryz.func18,Tryz.ntmps18
 go_wp2_with fail
 refine HR.out.mono ?_
 rintro e w1 ⟨rfl,hf1⟩
 have HD1:=Hd (HD.out w1 hf1)
 have HF1:=Hd hf1
 clear hf1
 go_wp2_with fail
 refine HD1.out.mono ?_
 cases res with
 |error x=>
   obtain⟨pl,er⟩:=x
   rintro e w2 ⟨hf2,hne,rfl⟩
   have HF2:=Hd (HF1.out.trans hf2)
   have hn1:((er:Int) !=0)=true:=by simp;omega
   have HNE:=Hd hne
   clear hf2 hne
   go_wp2_with fail
   go_ret3
   exact⟨HF2.out,HNE.out,rfl⟩
 |ok x=>
   obtain⟨n,xs⟩:=x
   rintro e w2 ⟨hf2,v,rfl,hM⟩
   have HF2:=Hd (HF1.out.trans hf2)
   have HM:=Hd hM
   have hw:=HF1.out.size
   obtain⟨pv,cv,rfl⟩:=hM.slice
   clear hf2 hM
   by_cases h0:dist=0
   ·subst h0
    go_wp2_with fail
    go_ret3
    exact⟨HF2.out,_,rfl,HM.out.own,fun k hk=>Nat.le_trans HF1.out.size (HM.out.new k hk)⟩
   ·have h1:((dist:Int)==0)=false:=by simp;omega
    have HL:=Hd (Dl.dec_calls pv cv xs dist w2 HM.out.rd (HOUT.out n xs rfl) (by omega) hd)
    have HMR:=Hd (show mapRes dist (.ok (n,xs))=.ok (n,Dl.go true dist xs []) by show Except.ok (n,undone dist xs)=_;unfold undone;rw[if_neg h0])
    clear h0 hd hw
    go_wp2_with fail
    refine HL.out.mono ?_
    rintro e w3 ⟨hf3,v3,rfl,hM3⟩
    obtain⟨p3,c3,rfl⟩:=hM3.slice
    have HF3:=Hd (HF2.out.trans hf3)
    have HM3:=Hd hM3
    clear hf3 hM3
    go_wp2_with fail
    go_ret3
    rw[HMR.out]
    exact⟨HF3.out,_,rfl,HM3.out.own,fun k hk=>Nat.le_trans HF2.out.size (HM3.out.new k hk)⟩
end Ch
namespace Ch
open Mem Vi
def IsByte(n k:Nat):Prop:=k≤40∧(∀j,j<k→dictOf j<n)∧n≤dictOf k
theorem isByte_ex(n:Nat)(h:n≤4294967295):∃k,IsByte n k:=by
  have key:∀m,m≤40→(∀j,j<m→dictOf j<n)∨∃k,IsByte n k:=by
    intro m hm
    induction m with
    |zero=>exact .inl (fun j hj=>by omega)
    |succ m ih=>
      rcases ih (by omega) with h1|h1
      · by_cases hd:dictOf m<n
        · refine .inl (fun j hj=> ?_)
          by_cases he:j=m
          · exact he ▸ hd
          · exact h1 j (by omega)
        · exact .inr ⟨m,by omega,h1,by omega⟩
      · exact .inr h1
  rcases key 40 (by omega) with h1|h1
  · exact ⟨40, by omega, h1, by have : dictOf 40 = 4294967295 := by decide
                                omega⟩
  · exact h1
theorem dictByte_calls(n k:Nat)(w:World)(hn:n≤4294967295)(hk:IsByte n k):
 Calls Tryz.prog 60 #[.int .i64 n] w fun e w'=>e=.returned (.tuple #[.int .i64 k,.int .i64 0])∧w=w':=by
 have hg0:decide ((n:Int)<0)=false:=by simp
 have hg1:decide ((n:Int)>4294967295)=false:=by simp;omega
 have hg2:decide (4294967295<(n:Int))=false:=by simp;omega
 obtain⟨hk40,hlt,hge⟩:=hk
 have HL:=Hd hlt
 have HG:=Hd hge
 clear hlt hge
 go_enter Tryz.func60,Tryz.ntmps60
 go_wp2_with fail
 go_loopw [4](fun i wr=>∃j:Nat,j≤k∧i=.int .i64 j∧wr=w) (fun i _=>k-(intOf i).toNat)
 case atStart=>exact⟨0,by omega,rfl,rfl⟩
 case round=>
  obtain⟨j,hj,rfl,rfl⟩:=hrel
  go_wp2_with fail
  refine(dict_calls j _ (by omega)).mono ?_
  rintro e w' ⟨rfl,rfl⟩
  by_cases hlt:j<k
  ·have hd:=HL.out j hlt
   generalize dictOf j=d at*
   have hc1:decide ((d:Int)<(n:Int))=true:=by simp;omega
   have hc2:decide (d<n)=true:=by simp;omega
   go_wp2_with fail
   go_roundw
   case rel=>exact⟨j+1,by omega,by go_num,by first|rfl|trivial⟩
   case measure=>simp[intOf];omega
  ·obtain rfl:j=k:=by omega
   have hd:=HG.out
   generalize dictOf j=d at*
   have hc1:decide ((d:Int)<(n:Int))=false:=by simp;omega
   have hc2:decide (d<n)=false:=by simp;omega
   go_wp2_with fail
   go_ret2
   exact⟨rfl,rfl⟩
end Ch
namespace Ch
open Mem Vi
def str(xs:List UInt8):ByteArray:=⟨xs.toArray⟩
theorem str_eq(xs:List UInt8):strOfNums (xs.map fun x=>(x.toNat:Int))=str xs:=by
 unfold strOfNums str
 congr 2
 rw[List.map_map]
 conv=>rhs;rw[←List.map_id xs]
 apply List.map_congr_left
 intro x _
 simp
theorem conv_str{w:World}{v:Value}{xs:List UInt8}(h:Rd w v xs):(convert 22 9 v).run Tryz.prog w=.ok (.string (str xs)) w:=by
 obtain⟨p,cap,rfl,h1,h2,h3⟩:=h
 by_cases h0:0<xs.length
 ·obtain⟨b,o,rfl,hc⟩:=h3 h0
  rw[run_convert_bytes_arg (P:=Tryz.prog) w 22 5 Tryz.underlying22 Tryz.underlying5 b o xs.length cap (xs.map fun x=>(x.toNat:Int)) (by simp) (fun i hi=>by
   rw[hc i xs[i] (by simp[hi])]
   simp[bv,hi]) 9 Tryz.underlying9,str_eq]
 ·have hx:xs=[]:=List.eq_nil_of_length_eq_zero (by omega)
  subst hx
  cases p with
  |none=>exact run_convert_bytes_nil (P:=Tryz.prog) w 22 5 Tryz.underlying22 Tryz.underlying5 0 cap 9 Tryz.underlying9
  |some a=>
    show(convert 22 9 (.slice (some a) 0 cap)).run Tryz.prog w=_
    rw[run_convert_bytes_string w 22 9 5 (some a) 0 cap Tryz.underlying22 Tryz.underlying5 Tryz.underlying9]
    rw[run_bytesToString w a 0 cap [] (by simp[loadCells,loadCellsFrom])]
    rfl
theorem num_calls(n:Int)(w:World):Calls Tryz.prog 20 #[.int .i64 n] w fun e w'=>e=.returned (.int .i64 n)∧w=w':=by
 go_enter Tryz.func20,Tryz.ntmps20
 go_wp2
 go_ret
 exact⟨rfl,rfl⟩
theorem props_zero(w:World):Calls Tryz.prog 49 #[.agg #[.int .i64 0,.int .i64 0,.int .i64 0]] w fun e w'=>e=.returned (.tuple #[.int .i64 0,.int .i64 0])∧Fr (fun _=>False) w w':=by
 go_enter Tryz.func49,Tryz.ntmps49
 go_wp2_with fail
 go_ret2
 exact⟨rfl,(Fr.refl _ _).alloc _⟩
theorem legal_zero(w:World):Calls Tryz.prog 26 #[.agg #[.int .i64 0,.int .i64 0,.int .i64 0,.int .i64 0,.int .i64 0,.int .i64 0,.int .i64 0,.int .i64 0]] w fun e w'=>e=.returned (.int .i64 6)∧Fr (fun _=>False) w w':=by
 have hbox:=heap_alloc_new w (.cells #[.int .i64 0,.int .i64 0,.int .i64 0,.int .i64 0,.int .i64 0,.int .i64 0,.int .i64 0,.int .i64 0] 26)
 have hfr0:=(R0 w).alloc (.cells #[.int .i64 0,.int .i64 0,.int .i64 0,.int .i64 0,.int .i64 0,.int .i64 0,.int .i64 0,.int .i64 0] 26)
 have HB:=Hd hbox
 have HF:=Hd hfr0
 clear hbox hfr0
 go_enter Tryz.func26,Tryz.ntmps26
 go_wp2_with fail
 refine(props_zero _).mono ?_
 rintro e w1 ⟨rfl,hfr1⟩
 have hb1:=hfr1.keep HB.out (fun h=>h)
 obtain⟨c0,c1⟩:=cs2 hb1 rfl rfl
 have c5:=cell_in (i:=5) hb1 rfl
 have c6:=cell_in (i:=6) hb1 rfl
 have c7:=cell_in (i:=7) hb1 rfl
 clear hb1
 go_wp2_with fail
 go_ret
 exact⟨rfl,HF.out.trans hfr1⟩
set_option maxRecDepth 100000 in
theorem fixed_calls(w:World)(hT:Tab w):Calls Tryz.prog 24 #[] w fun e w'=>e=.returned (.bool true)∧Fr (fun _=>False) w w':=by
 obtain⟨T,fr,hT⟩:=hT
 have hfr0:=(R0 w).alloc (.cells #[.int .u8 7,.int .u8 8] 5)
 have hT0:Tab (w.alloc (.cells #[.int .u8 7,.int .u8 8] 5)):=⟨T,fr,hfr0.keep hT (fun h=>h)⟩
 have hb:=heap_alloc_new w (.cells #[.int .u8 7,.int .u8 8] 5)
 have hr0:Rd (w.alloc (.cells #[.int .u8 7,.int .u8 8] 5)) (.slice (some ⟨w.heap.size,0,none⟩) 2 2) [7,8]:=
  ⟨_,2,rfl,by simp,by simp[maxLen],fun _=>⟨_,0,rfl,fun i x hx=>by
   rw[Nat.zero_add]
   match i,hx with
   |0,hx=>simp at hx;subst hx;exact cell_in hb rfl
   |1,hx=>simp at hx;subst hx;exact cell_in hb rfl
   |i+2,hx=>simp at hx⟩⟩
 have HF:=Hd hfr0
 have HT:=Hd hT0
 have HR:=Hd hr0
 clear hT hfr0 hT0 hb hr0
 go_enter Tryz.func24,Tryz.ntmps24
 go_wp2_with fail
 refine(fput_in 300 _ [7,8] _ HT.out (by omega) HR.out (by simp)).mono ?_
 rintro e w1 ⟨v1,rfl,hA1⟩
 have hbytes:fput 300 [7,8]=[172,2,2,7,8]:=by decide
 rw[hbytes] at hA1
 obtain⟨p1,cap1,rfl⟩:=hA1.slice
 have HA1:=Hd hA1
 clear hA1 hbytes
 have hx1:Rd (w1.alloc (.cells #[.int .u8 255] 5)) (.slice (some ⟨w1.heap.size,0,none⟩) 1 1) [255]:=rd_one w1 _ rfl 255 255 rfl
 have hx2:Rd ((w1.alloc (.cells #[.int .u8 255] 5)).alloc (.cells #[.int .u8 40] 5)) (.slice (some ⟨w1.heap.size+1,0,none⟩) 1 1) [40]:=rd_one _ _ (by simp) 40 40 rfl
 have hx1':=(hx1.keep ((R0 _).alloc (.cells #[.int .u8 40] 5))).keep ((R0 _).alloc (.cells #[.int .u64 3,.slice (some ⟨w1.heap.size,0,none⟩) 1 1,.int .u64 33,.slice (some ⟨w1.heap.size+1,0,none⟩) 1 1] 69))
 have hx2':=hx2.keep ((R0 _).alloc (.cells #[.int .u64 3,.slice (some ⟨w1.heap.size,0,none⟩) 1 1,.int .u64 33,.slice (some ⟨w1.heap.size+1,0,none⟩) 1 1] 69))
 have hbl:=heap_alloc_new ((w1.alloc (.cells #[.int .u8 255] 5)).alloc (.cells #[.int .u8 40] 5)) (.cells #[.int .u64 3,.slice (some ⟨w1.heap.size,0,none⟩) 1 1,.int .u64 33,.slice (some ⟨w1.heap.size+1,0,none⟩) 1 1] 69)
 have hfr2:Fr (fun _=>False) w1 (((w1.alloc (.cells #[.int .u8 255] 5)).alloc (.cells #[.int .u8 40] 5)).alloc (.cells #[.int .u64 3,.slice (some ⟨w1.heap.size,0,none⟩) 1 1,.int .u64 33,.slice (some ⟨w1.heap.size+1,0,none⟩) 1 1] 69)):=(((Fr.refl _ _).alloc _).alloc _).alloc _
 simp only[World.size_alloc] at hbl
 have hrf:RdF (((w1.alloc (.cells #[.int .u8 255] 5)).alloc (.cells #[.int .u8 40] 5)).alloc (.cells #[.int .u64 3,.slice (some ⟨w1.heap.size,0,none⟩) 1 1,.int .u64 33,.slice (some ⟨w1.heap.size+1,0,none⟩) 1 1] 69)) (.slice (some ⟨w1.heap.size+1+1,0,none⟩) 2 2) [(3,[255]),(33,[40])]:=
  ⟨_,2,rfl,by simp,by simp[maxLen],fun _=>⟨_,0,rfl,fun i f hf=>by
   match i,hf with
   |0,hf=>simp at hf;subst hf;exact⟨by omega,cell_in hbl rfl,_,cell_in hbl rfl,hx1'⟩
   |1,hf=>simp at hf;subst hf;exact⟨by omega,cell_in hbl rfl,_,cell_in hbl rfl,hx2'⟩
   |i+2,hf=>simp at hf⟩⟩
 have hra:readA 0 0 [(3,[255]),(33,[40])]=(256,4294967295,0):=by decide+kernel
 have hstr:((str [172,2,2,7,8]).toList==[172,2,2,7,8])=true:=by decide+kernel
 have HRF:=Hd hrf
 have HRA:=Hd hra
 have HF2:=Hd hfr2
 clear hx1 hx2 hx1' hx2' hbl hrf hra hfr2
 go_wp2_with fail
 refine(read_calls _ _ _ HRF.out).mono ?_
 unfold ReadPost
 rw[HRA.out]
 rintro e w3 ⟨rfl,hfr3⟩
 have hcv:(convert 22 9 (.slice p1 5 cap1)).run Tryz.prog w3=.ok (.string (str [172,2,2,7,8])) w3:=conv_str ((HA1.out.rd.keep HF2.out).keep hfr3)
 have HF3:=Hd hfr3
 clear hfr3
 go_wp2_with fail
 refine(num_calls _ _).mono ?_
 rintro e w' ⟨rfl,rfl⟩
 go_wp2_with fail
 refine(num_calls _ _).mono ?_
 rintro e w' ⟨rfl,rfl⟩
 go_wp2_with fail
 refine(legal_zero _).mono ?_
 rintro e w4 ⟨rfl,hfr4⟩
 go_wp2_with fail
 refine(num_calls _ _).mono ?_
 rintro e w' ⟨rfl,rfl⟩
 go_wp2_with fail
 go_ret
 exact⟨rfl,((HF.out.trans HA1.out.fr).trans HF2.out).trans (HF3.out.trans hfr4)⟩
theorem Rd.slice{w:World}{v:Value}{xs:List UInt8}(h:Rd w v xs):∃p cap,v=.slice p xs.length cap:=by
 obtain⟨p,cap,h,_⟩:=h
 exact⟨p,cap,h⟩
end Ch
namespace Ch
open Mem Vi
theorem infoF:(Tryz.prog.info? 69).map (fun i=>(i.zero,i.size,i.bytes))=some (some (.agg #[.int .u64 0,.slice none 0 0]),2,32):=by kernel_rfl
def fcs(l:List (Nat×List UInt8×Value)):List Value:=l.flatMap fun x=>[.int .u64 (x.1:Int),x.2.2]
def ffs(l:List (Nat×List UInt8×Value)):List (Nat×List UInt8):=l.map fun x=>(x.1,x.2.1)
theorem fcs_append(l r:List (Nat×List UInt8×Value)):fcs (l++r)=fcs l++fcs r:=by simp[fcs]
theorem fcs_at(l:List (Nat×List UInt8×Value))(i:Nat)(x:Nat×List UInt8×Value)(h:l[i]? =some x):(fcs l)[i*2]? =some (.int .u64 (x.1:Int))∧(fcs l)[i*2+1]? =some x.2.2:=by
 induction l generalizing i with
 |nil=>simp at h
 |cons y r ih=>
   cases i with
   |zero=>simp at h;subst h;simp[fcs]
   |succ i=>
     rw[List.getElem?_cons_succ] at h
     have:=ih i h
     simp only[fcs,List.flatMap_cons,List.cons_append,List.nil_append] at this ⊢
     rw[show(i+1)*2=i*2+1+1 by omega,show i*2+1+1+1=(i*2+1)+1+1 by omega]
     simp only[List.getElem?_cons_succ]
     exact this
structure OwnF(w0 w:World)(v:Value)(l:List (Nat×List UInt8×Value)):Prop where
 fr:Fr (fun _=>False) w0 w
 own:w.ownsRow 0 69 2 v l.length (fcs l)
 new:∀k,v.ownBlock=some k→w0.heap.size≤k
 props:∀x ∈ l,x.1<18446744073709551616∧Rd w x.2.2 x.2.1∧(0<x.2.1.length→∀k,x.2.2.ownBlock=some k→v.ownBlock≠some k)
theorem OwnF.nil(w:World):OwnF w w (.slice none 0 0) []:=⟨Fr.refl _ _,World.ownsRow_nil _ _ _ _,fun k hk=>by simp[Value.ownBlock] at hk,fun x hx=>by cases hx⟩
theorem Rd.step1{S:Nat→Prop}{w w':World}{v:Value}{xs:List UInt8}(h:Rd w v xs)(hfr:Fr S w w')(hS:0<xs.length→∀k,v.ownBlock=some k→¬S k):Rd w' v xs:=by
 obtain⟨p,cap,rfl,h1,h2,h3⟩:=h
 refine⟨p,cap,rfl,h1,h2,fun h0=> ?_⟩
 obtain⟨b,o,rfl,hc⟩:=h3 h0
 refine⟨b,o,rfl,fun i x hx=> ?_⟩
 have:=hc i x hx
 rw[World.cell?_of_block (w:=w) (hfr.block b (block_lt_of_cell this) (hS h0 b rfl))]
 exact this
theorem Rd.lt1{w:World}{v:Value}{xs:List UInt8}(h:Rd w v xs)(h0:0<xs.length)(k:Nat)(hk:v.ownBlock=some k):k<w.heap.size:=by
 obtain⟨p,cap,rfl,_,_,h3⟩:=h
 obtain⟨b,o,rfl,hc⟩:=h3 h0
 simp[Value.ownBlock] at hk
 subst hk
 exact block_lt_of_cell (hc 0 xs[0] (by simp[h0]))
theorem own_stepF{S:Nat→Prop}{w w':World}{T:TypeId}{v:Value}{n z:Nat}{xs:List Value}(h:w.ownsRow 0 T z v n xs)(hfr:Fr S w w')(hS:∀k,v.ownBlock=some k→¬S k):w'.ownsRow 0 T z v n xs:=by
 obtain⟨h1,h2⟩:=h
 refine⟨h1,?_⟩
 rcases h2 with h2|⟨g,cap,cur,rfl,h4,hg,hrest⟩
 ·exact .inl h2
 ·exact .inr ⟨g,cap,cur,rfl,h4,hfr.keep hg (hS g rfl),hrest⟩
theorem OwnF.keep{w0 w w':World}{v:Value}{l:List (Nat×List UInt8×Value)}(h:OwnF w0 w v l)(hfr:Fr (fun _=>False) w w'):OwnF w0 w' v l:=
 ⟨h.fr.trans hfr,own_stepF h.own hfr (fun _ _ f=>f),h.new,fun x hx=>⟨(h.props x hx).1,(h.props x hx).2.1.keep hfr,(h.props x hx).2.2⟩⟩
theorem OwnF.older{w00 w0 w:World}{v:Value}{l:List (Nat×List UInt8×Value)}(h:OwnF w0 w v l)(hfr:Fr (fun _=>False) w00 w0):OwnF w00 w v l:=
 ⟨hfr.trans h.fr,h.own,fun k hk=>Nat.le_trans hfr.size (h.new k hk),h.props⟩
theorem OwnF.rd{w0 w:World}{v:Value}{l:List (Nat×List UInt8×Value)}(h:OwnF w0 w v l):RdF w v (ffs l):=by
 have hlen:(ffs l).length=l.length:=by simp[ffs]
 rcases h.own.2 with⟨rfl,h0⟩|⟨g,cap,cur,rfl,_,hg,hle,hm,hcs,ht⟩
 ·exact⟨none,0,by rw[hlen,h0],by omega,by simp[maxLen],by omega⟩
 ·refine⟨_,cap,by rw[hlen],by omega,hm,fun _=>⟨g,0,rfl,fun i f hf=> ?_⟩⟩
  obtain⟨x,hx,rfl⟩:∃x,l[i]? =some x∧(x.1,x.2.1)=f:=by
   simp only[ffs,List.getElem?_map,Option.map_eq_some_iff] at hf
   exact hf
  have hil:i<l.length:=(List.getElem?_eq_some_iff.1 hx).1
  obtain⟨e1,e2⟩:=fcs_at l i x hx
  have hat:∀(j:Nat)(u:Value),j<l.length*2→(fcs l)[j]? =some u→cur[j]? =some u:=by
   intro j u hj hu
   rw[←ht,List.getElem?_take,if_pos hj] at hu
   simpa using hu
  have hp:=h.props x (List.mem_of_getElem? hx)
  refine⟨hp.1,?_,x.2.2,?_,hp.2.1⟩
  ·rw[Nat.zero_add]
   exact cell_in hg (hat _ _ (by omega) e1)
  ·rw[Nat.zero_add]
   exact cell_in hg (hat _ _ (by omega) e2)
theorem OwnF.slice{w0 w:World}{v:Value}{l:List (Nat×List UInt8×Value)}(h:OwnF w0 w v l):∃p cap,v=.slice p l.length cap:=by
 rcases h.own.2 with⟨rfl,h0⟩|⟨g,cap,cur,rfl,_⟩
 ·exact⟨none,0,by rw[h0]⟩
 ·exact⟨_,cap,rfl⟩
theorem append_filter{ops:Array Oper}{rest:List Oper}{o:Oper}{a:Act}{Q:Exit→Act→World→Prop}(hgd:o.guard=none)(s y:Operand)
 (ho:o.op=.call {callee:=.builtin .append,args:=#[s,y],argTypes:=#[49,49]}){w0 w:World}(v:Value)(l:List (Nat×List UInt8×Value))(B id:Nat)(pv:Value)(ps:List UInt8){T:TypeId}{fr:Nat×Nat}
 (hv:a.eval s=v)(hx:a.eval y=.slice (some ⟨B,0,none⟩) 1 1)(hacc:OwnF w0 w v l)(hB:w.heap[B]? =some (.cells #[.int .u64 id,pv] T fr))(hid:id<18446744073709551616)(hr:Rd w pv ps)
 (hap:0<ps.length→∀k,pv.ownBlock=some k→v.ownBlock≠some k)(hb:l.length+1≤1099511627776)
 (h:∀p cap n w',n=l.length+1→OwnF w0 w' (.slice p n cap) (l++[(id,ps,pv)])→Fr (fun k=>v.ownBlock=some k) w w'→wpList Tryz.prog ops Q rest (a.put o.dst (.slice p n cap)) w'):
 wpList Tryz.prog ops Q (o::rest) a w:=by
 obtain⟨i0,hi,hz0,hz1,hz2⟩:=info_parts infoF
 obtain⟨q,qc,rfl⟩:=Rd.slice hr
 refine wpList_append_any w hgd s y 49 49 ho 69 i0 (.agg #[.int .u64 0,.slice none 0 0]) 2 32 Tryz.underlying49 hi hz0 hz1 hz2 rfl (by decide) v l.length (fcs l) hv hacc.own _ 1 [.int .u64 id,.slice q ps.length qc] hx
  (Src.ofSlice w Tryz.underlying49 ⟨B,0,none⟩ 1 1 _ rfl (fun j u hj=> ?_) (fun u hu=> ?_)) (by simp only[maxLen];omega) (by omega) ?_
 ·rw[add_mid,Nat.zero_add]
  match j,hj with
  |0,hj=>simp at hj;subst hj;exact cell_in hB rfl
  |1,hj=>simp at hj;subst hj;exact cell_in hB rfl
  |j+2,hj=>simp at hj
 ·simp only[List.mem_cons,List.not_mem_nil,or_false] at hu
  rcases hu with rfl|rfl<;>rfl
 intro v' w' hown hfr hnew _
 have hA:OwnF w0 w' v' (l++[(id,ps,.slice q ps.length qc)]):=by
  refine⟨hacc.fr.trans' hfr (fun i hi hk=>absurd (hacc.new i hk) (by omega)),by rw[List.length_append,fcs_append];exact hown,fun k hk=> ?_,fun x hx=> ?_⟩
  ·rcases hnew k hk with h|h
   ·exact hacc.new k h
   ·exact Nat.le_trans hacc.fr.size h
  ·have key:x.1<18446744073709551616∧Rd w x.2.2 x.2.1∧(0<x.2.1.length→∀k,x.2.2.ownBlock=some k→v.ownBlock≠some k):=by
    rw[List.mem_append] at hx
    rcases hx with hx|hx
    ·exact hacc.props x hx
    ·simp only[List.mem_singleton] at hx
     subst hx
     exact⟨hid,hr,hap⟩
   refine⟨key.1,Rd.step1 key.2.1 hfr (fun h0 k hk hs=>key.2.2 h0 k hk hs),fun h0 k hk he=> ?_⟩
   rcases hnew k he with h|h
   ·exact key.2.2 h0 k hk h
   ·have:=Rd.lt1 key.2.1 h0 k hk
    omega
 obtain⟨p,cap,rfl⟩:=hA.slice
 exact h p cap _ w' (by simp) hA hfr
end Ch
end Go.Proofs.YtffoddpjfgjelaaGreatDoor
