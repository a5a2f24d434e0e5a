/- Part 23 of 48: lemmas of the last part, each under the conditions that it names. -/
import Derived.Deep.RegionLaw
import Derived.Deep.RegionWith
import Derived.Deep.QuietTactic
import Derived.BigQuiet
import Derived.Laws.EntriesVeiled
import Derived.Test.YtffoddpjfgjelaaGreatDoorQ01
import Derived.Test.YtffoddpjfgjelaaGreatDoorQ02
import Derived.Test.YtffoddpjfgjelaaGreatDoorQ22
set_option linter.unusedVariables false
set_option linter.unusedSimpArgs false
set_option maxRecDepth 1500
set_option maxHeartbeats 4000000
namespace Go.Proofs.YtffoddpjfgjelaaGreatDoor
open Go.RowKit
namespace Ch
open Mem Vi
def fput(id:Nat)(props:List UInt8):List UInt8:=vput id++vput props.length++props
set_option maxRecDepth 100000 in
theorem fput_in(id:Nat)(v:Value)(props:List UInt8)(w:World)(hT:Tab w)(hid:id<9223372036854775808)(hr:Rd w v props)(hl:props.length≤35184372088832):
 Calls Tryz.prog 29 #[.agg #[.int .u64 id,v]] w fun e w'=>∃v',e=.returned (.tuple #[v',.int .i64 0])∧Acc w w' v' (fput id props):=by
 have hfr0:=(R0 w).alloc (.cells #[.int .u64 id,v] 69)
 have hbox:=heap_alloc_new w (.cells #[.int .u64 id,v] 69)
 obtain⟨T,fr,hT⟩:=hT
 have hT0:Tab (w.alloc (.cells #[.int .u64 id,v] 69)):=⟨T,fr,hfr0.keep hT (fun h=>h)⟩
 have hr0:=hr.keep hfr0
 have hvs:∃p cap,v=.slice p props.length cap:=by obtain⟨p,cap,h,_⟩:=hr;exact⟨p,cap,h⟩
 obtain⟨p,cap,rfl⟩:=hvs
 have HB:=Hd hbox
 have HT:=Hd hT0
 have HR:=Hd hr0
 have HF:=Hd hfr0
 clear hr hT hr0 hfr0 hT0 hbox
 have hvl:(vput id).length≤9:=by obtain⟨k,h,h8,_⟩:=vsize_spec id hid;rw[vput_length];omega
 have hpl:props.length<9223372036854775808:=by omega
 have hvl2:(vput props.length).length≤9:=by obtain⟨k,h,h8,_⟩:=vsize_spec _ hpl;rw[vput_length];omega
 go_enter Tryz.func29,Tryz.ntmps29
 go_wp2_with fail
 generalize hW0:World.alloc _ _=W0
 rw[hW0] at HB HT HR HF
 clear hW0
 refine(Vi.put_in id W0 HT.out hid).mono ?_
 rintro e w1 ⟨v1,rfl,hfr1,hn1⟩
 have hA1:=Acc.of_new hn1 hfr1
 obtain⟨p1,cap1,rfl⟩:=hA1.slice
 have hc1:=cell_in (i:=1) (hfr1.keep HB.out (fun h=>h)) rfl
 have hT1:Tab w1:=by obtain⟨T,fr,h⟩:=HT.out;exact⟨T,fr,hfr1.keep h (fun h=>h)⟩
 have HA1:=Hd hA1
 have HT1:=Hd hT1
 clear hA1 hT1 hfr1 hn1
 go_wp2_with fail
 refine(Vi.put_in props.length w1 HT1.out hpl).mono ?_
 rintro e w2 ⟨v2,rfl,hfr2,hn2⟩
 obtain⟨p2,cap2,rfl⟩:=(Acc.of_new hn2 hfr2).slice
 have HA2:=Hd (HA1.out.keep hfr2).drew
 have HRD2:=Hd (hn2.rd.keep (R0 w2).drew)
 have hcx:=cell_in (i:=1) (HA2.out.fr.keep HB.out (fun h=>h)) rfl
 clear hfr2 hn2 HA1 HT1 hc1
 go_wp2_with fail
 go_region_law (first
  | (refine step_bytes rfl _ _ rfl (w0:=W0) (.slice p1 (vput id).length cap1) (.slice p2 (vput props.length).length cap2) (vput id) (vput props.length) (by simp [Act.eval,Act.put]) (by simp [Act.eval,Act.put]) HA2.out HRD2.out (by omega) ?_
     intro p3 cap3 n3 w3 hn3 hA3 hfr3
     have hc3:=cell_in (i:=1) (hA3.fr.keep HB.out (fun h=>h)) rfl
     have HA3:=Hd hA3
     clear hA3 hfr3 hn3)
  | (refine step_bytes rfl _ _ rfl (w0:=W0) (.slice p3 n3 cap3) (.slice p props.length cap) (vput id ++ vput props.length) props (by simp [Act.eval,Act.put]) (by simp [Act.eval,Act.put]) HA3.out (HR.out.keep HA3.out.fr) (by rw [List.length_append]; omega) ?_
     intro p4 cap4 n4 w4 hn4 hA4 hfr4
     have HA4:=Hd hA4
     clear hA4 hfr4 hn4))
 all_goals go_wp2_with fail
 all_goals go_ret2
 all_goals exact⟨_,rfl,HA4.out.older HF.out⟩
end Ch
namespace Ch
open Mem Vi
end Ch
namespace Ch
open Mem Vi
def dictOf(b:Nat):Nat:=if b=40 then 4294967295 else(2+b%2)*2^(b/2+11)
theorem dictOf_pos (b : Nat) : 0 < dictOf b := by unfold dictOf; split; · omega
                                                  · exact Nat.mul_pos (by omega) (Nat.pow_pos (by omega))
theorem dictOf_le(b:Nat)(h:b≤40):dictOf b≤4294967295:=by
 have:∀n:Fin 41,dictOf n.val≤4294967295:=by decide+kernel
 exact this ⟨b,by omega⟩
def readA:Nat→Nat→List (Nat×List UInt8)→Nat×Nat×Nat
 |dist,dict,[]=>if dict=0 then(0,0,4) else(dist,dict,0)
 |dist,dict,(id,ps)::r=>
   if dict≠0∨ps.length≠1 then(0,0,4)
   else if id=3 then(if dist=0 then readA ((ps.headD 0).toNat+1) 0 r else(0,0,4))
   else if id=33 then(if(ps.headD 0).toNat≤40 then readA dist (dictOf (ps.headD 0).toNat) r else(0,0,4))
   else(0,0,4)
def RdF(w:World)(v:Value)(fs:List (Nat×List UInt8)):Prop:=
 ∃p cap,v=.slice p fs.length cap∧fs.length≤cap∧cap≤maxLen∧(0<fs.length→∃b o,p=some ⟨b,o,none⟩∧
  ∀(i:Nat)(f:Nat×List UInt8),fs[i]? =some f→f.1<18446744073709551616∧w.cell? ⟨b,o+i*2,none⟩=some (.int .u64 f.1)∧∃pv,w.cell? ⟨b,o+i*2+1,none⟩=some pv∧Rd w pv f.2)
theorem RdF.keep{w w':World}{v:Value}{fs:List (Nat×List UInt8)}(h:RdF w v fs)(hfr:Fr (fun _=>False) w w'):RdF w' v fs:=by
 obtain⟨p,cap,rfl,h1,h2,h3⟩:=h
 refine⟨p,cap,rfl,h1,h2,fun h0=> ?_⟩
 obtain⟨b,o,rfl,hc⟩:=h3 h0
 have keep:∀{a:Addr}{x:Value},w.cell? a=some x→w'.cell? a=some x:=fun{a x} h=>by
  rw[World.cell?_of_block (w:=w) (hfr.block a.block (block_lt_of_cell h) (fun f=>f))];exact h
 refine⟨b,o,rfl,fun i f hf=> ?_⟩
 obtain⟨h4,h5,pv,h6,h7⟩:=hc i f hf
 exact⟨h4,keep h5,pv,keep h6,h7.keep hfr⟩
theorem dict_calls(b:Nat)(w:World)(h:b≤40):
 Calls Tryz.prog 107 #[.int .i64 b] w fun e w'=>e=.returned (.int .i64 (dictOf b))∧w=w':=by
 by_cases h40:b=40
 ·have hb:((b:Int)==40)=true:=by simp;omega
  have hd:((dictOf b:Nat):Int)=4294967295:=by
   have:dictOf b=4294967295:=by unfold dictOf;rw[if_pos h40]
   omega
  have HD:=Hd hd
  clear hd h40
  go_enter Tryz.func107,Tryz.ntmps107
  go_wp2
  go_ret
  exact⟨ret_int HD.out.symm,rfl⟩
 ·have hb:((b:Int)==40)=false:=by simp;omega
  have hd:((dictOf b:Nat):Int)=wrap64 ((2+(b:Int)%2)*2^(b/2+11)):=by
   have h1:∀n:Fin 40,((dictOf n.val:Nat):Int)=wrap64 ((2+(n.val:Int)%2)*2^(n.val/2+11)):=by decide+kernel
   exact h1 ⟨b,by omega⟩
  have HD:=Hd hd
  clear hd
  go_enter Tryz.func107,Tryz.ntmps107
  go_wp2
  go_ret
  exact⟨ret_int HD.out.symm,rfl⟩
theorem byteDict_in(b:Nat)(w:World)(h:b≤40):
 Calls Tryz.prog 110 #[.int .i64 b] w fun e w'=>e=.returned (.tuple #[.int .i64 (dictOf b),.int .i64 0])∧w=w':=by
 have hd:decide ((b:Int)<0)=false:=by simp
 have hc:=dict_calls b w h
 have HC:=Hd hc
 clear hc
 go_enter Tryz.func110,Tryz.ntmps110
 go_wp2_with fail
 refine HC.out.mono ?_
 rintro e w' ⟨rfl,rfl⟩
 go_wp2_with fail
 go_ret2
 exact⟨rfl,rfl⟩
theorem byteDict_out(b:Nat)(w:World)(h:40<b)(h2:b≤255):
 Calls Tryz.prog 110 #[.int .i64 b] w fun e w'=>e=.returned (.tuple #[.int .i64 0,.int .i64 4])∧w=w':=by
 have hd:decide ((b:Int)<0)=false:=by simp
 go_enter Tryz.func110,Tryz.ntmps110
 go_wp2_with fail
 go_ret2
 exact⟨rfl,rfl⟩
theorem delta_calls(P b:Nat)(dist dict:Nat)(w:World)(hP:w.heap[P]? =some (.cells #[.int .i64 dist,.int .i64 dict] 131 (0,0)))(hb:b≤255)(hd:dist≤256):
 Calls Tryz.prog 108 #[.pointer (some ⟨P,0,none⟩),.int .u8 b] w fun e w'=>e=.returned (.bool (decide (dist=0)))∧Fr (fun k=>k=P) w w'∧w'.heap[P]? =some (.cells #[.int .i64 ((b+1:Nat):Int),.int .i64 dict] 131 (0,0)):=by
 have hc0:=cell_in (i:=0) hP rfl
 have hf0:=frozen_in hP 0
 have HP:=Hd hP
 clear hP
 go_enter Tryz.func108,Tryz.ntmps108
 go_wp2_with fail
 go_ret
 refine⟨ret_bool ?_,Fr.one _ _ _ _,?_⟩
 ·by_cases h:dist=0<;>simp[h]
 ·rw[set_in HP.out];simp
theorem lzma_in(P b:Nat)(dist dict:Nat)(w:World)(hP:w.heap[P]? =some (.cells #[.int .i64 dist,.int .i64 dict] 131 (0,0)))(hb:b≤40):
 Calls Tryz.prog 109 #[.pointer (some ⟨P,0,none⟩),.int .u8 b] w fun e w'=>e=.returned (.bool true)∧Fr (fun k=>k=P) w w'∧w'.heap[P]? =some (.cells #[.int .i64 dist,.int .i64 (dictOf b)] 131 (0,0)):=by
 have hc0:=cell_in (i:=1) hP rfl
 have hf0:=frozen_in hP 1
 have HP:=Hd hP
 have HC:=Hd (byteDict_in b w hb)
 clear hP
 go_enter Tryz.func109,Tryz.ntmps109
 go_wp2_with fail
 refine HC.out.mono ?_
 rintro e w' ⟨rfl,rfl⟩
 go_wp2_with fail
 go_ret
 exact⟨rfl,Fr.one _ _ _ _,by rw[set_in HP.out];simp⟩
theorem lzma_out(P b:Nat)(dist dict:Nat)(w:World)(hP:w.heap[P]? =some (.cells #[.int .i64 dist,.int .i64 dict] 131 (0,0)))(hb:40<b)(hb2:b≤255):
 Calls Tryz.prog 109 #[.pointer (some ⟨P,0,none⟩),.int .u8 b] w fun e w'=>e=.returned (.bool false)∧Fr (fun k=>k=P) w w':=by
 have hc0:=cell_in (i:=1) hP rfl
 have hf0:=frozen_in hP 1
 have HP:=Hd hP
 have HC:=Hd (byteDict_out b w hb hb2)
 clear hP
 go_enter Tryz.func109,Tryz.ntmps109
 go_wp2_with fail
 refine HC.out.mono ?_
 rintro e w' ⟨rfl,rfl⟩
 go_wp2_with fail
 go_ret
 exact⟨rfl,Fr.one _ _ _ _⟩
def readers:Array Value:=#[.int .u64 3,.bool false,.func (Fn.func 108) #[] #[],.int .u64 33,.bool true,.func (Fn.func 109) #[] #[]]
theorem known_calls(w:World):
 Calls Tryz.prog 61 #[] w fun e w'=>e=.returned (.slice (some ⟨w.heap.size,0,none⟩) 2 2)∧w'=w.alloc (.cells readers 136):=by
 go_enter Tryz.func61,Tryz.ntmps61
 go_wp2_with fail
 go_ret
 exact⟨rfl,rfl⟩
end Ch
namespace Ch
open Mem Vi
def ReadRel(w0:World)(P:Nat)(fs:List (Nat×List UInt8))(i:Value)(wr:World):Prop:=
 ∃k dist dict:Nat,k≤fs.length∧i=.int .i64 k∧dist≤256∧dict≤4294967295∧Fr (fun _=>False) w0 wr∧wr.heap[P]? =some (.cells #[.int .i64 dist,.int .i64 dict] 131 (0,0))∧readA dist dict (fs.drop k)=readA 0 0 fs
def ReadPost(fs:List (Nat×List UInt8))(w:World)(e:Ending)(w':World):Prop:=
 e=.returned (.tuple #[.int .i64 ((readA 0 0 fs).1:Nat),.int .i64 ((readA 0 0 fs).2.1:Nat),.int .i64 ((readA 0 0 fs).2.2:Nat)])∧Fr (fun _=>False) w w'
theorem readA_step{dist dict k:Nat}{fs:List (Nat×List UInt8)}{id:Nat}{ps:List UInt8}(h:readA dist dict (fs.drop k)=readA 0 0 fs)(hf:fs[k]? =some (id,ps)):
 readA 0 0 fs=if dict≠0∨ps.length≠1 then(0,0,4)
 else if id=3 then(if dist=0 then readA ((ps.headD 0).toNat+1) 0 (fs.drop (k+1)) else(0,0,4))
 else if id=33 then(if(ps.headD 0).toNat≤40 then readA dist (dictOf (ps.headD 0).toNat) (fs.drop (k+1)) else(0,0,4))
 else(0,0,4):=by
 rw[←h]
 obtain⟨hlt,he⟩:=List.getElem?_eq_some_iff.1 hf
 rw[List.drop_eq_getElem_cons hlt,he]
 rfl
theorem frCell{S:Nat→Prop}{w w':World}{a:Addr}{v:Value}(h:Fr S w w')(hc:w.cell? a=some v)(hn:¬S a.block):w'.cell? a=some v:=by
 rw[World.cell?_of_block (w:=w) (h.block a.block (block_lt_of_cell hc) hn)];exact hc
set_option maxRecDepth 100000 in
theorem read_calls(v:Value)(fs:List (Nat×List UInt8))(w:World)(hr:RdF w v fs):
 Calls Tryz.prog 27 #[v] w (ReadPost fs w):=by
 have hfr0:=(R0 w).alloc (.cells #[.int .i64 0,.int .i64 0] 131)
 have hP0:=heap_alloc_new w (.cells #[.int .i64 0,.int .i64 0] 131)
 obtain⟨p,cap,rfl,hle,hm,hcells⟩:=hr
 have hlen:fs.length≤9223372036854775807:=by simp only[maxLen] at hm;omega
 have HC:=Hd hcells
 have HP0:=Hd hP0
 have HF0:=Hd hfr0
 clear hcells hm hfr0 hP0
 go_enter Tryz.func27,Tryz.ntmps27
 go_wp2_with fail
 go_loopw [13] (fun i wr=>ReadRel w w.heap.size fs i wr) (fun i _=>fs.length-(intOf i).toNat)
 case atStart=>exact⟨0,0,0,by omega,rfl,by omega,by omega,HF0.out,HP0.out,by simp⟩
 case round=>
  obtain⟨k,dist,dict,hk,rfl,hd1,hd2,hfr,hP,hA⟩:=hrel
  by_cases hlt:k<fs.length
  ·obtain⟨b,o,rfl,hcs⟩:=HC.out (by omega)
   obtain⟨⟨id,ps⟩,hf⟩:∃f,fs[k]? =some f:=⟨fs[k],by simp⟩
   obtain⟨hidb,hc1,pv,hc2,hpv⟩:=hcs k (id,ps) hf
   have hst:=readA_step hA hf
   obtain⟨pp,pc,rfl,hple,hpm,hpc⟩:=hpv.keep hfr
   have keep:∀{a:Addr}{x:Value},w.cell? a=some x→wr.cell? a=some x:=fun{a x} h=>by
    rw[World.cell?_of_block (w:=w) (hfr.block a.block (block_lt_of_cell h) (fun f=>f))];exact h
   have hd1':=keep hc1
   have hd2':=keep hc2
   have hPd:=cell_in (i:=1) hP rfl
   have hPlt:=lt_of_block hP
   simp only at hd1' hd2'
   have HST:=Hd hst
   have HPB:=Hd hP
   have HPC:=Hd hpc
   clear hcs hf hc1 hc2 hpv hst hpc hpm keep hA hP
   generalize hl:ps.length=l at*
   have HL:=Hd hl
   clear hl
   by_cases hbad:dict≠0∨l≠1
   ·have hfin:readA 0 0 fs=(0,0,4):=by rw[HST.out,if_pos (by have:=HL.out;omega)]
    have HFIN:=Hd hfin
    clear hfin
    have hor:((dict:Int)==0)=false∨(((dict:Int)==0)=true∧((l:Int)==1)=false):=by
     by_cases h:dict=0
     ·right;exact⟨by simp[h],by simp;omega⟩
     ·left;simp;omega
    clear hbad
    have hid3:((3:Int)==(id:Int))=true∧((33:Int)==(id:Int))=false∨((3:Int)==(id:Int))=false∧((33:Int)==(id:Int))=true∨((3:Int)==(id:Int))=false∧((33:Int)==(id:Int))=false:=by
     simp only[beq_iff_eq,beq_eq_false_iff_ne]
     omega
    rcases hor with hq|⟨hq,hq2⟩<;>rcases hid3 with⟨h3,h33⟩|⟨h3,h33⟩|⟨h3,h33⟩
    all_goals
     go_wp2_with fail
     refine(known_calls _).mono ?_
     rintro e w' ⟨rfl,rfl⟩
     have hfr2:Fr (fun _=>False) w ((wr.alloc (.cells #[.int .u64 id,.slice pp l pc] 69)).alloc (.cells readers 136)):=(hfr.alloc _).alloc _
     have g0:=alloc_keep (alloc_keep hPd (.cells #[.int .u64 id,.slice pp l pc] 69)) (.cells readers 136)
     have g1:=fun j v(h:#[Value.int .u64 id,.slice pp l pc][j]? =some v)=>alloc_keep (cell_in (heap_alloc_new wr (.cells #[.int .u64 id,.slice pp l pc] 69)) h) (.cells readers 136)
     have g2:=fun j v(h:readers[j]? =some v)=>cell_in (heap_alloc_new (wr.alloc (.cells #[.int .u64 id,.slice pp l pc] 69)) (.cells readers 136)) h
     have g11:=g1 0 (.int .u64 id) rfl
     have g12:=g1 1 (.slice pp l pc) rfl
     have g20:=g2 0 (.int .u64 3) rfl
     have g21:=g2 1 (.bool false) rfl
     have g22:=g2 2 (.func (Fn.func 108) #[] #[]) rfl
     have g23:=g2 3 (.int .u64 33) rfl
     have g24:=g2 4 (.bool true) rfl
     have g25:=g2 5 (.func (Fn.func 109) #[] #[]) rfl
     simp only[World.size_alloc] at g20 g21 g22 g23 g24 g25
     generalize hW2:World.alloc (World.alloc wr _) _=W2 at*
     clear g1 g2 hW2 hfr
     have a0:=alloc_keep g0
     have a1:=alloc_keep g11
     have a2:=alloc_keep g12
     have a3:=alloc_keep g23
     have a4:=alloc_keep g24
     have a5:=alloc_keep g25
     have b0:=fun o=>alloc_keep (a0 o)
     have b1:=fun o=>alloc_keep (a1 o)
     have b2:=fun o=>alloc_keep (a2 o)
     go_wp2_with fail
     refine wp_loop_rounds 3 ?_
     repeat any_goals(rw[rounds_succ];go_wp2_with fail)
     go_ret3
     exact⟨by rw[HFIN.out];rfl,by repeat(first|exact hfr2|apply Fr.alloc)⟩
   ·obtain⟨rfl,rfl⟩:dict=0∧l=1:=by omega
    obtain⟨bb,bo,rfl,hpb⟩:=HPC.out (by have:=HL.out;omega)
    obtain⟨x8,hx8⟩:∃x,ps[0]? =some x:=⟨ps[0]'(by have:=HL.out;omega),by simp⟩
    have hpx:=hpb 0 x8 hx8
    have hhd:ps.headD 0=x8:=by
     cases ps with
     |nil=>simp at hx8
     |cons y ys=>simpa using hx8
    have hst2:=HST.out
    rw[if_neg (by have:=HL.out;omega),hhd] at hst2
    have hx:=UInt8.toNat_lt x8
    unfold bv at hpx
    rw[Nat.add_zero] at hpx
    generalize x8.toNat=x at*
    have HST2:=Hd hst2
    have HX8:=Hd hx8
    have hxc:=alloc_keep hpx (.cells #[.int .u64 id,.slice (some ⟨bb,bo,none⟩) 1 pc] 69)
    have hxd:=alloc_keep hxc (.cells readers 136)
    have HP2:=Hd (((R0 wr).alloc (.cells #[.int .u64 id,.slice (some ⟨bb,bo,none⟩) 1 pc] 69)).alloc (.cells readers 136)|>.keep HPB.out (fun h=>h))
    have HPL:=Hd hPlt
    clear hst2 hx8 hpb hhd hpx hxc hbad HPB HST HPC hPlt
    by_cases h3:id=3
    ·have q3:((3:Int)==(id:Int))=true:=by simp[h3]
     have q33:((33:Int)==(id:Int))=false:=by simp[h3]
     have H3:=Hd h3
     clear h3
     go_wp2_with fail
     refine(known_calls _).mono ?_
     rintro e w' ⟨rfl,rfl⟩
     have hfr2:Fr (fun _=>False) w ((wr.alloc (.cells #[.int .u64 id,.slice (some ⟨bb,bo,none⟩) 1 pc] 69)).alloc (.cells readers 136)):=(hfr.alloc _).alloc _
     have g0:=alloc_keep (alloc_keep hPd (.cells #[.int .u64 id,.slice (some ⟨bb,bo,none⟩) 1 pc] 69)) (.cells readers 136)
     have g1:=fun j v(h:#[Value.int .u64 id,.slice (some ⟨bb,bo,none⟩) 1 pc][j]? =some v)=>alloc_keep (cell_in (heap_alloc_new wr (.cells #[.int .u64 id,.slice (some ⟨bb,bo,none⟩) 1 pc] 69)) h) (.cells readers 136)
     have g2:=fun j v(h:readers[j]? =some v)=>cell_in (heap_alloc_new (wr.alloc (.cells #[.int .u64 id,.slice (some ⟨bb,bo,none⟩) 1 pc] 69)) (.cells readers 136)) h
     have g11:=g1 0 (.int .u64 id) rfl
     have g12:=g1 1 (.slice (some ⟨bb,bo,none⟩) 1 pc) rfl
     have g20:=g2 0 (.int .u64 3) rfl
     have g21:=g2 1 (.bool false) rfl
     have g22:=g2 2 (.func (Fn.func 108) #[] #[]) rfl
     have g23:=g2 3 (.int .u64 33) rfl
     have g24:=g2 4 (.bool true) rfl
     have g25:=g2 5 (.func (Fn.func 109) #[] #[]) rfl
     simp only[World.size_alloc] at g20 g21 g22 g23 g24 g25
     generalize hW2:World.alloc (World.alloc wr _) _=W2 at*
     have hB1:(wr.heap.size:Nat)+1<W2.heap.size:=by rw[←hW2];simp
     clear g1 g2 hW2 hfr
     have a0:=alloc_keep g0
     have a1:=alloc_keep g11
     have a2:=alloc_keep g12
     have a3:=alloc_keep g23
     have a4:=alloc_keep g24
     have a5:=alloc_keep g25
     have b0:=fun o=>alloc_keep (a0 o)
     have b1:=fun o=>alloc_keep (a1 o)
     have b2:=fun o=>alloc_keep (a2 o)
     have a6:=alloc_keep hxd
     have b6:=fun o=>alloc_keep (a6 o)
     go_wp2_with fail
     refine wp_loop_rounds 3 ?_
     rw[rounds_succ]
     go_wp2_with fail
     have hPk:=Hd (((R0 W2).alloc (.cells #[.int .u64 3,.bool false,.func (Fn.func 108) #[] #[]] 136)).drew.keep HP2.out (fun h=>h))
     go_region_with ((refine(delta_calls w.heap.size x dist 0 _ hPk.out (by omega) hd1).mono ?_);rintro e w3 ⟨rfl,hfr3,hP3⟩)
     all_goals
      have hpl:=HPL.out
      have c1:=frCell (hfr3) (a1 _) (by simp only;omega)
      have c2:=frCell (hfr3) (a2 _) (by simp only;omega)
      have c3:=frCell (hfr3) (a3 _) (by simp only;omega)
      have c4:=frCell (hfr3) (a4 _) (by simp only;omega)
      have c5:=frCell (hfr3) (a5 _) (by simp only;omega)
      have c0:=cell_in (i:=1) hP3 rfl
      have d0:=alloc_keep c0
      have d1:=alloc_keep c1
      have d2:=alloc_keep c2
      have hfr4:Fr (fun _=>False) w w3:=((hfr2.alloc _).drew).trans' hfr3 (fun i hi(h:i=_)=>by omega)
      have HP3:=Hd hP3
      clear a0 a1 a2 a3 a4 a5 a6 b0 b1 b2 b6 hP3 hfr3 g0 g11 g12 g20 g21 g22 g23 g24 g25 hPk HP2
      by_cases hz:dist=0
      ·have hdz:decide (dist=0)=true:=by simp[hz]
       have hst3:=HST2.out
       rw[if_pos H3.out,if_pos hz] at hst3
       have HST3:=Hd hst3
       clear hst3 hz HST2
       rw[hdz]
       go_wp2_with fail
       rw[rounds_succ]
       go_wp2_with fail
       rw[rounds_succ]
       go_wp2_with fail
       go_roundw
       case rel=>exact⟨k+1,x+1,0,by omega,by go_num,by omega,by omega,hfr4.alloc _,((R0 w3).alloc _).keep HP3.out (fun h=>h),HST3.out.symm⟩
       case measure=>simp[intOf];omega
      ·have hdz:decide (dist=0)=false:=by simp[hz]
       have hst3:=HST2.out
       rw[if_pos H3.out,if_neg hz] at hst3
       have HST3:=Hd hst3
       clear hst3 hz HST2
       rw[hdz]
       go_wp2_with fail
       rw[rounds_succ]
       go_wp2_with fail
       rw[rounds_succ]
       go_wp2_with fail
       go_ret3
       exact⟨by rw[HST3.out];rfl,hfr4.alloc _⟩
    ·by_cases h33:id=33
     ·have q3:((3:Int)==(id:Int))=false:=by simp;omega
      have q33:((33:Int)==(id:Int))=true:=by simp[h33]
      have H3:=Hd h3
      have H33:=Hd h33
      clear h3 h33
      go_wp2_with fail
      refine(known_calls _).mono ?_
      rintro e w' ⟨rfl,rfl⟩
      have hfr2:Fr (fun _=>False) w ((wr.alloc (.cells #[.int .u64 id,.slice (some ⟨bb,bo,none⟩) 1 pc] 69)).alloc (.cells readers 136)):=(hfr.alloc _).alloc _
      have g0:=alloc_keep (alloc_keep hPd (.cells #[.int .u64 id,.slice (some ⟨bb,bo,none⟩) 1 pc] 69)) (.cells readers 136)
      have g1:=fun j v(h:#[Value.int .u64 id,.slice (some ⟨bb,bo,none⟩) 1 pc][j]? =some v)=>alloc_keep (cell_in (heap_alloc_new wr (.cells #[.int .u64 id,.slice (some ⟨bb,bo,none⟩) 1 pc] 69)) h) (.cells readers 136)
      have g2:=fun j v(h:readers[j]? =some v)=>cell_in (heap_alloc_new (wr.alloc (.cells #[.int .u64 id,.slice (some ⟨bb,bo,none⟩) 1 pc] 69)) (.cells readers 136)) h
      have g11:=g1 0 (.int .u64 id) rfl
      have g12:=g1 1 (.slice (some ⟨bb,bo,none⟩) 1 pc) rfl
      have g20:=g2 0 (.int .u64 3) rfl
      have g21:=g2 1 (.bool false) rfl
      have g22:=g2 2 (.func (Fn.func 108) #[] #[]) rfl
      have g23:=g2 3 (.int .u64 33) rfl
      have g24:=g2 4 (.bool true) rfl
      have g25:=g2 5 (.func (Fn.func 109) #[] #[]) rfl
      simp only[World.size_alloc] at g20 g21 g22 g23 g24 g25
      generalize hW2:World.alloc (World.alloc wr _) _=W2 at*
      have hB1:(wr.heap.size:Nat)+1<W2.heap.size:=by rw[←hW2];simp
      clear g1 g2 hW2 hfr
      have a0:=alloc_keep g0
      have a1:=alloc_keep g11
      have a2:=alloc_keep g12
      have a3:=alloc_keep g23
      have a4:=alloc_keep g24
      have a5:=alloc_keep g25
      have b0:=fun o=>alloc_keep (a0 o)
      have b1:=fun o=>alloc_keep (a1 o)
      have b2:=fun o=>alloc_keep (a2 o)
      have a6:=alloc_keep hxd
      have b6:=fun o=>alloc_keep (a6 o)
      go_wp2_with fail
      refine wp_loop_rounds 3 ?_
      rw[rounds_succ]
      go_wp2_with fail
      rw[rounds_succ]
      go_wp2_with fail
      have hPk:=Hd ((((R0 W2).alloc (.cells #[.int .u64 3,.bool false,.func (Fn.func 108) #[] #[]] 136)).alloc (.cells #[.int .u64 33,.bool true,.func (Fn.func 109) #[] #[]] 136)).drew.keep HP2.out (fun h=>h))
      have hpl:=HPL.out
      by_cases h40:x≤40
      ·have hst3:=HST2.out
       rw[if_neg H3.out,if_pos H33.out,if_pos h40] at hst3
       have HST3:=Hd hst3
       clear hst3 HST2
       go_region_with ((refine(lzma_in w.heap.size x dist 0 _ hPk.out h40).mono ?_);rintro e w3 ⟨rfl,hfr3,hP3⟩)
       all_goals
        have hfr4:Fr (fun _=>False) w w3:=(((hfr2.alloc _).alloc _).drew).trans' hfr3 (fun i hi(h:i=_)=>by omega)
        have HP3:=Hd hP3
        have hdl:=dictOf_le x h40
        clear a0 a1 a2 a3 a4 a5 a6 b0 b1 b2 b6 hP3 hfr3 g0 g11 g12 g20 g21 g22 g23 g24 g25 hPk HP2
        go_wp2_with fail
        rw[rounds_succ]
        go_wp2_with fail
        go_roundw
        case rel=>exact⟨k+1,dist,dictOf x,by omega,by go_num,hd1,hdl,hfr4,HP3.out,HST3.out.symm⟩
        case measure=>simp[intOf];omega
      ·have hst3:=HST2.out
       rw[if_neg H3.out,if_pos H33.out,if_neg h40] at hst3
       have HST3:=Hd hst3
       clear hst3 HST2
       go_region_with ((refine(lzma_out w.heap.size x dist 0 _ hPk.out (by omega) (by omega)).mono ?_);rintro e w3 ⟨rfl,hfr3⟩)
       all_goals
        have hfr4:Fr (fun _=>False) w w3:=(((hfr2.alloc _).alloc _).drew).trans' hfr3 (fun i hi(h:i=_)=>by omega)
        clear a0 a1 a2 a3 a4 a5 a6 b0 b1 b2 b6 hfr3 g0 g11 g12 g20 g21 g22 g23 g24 g25 hPk HP2
        go_wp2_with fail
        rw[rounds_succ]
        go_wp2_with fail
        go_ret3
        exact⟨by rw[HST3.out];rfl,hfr4⟩
     ·have q3:((3:Int)==(id:Int))=false:=by simp;omega
      have q33:((33:Int)==(id:Int))=false:=by simp;omega
      have hst3:=HST2.out
      rw[if_neg h3,if_neg h33] at hst3
      have HST3:=Hd hst3
      clear h3 h33 hst3 HST2
      go_wp2_with fail
      refine(known_calls _).mono ?_
      rintro e w' ⟨rfl,rfl⟩
      have hfr2:Fr (fun _=>False) w ((wr.alloc (.cells #[.int .u64 id,.slice (some ⟨bb,bo,none⟩) 1 pc] 69)).alloc (.cells readers 136)):=(hfr.alloc _).alloc _
      have g0:=alloc_keep (alloc_keep hPd (.cells #[.int .u64 id,.slice (some ⟨bb,bo,none⟩) 1 pc] 69)) (.cells readers 136)
      have g1:=fun j v(h:#[Value.int .u64 id,.slice (some ⟨bb,bo,none⟩) 1 pc][j]? =some v)=>alloc_keep (cell_in (heap_alloc_new wr (.cells #[.int .u64 id,.slice (some ⟨bb,bo,none⟩) 1 pc] 69)) h) (.cells readers 136)
      have g2:=fun j v(h:readers[j]? =some v)=>cell_in (heap_alloc_new (wr.alloc (.cells #[.int .u64 id,.slice (some ⟨bb,bo,none⟩) 1 pc] 69)) (.cells readers 136)) h
      have g11:=g1 0 (.int .u64 id) rfl
      have g12:=g1 1 (.slice (some ⟨bb,bo,none⟩) 1 pc) rfl
      have g20:=g2 0 (.int .u64 3) rfl
      have g21:=g2 1 (.bool false) rfl
      have g22:=g2 2 (.func (Fn.func 108) #[] #[]) rfl
      have g23:=g2 3 (.int .u64 33) rfl
      have g24:=g2 4 (.bool true) rfl
      have g25:=g2 5 (.func (Fn.func 109) #[] #[]) rfl
      simp only[World.size_alloc] at g20 g21 g22 g23 g24 g25
      generalize hW2:World.alloc (World.alloc wr _) _=W2 at*
      have hB1:(wr.heap.size:Nat)+1<W2.heap.size:=by rw[←hW2];simp
      clear g1 g2 hW2 hfr
      have a0:=alloc_keep g0
      have a1:=alloc_keep g11
      have a2:=alloc_keep g12
      have a3:=alloc_keep g23
      have a4:=alloc_keep g24
      have a5:=alloc_keep g25
      have b0:=fun o=>alloc_keep (a0 o)
      have b1:=fun o=>alloc_keep (a1 o)
      have b2:=fun o=>alloc_keep (a2 o)
      have a6:=alloc_keep hxd
      have b6:=fun o=>alloc_keep (a6 o)
      go_wp2_with fail
      refine wp_loop_rounds 3 ?_
      rw[rounds_succ]
      go_wp2_with fail
      rw[rounds_succ]
      go_wp2_with fail
      rw[rounds_succ]
      go_wp2_with fail
      go_ret3
      exact⟨by rw[HST3.out];rfl,by repeat(first|exact hfr2|apply Fr.alloc)⟩
  ·obtain rfl:k=fs.length:=by omega
   have hst:readA 0 0 fs=if dict=0 then(0,0,4) else(dist,dict,0):=by rw[←hA,List.drop_length];rfl
   obtain⟨hPc,hPd⟩:=cs2 hP rfl rfl
   have HST:=Hd hst
   clear hst hA hP
   by_cases hz:dict=0
   ·have hq:((dict:Int)==0)=true:=by simp[hz]
    have hs2:=HST.out
    rw[if_pos hz] at hs2
    have HS2:=Hd hs2
    clear hz hs2 HST
    go_wp2_with fail
    go_ret3
    exact⟨by rw[HS2.out];rfl,hfr⟩
   ·have hq:((dict:Int)==0)=false:=by simp[hz]
    have hs2:=HST.out
    rw[if_neg hz] at hs2
    have HS2:=Hd hs2
    clear hz hs2 HST
    go_wp2_with fail
    go_quiet (fail)
    go_wp2_with fail
    go_ret3
    exact⟨by rw[HS2.out];rfl,hfr.drewN _⟩
end Ch
end Go.Proofs.YtffoddpjfgjelaaGreatDoor
namespace Go.Proofs.YtffoddpjfgjelaaGreatDoor
namespace Dl
def old(h:List UInt8)(d:Nat):UInt8:=if d≤h.length then h.getD (h.length-d) 0 else 0
def outOf(back:Bool)(h:List UInt8)(d:Nat)(c:UInt8):UInt8:=if back then c+old h d else c-old h d
def plainOf(back:Bool)(h:List UInt8)(d:Nat)(c:UInt8):UInt8:=if back then c+old h d else c
def go(back:Bool)(d:Nat):List UInt8→List UInt8→List UInt8
 |[],_=>[]
 |c::l,h=>outOf back h d c::go back d l (h++[plainOf back h d c])
def hist(back:Bool)(d:Nat):List UInt8→List UInt8→List UInt8
 |[],h=>h
 |c::l,h=>hist back d l (h++[plainOf back h d c])
theorem go_len(back:Bool)(d:Nat):∀(l h:List UInt8),(go back d l h).length=l.length
 |[],_=>rfl
 |c::l,h=>by rw[go,List.length_cons,go_len back d l,List.length_cons]
theorem back_go(d:Nat):∀(l h:List UInt8),go true d (go false d l h) h=l
 |[],_=>rfl
 |c::l,h=>by
   have e:outOf true h d (outOf false h d c)=c:=by
    unfold outOf
    simp only[Bool.false_eq_true,if_false,if_true]
    rw[UInt8.sub_add_cancel]
   have e2:plainOf true h d (outOf false h d c)=plainOf false h d c:=by
    unfold plainOf outOf
    simp only[Bool.false_eq_true,if_false,if_true]
    rw[UInt8.sub_add_cancel]
   rw[go,go,e,e2,back_go d l]
theorem go_snoc(back:Bool)(d:Nat)(c:UInt8):∀(l h:List UInt8),go back d (l++[c]) h=go back d l h++[outOf back (hist back d l h) d c]
 |[],h=>rfl
 |x::l,h=>by
   show outOf back h d x::go back d (l++[c]) _=_
   rw[go_snoc back d c l]
   rfl
theorem hist_snoc(back:Bool)(d:Nat)(c:UInt8):∀(l h:List UInt8),hist back d (l++[c]) h=hist back d l h++[plainOf back (hist back d l h) d c]
 |[],h=>rfl
 |x::l,h=>by
   show hist back d (l++[c]) _=_
   rw[hist_snoc back d c l]
   rfl
theorem hist_len(back:Bool)(d:Nat):∀(l h:List UInt8),(hist back d l h).length=h.length+l.length
 |[],h=>rfl
 |x::l,h=>by
   rw[hist,hist_len back d l,List.length_append,List.length_cons,List.length_cons,List.length_nil]
   omega
structure RingD(ring h:List UInt8):Prop where
 len:ring.length=256
 at':∀k,1≤k→k≤256→ring.getD ((h.length+256-k)%256) 0=old h k
theorem RingD.new:RingD (List.replicate 256 0) []:=⟨List.length_replicate,fun k h1 h2=>by
 rw[List.getD_eq_getElem?_getD,List.getElem?_replicate]
 unfold old
 have hn:¬k≤([]:List UInt8).length:=by simp;omega
 rw[if_neg hn]
 split<;>rfl⟩
theorem RingD.step{ring h:List UInt8}(hr:RingD ring h)(c:UInt8):RingD (ring.set (h.length%256) c) (h++[c]):=by
 refine⟨by rw[List.length_set];exact hr.len,fun k h1 h2=> ?_⟩
 have hl:=hr.len
 rw[List.length_append,List.length_singleton,List.getD_eq_getElem?_getD,List.getElem?_set]
 by_cases hk:k=1
 ·subst hk
  rw[if_pos (by omega),if_pos (by omega)]
  unfold old
  rw[if_pos (by simp),List.length_append,List.length_singleton,Nat.add_sub_cancel,List.getD_eq_getElem?_getD,List.getElem?_append_right (Nat.le_refl _),Nat.sub_self]
  rfl
 ·rw[if_neg (by omega)]
  have:=hr.at' (k-1) (by omega) (by omega)
  rw[List.getD_eq_getElem?_getD,show(h.length+256-(k-1))%256=(h.length+1+256-k)%256 by congr 1;omega] at this
  rw[this]
  unfold old
  rw[List.length_append,List.length_singleton]
  by_cases h3:k-1≤h.length
  ·rw[if_pos h3,if_pos (by omega),List.getD_eq_getElem?_getD,List.getD_eq_getElem?_getD,List.getElem?_append_left (by omega),show h.length+1-k=h.length-(k-1) by omega]
  ·rw[if_neg h3,if_neg (by omega)]
end Dl
end Go.Proofs.YtffoddpjfgjelaaGreatDoor
namespace Go.Proofs.YtffoddpjfgjelaaGreatDoor
open Go.RowKit
namespace Dl
open Mem Win
def fcells(ring:List UInt8)(at' d:Nat)(back:Bool):Array Value:=(bvs ring++([.int .i64 at',.int .i64 d,.bool back]:List Value)).toArray
def FAt(w:World)(F:Nat)(h:List UInt8)(d:Nat)(back:Bool):Prop:=∃ring,RingD ring h∧w.heap[F]? =some (.cells (fcells ring (h.length%256) d back) 353 (0,0))
theorem zero_cells:Tryz.zeroCells353=(bvs (List.replicate 256 0)++([.int .i64 0,.int .i64 0,.bool false]:List Value)).toArray:=by kernel_rfl
theorem new_cells(d:Nat)(back:Bool):(Tryz.zeroCells353.setIfInBounds 257 (.int .i64 d)).setIfInBounds 258 (.bool back)=fcells (List.replicate 256 0) 0 d back:=by
 have hl:(bvs (List.replicate 256 0)).length=256:=by rw[bvs_length,List.length_replicate]
 rw[zero_cells,List.setIfInBounds_toArray,List.setIfInBounds_toArray,List.set_append_right _ _ (by omega),List.set_append_right _ _ (by omega),hl]
 rfl
theorem new_in(d:Nat)(back:Bool)(w:World)(h1:1≤d)(h2:d≤256):
 Calls Tryz.prog 165 #[.int .i64 d,.bool back] w fun e w'=>e=.returned (.tuple #[.pointer (some ⟨w.heap.size,0,none⟩),.int .i64 0])∧Fr (fun _=>False) w w'∧FAt w' w.heap.size [] d back:=by
 have t1:decide ((d:Int)<1)=false:=by simp;omega
 have t2:decide ((d:Int)>256)=false:=by simp;omega
 have t3:decide ((256:Int)<d)=false:=by simp;omega
 go_enter Tryz.func165,Tryz.ntmps165
 go_wp2_with fail
 go_ret2
 rw[new_cells]
 exact⟨rfl,(Fr.refl _ _).alloc _,_,RingD.new,heap_alloc_new w _⟩
end Dl
end Go.Proofs.YtffoddpjfgjelaaGreatDoor
