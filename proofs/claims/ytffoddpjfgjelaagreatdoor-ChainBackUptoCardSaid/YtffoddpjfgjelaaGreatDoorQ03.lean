/- Part 3 of 48: lemmas of the last part, each under the conditions that it names. -/
import Derived.Deep.RegionLaw
import Derived.Deep.QuietTactic
import Derived.BigQuiet
import Derived.LoopN
import Derived.Laws.CopyOwn
import Derived.Deep.DeepCutAuto
import Derived.Test.YtffoddpjfgjelaaGreatDoorQ02
set_option linter.unusedVariables false
set_option linter.unusedSimpArgs false
set_option maxRecDepth 1500
set_option maxHeartbeats 8000000
namespace Go.Proofs.YtffoddpjfgjelaaGreatDoor
open Go.RowKit
namespace Win
open Mem
theorem rd_step1{S:Nat→Prop}{w w':World}{v:Value}{xs:List UInt8}(h:Rd w v xs)(hfr:Fr S w w')(hS:0<xs.length→∀k,v.ownBlock=some k→¬S k):Rd w' v xs:=by
 obtain⟨p,cap,rfl,h1,h2,h3⟩:=h
 refine⟨p,cap,rfl,h1,h2,fun h0=> ?_⟩
 obtain⟨b,o,rfl,hc⟩:=h3 h0
 refine⟨b,o,rfl,fun i x hx=> ?_⟩
 have:=hc i x hx
 rw[World.cell?_of_block (w:=w) (hfr.block b (block_lt_of_cell this) (hS h0 b rfl))]
 exact this
structure Raw(w:World)(B:Nat)(rv:Value)(size:Nat)(ring:List UInt8)(t pos:Nat):Prop where
 box:w.heap[B]? =some (.cells #[.int .i64 size,rv,.int .i64 t,.int .i64 pos] 210 (0,0))
 own:w.ownsRow 0 5 1 rv ring.length (bvs ring)
 apart:∀k,rv.ownBlock=some k→k≠B
theorem Raw.keep{S:Nat→Prop}{w w':World}{B size t pos:Nat}{rv:Value}{ring:List UInt8}(h:Raw w B rv size ring t pos)(hfr:Fr S w w')(hB:¬S B)(hr:∀k,rv.ownBlock=some k→¬S k):Raw w' B rv size ring t pos:=
 ⟨hfr.keep h.box hB,own_step h.own hfr hr,h.apart⟩
theorem winV_nb{a b d:Int}{p:Option Addr}{n c:Nat}:∀(i:Nat)(m:Int),(#[.int .i64 a,.slice p n c,.int .i64 b,.int .i64 d]:Array Value)[i]? ≠some (Value.int .u8 m)
 |0,m=>by simp
 |1,m=>by simp
 |2,m=>by simp
 |3,m=>by simp
 |i+4,m=>by simp
theorem rd_off{w:World}{v:Value}{xs:List UInt8}(h:Rd w v xs)(h0:0<xs.length){g:Nat}{cs:Array Value}{T:TypeId}{fr:Nat×Nat}(hg:w.heap[g]? =some (.cells cs T fr))(hcs:∀(i:Nat)(n:Int),cs[i]? ≠some (Value.int .u8 n)):∀k,v.ownBlock=some k→k≠g:=by
 obtain⟨p,cap,rfl,_,_,h3⟩:=h
 obtain⟨b,o,rfl,hc⟩:=h3 h0
 intro k hk
 simp only[Value.ownBlock,Option.some.injEq] at hk
 subst hk
 rintro rfl
 have h4:=hc 0 xs[0] (by simp[h0])
 rw[cell_of_row w _ _ _ _ _ hg] at h4
 exact hcs (o+0) (xs[0].toNat:Int) h4
set_option maxRecDepth 100000 in
theorem slice_hbI(p:Option Addr)(n cap b:Nat)(h:Int)(hh:h=b)(hb:b≤cap)(W:World):
 (Instr.slice 22 (.slice p n cap) none (some (.int .i64 h)) none).run Tryz.prog W=.ok (.slice p b cap) W:=by
 subst hh
 obtain⟨i,hi,hz,hs,_⟩:=info_parts infoU8
 rw[run_slice_h (P:=Tryz.prog) W 22 p n cap Tryz.underlying22 .i64 b (by omega) (by omega)]
 cases p<;>simp[sizeOf,typeInfo,hi,hs,Result.andThen,sliced,Addr.add,show Tryz.prog.elem 22=5 by kernel_rfl]
theorem drop_block(p:Option Addr)(n m cap c2 a:Nat):(Value.slice (dropP p cap a) m c2).ownBlock=(Value.slice p n cap).ownBlock:=by
 unfold dropP
 split
 ·cases p<;>rfl
 ·cases p with
  |none=>rfl
  |some x=>simp only[Option.map_some,Value.ownBlock];congr 1;unfold Addr.add;split<;>rfl
def PutRel(B size n al:Nat)(rp:Option Addr)(rl rc:Nat)(all b:List UInt8)(w:World)(s1:Value)(wx:World):Prop:=
 ∃(b2 all2:List UInt8)(p2:Option Addr)(cap2:Nat)(rv2:Value)(ring2:List UInt8)(t2:Nat),s1=.slice p2 b2.length cap2∧Rd wx (.slice p2 b2.length cap2) b2∧b2.length≤n∧Raw wx B rv2 size ring2 t2 (al+n)∧RingOf size all2 ring2 t2∧(0<b2.length→size≤all2.length)∧
  (∀rg q,RingOf size (all2++b2) rg q→RingOf size (all++b) rg q)∧Fr (fun k=>k=B∨(Value.slice rp rl rc).ownBlock=some k) w wx∧(∀k,rv2.ownBlock=some k→(Value.slice rp rl rc).ownBlock=some k∨w.heap.size≤k)∧(0<b2.length→∀k,(Value.slice p2 b2.length cap2).ownBlock=some k→rv2.ownBlock≠some k)
def lenOf:Value→Nat
 |.slice _ n _=>n
 |_=>0
set_option maxRecDepth 100000 in
theorem put_calls(B size t:Nat)(rv v:Value)(all ring b:List UInt8)(w:World)(h:At w B rv size all ring t)(hr:Rd w v b)(hap:0<b.length→∀k,v.ownBlock=some k→rv.ownBlock≠some k)(hmuch:all.length+b.length≤1152921504606846976):
    Calls Tryz.prog 122 #[.pointer (some ⟨B,0,none⟩),v] w fun e w'=>e=.returned (.tuple #[])∧∃rv' ring' t',Fr (fun k=>k=B∨rv.ownBlock=some k) w w'∧At w' B rv' size (all++b) ring' t'∧(∀k,rv'.ownBlock=some k→rv.ownBlock=some k∨w.heap.size≤k):=by
  obtain⟨rp,rc,rfl⟩:=h.slice
  obtain⟨p,cap,rfl,hcap,hcm,_⟩:=id hr
  have hpos:=h.pos
  have htop:=h.top
  have hOF:=h.of
  have hlen:=h.of.len
  have htl:=h.of.t_le
  have c3:=cell_in (i:=3) h.box rfl
  have f3:=frozen_in h.box 3
  -- behind the first store
  have hF0:=Fr.one w B 3 (.int .i64 ((all.length:Int)+b.length))
  have box0:(w.setCell ⟨B,3,none⟩ (.int .i64 ((all.length:Int)+b.length))).heap[B]? =some (.cells #[.int .i64 size,.slice rp ring.length rc,.int .i64 t,.int .i64 ((all.length+b.length:Nat):Int)] 210 (0,0)):=by
    rw[set_in h.box 3 _,show((all.length+b.length:Nat):Int)=(all.length:Int)+b.length by omega]
    rfl
  have hR0:Raw (w.setCell ⟨B,3,none⟩ (.int .i64 ((all.length:Int)+b.length))) B (.slice rp ring.length rc) size ring t (all.length+b.length):=⟨box0,own_step h.own hF0 (fun k hk=>h.apart k hk),h.apart⟩
  have hr0:=rd_step1 hr hF0 (fun h0 k hk=>rd_off hr h0 h.box winV_nb k hk)
  have d0:=cell_in (i:=0) box0 rfl
  have hbt:b.length≤1152921504606846976:=by omega
  have hat:all.length≤1152921504606846976:=by omega
  have HRAW:=Hd hR0
  have HRD:=Hd hr0
  have HF0:=Hd hF0
  have HOF:=Hd hOF
  have HAP:=Hd hap
  have HW:=Hd h
  clear h hr hR0 hr0 hF0 hOF hap box0
  generalize hn:b.length=n at*
  generalize hal:all.length=al at*
  generalize hrl:ring.length=rl at*
  have HN:=Hd hn
  have HAL:=Hd hal
  have HRL:=Hd hrl
  clear hn hal hrl
  have hpa:(al:Int)+n≤2305843009213693952:=by omega
  go_enter Tryz.func122,Tryz.ntmps122
  go_upto_if 21 with fail
  generalize w.setCell ⟨B,3,none⟩ (.int .i64 ((al:Int)+n))=W0 at*
  go_cut [1] (fun s1 wx=>∃(b':List UInt8)(p':Option Addr)(cap':Nat),s1=.slice p' b'.length cap'∧wx=W0∧b'.length≤size∧Rd W0 (.slice p' b'.length cap') b'∧(∀rg q,RingOf size (all++b') rg q→RingOf size (all++b) rg q)∧(Value.slice p' b'.length cap').ownBlock=(Value.slice p n cap).ownBlock∧b'.length≤n)
  case first=>
    by_cases hgt:size<n
    · have t1:decide ((n:Int)>size)=true:=by simp;omega
      have t2:decide ((size:Int)<n)=true:=by simp;omega
      have hsl:=slice_lI p n cap (n-size) ((n:Int)-size) (by omega) (by omega)
      have hb':(b.drop (n-size)).length=size:=by rw[List.length_drop,HN.out];omega
      have hrd':=rd_drop HRD.out (a:=n-size) (by rw[HN.out];omega)
      rw[show n-(n-size)=size by omega] at hsl hrd'
      have HRD2:=Hd hrd'
      have HB2:=Hd hb'
      have hcatS:∀rg q,RingOf size (all++b.drop (n-size)) rg q→RingOf size (all++b) rg q:=fun rg q hq=>by
        have:=hq.cut (y:=all++b.take (n-size)) HB2.out hpos
        rw[List.append_assoc,List.take_append_drop] at this
        exact this
      have HC:=Hd hcatS
      clear hrd' hb' hcatS
      go_wp2_with fail
      go_meet
      exact⟨b.drop (n-size),_,_,by rw[HB2.out],rfl,by rw[HB2.out];exact Nat.le_refl _,by rw[HB2.out];exact HRD2.out,HC.out,by rw[HB2.out];exact drop_block p n size cap _ _,by rw[HB2.out];omega⟩
    · have t1:decide ((n:Int)>size)=false:=by simp;omega
      have t2:decide ((size:Int)<n)=false:=by simp;omega
      go_wp2_with fail
      go_meet
      exact⟨b,p,cap,by rw[HN.out],rfl,by rw[HN.out];omega,by rw[HN.out];exact HRD.out,fun _ _ h=>h,by rw[HN.out],by rw[HN.out];exact Nat.le_refl _⟩
  case rest=>
  obtain⟨b1,p1,cap1,rfl,rfl,hb1,hrd1,hcat1,hblk1,hbn1⟩:=hcut
  have HRD1:=Hd hrd1
  have HCAT1:=Hd hcat1
  have HBLK1:=Hd hblk1
  have box1:=HRAW.out.box
  obtain⟨e0,e1⟩:=cs2 box1 rfl rfl
  generalize hn1:b1.length=n1 at*
  have HN1:=Hd hn1
  clear hn1 hrd1 hcat1 hblk1 box1 HRD
  have hrls:rl≤size:=by omega
  have hgd:∃g:Nat,g=min n1 (size-rl):=⟨_,rfl⟩
  obtain⟨g,hg⟩:=hgd
  have hite:(if(size:Int)-rl<n1 then(size:Int)-rl else n1)=(g:Int):=by split<;>omega
  have HITE:=Hd hite
  have HLEN:=Hd hlen
  have HG:=Hd hg
  clear hite hlen hg
  go_wp2_with fail
  go_quiet (fail)
  simp only[HITE.out]
  have hfq:=(R0 wc).drewN nq
  have hRq:=HRAW.out.keep hfq (fun h=>h) (fun _ _ h=>h)
  have hDq:=HRD1.out.keep hfq
  have hFq:=HF0.out.trans (hfq.mono (fun _ _ h=>h.elim))
  generalize World.drewN wc nq=W1 at*
  have HRQ:=Hd hRq
  have HDQ:=Hd hDq
  have HFQ:=Hd hFq
  clear hfq hRq hDq hFq e0 e1 HRAW HRD1 HF0
  go_upto_if 45 with fail
  go_cut [1] (fun s1 wx=>PutRel B size n al rp rl rc all b w s1 wx)
  case first=>
    by_cases hg0:0<g
    · have t3:decide ((g:Int)>0)=true:=by simp;omega
      have t4:decide ((0:Int)<g)=true:=by simp;omega
      have hg:=HG.out
      have hgn:g≤n1:=by omega
      have hgs:rl+g≤size:=by omega
      obtain⟨i0,hi,hz0,hz1,hz2⟩:=info_parts infoU8
      have hdr:=(R0 W1).drew
      have hRd:=HRQ.out.keep hdr (fun h=>h) (fun _ _ h=>h)
      have x1:W1.drew.cell? ⟨B,1,none⟩=_:=cell_in (i:=1) hRd.box rfl
      have hsl:=slice_hbI p1 n1 cap1 g g rfl (by have h9:=HDQ.out;obtain⟨q,c,h,h1,_⟩:=h9;simp only[Value.slice.injEq] at h;obtain⟨_,_,rfl⟩:=h;have:=HN1.out;omega)
      have hsl2:=slice_lI p1 n1 cap1 g g rfl hgn
      have htk:(b1.take g).length=g:=by rw[List.length_take,HN1.out];omega
      have hsrc:=rd_take (HDQ.out.keep hdr) (m:=g) (by rw[HN1.out];exact hgn)
      have hown:W1.drew.ownsRow 0 5 1 (.slice rp rl rc) rl (bvs ring):=by have:=hRd.own;rw[HRL.out] at this;exact this
      have HSRC:=Hd hsrc
      have HOWN:=Hd hown
      have HRD2:=Hd hRd
      have HTK:=Hd htk
      clear hdr hRd hsrc hown htk hg
      go_wp2_with fail
      go_region_law (refine step_append_any _ rfl _ _ 22 22 rfl 5 i0 (.int .u8 0) 1 1 Tryz.underlying22 hi hz0 hz1 hz2 rfl (by decide) (.slice rp rl rc) rl (bvs ring) (by simp[Act.eval,Act.put]) HOWN.out (.slice p1 g cap1) g (bvs (b1.take g)) (by simp[Act.eval,Act.put]) (by have h9:=src_rd Tryz.underlying22 HSRC.out;rw[HTK.out] at h9;exact h9) (by simp only[maxLen];omega) (by omega) ?_
                     intro v' w' hown' hfr' hnew' hnil'
                     obtain⟨rp2,rc2,rfl⟩:=own_slice hown'
                     have hbx:=hfr'.keep HRD2.out.box (fun h=>HRD2.out.apart B h rfl)
                     have hfz:=frozen_in hbx 1
                     have hc1:=cell_in (i:=1) hbx rfl
                     have HOWN2:=Hd hown'
                     have HFR2:=Hd hfr'
                     have HNEW2:=Hd hnew'
                     have HBX:=Hd hbx
                     have s1:=set_in hbx 1 (.slice rp2 (rl+g) rc2)
                     have k1:(w'.setCell ⟨B,1,none⟩ (.slice rp2 (rl+g) rc2)).cell? ⟨B,1,none⟩=some (.slice rp2 (rl+g) rc2):=cell_in s1 rfl
                     have k2:(w'.setCell ⟨B,1,none⟩ (.slice rp2 (rl+g) rc2)).cell? ⟨B,2,none⟩=some (.int .i64 t):=cell_in s1 rfl
                     have k3:=frozen_in s1 2
                     clear hown' hfr' hnew' hnil' hbx s1)
      go_wp2_with fail
      go_meet
      have hg:=HG.out
      have hlen:=HLEN.out
      have hn1:=HN1.out
      have hrl:=HRL.out
      have htk:=HTK.out
      have hWl:B<W1.heap.size:=lt_of_block HRQ.out.box
      have hnB:∀k,(Value.slice rp2 (rl+g) rc2).ownBlock=some k→k≠B:=fun k hk=>by
        rcases HNEW2.out k hk with h|h
        · exact HRQ.out.apart k h
        · have:W1.drew.heap.size=W1.heap.size:=rfl
          omega
      have s1:=set_in HBX.out 1 (.slice rp2 (rl+g) rc2)
      have s2:=set_in s1 2 (.int .i64 ((rl:Int)+g))
      have hfS:=(Fr.one w' B 1 (.slice rp2 (rl+g) rc2)).trans (Fr.one _ B 2 (.int .i64 ((rl:Int)+g)))
      have hall:Fr (fun k=>k=B∨(Value.slice rp rl rc).ownBlock=some k) W1 _:=((Fr.refl _ W1).drew.trans (HFR2.out.mono (fun _ _ h=>.inr h))).trans (hfS.mono (fun _ _ h=>.inl h))
      have hblk:∀k,0<n1→(Value.slice p1 n1 cap1).ownBlock=some k→(Value.slice rp rl rc).ownBlock≠some k:=fun k h0 hk=>HAP.out (by omega) k (by rw[←HBLK1.out];exact hk)
      have hdb:=fun(_:Nat)=>drop_block p1 n1 (n1-g) cap1 (cap1-g) g
      have hlt1:∀k,0<n1→(Value.slice p1 n1 cap1).ownBlock=some k→k<W1.heap.size:=fun k h0 hk=>by
        obtain⟨q,c,he,_,_,h3⟩:=HDQ.out
        simp only[Value.slice.injEq] at he
        obtain⟨b',o',hp',h8⟩:=h3 (by omega)
        rw[he.1,hp'] at hk
        simp only[Value.ownBlock,Option.some.injEq] at hk
        subst hk
        exact block_lt_of_cell (h8 0 b1[0] (by rw[List.getElem?_eq_getElem]))
      have hrd2:Rd _ (.slice (dropP p1 cap1 g) (n1-g) (cap1-g)) (b1.drop g):=rd_step1 (rd_drop HDQ.out (a:=g) (by omega)) hall (fun h0 k hk h=>by
        rw[List.length_drop] at h0
        rw[hdb 0] at hk
        rcases h with h|h
        · exact rd_off HDQ.out (by omega) HRQ.out.box winV_nb k hk h
        · exact hblk k (by omega) hk h)
      have hdl:(b1.drop g).length=n1-g:=by rw[List.length_drop,hn1]
      refine⟨b1.drop g,all++b1.take g,dropP p1 cap1 g,cap1-g,.slice rp2 (rl+g) rc2,ring++b1.take g,rl+g,by rw[hdl],by rw[hdl];exact hrd2,by rw[hdl];omega,⟨?_,?_,hnB⟩,?_,?_,?_,?_,?_,?_⟩
      · rw[s2,show((rl+g:Nat):Int)=(rl:Int)+g by omega]
        rfl
      · have h9:=own_step HOWN2.out hfS hnB
        rw[←bvs_append] at h9
        rw[show(ring++b1.take g).length=rl+g by rw[List.length_append,hrl,htk]]
        exact h9
      · have h9:=HOF.out.grow (b:=b1.take g) hpos (by omega) (by omega)
        rw[hrl,htk] at h9
        exact h9
      · intro h0
        rw[hdl] at h0
        have h9:=HOF.out.len
        have hal:=HAL.out
        rw[List.length_append,htk]
        omega
      · intro rg q hq
        rw[List.append_assoc,List.take_append_drop] at hq
        exact HCAT1.out rg q hq
      · exact(HFQ.out.mono (fun _ _ h=>.inl h)).trans hall
      · intro k hk
        rcases HNEW2.out k hk with h|h
        · exact .inl h
        · have h9:=HFQ.out.size
          have:W1.drew.heap.size=W1.heap.size:=rfl
          exact .inr (by omega)
      · intro h0 k hk he
        rw[hdl] at h0 hk
        rw[hdb 0] at hk
        rcases HNEW2.out k he with h|h
        · exact hblk k (by omega) hk h
        · have:=hlt1 k (by omega) hk
          have:W1.drew.heap.size=W1.heap.size:=rfl
          omega
    · have t3:decide ((g:Int)>0)=false:=by simp;omega
      have t4:decide ((0:Int)<g)=false:=by simp;omega
      go_wp2_with fail
      go_meet
      have hg:=HG.out
      have hlen:=HLEN.out
      have hof:=HOF.out
      refine⟨b1,all,p1,cap1,_,ring,t,by rw[HN1.out],by rw[HN1.out];exact HDQ.out,by rw[HN1.out];exact hbn1,?_,hof,?_,HCAT1.out,HFQ.out.mono (fun _ _ h=>.inl h),fun k hk=>.inl hk,fun h0 k hk=> ?_⟩
      · exact HRQ.out
      · rw[HN1.out,HAL.out];omega
      · rw[HN1.out] at h0 hk
        exact HAP.out (by omega) k (by rw[←HBLK1.out];exact hk)
  case rest=>
  have HCUT:=Hd hcut
  clear hcut HITE HG HRQ HDQ HFQ HCAT1 HBLK1 HN1
  go_wp2_with fail
  go_loopw [1,5] (fun s1 _ wx=>PutRel B size n al rp rl rc all b w s1 wx) (fun s1 _ _=>lenOf s1)
  case atStart=>exact HCUT.out
  case round=>
    obtain⟨b2,all2,p2,cap2,rv2,ring2,t2,rfl,hrd2,hbn2,hraw2,hof2,hfull2,hcat2,hfr2,hnew2,hap2⟩:=hrel
    obtain⟨rp2,rc2,rfl⟩:=own_slice hraw2.own
    have HRD2:=Hd hrd2
    have HRAW2:=Hd hraw2
    have HOF2:=Hd hof2
    have HFULL2:=Hd hfull2
    have HCAT2:=Hd hcat2
    have HFR2:=Hd hfr2
    have HNEW2:=Hd hnew2
    have HAP2:=Hd hap2
    clear hrd2 hraw2 hof2 hfull2 hcat2 hfr2 hnew2 hap2
    generalize hn2:b2.length=n2 at*
    generalize hr2:ring2.length=r2 at*
    have HN2:=Hd hn2
    have HR2:=Hd hr2
    clear hn2 hr2
    by_cases h0:0<n2
    · have t5:decide ((n2:Int)>0)=true:=by simp;omega
      have t6:decide ((0:Int)<n2)=true:=by simp;omega
      have hfu:=HOF2.out.full (HFULL2.out h0)
      have hr2:size=r2:=by rw[←HR2.out];exact hfu.1.symm
      have ht1:=hfu.2.1
      have ht2:=hfu.2.2.1
      have HFU:=Hd hfu
      have x0:=cell_in (i:=0) HRAW2.out.box rfl
      have x2:=cell_in (i:=2) HRAW2.out.box rfl
      have xf:=frozen_in HRAW2.out.box 2
      subst hr2
      clear hfu
      go_wp2_with fail
      go_quiet (fail)
      have hfq2:=(R0 wr).drewN nq
      have hRq2:=HRAW2.out.keep hfq2 (fun h=>h) (fun _ _ h=>h)
      have HFQ2:=Hd hfq2
      have HRQ2:=Hd hRq2
      clear hfq2 hRq2 x0 x2 xf
      generalize World.drewN wr nq=W2 at*
      have x0:=cell_in (i:=0) HRQ2.out.box rfl
      have x2:=cell_in (i:=2) HRQ2.out.box rfl
      have xf:=frozen_in HRQ2.out.box 2
      go_upto_if 79 with fail
      go_cut [] (fun wx=>∃u,u=(if t2=size then 0 else t2)∧Raw wx B (.slice rp2 size rc2) size ring2 u (al+n)∧Fr (fun k=>k=B) wr wx)
      case first=>
        by_cases ht:t2=size
        · have y1:decide ((t2:Int)=size)=true:=by simp;omega
          go_wp2_with fail
          go_meet
          have hf1:=Fr.one W2 B 2 (.int .i64 0)
          refine⟨0,by rw[if_pos ht],⟨?_,own_step HRQ2.out.own hf1 (fun k hk=>HRQ2.out.apart k hk),HRQ2.out.apart⟩,(HFQ2.out.mono (fun _ _ h=>h.elim)).trans hf1⟩
          rw[set_in HRQ2.out.box 2 _]
          rfl
        · have y1:decide ((t2:Int)=size)=false:=by simp;omega
          go_wp2_with fail
          go_meet
          exact⟨t2,by rw[if_neg ht],HRQ2.out,HFQ2.out.mono (fun _ _ h=>h.elim)⟩
      case rest=>
      obtain⟨u,hu,hRu,hFu⟩:=hcut
      have hus:u<size:=by split at hu<;>omega
      have HU:=Hd hu
      obtain⟨m,hm⟩:∃m,m=min n2 (size-u):=⟨_,rfl⟩
      have hmn:m≤n2:=by omega
      have hmu:u+m≤size:=by omega
      have hm0:0<m:=by omega
      have hlt2:∀k,(Value.slice p2 n2 cap2).ownBlock=some k→k≠B:=rd_off HRD2.out (by rw[HN2.out];exact h0) HRAW2.out.box winV_nb
      have hrdu:Rd wc (.slice p2 n2 cap2) b2:=HRD2.out.step hFu (fun k hk=>hlt2 k hk)
      have hdr:=(R0 wc).drew
      have hRd:=hRu.keep hdr (fun h=>h) (fun _ _ h=>h)
      have HRD3:=Hd (hrdu.keep hdr)
      have HRAW3:=Hd hRd
      have HFU2:=Hd hFu
      have HM:=Hd hm
      have y1:wc.drew.cell? ⟨B,1,none⟩=_:=cell_in (i:=1) hRd.box rfl
      have y2:wc.drew.cell? ⟨B,2,none⟩=_:=cell_in (i:=2) hRd.box rfl
      have hsl:=slice_lI rp2 size rc2 u u rfl (by omega)
      have hsl2:=slice_lI p2 n2 cap2 m m rfl hmn
      have hown:wc.drew.ownsRow 0 5 1 (.slice rp2 size rc2) size (bvs ring2):=by have:=hRd.own;rw[HR2.out] at this;exact this
      have HOWN:=Hd hown
      have HL2:=Hd hlt2
      clear hu hRu hFu hrdu hdr hRd hm hown hlt2 x0 x2 xf HRQ2 HFQ2 d0 c3 f3
      go_wp2_with fail
      go_region_law (refine step_copy_any rfl _ _ 22 22 5 rfl Tryz.underlying22 (by kernel_rfl) rp2 size rc2 u ring2 5 (by simp[Act.eval,Act.put]) HOWN.out hus p2 n2 cap2 b2 (by simp[Act.eval,Act.put]) HRD3.out h0 m HM.out ?_
                     intro w' hown' hfr'
                     have hbx:=hfr'.keep HRAW3.out.box (fun h=>HRAW3.out.apart B h rfl)
                     have hfz:=frozen_in hbx 2
                     have hc2:=cell_in (i:=2) hbx rfl
                     have HOWN2:=Hd hown'
                     have HFR3:=Hd hfr'
                     have HBX:=Hd hbx
                     clear hown' hfr' hbx)
      all_goals go_wp2_with fail
      all_goals
        have hn2:=HN2.out
        have hr2:=HR2.out
        have hf4:=Fr.one w' B 2 (.int .i64 ((u:Int)+m))
        have hfin:=(HFR3.out.mono (T:=fun k=>k=B∨(Value.slice rp2 size rc2).ownBlock=some k) (fun _ _ h=>.inr h)).trans (hf4.mono (fun _ _ h=>.inl h))
        have hdl:(b2.drop m).length=n2-m:=by rw[List.length_drop,hn2]
        have htk:(b2.take m).length=m:=by rw[List.length_take,hn2];omega
        have hw:=HFU.out.write HU.out (b:=b2.take m) (by omega) (by omega)
        rw[htk] at hw
        have hrd2:=rd_step1 (rd_drop HRD3.out (a:=m) (by omega)) hfin (fun h9 k hk h=>by
          rw[drop_block p2 n2 (n2-m) cap2 (cap2-m) m] at hk
          rcases h with h|h
          · exact HL2.out k hk h
          · exact HAP2.out h0 k hk h)
        have hrl:(ring2.take u++b2.take m++ring2.drop (u+m)).length=size:=hw.1
        have hos:=own_step HOWN2.out hf4 (fun k hk=>HRAW3.out.apart k hk)
        have hbk:=set_in HBX.out 2 (.int .i64 ((u:Int)+m))
        refine⟨⟨b2.drop m,all2++b2.take m,dropP p2 cap2 m,cap2-m,.slice rp2 size rc2,ring2.take u++b2.take m++ring2.drop (u+m),u+m,by rw[hdl],by rw[hdl];exact hrd2,by rw[hdl];omega,⟨?_,?_,HRAW3.out.apart⟩,hw.ring,?_,?_,?_,HNEW2.out,?_⟩,?_⟩
        · rw[hbk,show((u+m:Nat):Int)=(u:Int)+m by omega]
          rfl
        · rw[hrl];exact hos
        · intro _
          have:=HFULL2.out h0
          rw[List.length_append];omega
        · intro rg q hq
          rw[List.append_assoc,List.take_append_drop] at hq
          exact HCAT2.out rg q hq
        · have h1:Fr (fun k=>k=B∨(Value.slice rp2 size rc2).ownBlock=some k) wr _:=((HFU2.out.mono (fun _ _ h=>.inl h)).drew).trans hfin
          exact HFR2.out.trans' h1 (fun i hi h=>by
            rcases h with h|h
            · exact .inl h
            · rcases HNEW2.out i h with h|h
              · exact .inr h
              · omega)
        · intro h9 k hk
          rw[drop_block p2 n2 _ cap2 (cap2-m) m] at hk
          exact HAP2.out h0 k hk
        · show n2-m<n2
          omega
    · have t5:decide ((n2:Int)>0)=false:=by simp;omega
      have t6:decide ((0:Int)<n2)=false:=by simp;omega
      go_wp2_with fail
      go_end0
      have hb2:b2=[]:=List.eq_nil_of_length_eq_zero (by have:=HN2.out;omega)
      subst hb2
      have hfin:=HCAT2.out ring2 t2 (by rw[List.append_nil];exact HOF2.out)
      have hlen:(all++b).length=al+n:=by rw[List.length_append,HAL.out,HN.out]
      exact⟨rfl,_,ring2,t2,HFR2.out,⟨by rw[hlen];exact HRAW2.out.box,HRAW2.out.own,hfin,hpos,htop,by rw[hlen];omega,HRAW2.out.apart⟩,HNEW2.out⟩
end Win
namespace Win
open Mem
def grown(all:List UInt8)(d:Nat):Nat→List UInt8
 |0=>all
 |k+1=>grown all d k++[(grown all d k).getD ((grown all d k).length-d) 0]
theorem grown_len(all:List UInt8)(d:Nat):∀k,(grown all d k).length=all.length+k
 |0=>rfl
 |k+1=>by rw[grown,List.length_append,grown_len all d k];rfl
theorem grown_pre(all:List UInt8)(d:Nat):∀k,∃y,grown all d k=all++y
 |0=>⟨[],by simp[grown]⟩
 |k+1=>by
   obtain⟨y,hy⟩:=grown_pre all d k
   exact⟨y++[(grown all d k).getD ((grown all d k).length-d) 0],by rw[grown,←List.append_assoc,←hy]⟩
def copied(all:List UInt8)(d k:Nat):List UInt8:=(grown all d k).drop all.length
theorem copied_len(all:List UInt8)(d k:Nat):(copied all d k).length=k:=by rw[copied,List.length_drop,grown_len];omega
theorem grown_eq(all:List UInt8)(d k:Nat):grown all d k=all++copied all d k:=by
 obtain⟨y,hy⟩:=grown_pre all d k
 rw[copied,hy,List.drop_left]
theorem copied_zero(all:List UInt8)(d:Nat):copied all d 0=[]:=by simp[copied,grown]
theorem copied_succ(all:List UInt8)(d k:Nat):copied all d (k+1)=copied all d k++[(grown all d k).getD ((grown all d k).length-d) 0]:=by
 have h:=grown_len all d k
 simp only[copied,grown]
 rw[List.drop_append_of_le_length (by omega)]
set_option maxRecDepth 100000 in
theorem make_bytes(n:Nat)(h:n≤281474976710656)(W:World):
 (Instr.makeSlice 22 (.int .i64 0) (.int .i64 n)).run Tryz.prog W=.ok (.slice (some ⟨W.heap.size,0,none⟩) 0 n) (W.alloc (.cells (madeCells [Value.int .u8 0].toArray n) 5)):=by
 obtain⟨i,hi,hz,hs,hb⟩:=info_parts infoU8
 have:=run_make (P:=Tryz.prog) W 22 5 i (.int .u8 0) Tryz.underlying22 hi hz .i64 .i64 0 n (by omega) (by omega) (by rw[hb];omega) (by omega)
 rw[this,hs,Int.toNat_natCast,Nat.mul_one]
 rfl
structure Mine(w0 w:World)(v:Value)(xs:List UInt8):Prop where
 own:w.ownsRow 0 5 1 v xs.length (bvs xs)
 new:∀k,v.ownBlock=some k→w0.heap.size≤k
theorem Mine.nil(w0 w:World):Mine w0 w (.slice none 0 0) []:=⟨World.ownsRow_nil _ _ _ _,fun k hk=>by simp[Value.ownBlock] at hk⟩
theorem Mine.rd{w0 w:World}{v:Value}{xs:List UInt8}(h:Mine w0 w v xs):Rd w v xs:=Rd.of_own h.own
theorem Mine.slice{w0 w:World}{v:Value}{xs:List UInt8}(h:Mine w0 w v xs):∃p cap,v=.slice p xs.length cap:=own_slice h.own
theorem Mine.step{S:Nat→Prop}{w0 w w':World}{v:Value}{xs:List UInt8}(h:Mine w0 w v xs)(hfr:Fr S w w')(hS:∀k,v.ownBlock=some k→¬S k):Mine w0 w' v xs:=⟨own_step h.own hfr hS,h.new⟩
theorem Mine.keep{w0 w w':World}{v:Value}{xs:List UInt8}(h:Mine w0 w v xs)(hfr:Fr (fun _=>False) w w'):Mine w0 w' v xs:=h.step hfr (fun _ _ h=>h)
theorem Mine.lt{w0 w:World}{v:Value}{xs:List UInt8}(h:Mine w0 w v xs):∀k,v.ownBlock=some k→k<w.heap.size:=fun k hk=>(World.ownsRow.lt h.own k hk).2
theorem append_mine{ops:Array Oper}{rest:List Oper}{o:Oper}{a:Act}{Q:Exit→Act→World→Prop}(hgd:o.guard=none)(s y:Operand)
 (ho:o.op=.call {callee:=.builtin .append,args:=#[s,y],argTypes:=#[22,22]}){w0 w:World}(v x:Value)(xs ys:List UInt8)(hv:a.eval s=v)(hx:a.eval y=x)(hm:Mine w0 w v xs)(hle:w0.heap.size≤w.heap.size)(hrd:Rd w x ys)
 (hb:xs.length+ys.length≤70368744177664)
 (h:∀p cap n w',n=xs.length+ys.length→Mine w0 w' (.slice p n cap) (xs++ys)→Fr (fun k=>v.ownBlock=some k) w w'→(∀k,(Value.slice p n cap).ownBlock=some k→v.ownBlock=some k∨w.heap.size≤k)→wpList Tryz.prog ops Q rest (a.put o.dst (.slice p n cap)) w'):
 wpList Tryz.prog ops Q (o::rest) a w:=by
 obtain⟨i0,hi,hz0,hz1,hz2⟩:=info_parts infoU8
 refine wpList_append_any w hgd s y 22 22 ho 5 i0 (.int .u8 0) 1 1 Tryz.underlying22 hi hz0 hz1 hz2 rfl (by decide) v xs.length (bvs xs) hv hm.own x ys.length (bvs ys) hx (src_rd Tryz.underlying22 hrd) (by simp only[maxLen];omega) (by omega) ?_
 intro v' w' hown hfr hnew _
 obtain⟨p,cap,rfl⟩:=own_slice hown
 refine h p cap _ w' rfl ⟨by rw[List.length_append,bvs_append];exact hown,fun k hk=> ?_⟩ hfr hnew
 rcases hnew k hk with h|h
 ·exact hm.new k h
 ·omega
theorem copy_out(B size t d n:Nat)(rv:Value)(all ring:List UInt8)(w:World)(h:At w B rv size all ring t)(hbad:¬(1≤d∧d≤ring.length)∨273<n):
 Calls Tryz.prog 197 #[.pointer (some ⟨B,0,none⟩),.int .i64 d,.int .i64 n] w fun e w'=>e=.returned (.tuple #[.slice none 0 0,.int .i64 7])∧w=w':=by
 have HA:=Hd h
 clear h
 by_cases hin:1≤d∧d≤ring.length
 ·have hn:273<n:=by omega
  have n1:decide ((n:Int)<0)=false:=by simp
  have n2:decide ((n:Int)>273)=true:=by simp;omega
  have n3:decide ((273:Int)<n)=true:=by simp;omega
  have HIN:=Hd hin
  clear hin hbad
  go_enter Tryz.func197,Tryz.ntmps197
  go_wp2_with fail
  refine(in_calls B size t d rv all ring w HA.out).mono ?_
  rw[decide_eq_true HIN.out]
  rintro e w' ⟨rfl,rfl⟩
  go_wp2_with fail
  go_ret2
  exact⟨rfl,rfl⟩
 ·have HIN:=Hd hin
  clear hin hbad
  go_enter Tryz.func197,Tryz.ntmps197
  go_wp2_with fail
  refine(in_calls B size t d rv all ring w HA.out).mono ?_
  rw[decide_eq_false HIN.out]
  rintro e w' ⟨rfl,rfl⟩
  go_wp2_with fail
  go_ret2
  exact⟨rfl,rfl⟩
def CopyRel(B size d n:Nat)(rv:Value)(all:List UInt8)(w:World)(k:Nat)(s:Value)(wx:World):Prop:=
 ∃(rv2:Value)(ring2:List UInt8)(t2:Nat),At wx B rv2 size (grown all d k) ring2 t2∧Fr (fun k=>k=B∨rv.ownBlock=some k) w wx∧(∀k,rv2.ownBlock=some k→rv.ownBlock=some k∨w.heap.size≤k)∧
  Mine w wx s (copied all d k)∧(∀k,s.ownBlock=some k→rv2.ownBlock≠some k)
set_option maxRecDepth 100000 in
theorem copy_in(B size t d n:Nat)(rv:Value)(all ring:List UInt8)(w:World)(h:At w B rv size all ring t)(hin:1≤d∧d≤ring.length)(hn:n≤273)(hmuch:all.length≤1152921504606846000):
    Calls Tryz.prog 197 #[.pointer (some ⟨B,0,none⟩),.int .i64 d,.int .i64 n] w fun e w'=>∃v,e=.returned (.tuple #[v,.int .i64 0])∧CopyRel B size d n rv all w n v w':=by
  have n1:decide ((n:Int)<0)=false:=by simp
  have n2:decide ((n:Int)>273)=false:=by simp;omega
  have n3:decide ((273:Int)<n)=false:=by simp;omega
  have hB:B<w.heap.size:=lt_of_block h.box
  have hl:=h.of.len
  have hpos:=h.pos
  have hd1:1≤d:=hin.1
  have hd2:d≤size:=by omega
  have hd3:d≤all.length:=by omega
  have HA:=Hd h
  have HIN:=Hd hin
  have hmk:=make_bytes n (by omega)
  clear h hin
  go_enter Tryz.func197,Tryz.ntmps197
  go_wp2_with fail
  refine(in_calls B size t d rv all ring w HA.out).mono ?_
  rw[decide_eq_true HIN.out]
  rintro e w' ⟨rfl,rfl⟩
  go_wp2_with fail
  have hw0:=(R0 w).alloc (.cells (madeCells [Value.int .u8 0].toArray n) 5)
  go_loopw [8,9,25](fun s8 _ s25 wx=>∃k:Nat,k≤n∧s25=.int .i64 (k:Int)∧CopyRel B size d n rv all w k s8 wx) (fun _ _ s25 _=>(n-(intOf s25).toNat))
  case atStart=>
    refine⟨0,by omega,rfl,rv,ring,t,(HA.out.keep hw0 (fun h=>h) (fun _ _ h=>h)),hw0.mono (fun _ _ h=>h.elim),fun k hk=>.inl hk,⟨?_,fun k hk=> ?_⟩,fun k hk he=> ?_⟩
    · rw[copied_zero]
      exact World.ownsRow_made w _ n (Nat.zero_le _) (by simp only[maxLen];omega) (by simp[madeCells])
    · simp only[Value.ownBlock,Option.some.injEq] at hk
      omega
    · simp only[Value.ownBlock,Option.some.injEq] at hk
      have:=(World.ownsRow.lt HA.out.own k he).2
      omega
  case round=>
    obtain⟨k,hk,rfl,rv2,ring2,t2,hA2,hF2,hN2,hM2,hap2⟩:=hrel
    obtain⟨p2,cap2,rfl⟩:=hM2.slice
    rw[copied_len] at*
    have HA2:=Hd hA2
    have HF2:=Hd hF2
    have HN2:=Hd hN2
    have HM2:=Hd hM2
    have HP2:=Hd hap2
    clear hA2 hF2 hN2 hM2 hap2
    by_cases hlt:k<n
    · have hgl:=grown_len all d k
      have hrl2:=HA2.out.of.len
      have hc:(grown all d k)[(grown all d k).length-d]? =some ((grown all d k).getD ((grown all d k).length-d) 0):=by
        rw[List.getD_eq_getElem?_getD,List.getElem?_eq_getElem (by omega)]
        rfl
      have hg1:grown all d (k+1)=grown all d k++[(grown all d k).getD ((grown all d k).length-d) 0]:=rfl
      have hs1:=copied_succ all d k
      have hcl:=copied_len all d k
      have HG1:=Hd hg1
      have HS1:=Hd hs1
      have HCL:=Hd hcl
      have HRL:=Hd hrl2
      have HGL:=Hd hgl
      have HC:=Hd hc
      clear hg1 hs1 hcl hrl2 hgl hc
      generalize hcc:(grown all d k).getD ((grown all d k).length-d) 0=c at*
      clear hcc
      go_wp2_with fail
      refine(back_calls B size t2 d rv2 (grown all d k) ring2 c wr HA2.out hd1 (by have:=HRL.out;have:=HGL.out;omega) HC.out).mono ?_
      rintro e w1 ⟨rfl,rfl⟩
      go_wp2_with fail
      have hal:=(R0 wr).alloc (.cells #[.int .u8 (c.toNat:Int)] 5)
      have hone:=rd_one wr _ rfl c _ rfl
      refine(put_calls B size t2 rv2 (.slice (some ⟨wr.heap.size,0,none⟩) 1 1) (grown all d k) ring2 [c] _ (HA2.out.keep hal (fun h=>h) (fun _ _ h=>h)) hone (fun _ k hk he=> ?_) ?_).mono ?_
      · simp only[Value.ownBlock,Option.some.injEq] at hk
        have:=(World.ownsRow.lt HA2.out.own k he).2
        omega
      · have:=HGL.out
        simp only[List.length_singleton]
        omega
      rintro e w2 ⟨rfl,rv3,ring3,t3,hfr3,hA3,hN3⟩
      have hM3:=(HM2.out.keep hal).step hfr3 (fun k hk h=>by
        rcases h with h|h
        · have:=HM2.out.new k hk
          omega
        · exact HP2.out k hk h)
      have HA3:=Hd hA3
      have HM3:=Hd hM3
      have HN3:=Hd hN3
      have HF3:=Hd hfr3
      have HAL:=Hd hal
      clear hone hA3 hM3 hN3 hfr3 hal
      have hal2:=(R0 w2).alloc (.cells #[.int .u8 (c.toNat:Int)] 5)
      have hone2:=rd_one w2 _ rfl c _ rfl
      have HM4:=Hd (HM3.out.keep hal2)
      have HA4:=Hd (HA3.out.keep hal2 (fun h=>h) (fun _ _ h=>h))
      have HF4:=Hd (HF2.out.trans' (HAL.out.mono (T:=fun k=>k=B∨rv2.ownBlock=some k) (fun _ _ h=>h.elim)|>.trans HF3.out|>.trans (hal2.mono (fun _ _ h=>h.elim))) (fun i hi h=>by
        rcases h with h|h
        · exact .inl h
        · rcases HN2.out i h with h|h
          · exact .inr h
          · omega))
      have HONE:=Hd hone2
      have hsz:wr.heap.size+1≤w2.heap.size:=by have:=HF3.out.size;simpa using this
      clear hal2 hone2
      go_wp2_with (at_builtin
                   refine append_mine rfl _ _ rfl (w0:=w) (.slice p2 k cap2) (.slice (some ⟨w2.heap.size,0,none⟩) 1 1) (copied all d k) [c] rfl rfl HM4.out HF4.out.size HONE.out (by rw[HCL.out];simp only[List.length_singleton];omega) ?_
                   intro p5 cap5 n5 w5 hn5 hM5 hfr5 hnew5
                   rw[HCL.out,List.length_singleton] at hn5
                   have HM5:=Hd hM5
                   have HF5:=Hd hfr5
                   have HN5:=Hd hnew5
                   have HL5:=Hd hn5
                   clear hM5 hfr5 hnew5 hn5)
      go_roundw
      case rel=>
        refine⟨k+1,by omega,by go_num,rv3,ring3,t3,?_,?_,?_,?_,?_⟩
        · rw[HG1.out]
          exact HA4.out.keep HF5.out (fun h=>by
            have:=HM4.out.new _ h
            omega) (fun q hq h=>by
            rcases HN3.out q hq with h2|h2
            · exact HP2.out q h h2
            · have:=HM2.out.lt q h
              simp at h2
              omega)
        · exact HF4.out.trans' HF5.out (fun i hi h=>by
            have:=HM4.out.new _ h
            omega)
        · intro q hq
          rcases HN3.out q hq with h2|h2
          · exact HN2.out q h2
          · have:=HF2.out.size
            simp at h2
            exact .inr (by omega)
        · rw[HS1.out];exact HM5.out
        · intro q hq h2
          have hlt3:=(World.ownsRow.lt HA4.out.own q h2).2
          rcases HN5.out q hq with h|h
          · rcases HN3.out q h2 with h3|h3
            · exact HP2.out q h h3
            · have:=HM2.out.lt q h
              simp at h3
              omega
          · omega
      case measure=>simp[intOf];omega
    · obtain rfl:k=n:=by omega
      go_wp2_with fail
      go_ret2
      exact⟨_,rfl,rv2,ring2,t2,HA2.out,HF2.out,HN2.out,HM2.out,HP2.out⟩
end Win
end Go.Proofs.YtffoddpjfgjelaaGreatDoor
