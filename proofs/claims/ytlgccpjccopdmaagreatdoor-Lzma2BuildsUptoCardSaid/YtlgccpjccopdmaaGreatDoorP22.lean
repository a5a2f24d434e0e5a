/- Part 22 of 54: lemmas of the last part, each under the conditions that it names. -/
import Derived.Deep.RegionHeld3
import Derived.Deep.DeepCutAuto
import Derived.Test.YtlgccpjccopdmaaGreatDoorP09
import Derived.Test.YtlgccpjccopdmaaGreatDoorP12
import Derived.Test.YtlgccpjccopdmaaGreatDoorP14
import Derived.Test.YtlgccpjccopdmaaGreatDoorP17
import Derived.Test.YtlgccpjccopdmaaGreatDoorP18
import Derived.Test.YtlgccpjccopdmaaGreatDoorP21
set_option linter.unusedVariables false
set_option linter.unusedSimpArgs false
set_option maxRecDepth 1500
set_option maxHeartbeats 8000000
namespace Go.Proofs.YtlgccpjccopdmaaGreatDoor
open Go.RowKit
namespace Pa
open Mem Win Ga Lz St En La
theorem infoPart:(Tryz.prog.info? 108).map (fun i=>(i.zero,i.size,i.bytes))=some (some (.agg #[.int .i64 0,.int .i64 0,.int .i64 0,.int .i64 0,.slice none 0 0,.slice none 0 0]),6,80):=by kernel_rfl
structure PtR(w0 w:World)(sv rv:Value)(q:Pz):Prop where
 s:SymR w0 w sv q.ys
 r:∃p cap,rv=.slice p q.raw.length cap∧q.raw.length<cap∧Mine w0 w (.slice p (q.raw.length+1) cap) (q.raw++[77])
theorem PtR.rblock{w0 w:World}{sv rv:Value}{q:Pz}(h:PtR w0 w sv rv q){k:Nat}(hk:rv.ownBlock=some k):∃cur,w.heap[k]? =some (.cells cur 5 (0,0)):=by
 obtain⟨p,cap,rfl,_,hM⟩:=h.r
 exact(Own.of_mine hM).block (k:=k) (by cases p<;>exact hk)
theorem PtR.step{S:Nat→Prop}{w0 w w':World}{sv rv:Value}{q:Pz}(h:PtR w0 w sv rv q)(hfr:Fr S w w')(h1:∀k,sv.ownBlock=some k→¬S k)(h2:∀k,rv.ownBlock=some k→¬S k):PtR w0 w' sv rv q:=by
 refine⟨h.s.step hfr h1,?_⟩
 obtain⟨p,cap,rfl,hc,hM⟩:=h.r
 exact⟨p,cap,rfl,hc,hM.step hfr (fun k hk=>h2 k (by cases p<;>exact hk))⟩
def pc(a:Pz×Value×Value):List Value:=[.int .i64 a.1.kind,.int .i64 a.1.lc,.int .i64 a.1.lp,.int .i64 a.1.pb,a.2.1,a.2.2]
def pcs(l:List (Pz×Value×Value)):List Value:=l.flatMap pc
structure PartsI(w0 w:World)(v:Value)(l:List (Pz×Value×Value)):Prop where
 own:Own 108 6 w0 w v l.length (pcs l)
 each:∀a ∈ l,PtR w0 w a.2.1 a.2.2 a.1
theorem PartsI.keep{w0 w w':World}{v:Value}{l:List (Pz×Value×Value)}(h:PartsI w0 w v l)(hfr:Fr (fun _=>False) w w'):PartsI w0 w' v l:=
 ⟨h.own.keep hfr,fun a ha=>(h.each a ha).step hfr (fun _ _ h=>h) (fun _ _ h=>h)⟩
theorem PartsI.snoc{w0 w w':World}{v v':Value}{l:List (Pz×Value×Value)}{a:Pz×Value×Value}(h:PartsI w0 w v l)(ha:PtR w0 w a.2.1 a.2.2 a.1)(hown:Own 108 6 w0 w' v' (l.length+1) (pcs l++pc a))(hfr:Fr (fun k=>v.ownBlock=some k) w w'):PartsI w0 w' v' (l++[a]):=by
 have key:∀b:Pz×Value×Value,PtR w0 w b.2.1 b.2.2 b.1→PtR w0 w' b.2.1 b.2.2 b.1:=fun b hb=>hb.step hfr (fun k hk(e:v.ownBlock=some k)=>by
  obtain⟨cur,hc⟩:=hb.s.block hk
  exact h.own.off hc (by decide) e) (fun k hk(e:v.ownBlock=some k)=>by
  obtain⟨cur,hc⟩:=hb.rblock hk
  exact h.own.off hc (by decide) e)
 refine⟨by rw[List.length_append,List.length_singleton,show pcs (l++[a])=pcs l++pc a by simp[pcs]];exact hown,fun b hb=> ?_⟩
 rcases List.mem_append.1 hb with hb|hb
 ·exact key b (h.each b hb)
 ·rw[List.mem_singleton.1 hb]
  exact key a ha
theorem mine_older{w00 w0 w:World}{v:Value}{xs:List UInt8}(h:Mine w0 w v xs)(hs:w00.heap.size≤w0.heap.size):Mine w00 w v xs:=⟨h.own,fun k hk=>Nat.le_trans hs (h.new k hk)⟩
theorem _root_.Go.Proofs.YtlgccpjccopdmaaGreatDoor.Pa.SymR.older{w00 w0 w:World}{v:Value}{l:List Sz}(h:SymR w0 w v l)(hs:w00.heap.size≤w0.heap.size):SymR w00 w v l:=by
 obtain⟨p,cap,rfl,hc,ho⟩:=h
 exact⟨p,cap,rfl,hc,ho.own,fun k hk=>Nat.le_trans hs (ho.new k hk)⟩
theorem _root_.Go.Proofs.YtlgccpjccopdmaaGreatDoor.Pa.SymR.keep{w0 w w':World}{v:Value}{l:List Sz}(h:SymR w0 w v l)(hfr:Fr (fun _=>False) w w'):SymR w0 w' v l:=h.step hfr (fun _ _ h=>h)
theorem step_append_own{ops:Array Oper}{o:Oper}{a:Act}{K:Act→World→Prop}{Q:Exit→Act→World→Prop}{E:Prop}(hgd:o.guard=none)(s y:Operand){T t:TypeId}{z bytes n:Nat}{zero:Value}
 (ho:o.op=.call {callee:=.builtin .append,args:=#[s,y],argTypes:=#[t,t]})(hu:Tryz.prog.underlying t=some (.slice T))(hinfo:(Tryz.prog.info? T).map (fun i=>(i.zero,i.size,i.bytes))=some (some zero,z,bytes))(hzs:zero.cells.size=z)(hz0:0<z)(hby:bytes≤128)
 {w0 w:World}(v:Value)(xs:List Value)(cs:Array Value)(B:Nat)(hv:a.eval s=v)(hx:a.eval y=.slice (some ⟨B,0,none⟩) 1 1)(hm:Own T z w0 w v n xs)(hle:w0.heap.size≤w.heap.size)
 (hB:w.heap[B]? =some (.cells cs T (0,0)))(hcz:cs.size=z)(h1:∀u ∈ cs.toList,u.oneCell'=true)(hb:n≤1099511627775)
 (h:∀v' w',Own T z w0 w' v' (n+1) (xs++cs.toList)→Fr (fun k=>v.ownBlock=some k) w w'→(∀k,v'.ownBlock=some k→v.ownBlock=some k∨w.heap.size≤k)→K (a.put o.dst v') w'):
 if Region.wanted o (yielded ops a.tmps)=true then Oper.wp Tryz.prog o a w K Q else E:=by
 obtain⟨i0,hi,hz0',hz1,hz2⟩:=info_parts hinfo
 refine step_append_any w hgd s y t t ho T i0 _ z bytes hu hi hz0' hz1 hz2 hzs hz0 v n xs hv hm.own _ 1 cs.toList hx (Src.ofSlice w hu ⟨B,0,none⟩ 1 1 cs.toList (by simp[hcz]) (fun j u hu'=> ?_) h1) (by simp only[maxLen];omega) ?_ ?_
 ·rw[add_mid,Nat.zero_add]
  exact cell_in hB (by simpa using hu')
 ·have:(n+1)*bytes≤(n+1)*128:=Nat.mul_le_mul_left _ hby
  omega
 intro v' w' hown hfr hnew _
 refine h v' w' ⟨hown,fun k hk=> ?_⟩ hfr hnew
 rcases hnew k hk with h|h
 ·exact hm.new k h
 ·omega
theorem append_own128{ops:Array Oper}{rest:List Oper}{o:Oper}{a:Act}{Q:Exit→Act→World→Prop}(hgd:o.guard=none)(s y:Operand){T t:TypeId}{z bytes n:Nat}{zero:Value}
 (ho:o.op=.call {callee:=.builtin .append,args:=#[s,y],argTypes:=#[t,t]})(hu:Tryz.prog.underlying t=some (.slice T))(hinfo:(Tryz.prog.info? T).map (fun i=>(i.zero,i.size,i.bytes))=some (some zero,z,bytes))(hzs:zero.cells.size=z)(hz0:0<z)(hby:bytes≤128)
 {w0 w:World}(v:Value)(xs:List Value)(cs:Array Value)(B:Nat)(hv:a.eval s=v)(hx:a.eval y=.slice (some ⟨B,0,none⟩) 1 1)(hm:Own T z w0 w v n xs)(hle:w0.heap.size≤w.heap.size)
 (hB:w.heap[B]? =some (.cells cs T (0,0)))(hcz:cs.size=z)(h1:∀u ∈ cs.toList,u.oneCell'=true)(hb:n≤1099511627775)
 (h:∀v' w',Own T z w0 w' v' (n+1) (xs++cs.toList)→Fr (fun k=>v.ownBlock=some k) w w'→(∀k,v'.ownBlock=some k→v.ownBlock=some k∨w.heap.size≤k)→wpList Tryz.prog ops Q rest (a.put o.dst v') w'):
 wpList Tryz.prog ops Q (o::rest) a w:=by
 obtain⟨i0,hi,hz0',hz1,hz2⟩:=info_parts hinfo
 refine wpList_append_any w hgd s y t t ho T i0 _ z bytes hu hi hz0' hz1 hz2 hzs hz0 v n xs hv hm.own _ 1 cs.toList hx (Src.ofSlice w hu ⟨B,0,none⟩ 1 1 cs.toList (by simp[hcz]) (fun j u hu'=> ?_) h1) (by simp only[maxLen];omega) ?_ ?_
 ·rw[add_mid,Nat.zero_add]
  exact cell_in hB (by simpa using hu')
 ·have:(n+1)*bytes≤(n+1)*128:=Nat.mul_le_mul_left _ hby
  omega
 intro v' w' hown hfr hnew _
 refine h v' w' ⟨hown,fun k hk=> ?_⟩ hfr hnew
 rcases hnew k hk with h|h
 ·exact hm.new k h
 ·omega
def PartsP(w:World)(l:List Pz)(e:Ending)(w':World):Prop:=Fr (fun _=>False) w w'∧∃p cap L,e=.returned (.slice p l.length cap)∧l.length<cap∧L.map (·.1)=l∧(∀a ∈ L,PtR w w' a.2.1 a.2.2 a.1)∧Own 108 6 w w' (.slice p (l.length+1) cap) (l.length+1) (pcs L++pc (⟨99,0,0,0,[],[]⟩,.slice none 0 0,.slice none 0 0))
set_option maxRecDepth 100000 in
theorem parts_calls(l:List Pz)(lv:Value)(w:World)(hr:RdP w lv l)(hl:l.length≤1048576)(hy:∀q ∈ l,q.ys.length≤1048576)(hb:∀q ∈ l,q.raw.length≤16777216):Calls Tryz.prog 16 #[lv] w (PartsP w l):=by
  obtain⟨p0,cap0,rfl,hc1,hc2⟩:=hr.slice
  have HR:=Hd hr
  have HL:=Hd hl
  have HY:=Hd hy
  have HB:=Hd hb
  obtain⟨n,hn⟩:∃n,n=l.length:=⟨_,rfl⟩
  have HN:=Hd hn
  rw[←hn] at HR
  rw[←hn]
  clear hr hl hy hb hc1 hc2 hn
  go_enter Tryz.func16,Tryz.ntmps16
  go_wp2_with fail
  go_loopw [3,4] (fun v i wr=>∃(k:Nat)(L:List (Pz×Value×Value)),k≤n∧i=.int .i64 k∧Fr (fun _=>False) w wr∧L.map (·.1)=l.take k∧PartsI w wr v L) (fun _ i _=>n-(intOf i).toNat)
  case atStart=>exact⟨0,[],Nat.zero_le _,rfl,Fr.refl _ _,rfl,⟨Own.nil _ _ _ _,by simp⟩⟩
  case round=>
    obtain⟨k,L,hkn,rfl,hfr,hL,hI⟩:=hrel
    have hLk:L.length=k:=by have h1:=congrArg List.length hL;have:=HN.out;simp only[List.length_map,List.length_take] at h1;omega
    by_cases hlt:k<n
    · obtain⟨q,hq⟩:∃q,l[k]? =some q:=⟨l[k]'(HN.out ▸ hlt),List.getElem?_eq_getElem (HN.out ▸ hlt)⟩
      obtain⟨kind,lc,lp,pb,raw,ys⟩:=q
      obtain⟨b,o,rfl,c0,c1,c2,c3,sv,rv,c4,c5,hz,hrd⟩:=HR.out.at hq
      simp only at c0 c1 c2 c3 hz hrd
      obtain⟨sp,sc,rfl,_,_⟩:=hz.slice
      have hrd0:=hrd
      obtain⟨rp,rc,rfl,_⟩:=hrd0
      have HKEEP:=Hd (show∀W,Fr (fun _=>False) w W→(W.cell? ⟨b,o+k*6,none⟩=some (.int .i64 kind)∧W.cell? ⟨b,o+k*6+1,none⟩=some (.int .i64 lc)∧W.cell? ⟨b,o+k*6+2,none⟩=some (.int .i64 lp)∧W.cell? ⟨b,o+k*6+3,none⟩=some (.int .i64 pb)∧W.cell? ⟨b,o+k*6+4,none⟩=some (.slice sp ys.length sc)∧W.cell? ⟨b,o+k*6+5,none⟩=some (.slice rp raw.length rc)) from fun W hW=>⟨cell_keep c0 hW,cell_keep c1 hW,cell_keep c2 hW,cell_keep c3 hW,cell_keep c4 hW,cell_keep c5 hW⟩)
      have HSY:=Hd (show∀W,Fr (fun _=>False) w W→Calls Tryz.prog 45 #[.slice sp ys.length sc] W (SymP W ys) from fun W hW=>symbols_calls ys _ W (hz.keep hW) (HY.out _ (List.mem_of_getElem? hq)))
      have HRM:=Hd (show∀W,Fr (fun _=>False) w W→Calls Tryz.prog 7 #[.slice rp raw.length rc] W (RoomP W raw) from fun W hW=>room_calls raw _ W (hrd.keep hW) (HB.out _ (List.mem_of_getElem? hq)))
      have HQ:=Hd hq
      have HI:=Hd (hI.keep (Fr.refl (fun _=>False) wr).drew)
      have FC:=Hd hfr.drew
      have HLL:=Hd hL
      have HLK:=Hd hLk
      obtain⟨vp,vc,rfl⟩:=hI.own.slice
      clear c0 c1 c2 c3 c4 c5 hz hrd hq hI hL hfr hLk
      have hidx:(k:Int)<n:=by omega
      have hn0:(n:Int)≤1048576:=by have:=HN.out;have:=HL.out;omega
      go_wp2_with fail
      go_region_held3 (fun W=>W.cell? ⟨b,o+k*6,none⟩=some (.int .i64 kind)∧W.cell? ⟨b,o+k*6+1,none⟩=some (.int .i64 lc)∧W.cell? ⟨b,o+k*6+2,none⟩=some (.int .i64 lp)∧W.cell? ⟨b,o+k*6+3,none⟩=some (.int .i64 pb)∧W.cell? ⟨b,o+k*6+4,none⟩=some (.slice sp ys.length sc)∧W.cell? ⟨b,o+k*6+5,none⟩=some (.slice rp raw.length rc))
        (first|with_reducible exact HKEEP.out _ FC.out|with_reducible exact HKEEP.out _ (FC.out.alloc _)) ((first
        | (go_at_call 45
           refine(HSY.out _ FC.out).mono ?_
           rintro e ws ⟨hfs,v5,rfl,sp2,sc2,rfl,hlt5,hO5⟩
           have HSS:=Hd (SymR.older (⟨sp2,sc2,rfl,hlt5,hO5⟩:SymR _ _ (.slice sp2 ys.length sc2) ys) FC.out.size)
           have HI:=Hd (HI.out.keep hfs)
           have FC:=Hd (FC.out.trans hfs)
           try(have HMR:=Hd (HMR.out.keep hfs))
           clear hlt5 hO5 hfs)
        | (go_at_call 7
           refine(HRM.out _ FC.out).mono ?_
           rintro e ws ⟨hfs,rp2,rc2,rfl,hlt2,hM⟩
           have HMR:=Hd (mine_older hM FC.out.size)
           have HLT:=Hd hlt2
           have HI:=Hd (HI.out.keep hfs)
           have FC:=Hd (FC.out.trans hfs)
           try(have HSS:=Hd (HSS.out.keep hfs))
           clear hM hlt2 hfs)
        | (refine step_append_own rfl _ _ rfl Tryz.underlying49 infoPart rfl (by decide) (by decide) (w0:=w) (.slice vp L.length vc) (pcs L) #[.int .i64 kind,.int .i64 lc,.int .i64 lp,.int .i64 pb,.slice sp2 ys.length sc2,.slice rp2 raw.length rc2] ws.heap.size (by simp [Act.eval,Act.put]) (by simp [Act.eval,Act.put]) (HI.out.own.keep ((Fr.refl (fun _ => False) ws).alloc _)) (FC.out.alloc _).size (heap_alloc_new ws _) rfl (by simp [Value.oneCell']) (by have:=HLK.out; have:=HN.out; have:=HL.out; omega) ?_
           intro v6 w6 hO6 hfr6 hn6
           have HPT:=Hd (show PtR w (ws.alloc (.cells #[.int .i64 kind,.int .i64 lc,.int .i64 lp,.int .i64 pb,.slice sp2 ys.length sc2,.slice rp2 raw.length rc2] 108)) (.slice sp2 ys.length sc2) (.slice rp2 raw.length rc2) ⟨kind,lc,lp,pb,raw,ys⟩ from⟨HSS.out.keep ((Fr.refl (fun _=>False) ws).alloc (.cells #[.int .i64 kind,.int .i64 lc,.int .i64 lp,.int .i64 pb,.slice sp2 ys.length sc2,.slice rp2 raw.length rc2] 108)),_,_,rfl,HLT.out,HMR.out.keep ((Fr.refl (fun _=>False) ws).alloc (.cells #[.int .i64 kind,.int .i64 lc,.int .i64 lp,.int .i64 pb,.slice sp2 ys.length sc2,.slice rp2 raw.length rc2] 108))⟩)
           have HI6:=Hd ((HI.out.keep ((Fr.refl (fun _=>False) ws).alloc (.cells #[.int .i64 kind,.int .i64 lc,.int .i64 lp,.int .i64 pb,.slice sp2 ys.length sc2,.slice rp2 raw.length rc2] 108))).snoc (a:=(⟨kind,lc,lp,pb,raw,ys⟩,.slice sp2 ys.length sc2,.slice rp2 raw.length rc2)) HPT.out hO6 hfr6)
           have FC:=Hd ((FC.out.alloc _).trans' hfr6 (fun i h1 h2=>by have:=HI.out.own.new i h2;omega))
           clear hO6 hfr6 hn6)))
      go_wp2_with fail
      go_roundw
      case rel=>exact⟨k+1,_,by omega,by go_num,FC.out,by rw[List.map_append,HLL.out,List.take_add_one,HQ.out];rfl,HI6.out⟩
      case measure=>simp[intOf];omega
    · obtain rfl:k=n:=by omega
      obtain⟨vp,vc,rfl⟩:=hI.own.slice
      have hfb:=(Fr.refl (fun _=>False) wr).alloc (.cells #[.int .i64 99,.int .i64 0,.int .i64 0,.int .i64 0,.slice none 0 0,.slice none 0 0] 108)
      have HFB:=Hd hfb
      have HI2:=Hd (hI.keep hfb)
      have HONE:=Hd (heap_alloc_new wr (.cells #[.int .i64 99,.int .i64 0,.int .i64 0,.int .i64 0,.slice none 0 0,.slice none 0 0] 108))
      have HFR:=Hd hfr
      have HLL:=Hd hL
      have HLK:=Hd hLk
      clear hfb hI hfr hL hLk
      go_upto_region 7 with (at_builtin
                             refine append_own128 rfl _ _ rfl Tryz.underlying49 infoPart rfl (by decide) (by decide) (w0:=w) (.slice vp L.length vc) (pcs L) #[.int .i64 99,.int .i64 0,.int .i64 0,.int .i64 0,.slice none 0 0,.slice none 0 0] wr.heap.size rfl rfl HI2.out.own (Nat.le_trans HFR.out.size HFB.out.size) HONE.out rfl (by simp[Value.oneCell']) (by have:=HN.out;have:=HL.out;have:=HLK.out;omega) ?_
                             intro v3 w3 hM3 hfr3 hnew3
                             have HM3:=Hd hM3
                             have HF3:=Hd hfr3
                             clear hM3 hfr3 hnew3)
      obtain⟨p3,cap3,rfl⟩:=HM3.out.slice
      have hcap:k<cap3:=by
        rcases HM3.out.own.2 with⟨hnn,h0⟩|⟨g,cap',cur,hgv,h4,hg,hle,_⟩
        · simp at h0
        · simp only[Value.slice.injEq] at hgv
          have h1:=hgv.2.2
          have:=HLK.out
          omega
      have hsl:=slice_hbI p3 (L.length+1) cap3 k (k:Int) rfl (by omega)
      go_wp2_with fail
      go_ret
      refine⟨(HFR.out.trans HFB.out).trans' HF3.out (fun i h1 h2=>by have:=HI2.out.own.new i h2;omega),p3,cap3,L,by rw[HN.out];rfl,by rw[←HN.out];exact hcap,by rw[HLL.out,HN.out,List.take_length],fun a ha=> ?_,by rw[←HN.out,←HLK.out];exact HM3.out⟩
      exact(HI2.out.each a ha).step HF3.out (fun i hi(e:(Value.slice vp L.length vc).ownBlock=some i)=>by
        obtain⟨cur,hc⟩:=(HI2.out.each a ha).s.block hi
        exact HI2.out.own.off hc (by decide) e) (fun i hi(e:(Value.slice vp L.length vc).ownBlock=some i)=>by
        obtain⟨cur,hc⟩:=(HI2.out.each a ha).rblock hi
        exact HI2.out.own.off hc (by decide) e)
end Pa
namespace Pa
open Mem Win Ga Lz St En
theorem PtR.rd{w0 w:World}{sv rv:Value}{q:Pz}(h:PtR w0 w sv rv q):RdZ w sv q.ys∧Rd w rv q.raw:=by
 refine⟨h.s.rd,?_⟩
 obtain⟨p,cap,rfl,_,hM⟩:=h.r
 exact La.room_rd hM
theorem rdp_of{w0 w:World}{p:Option Addr}{cap:Nat}{l:List Pz}{L:List (Pz×Value×Value)}{t:List Value}(hL:L.map (·.1)=l)(hc:l.length<cap)(he:∀a ∈ L,PtR w0 w a.2.1 a.2.2 a.1)(ho:Own 108 6 w0 w (.slice p (l.length+1) cap) (l.length+1) (pcs L++t)):RdP w (.slice p l.length cap) l:=by
 have hcm:cap≤maxLen:=by
  rcases ho.own.2 with⟨he,_⟩|⟨g,cap',cur,he,_,_,_,hm,_⟩
  ·simp only[Value.slice.injEq] at he
   omega
  ·simp only[Value.slice.injEq] at he
   rw[he.2.2]
   exact hm
 subst hL
 refine⟨p,cap,rfl,by omega,hcm,fun h0=> ?_⟩
 have hlen:(pcs L).length=L.length*6:=by
  unfold pcs
  rw[List.length_flatMap,show(fun a=>(pc a).length)=fun _=>6 from rfl,List.map_const',List.sum_replicate_nat]
 rw[List.length_map] at h0
 have key:∀i a j u,L[i]? =some a→j<6→(pc a)[j]? =some u→∃g,p=some ⟨g,0,none⟩∧w.cell? ⟨g,i*6+j,none⟩=some u:=fun i a j u ha hj hu=>by
  have hi:=(List.getElem?_eq_some_iff.1 ha).1
  refine ho.cell (i:=i*6+j) (u:=u) ?_
  rw[List.getElem?_append_left (by rw[hlen];omega),←hu]
  exact flat_at pc 6 (fun _=>rfl) L i j a hj ha
 obtain⟨g,rfl,_⟩:=key 0 L[0] 0 _ (List.getElem?_eq_getElem h0) (by decide) rfl
 refine⟨g,0,rfl,fun i q hq=> ?_⟩
 rw[List.getElem?_map] at hq
 cases ha:L[i]? with
 |none=>rw[ha] at hq;exact absurd hq (by simp)
 |some a=>
   rw[ha] at hq
   simp only[Option.map_some,Option.some.injEq] at hq
   subst hq
   have cell:∀j u,j<6→(pc a)[j]? =some u→w.cell? ⟨g,i*6+j,none⟩=some u:=fun j u hj hu=>by
    obtain⟨g',hg',hc'⟩:=key i a j u ha hj hu
    simp only[Option.some.injEq,Addr.mk.injEq,and_true] at hg'
    rw[hg']
    exact hc'
   rw[Nat.zero_add]
   obtain⟨r1,r2⟩:=(he a (List.mem_of_getElem? ha)).rd
   exact⟨cell 0 _ (by decide) rfl,cell 1 _ (by decide) rfl,cell 2 _ (by decide) rfl,cell 3 _ (by decide) rfl,_,_,cell 4 _ (by decide) rfl,cell 5 _ (by decide) rfl,r1,r2⟩
end Pa
namespace Pa
open Mem Win Ga Lz St En
section
variable {w wr wr':World}{Bw Bs size:Nat}{all out:List UInt8}{s:S}{ov gv:Value}{rs:List (List Sz)}
end
end Pa
namespace Pa
open Mem Win Ga Lz St En
end Pa
namespace En
open Mem Rc St Lz
end En
namespace Pa
open Mem Win Ga Lz St En
end Pa
namespace Ck
open Mem Wire
end Ck
namespace Ck
open Mem Wire
end Ck
namespace Ck
open Mem Wire
end Ck
namespace Ck
open Mem Wire
end Ck
namespace En
open Mem Rc St Lz Ck
theorem start_ok(d:Nat):(Xe.start d).Ok:=⟨⟨show 0+0≤4 by decide,show 0≤4 by decide,S.new_ok⟩,fresh_ok 0 0⟩
end En
end Go.Proofs.YtlgccpjccopdmaaGreatDoor
