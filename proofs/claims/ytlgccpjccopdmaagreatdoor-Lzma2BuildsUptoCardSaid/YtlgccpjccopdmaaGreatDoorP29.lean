/- Part 29 of 54: lemmas of the last part, each under the conditions that it names. -/
import Derived.Test.YtlgccpjccopdmaaGreatDoorRows
import Derived.Lib.LaidTab
import Derived.Stop.LaidErr
import Derived.Test.YtlgccpjccopdmaaGreatDoorP16
import Derived.Test.YtlgccpjccopdmaaGreatDoorP18
import Derived.Test.YtlgccpjccopdmaaGreatDoorP21
import Derived.Test.YtlgccpjccopdmaaGreatDoorP22
import Derived.Test.YtlgccpjccopdmaaGreatDoorP26
import Derived.Test.YtlgccpjccopdmaaGreatDoorP28
set_option linter.unusedVariables false
set_option linter.unusedSimpArgs false
set_option maxRecDepth 1500
set_option maxHeartbeats 4000000
namespace Go.Proofs.YtlgccpjccopdmaaGreatDoor
open Go.RowKit
namespace En
open Mem Rc Win Lz
def QAt(w:World)(E:Nat)(v:Value)(k:K):Prop:=QR w E v k.bytes k.r k.s
def QP(E:Nat)(v:Value)(w:World)(k:K)(w':World):Prop:=QPost E v w k.bytes k.r k.s w'
theorem QR.set{w:World}{E:Nat}{v:Value}{L:List UInt8}{r s r2 s2:Nat}(h:QR w E v L r s)(i:Nat)(x:Value)(hx:(#[v,.int .u32 r,.int .i64 s]:Array Value).setIfInBounds i x=#[v,.int .u32 r2,.int .i64 s2]):QR (w.setCell ⟨E,i,none⟩ x) E v L r2 s2∧Fr (EF E v) w (w.setCell ⟨E,i,none⟩ x):=
 ⟨⟨by rw[set_in h.box i,hx],own_step h.own (Fr.one w E i x) (fun k hk e=>h.off k hk e)⟩,(Fr.one w E i x).mono (fun k _ e=>.inl e)⟩
theorem QR.app{w W w2:World}{E:Nat}{v v2:Value}{L ys:List UInt8}{r s:Nat}(h:QR w E v L r s)(hW:Fr (fun _=>False) w W)(hown:w2.ownsRow 0 5 1 v2 (L++ys).length (bvs (L++ys)))(hfr:Fr (fun k=>v.ownBlock=some k) W w2)
 (hnew:∀k,v2.ownBlock=some k→v.ownBlock=some k∨W.heap.size≤k):Fr (EF E v) w (w2.setCell ⟨E,0,none⟩ v2)∧QR (w2.setCell ⟨E,0,none⟩ v2) E v2 (L++ys) r s∧∀k,v2.ownBlock=some k→v.ownBlock=some k∨w.heap.size≤k:=by
 have hn:∀k,v2.ownBlock=some k→v.ownBlock=some k∨w.heap.size≤k:=fun k hk=>(hnew k hk).imp id (fun e=>Nat.le_trans hW.size e)
 have hb2:=hfr.keep (hW.keep h.box (fun h=>h)) (fun e=>h.off E e rfl)
 have f2:=Fr.one w2 E 0 v2
 refine⟨((hW.mono (fun _ _ h=>h.elim)).trans (hfr.mono (fun k _ e=>.inr e))).trans (f2.mono (fun k _ e=>.inl e)),⟨?_,own_step hown f2 (fun k hk e=> ?_)⟩,hn⟩
 ·rw[set_in hb2 0]
  rfl
 ·have e:k=E:=e
  subst e
  rcases hn k hk with e|e
  ·exact h.off k e rfl
  ·have:=lt_of_block h.box
   omega
theorem digs_more(n a:Nat):digs n a++[0]=digs (n+1) (a*256):=by
 rw[digs,Nat.mul_div_cancel _ (by decide),Nat.mul_mod_left]
 rfl
set_option maxRecDepth 100000 in
theorem widens_calls{w:World}{E:Nat}{v:Value}{k:K}(h:QAt w E v k)(h0:65536≤k.r)(h1:k.r<4294967296)(hs:k.s≤1099511627000):
 Calls Tryz.prog 133 #[ptr E] w fun e w'=>e=.returned (.tuple #[])∧QP E v w k.widen w':=by
 have c1:w.cell? ⟨E,1,none⟩=some (.int .u32 k.r):=cell_in h.box rfl
 by_cases hr:16777216≤k.r
 ·have hd:decide ((k.r:Int)<16777216)=false:=decide_eq_false (by omega)
  have HP:=Hd (show QP E v w k.widen w by unfold K.widen;rw[if_pos hr];exact h.same)
  clear h h0 h1 hr hs
  generalize k.r=r at*
  go_enter Tryz.func133,Tryz.ntmps133
  go_wp2_with fail
  go_loopw [] (fun wr=>wr=w) (fun _=>0)
  case atStart=>rfl
  case round=>
   obtain rfl:=hrel
   go_wp2_with fail
   go_end0
   exact⟨rfl,HP.out⟩
 ·have hd:decide ((k.r:Int)<16777216)=true:=decide_eq_true (by omega)
  have hr2:k.r<16777216:=by omega
  have HE:=Hd (show k.widen=⟨k.a*256,k.s+1,k.r*256⟩ by unfold K.widen;rw[if_neg hr])
  have HDM:=Hd (digs_more (k.s+5) k.a)
  have hlen:k.bytes.length=k.s+5:=digs_len _ _
  have s1:=QR.set (r2:=k.r*256) (s2:=k.s) h 1 (.int .u32 ((k.r:Int)*256)) (by simp)
  have H1:=Hd s1.1
  have HF1:=Hd s1.2
  obtain⟨p,cap,hv⟩:=own_slice h.own
  have cf:=frozen_in h.box 1
  subst hv
  have HBD:=Hd (show k.bytes.length+([0]:List UInt8).length≤70368744177664 by rw[hlen];simp only[List.length_singleton];omega)
  generalize hL:k.bytes=L at*
  have HL:=Hd hL
  have H0:=Hd (show decide (((k.r*256:Nat):Int)<16777216)=false from decide_eq_false (by omega))
  clear h s1 hL h0
  obtain⟨r,hR⟩:∃r,r=k.r:=⟨_,rfl⟩
  obtain⟨s,hS⟩:∃s,s=k.s:=⟨_,rfl⟩
  rw[←hR] at c1 hd hr2 H1 HF1 H0 h1
  rw[←hS] at H1 hs hlen
  have HLEN:=Hd hlen
  clear hlen
  have HR:=Hd hR
  have HSS:=Hd hS
  clear hR hS hr
  go_enter Tryz.func133,Tryz.ntmps133
  go_wp2_with fail
  go_loopg [] 2 (fun f wr=>f=2∧wr=w∨f=1∧QP E (.slice p L.length cap) w k.widen wr)
  case atStart=>exact .inl ⟨rfl,rfl⟩
  case round=>
   rcases hrel with⟨rfl,rfl⟩|⟨rfl,hp⟩
   ·go_upto_region 2 with fail
    generalize World.setCell wr _ _=w1 at*
    have k0:w1.cell? ⟨E,0,none⟩=some (.slice p L.length cap):=cell_in H1.out.box rfl
    have HW:=Hd ((Fr.refl (fun _=>False) w1).alloc (.cells #[.int .u8 0] 5))
    have HRD:=Hd (rd_one w1 w1.heap.size rfl 0 0 (by simp))
    have HOW:=Hd (own_step H1.out.own HW.out (fun _ _ h=>h))
    clear c1 cf
    go_wp2_with (at_builtin;refine append_own rfl _ _ rfl (.slice p L.length cap) (.slice (some ⟨w1.heap.size,0,none⟩) 1 1) L [0] rfl rfl HOW.out HRD.out HBD.out ?_;intro p2 n2 cap2 w2 hown2 hfr2 hnew2;obtain⟨f3,a3,n3⟩:=H1.out.app HW.out hown2 hfr2 hnew2;have HF3:=Hd f3;have HA3:=Hd a3;have HN3:=Hd n3;have hb2:=hfr2.keep (HW.out.keep H1.out.box (fun h=>h)) (fun e=>H1.out.off E e rfl);have z0:=cell_in (i:=0) hb2 rfl;have z2:=cell_in (i:=2) hb2 rfl;have zf:=fun i=>frozen_in hb2 i;clear f3 a3 n3 hown2 hfr2 hnew2 hb2)
    go_roundg 1
    case rel=>
     have s1:=QR.set (r2:=r*256) (s2:=s+1) HA3.out 2 (.int .i64 ((s:Int)+1)) (by simp)
     refine .inr ⟨rfl,QPost.trans (HF1.out.trans HF3.out) (fun k hk=>(HN3.out k hk).imp id (fun e=>Nat.le_trans HF1.out.size e)) ?_⟩
     rw[HE.out]
     show QPost _ _ _ (digs (k.s+5+1) (k.a*256)) (k.r*256) (k.s+1) _
     rw[←HDM.out,←HR.out,←HSS.out]
     have e:L=digs (s+5) k.a:=by rw[HSS.out];exact HL.out.symm
     rw[←e]
     exact⟨s1.2,_,s1.1,fun k hk=>.inl hk⟩
    case measure=>omega
   ·have HP:=Hd hp
    have hb:=hp.2.choose_spec.1.box
    have k1:wr.cell? ⟨E,1,none⟩=some (.int .u32 k.widen.r):=cell_in hb rfl
    have hd2:decide ((k.widen.r:Int)<16777216)=false:=by rw[HE.out,←HR.out];exact H0.out
    clear hb hp c1 cf
    generalize hkw:k.widen.r=r2 at*
    go_wp2_with fail
    go_end0
    exact⟨rfl,HP.out⟩
end En
namespace Pa
open Mem Win Ck Ga Lz St En La
set_option maxRecDepth 100000 in
theorem slice_hP(p:Option Addr)(n cap b:Nat)(h:Int)(hh:h=b)(hb:b≤cap)(W:World):
 (Instr.slice 49 (.slice p n cap) none (some (.int .i64 h)) none).run Tryz.prog W=.ok (.slice p b cap) W:=by
 subst hh
 obtain⟨i,hi,hz,hs,_⟩:=info_parts infoPart
 rw[run_slice_h (P:=Tryz.prog) W 49 p n cap Tryz.underlying49 .i64 b (by omega) (by omega)]
 cases p<;>simp[sizeOf,typeInfo,hi,hs,Result.andThen,sliced,Addr.add,show Tryz.prog.elem 49=108 by kernel_rfl]
set_option maxRecDepth 100000 in
theorem slice_hY(p:Option Addr)(n cap b:Nat)(h:Int)(hh:h=b)(hb:b≤cap)(W:World):
 (Instr.slice 63 (.slice p n cap) none (some (.int .i64 h)) none).run Tryz.prog W=.ok (.slice p b cap) W:=by
 subst hh
 obtain⟨i,hi,hz,hs,_⟩:=info_parts infoSym
 rw[run_slice_h (P:=Tryz.prog) W 63 p n cap Tryz.underlying63 .i64 b (by omega) (by omega)]
 cases p<;>simp[sizeOf,typeInfo,hi,hs,Result.andThen,sliced,Addr.add,show Tryz.prog.elem 63=96 by kernel_rfl]
def YesQ(w:World)(e:Ending)(w':World):Prop:=e=.returned (.bool true)∧∃m,w'=w.drewN m
theorem heldQ_calls(p:Option Addr)(cap:Nat)(b:List UInt8)(av:Value)(w0 w:World)(hM:Mine w0 w (.slice p (b.length+1) cap) (b++[77]))(hcap:b.length<cap)(hr:Rd w av b)(hb:b.length≤16777216):Calls Tryz.prog 10 #[.slice p b.length cap,av] w (YesQ w):=by
 have hrd:=room_rd hM
 obtain⟨q,hq,hcell⟩:∃g,p=some ⟨g,0,none⟩∧w.cell? ⟨g,b.length,none⟩=some (.int .u8 (77:Int)):=by
  have h:=(Own.of_mine hM)
  rw[List.length_append,List.length_singleton] at h
  exact h.cell (i:=b.length) (by simp[bvs,bv])
 subst hq
 obtain⟨pa,ca,rfl,ha1,ha2,ha3⟩:=hr
 have hr:Rd w (.slice pa b.length ca) b:=⟨pa,ca,rfl,ha1,ha2,ha3⟩
 have hs1:=slice_hbI (some ⟨q,0,none⟩) b.length cap (b.length+1) ((b.length:Int)+1) (by omega) (by omega)
 have hs2:=slice_hbI (some ⟨q,0,none⟩) (b.length+1) cap b.length (b.length:Int) rfl (by omega)
 have hc1:∀m,(convert 22 9 (.slice (some ⟨q,0,none⟩) b.length cap)).run Tryz.prog (w.drewN m)=.ok (.string (str b)) (w.drewN m):=fun m=>conv_str (hrd.keep ((Fr.refl _ _).drewN m))
 have hc2:∀m,(convert 22 9 (.slice pa b.length ca)).run Tryz.prog (w.drewN m)=.ok (.string (str b)) (w.drewN m):=fun m=>conv_str (hr.keep ((Fr.refl _ _).drewN m))
 have hss:((str b).toList==(str b).toList)=true:=by simp
 clear hM hrd hr ha1 ha2 ha3
 go_enter Tryz.func10,Tryz.ntmps10
 go_wp2_with fail
 go_quiet (fail)
 go_wp2_with fail
 go_ret
 exact⟨rfl,_,rfl⟩
theorem samesZ_calls(v1 v2:Value)(l:List Sz)(w:World)(h1:RdZ w v1 l)(h2:RdZ w v2 l)(hl:l.length≤1099511627776):Calls Tryz.prog 52 #[v1,v2] w (YesQ w):=by
 obtain⟨p1,c1,rfl,_,_⟩:=h1.slice
 obtain⟨p2,c2,rfl,_,_⟩:=h2.slice
 have HO1:=Hd h1
 have HO2:=Hd h2
 clear h1 h2
 generalize hn:l.length=n at*
 have HN:=Hd hn
 clear hn
 go_enter Tryz.func52,Tryz.ntmps52
 go_wp2_with fail
 go_loopw [5](fun i wr=>∃k m:Nat,k≤n∧i=.int .i64 k∧wr=w.drewN m) (fun i _=>n-(intOf i).toNat)
 case atStart=>exact⟨0,0,Nat.zero_le _,rfl,rfl⟩
 case round=>
  obtain⟨k,m,hkn,rfl,rfl⟩:=hrel
  by_cases hlt:k<n
  ·obtain⟨a,ha⟩:∃a,l[k]? =some a:=⟨l[k]'(HN.out ▸ hlt),List.getElem?_eq_getElem (HN.out ▸ hlt)⟩
   obtain⟨b1,o1,rfl,e10,e11,e12,e13⟩:=HO1.out.at ha
   obtain⟨b2,o2,rfl,e20,e21,e22,e23⟩:=HO2.out.at ha
   clear ha
   have hidx:(k:Int)<n:=by omega
   go_wp2_with fail
   go_quiet (fail)
   go_wp2_with fail
   exact⟨⟨k+1,_,by omega,by go_num,rfl⟩,by simp[intOf];omega⟩
  ·have hkn2:k=n:=by omega
   subst hkn2
   go_wp2_with fail
   go_ret
   exact⟨rfl,_,rfl⟩
structure KeptI(w0 w:World)(g cc:Nat)(l:List Pz)(L:List (Pz×Value×Value)):Prop where
 cap:l.length<cc
 map:L.map (·.1)=l
 each:∀a ∈ L,PtR w0 w a.2.1 a.2.2 a.1
 own:Own 108 6 w0 w (.slice (some ⟨g,0,none⟩) (l.length+1) cc) (l.length+1) (pcs L++pc (⟨99,0,0,0,[],[]⟩,.slice none 0 0,.slice none 0 0))
theorem KeptI.keep{w0 w w':World}{g cc:Nat}{l:List Pz}{L:List (Pz×Value×Value)}(h:KeptI w0 w g cc l L)(hf:Fr (fun _=>False) w w'):KeptI w0 w' g cc l L:=
 ⟨h.cap,h.map,fun a ha=>(h.each a ha).step hf (fun _ _ h=>h) (fun _ _ h=>h),h.own.keep hf⟩
theorem pcs_len(L:List (Pz×Value×Value)):(pcs L).length=L.length*6:=by
 unfold pcs
 rw[List.length_flatMap,show(fun a=>(pc a).length)=fun _=>6 from rfl,List.map_const',List.sum_replicate_nat]
theorem KeptI.cell{w0 w:World}{g cc:Nat}{l:List Pz}{L:List (Pz×Value×Value)}(h:KeptI w0 w g cc l L){i j:Nat}{a:Pz×Value×Value}{u:Value}(ha:L[i]? =some a)(hj:j<6)(hu:(pc a)[j]? =some u):w.cell? ⟨g,i*6+j,none⟩=some u:=by
 have hi:=(List.getElem?_eq_some_iff.1 ha).1
 obtain⟨g',hg',hc⟩:=h.own.cell (i:=i*6+j) (u:=u) (by
  rw[List.getElem?_append_left (by rw[pcs_len];omega),←hu]
  exact flat_at pc 6 (fun _=>rfl) L i j a hj ha)
 simp only[Option.some.injEq,Addr.mk.injEq,and_true] at hg'
 subst hg'
 exact hc
theorem KeptI.last{w0 w:World}{g cc:Nat}{l:List Pz}{L:List (Pz×Value×Value)}(h:KeptI w0 w g cc l L):w.cell? ⟨g,l.length*6,none⟩=some (.int .i64 99):=by
 have hl:L.length=l.length:=by rw[←h.map,List.length_map]
 obtain⟨g',hg',hc⟩:=h.own.cell (i:=l.length*6) (u:=.int .i64 99) (by
  rw[List.getElem?_append_right (by rw[pcs_len,hl];exact Nat.le_refl _),pcs_len,hl,Nat.sub_self]
  rfl)
 simp only[Option.some.injEq,Addr.mk.injEq,and_true] at hg'
 subst hg'
 exact hc
theorem SymR.last{w0 w:World}{v:Value}{l:List Sz}(h:SymR w0 w v l):∃gs cap,v=.slice (some ⟨gs,0,none⟩) l.length cap∧l.length<cap∧w.cell? ⟨gs,l.length*4,none⟩=some (.int .i64 99):=by
 obtain⟨p,cap,rfl,hc,ho⟩:=h
 obtain⟨g,rfl,hcell⟩:=ho.cell (i:=l.length*4) (u:=.int .i64 99) (by
  unfold zc
  rw[List.flatMap_append,List.getElem?_append_right (by have:=zc_length l;unfold zc at this;rw[this];exact Nat.le_refl _),show(l.flatMap fun z=>z.cells.toList).length=l.length*4 from zc_length l,Nat.sub_self]
  rfl)
 exact⟨g,cap,rfl,hc,hcell⟩
set_option maxRecDepth 100000 in
theorem kept_calls(w0 w:World)(g cc:Nat)(l:List Pz)(L:List (Pz×Value×Value))(lv:Value)(h:KeptI w0 w g cc l L)(hr:RdP w lv l)(hl:l.length≤1048576)(hy:∀q ∈ l,q.ys.length≤1048576)(hb:∀q ∈ l,q.raw.length≤16777216):
 Calls Tryz.prog 19 #[.slice (some ⟨g,0,none⟩) l.length cc,lv] w fun e w'=>e=.returned (.bool true)∧Fr (fun _=>False) w w':=by
 obtain⟨p0,cap0,rfl,_,_⟩:=hr.slice
 have HK:=Hd h
 have HR:=Hd hr
 have HY:=Hd hy
 have HB:=Hd hb
 have HCAP:=Hd h.cap
 have hll:L.length=l.length:=by rw[←h.map,List.length_map]
 have HMAP:=Hd h.map
 have hlast:=h.last
 have hs:=slice_hP (some ⟨g,0,none⟩) l.length cc (l.length+1) ((l.length:Int)+1) (by omega) h.cap
 obtain⟨n,hn⟩:∃n,l.length=n:=⟨_,rfl⟩
 have HN:=Hd hn
 rw[hn] at HR hs hlast HCAP hl hll ⊢
 have HLL:=Hd hll
 have HLAST:=Hd (show∀W,Fr (fun _=>False) w W→W.cell? ⟨g,n*6,none⟩=some (.int .i64 99) from fun W hW=>cell_keep hlast hW)
 clear h hr hy hb hn hll hlast
 go_enter Tryz.func19,Tryz.ntmps19
 go_wp2_with fail
 go_loopw [6](fun i wr=>∃k:Nat,k≤n∧i=.int .i64 k∧Fr (fun _=>False) w wr) (fun i _=>n-(intOf i).toNat)
 case atStart=>exact⟨0,Nat.zero_le _,rfl,Fr.refl _ _⟩
 case round=>
  obtain⟨k,hkn,rfl,hfr⟩:=hrel
  by_cases hlt:k<n
  ·obtain⟨a,ha⟩:∃a,L[k]? =some a:=⟨L[k]'(HLL.out ▸ hlt),List.getElem?_eq_getElem (HLL.out ▸ hlt)⟩
   have hq:l[k]? =some a.1:=by rw[←HMAP.out,List.getElem?_map,ha];rfl
   have HKR:=HK.out.keep hfr
   have x0:wr.cell? ⟨g,k*6,none⟩=some (.int .i64 a.1.kind):=HKR.cell (j:=0) ha (by decide) rfl
   have x1:=HKR.cell (j:=1) ha (by decide) rfl
   have x2:=HKR.cell (j:=2) ha (by decide) rfl
   have x3:=HKR.cell (j:=3) ha (by decide) rfl
   have x4:=HKR.cell (j:=4) ha (by decide) rfl
   have x5:=HKR.cell (j:=5) ha (by decide) rfl
   have hpt:=HKR.each a (List.mem_of_getElem? ha)
   obtain⟨b,o,rfl,c0,c1,c2,c3,sv,rv,c4,c5,hz,hrd⟩:=(HR.out.keep hfr).at hq
   have hyl:=HY.out a.1 (List.mem_of_getElem? hq)
   have hbl:=HB.out a.1 (List.mem_of_getElem? hq)
   obtain⟨q,s1,r1⟩:=a
   simp only at x0 x1 x2 x3 x4 x5 hpt c0 c1 c2 c3 hz hrd hyl hbl
   obtain⟨gs,sc1,hs1,hsc,hc99⟩:=hpt.s.last
   obtain⟨rp1,rc1,hr1,hrc,hM⟩:=hpt.r
   have hz1:=hpt.s.rd
   subst hs1 hr1
   obtain⟨sp,sc,rfl,_,_⟩:=hz.slice
   have hrd0:=hrd
   obtain⟨rp,rc,rfl,_⟩:=hrd0
   obtain⟨kind,lc,lp,pb,raw,ys⟩:=q
   simp only at x0 x1 x2 x3 x4 x5 c0 c1 c2 c3 c4 c5 hz hrd hyl hbl hM hz1 hsc hc99 hrc
   have hs2:=slice_hY (some ⟨gs,0,none⟩) ys.length sc1 (ys.length+1) ((ys.length:Int)+1) (by omega) hsc
   obtain⟨ny,hny⟩:∃ny,ys.length=ny:=⟨_,rfl⟩
   obtain⟨nr,hnr⟩:∃nr,raw.length=nr:=⟨_,rfl⟩
   have HHD:=Hd (show∀W,Fr (fun _=>False) wr W→Calls Tryz.prog 10 #[.slice rp1 nr rc1,.slice rp nr rc] W (YesQ W) from fun W hW=>by
    have:=heldQ_calls rp1 rc1 raw (.slice rp raw.length rc) w0 W (hM.keep hW) hrc (hrd.keep hW) hbl
    rw[hnr] at this
    exact this)
   have HSM:=Hd (show∀W,Fr (fun _=>False) wr W→Calls Tryz.prog 52 #[.slice (some ⟨gs,0,none⟩) ny sc1,.slice sp ny sc] W (YesQ W) from fun W hW=>by
    have:=samesZ_calls (.slice (some ⟨gs,0,none⟩) ys.length sc1) (.slice sp ys.length sc) ys W (hz1.keep hW) (hz.keep hW) (by omega)
    rw[hny] at this
    exact this)
   have HC99:=Hd (show∀W,Fr (fun _=>False) wr W→W.cell? ⟨gs,ny*4,none⟩=some (.int .i64 99) from fun W hW=>by rw[←hny];exact cell_keep hc99 hW)
   have HSC:=Hd (show(ny:Int)+1≤(sc1:Int) by omega)
   rw[hny] at x4 c4 hs2 hyl
   rw[hnr] at x5 c5
   have HFR:=Hd hfr
   have hidx:(k:Int)<n:=by omega
   have hidx1:(k:Int)<(n:Int)+1:=by omega
   have X:=Hd (heap_alloc_new wr (.cells #[.int .i64 kind,.int .i64 lc,.int .i64 lp,.int .i64 pb,.slice (some ⟨gs,0,none⟩) ny sc1,.slice rp1 nr rc1] 108))
   have fX:=(Fr.refl (fun _=>False) wr).alloc (.cells #[.int .i64 kind,.int .i64 lc,.int .i64 lp,.int .i64 pb,.slice (some ⟨gs,0,none⟩) ny sc1,.slice rp1 nr rc1] 108)
   have fY:=(Fr.refl (fun _=>False) (wr.alloc (.cells #[.int .i64 kind,.int .i64 lc,.int .i64 lp,.int .i64 pb,.slice (some ⟨gs,0,none⟩) ny sc1,.slice rp1 nr rc1] 108))).alloc (.cells #[.int .i64 kind,.int .i64 lc,.int .i64 lp,.int .i64 pb,.slice sp ny sc,.slice rp nr rc] 108)
   have hX2:=fY.keep X.out (fun h=>h)
   have hY2:((wr.alloc (.cells #[.int .i64 kind,.int .i64 lc,.int .i64 lp,.int .i64 pb,.slice (some ⟨gs,0,none⟩) ny sc1,.slice rp1 nr rc1] 108)).alloc (.cells #[.int .i64 kind,.int .i64 lc,.int .i64 lp,.int .i64 pb,.slice sp ny sc,.slice rp nr rc] 108)).heap[wr.heap.size+1]? =some (.cells #[.int .i64 kind,.int .i64 lc,.int .i64 lp,.int .i64 pb,.slice sp ny sc,.slice rp nr rc] 108):=by
    have:=heap_alloc_new (wr.alloc (.cells #[.int .i64 kind,.int .i64 lc,.int .i64 lp,.int .i64 pb,.slice (some ⟨gs,0,none⟩) ny sc1,.slice rp1 nr rc1] 108)) (.cells #[.int .i64 kind,.int .i64 lc,.int .i64 lp,.int .i64 pb,.slice sp ny sc,.slice rp nr rc] 108)
    rwa [World.size_alloc] at this
   have HX2:=Hd (And.intro hX2 hY2)
   have F2:=Hd (fX.trans fY)
   have C0:=cell_keep c0 fX
   have C1:=cell_keep c1 fX
   have C2:=cell_keep c2 fX
   have C3:=cell_keep c3 fX
   have C4:=cell_keep c4 fX
   have C5:=cell_keep c5 fX
   obtain⟨X0,X1,X2,X3,X4,X5⟩:=cs6 hX2 rfl rfl rfl rfl rfl rfl
   obtain⟨Y0,Y1,Y2,Y3,Y4,Y5⟩:=cs6 hY2 rfl rfl rfl rfl rfl rfl
   clear hz hrd hM hz1 hpt hfr ha hq HKR hc99 hny hnr fX fY hX2 hY2 hsc hrc
   go_wp2_with fail
   refine(HHD.out _ F2.out).mono ?_
   rintro e w2 ⟨rfl,m2,rfl⟩
   have F3:=Hd (F2.out.drewN m2)
   go_wp2_with fail
   refine(HSM.out _ F3.out).mono ?_
   rintro e w3 ⟨rfl,m3,rfl⟩
   have F4:=Hd (F3.out.drewN m3)
   have c99:=HC99.out _ F2.out
   have hq3:IntKind.i64.wrap ((ny:Int)+1)=(ny:Int)+1:=IntWalk.i64_in _ (by omega)
   have hx1:(ny:Int)<(ny:Int)+1:=by omega
   have hq0:(0:Int)≤(ny:Int)+1:=by omega
   have hq1:(ny:Int)+1≤(sc1:Int):=HSC.out
   have hq2:((ny:Int)+1).toNat=ny+1:=by omega
   have hx2:(ny:Int)<((ny+1:Nat):Int):=by omega
   have hx3:(0:Int)≤(ny:Int):=by omega
   go_wp2_with fail
   go_quiet (fail)
   go_wp2_with fail
   go_roundw
   case rel=>exact⟨k+1,by omega,by go_num,(HFR.out.trans F2.out).drewN _⟩
   case measure=>simp[intOf];omega
  ·obtain rfl:k=n:=by omega
   have c99:=HLAST.out _ hfr
   have HFR:=Hd hfr
   clear hfr
   go_wp2_with fail
   go_ret
   exact⟨rfl,HFR.out⟩
end Pa
namespace Mem
theorem splice_keep(vs:List Value)(cur:Array Value)(o:Nat)(h:o+vs.length≤cur.size):(splice cur o vs).toList.take o=cur.toList.take o:=by
 have h1:=congrArg (List.take o) (splice_take vs cur o h)
 rw[List.take_take,show min o (o+vs.length)=o by omega] at h1
 rw[h1]
 exact List.take_left' (by rw[List.length_take,Array.length_toList];omega)
section
variable {P:Program}(w:World)
theorem run_append_any2(t tx ty e:TypeId)(i:TypeInfo)(z:Value)(size bytes:Nat)(ht:P.underlying t=some (.slice e))(hi:P.info? e=some i)(hz:i.zero=some z)
 (hsize:i.size=size)(hby:i.bytes=bytes)(hzs:z.cells.size=size)(hsz:0<size)
 (v:Value)(n:Nat)(xs:List Value)(hown:w.ownsRow 0 e size v n xs)(x:Value)(m:Nat)(news:List Value)(hs:Src P size tx x m news w)
 (h63:n+m≤maxLen)(hbytes:(n+m)*bytes≤140737488355328):
 ∃v' w',(Builtin.append_ #[t,tx] ty #[v,x]).run P w=.ok v' w'∧w'.ownsRow 0 e size v' (n+m) (xs++news)∧Fr (fun k=>v.ownBlock=some k) w w'∧
  (∀k,v'.ownBlock=some k→v.ownBlock=some k∨w.heap.size≤k)∧w'.ownsRow 0 e size v n xs:=by
 subst hsize
 subst hby
 have hsmall:n+m≤9223372036854775807:=by simp only[maxLen] at h63;omega
 have hlen:(xs++news).length=(n+m)*i.size:=by rw[List.length_append,hown.1,hs.newsLen,Nat.add_mul]
 have grown:∀(old:Nat),old<n+m→
  (w.drew.alloc (.cells ((xs++news).toArray++Builtin.zeroCells z.cells (grownCap w (n+m) old e-(n+m))) e)).ownsRow 0 e i.size
    (.slice (some ⟨w.heap.size,0,none⟩) (n+m) (grownCap w (n+m) old e)) (n+m) (xs++news):=by
  intro old ho
  have hge:=grownCap_ge w (n+m) old e
  have hcm:grownCap w (n+m) old e≤maxLen:=grownCap_le_maxLen w (n+m) old e h63
  refine⟨hlen,.inr ⟨w.heap.size,_,_,rfl,Nat.zero_le _,heap_alloc_new w.drew _,hge,hcm,?_,?_⟩⟩
  ·simp only[Array.size_append,List.size_toArray,size_zeroCells,hzs,hlen,←Nat.add_mul]
   congr 1
   omega
  ·simp only[Array.toList_append]
   rw[←hlen]
   exact List.take_left
 rcases hown.2 with⟨rfl,rfl⟩|⟨g,cap,cur,rfl,hbg,hg,hnc,hcm,hcs,htake⟩
 ·have hx:xs=[]:=List.eq_nil_of_length_eq_zero (by simpa using hown.1)
  subst hx
  by_cases hm:m=0
  ·subst hm
   have hn:news=[]:=List.eq_nil_of_length_eq_zero (by simpa using hs.newsLen)
   subst hn
   refine⟨.slice none 0 0,w,?_,World.ownsRow_nil w 0 e i.size,Fr.refl _ _,by simp[Value.ownBlock],World.ownsRow_nil w 0 e i.size⟩
   have hc:=hs.cells
   rcases hs.kind with⟨e',hk⟩|hk<;>simp[Builtin.append_,run_underlying ht,run_underlying hk,sizeOf,typeInfo,hi,hs.len,hc]
  ·have hr:=run_append_grow_src (P:=P) w t tx ty e i z ht hi hz none 0 0 [] (run_firstCells_none w.drew i.size 0 0 0) x m news hs (by omega) (by omega) (growslice_fits (by omega) (by simpa using hbytes))
   have hgr:=grown 0 (by omega)
   simp only[Nat.zero_add,List.nil_append] at hgr hr ⊢
   exact⟨_,_,hr,hgr,(Fr.refl _ _).drew.alloc _,by simp[Value.ownBlock],World.ownsRow_nil _ 0 e i.size⟩
 ·by_cases hroom:n+m≤cap
  ·have hfit:n*i.size+news.length≤cur.size:=by rw[hs.newsLen,hcs,←Nat.add_mul];exact Nat.mul_le_mul_right _ hroom
   have hr:=run_append_room_src (P:=P) w t tx ty e i ht hi g 0 n cap x m news hs hroom (fun j hj=>by rw[cell_of_row w g _ cur e _ hg];simp;omega) (fun j hj=>frozen_in hg _)
   rw[Nat.zero_add] at hr
   refine⟨_,_,hr,⟨hlen,.inr ⟨g,cap,_,rfl,Nat.zero_le _,setCells_heap g e news _ w cur hg,hroom,hcm,by rw[splice_size];exact hcs,?_⟩⟩,(setCells_fr g news _ w).mono (fun k _ h=>by rw[Value.ownBlock];exact congrArg some h),by simp[Value.ownBlock],⟨hown.1,.inr ⟨g,cap,_,rfl,Nat.zero_le _,setCells_heap g e news _ w cur hg,hnc,hcm,by rw[splice_size];exact hcs,by rw[splice_keep news cur _ hfit];exact htake⟩⟩⟩
   rw[show(n+m)*i.size=n*i.size+news.length by rw[hs.newsLen,Nat.add_mul],splice_take news cur _ hfit,htake]
  ·have holds:∀j u,xs[j]? =some u→w.cell? ((⟨g,0,none⟩:Addr).add j)=some u:=hown.cells (g:=g) rfl
   have hold:(Builtin.firstCells i.size n (.slice (some ⟨g,0,none⟩) n cap)).run P w.drew=.ok xs.toArray w.drew:=run_firstCells_some (P:=P) w.drew i.size n ⟨g,0,none⟩ n cap xs hown.1 (by simpa using holds)
   have hr:=run_append_grow_src (P:=P) w t tx ty e i z ht hi hz (some ⟨g,0,none⟩) n cap xs hold x m news hs (by omega) (by omega) (growslice_fits (by omega) hbytes)
   exact⟨_,_,hr,grown cap (by omega),(Fr.refl _ _).drew.alloc _,by simp[Value.ownBlock],⟨hown.1,.inr ⟨g,cap,cur,rfl,hbg,((Fr.refl (fun _=>False) w).drew.alloc _).keep hg (fun h=>h),hnc,hcm,hcs,htake⟩⟩⟩
end
end Mem
namespace Ga
open Mem Win
theorem append_own2{ops:Array Oper}{rest:List Oper}{o:Oper}{a:Act}{Q:Exit→Act→World→Prop}(hgd:o.guard=none)(s y:Operand){T t:TypeId}{z bytes n:Nat}{zero:Value}
 (ho:o.op=.call {callee:=.builtin .append,args:=#[s,y],argTypes:=#[t,t]})(hu:Tryz.prog.underlying t=some (.slice T))(hinfo:(Tryz.prog.info? T).map (fun i=>(i.zero,i.size,i.bytes))=some (some zero,z,bytes))(hzs:zero.cells.size=z)(hz0:0<z)(hbytes:(n+1)*bytes≤140737488355328)
 {w0 w:World}(v:Value)(xs:List Value)(cs:Array Value)(B:Nat)(hv:a.eval s=v)(hx:a.eval y=.slice (some ⟨B,0,none⟩) 1 1)(hm:Own T z w0 w v n xs)(hle:w0.heap.size≤w.heap.size)
 (hB:w.heap[B]? =some (.cells cs T (0,0)))(hcz:cs.size=z)(h1:∀u ∈ cs.toList,u.oneCell'=true)(hb:n≤70368744177664)
 (h:∀v' w',Own T z w0 w' v' (n+1) (xs++cs.toList)→Fr (fun k=>v.ownBlock=some k) w w'→(∀k,v'.ownBlock=some k→v.ownBlock=some k∨w.heap.size≤k)→Own T z w0 w' v n xs→wpList Tryz.prog ops Q rest (a.put o.dst v') w'):
 wpList Tryz.prog ops Q (o::rest) a w:=by
 obtain⟨i0,hi,hz0',hz1,hz2⟩:=info_parts hinfo
 have hs:Src Tryz.prog z t (.slice (some ⟨B,0,none⟩) 1 1) 1 cs.toList w:=Src.ofSlice w hu ⟨B,0,none⟩ 1 1 cs.toList (by simp[hcz]) (fun j u hu'=>by
  rw[add_mid,Nat.zero_add]
  exact cell_in hB (by simpa using hu')) h1
 refine wpList_plain hgd fun K hK=> ?_
 obtain⟨v',w',hr,h2,h3,h4,h5⟩:=run_append_any2 (P:=Tryz.prog) w t t o.type T i0 _ z bytes hu hi hz0' hz1 hz2 hzs hz0 v n xs hm.own _ 1 cs.toList hs (by simp only[maxLen];omega) hbytes
 unfold Oper.wp execOp
 simp only[ho,resolve,invoke,builtin,Sem.run_bind,Sem.run_pure,Result.andThen_ok,List.map_toArray,List.map_cons,List.map_nil,hv,hx,hr]
 refine hK _ _ (h v' w' ⟨h2,fun k hk=> ?_⟩ h3 h4 ⟨h5,hm.new⟩)
 rcases h4 k hk with h|h
 ·exact hm.new k h
 ·omega
theorem Own.set{T:TypeId}{z n cap g i:Nat}{w0 w:World}{xs:List Value}(h:Own T z w0 w (.slice (some ⟨g,0,none⟩) n cap) n xs)(hn:0<n)(u:Value):Own T z w0 (w.setCell ⟨g,i,none⟩ u) (.slice (some ⟨g,0,none⟩) n cap) n (xs.set i u):=by
 refine⟨?_,h.new⟩
 obtain⟨h1,h2⟩:=h.own
 refine⟨by rw[List.length_set];exact h1,?_⟩
 rcases h2 with⟨hnn,h0⟩|⟨g',cap',cur,hgv,h4,hg,hle,hm,hcs,ht⟩
 ·omega
 ·simp only[Value.slice.injEq,Option.some.injEq,Addr.mk.injEq,and_true] at hgv
  obtain⟨⟨rfl,_⟩,_,rfl⟩:=hgv
  refine .inr ⟨g,cap,_,rfl,h4,set_in hg i u,hle,hm,by simp[hcs],?_⟩
  rw[Array.toList_setIfInBounds,List.take_set,ht]
end Ga
namespace Qm
open Mem Win Ga
structure One(w0 w:World)(v:Value)(n k:Nat):Prop where
 ex:∃xs,Own 5 1 w0 w v n xs∧∀i,i<k→i<n→xs[i]? =some (.int .u8 1)
variable {n k:Nat}{w0 w w':World}{v:Value}
theorem One.of{xs:List Value}(h:Own 5 1 w0 w v n xs):One w0 w v n 0:=⟨xs,h,fun i h _=>by omega⟩
theorem One.step{S:Nat→Prop}(h:One w0 w v n k)(hf:Fr S w w')(hS:∀k,v.ownBlock=some k→¬S k):One w0 w' v n k:=by
 obtain⟨xs,h1,h2⟩:=h.ex
 exact⟨xs,h1.step hf hS,h2⟩
theorem One.keep(h:One w0 w v n k)(hf:Fr (fun _=>False) w w'):One w0 w' v n k:=h.step hf (fun _ _ h=>h)
theorem One.read{p:Option Addr}{cap i:Nat}(h:One w0 w (.slice p n cap) n k)(hi:i<k)(hn:i<n):∃g,p=some ⟨g,0,none⟩∧w.cell? ⟨g,i,none⟩=some (.int .u8 1):=by
 obtain⟨xs,h1,h2⟩:=h.ex
 exact h1.cell (h2 i hi hn)
theorem One.at{p:Option Addr}{cap i:Nat}(h:One w0 w (.slice p n cap) n k)(hi:i<n):∃g cur,p=some ⟨g,0,none⟩∧w.heap[g]? =some (.cells cur 5 (0,0))∧n≤cur.size:=by
 obtain⟨xs,h1,h2⟩:=h.ex
 obtain⟨h3,h4⟩:=h1.own
 rcases h4 with⟨hn,h0⟩|⟨g,cap',cur,hgv,_,hg,hle,hm,hcs,ht⟩
 ·omega
 ·simp only[Value.slice.injEq] at hgv
  refine⟨g,cur,hgv.1,hg,?_⟩
  rw[hcs]
  omega
theorem One.put{g cap:Nat}(h:One w0 w (.slice (some ⟨g,0,none⟩) n cap) n k)(hk:k<n):One w0 (w.setCell ⟨g,k,none⟩ (.int .u8 1)) (.slice (some ⟨g,0,none⟩) n cap) n (k+1):=by
 obtain⟨xs,h1,h2⟩:=h.ex
 refine⟨xs.set k (.int .u8 1),h1.set (by omega) _,fun i hi hn=> ?_⟩
 by_cases hik:i=k
 ·subst hik
  rw[List.getElem?_set_self]
  have:=h1.own.1
  omega
 ·rw[List.getElem?_set_ne (fun e=>hik e.symm)]
  exact h2 i (by omega) hn
theorem fr_one(w:World)(g i:Nat)(u:Value){p:Nat}{c:Nat}:Fr (fun k=>(Value.slice (some ⟨g,0,none⟩) p c).ownBlock=some k) w (w.setCell ⟨g,i,none⟩ u):=
 (Fr.one w g i u).mono (fun k _ e=>by rw[e];rfl)
theorem One.longer{m:Nat}{xs ys:List Value}(h:Own 5 1 w0 w v m (xs++ys))(hl:xs.length=n)(hm:∀i,i<k→i<n→xs[i]? =some (.int .u8 1))(hk:k≤n):One w0 w v m k:=
 ⟨_,h,fun i hi _=>by
  rw[List.getElem?_append_left (by omega)]
  exact hm i hi (by omega)⟩
theorem two_one(m:Int):∀u ∈ (#[.int .u8 m]:Array Value).toList,u.oneCell'=true:=by
 intro u hu
 simp only[List.mem_cons,List.not_mem_nil,or_false] at hu
 rw[hu]
 rfl
end Qm
namespace Laid
theorem cells_of_grid{H:Type}{enc:TypeId×Value→H}{P:Program}{w:World}{base:Nat}{sp:Nat→Bool}{held:Bool}{fuel:Nat}{t e i:TypeId}{k:IntKind}{cs:List Value}{z0 z1 z2 z3:List Int}{p:List MemPlace}
 (ht:P.underlying t=some (.array 4 e))(he:P.underlying e=some (.array 7 i))(hi:P.underlying i=some (.int k))(hci:P.cellsOf i=1)(hce:P.cellsOf e=7)(hct:P.cellsOf t=28)
 (h:DataW.trod enc P w base sp held fuel t cs=some (.agg [Lib.tabData k z0,Lib.tabData k z1,Lib.tabData k z2,Lib.tabData k z3],p)):cs=(z0++(z1++(z2++z3))).map fun z=>Value.int k z:=by
 cases fuel with
 |zero=>simp[DataW.trod] at h
 |succ fuel=>
   simp only[DataW.trod,ht,hce,hct] at h
   split at h
   ·rename_i hl
    obtain⟨xs,hm,hx⟩:=Option.map_eq_some_iff.1 h
    have hxs:xs.map (·.1)=[Lib.tabData k z0,Lib.tabData k z1,Lib.tabData k z2,Lib.tabData k z3]:=by
     have:=congrArg Prod.fst hx
     simpa using this
    have key:∀j z,[z0,z1,z2,z3][j]? =some z→(cs.drop (j*7)).take 7=z.map fun z=>Value.int k z:=fun j z hz=>by
     have hj:j<4:=by have:=(List.getElem?_eq_some_iff.1 hz).1;simpa using this
     obtain⟨b,hb,hf⟩:=Lib.mapM_at hm j j (by simp[hj])
     have h2:(xs.map (·.1))[j]? =some b.1:=by simp[hb]
     have h3:[Lib.tabData (H:=H) k z0,Lib.tabData k z1,Lib.tabData k z2,Lib.tabData k z3][j]? =some (Lib.tabData k z):=by
      have:[Lib.tabData (H:=H) k z0,Lib.tabData k z1,Lib.tabData k z2,Lib.tabData k z3]=[z0,z1,z2,z3].map (Lib.tabData (H:=H) k):=rfl
      rw[this,List.getElem?_map,hz]
      rfl
     rw[hxs,h3] at h2
     have h4:=Option.some.inj h2
     obtain⟨b1,b2⟩:=b
     simp only at h4
     subst h4
     exact Lib.cells_of_tab he hi hci hce hf
    have k0:=key 0 z0 rfl
    have k1:=key 1 z1 rfl
    have k2:=key 2 z2 rfl
    have k3:=key 3 z3 rfl
    rw[List.map_append,List.map_append,List.map_append,←k0,←k1,←k2,←k3]
    apply List.ext_getElem?
    intro x
    simp only[List.getElem?_append,List.getElem?_take,List.getElem?_drop,List.length_take,List.length_drop,hl]
    repeat' split
    all_goals first|(congr 1;omega)|(rw[List.getElem?_eq_none (by omega)])|omega
   ·cases h
end Laid
end Go.Proofs.YtlgccpjccopdmaaGreatDoor
namespace Go.Proofs.YtlgccpjccopdmaaGreatDoor
namespace Bulk
theorem one_le{H:Type}(d:DataW H):1≤Rows.uptoBulk d:=by
 cases d with
 |lit l=>cases l<;>simp[Rows.uptoBulk]
 |nil=>simp[Rows.uptoBulk]
 |ptr d=>simp[Rows.uptoBulk]
 |slice elems spare=>simp[Rows.uptoBulk]
 |agg parts=>simp[Rows.uptoBulk]
 |iface t d=>simp[Rows.uptoBulk]
 |map es=>simp[Rows.uptoBulk]
 |held h=>simp[Rows.uptoBulk]
theorem length_le{H:Type}(l:List (DataW H)):l.length≤Rows.uptoBulkAll l:=by
 induction l with
 |nil=>simp[Rows.uptoBulkAll]
 |cons x r ih=>have:=one_le x;simp only[Rows.uptoBulkAll,List.length_cons];omega
theorem slice_le{H:Type}(elems spare:List (DataW H)):elems.length+spare.length+1≤Rows.uptoBulk (.slice elems spare):=by
 have h1:=length_le elems
 have h2:=length_le spare
 simp only[Rows.uptoBulk]
 omega
theorem slice_elems{H:Type}(elems spare:List (DataW H)):Rows.uptoBulkAll elems+1≤Rows.uptoBulk (.slice elems spare):=by
 simp only[Rows.uptoBulk]
 omega
theorem bound{H:Type}{l:List (DataW H)}(hk:Rows.uptoSmall H l=true):Rows.uptoBulkAll l≤1048576:=of_decide_eq_true hk
end Bulk
end Go.Proofs.YtlgccpjccopdmaaGreatDoor
