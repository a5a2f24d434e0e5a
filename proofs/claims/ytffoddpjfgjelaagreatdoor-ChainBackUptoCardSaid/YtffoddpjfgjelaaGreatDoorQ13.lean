/- Part 13 of 48: lemmas of the last part, each under the conditions that it names. -/
import Derived.LoopN
import Derived.Test.YtffoddpjfgjelaaGreatDoorQ02
import Derived.Test.YtffoddpjfgjelaaGreatDoorQ07
import Derived.Test.YtffoddpjfgjelaaGreatDoorQ08
import Derived.Test.YtffoddpjfgjelaaGreatDoorQ09
import Derived.Test.YtffoddpjfgjelaaGreatDoorQ12
set_option linter.unusedVariables false
set_option linter.unusedSimpArgs false
set_option maxRecDepth 1500
set_option maxHeartbeats 4000000
namespace Go.Proofs.YtffoddpjfgjelaaGreatDoor
open Go.RowKit
namespace Rc
open Mem
def beN(xs:List UInt8):Nat→Nat
 |0=>0
 |k+1=>beN xs k*256+(xs.getD (k+1) 0).toNat
theorem beN_lt(xs:List UInt8):∀k,beN xs k<256^k
 |0=>by simp[beN]
 |k+1=>by
   have h1:=beN_lt xs k
   have h2:=UInt8.toNat_lt (xs.getD (k+1) 0)
   rw[beN,Nat.pow_succ]
   omega
def init(xs:List UInt8):Except Nat D:=
 if xs.length<5 then .error 1 else if xs.getD 0 0≠0∨beN xs 4=4294967295 then .error 2 else .ok ⟨xs,5,4294967295,beN xs 4⟩
theorem init_ok{xs:List UInt8}{d:D}(h:init xs=.ok d)(hl:xs.length≤1099511627776):d.ok∧d.b=xs:=by
 unfold init at h
 split at h
 ·cases h
 ·split at h
  ·cases h
  ·rename_i h1 h2
   obtain rfl:=Except.ok.inj h
   have h3:=beN_lt xs 4
   exact⟨⟨by simp only;omega,by simp only;omega,by simp only;omega,hl,by simp only;omega⟩,rfl⟩
set_option maxRecDepth 100000 in
theorem done_calls(B:Nat)(bv:Value)(d:D)(w:World)(h:At w B bv d):
 Calls Tryz.prog 222 #[.pointer (some ⟨B,0,none⟩)] w fun r w'=>r=.returned (.bool (decide (d.read=d.b.length∧d.now=0)))∧Fr (fun _=>False) w w':=by
 obtain⟨c0,c1,c2,c3,cf⟩:=h.cells
 obtain⟨pb,cb,rfl⟩:∃p c,bv=.slice p d.b.length c:=by obtain⟨p,c,h,_⟩:=h.2;exact⟨p,c,h⟩
 clear h cf
 generalize hq:decide (d.read=d.b.length∧d.now=0)=q
 have HQ:=Hd hq
 clear hq
 generalize d.read=rd at*
 generalize d.b.length=n at*
 generalize d.now=now at*
 by_cases h1:rd=n
 ·have t1:((rd:Int)==(n:Int))=true:=by simp;omega
  by_cases h2:now=0
  ·have t2:((now:Int)==0)=true:=by simp;omega
   go_enter Tryz.func222,Tryz.ntmps222
   go_wp2_with fail
   go_quiet (fail)
   go_wp2_with fail
   go_ret
   exact⟨by rw[←HQ.out];simp[h1,h2],(Fr.refl _ _).drewN _⟩
  ·have t2:((now:Int)==0)=false:=by simp;omega
   go_enter Tryz.func222,Tryz.ntmps222
   go_wp2_with fail
   go_quiet (fail)
   go_wp2_with fail
   go_ret
   exact⟨by rw[←HQ.out];simp[h1,h2],(Fr.refl _ _).drewN _⟩
 ·have t1:((rd:Int)==(n:Int))=false:=by simp;omega
  go_enter Tryz.func222,Tryz.ntmps222
  go_wp2_with fail
  go_quiet (fail)
  go_wp2_with fail
  go_ret
  exact⟨by rw[←HQ.out];simp[h1],(Fr.refl _ _).drewN _⟩
theorem rd_byte{w:World}{p:Option Addr}{n cap i:Nat}{xs:List UInt8}{x:UInt8}(h:Rd w (.slice p n cap) xs)(hx:xs[i]? =some x):∃b o,p=some ⟨b,o,none⟩∧w.cell? ⟨b,o+i,none⟩=some (.int .u8 (x.toNat:Int)):=by
 obtain⟨q,c,he,h1,h2,h3⟩:=h
 simp only[Value.slice.injEq] at he
 obtain⟨rfl,_,rfl⟩:=he
 obtain⟨b,o,hp,hc⟩:=h3 (by have:=(List.getElem?_eq_some_iff.1 hx).1;omega)
 exact⟨b,o,hp,hc i x hx⟩
theorem decV_nb(p:Option Addr)(n c:Nat)(d:D):∀(i:Nat)(m:Int),(decV (.slice p n c) d)[i]? ≠some (Value.int .u8 m)
 |0,m=>by simp[decV]
 |1,m=>by simp[decV]
 |2,m=>by simp[decV]
 |3,m=>by simp[decV]
 |i+4,m=>by simp[decV]
def NewPost(xs:List UInt8)(w:World)(r:Ending)(w':World):Prop:=
 Fr (fun _=>False) w w'∧match init xs with
  |.error x=>r=.returned (.tuple #[.pointer none,.int .i64 x])
  |.ok d=>∃B bv,r=.returned (.tuple #[.pointer (some ⟨B,0,none⟩),.int .i64 0])∧w.heap.size≤B∧At w' B bv d∧∀k,bv.ownBlock=some k→w.heap.size≤k
set_option maxRecDepth 100000 in
theorem new_calls(v:Value)(xs:List UInt8)(w:World)(hr:Rd w v xs)(hl:xs.length≤1099511627776):
    Calls Tryz.prog 250 #[v] w (NewPost xs w):=by
  have HR:=Hd hr
  obtain⟨p,cap,rfl,hcap,hm,_⟩:=hr
  by_cases h5:xs.length<5
  · have hi:init xs=.error 1:=by unfold init;rw[if_pos h5]
    have t1:decide ((xs.length:Int)<5)=true:=by simp;omega
    unfold NewPost
    rw[hi]
    clear hi hm
    generalize xs.length=n at*
    go_enter Tryz.func250,Tryz.ntmps250
    go_wp2_with fail
    go_ret2
    exact⟨Fr.refl _ _,rfl⟩
  · have t1:decide ((xs.length:Int)<5)=false:=by simp;omega
    have hsl:=slice_lhI p xs.length cap 1 5 1 5 rfl rfl (by omega) (by omega)
    have hmid:=rd_mid (a:=1) (b:=5) HR.out (by omega) (by omega)
    have hx0:xs[0]? =some (xs.getD 0 0):=by rw[List.getD_eq_getElem?_getD,List.getElem?_eq_getElem (by omega)];rfl
    have HX0:=Hd hx0
    have HMID:=Hd hmid
    have HL:=Hd h5
    have HN0:=Hd (Acc.nil w)
    clear hm hmid hx0 h5
    generalize hn:xs.length=n at*
    have HN:=Hd hn
    clear hn
    go_enter Tryz.func250,Tryz.ntmps250
    go_wp2_with (at_builtin
                 refine append_bytes rfl _ _ rfl (w0:=w) (.slice none 0 0) (.slice p n cap) [] xs rfl rfl HN0.out HR.out (by have:=HN.out;simp only[List.length_nil];omega) ?_
                 intro p1 cap1 n1 w1 hn1 hA1 hfr1
                 have hA1':Acc w w1 (.slice p1 n1 cap1) xs:=by rw[List.nil_append] at hA1;exact hA1
                 have HA1:=Hd hA1'
                 clear hn1 hA1 hfr1 hA1')
    have hbx:=heap_alloc_new w1 (.cells #[.slice p1 n1 cap1,.int .i64 5,.int .u32 4294967295,.int .u32 0] 381)
    have hfa:=(R0 w1).alloc (.cells #[.slice p1 n1 cap1,.int .i64 5,.int .u32 4294967295,.int .u32 0] 381)
    have hBw:w.heap.size≤w1.heap.size:=HA1.out.fr.size
    have HFA:=Hd (HA1.out.fr.trans hfa)
    have HAA:=Hd (HA1.out.keep hfa)
    generalize hW:World.alloc w1 _=W at*
    generalize hB:w1.heap.size=B at*
    have hbx0:W.heap[B]? =some (.cells (decV (.slice p1 n1 cap1) ⟨xs,5,4294967295,beN xs 0⟩) 381 (0,0)):=hbx
    have HBX:=Hd hbx0
    clear hbx hbx0 hfa
    go_loopw [6,18](fun _ i wr=>∃k:Nat,k≤4∧i=.int .i64 k∧wr.heap[B]? =some (.cells (decV (.slice p1 n1 cap1) ⟨xs,5,4294967295,beN xs k⟩) 381 (0,0))∧Fr (fun k=>k=B) W wr) (fun _ i _=>4-(intOf i).toNat)
    case atStart=>exact⟨0,by omega,rfl,HBX.out,Fr.refl _ _⟩
    case round=>
      obtain⟨k,hk,rfl,hbk,hfr⟩:=hrel
      by_cases hlt:k<4
      · have hel:((xs.drop 1).take (5-1))[k]? =some (xs.getD (k+1) 0):=by
          rw[List.getElem?_take,if_pos (by omega),List.getElem?_drop,List.getD_eq_getElem?_getD,Nat.add_comm 1 k,List.getElem?_eq_getElem (by have:=HN.out;have:=HL.out;omega)]
          rfl
        have hrw:Rd wr (.slice (dropP p cap 1) (5-1) (cap-1)) ((xs.drop 1).take (5-1)):=by
          have h1:=HMID.out.keep HFA.out
          refine h1.step hfr (fun j hj=>rd_off h1 ?_ HBX.out (decV_nb _ _ _ _) j hj)
          rw[List.length_take,List.length_drop];have:=HN.out;have:=HL.out;omega
        obtain⟨b',o',hp',hc'⟩:=rd_byte hrw hel
        have hx1:wr.cell? ⟨B,3,none⟩=some (.int .u32 (beN xs k)):=cell_in hbk rfl
        have hx2:=frozen_in hbk 3
        have hbe:=beN_lt xs k
        have hpk:256^k≤16777216:=Nat.le_trans (Nat.pow_le_pow_right (by omega) (show k≤3 by omega)) (by decide)
        have hcb:=UInt8.toNat_lt (xs.getD (k+1) 0)
        have hor:=or_byte (beN xs k) (xs.getD (k+1) 0).toNat (by omega) hcb
        rw[show((beN xs k*256:Nat):Int)=(beN xs k:Int)*256 by omega] at hor
        have hbe1:beN xs (k+1)=beN xs k*256+(xs.getD (k+1) 0).toNat:=rfl
        have HO:=Hd hor
        have HBE:=Hd hbe1
        have HBK:=Hd hbk
        have hb24:beN xs k<16777216:=by omega
        rw[hp'] at hsl ⊢
        clear hrw hel hor hbe hpk hbe1 hbk hp'
        generalize beN xs k=a at*
        generalize(xs.getD (k+1) 0).toNat=y at*
        go_wp2_with fail
        go_roundw
        case rel=>
          refine ⟨k+1,by omega,by go_num,?_,hfr.trans (Fr.one wr B 3 (.int .u32 (bits BinOp.or IntKind.u32 ((a:Int)*256) (y:Int))))⟩
          rw[set_in HBK.out 3 _,HO.out,HBE.out]
          rfl
        case measure=>simp[intOf];omega
      · obtain rfl:k=4:=by omega
        have hF:=HFA.out.trans' hfr (fun i hi h=>by omega)
        have hA:At wr B (.slice p1 n1 cap1) ⟨xs,5,4294967295,beN xs 4⟩:=
          ⟨hbk,(HAA.out.rd).step hfr (fun j hj=>rd_off HAA.out.rd (by have:=HN.out;have:=HL.out;omega) HBX.out (decV_nb _ _ _ _) j hj)⟩
        have hnew:∀j,(Value.slice p1 n1 cap1).ownBlock=some j→w.heap.size≤j:=HAA.out.new
        obtain⟨b0,o0,rfl,hx0⟩:=rd_byte (i:=0) ((HR.out.keep hF).step (S:=fun _=>False) (Fr.refl _ _) (fun _ _ h=>h)) HX0.out
        have hx00:=hx0
        rw[Nat.add_zero] at hx00
        have hc3:wr.cell? ⟨B,3,none⟩=some (.int .u32 (beN xs 4)):=cell_in hbk rfl
        have hc2:wr.cell? ⟨B,2,none⟩=some (.int .u32 4294967295):=cell_in hbk rfl
        have hl5:¬xs.length<5:=by have:=HN.out;have:=HL.out;omega
        have HA:=Hd hA
        have HF:=Hd hF
        have HNEW:=Hd hnew
        have hi:init xs=if xs.getD 0 0≠0∨beN xs 4=4294967295 then .error 2 else .ok ⟨xs,5,4294967295,beN xs 4⟩:=by unfold init;rw[if_neg hl5]
        have hz:(xs.getD 0 0=0)↔(xs.getD 0 0).toNat=0:=⟨fun h=>by rw[h];rfl,fun h=>UInt8.toNat_inj.1 (by rw[h];rfl)⟩
        have hn0:(0:Int)<(n:Int):=by have:=HL.out;omega
        have hn1:0<n:=by have:=HL.out;omega
        generalize beN xs 4=a at*
        clear hbk hA hF hnew hsl
        by_cases hx:xs.getD 0 0=0
        · have hb0:(((xs.getD 0 0).toNat:Int) !=0)=false:=by rw[hx];rfl
          by_cases ha:a=4294967295
          · have hb1:((a:Int)==4294967295)=true:=by simp;omega
            have HI:=Hd (hi.trans (if_pos (.inr ha)))
            generalize(xs.getD 0 0).toNat=y at*
            clear hx hi
            go_wp2_with fail
            go_quiet (fail)
            go_wp2_with fail
            go_ret2
            refine⟨HF.out.drewN _,?_⟩
            rw[HI.out]
            rfl
          · have hb1:((a:Int)==4294967295)=false:=by simp;omega
            have HI:=Hd (hi.trans (if_neg (by rintro(h|h);exact h hx;exact ha h)))
            generalize(xs.getD 0 0).toNat=y at*
            clear hx hi
            go_wp2_with fail
            go_quiet (fail)
            go_wp2_with fail
            go_ret2
            refine⟨HF.out.drewN _,?_⟩
            rw[HI.out]
            exact⟨B,_,rfl,by omega,HA.out.keep ((R0 _).drewN _) (fun h=>h) (fun _ _ h=>h),HNEW.out⟩
        · have hb0:(((xs.getD 0 0).toNat:Int) !=0)=true:=by
            have h9:(xs.getD 0 0).toNat≠0:=fun h=>hx (hz.2 h)
            simp only[bne_iff_ne,ne_eq]
            omega
          have HI:=Hd (hi.trans (if_pos (.inl hx)))
          generalize(xs.getD 0 0).toNat=y at*
          clear hx hi
          go_wp2_with fail
          go_quiet (fail)
          go_wp2_with fail
          go_ret2
          refine⟨HF.out.drewN _,?_⟩
          rw[HI.out]
          rfl
end Rc
namespace Lz
open Mem Rc St
structure Y where
 d:D
 bad:Bool
 ps:Nat→List Nat
def upd(ps:Nat→List Nat)(j:Nat)(l:List Nat):Nat→List Nat:=fun k=>if k=j then l else ps k
theorem upd_same(ps:Nat→List Nat)(j:Nat)(l:List Nat):upd ps j l j=l:=if_pos rfl
theorem upd_other(ps:Nat→List Nat){j k:Nat}(l:List Nat)(h:k≠j):upd ps j l k=ps k:=if_neg h
structure Y.Ok(lc lp:Nat)(y:Y):Prop where
 d:y.d.ok
 p:∀j,j<18→okP (y.ps j)
 len:∀j,j<18→(y.ps j).length=rowLen lc lp j
def gotN(v er:Nat):Nat:=if er=0 then v else 0
def Y.put(y:Y)(j:Nat)(r:R):Nat×Y:=(gotN r.bit r.err,⟨r.d,decide (r.err≠0),upd y.ps j r.ps⟩)
def Y.bit(y:Y)(j i:Nat):Nat×Y:=if y.bad then(0,y) else y.put j (bitAt y.d (y.ps j) i)
def Y.tree(y:Y)(back:Bool)(j a n:Nat):Nat×Y:=if y.bad then(0,y) else y.put j (Tr.get back y.d (y.ps j) a n)
def Y.direct(y:Y)(n:Nat):Nat×Y:=if y.bad then(0,y) else match D.direct n 0 y.d with
 |.ok (v,e)=>(v,⟨e,false,y.ps⟩)
 |.error _=>(0,⟨y.d,true,y.ps⟩)
structure C where
 lc:Nat
 lp:Nat
 pb:Nat
 s:S
 size:Nat
 all:List UInt8
structure C.Ok(c:C):Prop where
 l:c.lc+c.lp≤4
 pb:c.pb≤4
 s:c.s.Ok
def C.place(c:C):Nat:=c.all.length%2^c.pb
def C.at(c:C):Nat:=c.s.num*16+c.place
def C.lastB(c:C)(d:Nat):Nat:=(Win.last c.size c.all d).1
def C.context(c:C):Nat:=768*(c.all.length%2^c.lp*2^c.lc+c.lastB 1/2^(8-c.lc))
def litGo(u a:Nat):Nat→Nat→Bool→Y→Nat×Y
 |0,m,_,y=>(m,y)
 |k+1,m,same,y=>
   litGo u a k (2*m+(y.bit 6 (a+m+if same then 256*(1+u/2^k%2) else 0)).1) (same&&decide ((y.bit 6 (a+m+if same then 256*(1+u/2^k%2) else 0)).1=u/2^k%2)) (y.bit 6 (a+m+if same then 256*(1+u/2^k%2) else 0)).2
def Y.literal(y:Y)(c:C):Nat×Y:=
 if c.s.num<7 then y.tree false 6 c.context 8 else((litGo (c.lastB c.s.r0) c.context 8 1 true y).1-256,(litGo (c.lastB c.s.r0) c.context 8 1 true y).2)
def Y.length(y:Y)(c:C)(q:Nat):Nat×Y:=
 if(y.bit q 0).1=0 then(2+((y.bit q 0).2.tree false (q+1) (8*c.place) 3).1,((y.bit q 0).2.tree false (q+1) (8*c.place) 3).2)
 else if((y.bit q 0).2.bit q 1).1=0 then(10+(((y.bit q 0).2.bit q 1).2.tree false (q+2) (8*c.place) 3).1,(((y.bit q 0).2.bit q 1).2.tree false (q+2) (8*c.place) 3).2)
 else(18+(((y.bit q 0).2.bit q 1).2.tree false (q+3) 0 8).1,(((y.bit q 0).2.bit q 1).2.tree false (q+3) 0 8).2)
def Y.rest(y:Y)(slot:Nat):Nat×Y:=
 if(range slot).2=0 then((range slot).1,y)
 else if slot<14 then((range slot).1+(y.tree true 16 (restAt slot) (range slot).2).1,(y.tree true 16 (restAt slot) (range slot).2).2)
 else((range slot).1+(y.direct ((range slot).2-4)).1*16+((y.direct ((range slot).2-4)).2.tree true 17 0 4).1,((y.direct ((range slot).2-4)).2.tree true 17 0 4).2)
def slotAt(n:Nat):Nat:=64*min (n-2) 3
def Y.dist(y:Y)(n:Nat):Nat×Y:=(y.tree false 15 (slotAt n) 6).2.rest (y.tree false 15 (slotAt n) 6).1
def Y.match(y:Y)(c:C):Sy×Y:=(⟨2,0,(y.length c 7).1,((y.length c 7).2.dist (y.length c 7).1).1⟩,((y.length c 7).2.dist (y.length c 7).1).2)
def Y.repeat(y:Y)(c:C)(i:Nat):Sy×Y:=(⟨3,0,(y.length c 11).1,i⟩,(y.length c 11).2)
def Y.lit(y:Y)(c:C):Sy×Y:=(⟨1,(y.literal c).1,0,0⟩,(y.literal c).2)
def Y.short(y:Y)(c:C):Sy×Y:=if(y.bit 1 c.at).1=0 then(⟨4,0,0,0⟩,(y.bit 1 c.at).2) else(y.bit 1 c.at).2.repeat c 0
def Y.older(y:Y)(c:C):Sy×Y:=if(y.bit 4 c.s.num).1=1 then((y.bit 4 c.s.num).2.bit 5 c.s.num).2.repeat c (2+((y.bit 4 c.s.num).2.bit 5 c.s.num).1) else(y.bit 4 c.s.num).2.repeat c 1
def Y.symbol2(y:Y)(c:C):Sy×Y:=if(y.bit 3 c.s.num).1=0 then(y.bit 3 c.s.num).2.short c else(y.bit 3 c.s.num).2.older c
def Y.symbol1(y:Y)(c:C):Sy×Y:=if(y.bit 2 c.s.num).1=0 then(y.bit 2 c.s.num).2.match c else(y.bit 2 c.s.num).2.symbol2 c
def Y.symbol(y:Y)(c:C):Sy×Y:=if(y.bit 0 c.at).1=0 then(y.bit 0 c.at).2.lit c else(y.bit 0 c.at).2.symbol1 c
/- what is so of them -/
theorem Y.put_ok{lc lp:Nat}{y:Y}(h:y.Ok lc lp){j:Nat}{r:R}(hd:r.d.ok)(hp:okP r.ps)(hl:r.ps.length=(y.ps j).length):(y.put j r).2.Ok lc lp:=by
 refine⟨hd,fun k hk=> ?_,fun k hk=> ?_⟩
 ·simp only[Y.put,upd]
  split
  ·exact hp
  ·exact h.p k hk
 ·simp only[Y.put,upd]
  split
  ·rename_i e
   subst e
   rw[hl]
   exact h.len k hk
  ·exact h.len k hk
theorem Y.bit_ok{lc lp:Nat}{y:Y}(h:y.Ok lc lp){j:Nat}(hj:j<18)(i:Nat):(y.bit j i).2.Ok lc lp∧(y.bit j i).1≤1:=by
 unfold Y.bit
 split
 ·exact⟨h,by simp⟩
 ·have hb:=bitAt_ok i h.d (h.p j hj)
  refine⟨Y.put_ok h hb.1 hb.2.2.2.1 hb.2.2.2.2,?_⟩
  unfold Y.put gotN
  simp only
  split
  ·exact hb.2.2.1
  ·simp
theorem go_ok(back:Bool)(n a:Nat):∀(f m v:Nat)(d:D)(ps:List Nat),d.ok→okP ps→f≤n→v<2^n→(Tr.go back n a f m v d ps).d.ok∧okP (Tr.go back n a f m v d ps).ps∧(Tr.go back n a f m v d ps).ps.length=ps.length∧(Tr.go back n a f m v d ps).v<2^n
 |0,m,v,d,ps,hd,hp,hf,hv=>⟨hd,hp,rfl,hv⟩
 |f+1,m,v,d,ps,hd,hp,hf,hv=>by
   have hb:=bitAt_ok (a+m) hd hp
   have ho:Tr.ord back n (n-(f+1))<n:=by unfold Tr.ord;split<;>omega
   have hv2:=Tr.or_lt v (bitAt d ps (a+m)).bit _ n hv hb.2.2.1 ho
   unfold Tr.go
   split
   ·exact⟨hb.1,hb.2.2.2.1,hb.2.2.2.2,hv2⟩
   ·have ih:=go_ok back n a f (2*m+(bitAt d ps (a+m)).bit) _ _ _ hb.1 hb.2.2.2.1 (by omega) hv2
    exact⟨ih.1,ih.2.1,ih.2.2.1.trans hb.2.2.2.2,ih.2.2.2⟩
theorem get_ok(back:Bool)(d:D)(ps:List Nat)(a n:Nat)(hd:d.ok)(hp:okP ps):(Tr.get back d ps a n).d.ok∧okP (Tr.get back d ps a n).ps∧(Tr.get back d ps a n).ps.length=ps.length∧(Tr.get back d ps a n).bit<2^n:=by
 unfold Tr.get
 split
 ·have h:=go_ok back n a n 1 0 d ps hd hp (Nat.le_refl _) (Nat.two_pow_pos n)
  refine⟨h.1,h.2.1,h.2.2.1,?_⟩
  simp only
  split
  ·exact h.2.2.2
  ·exact Nat.two_pow_pos n
 ·exact⟨hd,hp,rfl,Nat.two_pow_pos n⟩
theorem Y.tree_ok{lc lp:Nat}{y:Y}(h:y.Ok lc lp)(back:Bool){j:Nat}(hj:j<18)(a n:Nat):(y.tree back j a n).2.Ok lc lp∧(y.tree back j a n).1<2^n:=by
 unfold Y.tree
 split
 ·exact⟨h,Nat.two_pow_pos n⟩
 ·have hb:=get_ok back y.d (y.ps j) a n h.d (h.p j hj)
  refine⟨Y.put_ok h hb.1 hb.2.1 hb.2.2.1,?_⟩
  unfold Y.put gotN
  simp only
  split
  ·exact hb.2.2.2
  ·exact Nat.two_pow_pos n
theorem direct_ok:∀(n v:Nat)(d e:D)(x k:Nat),d.ok→v<2^k→D.direct n v d=.ok (x,e)→e.ok∧e.b=d.b∧x<2^(k+n)
 |0,v,d,e,x,k,hd,hv,h=>by
   simp only[D.direct,Except.ok.injEq,Prod.mk.injEq] at h
   obtain⟨rfl,rfl⟩:=h
   exact⟨hd,rfl,hv⟩
 |n+1,v,d,e,x,k,hd,hv,h=>by
   unfold D.direct at h
   by_cases hne:(if d.rng/2≤d.now then d.now-d.rng/2 else d.now)=d.rng/2
   ·rw[if_pos hne] at h
    cases h
   ·rw[if_neg hne] at h
    split at h
    ·cases h
    ·rename_i e2 he2
     have hw:=D.widen_ok (D.half_ok hd hne) he2
     have hv2:(if d.rng/2≤d.now then 2*v+1 else 2*v)<2^(k+1):=by
      rw[Nat.pow_succ]
      split<;>omega
     have ih:=direct_ok n _ e2 e x (k+1) hw.1 hv2 h
     exact⟨ih.1,ih.2.1.trans hw.2,by rw[show k+(n+1)=k+1+n by omega];exact ih.2.2⟩
theorem Y.direct_ok{lc lp:Nat}{y:Y}(h:y.Ok lc lp)(n:Nat):(y.direct n).2.Ok lc lp∧(y.direct n).1<2^n:=by
 unfold Y.direct
 split
 ·exact⟨h,Nat.two_pow_pos n⟩
 ·split
  ·rename_i v e he
   have:=Lz.direct_ok n 0 y.d e v 0 h.d (by simp) he
   exact⟨⟨this.1,h.p,h.len⟩,by simpa using this.2.2⟩
  ·exact⟨⟨h.d,h.p,h.len⟩,Nat.two_pow_pos n⟩
theorem litGo_ok{lc lp:Nat}(u a:Nat):∀(k m:Nat)(same:Bool)(y:Y)(n:Nat),y.Ok lc lp→2^n≤m→m<2^(n+1)→(litGo u a k m same y).2.Ok lc lp∧2^(n+k)≤(litGo u a k m same y).1∧(litGo u a k m same y).1<2^(n+k+1)
 |0,m,same,y,n,h,h1,h2=>⟨h,h1,h2⟩
 |k+1,m,same,y,n,h,h1,h2=>by
   have hb:=Y.bit_ok h (by omega:6<18) (a+m+if same then 256*(1+u/2^k%2) else 0)
   rw[Nat.pow_succ] at h2
   have ih:=litGo_ok u a k (2*m+(y.bit 6 (a+m+if same then 256*(1+u/2^k%2) else 0)).1) (same&&decide ((y.bit 6 (a+m+if same then 256*(1+u/2^k%2) else 0)).1=u/2^k%2)) (y.bit 6 (a+m+if same then 256*(1+u/2^k%2) else 0)).2 (n+1) hb.1 (by rw[Nat.pow_succ];omega) (by rw[Nat.pow_succ,Nat.pow_succ];omega)
   rw[show n+(k+1)=n+1+k by omega]
   exact ih
theorem Y.literal_ok{y:Y}{c:C}(h:y.Ok c.lc c.lp):(y.literal c).2.Ok c.lc c.lp∧(y.literal c).1<256:=by
 unfold Y.literal
 split
 ·exact Y.tree_ok h false (by omega) _ 8
 ·have:=litGo_ok (c.lastB c.s.r0) c.context 8 1 true y 0 h (by omega) (by omega)
  exact⟨this.1,by simp only;omega⟩
theorem Y.length_ok{y:Y}{c:C}(h:y.Ok c.lc c.lp){q:Nat}(hq:q=7∨q=11):(y.length c q).2.Ok c.lc c.lp∧2≤(y.length c q).1∧(y.length c q).1≤273:=by
 have h1:=Y.bit_ok h (by omega:q<18) 0
 have h2:=Y.bit_ok h1.1 (by omega:q<18) 1
 unfold Y.length
 split
 ·have:=Y.tree_ok h1.1 false (by omega:q+1<18) (8*c.place) 3
  exact⟨this.1,by simp only;omega,by simp only;omega⟩
 ·split
  ·have:=Y.tree_ok h2.1 false (by omega:q+2<18) (8*c.place) 3
   exact⟨this.1,by simp only;omega,by simp only;omega⟩
  ·have:=Y.tree_ok h2.1 false (by omega:q+3<18) 0 8
   exact⟨this.1,by simp only;omega,by simp only;omega⟩
theorem Y.rest_ok{lc lp:Nat}{y:Y}(h:y.Ok lc lp){slot:Nat}(hs:slot<64):(y.rest slot).2.Ok lc lp∧1≤(y.rest slot).1∧(y.rest slot).1≤4294967296:=by
 have hr:=range_le ⟨slot,hs⟩
 simp only at hr
 obtain⟨r1,r2,r3,r4,r5⟩:=hr
 unfold Y.rest
 split
 ·have:=Nat.two_pow_pos (range slot).2
  exact⟨h,r3,by simp only;omega⟩
 ·split
  ·have:=Y.tree_ok h true (by omega:16<18) (restAt slot) (range slot).2
   exact⟨this.1,by simp only;omega,by simp only;omega⟩
  ·have h1:=Y.direct_ok h ((range slot).2-4)
   have h2:=Y.tree_ok h1.1 true (by omega:17<18) 0 4
   have e:2^(range slot).2=2^((range slot).2-4)*16:=by
    rw[show(16:Nat)=2^4 by rfl,←Nat.pow_add]
    congr 1
    have:=r4 (by omega)
    omega
   refine⟨h2.1,by simp only;omega,?_⟩
   simp only
   have h22:=h2.2
   have h12:=h1.2
   omega
theorem Y.dist_ok{lc lp:Nat}{y:Y}(h:y.Ok lc lp)(n:Nat):(y.dist n).2.Ok lc lp∧1≤(y.dist n).1∧(y.dist n).1≤4294967296:=by
 have h1:=Y.tree_ok h false (by omega:15<18) (slotAt n) 6
 exact Y.rest_ok h1.1 (by simpa using h1.2)
theorem Y.repeat_ok{y:Y}{c:C}(h:y.Ok c.lc c.lp){i:Nat}(hi:i≤3):(y.repeat c i).2.Ok c.lc c.lp∧(y.repeat c i).1.Ok:=by
 have h1:=Y.length_ok h (.inr rfl:11=7∨11=11)
 exact⟨h1.1,⟨.inr (.inr (.inl rfl)),fun _=>hi,by simp[Y.repeat]⟩⟩
theorem Y.symbol_ok{y:Y}{c:C}(h:y.Ok c.lc c.lp):(y.symbol c).2.Ok c.lc c.lp∧(y.symbol c).1.Ok:=by
 have h0:=Y.bit_ok h (by omega:0<18) c.at
 unfold Y.symbol
 split
 ·have h1:=Y.literal_ok (c:=c) h0.1
  exact⟨h1.1,⟨.inl rfl,fun e=>by simp[Y.lit] at e,h1.2⟩⟩
 ·have h2:=Y.bit_ok h0.1 (by omega:2<18) c.s.num
  unfold Y.symbol1
  split
  ·have h3:=Y.length_ok (c:=c) h2.1 (.inl rfl:7=7∨7=11)
   have h4:=Y.dist_ok h3.1 (((y.bit 0 c.at).2.bit 2 c.s.num).2.length c 7).1
   exact⟨h4.1,⟨.inr (.inl rfl),fun e=>by simp[Y.match] at e,by simp[Y.match]⟩⟩
  ·have h3:=Y.bit_ok h2.1 (by omega:3<18) c.s.num
   unfold Y.symbol2
   split
   ·have h4:=Y.bit_ok h3.1 (by omega:1<18) c.at
    unfold Y.short
    split
    ·exact⟨h4.1,⟨.inr (.inr (.inr rfl)),fun _=>by simp,by simp⟩⟩
    ·exact Y.repeat_ok h4.1 (by omega)
   ·have h4:=Y.bit_ok h3.1 (by omega:4<18) c.s.num
    have h5:=Y.bit_ok h4.1 (by omega:5<18) c.s.num
    unfold Y.older
    split
    ·exact Y.repeat_ok h5.1 (by omega)
    ·exact Y.repeat_ok h4.1 (by omega)
end Lz
namespace Lz
open Mem Rc St
structure L where
 X:Nat
 D:Nat
 R:Nat
 T:Nat
 W:Nat
 bv:Value
 rv:Value
 ring:List UInt8
 t:Nat
 b:Nat→Nat
 g:Nat→Nat
def L.S(l:L)(k:Nat):Prop:=k=l.X∨k=l.R∨∃j,j<18∧k=l.g j
def rdV(l:L)(bad:Bool):Array Value:=#[ptr l.D,ptr l.R,.bool bad]
structure At(w:World)(l:L)(c:C)(y:Y):Prop where
 x:w.heap[l.X]? =some (.cells (rdV l y.bad) 341 (0,0))
 d:w.heap[l.D]? =some (.cells #[ptr l.T,ptr l.W,.bool false] 272 (0,0))
 tab:Tab w l.T l.b l.g c.lc c.lp c.pb c.s y.ps
 win:Win.At w l.W l.rv c.size c.all l.ring l.t
 rc:Rc.At w l.R l.bv y.d
 ok:y.Ok c.lc c.lp
 c:c.Ok
 bvoff:∀k,l.bv.ownBlock=some k→¬l.S k
 rvoff:∀k,l.rv.ownBlock=some k→¬l.S k
theorem At.off{w:World}{l:L}{c:C}{y:Y}(h:At w l c y){k:Nat}{cs:Array Value}{t:TypeId}{fr:Nat×Nat}(hk:w.heap[k]? =some (.cells cs t fr))(h1:t≠341)(h2:t≠381)(h3:t≠3):¬l.S k:=by
 rintro(rfl|rfl|⟨j,hj,rfl⟩)
 ·rw[h.x] at hk
  simp only[Option.some.injEq,Obj.cells.injEq] at hk
  exact h1 hk.2.1.symm
 ·rw[h.rc.1] at hk
  simp only[Option.some.injEq,Obj.cells.injEq] at hk
  exact h2 hk.2.1.symm
 ·obtain⟨_,_,_,hg,_⟩:=h.tab.set j hj
  rw[hg] at hk
  simp only[Option.some.injEq,Obj.cells.injEq] at hk
  exact h3 hk.2.1.symm
theorem At.dOff{w:World}{l:L}{c:C}{y:Y}(h:At w l c y):¬l.S l.D:=h.off h.d (by decide) (by decide) (by decide)
theorem At.tOff{w:World}{l:L}{c:C}{y:Y}(h:At w l c y):¬l.S l.T:=h.off h.tab.box (by decide) (by decide) (by decide)
theorem At.wOff{w:World}{l:L}{c:C}{y:Y}(h:At w l c y):¬l.S l.W:=h.off h.win.box (by decide) (by decide) (by decide)
theorem At.bOff{w:World}{l:L}{c:C}{y:Y}(h:At w l c y)(j:Nat)(hj:j<18):¬l.S (l.b j):=by
 obtain⟨_,_,hb,_⟩:=h.tab.set j hj
 exact h.off hb (by decide) (by decide) (by decide)
theorem At.xr{w:World}{l:L}{c:C}{y:Y}(h:At w l c y):l.X≠l.R:=by
 intro e
 have h1:=h.x
 rw[e,h.rc.1] at h1
 simp at h1
theorem At.xg{w:World}{l:L}{c:C}{y:Y}(h:At w l c y)(j:Nat)(hj:j<18):l.X≠l.g j∧l.R≠l.g j:=by
 obtain⟨_,_,_,hg,_⟩:=h.tab.set j hj
 constructor
 ·intro e
  have h1:=h.x
  rw[e,hg] at h1
  simp at h1
 ·intro e
  have h1:=h.rc.1
  rw[e,hg] at h1
  simp at h1
theorem At.step{w w':World}{l:L}{c:C}{y y':Y}(h:At w l c y)(hfr:Fr l.S w w')(hx:w'.heap[l.X]? =some (.cells (rdV l y'.bad) 341 (0,0)))(hrc:Rc.At w' l.R l.bv y'.d)
 (hset:∀j,j<18→Prob.SetAt w' (l.b j) (l.g j) (y'.ps j))(hok:y'.Ok c.lc c.lp):At w' l c y':=
 ⟨hx,hfr.keep h.d h.dOff,⟨hfr.keep h.tab.box h.tOff,hset,h.tab.inj⟩,h.win.keep hfr h.wOff h.rvoff,hrc,hok,h.c,h.bvoff,h.rvoff⟩
theorem At.keep{w w':World}{l:L}{c:C}{y:Y}(h:At w l c y)(hfr:Fr (fun _=>False) w w'):At w' l c y:=
 ⟨hfr.keep h.x (fun h=>h),hfr.keep h.d (fun h=>h),⟨hfr.keep h.tab.box (fun h=>h),fun j hj=>(h.tab.set j hj).keep hfr,h.tab.inj⟩,h.win.keep hfr (fun h=>h) (fun _ _ h=>h),h.rc.keep hfr (fun h=>h) (fun _ _ h=>h),h.ok,h.c,h.bvoff,h.rvoff⟩
def Post(l:L)(c:C)(w:World)(r:Nat×Y)(e:Ending)(w':World):Prop:=e=.returned (.int .i64 (r.1:Nat))∧Fr l.S w w'∧At w' l c r.2
structure Cells(w:World)(l:L)(c:C)(y:Y):Prop where
 x0:w.cell? ⟨l.X,0,none⟩=some (ptr l.D)
 x1:w.cell? ⟨l.X,1,none⟩=some (ptr l.R)
 x2:w.cell? ⟨l.X,2,none⟩=some (.bool y.bad)
 d0:w.cell? ⟨l.D,0,none⟩=some (ptr l.T)
 d1:w.cell? ⟨l.D,1,none⟩=some (ptr l.W)
 d2:w.cell? ⟨l.D,2,none⟩=some (.bool false)
 t0:w.cell? ⟨l.T,0,none⟩=some (.int .i64 c.lc)
 t1:w.cell? ⟨l.T,1,none⟩=some (.int .i64 c.lp)
 t2:w.cell? ⟨l.T,2,none⟩=some (.int .i64 c.pb)
 t3:w.cell? ⟨l.T,3,none⟩=some (.int .i64 c.s.num)
 t4:w.cell? ⟨l.T,4,none⟩=some (.int .i64 c.s.r0)
 t5:w.cell? ⟨l.T,5,none⟩=some (.int .i64 c.s.r1)
 t6:w.cell? ⟨l.T,6,none⟩=some (.int .i64 c.s.r2)
 t7:w.cell? ⟨l.T,7,none⟩=some (.int .i64 c.s.r3)
 row:∀j,j<18→w.cell? ⟨l.T,8+j,none⟩=some (ptr (l.b j))
theorem At.cells{w:World}{l:L}{c:C}{y:Y}(h:At w l c y):Cells w l c y:=by
 refine⟨cell_in h.x rfl,cell_in h.x rfl,cell_in h.x rfl,cell_in h.d rfl,cell_in h.d rfl,cell_in h.d rfl,cell_in h.tab.box rfl,cell_in h.tab.box rfl,cell_in h.tab.box rfl,cell_in h.tab.box rfl,cell_in h.tab.box rfl,cell_in h.tab.box rfl,cell_in h.tab.box rfl,cell_in h.tab.box rfl,fun j hj=>cell_in h.tab.box ?_⟩
 have:∀j:Fin 18,(tabV c.lc c.lp c.pb c.s l.b)[8+j.val]? =some (ptr (l.b j.val)):=by
  intro j
  match j with
  |⟨0,_⟩=>rfl
  |⟨1,_⟩=>rfl
  |⟨2,_⟩=>rfl
  |⟨3,_⟩=>rfl
  |⟨4,_⟩=>rfl
  |⟨5,_⟩=>rfl
  |⟨6,_⟩=>rfl
  |⟨7,_⟩=>rfl
  |⟨8,_⟩=>rfl
  |⟨9,_⟩=>rfl
  |⟨10,_⟩=>rfl
  |⟨11,_⟩=>rfl
  |⟨12,_⟩=>rfl
  |⟨13,_⟩=>rfl
  |⟨14,_⟩=>rfl
  |⟨15,_⟩=>rfl
  |⟨16,_⟩=>rfl
  |⟨17,_⟩=>rfl
  |⟨n+18,h⟩=>omega
 exact this ⟨j,hj⟩
theorem got_calls(X v er:Nat)(p q:Value)(bad:Bool)(w:World)(hx:w.heap[X]? =some (.cells #[p,q,.bool bad] 341 (0,0))):
 Calls Tryz.prog 269 #[ptr X,.int .i64 v,.int .i64 er] w fun e w'=>e=.returned (.int .i64 (gotN v er))∧Fr (fun k=>k=X) w w'∧
  w'.heap[X]? =some (.cells #[p,q,.bool (bad||decide (er≠0))] 341 (0,0)):=by
 by_cases h0:er=0
 ·subst h0
  have hv:gotN v 0=v:=rfl
  rw[hv]
  clear hv
  have HX:=Hd hx
  clear hx
  go_enter Tryz.func269,Tryz.ntmps269
  go_wp2_with fail
  go_ret
  exact⟨rfl,Fr.refl _ _,HX.out.trans (by simp)⟩
 ·have hf:=frozen_in hx 2
  have hc:w.cell? ⟨X,2,none⟩=some (.bool bad):=cell_in hx rfl
  have hv:gotN v er=0:=if_neg h0
  rw[hv]
  clear hv
  have hne:((er:Int) !=0)=true:=by simp[h0]
  have HX:=Hd hx
  have H0:=Hd h0
  clear hx h0
  go_enter Tryz.func269,Tryz.ntmps269
  go_wp2_with fail
  go_ret
  refine⟨rfl,Fr.one _ _ _ _,?_⟩
  ·rw[set_in HX.out 2]
   simp[H0.out]
theorem put_at{w w1 w2:World}{l:L}{c:C}{y:Y}{j:Nat}{r:R}(h:At w l c y)(hj:j<18)(hfr:Fr (fun k=>k=l.R∨k=l.g j) w w1)(hrc:Rc.At w1 l.R l.bv r.d)(hs:Prob.SetAt w1 (l.b j) (l.g j) r.ps)
 (hfr2:Fr (fun k=>k=l.X) w1 w2)(hx2:w2.heap[l.X]? =some (.cells #[ptr l.D,ptr l.R,.bool (false||decide (r.err≠0))] 341 (0,0)))(hok:(y.put j r).2.Ok c.lc c.lp):Fr l.S w w2∧At w2 l c (y.put j r).2:=by
 have hS:Fr l.S w w2:=by
  refine(hfr.mono (T:=l.S) (fun i _ hi=> ?_)).trans' hfr2 (fun i _(hi:i=l.X)=>.inl hi)
  rcases hi with hi|hi
  ·exact .inr (.inl hi)
  ·exact .inr (.inr ⟨j,hj,hi⟩)
 have hxg:=h.xg j hj
 refine⟨hS,h.step hS ?_ (hrc.keep hfr2 (fun e=>h.xr e.symm) (fun k hk e=>h.bvoff k hk (.inl e))) (fun i hi=> ?_) hok⟩
 ·rw[hx2]
  simp[rdV,Y.put]
 ·have hbi:=h.bOff i hi
  by_cases e:i=j
  ·subst e
   have e2:(y.put i r).2.ps i=r.ps:=upd_same _ _ _
   rw[e2]
   exact hs.step hfr2 (fun e=>hbi (.inl e)) (fun e=>hxg.1 e.symm)
  ·have e2:(y.put j r).2.ps i=y.ps i:=upd_other _ _ e
   rw[e2]
   have hxi:=h.xg i hi
   refine((h.tab.set i hi).step hfr ?_ ?_).step hfr2 (fun e=>hbi (.inl e)) (fun e=>hxi.1 e.symm)
   ·rintro(e|e)
    ·exact hbi (.inr (.inl e))
    ·exact hbi (.inr (.inr ⟨j,hj,e⟩))
   ·rintro(e3|e3)
    ·exact hxi.2 e3.symm
    ·exact e (h.tab.inj i j hi hj e3)
theorem bit_calls{l:L}{c:C}{y:Y}{w:World}(h:At w l c y)(j i:Nat)(hj:j<18):
 Calls Tryz.prog 251 #[ptr l.X,ptr (l.b j),.int .i64 i] w (Post l c w (y.bit j i)):=by
 have hx0:=h.cells.x1
 have hx1:=h.cells.x2
 have hb2:=Y.bit_ok h.ok hj i
 have HB:=Hd (bit_all l.R (l.b j) (l.g j) i l.bv y.d (y.ps j) w h.rc h.ok.d (h.tab.set j hj))
 have H:=Hd h
 clear h
 cases hb:y.bad with
 |true=>
   have e:y.bit j i=(0,y):=by unfold Y.bit;rw[if_pos hb]
   rw[e]
   rw[hb] at hx1
   have HH:=Hd hb
   have HB2:=Hd hb2
   clear hb hb2 e
   go_enter Tryz.func251,Tryz.ntmps251
   go_wp2_with fail
   go_ret
   exact⟨rfl,Fr.refl _ _,H.out⟩
 |false=>
   have e:y.bit j i=y.put j (bitAt y.d (y.ps j) i):=by unfold Y.bit;rw[if_neg (by rw[hb];decide)]
   rw[e] at hb2 ⊢
   rw[hb] at hx1
   have HH:=Hd hb
   have HB2:=Hd hb2.1
   clear hb hb2 e
   generalize bitAt y.d (y.ps j) i=r at*
   go_enter Tryz.func251,Tryz.ntmps251
   go_wp2_with fail
   refine HB.out.mono ?_
   rintro e w1 ⟨rfl,hfr,hA,hS⟩
   have hxx:=hfr.keep H.out.x (fun e=>by
    rcases e with e|e
    ·exact H.out.xr e
    ·exact(H.out.xg j hj).1 e)
   rw[HH.out] at hxx
   have HG:=Hd (got_calls l.X r.bit r.err (ptr l.D) (ptr l.R) false w1 hxx)
   have HF:=Hd hfr
   have HA:=Hd hA
   have HS:=Hd hS
   clear hfr hA hS hxx
   go_wp2_with fail
   refine HG.out.mono ?_
   rintro e w2 ⟨rfl,hfr2,hx2⟩
   have hp:=put_at H.out hj HF.out HA.out HS.out hfr2 hx2 HB2.out
   have HP:=Hd hp
   clear hp hfr2 hx2
   go_wp2_with fail
   go_ret
   exact⟨rfl,HP.out⟩
end Lz
end Go.Proofs.YtffoddpjfgjelaaGreatDoor
