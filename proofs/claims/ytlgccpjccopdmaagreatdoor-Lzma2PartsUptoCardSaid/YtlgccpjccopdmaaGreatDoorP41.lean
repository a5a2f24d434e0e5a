/- Part 41 of 53: lemmas of the last part, each under the conditions that it names. -/
import Derived.Test.YtlgccpjccopdmaaGreatDoorP18
import Derived.Test.YtlgccpjccopdmaaGreatDoorP21
import Derived.Test.YtlgccpjccopdmaaGreatDoorP29
import Derived.Test.YtlgccpjccopdmaaGreatDoorP31
import Derived.Test.YtlgccpjccopdmaaGreatDoorP38
import Derived.Test.YtlgccpjccopdmaaGreatDoorP39
set_option linter.unusedVariables false
set_option linter.unusedSimpArgs false
set_option maxRecDepth 1500
set_option maxHeartbeats 4000000
namespace Go.Proofs.YtlgccpjccopdmaaGreatDoor
open Go.RowKit
namespace En
open Mem Rc St Lz
theorem like_norm{z:Sz}(h:z.bad=0):((norm z.sy).kind:Int)=z.kind∧(z.kind=1→(norm z.sy).byte=z.byte)∧(z.kind=2∨z.kind=3→((norm z.sy).len:Int)=z.len∧((norm z.sy).dist:Int)=z.dist):=by
 have hs:=Sz.same h
 obtain⟨k,b,n,d⟩:=z
 unfold Sz.bad at h
 simp only at h hs ⊢
 by_cases h1:k=1∨k=4
 ·rcases h1 with rfl|rfl
  ·exact⟨rfl,fun _=>rfl,fun h=>by omega⟩
  ·exact⟨rfl,fun h=>by omega,fun h=>by omega⟩
 ·rw[if_neg h1] at h
  by_cases h2:k=2
  ·subst h2
   have:=hs (.inl rfl)
   exact⟨rfl,fun h=>by omega,fun _=>⟨this.1,this.2.1⟩⟩
  ·rw[if_neg h2] at h
   by_cases h3:k=3
   ·subst h3
    have:=hs (.inr rfl)
    exact⟨rfl,fun h=>by omega,fun _=>⟨this.1,this.2.1⟩⟩
   ·rw[if_neg h3] at h
    exact absurd h (by simp)
end En
namespace Pa
open Mem Win Ga Lz St En
set_option maxRecDepth 100000 in
theorem like_calls(sv mv:Value)(l:List Sz)(w0 w:World)(hr:RdZ w sv l)(hm:Lz.Syms w0 w mv (l.map fun z=>norm z.sy))(hb:∀z ∈ l,z.bad=0)(hl:l.length≤1048576):
 Calls Tryz.prog 22 #[sv,mv] w fun e w'=>e=.returned (.bool true)∧Fr (fun _=>False) w w':=by
 obtain⟨p1,c1,rfl,_,_⟩:=hr.slice
 have o2:Own 96 4 w0 w mv l.length (syCells (l.map fun z=>norm z.sy)):=by
  have h:=Own.of_syms hm
  rwa [List.length_map] at h
 obtain⟨p2,c2,rfl⟩:=o2.slice
 have HR:=Hd hr
 have HO:=Hd o2
 have HB:=Hd hb
 obtain⟨n,hn⟩:∃n,n=l.length:=⟨_,rfl⟩
 have HN:=Hd hn
 have HL:=Hd hl
 rw[←hn] at HR HO ⊢
 clear hr hm o2 hb hn hl
 go_enter Tryz.func22,Tryz.ntmps22
 go_wp2_with fail
 go_loopw [5](fun i wr=>∃k:Nat,k≤n∧i=.int .i64 k∧Fr (fun _=>False) w wr) (fun i _=>n-(intOf i).toNat)
 case atStart=>exact⟨0,Nat.zero_le _,rfl,Fr.refl _ _⟩
 case round=>
  obtain⟨k,hkn,rfl,hfr⟩:=hrel
  by_cases hlt:k<n
  ·obtain⟨z,hz⟩:∃z,l[k]? =some z:=⟨l[k]'(HN.out ▸ hlt),List.getElem?_eq_getElem (HN.out ▸ hlt)⟩
   have hbad:=HB.out z (List.mem_of_getElem? hz)
   obtain⟨a,ha⟩:∃a,norm z.sy=a:=⟨_,rfl⟩
   obtain⟨n1,n2,n3⟩:=like_norm hbad
   rw[ha] at n1 n2 n3
   have hak:(l.map fun z=>norm z.sy)[k]? =some a:=by rw[List.getElem?_map,hz,←ha];rfl
   obtain⟨b,o,rfl,e0,e1,e2,e3⟩:=(HR.out.keep hfr).at hz
   have hfa:=fun j (hj:j<4)=>flat_at (fun a:Sy=>a.cells.toList) 4 (fun a=>rfl) _ k j a hj hak
   have ho:=HO.out.keep hfr
   obtain⟨g,rfl,d0⟩:=ho.cell (i:=k*4+0) (hfa 0 (by decide))
   have key:∀j u,j<4→a.cells.toList[j]? =some u→wr.cell? ⟨g,k*4+j,none⟩=some u:=fun j u hj hu=>by
    obtain⟨g',hg',he⟩:=ho.cell (i:=k*4+j) ((hfa j hj).trans hu)
    simp only[Option.some.injEq,Addr.mk.injEq,and_true] at hg'
    rw[hg']
    exact he
   have d0:wr.cell? ⟨g,k*4,none⟩=some (.int .i64 a.kind):=key 0 _ (by decide) rfl
   have d1:wr.cell? ⟨g,k*4+1,none⟩=some (.int .u8 a.byte):=key 1 _ (by decide) rfl
   have d2:wr.cell? ⟨g,k*4+2,none⟩=some (.int .i64 a.len):=key 2 _ (by decide) rfl
   have d3:wr.cell? ⟨g,k*4+3,none⟩=some (.int .i64 a.dist):=key 3 _ (by decide) rfl
   have f0:=alloc_keep d0 (.cells z.cells 96)
   have f1:=alloc_keep d1 (.cells z.cells 96)
   have f2:=alloc_keep d2 (.cells z.cells 96)
   have f3:=alloc_keep d3 (.cells z.cells 96)
   have hfin:=Hd ((hfr.alloc (.cells z.cells 96)).alloc (.cells a.cells 96))
   clear hfr key ho hfa d0 d1 d2 d3 hz hak ha
   obtain⟨zk,zb,zl,zd⟩:=z
   obtain⟨ak,ab,al,ad⟩:=a
   simp only[Sz.cells,Sy.cells] at e0 e1 e2 e3 f0 f1 f2 f3 n1 n2 n3 hfin
   have hidx:(k:Int)<n:=by omega
   have hn0:(n:Int)≤1048576:=by have:=HN.out;have:=HL.out;omega
   have hk4:zk=1∨zk=2∨zk=3∨zk=4:=by
    unfold Sz.bad at hbad
    simp only at hbad
    by_cases h1:zk=1∨zk=4
    ·omega
    ·rw[if_neg h1] at hbad
     by_cases h2:zk=2
     ·omega
     ·rw[if_neg h2] at hbad
      by_cases h3:zk=3
      ·omega
      ·rw[if_neg h3] at hbad
       exact absurd hbad (by simp)
   clear hbad
   rcases hk4 with rfl|rfl|rfl|rfl
   ·obtain rfl:ak=1:=by omega
    obtain rfl:=n2 rfl
    clear n1 n2 n3
    go_wp2_with fail
    exact⟨⟨k+1,by omega,by go_num,hfin.out⟩,by simp[intOf];omega⟩
   ·obtain rfl:ak=2:=by omega
    obtain⟨rfl,rfl⟩:=n3 (.inl rfl)
    clear n1 n2 n3
    go_wp2_with fail
    exact⟨⟨k+1,by omega,by go_num,hfin.out⟩,by simp[intOf];omega⟩
   ·obtain rfl:ak=3:=by omega
    obtain⟨rfl,rfl⟩:=n3 (.inr rfl)
    clear n1 n2 n3
    go_wp2_with fail
    exact⟨⟨k+1,by omega,by go_num,hfin.out⟩,by simp[intOf];omega⟩
   ·obtain rfl:ak=4:=by omega
    clear n1 n2 n3
    go_wp2_with fail
    exact⟨⟨k+1,by omega,by go_num,hfin.out⟩,by simp[intOf];omega⟩
  ·obtain rfl:k=n:=by omega
   go_wp2_with fail
   go_ret
   exact⟨rfl,hfr⟩
end Pa
namespace Ck
open Mem Wire
theorem beyond_untold(n:Nat):beyond (-1) n=false:=by unfold beyond;simp
theorem beV2_getD(xs:List UInt8)(i:Nat):beV (xs.drop i) 2=(xs.getD i 0).toNat*256+(xs.getD (i+1) 0).toNat:=by
 simp[beV,List.getD_eq_getElem?_getD,List.getElem?_drop]
theorem get_prefix(xs ys:List UInt8)(hpre:∀i,i<ys.length→ys.getD i 0=xs.getD i 0)(hle:ys.length≤xs.length)(h0:0<ys.length)(hx:(get xs).2.2=0):
 ((get xs).2.1≤ys.length∧get ys=get xs)∨(ys.length<(get xs).2.1∧(get ys).2.2=1):=by
 have e0:=hpre 0 h0
 unfold get at*
 simp only at*
 rw[if_neg (show¬xs.length=0 by omega)] at*
 rw[if_neg (show¬ys.length=0 by omega)]
 rw[e0]
 by_cases h1:(xs.getD 0 0).toNat=0
 ·rw[if_pos h1] at*
  rw[if_pos h1]
  exact .inl ⟨h0,rfl⟩
 rw[if_neg h1] at*
 rw[if_neg h1]
 by_cases h2:(xs.getD 0 0).toNat≤2
 ·rw[if_pos h2] at*
  rw[if_pos h2]
  by_cases h3:xs.length<3
  ·rw[if_pos h3] at hx
   simp at hx
  ·rw[if_neg h3]
   by_cases h4:ys.length<3
   ·rw[if_pos h4]
    exact .inr ⟨h4,rfl⟩
   ·rw[if_neg h4]
    rw[beV2_getD,beV2_getD,hpre 1 (by omega),hpre 2 (by omega)]
    exact .inl ⟨by simp only;omega,rfl⟩
 rw[if_neg h2] at*
 rw[if_neg h2]
 by_cases h3:(xs.getD 0 0).toNat<128
 ·rw[if_pos h3] at hx
  simp at hx
 rw[if_neg h3] at*
 rw[if_neg h3]
 by_cases h4:xs.length<5
 ·rw[if_pos h4] at hx
  simp at hx
 rw[if_neg h4] at*
 by_cases h5:((xs.getD 0 0).toNat-128)/32<2
 ·rw[if_pos h5]
  by_cases h6:ys.length<5
  ·rw[if_pos h6]
   exact .inr ⟨h6,rfl⟩
  ·rw[if_neg h6,if_pos h5]
   simp only[beV2_getD]
   rw[hpre 1 (by omega),hpre (1+1) (by omega),hpre 3 (by omega),hpre (3+1) (by omega)]
   exact .inl ⟨by omega,rfl⟩
 rw[if_neg h5] at*
 by_cases h6:xs.length<6
 ·rw[if_pos h6] at hx
  simp at hx
 rw[if_neg h6] at*
 by_cases h7:St.bytePropsOk (xs.getD 5 0).toNat=true
 ·rw[if_pos h7]
  by_cases h8:ys.length<5
  ·rw[if_pos h8]
   exact .inr ⟨by simp only;omega,rfl⟩
  ·rw[if_neg h8,if_neg h5]
   by_cases h9:ys.length<6
   ·rw[if_pos h9]
    exact .inr ⟨h9,rfl⟩
   ·rw[if_neg h9,hpre 5 (by omega),if_pos h7]
    simp only[beV2_getD]
    rw[hpre 1 (by omega),hpre (1+1) (by omega),hpre 3 (by omega),hpre (3+1) (by omega)]
    exact .inl ⟨by omega,rfl⟩
 ·rw[if_neg h7] at hx
  simp at hx
def toldBad(P S:Int)(s:Sr)(h:Head)(s2:Sr):Bool:=beyond P (s.at'+1)||(decide (h.kind=0)&& !ends P S s.at' s.plain)||beyond P s2.at'||beyond S s2.plain
structure Good(b:List UInt8)(s:Sr)(h:Head)(part:List UInt8)(fr:Nat)(s2:Sr)(k:Nat):Prop where
 lt:s.at'<b.length
 kind:kindOf (b.getD s.at' 0).toNat=some k
 mv:move s.now k≠4
 err:(get ((b.drop s.at').take 6)).2.2=0
 long:¬b.length-(s.at'+(get ((b.drop s.at').take 6)).2.1)<(get ((b.drop s.at').take 6)).1.packed
 eh:h=(get ((b.drop s.at').take 6)).1
 efr:fr=s.at'+(get ((b.drop s.at').take 6)).2.1
 epart:part=(b.drop fr).take h.packed
 es2:s2=⟨fr+h.packed,s.plain+h.size,move s.now k⟩
theorem good_of{b:List UInt8}{s s2:Sr}{h:Head}{part:List UInt8}{fr:Nat}(ha:s.at'≤b.length)(e:nextP b (-1) (-1) s=.ok (h,part,fr,s2)):∃k,Good b s h part fr s2 k:=by
 unfold nextP at e
 rw[if_neg (by rw[beyond_untold];decide)] at e
 split at e
 ·cases e
 ·rename_i hne
  split at e
  ·cases e
  ·rename_i k hk
   split at e
   ·cases e
   ·rename_i hmv
    split at e
    ·cases e
    ·split at e
     ·cases e
     ·rename_i hge
      split at e
      ·cases e
      ·split at e
       ·cases e
       ·rename_i hsh
        simp only[Except.ok.injEq,Prod.mk.injEq] at e
        obtain⟨rfl,rfl,rfl,rfl⟩:=e
        exact⟨k,⟨by omega,hk,hmv,by simpa using hge,hsh,rfl,rfl,rfl,rfl⟩⟩
theorem good_told{b:List UInt8}{s s2:Sr}{h:Head}{part:List UInt8}{fr k:Nat}(g:Good b s h part fr s2 k)(hk:k=0↔h.kind=0)(P S:Int):nextP b P S s=if toldBad P S s h s2 then .error (s.at',2) else .ok (h,part,fr,s2):=by
 obtain⟨g1,g2,g3,g4,g5,g6,g7,g8,g9⟩:=g
 unfold nextP toldBad
 cases h1:beyond P (s.at'+1) with
 |true=>simp
 |false=>
   rw[if_neg (by decide),if_neg (by omega),g2]
   simp only
   rw[if_neg g3]
   by_cases h2:k=0∧ends P S s.at' s.plain=false
   ·rw[if_pos h2]
    simp[hk.1 h2.1,h2.2]
   ·rw[if_neg h2,if_neg (by simpa using g4),←g6,←g7]
    subst g9
    cases h3:beyond P (fr+h.packed) with
    |true=>simp
    |false=>
      cases h4:beyond S (s.plain+h.size) with
      |true=>simp
      |false=>
        rw[if_neg (by decide),if_neg (by rw[g7,g6];exact g5),if_neg,g8]
        simp only[Bool.false_or,Bool.or_false,Bool.and_eq_true,decide_eq_true_eq,Bool.not_eq_true']
        exact fun hh=>h2 ⟨hk.2 hh.1,hh.2⟩
end Ck
namespace Ck
open Mem Wire
def cutAt(s:Sr)(fr c:Nat):Nat:=if s.at'=c∨c<fr then s.at' else fr
theorem cutAt_le{s:Sr}{fr c:Nat}(h:s.at'≤c):cutAt s fr c≤c:=by
 unfold cutAt
 split
 ·exact h
 ·rename_i hn
  omega
theorem take_getD(b:List UInt8)(c i:Nat)(h:i<c):(b.take c).getD i 0=b.getD i 0:=by
 rw[List.getD_eq_getElem?_getD,List.getD_eq_getElem?_getD,List.getElem?_take,if_pos h]
theorem good_cut{b:List UInt8}{s s2:Sr}{h:Head}{part:List UInt8}{fr k:Nat}(g:Good b s h part fr s2 k)(hk:k=0↔h.kind=0)(c:Nat)(hc:c≤b.length)(hs:s.at'≤c)(P S:Int)(hnot:toldBad P S s h s2=false):
 (s2.at'≤c∧nextP (b.take c) P S s=.ok (h,part,fr,s2))∨(c<s2.at'∧nextP (b.take c) P S s=.error (cutAt s fr c,1)):=by
 obtain⟨g1,g2,g3,g4,g5,g6,g7,g8,g9⟩:=g
 have hlc:(b.take c).length=c:=by rw[List.length_take];omega
 unfold toldBad at hnot
 simp only[Bool.or_eq_false_iff] at hnot
 obtain⟨⟨⟨n1,n2⟩,n3⟩,n4⟩:=hnot
 have hgn:=get_le ((b.drop s.at').take 6)
 have hgl:=get_le_len _ g4
 have hgp:=get_pos _ g4
 have hxl:((b.drop s.at').take 6).length=min 6 (b.length-s.at'):=by rw[List.length_take,List.length_drop]
 have hyl:(((b.take c).drop s.at').take 6).length=min 6 (c-s.at'):=by rw[List.length_take,List.length_drop,hlc]
 have hs2:s2.at'=fr+h.packed:=by rw[g9]
 unfold nextP
 rw[n1,if_neg (by decide),hlc]
 by_cases hsc:s.at'=c
 ·rw[if_pos hsc]
  refine .inr ⟨by omega,?_⟩
  unfold cutAt
  rw[if_pos (.inl hsc)]
 ·rw[if_neg hsc,take_getD b c s.at' (by omega),g2]
  simp only
  rw[if_neg g3,if_neg (fun hh=>by
   have h1:=hk.1 hh.1
   rw[decide_eq_true h1,hh.2] at n2
   simp at n2)]
  have hpre:∀i,i<(((b.take c).drop s.at').take 6).length→(((b.take c).drop s.at').take 6).getD i 0=((b.drop s.at').take 6).getD i 0:=by
   intro i hi
   rw[hyl] at hi
   simp only[List.getD_eq_getElem?_getD,List.getElem?_take,List.getElem?_drop]
   rw[if_pos (by omega),if_pos (by omega),if_pos (by omega)]
  rcases get_prefix _ _ hpre (by rw[hxl,hyl];omega) (by rw[hyl];omega) g4 with⟨p1,p2⟩|⟨p1,p2⟩
  ·rw[hyl] at p1
   rw[p2,if_neg (by simpa using g4),←g6,←g7]
   have hfc:fr≤c:=by omega
   subst g9
   simp only at n3 n4 hs2
   rw[n3,n4,if_neg (by decide)]
   by_cases hsh:c-fr<h.packed
   ·rw[if_pos hsh]
    refine .inr ⟨by simp only;omega,?_⟩
    unfold cutAt
    rw[if_neg (by omega)]
   ·rw[if_neg hsh]
    refine .inl ⟨by simp only;omega,?_⟩
    have e:((b.take c).drop fr).take h.packed=part:=by
     rw[g8,List.drop_take,List.take_take]
     congr 1
     omega
    rw[e]
  ·rw[hyl] at p1
   rw[if_pos (by rw[p2];decide),p2]
   refine .inr ⟨by omega,?_⟩
   unfold cutAt
   rw[if_pos (.inr (by omega))]
theorem get_kind(xs:List UInt8)(h:(get xs).2.2=0):(get xs).1.kind=0↔(xs.getD 0 0).toNat=0:=by
 unfold get at*
 simp only at*
 by_cases h0:xs.length=0
 ·rw[if_pos h0] at h
  simp at h
 rw[if_neg h0] at h ⊢
 by_cases h1:(xs.getD 0 0).toNat=0
 ·rw[if_pos h1]
  exact⟨fun _=>h1,fun _=>rfl⟩
 rw[if_neg h1] at h ⊢
 by_cases h2:(xs.getD 0 0).toNat≤2
 ·rw[if_pos h2] at h ⊢
  by_cases h3:xs.length<3
  ·rw[if_pos h3] at h
   simp at h
  ·rw[if_neg h3]
 rw[if_neg h2] at h ⊢
 by_cases h3:(xs.getD 0 0).toNat<128
 ·rw[if_pos h3] at h
  simp at h
 rw[if_neg h3] at h ⊢
 by_cases h4:xs.length<5
 ·rw[if_pos h4] at h
  simp at h
 rw[if_neg h4] at h ⊢
 by_cases h5:((xs.getD 0 0).toNat-128)/32<2
 ·rw[if_pos h5]
  simp only
  exact⟨fun h=>by omega,fun h=>by omega⟩
 rw[if_neg h5] at h ⊢
 by_cases h6:xs.length<6
 ·rw[if_pos h6] at h
  simp at h
 rw[if_neg h6] at h ⊢
 by_cases h7:St.bytePropsOk (xs.getD 5 0).toNat=true
 ·rw[if_pos h7]
  simp only
  exact⟨fun h=>by omega,fun h=>by omega⟩
 ·rw[if_neg h7] at h
  simp at h
theorem good_kind{b:List UInt8}{s s2:Sr}{h:Head}{part:List UInt8}{fr k:Nat}(g:Good b s h part fr s2 k):k=0↔h.kind=0:=by
 obtain⟨g1,g2,g3,g4,g5,g6,g7,g8,g9⟩:=g
 have e0:((b.drop s.at').take 6).getD 0 0=b.getD s.at' 0:=by
  simp only[List.getD_eq_getElem?_getD,List.getElem?_take,List.getElem?_drop,Nat.add_zero]
  rw[if_pos (by omega)]
 have hxk:=get_kind _ g4
 rw[e0] at hxk
 rw[g6,hxk]
 unfold kindOf at g2
 split at g2
 ·have:=Option.some.inj g2
  omega
 ·split at g2
  ·cases g2
  ·have:=Option.some.inj g2
   omega
end Ck
namespace Ck
open Mem Wire
theorem takeGo_ok(n:Nat):∀(f:Nat)(c:Lz.C)(y:Lz.Y)(l:List St.Sy)(out:List UInt8){c2:Lz.C}{y2:Lz.Y}{l2:List St.Sy}{out2:List UInt8},y.Ok c.lc c.lp→Lz.takeGo n f c y l out=some (c2,y2,l2,out2)→y2.Ok c2.lc c2.lp
 |0,c,y,l,out,c2,y2,l2,out2,hy,h=>by cases h
 |f+1,c,y,l,out,c2,y2,l2,out2,hy,h=>by
   rw[Lz.takeGo_succ] at h
   have hsy:=Lz.Y.symbol_ok (c:=c) hy
   by_cases h1:n≤out.length
   ·rw[if_pos h1] at h
    simp only[Option.some.injEq,Prod.mk.injEq] at h
    obtain⟨rfl,rfl,rfl,rfl⟩:=h
    exact hy
   ·rw[if_neg h1] at h
    split at h
    ·cases h
    ·split at h
     ·cases h
     ·exact takeGo_ok n f ((c.on (St.apply c.size c.all c.s (y.symbol c).1).2.1).to (St.apply c.size c.all c.s (y.symbol c).1).2.2) (y.symbol c).2 _ _ (show(y.symbol c).2.Ok c.lc c.lp from hsy.1) h
structure POk(u:US):Prop where
 p:∀j,j<18→Rc.okP (u.ps j)
 len:∀j,j<18→(u.ps j).length=Lz.rowLen u.c.lc u.c.lp j
theorem fresh_pok(a b:Nat):(∀j,j<18→Rc.okP (Lz.fresh a b j))∧∀j,j<18→(Lz.fresh a b j).length=Lz.rowLen a b j:=
 ⟨fun j hj p hpm=>by
  simp only[Lz.fresh] at hpm
  rw[List.eq_of_mem_replicate hpm]
  decide,fun j _=>Lz.fresh_len a b j⟩
theorem take_pok{u u2:US}(h:POk u){part:List UInt8}(hp:part.length≤65536){n:Nat}(e:u.take part n=some u2):POk u2∧u2.out.length=u.out.length+n:=by
 unfold US.take at e
 cases hta:Lz.takeAll u.c u.ps part n with
 |none=>rw[hta] at e;cases e
 |some r=>
   obtain⟨ls,outs,c2,ps2⟩:=r
   rw[hta] at e
   simp only[Option.map_some,Option.some.injEq] at e
   subst e
   have hy:∀d,Rc.init part=.ok d→(⟨d,false,u.ps⟩:Lz.Y).Ok u.c.lc u.c.lp:=fun d hd=>⟨(Rc.init_ok hd (by omega)).1,h.p,h.len⟩
   have h1:=take_len hta hy
   refine⟨?_,by simp only[List.length_append];omega⟩
   unfold Lz.takeAll at hta
   split at hta
   ·cases hta
   ·rename_i d hd
    split at hta
    ·cases hta
    ·rename_i c3 y3 l3 out3 hg
     split at hta
     ·simp only[Option.some.injEq,Prod.mk.injEq] at hta
      obtain⟨rfl,rfl,rfl,rfl⟩:=hta
      have:=takeGo_ok n _ _ _ _ _ (hy d hd) hg
      exact⟨this.p,this.len⟩
     ·cases hta
theorem step_pok{u u2:US}(hU:POk u){h:Head}{part:List UInt8}(hp:part.length≤65536)(hpl:h.kind<3→part.length=h.size)(hk:h.kind≤6)(e:u.step h part=some u2):POk u2∧u2.out.length=u.out.length+h.size:=by
 unfold US.step at e
 split at e
 ·simp only[Option.some.injEq] at e
  subst e
  exact⟨⟨hU.p,hU.len⟩,by simp only[US.raw,List.length_append];omega⟩
 ·split at e
  ·simp only[Option.some.injEq] at e
   subst e
   exact⟨⟨(fresh_pok u.c.lc u.c.lp).1,(fresh_pok u.c.lc u.c.lp).2⟩,by simp only[US.raw,US.clear,List.length_append];omega⟩
  ·split at e
   ·exact take_pok hU hp e
   ·split at e
    ·exact take_pok (u:=u.reset) ⟨(fresh_pok _ _).1,(fresh_pok _ _).2⟩ hp e
    ·split at e
     ·exact take_pok (u:=(u.props h).reset) ⟨(fresh_pok _ _).1,(fresh_pok _ _).2⟩ hp e
     ·exact take_pok (u:=(u.clear.props h).reset) ⟨(fresh_pok _ _).1,(fresh_pok _ _).2⟩ hp e
theorem start_pok(dict:Nat):POk (US.start dict):=⟨(fresh_pok 0 0).1,(fresh_pok 0 0).2⟩
inductive Run (b:List UInt8):Nat→Sr→US→Nat→US→Prop
 |done {f:Nat}{s:Sr}{u:US}(h:s.now=3):Run b (f+1) s u s.at' u
 |step {f n:Nat}{s s2:Sr}{u u2 v:US}{h:Head}{part:List UInt8}{fr k:Nat}(h3:s.now≠3)(g:Good b s h part fr s2 k)(ok:NextOk b s h part fr s2)(e:u.step h part=some u2)(hk:k=0↔h.kind=0)(r:Run b f s2 u2 n v):Run b (f+1) s u n v
theorem run_of(b:List UInt8):∀(f:Nat)(s:Sr)(u:US){n:Nat}{v:US},s.now<4→s.at'≤b.length→readP b (-1) (-1) f s u=.ok (n,v)→Run b f s u n v
 |0,s,u,n,v,_,_,e=>by cases e
 |f+1,s,u,n,v,hn,ha,e=>by
   unfold readP at e
   by_cases h3:s.now=3
   ·rw[if_pos h3] at e
    simp only[Except.ok.injEq,Prod.mk.injEq] at e
    obtain⟨rfl,rfl⟩:=e
    exact .done h3
   ·rw[if_neg h3] at e
    cases hx:nextP b (-1) (-1) s with
    |error x=>rw[hx] at e;cases e
    |ok r=>
      obtain⟨h,part,fr,s2⟩:=r
      rw[hx] at e
      simp only at e
      have hok:=nextP_ok hn ha hx
      obtain⟨k,g⟩:=good_of ha hx
      cases hs:u.step h part with
      |none=>rw[hs] at e;cases e
      |some u2=>
        rw[hs] at e
        simp only at e
        exact .step h3 g hok hs (good_kind g) (run_of b f s2 u2 hok.now hok.le e)
end Ck
namespace Ck
open Mem Wire
theorem move_end:∀a:Fin 4,∀k:Fin 7,move a k≠4→(move a k=3↔k.val=0):=by decide
theorem good_end{b:List UInt8}{s s2:Sr}{h:Head}{part:List UInt8}{fr k:Nat}(hn:s.now<4)(g:Good b s h part fr s2 k):s2.now=3↔k=0:=by
 have hk:k<7:=kindOf_lt (b.getD s.at' 0).toNat_lt g.kind
 have:=move_end ⟨s.now,hn⟩ ⟨k,hk⟩ g.mv
 simp only at this
 rw[g.es2]
 exact this
theorem good_zero{b:List UInt8}{s s2:Sr}{h:Head}{part:List UInt8}{fr k:Nat}(g:Good b s h part fr s2 k)(hk:k=0↔h.kind=0)(h0:h.kind=0):s2.at'=s.at'+1∧s2.plain=s.plain:=by
 have hg:=get_kind _ g.err
 have hx:=hg.1 (by rw[←g.eh];exact h0)
 have hl:((b.drop s.at').take 6).length≠0:=by
  have:=g.lt
  rw[List.length_take,List.length_drop]
  omega
 have he:get ((b.drop s.at').take 6)=(Head.none,1,0):=by
  unfold get
  simp only
  rw[if_neg hl,if_pos hx]
 have e1:=g.eh
 have e2:=g.efr
 rw[he] at e1 e2
 simp only at e1 e2
 rw[g.es2,e2,e1]
 exact⟨rfl,rfl⟩
theorem run_le{b:List UInt8}{f n:Nat}{s:Sr}{u v:US}(r:Run b f s u n v):s.now<4→s.at'≤b.length→POk u→u.out.length=s.plain→s.at'≤n∧n≤b.length∧s.plain≤v.out.length∧(s.now≠3→s.at'<n):=by
 induction r with
 |done h=>exact fun _ ha _ ho=>⟨Nat.le_refl _,ha,by omega,fun h3=>absurd h h3⟩
 |step h3 g ok e hk r ih=>
   intro hn ha hp ho
   have h1:=step_pok hp (by rw[ok.plen];exact ok.packed) (fun hk3=>by rw[ok.plen,g.eh];exact((get_sizes _ g.err).2 (by rw[←g.eh];exact hk3)).symm) ok.kind e
   have h2:=ih ok.now ok.le h1.1 (by rw[h1.2,ok.plain,ho])
   have h4:=ok.more
   have h5:=ok.at2
   have h6:=ok.plain
   omega
theorem run_next{b:List UInt8}{s s2:Sr}{u u2:US}{h:Head}{part:List UInt8}{fr k:Nat}(g:Good b s h part fr s2 k)(ok:NextOk b s h part fr s2)(e:u.step h part=some u2)(hp:POk u)(ho:u.out.length=s.plain):POk u2∧u2.out.length=s2.plain:=by
 have h1:=step_pok hp (by rw[ok.plen];exact ok.packed) (fun hk3=>by rw[ok.plen,g.eh];exact((get_sizes _ g.err).2 (by rw[←g.eh];exact hk3)).symm) ok.kind e
 exact⟨h1.1,by rw[h1.2,ok.plain,ho]⟩
theorem run_done{b:List UInt8}{f n:Nat}{s:Sr}{u v:US}(r:Run b f s u n v)(h3:s.now=3):n=s.at'∧v=u:=by
 cases r with
 |done h=>exact⟨rfl,rfl⟩
 |step hh=>exact absurd h3 hh
def fits(P S:Int)(n m:Nat):Prop:=(P<0∨P=n)∧(S<0∨S=m)
theorem fit_good{b:List UInt8}{f n:Nat}{s s2:Sr}{u2 v:US}{h:Head}{part:List UInt8}{fr k:Nat}(hn:s.now<4)(g:Good b s h part fr s2 k)(ok:NextOk b s h part fr s2)(hk:k=0↔h.kind=0)(r:Run b f s2 u2 n v)(hp:POk u2)(ho:u2.out.length=s2.plain){P S:Int}(hf:fits P S n v.out.length):toldBad P S s h s2=false:=by
 have h1:=run_le r ok.now ok.le hp ho
 have h4:=ok.more
 have h5:=ok.at2
 have h6:=ok.plain
 obtain⟨f1,f2⟩:=hf
 unfold toldBad
 simp only[Bool.or_eq_false_iff]
 refine⟨⟨⟨?_,?_⟩,?_⟩,?_⟩
 ·unfold beyond
  rw[decide_eq_false_iff_not]
  omega
 ·by_cases h0:h.kind=0
  ·have hz:=good_zero g hk h0
   have hd:=run_done r ((good_end hn g).2 (hk.2 h0))
   have hv:v.out.length=s2.plain:=by rw[hd.2];exact ho
   have:ends P S s.at' s.plain=true:=by
    unfold ends
    rw[decide_eq_true_iff]
    omega
   rw[this]
   simp
  ·simp[h0]
 ·unfold beyond
  rw[decide_eq_false_iff_not]
  omega
 ·unfold beyond
  rw[decide_eq_false_iff_not]
  omega
theorem run_fits{b:List UInt8}{f n:Nat}{s:Sr}{u v:US}(r:Run b f s u n v)(P S:Int)(hf:fits P S n v.out.length):s.now<4→s.at'≤b.length→POk u→u.out.length=s.plain→readP b P S f s u=.ok (n,v):=by
 induction r with
 |done h=>
   intro _ _ _ _
   unfold readP
   rw[if_pos h]
 |step h3 g ok e hk r ih=>
   intro hn ha hp ho
   have hx:=run_next g ok e hp ho
   rw[readP_succ,if_neg h3,good_told g hk,fit_good hn g ok hk r hx.1 hx.2 hf,if_neg (by decide)]
   simp only
   rw[e]
   exact ih hf ok.now ok.le hx.1 hx.2
theorem run_misfit{b:List UInt8}{f n:Nat}{s:Sr}{u v:US}(r:Run b f s u n v)(P S:Int)(hf:¬fits P S n v.out.length):s.now<4→s.now≠3→s.at'≤b.length→POk u→u.out.length=s.plain→∃p,readP b P S f s u=.error (p,2):=by
 induction r with
 |done h=>exact fun _ h3=>absurd h h3
 |step h3 g ok e hk r ih=>
   intro hn _ ha hp ho
   have hx:=run_next g ok e hp ho
   rw[readP_succ,if_neg h3,good_told g hk]
   cases ht:toldBad P S _ _ _ with
   |true=>exact⟨_,rfl⟩
   |false=>
     rw[if_neg (by decide)]
     simp only
     rw[e]
     refine ih hf ok.now (fun hs3=> ?_) ok.le hx.1 hx.2
     have h0:=hk.1 ((good_end hn g).1 hs3)
     have hz:=good_zero g hk h0
     have hd:=run_done r hs3
     have hv:=hd.2
     subst hv
     unfold toldBad at ht
     simp only[Bool.or_eq_false_iff] at ht
     have h7:=ht.1.1.2
     rw[decide_eq_true h0] at h7
     simp only[Bool.true_and,Bool.not_eq_false'] at h7
     unfold ends at h7
     rw[decide_eq_true_iff] at h7
     refine hf ⟨?_,?_⟩
     ·rw[hd.1,hz.1]
      omega
     ·rw[hx.2,hz.2]
      exact h7.2
theorem run_cut{b:List UInt8}{f n:Nat}{s:Sr}{u v:US}(r:Run b f s u n v)(c:Nat)(hc:c<n):s.now<4→s.at'≤c→POk u→u.out.length=s.plain→n≤b.length→∃p,p≤c∧∀(P S:Int)(f':Nat),fits P S n v.out.length→c<f'+s.at'→readP (b.take c) P S f' s u=.error (p,1):=by
 induction r with
 |done h=>
   intro _ ha _ _ _
   omega
 |@step f n s s2 u u2 v h part fr k h3 g ok e hk r ih=>
   intro hn ha hp ho hnb
   have hx:=run_next g ok e hp ho
   have h4:=ok.more
   have h5:=ok.at2
   by_cases hs2:s2.at'≤c
   ·obtain⟨p,hp1,hp2⟩:=ih hc ok.now hs2 hx.1 hx.2 hnb
    refine⟨p,hp1,fun P S f' hf hf'=> ?_⟩
    obtain _|f':=f'
    ·omega
    rcases good_cut g hk c (by omega) ha P S (fit_good hn g ok hk r hx.1 hx.2 hf) with⟨q1,q2⟩|⟨q1,q2⟩
    ·rw[readP_succ,if_neg h3,q2]
     simp only
     rw[e]
     exact hp2 P S f' hf (by omega)
    ·omega
   ·refine⟨cutAt s fr c,cutAt_le ha,fun P S f' hf hf'=> ?_⟩
    obtain _|f':=f'
    ·omega
    rcases good_cut g hk c (by omega) ha P S (fit_good hn g ok hk r hx.1 hx.2 hf) with⟨q1,q2⟩|⟨q1,q2⟩
    ·omega
    ·rw[readP_succ,if_neg h3,q2]
theorem unpack_law{b:List UInt8}{dict:Int}{n:Nat}{out:List UInt8}(h:unpackP b dict (-1) (-1)=.ok (n,out)):
 1≤n∧n≤b.length∧(∀c,c<n→∃p,p≤c∧unpackP (b.take c) dict (-1) (-1)=.error (p,1)∧unpackP (b.take c) dict n out.length=.error (p,1))∧
 unpackP b dict n out.length=.ok (n,out)∧
 (∀P:Int,0≤P→(P=n→unpackP b dict P (-1)=.ok (n,out))∧(P≠n→∃p,unpackP b dict P (-1)=.error (p,2)))∧
 (∀S:Int,0≤S→(S=out.length→unpackP b dict (-1) S=.ok (n,out))∧(S≠out.length→∃p,unpackP b dict (-1) S=.error (p,2))):=by
 unfold unpackP at h
 split at h
 ·cases h
 ·rename_i hd
  cases hr:readP b (-1) (-1) (b.length+2) ⟨0,0,0⟩ (US.start dict.toNat) with
  |error x=>rw[hr] at h;cases h
  |ok r=>
    obtain⟨m,v⟩:=r
    rw[hr] at h
    simp only[Except.ok.injEq,Prod.mk.injEq] at h
    obtain⟨rfl,rfl⟩:=h
    have run:=run_of b _ _ _ (by decide) (Nat.zero_le _) hr
    have hle:=run_le run (by decide) (Nat.zero_le _) (start_pok _) rfl
    have hone:=hle.2.2.2 (by decide)
    simp only at hone
    have hfit:∀P S:Int, -1≤P→-1≤S→fits P S m v.out.length→unpackP b dict P S=.ok (m,v.out):=by
     intro P S h1 h2 hf
     unfold unpackP
     rw[if_neg (by omega),run_fits run P S hf (by decide) (Nat.zero_le _) (start_pok _) rfl]
    have hmis:∀P S:Int, -1≤P→-1≤S→¬fits P S m v.out.length→∃p,unpackP b dict P S=.error (p,2):=by
     intro P S h1 h2 hf
     obtain⟨p,hp⟩:=run_misfit run P S hf (by decide) (by decide) (Nat.zero_le _) (start_pok _) rfl
     refine⟨p,?_⟩
     unfold unpackP
     rw[if_neg (by omega),hp]
    refine⟨by omega,hle.2.1,fun c hc=> ?_,hfit _ _ (by omega) (by omega) ⟨.inr rfl,.inr rfl⟩,fun P hP=>⟨fun e=>hfit _ _ (by omega) (by omega) ⟨.inr e,.inl (by omega)⟩,fun e=>hmis _ _ (by omega) (by omega) (fun hf=> ?_)⟩,fun S hS=>⟨fun e=>hfit _ _ (by omega) (by omega) ⟨.inl (by omega),.inr e⟩,fun e=>hmis _ _ (by omega) (by omega) (fun hf=> ?_)⟩⟩
    ·obtain⟨p,hp1,hp2⟩:=run_cut run c hc (by decide) (Nat.zero_le _) (start_pok _) rfl hle.2.1
     refine⟨p,hp1,?_,?_⟩
     ·unfold unpackP
      rw[if_neg (by omega),hp2 (-1) (-1) _ ⟨.inl (by omega),.inl (by omega)⟩ (by rw[List.length_take];simp only;omega)]
     ·unfold unpackP
      rw[if_neg (by omega),hp2 m v.out.length _ ⟨.inr rfl,.inr rfl⟩ (by rw[List.length_take];simp only;omega)]
    ·rcases hf.1 with h1|h1
     ·omega
     ·exact e h1
    ·rcases hf.2 with h1|h1
     ·omega
     ·exact e h1
end Ck
namespace En
open Mem Rc St Lz Ck
theorem puts_good:∀(l:List Sz)(x:Xe)(n:Nat)(r:Xe×Nat),putsZ l x n=.ok r→∀z ∈ l,z.bad=0
 |[],x,n,r,h=>by simp
 |y::l,x,n,r,h=>by
   rw[putsZ] at h
   by_cases h0:(x.apZ y).1=0
   ·rw[if_pos h0] at h
    intro z hz
    rcases List.mem_cons.1 hz with rfl|hz
    ·exact(apZ_ok h0).1
    ·exact puts_good l _ _ r h z hz
   ·rw[if_neg h0] at h
    exact absurd h (by simp)
theorem part_good{x:Xe}{p:Pz}{pr:Pi3}{r:List UInt8×Xe}(h:partP x p pr=.ok r)(h2:2<p.kind):∀z ∈ p.ys,z.bad=0:=by
 unfold partP at h
 simp only at h
 rw[if_neg (by omega)] at h
 split at h
 ·exact absurd h (by simp)
 ·unfold packP at h
  split at h
  ·exact absurd h (by simp)
  ·rename_i hps
   exact puts_good _ _ _ _ hps
theorem build_good:∀(l:List Pz)(now:Nat)(x:Xe)(pr:Pi3)(b:List UInt8),buildGo l now x pr=.ok b→∀p ∈ l,(1≤p.kind∧p.kind≤6)∧(2<p.kind→∀z ∈ p.ys,z.bad=0)
 |[],now,x,pr,b,h=>by simp
 |q::l,now,x,pr,b,h=>by
   rw[buildGo] at h
   by_cases hk:q.kind<1∨6<q.kind
   ·rw[if_pos hk] at h
    exact absurd h (by simp)
   ·rw[if_neg hk] at h
    split at h
    ·exact absurd h (by simp)
    ·split at h
     ·exact absurd h (by simp)
     ·rename_i hpp
      split at h
      ·exact absurd h (by simp)
      ·rename_i hbb
       intro p hp
       rcases List.mem_cons.1 hp with rfl|hp
       ·exact⟨by omega,part_good hpp⟩
       ·exact build_good l _ _ _ _ hbb p hp
def Pz.rowN(p:Pz):List Sy:=p.rowZ.map fun z=>norm z.sy
theorem row_n{p:Pz}(hk:1≤p.kind):p.pt.row=p.rowN:=by
 unfold Pt.row Pz.rowN Pz.rowZ Pz.pt
 simp only
 by_cases h2:p.kind≤2
 ·rw[if_pos (by omega),if_pos h2]
  rfl
 ·rw[if_neg (by omega),if_neg h2,List.map_map]
  rfl
theorem start_ok(d:Nat):(Xe.start d).Ok:=⟨⟨show 0+0≤4 by decide,show 0≤4 by decide,S.new_ok⟩,fresh_ok 0 0⟩
theorem parts_law{dict:Int}{l:List Pz}{b:List UInt8}(hb:∀p ∈ l,∀z ∈ p.ys,z.byte<256)(h:buildP dict l=.ok b):
 (1≤dict∧dict≤4294967295)∧(∀p ∈ l,(1≤p.kind∧p.kind≤6)∧(2<p.kind→∀z ∈ p.ys,z.bad=0))∧∃want,meanGo dict.toNat l [] S.new=some (want,l.map Pz.rowZ)∧
   ∀(behind:List UInt8),(∀great:Nat,dict≤great→great≤4294967295→Ck.unpackP (b++behind) great (-1) (-1)=.ok (b.length,want))∧
    Ck.unpackP (b++behind) dict b.length want.length=.ok (b.length,want)∧Cs.unpackP (b++behind) dict (-1) (-1)=.ok (b.length,l.map Pz.rowN):=by
 unfold buildP at h
 by_cases hd:dict<1∨4294967295<dict
 ·rw[if_pos hd] at h
  exact absurd h (by simp)
 ·rw[if_neg hd] at h
  cases hg:buildGo l 0 (Xe.start dict.toNat) (0,0,0) with
  |error e=>
    rw[hg] at h
    exact absurd h (by simp)
  |ok t=>
    rw[hg] at h
    simp only[Except.ok.injEq] at h
    obtain⟨d,rfl⟩:∃d:Nat,dict=d:=⟨dict.toNat,by omega⟩
    rw[Int.toNat_natCast] at hg ⊢
    have hgood:=build_good _ _ _ _ _ hg
    obtain⟨q1,q2⟩:=build_pts l 0 (Xe.start d) (0,0,0) t (by decide) (start_ok d) (by decide) hb hg
    have hm:=build_mean l 0 (Xe.start d) (0,0,0) t S.new (by decide) (start_ok d) (by decide) hb (fun h=>absurd h (by decide)) hg
    have hrow:l.map (fun p=>p.pt.row)=l.map Pz.rowN:=List.map_congr_left (fun p hp=>row_n (hgood p hp).1.1)
    refine⟨by omega,hgood,_,hm,fun behind=> ?_⟩
    have key:=fun(g:Nat)(h1:d≤g)(h2:g≤4294967295)=>build_read (dict:=d) (g:=g) (l:=l.map Pz.pt) (by omega) h1 h2 q1 behind
    have e1:rowB (chunks (l.map Pz.pt) (Xe.start d) (0,0,0))++0::behind=b++behind:=by
     rw[←h,q2,List.append_assoc]
     rfl
    have e2:(rowB (chunks (l.map Pz.pt) (Xe.start d) (0,0,0))).length+1=b.length:=by
     rw[←h,q2,List.length_append]
     rfl
    rw[e1,e2] at key
    have k1:=key d (Nat.le_refl _) (by omega)
    refine⟨fun great h1 h2=>(key great (by omega) h2).1,(unpack_law k1.1).2.2.2.1,?_⟩
    rw[k1.2,List.map_map,←hrow]
    rfl
end En
end Go.Proofs.YtlgccpjccopdmaaGreatDoor
