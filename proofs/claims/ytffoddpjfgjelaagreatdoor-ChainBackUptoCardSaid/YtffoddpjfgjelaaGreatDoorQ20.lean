/- Part 20 of 48: lemmas of the last part, each under the conditions that it names. -/
import Derived.Test.YtffoddpjfgjelaaGreatDoorQ19
set_option linter.unusedVariables false
set_option linter.unusedSimpArgs false
set_option maxRecDepth 1500
namespace Go.Proofs.YtffoddpjfgjelaaGreatDoor
open Go.RowKit
namespace Ck
open Mem Wire Win
theorem unpack1_calls(w0 w:World)(dB prB fB Vb:Nat)(l:Lz.L)(ov:Value)(u:US)(hU:UAt w0 w dB prB fB Vb l ov u)(h:Head)(hk:h.kind≤6)(part:List UInt8)(pv:Value)(hr:Rd w pv part)(hpv:0<part.length→∀k,pv.ownBlock=some k→k<w0.heap.size)(hok:h.lc+h.lp≤4∧h.pb≤4)(hs:3≤h.kind→1≤h.size∧h.size≤2097152)
 (hp:part.length≤1099511627776)(hm:u.c.all.length+part.length+h.size≤1152921504606840000)(ho:u.out.length+part.length+h.size≤70368744177664):
 Calls Tryz.prog 93 #[.agg h.cells,pv,Lz.ptr dB,Lz.ptr prB,Lz.ptr fB] w (UPost w0 w dB prB fB Vb l ov (u.step h part)):=by
 obtain h0|h0|h0|h0|h0|h0|h0:h.kind=0∨h.kind=1∨h.kind=2∨h.kind=3∨h.kind=4∨h.kind=5∨h.kind=6:=by omega
 ·exact unpack1_k0 w0 w dB prB fB Vb l ov u hU h h0 part pv hr hpv hok hs hp hm ho
 ·exact unpack1_k1 w0 w dB prB fB Vb l ov u hU h h0 part pv hr hpv hok hs hp hm ho
 ·exact unpack1_k2 w0 w dB prB fB Vb l ov u hU h h0 part pv hr hpv hok hs hp hm ho
 ·exact unpack1_k3 w0 w dB prB fB Vb l ov u hU h h0 part pv hr hpv hok hs hp hm ho
 ·exact unpack1_k4 w0 w dB prB fB Vb l ov u hU h h0 part pv hr hpv hok hs hp hm ho
 ·exact unpack1_k5 w0 w dB prB fB Vb l ov u hU h h0 part pv hr hpv hok hs hp hm ho
 ·exact unpack1_k6 w0 w dB prB fB Vb l ov u hU h h0 part pv hr hpv hok hs hp hm ho
def readP(b:List UInt8)(packed size:Int):Nat→Sr→US→Except (Nat×Nat) (Nat×US)
 |0,_,_=>.error (0,0)
 |f+1,s,u=>
   if s.now=3 then .ok (s.at',u)
   else match nextP b packed size s with
    |.error x=>.error x
    |.ok (h,part,fr,s2)=>match u.step h part with
      |none=>.error (fr,2)
      |some u2=>readP b packed size f s2 u2
theorem get_pos(xs:List UInt8)(h:(get xs).2.2=0):1≤(get xs).2.1:=by
 unfold get at*
 simp only at*
 by_cases h0:xs.length=0
 ·rw[if_pos h0] at h
  simp at h
 rw[if_neg h0] at h ⊢
 by_cases h1:(xs.getD 0 0).toNat=0
 ·rw[if_pos h1]
  exact Nat.le_refl 1
 rw[if_neg h1] at h ⊢
 by_cases h2:(xs.getD 0 0).toNat≤2
 ·rw[if_pos h2] at h ⊢
  by_cases h3:xs.length<3
  ·rw[if_pos h3] at h
   simp at h
  ·rw[if_neg h3]
   simp only
   omega
 rw[if_neg h2] at h ⊢
 by_cases h3:(xs.getD 0 0).toNat<128
 ·rw[if_pos h3] at h
  simp at h
 rw[if_neg h3] at h ⊢
 by_cases h4:xs.length<5
 ·rw[if_pos h4] at h
  simp at h
 rw[if_neg h4] at h ⊢
 by_cases h5:((xs.getD 0 0).toNat-128)/32<2
 ·rw[if_pos h5]
  simp only
  omega
 rw[if_neg h5] at h ⊢
 by_cases h6:xs.length<6
 ·rw[if_pos h6] at h
  simp at h
 rw[if_neg h6] at h ⊢
 by_cases h7:St.bytePropsOk (xs.getD 5 0).toNat=true
 ·rw[if_pos h7]
  simp only
  omega
 ·rw[if_neg h7] at h
  simp at h
theorem get_sizes(xs:List UInt8)(h:(get xs).2.2=0):(3≤(get xs).1.kind→1≤(get xs).1.size)∧((get xs).1.kind<3→(get xs).1.size=(get xs).1.packed):=by
 unfold get at*
 simp only at*
 by_cases h0:xs.length=0
 ·rw[if_pos h0] at h
  simp at h
 rw[if_neg h0] at h ⊢
 by_cases h1:(xs.getD 0 0).toNat=0
 ·rw[if_pos h1]
  simp[Head.none]
 rw[if_neg h1] at h ⊢
 by_cases h2:(xs.getD 0 0).toNat≤2
 ·rw[if_pos h2] at h ⊢
  by_cases h3:xs.length<3
  ·rw[if_pos h3] at h
   simp at h
  ·rw[if_neg h3]
   simp only
   exact⟨fun _=>by omega,by simp⟩
 rw[if_neg h2] at h ⊢
 by_cases h3:(xs.getD 0 0).toNat<128
 ·rw[if_pos h3] at h
  simp at h
 rw[if_neg h3] at h ⊢
 by_cases h4:xs.length<5
 ·rw[if_pos h4] at h
  simp at h
 rw[if_neg h4] at h ⊢
 by_cases h5:((xs.getD 0 0).toNat-128)/32<2
 ·rw[if_pos h5]
  simp only
  exact⟨fun _=>by omega,fun _=>by omega⟩
 rw[if_neg h5] at h ⊢
 by_cases h6:xs.length<6
 ·rw[if_pos h6] at h
  simp at h
 rw[if_neg h6] at h ⊢
 by_cases h7:St.bytePropsOk (xs.getD 5 0).toNat=true
 ·rw[if_pos h7]
  simp only
  exact⟨fun _=>by omega,fun _=>by omega⟩
 ·rw[if_neg h7] at h
  simp at h
structure NextOk(b:List UInt8)(s:Sr)(h:Head)(part:List UInt8)(fr:Nat)(s2:Sr):Prop where
 at2:s2.at'=fr+h.packed
 more:s.at'<fr
 le:s2.at'≤b.length
 plain:s2.plain=s.plain+h.size
 eq:part=(b.drop fr).take h.packed
 plen:part.length=h.packed
 kind:h.kind≤6
 size:h.size≤2097152
 packed:h.packed≤65536
 props:h.lc+h.lp≤4∧h.pb≤4
 one:3≤h.kind→1≤h.size
 now:s2.now<4
theorem nextP_ok{b:List UInt8}{packed size:Int}{s s2:Sr}{h:Head}{part:List UInt8}{fr:Nat}(hn:s.now<4)(ha:s.at'≤b.length)(e:nextP b packed size s=.ok (h,part,fr,s2)):NextOk b s h part fr s2:=by
 unfold nextP at e
 split at e
 ·cases e
 ·split at e
  ·cases e
  ·rename_i hne
   split at e
   ·cases e
   ·rename_i k hk
    have hk7:=kindOf_lt (UInt8.toNat_lt _) hk
    split at e
    ·cases e
    ·rename_i hmv
     split at e
     ·cases e
     ·split at e
      ·cases e
      ·rename_i hge
       split at e
       ·cases e
       ·split at e
        ·cases e
        ·rename_i hsh
         have hge0:(get ((b.drop s.at').take 6)).2.2=0:=by simpa using hge
         have g1:=get_small ((b.drop s.at').take 6)
         have g2:=get_le_len ((b.drop s.at').take 6) hge0
         have g3:=get_pos ((b.drop s.at').take 6) hge0
         have g4:=get_sizes ((b.drop s.at').take 6) hge0
         rw[List.length_take,List.length_drop] at g2
         generalize get ((b.drop s.at').take 6)=g at*
         obtain⟨⟨gk,gs,gp,glc,glp,gpb⟩,gn,ge⟩:=g
         simp only[Except.ok.injEq,Prod.mk.injEq] at e g1 g2 g3 g4 hsh
         obtain⟨rfl,rfl,rfl,rfl⟩:=e
         have hm:=move_le ⟨s.now,hn⟩ ⟨k,hk7⟩
         simp only at hm
         refine⟨rfl,by omega,by simp only;omega,rfl,rfl,?_,g1.2.2.1,g1.1,g1.2.1,g1.2.2.2.2,g4.1,by simp only;omega⟩
         rw[List.length_take,List.length_drop]
         simp only
         omega
theorem nextP_err{b:List UInt8}{packed size:Int}{s:Sr}{p er:Nat}(e:nextP b packed size s=.error (p,er)):er≠0:=by
 unfold nextP at e
 split at e
 ·cases e;decide
 ·split at e
  ·cases e;decide
  ·split at e
   ·cases e;decide
   ·split at e
    ·cases e;decide
    ·split at e
     ·cases e;decide
     ·split at e
      ·rename_i h
       cases e
       exact h
      ·split at e
       ·cases e;decide
       ·split at e
        ·cases e;decide
        ·cases e
end Ck
end Go.Proofs.YtffoddpjfgjelaaGreatDoor
