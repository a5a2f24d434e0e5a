/- Part 26 of 53: lemmas of the last part, each under the conditions that it names. -/
import Derived.Test.YtilegoadokmcdaaGreatDoorP25
set_option linter.unusedVariables false
set_option linter.unusedSimpArgs false
set_option maxRecDepth 1500
namespace Go.Proofs.YtilegoadokmcdaaGreatDoor
open Go.RowKit
namespace Ck
open Mem Wire Win
theorem unpack1_calls(w0 w:World)(dB prB fB Vb:Nat)(l:Lz.L)(ov:Value)(u:US)(hU:UAt w0 w dB prB fB Vb l ov u)(h:Head)(hk:h.kind≤6)(part:List UInt8)(pv:Value)(hr:Rd w pv part)(hpv:0<part.length→∀k,pv.ownBlock=some k→k<w0.heap.size)(hok:h.lc+h.lp≤4∧h.pb≤4)(hs:3≤h.kind→1≤h.size∧h.size≤2097152)
 (hp:part.length≤1099511627776)(hm:u.c.all.length+part.length+h.size≤1152921504606840000)(ho:u.out.length+part.length+h.size≤70368744177664):
 Calls Tryz.prog 25 #[.agg h.cells,pv,Lz.ptr dB,Lz.ptr prB,Lz.ptr fB] w (UPost w0 w dB prB fB Vb l ov (u.step h part)):=by
 obtain h0|h0|h0|h0|h0|h0|h0:h.kind=0∨h.kind=1∨h.kind=2∨h.kind=3∨h.kind=4∨h.kind=5∨h.kind=6:=by omega
 ·exact unpack1_k0 w0 w dB prB fB Vb l ov u hU h h0 part pv hr hpv hok hs hp hm ho
 ·exact unpack1_k1 w0 w dB prB fB Vb l ov u hU h h0 part pv hr hpv hok hs hp hm ho
 ·exact unpack1_k2 w0 w dB prB fB Vb l ov u hU h h0 part pv hr hpv hok hs hp hm ho
 ·exact unpack1_k3 w0 w dB prB fB Vb l ov u hU h h0 part pv hr hpv hok hs hp hm ho
 ·exact unpack1_k4 w0 w dB prB fB Vb l ov u hU h h0 part pv hr hpv hok hs hp hm ho
 ·exact unpack1_k5 w0 w dB prB fB Vb l ov u hU h h0 part pv hr hpv hok hs hp hm ho
 ·exact unpack1_k6 w0 w dB prB fB Vb l ov u hU h h0 part pv hr hpv hok hs hp hm ho
def readP(b:List UInt8)(packed size:Int):Nat→Sr→US→Except (Nat×Nat) (Nat×US)
 |0,_,_=>.error (0,0)
 |f+1,s,u=>
   if s.now=3 then .ok (s.at',u)
   else match nextP b packed size s with
    |.error x=>.error x
    |.ok (h,part,fr,s2)=>match u.step h part with
      |none=>.error (fr,2)
      |some u2=>readP b packed size f s2 u2
theorem get_pos(xs:List UInt8)(h:(get xs).2.2=0):1≤(get xs).2.1:=by
 unfold get at*
 simp only at*
 by_cases h0:xs.length=0
 ·rw[if_pos h0] at h
  simp at h
 rw[if_neg h0] at h ⊢
 by_cases h1:(xs.getD 0 0).toNat=0
 ·rw[if_pos h1]
  exact Nat.le_refl 1
 rw[if_neg h1] at h ⊢
 by_cases h2:(xs.getD 0 0).toNat≤2
 ·rw[if_pos h2] at h ⊢
  by_cases h3:xs.length<3
  ·rw[if_pos h3] at h
   simp at h
  ·rw[if_neg h3]
   simp only
   omega
 rw[if_neg h2] at h ⊢
 by_cases h3:(xs.getD 0 0).toNat<128
 ·rw[if_pos h3] at h
  simp at h
 rw[if_neg h3] at h ⊢
 by_cases h4:xs.length<5
 ·rw[if_pos h4] at h
  simp at h
 rw[if_neg h4] at h ⊢
 by_cases h5:((xs.getD 0 0).toNat-128)/32<2
 ·rw[if_pos h5]
  simp only
  omega
 rw[if_neg h5] at h ⊢
 by_cases h6:xs.length<6
 ·rw[if_pos h6] at h
  simp at h
 rw[if_neg h6] at h ⊢
 by_cases h7:St.bytePropsOk (xs.getD 5 0).toNat=true
 ·rw[if_pos h7]
  simp only
  omega
 ·rw[if_neg h7] at h
  simp at h
theorem get_sizes(xs:List UInt8)(h:(get xs).2.2=0):(3≤(get xs).1.kind→1≤(get xs).1.size)∧((get xs).1.kind<3→(get xs).1.size=(get xs).1.packed):=by
 unfold get at*
 simp only at*
 by_cases h0:xs.length=0
 ·rw[if_pos h0] at h
  simp at h
 rw[if_neg h0] at h ⊢
 by_cases h1:(xs.getD 0 0).toNat=0
 ·rw[if_pos h1]
  simp[Head.none]
 rw[if_neg h1] at h ⊢
 by_cases h2:(xs.getD 0 0).toNat≤2
 ·rw[if_pos h2] at h ⊢
  by_cases h3:xs.length<3
  ·rw[if_pos h3] at h
   simp at h
  ·rw[if_neg h3]
   simp only
   exact⟨fun _=>by omega,by simp⟩
 rw[if_neg h2] at h ⊢
 by_cases h3:(xs.getD 0 0).toNat<128
 ·rw[if_pos h3] at h
  simp at h
 rw[if_neg h3] at h ⊢
 by_cases h4:xs.length<5
 ·rw[if_pos h4] at h
  simp at h
 rw[if_neg h4] at h ⊢
 by_cases h5:((xs.getD 0 0).toNat-128)/32<2
 ·rw[if_pos h5]
  simp only
  exact⟨fun _=>by omega,fun _=>by omega⟩
 rw[if_neg h5] at h ⊢
 by_cases h6:xs.length<6
 ·rw[if_pos h6] at h
  simp at h
 rw[if_neg h6] at h ⊢
 by_cases h7:St.bytePropsOk (xs.getD 5 0).toNat=true
 ·rw[if_pos h7]
  simp only
  exact⟨fun _=>by omega,fun _=>by omega⟩
 ·rw[if_neg h7] at h
  simp at h
structure NextOk(b:List UInt8)(s:Sr)(h:Head)(part:List UInt8)(fr:Nat)(s2:Sr):Prop where
 at2:s2.at'=fr+h.packed
 more:s.at'<fr
 le:s2.at'≤b.length
 plain:s2.plain=s.plain+h.size
 eq:part=(b.drop fr).take h.packed
 plen:part.length=h.packed
 kind:h.kind≤6
 size:h.size≤2097152
 packed:h.packed≤65536
 props:h.lc+h.lp≤4∧h.pb≤4
 one:3≤h.kind→1≤h.size
 now:s2.now<4
theorem nextP_ok{b:List UInt8}{packed size:Int}{s s2:Sr}{h:Head}{part:List UInt8}{fr:Nat}(hn:s.now<4)(ha:s.at'≤b.length)(e:nextP b packed size s=.ok (h,part,fr,s2)):NextOk b s h part fr s2:=by
 unfold nextP at e
 split at e
 ·cases e
 ·split at e
  ·cases e
  ·rename_i hne
   split at e
   ·cases e
   ·rename_i k hk
    have hk7:=kindOf_lt (UInt8.toNat_lt _) hk
    split at e
    ·cases e
    ·rename_i hmv
     split at e
     ·cases e
     ·split at e
      ·cases e
      ·rename_i hge
       split at e
       ·cases e
       ·split at e
        ·cases e
        ·rename_i hsh
         have hge0:(get ((b.drop s.at').take 6)).2.2=0:=by simpa using hge
         have g1:=get_small ((b.drop s.at').take 6)
         have g2:=get_le_len ((b.drop s.at').take 6) hge0
         have g3:=get_pos ((b.drop s.at').take 6) hge0
         have g4:=get_sizes ((b.drop s.at').take 6) hge0
         rw[List.length_take,List.length_drop] at g2
         generalize get ((b.drop s.at').take 6)=g at*
         obtain⟨⟨gk,gs,gp,glc,glp,gpb⟩,gn,ge⟩:=g
         simp only[Except.ok.injEq,Prod.mk.injEq] at e g1 g2 g3 g4 hsh
         obtain⟨rfl,rfl,rfl,rfl⟩:=e
         have hm:=move_le ⟨s.now,hn⟩ ⟨k,hk7⟩
         simp only at hm
         refine⟨rfl,by omega,by simp only;omega,rfl,rfl,?_,g1.2.2.1,g1.1,g1.2.1,g1.2.2.2.2,g4.1,by simp only;omega⟩
         rw[List.length_take,List.length_drop]
         simp only
         omega
theorem nextP_err{b:List UInt8}{packed size:Int}{s:Sr}{p er:Nat}(e:nextP b packed size s=.error (p,er)):er≠0:=by
 unfold nextP at e
 split at e
 ·cases e;decide
 ·split at e
  ·cases e;decide
  ·split at e
   ·cases e;decide
   ·split at e
    ·cases e;decide
    ·split at e
     ·cases e;decide
     ·split at e
      ·rename_i h
       cases e
       exact h
      ·split at e
       ·cases e;decide
       ·split at e
        ·cases e;decide
        ·cases e
end Ck
namespace Ck
open Mem Wire Win
def headP(b:List UInt8)(packed size:Int)(s:Sr):Except Nat (Head×Nat×Nat):=
 if beyond packed (s.at'+1) then .error 2
 else if s.at'=b.length then .error 1
 else match kindOf (b.getD s.at' 0).toNat with
  |none=>.error 2
  |some k=>
    if move s.now k=4 then .error 2
    else if k=0∧ends packed size s.at' s.plain=false then .error 2
    else if(get ((b.drop s.at').take 6)).2.2≠0 then .error (get ((b.drop s.at').take 6)).2.2
    else if beyond packed (s.at'+(get ((b.drop s.at').take 6)).2.1+(get ((b.drop s.at').take 6)).1.packed)=true∨beyond size (s.plain+(get ((b.drop s.at').take 6)).1.size)=true then .error 2
    else .ok ((get ((b.drop s.at').take 6)).1,(get ((b.drop s.at').take 6)).2.1,move s.now k)
theorem nextP_head(b:List UInt8)(packed size:Int)(s:Sr):nextP b packed size s=match headP b packed size s with
 |.error e=>.error (s.at',e)
 |.ok (h,n,now)=>if b.length-(s.at'+n)<h.packed then .error (s.at'+n,1) else .ok (h,(b.drop (s.at'+n)).take h.packed,s.at'+n,⟨s.at'+n+h.packed,s.plain+h.size,now⟩):=by
 unfold nextP headP
 generalize get ((b.drop s.at').take 6)=g
 generalize kindOf (b.getD s.at' 0).toNat=ko
 by_cases h1:beyond packed (s.at'+1)=true
 ·rw[if_pos h1,if_pos h1]
 rw[if_neg h1,if_neg h1]
 by_cases h2:s.at'=b.length
 ·rw[if_pos h2,if_pos h2]
 rw[if_neg h2,if_neg h2]
 cases ko with
 |none=>rfl
 |some k=>
   simp only
   by_cases h3:move s.now k=4
   ·rw[if_pos h3,if_pos h3]
   rw[if_neg h3,if_neg h3]
   by_cases h4:k=0∧ends packed size s.at' s.plain=false
   ·rw[if_pos h4,if_pos h4]
   rw[if_neg h4,if_neg h4]
   by_cases h5:g.2.2≠0
   ·rw[if_pos h5,if_pos h5]
   rw[if_neg h5,if_neg h5]
   by_cases h6:beyond packed (s.at'+g.2.1+g.1.packed)=true∨beyond size (s.plain+g.1.size)=true
   ·rw[if_pos h6,if_pos h6]
   rw[if_neg h6,if_neg h6]
def readG{σ:Type}(step:σ→Head→List UInt8→Option σ)(b:List UInt8)(packed size:Int):Nat→Sr→σ→Except (Nat×Nat) (Nat×σ)
 |0,_,_=>.error (0,0)
 |f+1,s,u=>
   if s.now=3 then .ok (s.at',u)
   else match nextP b packed size s with
    |.error x=>.error x
    |.ok (h,part,fr,s2)=>match step u h part with
      |none=>.error (fr,2)
      |some u2=>readG step b packed size f s2 u2
theorem readP_G(b:List UInt8)(packed size:Int):∀(f:Nat)(s:Sr)(u:US),readP b packed size f s u=readG US.step b packed size f s u
 |0,s,u=>rfl
 |f+1,s,u=>by
   unfold readP readG
   by_cases h3:s.now=3
   ·rw[if_pos h3,if_pos h3]
   rw[if_neg h3,if_neg h3]
   cases nextP b packed size s with
   |error x=>rfl
   |ok r=>
     obtain⟨h,part,fr,s2⟩:=r
     simp only
     cases u.step h part with
     |none=>rfl
     |some u2=>exact readP_G b packed size f s2 u2
theorem readG_map{σ τ:Type}(g:σ→τ){step:σ→Head→List UInt8→Option σ}{step':τ→Head→List UInt8→Option τ}(hs:∀u h p,step' (g u) h p=(step u h p).map g)(b:List UInt8)(packed size:Int):
 ∀(f:Nat)(s:Sr)(u:σ),readG step' b packed size f s (g u)=(readG step b packed size f s u).map fun x=>(x.1,g x.2)
 |0,s,u=>rfl
 |f+1,s,u=>by
   unfold readG
   by_cases h3:s.now=3
   ·rw[if_pos h3,if_pos h3]
    rfl
   rw[if_neg h3,if_neg h3]
   cases nextP b packed size s with
   |error x=>rfl
   |ok r=>
     obtain⟨h,part,fr,s2⟩:=r
     simp only
     rw[hs]
     cases step u h part with
     |none=>rfl
     |some u2=>exact readG_map g hs b packed size f s2 u2
structure XS where
 u:US
 hs:List Head
 sy:List (List St.Sy)
def US.syms(u:US)(h:Head)(part:List UInt8):List St.Sy:=
 if h.kind≤2 then[]
 else match (if h.kind=3 then Lz.takeAll u.c u.ps part h.size else if h.kind=4 then Lz.takeAll u.reset.c u.reset.ps part h.size
  else if h.kind=5 then Lz.takeAll (u.props h).reset.c (u.props h).reset.ps part h.size else Lz.takeAll (u.clear.props h).reset.c (u.clear.props h).reset.ps part h.size) with
  |none=>[]
  |some r=>r.1
def XS.step(x:XS)(h:Head)(part:List UInt8):Option XS:=(x.u.step h part).map fun u2=>⟨u2,x.hs++[h],if h.kind=0 then x.sy else x.sy++[x.u.syms h part]⟩
def hStep(hs:List Head)(h:Head)(part:List UInt8):Option (List Head):=some (hs++[h])
theorem x_u(b:List UInt8)(packed size:Int)(f:Nat)(s:Sr)(x:XS):readP b packed size f s x.u=(readG XS.step b packed size f s x).map fun r=>(r.1,r.2.u):=by
 rw[readP_G]
 refine readG_map XS.u (fun u h p=> ?_) b packed size f s x
 unfold XS.step
 cases u.u.step h p<;>rfl
end Ck
end Go.Proofs.YtilegoadokmcdaaGreatDoor
