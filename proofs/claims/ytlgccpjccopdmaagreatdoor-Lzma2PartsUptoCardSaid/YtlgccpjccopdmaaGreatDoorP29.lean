/- Part 29 of 55: lemmas of the last part, each under the conditions that it names. -/
import Derived.Test.YtlgccpjccopdmaaGreatDoorP19
import Derived.Test.YtlgccpjccopdmaaGreatDoorP23
import Derived.Test.YtlgccpjccopdmaaGreatDoorP28
set_option linter.unusedVariables false
set_option linter.unusedSimpArgs false
set_option maxRecDepth 1500
namespace Go.Proofs.YtlgccpjccopdmaaGreatDoor
open Go.RowKit
namespace Ck
open Mem Wire Win
theorem unpack1_calls(w0 w:World)(dB prB fB Vb:Nat)(l:Lz.L)(ov:Value)(u:US)(hU:UAt w0 w dB prB fB Vb l ov u)(h:Head)(hk:h.kind≤6)(part:List UInt8)(pv:Value)(hr:Rd w pv part)(hpv:0<part.length→∀k,pv.ownBlock=some k→k<w0.heap.size)(hok:h.lc+h.lp≤4∧h.pb≤4)(hs:3≤h.kind→1≤h.size∧h.size≤2097152)
 (hp:part.length≤1099511627776)(hm:u.c.all.length+part.length+h.size≤1152921504606840000)(ho:u.out.length+part.length+h.size≤70368744177664):
 Calls Tryz.prog 86 #[.agg h.cells,pv,Lz.ptr dB,Lz.ptr prB,Lz.ptr fB] w (UPost w0 w dB prB fB Vb l ov (u.step h part)):=by
 obtain h0|h0|h0|h0|h0|h0|h0:h.kind=0∨h.kind=1∨h.kind=2∨h.kind=3∨h.kind=4∨h.kind=5∨h.kind=6:=by omega
 ·exact unpack1_k0 w0 w dB prB fB Vb l ov u hU h h0 part pv hr hpv hok hs hp hm ho
 ·exact unpack1_k1 w0 w dB prB fB Vb l ov u hU h h0 part pv hr hpv hok hs hp hm ho
 ·exact unpack1_k2 w0 w dB prB fB Vb l ov u hU h h0 part pv hr hpv hok hs hp hm ho
 ·exact unpack1_k3 w0 w dB prB fB Vb l ov u hU h h0 part pv hr hpv hok hs hp hm ho
 ·exact unpack1_k4 w0 w dB prB fB Vb l ov u hU h h0 part pv hr hpv hok hs hp hm ho
 ·exact unpack1_k5 w0 w dB prB fB Vb l ov u hU h h0 part pv hr hpv hok hs hp hm ho
 ·exact unpack1_k6 w0 w dB prB fB Vb l ov u hU h h0 part pv hr hpv hok hs hp hm ho
def readP(b:List UInt8)(packed size:Int):Nat→Sr→US→Except (Nat×Nat) (Nat×US)
 |0,_,_=>.error (0,0)
 |f+1,s,u=>
   if s.now=3 then .ok (s.at',u)
   else match nextP b packed size s with
    |.error x=>.error x
    |.ok (h,part,fr,s2)=>match u.step h part with
      |none=>.error (fr,2)
      |some u2=>readP b packed size f s2 u2
theorem get_pos(xs:List UInt8)(h:(get xs).2.2=0):1≤(get xs).2.1:=by
 unfold get at*
 simp only at*
 by_cases h0:xs.length=0
 ·rw[if_pos h0] at h
  simp at h
 rw[if_neg h0] at h ⊢
 by_cases h1:(xs.getD 0 0).toNat=0
 ·rw[if_pos h1]
  exact Nat.le_refl 1
 rw[if_neg h1] at h ⊢
 by_cases h2:(xs.getD 0 0).toNat≤2
 ·rw[if_pos h2] at h ⊢
  by_cases h3:xs.length<3
  ·rw[if_pos h3] at h
   simp at h
  ·rw[if_neg h3]
   simp only
   omega
 rw[if_neg h2] at h ⊢
 by_cases h3:(xs.getD 0 0).toNat<128
 ·rw[if_pos h3] at h
  simp at h
 rw[if_neg h3] at h ⊢
 by_cases h4:xs.length<5
 ·rw[if_pos h4] at h
  simp at h
 rw[if_neg h4] at h ⊢
 by_cases h5:((xs.getD 0 0).toNat-128)/32<2
 ·rw[if_pos h5]
  simp only
  omega
 rw[if_neg h5] at h ⊢
 by_cases h6:xs.length<6
 ·rw[if_pos h6] at h
  simp at h
 rw[if_neg h6] at h ⊢
 by_cases h7:St.bytePropsOk (xs.getD 5 0).toNat=true
 ·rw[if_pos h7]
  simp only
  omega
 ·rw[if_neg h7] at h
  simp at h
theorem get_sizes(xs:List UInt8)(h:(get xs).2.2=0):(3≤(get xs).1.kind→1≤(get xs).1.size)∧((get xs).1.kind<3→(get xs).1.size=(get xs).1.packed):=by
 unfold get at*
 simp only at*
 by_cases h0:xs.length=0
 ·rw[if_pos h0] at h
  simp at h
 rw[if_neg h0] at h ⊢
 by_cases h1:(xs.getD 0 0).toNat=0
 ·rw[if_pos h1]
  simp[Head.none]
 rw[if_neg h1] at h ⊢
 by_cases h2:(xs.getD 0 0).toNat≤2
 ·rw[if_pos h2] at h ⊢
  by_cases h3:xs.length<3
  ·rw[if_pos h3] at h
   simp at h
  ·rw[if_neg h3]
   simp only
   exact⟨fun _=>by omega,by simp⟩
 rw[if_neg h2] at h ⊢
 by_cases h3:(xs.getD 0 0).toNat<128
 ·rw[if_pos h3] at h
  simp at h
 rw[if_neg h3] at h ⊢
 by_cases h4:xs.length<5
 ·rw[if_pos h4] at h
  simp at h
 rw[if_neg h4] at h ⊢
 by_cases h5:((xs.getD 0 0).toNat-128)/32<2
 ·rw[if_pos h5]
  simp only
  exact⟨fun _=>by omega,fun _=>by omega⟩
 rw[if_neg h5] at h ⊢
 by_cases h6:xs.length<6
 ·rw[if_pos h6] at h
  simp at h
 rw[if_neg h6] at h ⊢
 by_cases h7:St.bytePropsOk (xs.getD 5 0).toNat=true
 ·rw[if_pos h7]
  simp only
  exact⟨fun _=>by omega,fun _=>by omega⟩
 ·rw[if_neg h7] at h
  simp at h
structure NextOk(b:List UInt8)(s:Sr)(h:Head)(part:List UInt8)(fr:Nat)(s2:Sr):Prop where
 at2:s2.at'=fr+h.packed
 more:s.at'<fr
 le:s2.at'≤b.length
 plain:s2.plain=s.plain+h.size
 eq:part=(b.drop fr).take h.packed
 plen:part.length=h.packed
 kind:h.kind≤6
 size:h.size≤2097152
 packed:h.packed≤65536
 props:h.lc+h.lp≤4∧h.pb≤4
 one:3≤h.kind→1≤h.size
 now:s2.now<4
theorem nextP_ok{b:List UInt8}{packed size:Int}{s s2:Sr}{h:Head}{part:List UInt8}{fr:Nat}(hn:s.now<4)(ha:s.at'≤b.length)(e:nextP b packed size s=.ok (h,part,fr,s2)):NextOk b s h part fr s2:=by
 unfold nextP at e
 split at e
 ·cases e
 ·split at e
  ·cases e
  ·rename_i hne
   split at e
   ·cases e
   ·rename_i k hk
    have hk7:=kindOf_lt (UInt8.toNat_lt _) hk
    split at e
    ·cases e
    ·rename_i hmv
     split at e
     ·cases e
     ·split at e
      ·cases e
      ·rename_i hge
       split at e
       ·cases e
       ·split at e
        ·cases e
        ·rename_i hsh
         have hge0:(get ((b.drop s.at').take 6)).2.2=0:=by simpa using hge
         have g1:=get_small ((b.drop s.at').take 6)
         have g2:=get_le_len ((b.drop s.at').take 6) hge0
         have g3:=get_pos ((b.drop s.at').take 6) hge0
         have g4:=get_sizes ((b.drop s.at').take 6) hge0
         rw[List.length_take,List.length_drop] at g2
         generalize get ((b.drop s.at').take 6)=g at*
         obtain⟨⟨gk,gs,gp,glc,glp,gpb⟩,gn,ge⟩:=g
         simp only[Except.ok.injEq,Prod.mk.injEq] at e g1 g2 g3 g4 hsh
         obtain⟨rfl,rfl,rfl,rfl⟩:=e
         have hm:=move_le ⟨s.now,hn⟩ ⟨k,hk7⟩
         simp only at hm
         refine⟨rfl,by omega,by simp only;omega,rfl,rfl,?_,g1.2.2.1,g1.1,g1.2.1,g1.2.2.2.2,g4.1,by simp only;omega⟩
         rw[List.length_take,List.length_drop]
         simp only
         omega
theorem nextP_err{b:List UInt8}{packed size:Int}{s:Sr}{p er:Nat}(e:nextP b packed size s=.error (p,er)):er≠0:=by
 unfold nextP at e
 split at e
 ·cases e;decide
 ·split at e
  ·cases e;decide
  ·split at e
   ·cases e;decide
   ·split at e
    ·cases e;decide
    ·split at e
     ·cases e;decide
     ·split at e
      ·rename_i h
       cases e
       exact h
      ·split at e
       ·cases e;decide
       ·split at e
        ·cases e;decide
        ·cases e
end Ck
namespace En
open Mem Ck
def headB(h:Head):List UInt8:=
 if h.kind=0 then[0]
 else if h.kind≤2 then[UInt8.ofNat h.kind,UInt8.ofNat ((h.size-1)/256),UInt8.ofNat ((h.size-1)%256)]
 else[UInt8.ofNat (128+32*(h.kind-3)+(h.size-1)/65536),UInt8.ofNat ((h.size-1)/256%256),UInt8.ofNat ((h.size-1)%256),UInt8.ofNat ((h.packed-1)/256),UInt8.ofNat ((h.packed-1)%256)]++
  (if h.kind<5 then[] else[UInt8.ofNat ((5*h.pb+h.lp)*9+h.lc)])
end En
namespace En
open Mem Rc St Lz Ck Wire
theorem split3(n:Nat)(h:1≤n):(n-1)/65536*65536+((n-1)/256%256*256+(n-1)%256)+1=n:=by omega
theorem split2(n:Nat)(h:1≤n):(n-1)/256*256+(n-1)%256+1=n:=by omega
structure HeadOk(h:Head):Prop where
 kind:1≤h.kind∧h.kind≤6
 raw:h.kind≤2→1≤h.size∧h.size≤65536∧h.packed=h.size
 packed:3≤h.kind→1≤h.size∧h.size≤2097152∧1≤h.packed∧h.packed≤65536
 props:h.lc+h.lp≤4∧h.pb≤4
 none:h.kind<5→h.lc=0∧h.lp=0∧h.pb=0
theorem toN{x:Nat}(h:x<256):(UInt8.ofNat x).toNat=x:=by rw[UInt8.toNat_ofNat'];omega
theorem props_back:∀pb:Fin 5,∀lc:Fin 5,∀lp:Fin 5,lc.val+lp.val≤4→bytePropsOk ((5*pb.val+lp.val)*9+lc.val)=true∧((5*pb.val+lp.val)*9+lc.val)%9=lc.val∧((5*pb.val+lp.val)*9+lc.val)/9%5=lp.val∧((5*pb.val+lp.val)*9+lc.val)/45=pb.val∧(5*pb.val+lp.val)*9+lc.val<256:=by decide+kernel
theorem beV_two(a b c:UInt8)(t:List UInt8):beV (a::b::t) 2=a.toNat*256+b.toNat:=by simp[beV]
theorem get_head{h:Head}(hh:HeadOk h)(t:List UInt8)(ht:1≤t.length):Ck.get ((headB h++t).take 6)=(h,(headB h).length,0)∧kindOf ((headB h++t).getD 0 0).toNat=some h.kind:=by
 obtain⟨⟨k1,k2⟩,hr,hp,⟨q1,q2⟩,hn⟩:=hh
 obtain⟨kind,size,packed,lc,lp,pb⟩:=h
 simp only at*
 by_cases hk:kind≤2
 ·obtain⟨r1,r2,rfl⟩:=hr hk
  obtain⟨rfl,rfl,rfl⟩:=hn (by omega)
  have e:headB ⟨kind,packed,packed,0,0,0⟩=[UInt8.ofNat kind,UInt8.ofNat ((packed-1)/256),UInt8.ofNat ((packed-1)%256)]:=by
   unfold headB
   rw[if_neg (by simp only;omega),if_pos hk]
  rw[e]
  have hl:3≤(([UInt8.ofNat kind,UInt8.ofNat ((packed-1)/256),UInt8.ofNat ((packed-1)%256)]++t).take 6).length:=by simp
  obtain⟨t',ht'⟩:∃t',([UInt8.ofNat kind,UInt8.ofNat ((packed-1)/256),UInt8.ofNat ((packed-1)%256)]++t).take 6=UInt8.ofNat kind::UInt8.ofNat ((packed-1)/256)::UInt8.ofNat ((packed-1)%256)::t':=⟨t.take 3,by simp⟩
  rw[ht'] at hl ⊢
  refine⟨?_,?_⟩
  ·unfold Ck.get
   simp only[List.getD_cons_zero,toN (show kind<256 by omega),List.drop_succ_cons,List.drop_zero]
   rw[if_neg (by simp),if_neg (by omega),if_pos hk,if_neg (by simp),beV_two _ _ 0,toN (by omega),toN (by omega),show(packed-1)/256*256+(packed-1)%256+1=packed by omega]
   rfl
  ·simp only[List.cons_append,List.getD_cons_zero,toN (show kind<256 by omega)]
   unfold kindOf
   rw[if_pos hk]
 ·obtain⟨r1,r2,r3,r4⟩:=hp (by omega)
  have hx:128+32*(kind-3)+(size-1)/65536<256:=by omega
  have hm32:(size-1)/65536<32:=by omega
  have hx2:(128+32*(kind-3)+(size-1)/65536-128)/32=kind-3:=by generalize(size-1)/65536=m at*;clear hr hp hn;omega
  have hx3:(128+32*(kind-3)+(size-1)/65536)%32=(size-1)/65536:=by generalize(size-1)/65536=m at*;clear hr hp hn;omega
  have hsz:(size-1)/65536*65536+((size-1)/256%256*256+(size-1)%256)+1=size:=split3 size r1
  have hpk:(packed-1)/256*256+(packed-1)%256+1=packed:=split2 packed r3
  have hkd:3+(128+32*(kind-3)+(size-1)/65536-128)/32=kind:=by rw[hx2];omega
  obtain⟨t',ht',h5⟩:∃t',(headB ⟨kind,size,packed,lc,lp,pb⟩++t).take 6=UInt8.ofNat (128+32*(kind-3)+(size-1)/65536)::UInt8.ofNat ((size-1)/256%256)::UInt8.ofNat ((size-1)%256)::UInt8.ofNat ((packed-1)/256)::UInt8.ofNat ((packed-1)%256)::t'∧
   (kind<5∧(headB ⟨kind,size,packed,lc,lp,pb⟩).length=5∨5≤kind∧(headB ⟨kind,size,packed,lc,lp,pb⟩).length=6∧t'=[UInt8.ofNat ((5*pb+lp)*9+lc)]):=by
   unfold headB
   rw[if_neg (by simp only;omega),if_neg hk]
   by_cases h5:kind<5
   ·rw[if_pos h5]
    exact⟨t.take 1,by simp,.inl ⟨h5,rfl⟩⟩
   ·rw[if_neg h5]
    exact⟨_,by simp,.inr ⟨by omega,rfl,rfl⟩⟩
  refine⟨?_,?_⟩
  ·rw[ht']
   unfold Ck.get
   simp only[List.getD_cons_zero,toN hx,List.drop_succ_cons,List.drop_zero]
   rw[if_neg (by simp),if_neg (by omega),if_neg (by omega),if_neg (by omega),if_neg (by simp),beV_two _ _ 0,beV_two _ _ 0,toN (by omega),toN (by omega),toN (by omega),toN (by omega),hx3,hsz,hpk,hkd,hx2]
   rcases h5 with⟨h5,hl⟩|⟨h5,hl,rfl⟩
   ·rw[if_pos (by omega),hl]
    obtain⟨rfl,rfl,rfl⟩:=hn h5
    rfl
   ·obtain⟨p1,p2,p3,p4,p5⟩:=props_back ⟨pb,by omega⟩ ⟨lc,by omega⟩ ⟨lp,by omega⟩ q1
    simp only at p1 p2 p3 p4 p5
    rw[if_neg (by omega),if_neg (by simp)]
    simp only[List.getD_cons_succ,List.getD_cons_zero,toN p5,p1,p2,p3,p4,if_true,hl]
  ·have e:(headB ⟨kind,size,packed,lc,lp,pb⟩++t).getD 0 0=UInt8.ofNat (128+32*(kind-3)+(size-1)/65536):=by
    unfold headB
    rw[if_neg (by simp only;omega),if_neg hk]
    rfl
   rw[e,toN hx]
   unfold kindOf
   rw[if_neg (by omega),if_neg (by omega)]
   congr 1
   omega
abbrev Chk:=Head×List UInt8
def rowB:List Chk→List UInt8
 |[]=>[]
 |p::l=>headB p.1++(p.2++rowB l)
def fold{U:Type}(F:U→Head→List UInt8→Option U):List Chk→U→Option U
 |[],u=>some u
 |p::l,u=>(F u p.1 p.2).bind (fold F l)
def moves:List Chk→Nat→Prop
 |[],_=>True
 |p::l,now=>HeadOk p.1∧p.2.length=p.1.packed∧Ck.move now p.1.kind<3∧moves l (Ck.move now p.1.kind)
def readE{U:Type}(F:U→Head→List UInt8→Option U)(b:List UInt8)(packed size:Int):Nat→Sr→U→Except (Nat×Nat) (Nat×U)
 |0,_,_=>.error (0,0)
 |f+1,s,u=>
   if s.now=3 then .ok (s.at',u)
   else match nextP b packed size s with
    |.error x=>.error x
    |.ok (h,part,fr,s2)=>match F u h part with
      |none=>.error (fr,2)
      |some u2=>readE F b packed size f s2 u2
theorem readP_E(b:List UInt8)(packed size:Int):∀(f:Nat)(s:Sr)(u:US),readP b packed size f s u=readE US.step b packed size f s u
 |0,s,u=>rfl
 |f+1,s,u=>by
   unfold readP readE
   split
   ·rfl
   cases nextP b packed size s with
   |error x=>rfl
   |ok r=>
     obtain⟨h,part,fr,s2⟩:=r
     simp only
     cases u.step h part with
     |none=>rfl
     |some u2=>exact readP_E b packed size f s2 u2
theorem beyond_no(n:Nat):beyond (-1) n=false:=by unfold beyond;simp
theorem next_one{b:List UInt8}{s:Sr}{h:Head}{part more:List UInt8}(hh:HeadOk h)(hp:part.length=h.packed)(hb:b.drop s.at'=headB h++(part++more))(hm:Ck.move s.now h.kind≠4):
 nextP b (-1) (-1) s=.ok (h,part,s.at'+(headB h).length,⟨s.at'+(headB h).length+h.packed,s.plain+h.size,Ck.move s.now h.kind⟩):=by
 have hpos:1≤part.length:=by
  rw[hp]
  rcases Nat.lt_or_ge h.kind 3 with k|k
  ·have:=hh.raw (by omega);omega
  ·exact(hh.packed k).2.2.1
 obtain⟨g1,g2⟩:=get_head hh (part++more) (by rw[List.length_append];omega)
 rw[←hb] at g1 g2
 have hlen:=congrArg List.length hb
 rw[List.length_drop,List.length_append,List.length_append] at hlen
 have g3:(b.drop s.at').getD 0 0=b.getD s.at' 0:=by rw[List.getD_eq_getElem?_getD,List.getD_eq_getElem?_getD,List.getElem?_drop,Nat.add_zero]
 rw[g3] at g2
 unfold nextP
 rw[beyond_no,if_neg (by decide),if_neg (by omega),g2]
 simp only
 rw[if_neg hm,if_neg (by have:=hh.kind;omega),g1]
 simp only[beyond_no]
 rw[if_neg (by simp),if_neg (by simp),if_neg (by omega),←List.drop_drop,hb,List.drop_left,List.take_append_of_le_length (by omega),List.take_of_length_le (by omega)]
theorem next_end{b:List UInt8}{s:Sr}{more:List UInt8}(hb:b.drop s.at'=0::more)(hn:s.now<3):
 nextP b (-1) (-1) s=.ok (Head.none,[],s.at'+1,⟨s.at'+1,s.plain,3⟩):=by
 have hlen:=congrArg List.length hb
 rw[List.length_drop,List.length_cons] at hlen
 have g3:(b.drop s.at').getD 0 0=b.getD s.at' 0:=by rw[List.getD_eq_getElem?_getD,List.getD_eq_getElem?_getD,List.getElem?_drop,Nat.add_zero]
 have g1:Ck.get ((b.drop s.at').take 6)=(Head.none,1,0):=by
  rw[hb]
  rfl
 have hm:Ck.move s.now 0=3:=by
  have:∀a:Fin 3,Ck.move a 0=3:=by decide
  exact this ⟨s.now,hn⟩
 rw[hb] at g3
 unfold nextP
 rw[beyond_no,if_neg (by decide),if_neg (by omega),←g3]
 simp only[List.getD_cons_zero]
 rw[show kindOf (0:UInt8).toNat=some 0 from rfl]
 simp only
 rw[hm,if_neg (by decide),if_neg (by unfold ends;simp),g1]
 simp only[beyond_no]
 rw[if_neg (by simp),if_neg (by simp),if_neg (show¬b.length-(s.at'+1)<Head.none.packed by simp[Head.none])]
 rfl
theorem rowB_len{l:List Chk}{now:Nat}(h:moves l now):l.length≤(rowB l).length:=by
 induction l generalizing now with
 |nil=>exact Nat.zero_le _
 |cons p l ih=>
   have h4:=ih h.2.2.2
   have hk:=h.1
   have hp:=h.2.1
   have hpos:1≤p.2.length:=by
    rw[hp]
    rcases Nat.lt_or_ge p.1.kind 3 with k|k
    ·have:=hk.raw (by omega);omega
    ·exact(hk.packed k).2.2.1
   rw[rowB,List.length_append,List.length_append,List.length_cons]
   omega
theorem read_row{U:Type}(F:U→Head→List UInt8→Option U)(b behind:List UInt8):∀(l:List Chk)(f:Nat)(s:Sr)(u u2 u3:U),moves l s.now→s.now<3→b.drop s.at'=rowB l++0::behind→fold F l u=some u2→F u2 Head.none []=some u3→l.length+2≤f→
 readE F b (-1) (-1) f s u=.ok (s.at'+(rowB l).length+1,u3)
 |[],f,s,u,u2,u3,hm,hn,hb,hf,h3,hq=>by
   obtain⟨f,rfl⟩:∃g,f=g+2:=⟨f-2,by simp at hq;omega⟩
   simp only[fold,Option.some.injEq] at hf
   subst hf
   rw[readE,if_neg (by omega),next_end hb hn]
   simp only[h3]
   rw[readE,if_pos rfl]
   rfl
 |p::l,f,s,u,u2,u3,hm,hn,hb,hf,h3,hq=>by
   obtain⟨f,rfl⟩:∃g,f=g+1:=⟨f-1,by simp at hq;omega⟩
   obtain⟨m1,m2,m3,m4⟩:=hm
   rw[rowB,List.append_assoc,List.append_assoc] at hb
   have hx:=next_one m1 m2 hb (by omega)
   simp only[fold] at hf
   cases hF:F u p.1 p.2 with
   |none=>rw[hF] at hf;cases hf
   |some v=>
     rw[hF,Option.bind_some] at hf
     have hb2:b.drop (s.at'+(headB p.1).length+p.1.packed)=rowB l++0::behind:=by
      rw[←List.drop_drop,←List.drop_drop,hb,List.drop_left,←m2,List.drop_left]
     have ih:=read_row F b behind l f ⟨s.at'+(headB p.1).length+p.1.packed,s.plain+p.1.size,Ck.move s.now p.1.kind⟩ v u2 u3 m4 m3 hb2 hf h3 (by simp at hq;omega)
     rw[readE,if_neg (by omega),hx]
     simp only[hF]
     rw[ih,rowB,List.length_append,List.length_append,m2]
     simp only[Except.ok.injEq,Prod.mk.injEq,and_true]
     omega
end En
end Go.Proofs.YtlgccpjccopdmaaGreatDoor
