/- Part 22 of 54: lemmas of the last part, each under the conditions that it names. -/
import Derived.Lib.ItoaNum
import Derived.Test.YtffoddpjfgjelaaGreatDoorK17
set_option linter.unusedVariables false
set_option linter.unusedSimpArgs false
set_option maxRecDepth 1500
namespace Go.Proofs.YtffoddpjfgjelaaGreatDoor
open Go.RowKit
namespace Rf
open Mem
def dig(n:Nat):List UInt8:=if n<10 then[UInt8.ofNat (48+n)] else[UInt8.ofNat (48+n/10),UInt8.ofNat (48+n%10)]
theorem dig_eq(n:Nat)(h:n<100):Lib.decDigits n=dig n:=by
 unfold dig;by_cases a:n<10
 ·rw[if_pos a,Lib.decDigits_one a]
 ·rw[if_neg a,Lib.decDigits_two a h]
def num(s:List UInt8)(n:Nat):List UInt8:=s++32::dig n
structure Nm where
 str:List UInt8
 j:Nat
 o:Nat
 len:Nat
def sIsMatch:List UInt8:=[73,115,77,97,116,99,104]
def sIsLong:List UInt8:=[73,115,76,111,110,103]
def sIsRep:List UInt8:=[73,115,82,101,112]
def sIsRep0:List UInt8:=[73,115,82,101,112,48]
def sIsRep1:List UInt8:=[73,115,82,101,112,49]
def sIsRep2:List UInt8:=[73,115,82,101,112,50]
def sLiteral:List UInt8:=[76,105,116,101,114,97,108]
def sMatch:List UInt8:=[77,97,116,99,104]
def sRep:List UInt8:=[82,101,112]
def sChoice:List UInt8:=[32,67,104,111,105,99,101]
def sChoice2:List UInt8:=[32,67,104,111,105,99,101,50]
def sLow:List UInt8:=[32,76,111,119]
def sMid:List UInt8:=[32,77,105,100]
def sHigh:List UInt8:=[32,72,105,103,104]
def sSlot:List UInt8:=[83,108,111,116]
def sRest:List UInt8:=[82,101,115,116]
def sAlign:List UInt8:=[65,108,105,103,110]
def coder(q:Nat):List UInt8:=if q=7 then sMatch else sRep
def nIsMatch(n p:Nat):Nm:=⟨num (num sIsMatch n) p,0,n*16+p,1⟩
def nIsLong(n p:Nat):Nm:=⟨num (num sIsLong n) p,1,n*16+p,1⟩
def nIsRep(n:Nat):Nm:=⟨num sIsRep n,2,n,1⟩
def nIsRep0(n:Nat):Nm:=⟨num sIsRep0 n,3,n,1⟩
def nIsRep1(n:Nat):Nm:=⟨num sIsRep1 n,4,n,1⟩
def nIsRep2(n:Nat):Nm:=⟨num sIsRep2 n,5,n,1⟩
def nLiteral(k:Nat):Nm:=⟨num sLiteral k,6,768*k,768⟩
def nChoice(q:Nat):Nm:=⟨coder q++sChoice,q,0,1⟩
def nChoice2(q:Nat):Nm:=⟨coder q++sChoice2,q,1,1⟩
def nLow(q p:Nat):Nm:=⟨num (coder q++sLow) p,q+1,8*p,8⟩
def nMid(q p:Nat):Nm:=⟨num (coder q++sMid) p,q+2,8*p,8⟩
def nHigh(q:Nat):Nm:=⟨coder q++sHigh,q+3,0,256⟩
def nSlot(k:Nat):Nm:=⟨num sSlot k,15,64*k,64⟩
def nRest(s:Nat):Nm:=⟨num sRest s,16,Lz.restAt s,2^(St.range s).2⟩
def nAlign:Nm:=⟨sAlign,17,0,16⟩
def codeNames(q:Nat):List Nm:=nChoice q::nChoice2 q::nHigh q::((List.range 16).map (nLow q)++(List.range 16).map (nMid q))
def names:List Nm:=
 (List.range 12).flatMap (fun n=>(List.range 16).map (nIsMatch n))++((List.range 12).flatMap (fun n=>(List.range 16).map (nIsLong n))++
 ((List.range 12).map nIsRep++((List.range 12).map nIsRep0++((List.range 12).map nIsRep1++((List.range 12).map nIsRep2++((List.range 16).map nLiteral++
 (codeNames 7++(codeNames 11++((List.range 4).map nSlot++((List.range 10).map (fun i=>nRest (i+4))++[nAlign]))))))))))
def code:List UInt8→Nat
 |[]=>0
 |x::xs=>code xs*257+x.toNat+1
theorem code_inj:∀(a b:List UInt8),code a=code b→a=b
 |[],[],_=>rfl
 |[],x::xs,h=>by
   unfold code at h;have:=UInt8.toNat_lt x;omega
 |x::xs,[],h=>by
   unfold code at h;have:=UInt8.toNat_lt x;omega
 |x::xs,y::ys,h=>by
   simp only[code] at h;have e:=UInt8.toNat_lt x;have f:=UInt8.toNat_lt y;have c:code xs=code ys:=by omega
   have d:x.toNat=y.toNat:=by omega
   rw[code_inj xs ys c,UInt8.toNat_inj.1 d]
def apartB(a b:Nm):Bool:=(code a.str==code b.str)|| !(a.j==b.j)||decide (a.o+a.len≤b.o)||decide (b.o+b.len≤a.o)
def oneB(a b:Nm):Bool:= !(code a.str==code b.str)
def pairsB(f:Nm→Nm→Bool):List Nm→Bool
 |[]=>true
 |x::xs=>xs.all (f x)&&pairsB f xs
theorem pairsB_at{f:Nm→Nm→Bool}:∀{l:List Nm},pairsB f l=true→l.Pairwise (fun a b=>f a b=true)
 |[],_=>List.Pairwise.nil
 |x::xs,h=>by
   simp only[pairsB,Bool.and_eq_true,List.all_eq_true] at h;exact List.Pairwise.cons h.1 (pairsB_at h.2)
theorem names_one:pairsB oneB names=true:=by kernel_rfl
theorem names_apart:pairsB apartB names=true:=by kernel_rfl
theorem names_bound:names.all (fun a=>decide (a.len≤768)&&decide (a.j<18))=true:=by kernel_rfl
end Rf
namespace Rf
open Mem
theorem pairs_inj{f:Nm→Nm→Bool}:∀{l:List Nm},l.Pairwise (fun a b=>f a b=true)→∀a ∈ l,∀b ∈ l,a=b∨f a b=true∨f b a=true
 |[],_,a,ha,_,_=>by simp at ha
 |x::xs,h,a,ha,b,c=>by
   obtain⟨e,g⟩:=List.pairwise_cons.1 h;rcases List.mem_cons.1 ha with rfl|d
   ·rcases List.mem_cons.1 c with rfl|c
    ·exact .inl rfl
    ·exact .inr (.inl (e b c))
   ·rcases List.mem_cons.1 c with rfl|c
    ·exact .inr (.inr (e a d))
    ·exact pairs_inj g a d b c
theorem name_inj{a b:Nm}(d:a ∈ names)(e:b ∈ names)(h:a.str=b.str):a=b:=by
 rcases pairs_inj (pairsB_at names_one) a d b e with c|c|c
 ·exact c
 ·simp[oneB,h] at c
 ·simp[oneB,h] at c
theorem name_apart{a b:Nm}(f:a ∈ names)(g:b ∈ names)(h:a.str≠b.str):a.j≠b.j∨a.o+a.len≤b.o∨b.o+b.len≤a.o:=by
 have i:code a.str≠code b.str:=fun e=>h (code_inj _ _ e);have d:code b.str≠code a.str:=fun e=>h (code_inj _ _ e).symm;rcases pairs_inj (pairsB_at names_apart) a f b g with c|c|c
 ·exact absurd (by rw[c]) h
 ·simp only[apartB,Bool.or_eq_true,Bool.not_eq_true',beq_eq_false_iff_ne,beq_iff_eq,decide_eq_true_eq] at c
  rcases c with((c|c)|c)|c
  ·exact absurd c i
  ·exact .inl c
  ·exact .inr (.inl c)
  ·exact .inr (.inr c)
 ·simp only[apartB,Bool.or_eq_true,Bool.not_eq_true',beq_eq_false_iff_ne,beq_iff_eq,decide_eq_true_eq] at c
  rcases c with((c|c)|c)|c
  ·exact absurd c d
  ·exact .inl (fun e=>c e.symm)
  ·exact .inr (.inr c)
  ·exact .inr (.inl c)
theorem name_small{a:Nm}(b:a ∈ names):a.len≤768∧a.j<18:=by
 have h:=List.all_eq_true.1 names_bound a b;simpa using h
theorem names_count:names.length=533:=by kernel_rfl
theorem count_le:∀(l L:List (List UInt8)),l.Nodup→(∀x ∈ l,x ∈ L)→l.length≤L.length
 |[],L,_,_=>by simp
 |x::xs,L,h,hm=>by
   obtain⟨c,d⟩:=List.nodup_cons.1 h;have a:=hm x (by simp);have e:=count_le xs (L.erase x) d (fun y b=>(List.mem_erase_of_ne (by rintro rfl;exact c b)).2 (hm y (by simp[b])));rw[List.length_erase_of_mem a] at e;have:=List.length_pos_of_mem a;rw[List.length_cons];omega
theorem mem_isMatch{n p:Nat}(a:n<12)(b:p<16):nIsMatch n p ∈ names:=List.mem_append.2 (.inl (List.mem_flatMap.2 ⟨n,List.mem_range.2 a,List.mem_map.2 ⟨p,List.mem_range.2 b,rfl⟩⟩))
theorem mem_isLong{n p:Nat}(a:n<12)(b:p<16):nIsLong n p ∈ names:=List.mem_append.2 (.inr (List.mem_append.2 (.inl (List.mem_flatMap.2 ⟨n,List.mem_range.2 a,List.mem_map.2 ⟨p,List.mem_range.2 b,rfl⟩⟩))))
theorem mem_isRep{n:Nat}(a:n<12):nIsRep n ∈ names:=List.mem_append.2 (.inr (List.mem_append.2 (.inr (List.mem_append.2 (.inl (List.mem_map.2 ⟨n,List.mem_range.2 a,rfl⟩))))))
theorem mem_isRep0{n:Nat}(a:n<12):nIsRep0 n ∈ names:=List.mem_append.2 (.inr (List.mem_append.2 (.inr (List.mem_append.2 (.inr (List.mem_append.2 (.inl (List.mem_map.2 ⟨n,List.mem_range.2 a,rfl⟩))))))))
theorem mem_isRep1{n:Nat}(a:n<12):nIsRep1 n ∈ names:=List.mem_append.2 (.inr (List.mem_append.2 (.inr (List.mem_append.2 (.inr (List.mem_append.2 (.inr (List.mem_append.2 (.inl (List.mem_map.2 ⟨n,List.mem_range.2 a,rfl⟩))))))))))
theorem mem_isRep2{n:Nat}(a:n<12):nIsRep2 n ∈ names:=List.mem_append.2 (.inr (List.mem_append.2 (.inr (List.mem_append.2 (.inr (List.mem_append.2 (.inr (List.mem_append.2 (.inr (List.mem_append.2 (.inl (List.mem_map.2 ⟨n,List.mem_range.2 a,rfl⟩))))))))))))
theorem mem_literal{k:Nat}(a:k<16):nLiteral k ∈ names:=List.mem_append.2 (.inr (List.mem_append.2 (.inr (List.mem_append.2 (.inr (List.mem_append.2 (.inr (List.mem_append.2 (.inr (List.mem_append.2 (.inr (List.mem_append.2 (.inl (List.mem_map.2 ⟨k,List.mem_range.2 a,rfl⟩))))))))))))))
theorem mem_rest7{a:Nm}(h:a ∈ codeNames 7++(codeNames 11++((List.range 4).map nSlot++((List.range 10).map (fun i=>nRest (i+4))++[nAlign])))):a ∈ names:=
 List.mem_append.2 (.inr (List.mem_append.2 (.inr (List.mem_append.2 (.inr (List.mem_append.2 (.inr (List.mem_append.2 (.inr (List.mem_append.2 (.inr (List.mem_append.2 (.inr h)))))))))))))
theorem mem_code{q:Nat}(b:q=7∨q=11){a:Nm}(h:a ∈ codeNames q):a ∈ names:=by
 rcases b with rfl|rfl
 ·exact mem_rest7 (List.mem_append.2 (.inl h))
 ·exact mem_rest7 (List.mem_append.2 (.inr (List.mem_append.2 (.inl h))))
theorem mem_choice{q:Nat}(a:q=7∨q=11):nChoice q ∈ names:=mem_code a (by simp[codeNames])
theorem mem_choice2{q:Nat}(a:q=7∨q=11):nChoice2 q ∈ names:=mem_code a (by simp[codeNames])
theorem mem_high{q:Nat}(a:q=7∨q=11):nHigh q ∈ names:=mem_code a (by simp[codeNames])
theorem mem_low{q p:Nat}(b:q=7∨q=11)(a:p<16):nLow q p ∈ names:=mem_code b (by
 unfold codeNames;exact List.mem_cons_of_mem _ (List.mem_cons_of_mem _ (List.mem_cons_of_mem _ (List.mem_append.2 (.inl (List.mem_map.2 ⟨p,List.mem_range.2 a,rfl⟩))))))
theorem mem_mid{q p:Nat}(b:q=7∨q=11)(a:p<16):nMid q p ∈ names:=mem_code b (by
 unfold codeNames;exact List.mem_cons_of_mem _ (List.mem_cons_of_mem _ (List.mem_cons_of_mem _ (List.mem_append.2 (.inr (List.mem_map.2 ⟨p,List.mem_range.2 a,rfl⟩))))))
theorem mem_slot{k:Nat}(a:k<4):nSlot k ∈ names:=mem_rest7 (List.mem_append.2 (.inr (List.mem_append.2 (.inr (List.mem_append.2 (.inl (List.mem_map.2 ⟨k,List.mem_range.2 a,rfl⟩)))))))
theorem mem_rest{s:Nat}(a:4≤s)(b:s<14):nRest s ∈ names:=mem_rest7 (List.mem_append.2 (.inr (List.mem_append.2 (.inr (List.mem_append.2 (.inr (List.mem_append.2 (.inl (List.mem_map.2 ⟨s-4,List.mem_range.2 (by omega),by rw[show s-4+4=s by omega]⟩)))))))))
theorem mem_align:nAlign ∈ names:=mem_rest7 (List.mem_append.2 (.inr (List.mem_append.2 (.inr (List.mem_append.2 (.inr (List.mem_append.2 (.inr (by simp)))))))))
end Rf
namespace Rf
open Mem Rc St Lz En
inductive Nb where
 |bit (a:Nm)(i b:Nat)
 |half (b:Nat)
def Nb.op:Nb→En.Op
 |.bit a i b=>.bit a.j (a.o+i) b
 |.half b=>.half b
def Nb.Ok:Nb→Prop
 |.bit a i b=>a ∈ names∧i<a.len∧b≤1
 |.half b=>b≤1
def ops(l:List Nb):List En.Op:=l.map Nb.op
theorem ops_append(l m:List Nb):ops (l++m)=ops l++ops m:=by simp[ops]
def AllOk(l:List Nb):Prop:=∀x ∈ l,x.Ok
theorem AllOk.append{l m:List Nb}(h:AllOk l)(b:AllOk m):AllOk (l++m):=by
 intro x a;rcases List.mem_append.1 a with a|a
 ·exact h x a
 ·exact b x a
theorem AllOk.one{x:Nb}(h:x.Ok):AllOk [x]:=by
 intro y a;obtain rfl:=List.mem_singleton.1 a;exact h
def treeNb(back:Bool)(a:Nm)(n x:Nat):Nat→Nat→List Nb
 |0,_=>[]
 |f+1,m=>.bit a m (x/2^Tr.ord back n (n-(f+1))%2)::treeNb back a n x f (2*m+x/2^Tr.ord back n (n-(f+1))%2)
theorem treeNb_op(back:Bool)(a:Nm)(n x:Nat):∀f m,ops (treeNb back a n x f m)=treeOps back a.j a.o n x f m
 |0,_=>rfl
 |f+1,m=>by
   rw[treeNb,treeOps,←treeNb_op back a n x f];rfl
theorem treeNb_len(back:Bool)(a:Nm)(n x:Nat):∀f m,(treeNb back a n x f m).length=f
 |0,_=>rfl
 |f+1,m=>by rw[treeNb,List.length_cons,treeNb_len back a n x f]
theorem treeNb_ok(back:Bool){a:Nm}(c:a ∈ names){n:Nat}(g:2^n≤a.len)(x:Nat):∀f m,f≤n→m<2^(n-f+1)→AllOk (treeNb back a n x f m)
 |0,_,_,_=>by intro y h;simp[treeNb] at h
 |f+1,m,hf,hm=>by
   have e:x/2^Tr.ord back n (n-(f+1))%2≤1:=by omega
   rw[treeNb];generalize x/2^Tr.ord back n (n-(f+1))%2=b at*;have i:m<2^n:=Nat.lt_of_lt_of_le hm (Nat.pow_le_pow_right (by omega) (by omega));have d:2*m+b<2^(n-f+1):=by
    rw[show n-f+1=n-(f+1)+1+1 by omega,Nat.pow_succ];omega
   exact AllOk.append (l:=[_]) (AllOk.one ⟨c,by omega,e⟩) (treeNb_ok back c g x f _ (by omega) d)
theorem tree1_ok(back:Bool){a:Nm}(b:a ∈ names){n:Nat}(c:2^n≤a.len)(x:Nat):AllOk (treeNb back a n x n 1):=treeNb_ok back b c x n 1 (Nat.le_refl _) (by rw[Nat.sub_self];decide)
def matNb(u:Nat)(a:Nm)(b:Nat):Nat→Nat→Bool→List Nb
 |0,_,_=>[]
 |k+1,m,same=>.bit a (m+if same then 256*(1+u/2^k%2) else 0) (b/2^k%2)::matNb u a b k (2*m+b/2^k%2) (same&&decide (b/2^k%2=u/2^k%2))
theorem matNb_op(u:Nat){a:Nm}(c:a.j=6)(b:Nat):∀k m same,ops (matNb u a b k m same)=matOps u a.o b k m same
 |0,_,_=>rfl
 |k+1,m,same=>by
   rw[matNb,matOps,←matNb_op u c b k,Nat.add_assoc,←c];rfl
theorem matNb_ok(u:Nat){a:Nm}(c:a ∈ names)(d:a.len=768)(b:Nat):∀k m same,k≤8→m<2^(8-k+1)→AllOk (matNb u a b k m same)
 |0,_,_,_,_=>by intro y g;simp[matNb] at g
 |k+1,m,same,hk,hm=>by
   have f:b/2^k%2≤1:=by omega
   have i:u/2^k%2≤1:=by omega
   rw[matNb];generalize b/2^k%2=b1 at*;generalize u/2^k%2=u1 at*;have h:m<2^8:=Nat.lt_of_lt_of_le hm (Nat.pow_le_pow_right (by omega) (by omega));have e:2*m+b1<2^(8-k+1):=by
    rw[show 8-k+1=8-(k+1)+1+1 by omega,Nat.pow_succ];omega
   refine AllOk.append (l:=[_]) (AllOk.one ⟨c,?_,f⟩) (matNb_ok u c d b k _ _ (by omega) e);rw[d];split<;>omega
def litNb(c:C)(b:Nat):List Nb:=if c.s.num<7 then treeNb false (nLiteral (C.lit c)) 8 b 8 1 else matNb (c.lastB c.s.r0) (nLiteral (C.lit c)) b 8 1 true
def lenNb(c:C)(q n:Nat):List Nb:=
 if n<10 then[.bit (nChoice q) 0 0]++treeNb false (nLow q c.place) 3 (n-2) 3 1
 else if n<18 then[.bit (nChoice q) 0 1]++([.bit (nChoice2 q) 0 0]++treeNb false (nMid q c.place) 3 (n-10) 3 1)
 else[.bit (nChoice q) 0 1]++([.bit (nChoice2 q) 0 1]++treeNb false (nHigh q) 8 (n-18) 8 1)
def halvesNb(x:Nat):Nat→List Nb
 |0=>[]
 |n+1=>.half (x/2^n%2)::halvesNb x n
def restNb(slot r:Nat):List Nb:=
 if(range slot).2=0 then[] else if slot<14 then treeNb true (nRest slot) (range slot).2 r (range slot).2 1
 else halvesNb (r/16) ((range slot).2-4)++treeNb true nAlign 4 (r%16) 4 1
def distNb(n slot d:Nat):List Nb:=treeNb false (nSlot (min (n-2) 3)) 6 slot 6 1++restNb slot (d-(range slot).1)
def isNb(c:C)(b:Nat):Nb:=.bit (nIsMatch c.s.num c.place) 0 b
def longNb(c:C)(b:Nat):Nb:=.bit (nIsLong c.s.num c.place) 0 b
def whichNb(c:C)(i:Nat):List Nb:=
 .bit (nIsRep c.s.num) 0 1::(if i=0 then[.bit (nIsRep0 c.s.num) 0 0] else if i=1 then[.bit (nIsRep0 c.s.num) 0 1,.bit (nIsRep1 c.s.num) 0 0]
  else if i=2 then[.bit (nIsRep0 c.s.num) 0 1,.bit (nIsRep1 c.s.num) 0 1,.bit (nIsRep2 c.s.num) 0 0] else[.bit (nIsRep0 c.s.num) 0 1,.bit (nIsRep1 c.s.num) 0 1,.bit (nIsRep2 c.s.num) 0 1])
def symNb(c:C)(y:Sy):List Nb:=
 if y.kind=1 then[isNb c 0]++litNb c y.byte
 else if y.kind=2 then[isNb c 1,.bit (nIsRep c.s.num) 0 0]++lenNb c 7 y.len++distNb y.len (slotOf y.dist) y.dist
 else if y.kind=3 then(([isNb c 1]++whichNb c y.dist)++(if y.dist=0 then[longNb c 1] else[]))++lenNb c 11 y.len
 else([isNb c 1]++whichNb c 0)++[longNb c 0]
theorem litNb_op(c:C)(b:Nat):ops (litNb c b)=litOps c b:=by
 unfold litNb litOps;rw[context_eq];split
 ·exact treeNb_op ..
 ·exact matNb_op _ rfl ..
theorem lenNb_op(c:C)(q n:Nat):ops (lenNb c q n)=lenOps c q n:=by
 unfold lenNb lenOps;split
 ·rw[ops_append,treeNb_op]
  rfl
 ·split
  ·rw[ops_append,ops_append,treeNb_op]
   rfl
  ·rw[ops_append,ops_append,treeNb_op]
   rfl
theorem halvesNb_op(x:Nat):∀n,ops (halvesNb x n)=halves x n
 |0=>rfl
 |n+1=>by
   rw[halvesNb,halves,←halvesNb_op x n];rfl
theorem restNb_op(a r:Nat):ops (restNb a r)=restOps a r:=by
 unfold restNb restOps;split
 ·rfl
 ·split
  ·exact treeNb_op ..
  ·rw[ops_append,halvesNb_op,treeNb_op]
   rfl
theorem distNb_op(n a d:Nat):ops (distNb n a d)=distOps n a d:=by
 unfold distNb distOps;rw[ops_append,restNb_op,treeNb_op];rfl
theorem symNb_op{c:C}{y:Sy}(h:May c y):ops (symNb c y)=symOps c y:=by
 unfold symNb symOps;by_cases d:y.kind=1
 ·rw[if_pos d,if_pos d,ops_append,litNb_op]
  rfl
 rw[if_neg d,if_neg d];by_cases e:y.kind=2
 ·rw[if_pos e,if_pos e,ops_append,ops_append,distNb_op,lenNb_op]
  simp only[List.append_assoc];rfl
 rw[if_neg e,if_neg e];by_cases a:y.kind=3
 ·rw[if_pos a,if_pos a,ops_append,ops_append,ops_append,lenNb_op]
  have f:=h.rep a;unfold repOps whichNb;obtain b|b|b|b:y.dist=0∨y.dist=1∨y.dist=2∨y.dist=3:=by omega
  all_goals
   rw[b];rfl
 rw[if_neg a,if_neg a];rfl
theorem one_ok{a:Nm}(c:a ∈ names)(e:0<a.len){b:Nat}(d:b≤1):AllOk [.bit a 0 b]:=AllOk.one ⟨c,e,d⟩
theorem lenNb_ok{c:C}(d:c.Ok){q:Nat}(a:q=7∨q=11)(n:Nat):AllOk (lenNb c q n):=by
 have b:=place_lt c d;unfold lenNb;split
 ·exact(one_ok (mem_choice a) (show 0<1 by decide) (by decide)).append (tree1_ok _ (mem_low a b) (show 2^3≤8 by decide) _)
 ·split
  ·exact(one_ok (mem_choice a) (show 0<1 by decide) (by decide)).append ((one_ok (mem_choice2 a) (show 0<1 by decide) (by decide)).append (tree1_ok _ (mem_mid a b) (show 2^3≤8 by decide) _))
  ·exact(one_ok (mem_choice a) (show 0<1 by decide) (by decide)).append ((one_ok (mem_choice2 a) (show 0<1 by decide) (by decide)).append (tree1_ok _ (mem_high a) (show 2^8≤256 by decide) _))
theorem litNb_ok{c:C}(a:c.Ok)(b:Nat):AllOk (litNb c b):=by
 unfold litNb;split
 ·exact tree1_ok _ (mem_literal (lit_16 a)) (show 2^8≤768 by decide) _
 ·exact matNb_ok _ (mem_literal (lit_16 a)) rfl _ 8 1 true (Nat.le_refl _) (by decide)
theorem halvesNb_ok(x:Nat):∀n,AllOk (halvesNb x n)
 |0=>by intro y a;simp[halvesNb] at a
 |n+1=>AllOk.append (l:=[_]) (AllOk.one (show x/2^n%2≤1 by omega)) (halvesNb_ok x n)
theorem restNb_ok(a r:Nat):AllOk (restNb a r):=by
 unfold restNb;split
 ·intro y c
  simp at c
 ·rename_i h0
  split
  ·have b:4≤a:=by
    unfold range at h0;split at h0
    ·exact absurd rfl h0
    ·omega
   exact tree1_ok _ (mem_rest b (by omega)) (Nat.le_refl _) _
  ·exact(halvesNb_ok _ _).append (tree1_ok _ mem_align (show 2^4≤16 by decide) _)
theorem whichNb_ok{c:C}(l:c.Ok)(i:Nat):AllOk (whichNb c i):=by
 have d:c.s.num<12:=l.s.num;have r:=fun b a=>one_ok (b:=b) (mem_isRep d) (show 0<1 by decide) a;have f:=fun b a=>one_ok (b:=b) (mem_isRep0 d) (show 0<1 by decide) a;have h:=fun b a=>one_ok (b:=b) (mem_isRep1 d) (show 0<1 by decide) a;have k:=fun b a=>one_ok (b:=b) (mem_isRep2 d) (show 0<1 by decide) a;unfold whichNb;by_cases e:i=0
 ·rw[if_pos e]
  exact(r 1 (by decide)).append (f 0 (by decide))
 by_cases g:i=1
 ·rw[if_neg e,if_pos g]
  exact(r 1 (by decide)).append ((f 1 (by decide)).append (h 0 (by decide)))
 by_cases j:i=2
 ·rw[if_neg e,if_neg g,if_pos j]
  exact(r 1 (by decide)).append ((f 1 (by decide)).append ((h 1 (by decide)).append (k 0 (by decide))))
 ·rw[if_neg e,if_neg g,if_neg j]
  exact(r 1 (by decide)).append ((f 1 (by decide)).append ((h 1 (by decide)).append (k 1 (by decide))))
theorem symNb_ok{c:C}(a:c.Ok)(y:Sy):AllOk (symNb c y):=by
 have h:=place_lt c a;have f:c.s.num<12:=a.s.num;have d:=fun b e=>one_ok (b:=b) (mem_isMatch f h) (show 0<1 by decide) e;have g:=fun b e=>one_ok (b:=b) (mem_isLong f h) (show 0<1 by decide) e;unfold symNb;split
 ·exact(d 0 (by decide)).append (litNb_ok a _)
 ·split
  ·exact(AllOk.append (AllOk.append (d 1 (by decide)) (one_ok (mem_isRep f) (show 0<1 by decide) (by decide))) (lenNb_ok a (.inl rfl) _)).append ((tree1_ok _ (mem_slot (by omega)) (show 2^6≤64 by decide) _).append (restNb_ok _ _))
  ·split
   ·refine(((d 1 (by decide)).append (whichNb_ok a _)).append ?_).append (lenNb_ok a (.inr rfl) _)
    split
    ·exact g 1 (by decide)
    ·intro y i
     simp at i
   ·exact((d 1 (by decide)).append (whichNb_ok a _)).append (g 0 (by decide))
end Rf
namespace Rf
open Mem Lz
structure Ent where
 s:List UInt8
 b:Nat
 g:Nat
 L:List Nat
def look(st:List Ent)(s:List UInt8):Option Ent:=st.find? (fun e=>decide (e.s=s))
theorem look_some{st:List Ent}{s:List UInt8}{e:Ent}(h:look st s=some e):e ∈ st∧e.s=s:=by
 refine⟨List.mem_of_find?_eq_some h,?_⟩;have:=List.find?_some h;simpa using this
theorem look_none{st:List Ent}{s:List UInt8}(h:look st s=none):∀e ∈ st,e.s≠s:=by
 intro e a;have:=List.find?_eq_none.1 h e a;simpa using this
theorem look_self:∀{st:List Ent},(st.map (·.s)).Nodup→∀{f:Ent},f ∈ st→look st f.s=some f
 |[],_,f,hf=>by cases hf
 |x::xs,hn,f,hf=>by
   rw[List.map_cons,List.nodup_cons] at hn;unfold look;rw[List.find?_cons];rcases List.mem_cons.1 hf with rfl|a
   ·simp
   ·have b:x.s≠f.s:=fun e=>hn.1 (by rw[e];exact List.mem_map.2 ⟨f,a,rfl⟩)
    simp only[b,decide_false];exact look_self hn.2 a
def Ent.to(e:Ent)(s:List UInt8)(L:List Nat):Ent:=if e.s=s then{e with L:=L} else e
theorem Ent.to_s(e:Ent)(s:List UInt8)(L:List Nat):(e.to s L).s=e.s:=by unfold Ent.to;split<;>rfl
theorem Ent.to_b(e:Ent)(s:List UInt8)(L:List Nat):(e.to s L).b=e.b:=by unfold Ent.to;split<;>rfl
theorem Ent.to_g(e:Ent)(s:List UInt8)(L:List Nat):(e.to s L).g=e.g:=by unfold Ent.to;split<;>rfl
def putL(st:List Ent)(s:List UInt8)(L:List Nat):List Ent:=st.map (fun e=>e.to s L)
theorem look_put(st:List Ent)(s:List UInt8)(L:List Nat)(s':List UInt8):look (putL st s L) s'=(look st s').map (fun e=>e.to s L):=by
 induction st with
 |nil=>rfl
 |cons x xs ih=>
   unfold look putL at*;simp only[List.map_cons,List.find?_cons,Ent.to_s];split
   ·rfl
   ·exact ih
theorem look_add(st:List Ent)(e:Ent)(s:List UInt8)(h:look st e.s=none):look (st++[e]) s=if e.s=s then some e else look st s:=by
 unfold look at*;rw[List.find?_append];by_cases a:e.s=s
 ·rw[if_pos a]
  subst a;rw[h];simp
 ·rw[if_neg a]
  cases List.find? (fun f=>decide (f.s=s)) st with
  |none=>simp[a]
  |some f=>simp
structure Has(st:List Ent)(ps:Nat→List Nat):Prop where
 nodup:(st.map (·.s)).Nodup
 len:∀e ∈ st,e.L.length=768
 name:∀e ∈ st,∃a ∈ names,a.str=e.s∧∀i,i<a.len→∀p,(ps a.j)[a.o+i]? =some p→e.L[i]? =some p
 fresh:∀a ∈ names,look st a.str=none→∀i,i<a.len→∀p,(ps a.j)[a.o+i]? =some p→p=1024
theorem Has.count{st:List Ent}{ps:Nat→List Nat}(h:Has st ps):st.length≤533:=by
 have b:=count_le (st.map (·.s)) (names.map (·.str)) h.nodup (fun x g=>by
  obtain⟨e,f,rfl⟩:=List.mem_map.1 g;obtain⟨a,d,c,_⟩:=h.name e f;exact List.mem_map.2 ⟨a,d,c⟩)
 rw[List.length_map,List.length_map,names_count] at b;exact b
theorem Has.start(ps:Nat→List Nat)(h:∀j,j<18→∀p ∈ ps j,p=1024):Has [] ps:=
 ⟨by simp,by simp,by simp,fun a b _ i d p c=>h a.j (name_small b).2 p (List.mem_of_getElem? c)⟩
theorem Has.at'{st:List Ent}{ps:Nat→List Nat}(h:Has st ps){a:Nm}(f:a ∈ names){e:Ent}(g:look st a.str=some e){i p:Nat}(j:i<a.len)(l:(ps a.j)[a.o+i]? =some p):e.L[i]? =some p:=by
 obtain⟨k,m⟩:=look_some g;obtain⟨n,b,c,d⟩:=h.name e k;obtain rfl:=name_inj f b (by rw[c,m]);exact d i j p l
theorem Has.add{st:List Ent}{ps:Nat→List Nat}(h:Has st ps){a:Nm}(f:a ∈ names)(l:look st a.str=none)(b g:Nat):Has (st++[⟨a.str,b,g,List.replicate 768 1024⟩]) ps:=by
 refine⟨?_,fun e c=> ?_,fun e c=> ?_,fun o j d i k p m=> ?_⟩
 ·rw[List.map_append,List.nodup_append]
  refine⟨h.nodup,List.pairwise_singleton _ _,fun x r y n=> ?_⟩;obtain⟨e,c,rfl⟩:=List.mem_map.1 r;simp only[List.map_cons,List.map_nil,List.mem_singleton] at n;rw[n];exact look_none l e c
 ·rcases List.mem_append.1 c with c|c
  ·exact h.len e c
  ·obtain rfl:=List.mem_singleton.1 c
   exact List.length_replicate
 ·rcases List.mem_append.1 c with c|c
  ·exact h.name e c
  ·obtain rfl:=List.mem_singleton.1 c
   refine⟨a,f,rfl,fun i k p m=> ?_⟩;have q:=h.fresh a f l i k p m;have d:=(name_small f).1;simp only[List.getElem?_replicate];rw[if_pos (by omega),q]
 ·rw[look_add _ _ _ l] at d
  split at d
  ·cases d
  ·exact h.fresh o j d i k p m
theorem Has.set{st:List Ent}{ps:Nat→List Nat}(h:Has st ps){a:Nm}(q:a ∈ names){e:Ent}(u:look st a.str=some e){i v:Nat}(D:i<a.len):
 Has (putL st a.str (e.L.set i v)) (upd ps a.j ((ps a.j).set (a.o+i) v)):=by
 obtain⟨A,F⟩:=look_some u;refine⟨?_,fun f w=> ?_,fun f w=> ?_,fun g d l k o p b=> ?_⟩
 ·have B:(putL st a.str (e.L.set i v)).map (·.s)=st.map (·.s):=by
   unfold putL;rw[List.map_map];congr 1;funext x;exact Ent.to_s x _ _
  rw[B];exact h.nodup
 ·obtain⟨s,m,rfl⟩:=List.mem_map.1 w
  unfold Ent.to;split
  ·simp only[List.length_set]
   exact h.len e A
  ·exact h.len s m
 ·obtain⟨s,m,rfl⟩:=List.mem_map.1 w
  obtain⟨g,d,l,z⟩:=h.name s m;refine⟨g,d,by rw[l,Ent.to_s],fun k o p b=> ?_⟩;unfold Ent.to;by_cases c:s.s=a.str
  ·rw[if_pos c]
   obtain rfl:=name_inj q d (by rw[l,c]);rw[upd_same] at b;simp only[List.getElem?_set] at b ⊢;by_cases r:i=k
   ·subst r
    rw[if_pos rfl] at b ⊢;have E:=h.len e A;have:=(name_small q).1;rw[if_pos (by omega)];split at b
    ·exact b
    ·cases b
   ·rw[if_neg r]
    rw[if_neg (by omega)] at b;exact h.at' q u o b
  ·rw[if_neg c]
   have t:=name_apart q d (fun e=>c (by rw[←l,e]));by_cases n:g.j=a.j
   ·rw[n,upd_same,List.getElem?_set,if_neg (by omega)] at b
    rw[←n] at b;exact z k o p b
   ·rw[upd_other _ _ n] at b
    exact z k o p b
 ·rw[look_put] at l
  have j:look st g.str=none:=by
   cases hx:look st g.str with
   |none=>rfl
   |some f=>rw[hx] at l;cases l
  have y:a.str≠g.str:=fun C=>by rw[←C,u] at j;cases j
  have t:=name_apart q d y;by_cases n:g.j=a.j
  ·rw[n,upd_same,List.getElem?_set,if_neg (by omega)] at b
   rw[←n] at b;exact h.fresh g d j k o p b
  ·rw[upd_other _ _ n] at b
   exact h.fresh g d j k o p b
end Rf
end Go.Proofs.YtffoddpjfgjelaaGreatDoor
