/- Part 6 of 54: lemmas of the last part, each under the conditions that it names. -/
import Derived.Deep.RegionHeld3
import Derived.BigRegion
import Derived.Deep.QuietTactic
import Derived.BigQuiet
import Derived.Test.YtffoddpjfgjelaaGreatDoorK05
set_option linter.unusedVariables false
set_option linter.unusedSimpArgs false
set_option maxRecDepth 1500
set_option maxHeartbeats 16000000
namespace Go.Proofs.YtffoddpjfgjelaaGreatDoor
open Go.RowKit
namespace Lz
open Mem Rc St Win
end Lz
namespace Lz
open Mem Rc St Win
end Lz
namespace Ck
open Mem Wire
def rowV(bv:Value)(at' plain:Nat)(packed size:Int)(Ob:Nat):Array Value:=#[bv,.int .i64 at',.int .i64 plain,.int .i64 packed,.int .i64 size,.pointer (some ⟨Ob,0,none⟩)]
def RowAt(w:World)(Rb:Nat)(bv:Value)(at' plain:Nat)(packed size:Int)(Ob:Nat):Prop:=w.heap[Rb]? =some (.cells (rowV bv at' plain packed size Ob) 194 (0,0))
def ends(packed size:Int)(at' plain:Nat):Bool:=decide ((packed<0∨packed=(at':Int)+1)∧(size<0∨size=(plain:Int)))
set_option maxRecDepth 100000 in
theorem ends_calls(l u a plain:Nat)(v:Value)(packed size:Int)(w:World)(h:RowAt w l v a plain packed size u)(F:a≤1099511627776)(q:Bool)(r:ends packed size a plain=q):
 Calls Tryz.prog 163 #[.pointer (some ⟨l,0,none⟩)] w fun e A=>e=.returned (.bool q)∧∃m,A=w.drewN m:=by
 have B:w.cell? ⟨l,1,none⟩=some (.int .i64 a):=cell_in h rfl;have C:w.cell? ⟨l,2,none⟩=some (.int .i64 plain):=cell_in h rfl;have D:w.cell? ⟨l,3,none⟩=some (.int .i64 packed):=cell_in h rfl;have E:w.cell? ⟨l,4,none⟩=some (.int .i64 size):=cell_in h rfl;clear h;unfold ends at r;obtain⟨k,f⟩:∃k:Int,k=(a:Int)+1:=⟨_,rfl⟩;have G:IntKind.i64.wrap ((a:Int)+1)=k:=by rw[IntWalk.i64_in _ (by omega)];exact f.symm
 have z:(a:Int)+1=k:=f.symm;rw[←f] at r;have j:=Hd r;clear r f;by_cases p:packed<0
 ·have x:decide (packed<0)=true:=by simp[p]
  have g:=Hd p;clear p;by_cases c:size<0
  ·have s:decide (size<0)=true:=by simp[c]
   have d:=Hd c;clear c;go_enter Tryz.func163,Tryz.ntmps163;go_wp2_with fail;go_quiet (fail);go_wp2_with fail;go_ret;exact⟨ret_bool (by rw[←j.out];simp[g.out,d.out]),_,rfl⟩
  ·have s:decide (size<0)=false:=by simp;omega
   have d:=Hd c;clear c;by_cases b:size=plain
   ·have t:(size==(plain:Int))=true:=by simp[b]
    have i:=Hd b;clear b;go_enter Tryz.func163,Tryz.ntmps163;go_wp2_with fail;go_quiet (fail);go_wp2_with fail;go_ret;exact⟨ret_bool (by rw[←j.out];simp[g.out,d.out,i.out]),_,rfl⟩
   ·have t:(size==(plain:Int))=false:=by simp[b]
    have i:=Hd b;clear b;go_enter Tryz.func163,Tryz.ntmps163;go_wp2_with fail;go_quiet (fail);go_wp2_with fail;go_ret;exact⟨ret_bool (by rw[←j.out];simp[g.out,d.out,i.out]),_,rfl⟩
 ·have x:decide (packed<0)=false:=by simp;omega
  have g:=Hd p;clear p;by_cases n:packed=k
  ·have y:(packed==k)=true:=by simp[n]
   have o:=Hd n;clear n;by_cases c:size<0
   ·have s:decide (size<0)=true:=by simp[c]
    have d:=Hd c;clear c;go_enter Tryz.func163,Tryz.ntmps163;go_wp2_with fail;go_quiet (fail);go_wp2_with fail;go_ret;exact⟨ret_bool (by rw[←j.out];simp[g.out,o.out,d.out]),_,rfl⟩
   ·have s:decide (size<0)=false:=by simp;omega
    have d:=Hd c;clear c;by_cases b:size=plain
    ·have t:(size==(plain:Int))=true:=by simp[b]
     have i:=Hd b;clear b;go_enter Tryz.func163,Tryz.ntmps163;go_wp2_with fail;go_quiet (fail);go_wp2_with fail;go_ret;exact⟨ret_bool (by rw[←j.out];simp[g.out,o.out,d.out,i.out]),_,rfl⟩
    ·have t:(size==(plain:Int))=false:=by simp[b]
     have i:=Hd b;clear b;go_enter Tryz.func163,Tryz.ntmps163;go_wp2_with fail;go_quiet (fail);go_wp2_with fail;go_ret;exact⟨ret_bool (by rw[←j.out];simp[g.out,o.out,d.out,i.out]),_,rfl⟩
  ·have y:(packed==k)=false:=by simp[n]
   have o:=Hd n;clear n;go_enter Tryz.func163,Tryz.ntmps163;go_wp2_with fail;go_quiet (fail);go_wp2_with fail;go_ret;exact⟨ret_bool (by rw[←j.out];simp[o.out];intro h;have:=g.out;omega),_,rfl⟩
structure Sr where
 at':Nat
 plain:Nat
 now:Nat
def nextP(b:List UInt8)(packed size:Int)(s:Sr):Except (Nat×Nat) (Head×List UInt8×Nat×Sr):=
 if beyond packed (s.at'+1) then .error (s.at',2)
 else if s.at'=b.length then .error (s.at',1)
 else match kindOf (b.getD s.at' 0).toNat with
  |none=>.error (s.at',2)
  |some k=>
    if move s.now k=4 then .error (s.at',2)
    else if k=0∧ends packed size s.at' s.plain=false then .error (s.at',2)
    else if(get ((b.drop s.at').take 6)).2.2≠0 then .error (s.at',(get ((b.drop s.at').take 6)).2.2)
    else if beyond packed (s.at'+(get ((b.drop s.at').take 6)).2.1+(get ((b.drop s.at').take 6)).1.packed)=true∨beyond size (s.plain+(get ((b.drop s.at').take 6)).1.size)=true then .error (s.at',2)
    else if b.length-(s.at'+(get ((b.drop s.at').take 6)).2.1)<(get ((b.drop s.at').take 6)).1.packed then .error (s.at'+(get ((b.drop s.at').take 6)).2.1,1)
    else .ok ((get ((b.drop s.at').take 6)).1,(b.drop (s.at'+(get ((b.drop s.at').take 6)).2.1)).take (get ((b.drop s.at').take 6)).1.packed,s.at'+(get ((b.drop s.at').take 6)).2.1,
     ⟨s.at'+(get ((b.drop s.at').take 6)).2.1+(get ((b.drop s.at').take 6)).1.packed,s.plain+(get ((b.drop s.at').take 6)).1.size,move s.now k⟩)
theorem kindOf_lt{x k:Nat}(a:x<256)(h:kindOf x=some k):k<7:=by
 unfold kindOf at h;split at h
 ·have:=Option.some.inj h
  omega
 ·split at h
  ·cases h
  ·have:=Option.some.inj h
   omega
theorem get_le_len(xs:List UInt8)(h:(get xs).2.2=0):(get xs).2.1≤xs.length:=by
 unfold get at*;simp only at*;by_cases b:xs.length=0
 ·rw[if_pos b] at h
  simp at h
 rw[if_neg b] at h ⊢;by_cases c:(xs.getD 0 0).toNat=0
 ·rw[if_pos c]
  simp only;omega
 rw[if_neg c] at h ⊢;by_cases d:(xs.getD 0 0).toNat≤2
 ·rw[if_pos d] at h ⊢
  by_cases a:xs.length<3
  ·rw[if_pos a] at h
   simp at h
  ·rw[if_neg a]
   simp only;omega
 rw[if_neg d] at h ⊢;by_cases a:(xs.getD 0 0).toNat<128
 ·rw[if_pos a] at h
  simp at h
 rw[if_neg a] at h ⊢;by_cases e:xs.length<5
 ·rw[if_pos e] at h
  simp at h
 rw[if_neg e] at h ⊢;by_cases f:((xs.getD 0 0).toNat-128)/32<2
 ·rw[if_pos f]
  simp only;omega
 rw[if_neg f] at h ⊢;by_cases g:xs.length<6
 ·rw[if_pos g] at h
  simp at h
 rw[if_neg g] at h ⊢;by_cases i:St.bytePropsOk (xs.getD 5 0).toNat=true
 ·rw[if_pos i]
  simp only;omega
 ·rw[if_neg i] at h
  simp at h
theorem get_small(xs:List UInt8):(get xs).1.size≤2097152∧(get xs).1.packed≤65536∧(get xs).1.kind≤6∧(get xs).2.2≤2∧(get xs).1.lc+(get xs).1.lp≤4∧(get xs).1.pb≤4:=by
 have a:=beV2_lt (xs.drop 1);have b:=beV2_lt (xs.drop 3);have d:=UInt8.toNat_lt (xs.getD 0 0);have c:(xs.getD 0 0).toNat%32<32:=Nat.mod_lt _ (by omega);unfold get Head.none;simp only;generalize beV (xs.drop 1) 2=n1 at*;generalize beV (xs.drop 3) 2=n3 at*;split
 ·simp
 ·split
  ·simp
  ·split
   ·split
    ·simp
    ·simp only;omega
   ·split
    ·simp
    ·split
     ·simp
     ·split
      ·simp only;omega
      ·split
       ·simp
       ·split
        ·rename_i h
         unfold St.bytePropsOk at h;have h:=of_decide_eq_true h;simp only;omega
        ·simp
end Ck
namespace Ck
open Mem Wire
abbrev ptrR(n:Nat):Value:=.pointer (some ⟨n,0,none⟩)
def NextPost(Rb Ob:Nat)(bv:Value)(packed size:Int)(w:World)(res:Except (Nat×Nat) (Head×List UInt8×Nat×Sr))(e:Ending)(w':World):Prop:=
 Fr (fun k=>k=Rb∨k=Ob) w w'∧match res with
  |.error (p,er)=>e=.returned (.tuple #[.agg Head.none.cells,.slice none 0 0,.int .i64 p,.int .i64 er])
  |.ok (h,part,fr,s2)=>∃q c,e=.returned (.tuple #[.agg h.cells,.slice q part.length c,.int .i64 fr,.int .i64 0])∧Rd w' (.slice q part.length c) part∧(∀k,(Value.slice q part.length c).ownBlock=some k→bv.ownBlock=some k)∧RowAt w' Rb bv s2.at' s2.plain packed size Ob∧OrdAt w' Ob s2.now
theorem beyond_callsI(a:Int)(n:Nat)(k:Int)(b:k=n)(v:Bool)(c:beyond a n=v)(w:World):Calls Tryz.prog 160 #[.int .i64 a,.int .i64 k] w fun e d=>e=.returned (.bool v)∧w=d:=by
 subst b;subst c;exact beyond_calls a n w
theorem rd_keepT{w w':World}{v:Value}{xs:List UInt8}(h:Rd w v xs){g:Nat}{d:Array Value}{T:TypeId}{fr:Nat×Nat}(m:w.heap[g]? =some (.cells d T fr))(b:∀(i:Nat)(n:Int),d[i]? ≠some (Value.int .u8 n))(c:Fr (fun k=>k=g) w w'):Rd w' v xs:=by
 by_cases e:0<xs.length
 ·exact h.step c (rd_off0 h e m b)
 ·obtain⟨o,a,f,j,l,p⟩:=h
  exact⟨o,a,f,j,l,fun h=>absurd h e⟩
theorem ordV_nb(a:Int)(i:Nat)(m:Int):(#[.int .i64 a]:Array Value)[i]? ≠some (Value.int .u8 m):=by
 intro h;have:=Array.mem_of_getElem? h;simp at this
theorem chV_nb(a b c d e f:Int)(i:Nat)(m:Int):(#[.int .i64 a,.int .i64 b,.int .i64 c,.int .i64 d,.int .i64 e,.int .i64 f]:Array Value)[i]? ≠some (Value.int .u8 m):=by
 intro h;have:=Array.mem_of_getElem? h;simp at this
theorem rowV_nb(p:Option Addr)(n c a plain:Nat)(packed size:Int)(b:Nat)(i:Nat)(m:Int):(rowV (.slice p n c) a plain packed size b)[i]? ≠some (Value.int .u8 m):=by
 intro h;have:=Array.mem_of_getElem? h;simp[rowV] at this
structure N(w0 wk:World)(z2 z6 Rb Ob:Nat)(bv:Value)(b:List UInt8)(at' plain:Nat)(packed size:Int)(now:Nat):Prop where
 fr:Fr (fun k=>k=Rb∨k=Ob) w0 wk
 b2:wk.heap[z2]? =some (.cells #[.int .i64 0,.int .i64 0,.int .i64 0,.int .i64 0,.int .i64 0,.int .i64 0] 47 (0,0))
 b6:wk.heap[z6]? =some (.cells #[.int .i64 0,.int .i64 0,.int .i64 0,.int .i64 0,.int .i64 0,.int .i64 0] 47 (0,0))
 row:RowAt wk Rb bv at' plain packed size Ob
 ord:OrdAt wk Ob now
 rd:Rd wk bv b
 mv:Moves wk
 o2:w0.heap.size≤z2
 o6:w0.heap.size≤z6
 ne:z2≠z6
 five:6≤Rb∧6≤Ob
theorem N.keep{w0 i d:World}{z2 j f e:Nat}{g:Value}{b:List UInt8}{c plain:Nat}{packed size:Int}{now:Nat}(h:N w0 i z2 j f e g b c plain packed size now)(a:Fr (fun _=>False) i d):N w0 d z2 j f e g b c plain packed size now:=
 ⟨h.fr.trans (a.mono (fun _ _ h=>h.elim)),a.keep h.b2 (fun h=>h),a.keep h.b6 (fun h=>h),a.keep h.row (fun h=>h),a.keep h.ord (fun h=>h),h.rd.keep a,h.mv.step a (fun _ h=>h.elim),h.o2,h.o6,h.ne,h.five⟩
theorem N.apart{w0 k:World}{z2 i f d:Nat}{j:Value}{b:List UInt8}{g plain:Nat}{packed size:Int}{now:Nat}(h:N w0 k z2 i f d j b g plain packed size now):f≠z2∧f≠i∧f≠d∧d≠z2∧d≠i:=by
 have a:=h.row;have c:=h.ord;unfold RowAt at a;unfold OrdAt at c;refine⟨fun e=> ?_,fun e=> ?_,fun e=> ?_,fun e=> ?_,fun e=> ?_⟩
 ·rw[e,h.b2] at a
  simp at a
 ·rw[e,h.b6] at a
  simp at a
 ·rw[e,c] at a
  simp at a
 ·rw[e,h.b2] at c
  simp at c
 ·rw[e,h.b6] at c
  simp at c
theorem N.ordered{w0 m d:World}{z2 n j f:Nat}{l:Value}{b:List UInt8}{g plain:Nat}{packed size:Int}{now c:Nat}(h:N w0 m z2 n j f l b g plain packed size now)(a:Fr (fun k=>k=f) m d)(r:OrdAt d f c):N w0 d z2 n j f l b g plain packed size c:=by
 obtain⟨s,t,o,p,q⟩:=h.apart;exact⟨h.fr.trans (a.mono (fun i _ e=>.inr e)),a.keep h.b2 (fun e=>p e.symm),a.keep h.b6 (fun e=>q e.symm),a.keep h.row o,r,rd_keepT h.rd h.ord (ordV_nb _) a,h.mv.step a (fun k(e:k=f)=>by have:=h.five;omega),h.o2,h.o6,h.ne,h.five⟩
theorem N.cells{w0 m:World}{z2 c a j:Nat}{l:Value}{b:List UInt8}{g plain:Nat}{packed size:Int}{now:Nat}(h:N w0 m z2 c a j l b g plain packed size now){w':World}(i:Fr (fun k=>k=z2) m w'):
 w'.cell? ⟨c,0,none⟩=some (.int .i64 0)∧w'.cell? ⟨c,1,none⟩=some (.int .i64 0)∧w'.cell? ⟨c,2,none⟩=some (.int .i64 0)∧w'.cell? ⟨c,3,none⟩=some (.int .i64 0)∧w'.cell? ⟨c,4,none⟩=some (.int .i64 0)∧w'.cell? ⟨c,5,none⟩=some (.int .i64 0)∧
  w'.cell? ⟨a,0,none⟩=some l∧w'.cell? ⟨a,1,none⟩=some (.int .i64 g)∧w'.cell? ⟨a,2,none⟩=some (.int .i64 plain)∧w'.cell? ⟨a,3,none⟩=some (.int .i64 packed)∧w'.cell? ⟨a,4,none⟩=some (.int .i64 size)∧w'.cell? ⟨a,5,none⟩=some (ptrR j):=by
 obtain⟨n,o,p,q,r⟩:=h.apart;have d:=i.keep h.b6 (fun e=>h.ne e.symm);have f:=i.keep h.row n;exact⟨cell_in d rfl,cell_in d rfl,cell_in d rfl,cell_in d rfl,cell_in d rfl,cell_in d rfl,cell_in f rfl,cell_in f rfl,cell_in f rfl,cell_in f rfl,cell_in f rfl,cell_in f rfl⟩
theorem heap_drew_new(w:World)(o:Obj):(w.alloc o).drew.heap[w.heap.size]? =some o:=heap_alloc_new w o
theorem N.cells2b{w0 e:World}{z2 j c i:Nat}{f:Value}{b:List UInt8}{a plain:Nat}{packed size:Int}{now:Nat}(h:N w0 e z2 j c i f b a plain packed size now){w':World}(d:Fr (fun k=>e.heap.size≤k) e w'):w'.cell? ⟨c,0,none⟩=some f∧w'.cell? ⟨c,1,none⟩=some (.int .i64 a):=by
 have l:=lt_of_block h.row;have g:=d.keep h.row (by omega);exact⟨cell_in g rfl,cell_in g rfl⟩
structure M(w0 wk:World)(z2 z6 z8 Rb Ob:Nat)(bv:Value)(b:List UInt8)(at' plain:Nat)(packed size:Int)(now:Nat)(c:Array Value):Prop where
 n:N w0 wk z2 z6 Rb Ob bv b at' plain packed size now
 b8:wk.heap[z8]? =some (.cells c 47 (0,0))
 ne:z8≠z2
theorem M.of{w0 f g:World}{z2 p j m l:Nat}{n:Value}{b:List UInt8}{d plain:Nat}{packed size:Int}{now:Nat}{c:Array Value}(h:N w0 f z2 p m l n b d plain packed size now)(r:0<b.length)(a:Fr (fun k=>f.heap.size≤k) f g)(t:g.heap[j]? =some (.cells c 47 (0,0)))(u:f.heap.size≤j):M w0 g z2 p j m l n b d plain packed size now c:=by
 have w:=lt_of_block h.b2;have x:=lt_of_block h.b6;have z:=lt_of_block h.row;have y:=lt_of_block h.ord;have v:=h.fr.size;refine⟨⟨h.fr.trans' a (fun i hi(e:f.heap.size≤i)=>by omega),a.keep h.b2 (by omega),a.keep h.b6 (by omega),a.keep h.row (by omega),a.keep h.ord (by omega),h.rd.step a (fun k s=>by have:=rd_lt h.rd r k s;omega),?_,h.o2,h.o6,h.ne,h.five⟩,t,by omega⟩;obtain⟨T,q,o⟩:=h.mv;exact⟨T,q,a.keep o (by have:=lt_of_block o;omega)⟩
theorem M.keep{w0 j e:World}{z2 k l g f:Nat}{i:Value}{b:List UInt8}{a plain:Nat}{packed size:Int}{now:Nat}{c:Array Value}(h:M w0 j z2 k l g f i b a plain packed size now c)(d:Fr (fun _=>False) j e):M w0 e z2 k l g f i b a plain packed size now c:=
 ⟨h.n.keep d,d.keep h.b8 (fun h=>h),h.ne⟩
theorem M.moved{w0 x o:World}{z2 y v q s:Nat}{p:Option Addr}{n m:Nat}{b:List UInt8}{t plain r l:Nat}{packed size:Int}{now:Nat}{a c d e f g:Int}(h:M w0 x z2 y v q s (.slice p n m) b t plain packed size now #[.int .i64 a,.int .i64 c,.int .i64 d,.int .i64 e,.int .i64 f,.int .i64 g])(j:Fr (fun k=>k=q) x o)(D:RowAt o q (.slice p n m) r l packed size s):
 M w0 o z2 y v q s (.slice p n m) b r l packed size now #[.int .i64 a,.int .i64 c,.int .i64 d,.int .i64 e,.int .i64 f,.int .i64 g]:=by
 obtain⟨z,A,B,E,F⟩:=h.n.apart;have u:=h.n.row;unfold RowAt at u;have C:v≠q:=fun e=>by
  have w:=h.b8;rw[e,u] at w;simp at w
 exact⟨⟨h.n.fr.trans (j.mono (fun i _ e=>.inl e)),j.keep h.n.b2 (fun e=>z e.symm),j.keep h.n.b6 (fun e=>A e.symm),D,j.keep h.n.ord (fun e=>B e.symm),rd_keepT h.n.rd u (rowV_nb _ _ _ _ _ _ _ _) j,h.n.mv.step j (fun k(e:k=q)=>by have:=h.n.five;omega),h.n.o2,h.n.o6,h.n.ne,h.n.five⟩,j.keep h.b8 C,h.ne⟩
theorem M.cells8{w0 o:World}{z2 q a f p:Nat}{g:Value}{b:List UInt8}{d plain:Nat}{packed size:Int}{now:Nat}{j v1 v2 l m n:Value}(h:M w0 o z2 q a f p g b d plain packed size now #[j,v1,v2,l,m,n]){w':World}(e:Fr (fun k=>k=z2) o w'):
 w'.cell? ⟨a,0,none⟩=some j∧w'.cell? ⟨a,1,none⟩=some v1∧w'.cell? ⟨a,2,none⟩=some v2∧w'.cell? ⟨a,3,none⟩=some l∧w'.cell? ⟨a,4,none⟩=some m∧w'.cell? ⟨a,5,none⟩=some n∧w'.cell? ⟨f,0,none⟩=some g∧w'.cell? ⟨f,1,none⟩=some (.int .i64 d):=by
 have c:=e.keep h.b8 h.ne;have i:=e.keep h.n.row h.n.apart.1;exact⟨cell_in c rfl,cell_in c rfl,cell_in c rfl,cell_in c rfl,cell_in c rfl,cell_in c rfl,cell_in i rfl,cell_in i rfl⟩
theorem N.fin{w0 g:World}{z2 l f d:Nat}{j:Value}{b:List UInt8}{a plain:Nat}{packed size:Int}{now:Nat}(h:N w0 g z2 l f d j b a plain packed size now){w':World}(c:Fr (fun k=>k=z2) g w'):Fr (fun k=>k=f∨k=d) w0 w':=
 h.fr.trans' c (fun i hi(e:i=z2)=>by have:=h.o2;omega)
theorem M.last{w0 t w':World}{z2 C D v u:Nat}{q:Option Addr}{d:Nat}{b:List UInt8}{j z a f w x l n o r:Nat}{q2:Option Addr}{packed size:Int}{now:Nat}{c:Array Value}(h:M w0 t z2 C D v u (.slice q b.length d) b j z packed size now c)
 (p:∀(W:World),Rd W (.slice q b.length d) b→Rd W (.slice q2 (j-a) r) ((b.drop a).take (j-a)))(s:∀m c3,(Value.slice q2 m c3).ownBlock=(Value.slice q b.length d).ownBlock)(A:j=a+f)(E:f≤b.length-a)(g:Fr (fun k=>k=z2) t w'):
 NextPost v u (.slice q b.length d) packed size w0 (.ok (⟨w,x,f,l,n,o⟩,(b.drop a).take f,a,⟨j,z,now⟩)) (.returned (.tuple #[.agg #[.int .i64 w,.int .i64 x,.int .i64 f,.int .i64 l,.int .i64 n,.int .i64 o],.slice q2 f r,.int .i64 a,.int .i64 0])) w':=by
 have i:((b.drop a).take f).length=f:=by rw[List.length_take,List.length_drop];omega
 have e:j-a=f:=by omega
 have y:=p t h.n.rd;rw[e] at y;refine⟨h.n.fin g,q2,r,by rw[i];rfl,?_,fun k B=>by rw[←s];exact B,g.keep h.n.row h.n.apart.1,g.keep h.n.ord h.n.apart.2.2.2.1⟩;rw[i];exact rd_keepT y h.n.b2 (chV_nb 0 0 0 0 0 0) g
theorem lift0{S:Nat→Prop}{w w':World}(h:Fr (fun _=>False) w w'):Fr S w w':=h.mono (fun _ _ h=>h.elim)
end Ck
namespace Ck
open Mem Wire
theorem get_raws(v:Value)(a:List UInt8)(w:World)(k:Rd w v a)(h:0<a.length)(j:a.length≤1099511627776)(g:((a.take 6).getD 0 0).toNat≤2)(c:(get (a.take 6)).2.2=0):
 Calls Tryz.prog 164 #[v] w fun e m=>e=.returned (.tuple #[.agg (get (a.take 6)).1.cells,.int .i64 (get (a.take 6)).2.1,.int .i64 (get (a.take 6)).2.2])∧Fr (fun _=>False) w m:=by
 obtain⟨d,b⟩:∃d,d=a.take 6:=⟨_,rfl⟩;rw[←b] at g c ⊢;have l:d.length=min a.length 6:=by rw[b,List.length_take];omega
 unfold get at c ⊢;simp only at c ⊢;rw[if_neg (show¬d.length=0 by omega)] at c ⊢;by_cases f:(d.getD 0 0).toNat=0
 ·rw[if_pos f]
  exact get_end v a w k h j d b f
 ·rw[if_neg f] at c ⊢
  rw[if_pos g] at c ⊢;by_cases i:d.length<3
  ·rw[if_pos i] at c
   simp at c
  ·rw[if_neg i]
   exact get_raw v a w k h j d b (by omega) g (by omega)
def Raw(b:List UInt8)(packed size:Int)(s:Sr):Prop:=
 beyond packed (s.at'+1)=false∧¬s.at'=b.length∧¬kindOf (b.getD s.at' 0).toNat=none∧(∀k,kindOf (b.getD s.at' 0).toNat=some k→¬move s.now k=4∧(k=0→ends packed size s.at' s.plain=true))∧
  (((b.drop s.at').take 6).getD 0 0).toNat≤2∧(get ((b.drop s.at').take 6)).2.2=0∧beyond packed (s.at'+(get ((b.drop s.at').take 6)).2.1+(get ((b.drop s.at').take 6)).1.packed)=false∧beyond size (s.plain+(get ((b.drop s.at').take 6)).1.size)=false
set_option maxRecDepth 100000 in
theorem next_raw(q Ob:Nat)(bv:Value)(b:List UInt8)(packed size:Int)(s:Sr)(w:World)(h:RowAt w q bv s.at' s.plain packed size Ob)(hO:OrdAt w Ob s.now)(hb:Rd w bv b)(hM:Moves w)(h5:6≤q∧6≤Ob)(hn:s.now<4)(ha:s.at'≤b.length)(hl:b.length≤1099511627776)(hp:s.plain≤1152921504606846976)(hw:Raw b packed size s):
 Calls Tryz.prog 100 #[ptrR q] w (NextPost q Ob bv packed size w (nextP b packed size s)):=by
 obtain⟨g0,O⟩:∃g0,g0=nextP b packed size s:=⟨_,rfl⟩;rw[←O];unfold nextP at O;obtain⟨f,plain,a8⟩:=s;simp only at h hO hn ha hp O;unfold Raw at hw;simp only at hw;have HW:=Hd hw;clear hw;obtain⟨p,r,rfl,g4,g5,d5⟩:=hb;have hb:Rd w (.slice p b.length r) b:=⟨p,r,rfl,g4,g5,d5⟩;clear d5;have d7:=(R0 w).alloc (.cells #[.int .i64 0,.int .i64 0,.int .i64 0,.int .i64 0,.int .i64 0,.int .i64 0] 47);have a7:=d7.alloc (.cells #[.int .i64 0,.int .i64 0,.int .i64 0,.int .i64 0,.int .i64 0,.int .i64 0] 47);have x1:=heap_alloc_new w (.cells #[.int .i64 0,.int .i64 0,.int .i64 0,.int .i64 0,.int .i64 0,.int .i64 0] 47);have x2:=heap_alloc_new (w.alloc (.cells #[.int .i64 0,.int .i64 0,.int .i64 0,.int .i64 0,.int .i64 0,.int .i64 0] 47)) (.cells #[.int .i64 0,.int .i64 0,.int .i64 0,.int .i64 0,.int .i64 0,.int .i64 0] 47);simp only[World.size_alloc] at x2;have t:=Hd (show N w _ w.heap.size (w.heap.size+1) q Ob (.slice p b.length r) b f plain packed size a8 from⟨lift0 a7,((R0 _).alloc _).keep x1 (fun h=>h),x2,a7.keep h (fun h=>h),a7.keep hO (fun h=>h),hb.keep a7,hM.step a7 (fun _ h=>h.elim),Nat.le_refl _,by omega,by omega,h5⟩);have y:=Hd O;clear O h hO hb hM d7 a7 x1 x2;go_enter Tryz.func100,Tryz.ntmps100;go_wp2_with fail;generalize(w.alloc (.cells #[.int .i64 0,.int .i64 0,.int .i64 0,.int .i64 0,.int .i64 0,.int .i64 0] 47)).alloc (.cells #[.int .i64 0,.int .i64 0,.int .i64 0,.int .i64 0,.int .i64 0,.int .i64 0] 47)=d at*;generalize w.heap.size+1=z6 at*;generalize w.heap.size=z2 at*;have c8:=Hd (fun v hv m(k:Int)(I:k=((f+1:Nat):Int))=>beyond_callsI packed (f+1) k I v hv (d.drewN m));have g9:IntKind.i64.wrap ((f:Int)+1)=((f:Int)+1):=IntWalk.i64_in _ (by omega);cases hbe:beyond packed (f+1) with
 |true=>
   exact absurd (HW.out.1.symm.trans hbe) (by decide)
 |false=>
   replace y:=Hd (y.out.trans (if_neg (by rw[hbe];decide)));have HB:=Hd (fun m k I=>c8.out false hbe m k I);clear c8 hbe;have l:=Hd (fun n=>t.out.keep ((R0 d).drewN n));have Q:=t.out.cells (w':=d) (lift0 (Fr.refl _ _));obtain⟨c0,c1,c2,c3,c4,c5,D,E,J,R,T,U⟩:=Q;go_quiet (exact quiet_left (HB.out _ _ (by omega)));replace t:=Hd (l.out nq);clear l c0 c1 c2 c3 c4 c5 D E J R T U;generalize d.drewN nq=d at*;clear HB g9;go_wp2_with fail;by_cases b6:f=b.length
   ·exact absurd b6 HW.out.2.1
   have ea:((f:Int)==(b.length:Int))=false:=by simp;omega
   replace y:=Hd (y.out.trans (if_neg b6));have g3:f<b.length:=by omega
   clear b6;have l:=Hd (fun n=>t.out.keep ((R0 d).drewN n));have Q:=t.out.cells (w':=d) (lift0 (Fr.refl _ _));obtain⟨c0,c1,c2,c3,c4,c5,D,E,J,R,T,U⟩:=Q;go_quiet (fail);replace t:=Hd (l.out nq);clear l c0 c1 c2 c3 c4 c5 D E J R T U;generalize d.drewN nq=d at*;go_wp2_with fail;clear ea;obtain⟨X,o,rfl,hc⟩:=Win.byte_at t.out.rd (el_at g3);have f9:=UInt8.toNat_lt (b.getD f 0);generalize(b.getD f 0).toNat=x at*;have i1:(0:Int)≤(f:Int):=by omega
   have i2:(f:Int)<(b.length:Int):=by omega
   have b4:=Hd (fun m=>kindOf_calls x f9 (d.drewN m));cases I:kindOf x with
   |none=>
     exact absurd I HW.out.2.2.1
   |some k=>
     have d1:=Hd (HW.out.2.2.2.1 k I);rw[I] at y;simp only at y;have f3:kindI x=(k:Int):=by unfold kindI;rw[I]
     rw[f3] at b4;have f2:=kindOf_lt f9 I;clear I f3;have l:=Hd (fun n=>t.out.keep ((R0 d).drewN n));have Q:=t.out.cells (w':=d) (lift0 (Fr.refl _ _));obtain⟨c0,c1,c2,c3,c4,c5,D,E,J,R,T,U⟩:=Q;go_quiet (exact quiet_left (b4.out _));replace t:=Hd (l.out nq);clear l c0 c1 c2 c3 c4 c5 D E J R T U;generalize d.drewN nq=d at*;clear hc i1 i2 b4;have Q:=t.out.cells (w':=d) (lift0 (Fr.refl _ _));obtain⟨c0,c1,c2,c3,c4,c5,D,E,J,R,T,U⟩:=Q;have b5:=Hd (order_calls Ob a8 k d t.out.ord t.out.mv hn f2);go_wp2_with fail;by_cases b1:move a8 k=4
     ·exact absurd b1 d1.out.1
     rw[if_neg b1,if_neg b1] at b5;replace y:=Hd (y.out.trans (if_neg b1));have h3:move a8 k<4:=by have:=move_le ⟨a8,hn⟩ ⟨k,f2⟩;simp only at this;omega
     clear b1;generalize move a8 k=now2 at*;refine b5.out.mono ?_;rintro e w2 ⟨rfl,d9,hO⟩;replace t:=Hd (t.out.ordered d9 hO);clear d9 hO b5 c0 c1 c2 c3 c4 c5 D E J R T U d;obtain⟨d,rfl⟩:∃d,d=w2:=⟨_,rfl⟩;have Z:(k=0∧ends packed size f plain=false)∨((k=0∧ends packed size f plain=true)∨¬k=0):=by cases ends packed size f plain<;>by_cases h:k=0<;>simp[h]
     rcases Z with⟨b0,a9⟩|Z
     ·exact absurd ((d1.out.2 b0).symm.trans a9) (by decide)
     rcases Z with⟨b0,a9⟩|b0;focus
      subst b0;have c9:=Hd (ends_calls q Ob f plain _ packed size d t.out.row (by omega) true a9);replace y:=Hd (y.out.trans (if_neg (by rw[a9];simp)));clear a9;go_wp2_with fail;refine c9.out.mono ?_;rintro e w2 ⟨rfl,m,rfl⟩;replace t:=Hd (t.out.keep ((R0 d).drewN m));clear c9;generalize d.drewN m=d at*;go_wp2_with fail
     rotate_left;focus
      have ek:((k:Int)==0)=false:=by simp;omega
      replace y:=Hd (y.out.trans (if_neg (fun h=>b0 h.1)));go_wp2_with fail
     all_goals
      have d6:0<(b.drop f).length:=by rw[List.length_drop];omega
      have f7:=rd_drop (a:=f) t.out.rd (by omega);have f4:b.length-f=(b.drop f).length:=by rw[List.length_drop]
      have K:=fun W(hf:Fr (fun _=>False) d W)=>Hd (get_raws (.slice (dropP (some ⟨X,o,none⟩) r f) (b.length-f) (r-f)) (b.drop f) W (f7.keep hf) d6 (by rw[List.length_drop];omega) HW.out.2.2.2.2.1 HW.out.2.2.2.2.2.1);have h8:=slice_lI (some ⟨X,o,none⟩) b.length r f (f:Int) rfl (by omega);have e8:=get_small ((b.drop f).take 6);have b3:=get_le_len ((b.drop f).take 6);have g7:=get_le ((b.drop f).take 6);rw[List.length_take,List.length_drop] at b3;generalize get ((b.drop f).take 6)=g at*;obtain⟨⟨gk,L,A,F,G,H⟩,gn,ge⟩:=g;simp only[Head.cells] at y K e8 b3 g7;simp only at HW;obtain⟨h0,h1,e9,h2,f0,f1⟩:=e8;have d0:=Hd b3;clear f7 d6 b3 e9 f0 f1;generalize dropP (some ⟨X,o,none⟩) r f=q1 at*;have h6:=Hd f4;clear f4;have FC:=Hd (Fr.refl (fun k=>d.heap.size≤k) d).drew;have a6:=Hd (fun(W:World)(hf:Fr (fun k=>d.heap.size≤k) d W)=>t.out.cells2b hf);have z:=Hd (a6.out _ FC.out);have Q:=z.out;obtain⟨D,E⟩:=Q;have i1:(0:Int)≤(f:Int):=by omega
      go_region_held3 (fun w'=>w'.cell? ⟨q,0,none⟩=some (.slice (some ⟨X,o,none⟩) b.length r)∧w'.cell? ⟨q,1,none⟩=some (.int .i64 f))
       (first|with_reducible exact z.out|(refine a6.out _ ?_;(repeat refine Fr.setCell ?_ (.inl (by first|exact FC.out.size|exact HY.out)) _);first|exact FC.out|exact FC.out.alloc _)) ((first
       | (go_at_call 164
          first
           | (with_reducible refine (K _ (Fr.refl _ _).drew).out.mono ?_
              rintro e wc ⟨rfl,C⟩;have V:=Hd ((R0 d).drew.trans C);have FC:=Hd (lift0 (S:=fun k=>d.heap.size≤k) V.out);have z:=Hd (a6.out _ FC.out);have Q:=z.out;obtain⟨D,E⟩:=Q;clear C)
           | (with_reducible refine (K _ ((Fr.refl _ _).alloc _).drew).out.mono ?_
              rintro e wc ⟨rfl,C⟩;have HY:=Hd FC.out.size;have V:=Hd ((((R0 d).alloc _).drew).trans C);have FC:=Hd (lift0 (S:=fun k=>d.heap.size≤k) V.out);have z:=Hd (a6.out _ FC.out);have Q:=z.out;obtain⟨D,E⟩:=Q;have hz:=C.keep (heap_drew_new d _) (fun h=>h);try simp only[World.size_drew] at hz
              obtain⟨s0,s1,s2,s3,s4,s5,sf⟩:=cf6 hz rfl rfl rfl rfl rfl rfl;have d4:=Hd hz;clear hz C))))
      focus
       have hx:=heap_alloc_new wc (.cells #[.int .i64 gk,.int .i64 L,.int .i64 A,.int .i64 F,.int .i64 G,.int .i64 H] 47);have B:=Hd (M.of t.out (by omega) (lift0 (V.out.alloc (.cells #[.int .i64 gk,.int .i64 L,.int .i64 A,.int .i64 F,.int .i64 G,.int .i64 H] 47))) hx V.out.size);generalize wc.alloc (.cells #[.int .i64 gk,.int .i64 L,.int .i64 A,.int .i64 F,.int .i64 G,.int .i64 H] 47)=w6 at*;generalize wc.heap.size=z8 at*;clear hx V FC z a6 K t;obtain⟨d,rfl⟩:∃d,d=w6:=⟨_,rfl⟩
      rotate_left;focus
       have hx:=(set_in (set_in (set_in (set_in (set_in (set_in d4.out 0 (.int .i64 gk)) 1 (.int .i64 L)) 2 (.int .i64 A)) 3 (.int .i64 F)) 4 (.int .i64 G)) 5 (.int .i64 H));have hf:Fr (fun k=>d.heap.size≤k) wc ((((((wc.setCell ⟨d.heap.size,0,none⟩ (.int .i64 gk)).setCell ⟨d.heap.size,1,none⟩ (.int .i64 L)).setCell ⟨d.heap.size,2,none⟩ (.int .i64 A)).setCell ⟨d.heap.size,3,none⟩ (.int .i64 F)).setCell ⟨d.heap.size,4,none⟩ (.int .i64 G)).setCell ⟨d.heap.size,5,none⟩ (.int .i64 H)):=by
        repeat refine Fr.setCell ?_ (.inl (by simp)) _
        exact Fr.refl _ _
       have B:=Hd (M.of (c:=#[.int .i64 gk,.int .i64 L,.int .i64 A,.int .i64 F,.int .i64 G,.int .i64 H]) t.out (by omega) (FC.out.trans hf) hx (Nat.le_refl _));generalize((((((wc.setCell ⟨d.heap.size,0,none⟩ (.int .i64 gk)).setCell ⟨d.heap.size,1,none⟩ (.int .i64 L)).setCell ⟨d.heap.size,2,none⟩ (.int .i64 A)).setCell ⟨d.heap.size,3,none⟩ (.int .i64 F)).setCell ⟨d.heap.size,4,none⟩ (.int .i64 G)).setCell ⟨d.heap.size,5,none⟩ (.int .i64 H))=w6 at*;clear hx hf V FC z a6 K s0 s1 s2 s3 s4 s5 sf d4 t HY;generalize d.heap.size=z8 at*;obtain⟨d,rfl⟩:∃d,d=w6:=⟨_,rfl⟩
      all_goals
       by_cases e6:ge=0
       ·subst e6
        replace y:=Hd (y.out.trans (if_neg (by simp)));have g8:gn≤b.length-f:=by have:=d0.out rfl;omega
        obtain⟨u,b8⟩:∃u,u=f+gn:=⟨_,rfl⟩;have g6:(f:Int)+gn=(u:Int):=by omega
        have h7:u≤b.length:=by omega
        rw[←b8] at y HW;have h4:=Hd b8;clear b8 g8 d0;have q8:=B.out.b8;obtain⟨e0,e1,e2,e3,e4,e5,ef⟩:=cf6 q8 rfl rfl rfl rfl rfl rfl;clear q8;have j:=B.out.n.row;unfold RowAt at j;have D:d.cell? ⟨q,0,none⟩=some (.slice (some ⟨X,o,none⟩) b.length r):=cell_in j rfl;have E:d.cell? ⟨q,1,none⟩=some (.int .i64 f):=cell_in j rfl;have J:d.cell? ⟨q,2,none⟩=some (.int .i64 plain):=cell_in j rfl;have R:d.cell? ⟨q,3,none⟩=some (.int .i64 packed):=cell_in j rfl;have T:d.cell? ⟨q,4,none⟩=some (.int .i64 size):=cell_in j rfl;have U:d.cell? ⟨q,5,none⟩=some (ptrR Ob):=cell_in j rfl;have rf:=fun i=>frozen_in j i;clear j;go_wp2_with fail;clear e0 e1 e2 e3 e4 e5 ef D E J R T U rf;have w1:IntKind.i64.wrap ((u:Int)+A)=(u:Int)+A:=IntWalk.i64_in _ (by omega);have w2:IntKind.i64.wrap ((plain:Int)+L)=(plain:Int)+L:=IntWalk.i64_in _ (by omega);have c6:=Hd (fun v hv m(k:Int)(I:k=((u+A:Nat):Int))=>beyond_callsI packed (u+A) k I v hv (d.drewN m));have c7:=Hd (fun v hv m(k:Int)(I:k=((plain+L:Nat):Int))=>beyond_callsI size (plain+L) k I v hv (d.drewN m));cases hb1:beyond packed (u+A) with
        |true=>
          exact absurd (HW.out.2.2.2.2.2.2.1.symm.trans hb1) (by decide)
        |false=>
          cases hb2:beyond size (plain+L) with
          |true=>
            exact absurd (HW.out.2.2.2.2.2.2.2.symm.trans hb2) (by decide)
          |false=>
            replace y:=Hd (y.out.trans (if_neg (by rw[hb1,hb2];simp)));have HB:=Hd (fun m k I=>c6.out false hb1 m k I);have HC:=Hd (fun m k I=>c7.out false hb2 m k I);clear c6 c7 hb1 hb2;have l:=Hd (fun n=>B.out.keep ((R0 d).drewN n));have q8:=B.out.b8;obtain⟨e0,e1,e2,e3,e4,e5,ef⟩:=cf6 q8 rfl rfl rfl rfl rfl rfl;clear q8;have j:=B.out.n.row;unfold RowAt at j;have D:d.cell? ⟨q,0,none⟩=some (.slice (some ⟨X,o,none⟩) b.length r):=cell_in j rfl;have E:d.cell? ⟨q,1,none⟩=some (.int .i64 f):=cell_in j rfl;have J:d.cell? ⟨q,2,none⟩=some (.int .i64 plain):=cell_in j rfl;have R:d.cell? ⟨q,3,none⟩=some (.int .i64 packed):=cell_in j rfl;have T:d.cell? ⟨q,4,none⟩=some (.int .i64 size):=cell_in j rfl;have U:d.cell? ⟨q,5,none⟩=some (ptrR Ob):=cell_in j rfl;have rf:=fun i=>frozen_in j i;clear j;go_quiet (first|((with_reducible refine quiet_left (HB.out _ _ ?_));omega)|((with_reducible refine quiet_left (HC.out _ _ ?_));omega));replace B:=Hd (l.out nq);clear l e0 e1 e2 e3 e4 e5 ef D E J R T U rf;generalize d.drewN nq=d at*;clear g6;have w3:IntKind.i64.wrap ((b.length:Int)-u)=(b.length:Int)-u:=IntWalk.i64_in _ (by omega);go_wp2_with fail;have l:=Hd (fun n=>B.out.keep ((R0 d).drewN n));have q8:=B.out.b8;obtain⟨e0,e1,e2,e3,e4,e5,ef⟩:=cf6 q8 rfl rfl rfl rfl rfl rfl;clear q8;have j:=B.out.n.row;unfold RowAt at j;have D:d.cell? ⟨q,0,none⟩=some (.slice (some ⟨X,o,none⟩) b.length r):=cell_in j rfl;have E:d.cell? ⟨q,1,none⟩=some (.int .i64 f):=cell_in j rfl;have J:d.cell? ⟨q,2,none⟩=some (.int .i64 plain):=cell_in j rfl;have R:d.cell? ⟨q,3,none⟩=some (.int .i64 packed):=cell_in j rfl;have T:d.cell? ⟨q,4,none⟩=some (.int .i64 size):=cell_in j rfl;have U:d.cell? ⟨q,5,none⟩=some (ptrR Ob):=cell_in j rfl;have rf:=fun i=>frozen_in j i;clear j;go_quiet (fail);replace B:=Hd (l.out nq);clear l e0 e1 e2 e3 e4 e5 ef D E J R T U rf;generalize d.drewN nq=d at*;clear w3;by_cases b9:b.length-u<A
            ·replace y:=Hd (y.out.trans (if_pos b9))
             have hi:(b.length:Int)-u<A:=by omega
             have t:=Hd B.out.n;have Q:=t.out.cells (w':=d) (lift0 (Fr.refl _ _));obtain⟨c0,c1,c2,c3,c4,c5,D,E,J,R,T,U⟩:=Q;have q2:=t.out.b2;obtain⟨a0,a1,a2,a3,a4,a5,af⟩:=cf6 q2 rfl rfl rfl rfl rfl rfl;clear q2;go_wp2_with fail;refine bodyPost_ret (v:=.tuple #[.agg Head.none.cells,.slice none 0 0,.int .i64 u,.int .i64 1]) (by simp[Head.none,Head.cells,results,Tryz.results100,go_sem,a0,a1,a2,a3,a4,a5]) rfl ?_;rw[y.out];exact⟨t.out.fin (by((try refine Fr.drew ?_);(repeat refine Fr.setCell ?_ (.inl (by simp)) _);first|exact Fr.refl _ _|exact(Fr.refl _ _).drew)),rfl⟩
            replace y:=Hd (y.out.trans (if_neg b9));have hi:(A:Int)≤(b.length:Int)-u:=by omega
            have q8:=B.out.b8;obtain⟨e0,e1,e2,e3,e4,e5,ef⟩:=cf6 q8 rfl rfl rfl rfl rfl rfl;clear q8;have j:=B.out.n.row;unfold RowAt at j;have D:d.cell? ⟨q,0,none⟩=some (.slice (some ⟨X,o,none⟩) b.length r):=cell_in j rfl;have E:d.cell? ⟨q,1,none⟩=some (.int .i64 f):=cell_in j rfl;have J:d.cell? ⟨q,2,none⟩=some (.int .i64 plain):=cell_in j rfl;have R:d.cell? ⟨q,3,none⟩=some (.int .i64 packed):=cell_in j rfl;have T:d.cell? ⟨q,4,none⟩=some (.int .i64 size):=cell_in j rfl;have U:d.cell? ⟨q,5,none⟩=some (ptrR Ob):=cell_in j rfl;have rf:=fun i=>frozen_in j i;clear j;obtain⟨Y,b7⟩:∃Y,Y=u+A:=⟨_,rfl⟩;obtain⟨pg,f5⟩:∃pg,pg=plain+L:=⟨_,rfl⟩;have d8:(u:Int)+A=(Y:Int):=by omega
            have f6:(plain:Int)+L=(pg:Int):=by omega
            have h9:IntKind.i64.wrap ((u:Int)+A)=(Y:Int):=by rw[w1];exact d8
            have i0:IntKind.i64.wrap ((plain:Int)+L)=(pg:Int):=by rw[w2];exact f6
            have e7:A≤b.length-u:=by omega
            rw[←b7,←f5] at y;have g2:=Hd b7;clear w1 w2 f5 b9;have f8:=slice_lhI (some ⟨X,o,none⟩) b.length r u Y (u:Int) (Y:Int) rfl rfl (by omega) (by omega);rw[show Y-u=A by omega] at f8;have d2:=Hd (fun(W:World)(hr:Rd W (.slice (some ⟨X,o,none⟩) b.length r) b)=>rd_mid (a:=u) (b:=Y) hr (by omega) (by omega));have g1:=Hd (fun m c2=>Win.drop_block (some ⟨X,o,none⟩) b.length m r c2 u);generalize dropP (some ⟨X,o,none⟩) r u=q2 at*;generalize r-u=c2 at*;clear b7;go_wp2_with fail;have P:=set_in B.out.n.row 1 (.int .i64 (Y:Int));replace B:=Hd (B.out.moved (Fr.one d q 1 (.int .i64 (Y:Int))) (show RowAt (d.setCell ⟨q,1,none⟩ (.int .i64 (Y:Int))) q (.slice (some ⟨X,o,none⟩) b.length r) Y plain packed size Ob from P));generalize d.setCell ⟨q,1,none⟩ (.int .i64 (Y:Int))=d at*;clear P e0 e1 e2 e3 e4 e5 ef D E J R T U rf;have q8:=B.out.b8;have e1:=cell_in (i:=1) q8 rfl;have j:=B.out.n.row;unfold RowAt at j;have J:d.cell? ⟨q,2,none⟩=some (.int .i64 plain):=cell_in j rfl;have rf:=fun i=>frozen_in j i;have d3:=Hd j;clear q8 j;go_region;all_goals
             go_wp2_with fail;have P:=set_in d3.out 2 (.int .i64 (pg:Int));have b2:=Hd (B.out.moved ((Fr.one d q 2 (.int .i64 (pg:Int))).drew) (show RowAt (d.setCell ⟨q,2,none⟩ (.int .i64 (pg:Int))).drew q (.slice (some ⟨X,o,none⟩) b.length r) Y pg packed size Ob from P));generalize(d.setCell ⟨q,2,none⟩ (.int .i64 (pg:Int))).drew=w7 at*;clear P e1 J rf d3 B;have q2:=b2.out.n.b2;obtain⟨a0,a1,a2,a3,a4,a5,af⟩:=cf6 q2 rfl rfl rfl rfl rfl rfl;clear q2;have z:=Hd (b2.out.cells8 (w':=w7.drew) (Fr.refl _ _).drew);have Q:=z.out;obtain⟨e0,e1,e2,e3,e4,e5,D,E⟩:=Q;have i3:(0:Int)≤(u:Int):=by omega
             go_region_held3 (fun w'=>w'.cell? ⟨z8,0,none⟩=some (.int .i64 gk)∧w'.cell? ⟨z8,1,none⟩=some (.int .i64 L)∧w'.cell? ⟨z8,2,none⟩=some (.int .i64 A)∧w'.cell? ⟨z8,3,none⟩=some (.int .i64 F)∧w'.cell? ⟨z8,4,none⟩=some (.int .i64 G)∧w'.cell? ⟨z8,5,none⟩=some (.int .i64 H)∧w'.cell? ⟨q,0,none⟩=some (.slice (some ⟨X,o,none⟩) b.length r)∧w'.cell? ⟨q,1,none⟩=some (.int .i64 Y))
              (first|with_reducible exact z.out|(refine b2.out.cells8 ?_;((try refine Fr.drew ?_);(repeat refine Fr.setCell ?_ (.inl (by simp)) _);first|exact Fr.refl _ _|exact(Fr.refl _ _).drew))) (fail)
             go_wp2_with fail;refine bodyPost_ret (v:=.tuple #[.agg #[.int .i64 gk,.int .i64 L,.int .i64 A,.int .i64 F,.int .i64 G,.int .i64 H],.slice q2 A c2,.int .i64 u,.int .i64 0]) (by simp[results,Tryz.results100,go_sem,a0,a1,a2,a3,a4,a5]) rfl ?_;rw[y.out];exact M.last b2.out d2.out g1.out g2.out e7 (by((try refine Fr.drew ?_);(repeat refine Fr.setCell ?_ (.inl (by simp)) _);first|exact Fr.refl _ _|exact(Fr.refl _ _).drew))
       ·exact absurd HW.out.2.2.2.2.2.1 e6
end Ck
namespace Ck
open Mem Wire Win
def OutAt(w:World)(Vb:Nat)(v:Value):Prop:=w.heap[Vb]? =some (.cells #[v] 22 (0,0))
theorem decode1_calls(c:Nat)(u pv Q:Value)(h:Head)(out plain:List UInt8)(w0 w:World)(C:OutAt w c u)(v:Mine w0 w u out)(O:w0.heap.size≤w.heap.size)(H:Rd w pv plain)(P:out.length+plain.length≤70368744177664):
    Calls Tryz.prog 51 #[.agg h.cells,Q,pv,Lz.ptr c] w fun e G=>e=.returned (.tuple #[])∧∃ov',OutAt G c ov'∧Mine w0 G ov' (out++plain)∧Fr (fun k=>k=c∨u.ownBlock=some k) w G∧(∀k,ov'.ownBlock=some k→u.ownBlock=some k∨w.heap.size≤k):=by
  have s:=(R0 w).alloc (.cells h.cells 47);have m:=s.keep C (fun h=>h);have R:=cell_in (i:=0) m rfl;have j:∀k,u.ownBlock=some k→k≠c:=by
    intro k t e;obtain⟨B,r⟩:=Lz.own_block v.own t;rw[e,C] at r;simp at r
  have A:=Hd m;have M:=Hd (v.keep s);have N:=Hd (H.keep s);have x:=Hd s;have o:=Hd j;obtain⟨K,g,F⟩:=v.slice;subst F;unfold Head.cells at*;clear C v H s m j;go_enter Tryz.func51,Tryz.ntmps51
  go_wp2_with (at_builtin
               refine append_mine rfl _ _ rfl (w0:=w0) (.slice K out.length g) pv out plain rfl rfl M.out (Nat.le_trans O x.out.size) N.out P ?_;intro J f I L E q a b;have d:=a.keep A.out (fun(e:(Value.slice K out.length g).ownBlock=some c)=>o.out _ e rfl);have S:=cell_in (i:=0) d rfl;have T:=fun i=>frozen_in d i;have p:=Hd d;have n:=Hd q;have y:=Hd a;have z:=Hd b;clear q a b E d)
  go_end0;have l:Fr (fun k=>k=c) L (L.setCell ⟨c,0,none⟩ (.slice J I f)):=Fr.one _ _ _ _;have D:∀k,(Value.slice J I f).ownBlock=some k→¬k=c:=by
    intro k t e;obtain⟨B,r⟩:=Lz.own_block n.out.own t;have:=p.out;rw[e] at r;rw[r] at this;simp at this
  refine⟨rfl,_,set_in p.out 0 _,n.out.step l D,((x.out.mono (fun _ _ h=>h.elim)).trans (y.out.mono (fun _ _ h=>.inr h))).trans (l.mono (fun _ _ h=>.inl h)),fun k t=> ?_⟩;have:=x.out.size;exact(z.out k t).imp id (fun h=>Nat.le_trans this h)
end Ck
namespace Ck
open Mem Wire Win
structure US where
 c:Lz.C
 ps:Nat→List Nat
 pr:Nat×Nat×Nat
 out:List UInt8
def US.clear(u:US):US:={u with c:={u.c.fresh u.c.lc u.c.lp u.c.pb with all:=[]},ps:=Lz.fresh u.c.lc u.c.lp}
def US.props(u:US)(h:Head):US:={u with pr:=(h.lc,h.lp,h.pb)}
def US.reset(u:US):US:={u with c:=u.c.fresh u.pr.1 u.pr.2.1 u.pr.2.2,ps:=Lz.fresh u.pr.1 u.pr.2.1}
def US.raw(u:US)(part:List UInt8):US:={u with c:=u.c.on part,out:=u.out++part}
def US.take(u:US)(part:List UInt8)(n:Nat):Option US:=(Lz.takeAll u.c u.ps part n).map fun r=>{u with c:=r.2.2.1,ps:=r.2.2.2,out:=u.out++r.2.1}
def US.step(u:US)(h:Head)(part:List UInt8):Option US:=
 if h.kind=0∨h.kind=2 then some (u.raw part)
 else if h.kind=1 then some (u.clear.raw part)
 else if h.kind=3 then u.take part h.size
 else if h.kind=4 then u.reset.take part h.size
 else if h.kind=5 then((u.props h).reset).take part h.size
 else((u.clear.props h).reset).take part h.size
structure UAt(w0 w:World)(dB prB fB Vb:Nat)(l:Lz.L)(ov:Value)(u:US):Prop where
 d:w.heap[dB]? =some (.cells #[Lz.ptr l.D] 185 (0,0))
 pr:w.heap[prB]? =some (.cells #[.int .i64 u.pr.1,.int .i64 u.pr.2.1,.int .i64 u.pr.2.2] 24 (0,0))
 f:w.heap[fB]? =some (.cells #[.func (.func 51) #[] #[Lz.ptr Vb]] 118 (0,0))
 dec:Lz.Dec w l u.c u.ps false
 out:OutAt w Vb ov
 mine:Mine w0 w ov u.out
 tabs:St.Tabs w
 low:∀k,l.F k→w0.heap.size≤k
 five:6≤w0.heap.size
 lows:w0.heap.size≤dB∧w0.heap.size≤prB∧w0.heap.size≤fB∧w0.heap.size≤Vb
 ofs:∀k,ov.ownBlock=some k→¬l.F k
 prok:u.pr.1+u.pr.2.1≤4∧u.pr.2.2≤4
 size:w0.heap.size≤w.heap.size
theorem dec_off{w:World}{l:Lz.L}{c:Lz.C}{ps:Nat→List Nat}{p:Bool}(h:Lz.Dec w l c ps p){k:Nat}{f:Array Value}{t:TypeId}{fr:Nat×Nat}(a:w.heap[k]? =some (.cells f t fr))(b:¬Lz.owned t)(d:t≠5):¬l.F k:=by
 rintro(rfl|rfl|rfl|i|⟨j,e,rfl|rfl⟩)
 ·rw[h.d] at a
  simp only[Option.some.injEq,Obj.cells.injEq] at a;exact b (a.2.1 ▸ by decide)
 ·rw[h.tab.box] at a
  simp only[Option.some.injEq,Obj.cells.injEq] at a;exact b (a.2.1 ▸ by decide)
 ·rw[h.win.box] at a
  simp only[Option.some.injEq,Obj.cells.injEq] at a;exact b (a.2.1 ▸ by decide)
 ·obtain⟨g,n⟩:=Lz.own_block h.win.own i
  rw[n] at a;simp only[Option.some.injEq,Obj.cells.injEq] at a;exact d a.2.1.symm
 ·obtain⟨_,_,_,o,_⟩:=h.tab.set j e
  rw[o] at a;simp only[Option.some.injEq,Obj.cells.injEq] at a;exact b (a.2.1 ▸ by decide)
 ·obtain⟨_,_,m,_⟩:=h.tab.set j e
  rw[m] at a;simp only[Option.some.injEq,Obj.cells.injEq] at a;exact b (a.2.1 ▸ by decide)
theorem UAt.keep{w0 w w':World}{d b e c:Nat}{l:Lz.L}{f:Value}{u:US}(h:UAt w0 w d b e c l f u)(a:Fr (fun _=>False) w w'):UAt w0 w' d b e c l f u:=
 ⟨a.keep h.d (fun h=>h),a.keep h.pr (fun h=>h),a.keep h.f (fun h=>h),h.dec.keep0 a,a.keep h.out (fun h=>h),h.mine.keep a,h.tabs.keep a,h.low,h.five,h.lows,h.ofs,h.prok,Nat.le_trans h.size a.size⟩
theorem UAt.decd{w0 w w':World}{m e n i:Nat}{l l':Lz.L}{o:Value}{u:US}{j:Lz.C}{f:Nat→List Nat}(h:UAt w0 w m e n i l o u)(a:Fr l.F w w')(g:Lz.Nx w l l')(q:Lz.Dec w' l' j f false):UAt w0 w' m e n i l' o {u with c:=j,ps:=f}:=by
 have r:=h.size;refine⟨by rw[g.D];exact a.keep h.d (dec_off h.dec h.d (by decide) (by decide)),a.keep h.pr (dec_off h.dec h.pr (by decide) (by decide)),a.keep h.f (dec_off h.dec h.f (by decide) (by decide)),q,a.keep h.out (dec_off h.dec h.out (by decide) (by decide)),h.mine.step a h.ofs,h.tabs.step a (fun k b=>Nat.le_trans h.five (h.low k b)),fun k b=> ?_,h.five,h.lows,fun k b p=> ?_,h.prok,Nat.le_trans r a.size⟩
 ·rcases g.F k b with d|d
  ·exact h.low k d
  ·omega
 ·rcases g.F k p with d|d
  ·exact h.ofs k b d
  ·have:=h.mine.lt k b
   omega
theorem UAt.did{w0 w w':World}{o i p g:Nat}{l:Lz.L}{m d:Value}{u:US}{e:List UInt8}(h:UAt w0 w o i p g l m u)(z:OutAt w' g d)(y:Mine w0 w' d e)(b:Fr (fun k=>k=g∨m.ownBlock=some k) w w')(B:∀k,d.ownBlock=some k→m.ownBlock=some k∨w.heap.size≤k):UAt w0 w' o i p g l d {u with out:=e}:=by
 have C:=h.size;have f:∀{k:Nat}{n:Array Value}{t:TypeId}{q:Nat×Nat},w.heap[k]? =some (.cells n t q)→t≠22→t≠5→¬(k=g∨m.ownBlock=some k):=by
  intro k n t q c j x a;rcases a with a|a
  ·have r:=h.out
   unfold OutAt at r;rw[a,r] at c;simp only[Option.some.injEq,Obj.cells.injEq] at c;exact j c.2.1.symm
  ·obtain⟨v,A⟩:=Lz.own_block h.mine.own a
   rw[A] at c;simp only[Option.some.injEq,Obj.cells.injEq] at c;exact x c.2.1.symm
 refine⟨b.keep h.d (f h.d (by decide) (by decide)),b.keep h.pr (f h.pr (by decide) (by decide)),b.keep h.f (f h.f (by decide) (by decide)),h.dec.keep b (fun k c a=> ?_),z,y,h.tabs.step b (fun k a=> ?_),h.low,h.five,h.lows,fun k c s=> ?_,h.prok,Nat.le_trans C b.size⟩
 ·rcases a with a|a
  ·exact dec_off h.dec h.out (by decide) (by decide) (a ▸ c)
  ·exact h.ofs k a c
 ·have:=h.five
  have:=h.lows;rcases a with a|a
  ·omega
  ·have:=h.mine.new k a
   omega
 ·rcases B k c with j|j
  ·exact h.ofs k j s
  ·have:=h.dec.old k s
   omega
end Ck
end Go.Proofs.YtffoddpjfgjelaaGreatDoor
