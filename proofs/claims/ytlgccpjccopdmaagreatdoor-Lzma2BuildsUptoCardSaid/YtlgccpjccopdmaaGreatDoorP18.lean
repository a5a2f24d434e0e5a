/- Part 18 of 54: lemmas of the last part, each under the conditions that it names. -/
import Derived.Deep.RegionHeld3
import Derived.Deep.QuietTactic
import Derived.BigQuiet
import Derived.Deep.LoopGhost
import Derived.Deep.RegionLaw
import Derived.Test.YtlgccpjccopdmaaGreatDoorP02
import Derived.Test.YtlgccpjccopdmaaGreatDoorP03
import Derived.Test.YtlgccpjccopdmaaGreatDoorP04
import Derived.Test.YtlgccpjccopdmaaGreatDoorP16
import Derived.Test.YtlgccpjccopdmaaGreatDoorP17
set_option linter.unusedVariables false
set_option linter.unusedSimpArgs false
set_option maxRecDepth 1500
set_option maxHeartbeats 16000000
namespace Go.Proofs.YtlgccpjccopdmaaGreatDoor
open Go.RowKit
namespace Ck
open Mem Wire
abbrev ptrR(n:Nat):Value:=.pointer (some ⟨n,0,none⟩)
def NextPost(Rb Ob:Nat)(bv:Value)(packed size:Int)(w:World)(res:Except (Nat×Nat) (Head×List UInt8×Nat×Sr))(e:Ending)(w':World):Prop:=
 Fr (fun k=>k=Rb∨k=Ob) w w'∧match res with
  |.error (p,er)=>e=.returned (.tuple #[.agg Head.none.cells,.slice none 0 0,.int .i64 p,.int .i64 er])
  |.ok (h,part,fr,s2)=>∃q c,e=.returned (.tuple #[.agg h.cells,.slice q part.length c,.int .i64 fr,.int .i64 0])∧Rd w' (.slice q part.length c) part∧(∀k,(Value.slice q part.length c).ownBlock=some k→bv.ownBlock=some k)∧RowAt w' Rb bv s2.at' s2.plain packed size Ob∧OrdAt w' Ob s2.now
theorem beyond_callsI(told:Int)(n:Nat)(k:Int)(hk:k=n)(v:Bool)(hv:beyond told n=v)(w:World):Calls Tryz.prog 142 #[.int .i64 told,.int .i64 k] w fun e w'=>e=.returned (.bool v)∧w=w':=by
 subst hk
 subst hv
 exact beyond_calls told n w
theorem rd_keepT{w w':World}{v:Value}{xs:List UInt8}(h:Rd w v xs){g:Nat}{cs:Array Value}{T:TypeId}{fr:Nat×Nat}(hg:w.heap[g]? =some (.cells cs T fr))(hcs:∀(i:Nat)(n:Int),cs[i]? ≠some (Value.int .u8 n))(hfr:Fr (fun k=>k=g) w w'):Rd w' v xs:=by
 by_cases h0:0<xs.length
 ·exact h.step hfr (rd_off0 h h0 hg hcs)
 ·obtain⟨p2,cap2,e2,h1,h2,h3⟩:=h
  exact⟨p2,cap2,e2,h1,h2,fun h=>absurd h h0⟩
theorem ordV_nb(a:Int)(i:Nat)(m:Int):(#[.int .i64 a]:Array Value)[i]? ≠some (Value.int .u8 m):=by
 intro h
 have:=Array.mem_of_getElem? h
 simp at this
theorem chV_nb(a b c d e f:Int)(i:Nat)(m:Int):(#[.int .i64 a,.int .i64 b,.int .i64 c,.int .i64 d,.int .i64 e,.int .i64 f]:Array Value)[i]? ≠some (Value.int .u8 m):=by
 intro h
 have:=Array.mem_of_getElem? h
 simp at this
theorem rowV_nb(p:Option Addr)(n c at' plain:Nat)(packed size:Int)(Ob:Nat)(i:Nat)(m:Int):(rowV (.slice p n c) at' plain packed size Ob)[i]? ≠some (Value.int .u8 m):=by
 intro h
 have:=Array.mem_of_getElem? h
 simp[rowV] at this
structure N(w0 wk:World)(z2 z6 Rb Ob:Nat)(bv:Value)(b:List UInt8)(at' plain:Nat)(packed size:Int)(now:Nat):Prop where
 fr:Fr (fun k=>k=Rb∨k=Ob) w0 wk
 b2:wk.heap[z2]? =some (.cells #[.int .i64 0,.int .i64 0,.int .i64 0,.int .i64 0,.int .i64 0,.int .i64 0] 47 (0,0))
 b6:wk.heap[z6]? =some (.cells #[.int .i64 0,.int .i64 0,.int .i64 0,.int .i64 0,.int .i64 0,.int .i64 0] 47 (0,0))
 row:RowAt wk Rb bv at' plain packed size Ob
 ord:OrdAt wk Ob now
 rd:Rd wk bv b
 mv:Moves wk
 o2:w0.heap.size≤z2
 o6:w0.heap.size≤z6
 ne:z2≠z6
 five:5≤Rb∧5≤Ob
theorem N.keep{w0 wk wk':World}{z2 z6 Rb Ob:Nat}{bv:Value}{b:List UInt8}{at' plain:Nat}{packed size:Int}{now:Nat}(h:N w0 wk z2 z6 Rb Ob bv b at' plain packed size now)(hfr:Fr (fun _=>False) wk wk'):N w0 wk' z2 z6 Rb Ob bv b at' plain packed size now:=
 ⟨h.fr.trans (hfr.mono (fun _ _ h=>h.elim)),hfr.keep h.b2 (fun h=>h),hfr.keep h.b6 (fun h=>h),hfr.keep h.row (fun h=>h),hfr.keep h.ord (fun h=>h),h.rd.keep hfr,h.mv.step hfr (fun _ h=>h.elim),h.o2,h.o6,h.ne,h.five⟩
theorem N.apart{w0 wk:World}{z2 z6 Rb Ob:Nat}{bv:Value}{b:List UInt8}{at' plain:Nat}{packed size:Int}{now:Nat}(h:N w0 wk z2 z6 Rb Ob bv b at' plain packed size now):Rb≠z2∧Rb≠z6∧Rb≠Ob∧Ob≠z2∧Ob≠z6:=by
 have h1:=h.row
 have h2:=h.ord
 unfold RowAt at h1
 unfold OrdAt at h2
 refine⟨fun e=> ?_,fun e=> ?_,fun e=> ?_,fun e=> ?_,fun e=> ?_⟩
 ·rw[e,h.b2] at h1
  simp at h1
 ·rw[e,h.b6] at h1
  simp at h1
 ·rw[e,h2] at h1
  simp at h1
 ·rw[e,h.b2] at h2
  simp at h2
 ·rw[e,h.b6] at h2
  simp at h2
theorem N.ordered{w0 wk wk':World}{z2 z6 Rb Ob:Nat}{bv:Value}{b:List UInt8}{at' plain:Nat}{packed size:Int}{now now2:Nat}(h:N w0 wk z2 z6 Rb Ob bv b at' plain packed size now)(hfr:Fr (fun k=>k=Ob) wk wk')(hO:OrdAt wk' Ob now2):N w0 wk' z2 z6 Rb Ob bv b at' plain packed size now2:=by
 obtain⟨a1,a2,a3,a4,a5⟩:=h.apart
 exact⟨h.fr.trans (hfr.mono (fun i _ e=>.inr e)),hfr.keep h.b2 (fun e=>a4 e.symm),hfr.keep h.b6 (fun e=>a5 e.symm),hfr.keep h.row a3,hO,rd_keepT h.rd h.ord (ordV_nb _) hfr,h.mv.step hfr (fun k(e:k=Ob)=>by have:=h.five;omega),h.o2,h.o6,h.ne,h.five⟩
theorem N.cells{w0 wk:World}{z2 z6 Rb Ob:Nat}{bv:Value}{b:List UInt8}{at' plain:Nat}{packed size:Int}{now:Nat}(h:N w0 wk z2 z6 Rb Ob bv b at' plain packed size now){w':World}(hfr:Fr (fun k=>k=z2) wk w'):
 w'.cell? ⟨z6,0,none⟩=some (.int .i64 0)∧w'.cell? ⟨z6,1,none⟩=some (.int .i64 0)∧w'.cell? ⟨z6,2,none⟩=some (.int .i64 0)∧w'.cell? ⟨z6,3,none⟩=some (.int .i64 0)∧w'.cell? ⟨z6,4,none⟩=some (.int .i64 0)∧w'.cell? ⟨z6,5,none⟩=some (.int .i64 0)∧
  w'.cell? ⟨Rb,0,none⟩=some bv∧w'.cell? ⟨Rb,1,none⟩=some (.int .i64 at')∧w'.cell? ⟨Rb,2,none⟩=some (.int .i64 plain)∧w'.cell? ⟨Rb,3,none⟩=some (.int .i64 packed)∧w'.cell? ⟨Rb,4,none⟩=some (.int .i64 size)∧w'.cell? ⟨Rb,5,none⟩=some (ptrR Ob):=by
 obtain⟨a1,a2,a3,a4,a5⟩:=h.apart
 have h6:=hfr.keep h.b6 (fun e=>h.ne e.symm)
 have hr:=hfr.keep h.row a1
 exact⟨cell_in h6 rfl,cell_in h6 rfl,cell_in h6 rfl,cell_in h6 rfl,cell_in h6 rfl,cell_in h6 rfl,cell_in hr rfl,cell_in hr rfl,cell_in hr rfl,cell_in hr rfl,cell_in hr rfl,cell_in hr rfl⟩
theorem heap_drew_new(w:World)(o:Obj):(w.alloc o).drew.heap[w.heap.size]? =some o:=heap_alloc_new w o
theorem N.cells2b{w0 wk:World}{z2 z6 Rb Ob:Nat}{bv:Value}{b:List UInt8}{at' plain:Nat}{packed size:Int}{now:Nat}(h:N w0 wk z2 z6 Rb Ob bv b at' plain packed size now){w':World}(hfr:Fr (fun k=>wk.heap.size≤k) wk w'):w'.cell? ⟨Rb,0,none⟩=some bv∧w'.cell? ⟨Rb,1,none⟩=some (.int .i64 at'):=by
 have lr:=lt_of_block h.row
 have hr:=hfr.keep h.row (by omega)
 exact⟨cell_in hr rfl,cell_in hr rfl⟩
structure M(w0 wk:World)(z2 z6 z8 Rb Ob:Nat)(bv:Value)(b:List UInt8)(at' plain:Nat)(packed size:Int)(now:Nat)(c:Array Value):Prop where
 n:N w0 wk z2 z6 Rb Ob bv b at' plain packed size now
 b8:wk.heap[z8]? =some (.cells c 47 (0,0))
 ne:z8≠z2
theorem M.of{w0 wk w6:World}{z2 z6 z8 Rb Ob:Nat}{bv:Value}{b:List UInt8}{at' plain:Nat}{packed size:Int}{now:Nat}{c:Array Value}(h:N w0 wk z2 z6 Rb Ob bv b at' plain packed size now)(h0:0<b.length)(hf:Fr (fun k=>wk.heap.size≤k) wk w6)(hz:w6.heap[z8]? =some (.cells c 47 (0,0)))(h8:wk.heap.size≤z8):M w0 w6 z2 z6 z8 Rb Ob bv b at' plain packed size now c:=by
 have l2:=lt_of_block h.b2
 have l6:=lt_of_block h.b6
 have lr:=lt_of_block h.row
 have lo:=lt_of_block h.ord
 have hs:=h.fr.size
 refine⟨⟨h.fr.trans' hf (fun i hi(e:wk.heap.size≤i)=>by omega),hf.keep h.b2 (by omega),hf.keep h.b6 (by omega),hf.keep h.row (by omega),hf.keep h.ord (by omega),h.rd.step hf (fun k hk=>by have:=rd_lt h.rd h0 k hk;omega),?_,h.o2,h.o6,h.ne,h.five⟩,hz,by omega⟩
 obtain⟨T,fr,hm⟩:=h.mv
 exact⟨T,fr,hf.keep hm (by have:=lt_of_block hm;omega)⟩
theorem M.keep{w0 wk wk':World}{z2 z6 z8 Rb Ob:Nat}{bv:Value}{b:List UInt8}{at' plain:Nat}{packed size:Int}{now:Nat}{c:Array Value}(h:M w0 wk z2 z6 z8 Rb Ob bv b at' plain packed size now c)(hfr:Fr (fun _=>False) wk wk'):M w0 wk' z2 z6 z8 Rb Ob bv b at' plain packed size now c:=
 ⟨h.n.keep hfr,hfr.keep h.b8 (fun h=>h),h.ne⟩
theorem M.moved{w0 wk wk':World}{z2 z6 z8 Rb Ob:Nat}{p:Option Addr}{n cap:Nat}{b:List UInt8}{at' plain at2 plain2:Nat}{packed size:Int}{now:Nat}{a c d e f g:Int}(h:M w0 wk z2 z6 z8 Rb Ob (.slice p n cap) b at' plain packed size now #[.int .i64 a,.int .i64 c,.int .i64 d,.int .i64 e,.int .i64 f,.int .i64 g])(hfr:Fr (fun k=>k=Rb) wk wk')(hR:RowAt wk' Rb (.slice p n cap) at2 plain2 packed size Ob):
 M w0 wk' z2 z6 z8 Rb Ob (.slice p n cap) b at2 plain2 packed size now #[.int .i64 a,.int .i64 c,.int .i64 d,.int .i64 e,.int .i64 f,.int .i64 g]:=by
 obtain⟨a1,a2,a3,a4,a5⟩:=h.n.apart
 have h1:=h.n.row
 unfold RowAt at h1
 have h8:z8≠Rb:=fun e=>by
  have h2:=h.b8
  rw[e,h1] at h2
  simp at h2
 exact⟨⟨h.n.fr.trans (hfr.mono (fun i _ e=>.inl e)),hfr.keep h.n.b2 (fun e=>a1 e.symm),hfr.keep h.n.b6 (fun e=>a2 e.symm),hR,hfr.keep h.n.ord (fun e=>a3 e.symm),rd_keepT h.n.rd h1 (rowV_nb _ _ _ _ _ _ _ _) hfr,h.n.mv.step hfr (fun k(e:k=Rb)=>by have:=h.n.five;omega),h.n.o2,h.n.o6,h.n.ne,h.n.five⟩,hfr.keep h.b8 h8,h.ne⟩
theorem M.cells8{w0 wk:World}{z2 z6 z8 Rb Ob:Nat}{bv:Value}{b:List UInt8}{at' plain:Nat}{packed size:Int}{now:Nat}{v0 v1 v2 v3 v4 v5:Value}(h:M w0 wk z2 z6 z8 Rb Ob bv b at' plain packed size now #[v0,v1,v2,v3,v4,v5]){w':World}(hfr:Fr (fun k=>k=z2) wk w'):
 w'.cell? ⟨z8,0,none⟩=some v0∧w'.cell? ⟨z8,1,none⟩=some v1∧w'.cell? ⟨z8,2,none⟩=some v2∧w'.cell? ⟨z8,3,none⟩=some v3∧w'.cell? ⟨z8,4,none⟩=some v4∧w'.cell? ⟨z8,5,none⟩=some v5∧w'.cell? ⟨Rb,0,none⟩=some bv∧w'.cell? ⟨Rb,1,none⟩=some (.int .i64 at'):=by
 have h8:=hfr.keep h.b8 h.ne
 have hr:=hfr.keep h.n.row h.n.apart.1
 exact⟨cell_in h8 rfl,cell_in h8 rfl,cell_in h8 rfl,cell_in h8 rfl,cell_in h8 rfl,cell_in h8 rfl,cell_in hr rfl,cell_in hr rfl⟩
theorem N.fin{w0 wk:World}{z2 z6 Rb Ob:Nat}{bv:Value}{b:List UInt8}{at' plain:Nat}{packed size:Int}{now:Nat}(h:N w0 wk z2 z6 Rb Ob bv b at' plain packed size now){w':World}(hfr:Fr (fun k=>k=z2) wk w'):Fr (fun k=>k=Rb∨k=Ob) w0 w':=
 h.fr.trans' hfr (fun i hi(e:i=z2)=>by have:=h.o2;omega)
theorem M.last{w0 wk w':World}{z2 z6 z8 Rb Ob:Nat}{bp:Option Addr}{cap:Nat}{b:List UInt8}{fg pg fm gp gk gs glc glp gpb c2:Nat}{q2:Option Addr}{packed size:Int}{now:Nat}{c:Array Value}(h:M w0 wk z2 z6 z8 Rb Ob (.slice bp b.length cap) b fg pg packed size now c)
 (hmid:∀(W:World),Rd W (.slice bp b.length cap) b→Rd W (.slice q2 (fg-fm) c2) ((b.drop fm).take (fg-fm)))(hdb:∀m c3,(Value.slice q2 m c3).ownBlock=(Value.slice bp b.length cap).ownBlock)(hfg:fg=fm+gp)(hg:gp≤b.length-fm)(hfr:Fr (fun k=>k=z2) wk w'):
 NextPost Rb Ob (.slice bp b.length cap) packed size w0 (.ok (⟨gk,gs,gp,glc,glp,gpb⟩,(b.drop fm).take gp,fm,⟨fg,pg,now⟩)) (.returned (.tuple #[.agg #[.int .i64 gk,.int .i64 gs,.int .i64 gp,.int .i64 glc,.int .i64 glp,.int .i64 gpb],.slice q2 gp c2,.int .i64 fm,.int .i64 0])) w':=by
 have hlen:((b.drop fm).take gp).length=gp:=by rw[List.length_take,List.length_drop];omega
 have e:fg-fm=gp:=by omega
 have hR:=hmid wk h.n.rd
 rw[e] at hR
 refine⟨h.n.fin hfr,q2,c2,by rw[hlen];rfl,?_,fun k hk=>by rw[←hdb];exact hk,hfr.keep h.n.row h.n.apart.1,hfr.keep h.n.ord h.n.apart.2.2.2.1⟩
 rw[hlen]
 exact rd_keepT hR h.n.b2 (chV_nb 0 0 0 0 0 0) hfr
theorem lift0{S:Nat→Prop}{w w':World}(h:Fr (fun _=>False) w w'):Fr S w w':=h.mono (fun _ _ h=>h.elim)
end Ck
namespace Ck
open Mem Wire Win
def ownedU(t:TypeId):Prop:=t=163∨t=24∨t=104∨Lz.owned t∨t=22∨t=5
instance (t:TypeId):Decidable (ownedU t):=by unfold ownedU;infer_instance
theorem UAt.other{S:Nat→Prop}{w0 w w':World}{dB prB fB Vb:Nat}{l:Lz.L}{ov:Value}{u:US}(h:UAt w0 w dB prB fB Vb l ov u)(hfr:Fr S w w')(hS:∀k cs t fr,w.heap[k]? =some (.cells cs t fr)→ownedU t→¬S k)(h5:∀k,S k→5≤k):UAt w0 w' dB prB fB Vb l ov u:=by
 refine⟨hfr.keep h.d (hS _ _ _ _ h.d (by decide)),hfr.keep h.pr (hS _ _ _ _ h.pr (by decide)),hfr.keep h.f (hS _ _ _ _ h.f (by decide)),h.dec.keep hfr (fun k hk=> ?_),hfr.keep h.out (hS _ _ _ _ h.out (by decide)),h.mine.step hfr (fun k hk=> ?_),h.tabs.step hfr h5,h.low,h.five,h.lows,h.ofs,h.prok,Nat.le_trans h.size hfr.size⟩
 ·rcases hk with rfl|rfl|rfl|hF|⟨j,hj,rfl|rfl⟩
  ·exact hS _ _ _ _ h.dec.d (by decide)
  ·exact hS _ _ _ _ h.dec.tab.box (by decide)
  ·exact hS _ _ _ _ h.dec.win.box (by decide)
  ·obtain⟨cur,hc⟩:=Lz.own_block h.dec.win.own hF
   exact hS _ _ _ _ hc (by decide)
  ·obtain⟨_,_,_,hg,_⟩:=h.dec.tab.set j hj
   exact hS _ _ _ _ hg (by decide)
  ·obtain⟨_,_,hb,_⟩:=h.dec.tab.set j hj
   exact hS _ _ _ _ hb (by decide)
 ·obtain⟨cur,hc⟩:=Lz.own_block h.mine.own hk
  exact hS _ _ _ _ hc (by decide)
theorem ug_off{w0 w:World}{dB prB fB Vb:Nat}{l:Lz.L}{ov:Value}{u:US}(h:UAt w0 w dB prB fB Vb l ov u){k:Nat}{cs:Array Value}{t:TypeId}{fr:Nat×Nat}(hk:w.heap[k]? =some (.cells cs t fr))(ht:¬ownedU t):¬UG prB Vb l ov k:=by
 have h1:¬Lz.owned t:=fun e=>ht (.inr (.inr (.inr (.inl e))))
 have h2:t≠5:=fun e=>ht (.inr (.inr (.inr (.inr (.inr e)))))
 rintro(e|e|e|e)
 ·rw[e,h.pr] at hk
  simp only[Option.some.injEq,Obj.cells.injEq] at hk
  exact ht (.inr (.inl hk.2.1.symm))
 ·have h3:=h.out
  unfold OutAt at h3
  rw[e,h3] at hk
  simp only[Option.some.injEq,Obj.cells.injEq] at hk
  exact ht (.inr (.inr (.inr (.inr (.inl hk.2.1.symm)))))
 ·exact dec_off h.dec hk h1 h2 e
 ·obtain⟨cur,hc⟩:=Lz.own_block h.mine.own e
  rw[hc] at hk
  simp only[Option.some.injEq,Obj.cells.injEq] at hk
  exact h2 hk.2.1.symm
theorem readP_succ(b:List UInt8)(packed size:Int)(f:Nat)(s:Sr)(u:US):readP b packed size (f+1) s u=
 if s.now=3 then .ok (s.at',u)
 else match nextP b packed size s with
  |.error x=>.error x
  |.ok (h,part,fr,s2)=>match u.step h part with
    |none=>.error (fr,2)
    |some u2=>readP b packed size f s2 u2:=rfl
def ReadPost(w0 w:World)(dB prB fB Vb:Nat)(res:Except (Nat×Nat) (Nat×US))(e:Ending)(w':World):Prop:=
 Fr (fun k=>w0.heap.size≤k) w w'∧match res with
  |.error (p,er)=>er≠0∧e=.returned (.tuple #[.int .i64 p,.int .i64 er])
  |.ok (n,u2)=>e=.returned (.tuple #[.int .i64 n,.int .i64 0])∧∃l2 ov2,UAt w0 w' dB prB fB Vb l2 ov2 u2
structure RdL(b:List UInt8)(packed size:Int)(w0 w:World)(dB prB fB Vb Rb Ob:Nat)(bv:Value)(f0:Nat)(u0:US)(f:Nat)(wr:World)(s:Sr)(u:US)(l:Lz.L)(ov:Value):Prop where
 go:readP b packed size f0 ⟨0,0,0⟩ u0=readP b packed size f s u
 fuel:b.length-s.at'<f
 le:s.at'≤b.length
 now:s.now<4
 row:RowAt wr Rb bv s.at' s.plain packed size Ob
 ord:OrdAt wr Ob s.now
 U:UAt w0 wr dB prB fB Vb l ov u
 fr:Fr (fun k=>w0.heap.size≤k) w wr
 rd:Rd wr bv b
 mv:Moves wr
 bp:s.plain≤2097152*s.at'
 ba:u.c.all.length≤2097152*s.at'
 bo:u.out.length≤2097152*s.at'
end Ck
namespace Ck
open Mem Wire Win
def US.start(dict:Nat):US:=⟨⟨0,0,0,St.S.new,dict,[]⟩,Lz.fresh 0 0,(0,0,0),[]⟩
def unpackP(b:List UInt8)(dict packed size:Int):Except (Nat×Nat) (Nat×List UInt8):=
 if dict<1∨4294967295<dict∨packed< -1∨size< -1 then .error (0,7)
 else match readP b packed size (b.length+2) ⟨0,0,0⟩ (US.start dict.toNat) with
  |.error x=>.error x
  |.ok (n,u)=>.ok (n,u.out)
def UnpackPost(w0 w:World)(Vb:Nat)(res:Except (Nat×Nat) (Nat×List UInt8))(e:Ending)(w':World):Prop:=
 Fr (fun k=>w0.heap.size≤k) w w'∧match res with
  |.error (p,er)=>er≠0∧e=.returned (.tuple #[.int .i64 p,.int .i64 er])
  |.ok (n,out)=>e=.returned (.tuple #[.int .i64 n,.int .i64 0])∧∃ov,OutAt w' Vb ov∧Mine w0 w' ov out
set_option maxRecDepth 100000 in
def DecodePost(w:World)(res:Except (Nat×Nat) (Nat×List UInt8))(e:Ending)(w':World):Prop:=
 Fr (fun _=>False) w w'∧match res with
  |.error (p,er)=>er≠0∧e=.returned (.tuple #[.slice none 0 0,.int .i64 p,.int .i64 er])
  |.ok (n,out)=>∃v,e=.returned (.tuple #[v,.int .i64 n,.int .i64 0])∧Mine w w' v out
end Ck
namespace Ga
open Mem Win
structure Own(T:TypeId)(z:Nat)(w0 w:World)(v:Value)(n:Nat)(xs:List Value):Prop where
 own:w.ownsRow 0 T z v n xs
 new:∀k,v.ownBlock=some k→w0.heap.size≤k
theorem Own.nil(T:TypeId)(z:Nat)(w0 w:World):Own T z w0 w (.slice none 0 0) 0 []:=⟨World.ownsRow_nil _ _ _ _,fun k hk=>by simp[Value.ownBlock] at hk⟩
theorem Own.step{S:Nat→Prop}{T:TypeId}{z n:Nat}{w0 w w':World}{v:Value}{xs:List Value}(h:Own T z w0 w v n xs)(hfr:Fr S w w')(hS:∀k,v.ownBlock=some k→¬S k):Own T z w0 w' v n xs:=⟨Lz.own_stepN h.own hfr hS,h.new⟩
theorem Own.keep{T:TypeId}{z n:Nat}{w0 w w':World}{v:Value}{xs:List Value}(h:Own T z w0 w v n xs)(hfr:Fr (fun _=>False) w w'):Own T z w0 w' v n xs:=h.step hfr (fun _ _ h=>h)
theorem Own.lt{T:TypeId}{z n:Nat}{w0 w:World}{v:Value}{xs:List Value}(h:Own T z w0 w v n xs):∀k,v.ownBlock=some k→k<w.heap.size:=fun k hk=>(World.ownsRow.lt h.own k hk).2
theorem Own.block{T:TypeId}{z n:Nat}{w0 w:World}{v:Value}{xs:List Value}(h:Own T z w0 w v n xs){k:Nat}(hk:v.ownBlock=some k):∃cur,w.heap[k]? =some (.cells cur T (0,0)):=Lz.own_block h.own hk
theorem Own.off{T t:TypeId}{z n i:Nat}{w0 w:World}{v:Value}{xs:List Value}{cs:Array Value}{fr:Nat×Nat}(h:Own T z w0 w v n xs)(hi:w.heap[i]? =some (.cells cs t fr))(ht:t≠T):v.ownBlock≠some i:=by
 intro hk
 obtain⟨cur,hc⟩:=h.block hk
 rw[hi] at hc
 simp only[Option.some.injEq,Obj.cells.injEq] at hc
 exact ht hc.2.1
theorem Own.slice{T:TypeId}{z n:Nat}{w0 w:World}{v:Value}{xs:List Value}(h:Own T z w0 w v n xs):∃p cap,v=.slice p n cap:=by
 rcases h.own.2 with⟨hn,h0⟩|⟨g,cap,cur,hgv,_⟩
 ·exact⟨none,0,by rw[hn,h0]⟩
 ·exact⟨_,cap,hgv⟩
theorem Own.of_mine{w0 w:World}{v:Value}{xs:List UInt8}(h:Mine w0 w v xs):Own 5 1 w0 w v xs.length (bvs xs):=⟨h.own,h.new⟩
theorem Own.cell{T:TypeId}{z n cap i:Nat}{w0 w:World}{p:Option Addr}{xs:List Value}{u:Value}(h:Own T z w0 w (.slice p n cap) n xs)(hi:xs[i]? =some u):∃g,p=some ⟨g,0,none⟩∧w.cell? ⟨g,i,none⟩=some u:=by
 obtain⟨h1,h2⟩:=h.own
 rcases h2 with⟨hn,h0⟩|⟨g,cap',cur,hgv,_,hg,hle,hm,hcs,ht⟩
 ·subst h0
  rw[Nat.zero_mul] at h1
  rw[List.eq_nil_of_length_eq_zero h1] at hi
  simp at hi
 ·simp only[Value.slice.injEq] at hgv
  refine⟨g,hgv.1,cell_in hg ?_⟩
  have hlt:i<n*z:=by
   rw[←h1]
   exact(List.getElem?_eq_some_iff.1 hi).1
  rw[←ht,List.getElem?_take,if_pos hlt,Array.getElem?_toList] at hi
  exact hi
theorem infoInt:(Tryz.prog.info? 3).map (fun i=>(i.zero,i.size,i.bytes))=some (some (.int .i64 0),1,8):=by kernel_rfl
theorem append_own{ops:Array Oper}{rest:List Oper}{o:Oper}{a:Act}{Q:Exit→Act→World→Prop}(hgd:o.guard=none)(s y:Operand){T t:TypeId}{z bytes n:Nat}{zero:Value}
 (ho:o.op=.call {callee:=.builtin .append,args:=#[s,y],argTypes:=#[t,t]})(hu:Tryz.prog.underlying t=some (.slice T))(hinfo:(Tryz.prog.info? T).map (fun i=>(i.zero,i.size,i.bytes))=some (some zero,z,bytes))(hzs:zero.cells.size=z)(hz0:0<z)(hby:bytes≤64)
 {w0 w:World}(v:Value)(xs:List Value)(cs:Array Value)(B:Nat)(hv:a.eval s=v)(hx:a.eval y=.slice (some ⟨B,0,none⟩) 1 1)(hm:Own T z w0 w v n xs)(hle:w0.heap.size≤w.heap.size)
 (hB:w.heap[B]? =some (.cells cs T (0,0)))(hcz:cs.size=z)(h1:∀u ∈ cs.toList,u.oneCell'=true)(hb:n≤1099511627776)
 (h:∀v' w',Own T z w0 w' v' (n+1) (xs++cs.toList)→Fr (fun k=>v.ownBlock=some k) w w'→(∀k,v'.ownBlock=some k→v.ownBlock=some k∨w.heap.size≤k)→wpList Tryz.prog ops Q rest (a.put o.dst v') w'):
 wpList Tryz.prog ops Q (o::rest) a w:=by
 obtain⟨i0,hi,hz0',hz1,hz2⟩:=info_parts hinfo
 refine wpList_append_any w hgd s y t t ho T i0 _ z bytes hu hi hz0' hz1 hz2 hzs hz0 v n xs hv hm.own _ 1 cs.toList hx (Src.ofSlice w hu ⟨B,0,none⟩ 1 1 cs.toList (by simp[hcz]) (fun j u hu'=> ?_) h1) (by simp only[maxLen];omega) ?_ ?_
 ·rw[add_mid,Nat.zero_add]
  exact cell_in hB (by simpa using hu')
 ·have:(n+1)*bytes≤(n+1)*64:=Nat.mul_le_mul_left _ hby
  omega
 intro v' w' hown hfr hnew _
 refine h v' w' ⟨hown,fun k hk=> ?_⟩ hfr hnew
 rcases hnew k hk with h|h
 ·exact hm.new k h
 ·omega
end Ga
namespace Cs
open Mem Wire Win Ck Ga
end Cs
namespace Cs
open Mem Wire Win Ck Ga
end Cs
namespace Cs
open Mem Wire Win Ck Ga
end Cs
namespace Ck
open Mem Wire Win
end Ck
namespace Cs
open Mem Wire Win Ck Ga
end Cs
namespace Cs
open Mem Wire Win Ck Ga
end Cs
namespace En
open Mem Rc St Lz Ck
abbrev Pr:=Nat×Nat×Nat
def Xe.start(dict:Nat):Xe:=⟨⟨0,0,0,S.new,dict,[]⟩,⟨K.new,Lz.fresh 0 0⟩⟩
def Xe.clear(x:Xe):Xe:=⟨{x.c.fresh x.c.lc x.c.lp x.c.pb with all:=[]},⟨K.new,Lz.fresh x.c.lc x.c.lp⟩⟩
def Xe.reset(x:Xe)(pr:Pr):Xe:=⟨x.c.fresh pr.1 pr.2.1 pr.2.2,⟨K.new,Lz.fresh pr.1 pr.2.1⟩⟩
def Xe.cut(x:Xe):Xe:=⟨x.c,⟨K.new,x.e.ps⟩⟩
def Xe.raw(x:Xe)(l:List UInt8):Xe:=⟨x.c.on l,x.e⟩
structure Pt where
 kind:Nat
 pr:Pr
 ys:List Sy
 raw:List UInt8
def Pt.prep(p:Pt)(x:Xe)(pr:Pr):Xe×Pr:=
 if p.kind=1 then(x.clear,pr) else if p.kind≤3 then(x,pr) else if p.kind=4 then(x.reset pr,pr) else if p.kind=5 then(x.reset p.pr,p.pr) else(x.clear.reset p.pr,p.pr)
def Pt.bytes(p:Pt)(x:Xe):List UInt8:=if p.kind≤2 then p.raw else(x.putAll p.ys).e.k.bytes
def Pt.plain(p:Pt)(x:Xe):List UInt8:=if p.kind≤2 then p.raw else x.made p.ys
def Pt.after(p:Pt)(x:Xe):Xe:=if p.kind≤2 then x.raw p.raw else(x.putAll p.ys).cut
def Pt.head(p:Pt)(x:Xe):Head:=if p.kind<5 then⟨p.kind,(p.plain x).length,(p.bytes x).length,0,0,0⟩ else⟨p.kind,(p.plain x).length,(p.bytes x).length,p.pr.1,p.pr.2.1,p.pr.2.2⟩
theorem k_new:K.new.Ok:=⟨by decide,by decide,by decide⟩
theorem fresh_ok(lc lp:Nat):(⟨K.new,Lz.fresh lc lp⟩:Es).Ok lc lp:=
 ⟨k_new,fun j _ p hp=>by rw[List.eq_of_mem_replicate hp];decide,fun j _=>List.length_replicate⟩
end En
namespace Enc
open Mem Win
def NewP(w:World)(e:Ending)(w':World):Prop:=∃b',e=.returned (.pointer (some ⟨b',0,none⟩))∧Fr (fun _=>False) w w'∧w.heap.size≤b'
theorem src_set{w:World}{b g:Nat}{ps:List Nat}(h:Prob.SetAt w b g ps):∃cap,w.heap[b]? =some (.cells #[.slice (some ⟨g,0,none⟩) ps.length cap] 305 (0,0))∧
 Src Tryz.prog 1 81 (.slice (some ⟨g,0,none⟩) ps.length cap) ps.length (ps.map (fun p:Nat=>Value.int .i64 (p:Int))) w:=by
 obtain⟨cap,cs,h1,h2,h3,h4,h5,h6⟩:=h
 refine⟨cap,h1,Src.ofSlice w Tryz.underlying81 ⟨g,0,none⟩ ps.length cap _ (by simp) (fun j u hj=> ?_) (fun u hu=> ?_)⟩
 ·rw[List.getElem?_map] at hj
  cases hp:ps[j]? with
  |none=>rw[hp] at hj;cases hj
  |some p=>
    rw[hp] at hj
    cases hj
    have:=cell_in h2 (h5 j p hp).1
    simp only[Addr.add,Nat.zero_add]
    split
    ·rename_i hj0
     subst hj0
     exact this
    ·exact this
 ·obtain⟨x,_,rfl⟩:=List.mem_map.1 hu
  rfl
theorem setFork_calls(b g:Nat)(ps:List Nat)(w:World)(h:Prob.SetAt w b g ps)(hn:ps.length≤1048576):Calls Tryz.prog 156 #[.pointer (some ⟨b,0,none⟩)] w (NewP w):=by
 obtain⟨i0,hi,hz0,hz1,hz2⟩:=info_parts Prob.infoInt
 obtain⟨cap,hb,hsrc⟩:=src_set h
 have hb0:w.cell? ⟨b,0,none⟩=some (.slice (some ⟨g,0,none⟩) ps.length cap):=cell_in hb rfl
 have HSRC:=Hd hsrc
 clear hsrc h hb
 go_enter Tryz.func156,Tryz.ntmps156
 go_wp2_with (at_builtin;refine wpList_append_any _ rfl _ _ 81 81 rfl 3 i0 (.int .i64 0) 1 8 Tryz.underlying81 hi hz0 hz1 hz2 rfl (by decide) (.slice none 0 0) 0 [] rfl (World.ownsRow_nil _ _ _ _) _ _ _ rfl HSRC.out (by simp only[maxLen];omega) (by omega) ?_;intro v' w1 hown1 hfr1 hnew1 hnil1;obtain⟨p',cap',rfl⟩:=own_slice hown1)
 go_ret
 exact⟨w1.heap.size,rfl,(hfr1.mono (fun i _ h=>by simp[Value.ownBlock] at h)).alloc _,hfr1.size⟩
theorem winFork_calls(B size t:Nat)(rv:Value)(all ring:List UInt8)(w:World)(h:At w B rv size all ring t)(hr:ring.length≤70368744177664):
 Calls Tryz.prog 107 #[.pointer (some ⟨B,0,none⟩)] w fun e w'=>∃b' rv',e=.returned (.pointer (some ⟨b',0,none⟩))∧Fr (fun _=>False) w w'∧w.heap.size≤b'∧At w' b' rv' size all ring t∧(∀k,rv'.ownBlock=some k→w.heap.size≤k):=by
 obtain⟨p,cap,rfl⟩:=h.slice
 have HH:=Hd h
 have hlB:=lt_of_block h.box
 have c0:w.cell? ⟨B,0,none⟩=some (.int .i64 size):=cell_in h.box rfl
 have c1:w.cell? ⟨B,1,none⟩=some (.slice p ring.length cap):=cell_in h.box rfl
 have c2:w.cell? ⟨B,2,none⟩=some (.int .i64 t):=cell_in h.box rfl
 have c3:w.cell? ⟨B,3,none⟩=some (.int .i64 all.length):=cell_in h.box rfl
 clear h
 have hsz:=(w.alloc (.cells #[.int .i64 size,.slice p ring.length cap,.int .i64 t,.int .i64 all.length] 178)).heap.size
 have hm0:Mine w ((w.alloc (.cells #[.int .i64 size,.slice p ring.length cap,.int .i64 t,.int .i64 all.length] 178)).alloc (.cells #[] 5)) (.slice (some ⟨w.heap.size+1,0,none⟩) 0 0) []:=by
  have h1:=World.ownsRow_made (base:=0) (e:=5) (size:=1) (w.alloc (.cells #[.int .i64 size,.slice p ring.length cap,.int .i64 t,.int .i64 all.length] 178)) #[] 0 (Nat.zero_le _) (by decide) rfl
  rw[World.size_alloc] at h1
  refine⟨h1,fun k hk=> ?_⟩
  simp only[Value.ownBlock,Option.some.injEq] at hk
  omega
 have HM0:=Hd hm0
 have hf0:Fr (fun _=>False) w ((w.alloc (.cells #[.int .i64 size,.slice p ring.length cap,.int .i64 t,.int .i64 all.length] 178)).alloc (.cells #[] 5)):=((Fr.refl _ w).alloc _).alloc _
 have HF0:=Hd hf0
 have hx0:=((Fr.refl (fun _=>False) (w.alloc (.cells #[.int .i64 size,.slice p ring.length cap,.int .i64 t,.int .i64 all.length] 178))).alloc (.cells #[] 5)).keep (heap_alloc_new w (.cells #[.int .i64 size,.slice p ring.length cap,.int .i64 t,.int .i64 all.length] 178)) (fun h=>h)
 have HX0:=Hd hx0
 have hrd0:Rd ((w.alloc (.cells #[.int .i64 size,.slice p ring.length cap,.int .i64 t,.int .i64 all.length] 178)).alloc (.cells #[] 5)) (.slice p ring.length cap) ring:=HH.out.rd.keep hf0
 have HR0:=Hd hrd0
 have hRL:=Hd hr
 obtain⟨rl,hrl⟩:∃rl,rl=ring.length:=⟨_,rfl⟩
 have HRL:=Hd hrl
 rw[←hrl] at c1
 clear hm0 hf0 hx0 hrd0 hr hsz hrl
 go_enter Tryz.func107,Tryz.ntmps107
 go_wp2_with (at_builtin;refine append_mine rfl _ _ rfl (w0:=w) (.slice (some ⟨w.heap.size+1,0,none⟩) 0 0) (.slice p rl cap) [] ring rfl rfl (by rw[HRL.out];exact HM0.out) (by rw[HRL.out];exact HF0.out.size) (by rw[HRL.out];exact HR0.out) (by have:=hRL.out;simp only[List.length_nil];omega) ?_;intro p2 cap2 n2 w2 hn2 hM2 hfr2 hnew2;have hx2:=hfr2.keep (by rw[HRL.out];exact HX0.out) (fun h=>by simp[Value.ownBlock] at h);have z1:=cell_in (i:=1) hx2 rfl;have zf:=frozen_in hx2 1;have HX2:=Hd hx2;have HM2:=Hd hM2;have HF2:=Hd hfr2;have HN2:=Hd hnew2;have HL2:=Hd hn2;clear hx2 hM2 hfr2 hnew2 hn2)
 go_ret
 have hM2:=HM2.out
 rw[List.nil_append] at hM2
 have hl2:=HL2.out
 rw[List.length_nil,Nat.zero_add] at hl2
 subst hl2
 have hne:∀k,(Value.slice p2 ring.length cap2).ownBlock=some k→w.heap.size+1≤k:=fun k hk=>by
  rcases HN2.out k hk with h|h
  ·simp only[Value.ownBlock,Option.some.injEq] at h
   omega
  ·rw[World.size_alloc,World.size_alloc] at h
   omega
 refine⟨w.heap.size,.slice p2 ring.length cap2,rfl,?_,Nat.le_refl _,⟨?_,?_,HH.out.of,HH.out.pos,HH.out.top,HH.out.much,fun k hk=>by have:=hne k hk;omega⟩,fun k hk=>by have:=hne k hk;omega⟩
 ·exact(HF0.out.trans' (by have:=HF2.out;rw[HRL.out] at this;exact this) (fun i hi(h:(Value.slice (some ⟨w.heap.size+1,0,none⟩) 0 0).ownBlock=some i)=>by
   simp only[Value.ownBlock,Option.some.injEq] at h
   omega)).setCell (.inr (Nat.le_refl _)) _
 ·rw[set_in HX2.out]
  rfl
 ·exact ownsRow_setCell_other hM2.own (fun h=>by
   have:=hne _ h
   simp only at this
   omega) _
theorem encNew_calls(w:World):Calls Tryz.prog 59 #[] w fun e w'=>e=.returned (.pointer (some ⟨w.heap.size,0,none⟩))∧Fr (fun _=>False) w w'∧w'.heap[w.heap.size]? =some (.cells #[.int .u64 0,.int .u32 4294967295,.int .u8 0,.int .i64 0,.slice none 0 0] 191 (0,0)):=by
 go_enter Tryz.func59,Tryz.ntmps59
 go_wp2_with fail
 go_ret
 exact⟨rfl,(Fr.refl _ w).alloc _,heap_alloc_new w _⟩
theorem encFork_calls(B:Nat)(w:World)(h:w.heap[B]? =some (.cells #[.int .u64 0,.int .u32 4294967295,.int .u8 0,.int .i64 0,.slice none 0 0] 191 (0,0))):Calls Tryz.prog 108 #[.pointer (some ⟨B,0,none⟩)] w (NewP w):=by
 have hlB:=lt_of_block h
 obtain⟨c0,c1,c2,c3,c4⟩:=cs5 h rfl rfl rfl rfl rfl
 have HH:=Hd h
 clear h
 have hmk:∀w:World,(Instr.makeSlice 22 (.int .i64 0) (.int .i64 8)).run Tryz.prog w=.ok (.slice (some ⟨w.heap.size,0,none⟩) 0 8) (w.alloc (.cells (Array.replicate 8 (.int .u8 0)) 5)):=fun _=>by kernel_rfl
 go_enter Tryz.func108,Tryz.ntmps108
 go_wp2_with fail
 go_region
 all_goals go_wp2_with fail
 all_goals go_ret
 all_goals exact⟨w.heap.size,rfl,(((Fr.refl _ w).alloc _).alloc _).drew,Nat.le_refl _⟩
end Enc
end Go.Proofs.YtlgccpjccopdmaaGreatDoor
