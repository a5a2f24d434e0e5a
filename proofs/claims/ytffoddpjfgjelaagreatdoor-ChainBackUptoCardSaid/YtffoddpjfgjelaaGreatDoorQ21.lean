/- Part 21 of 48: lemmas of the last part, each under the conditions that it names. -/
import Derived.Deep.RegionHeld3
import Derived.Deep.QuietTactic
import Derived.BigQuiet
import Derived.Test.YtffoddpjfgjelaaGreatDoorQ18
set_option linter.unusedVariables false
set_option linter.unusedSimpArgs false
set_option maxRecDepth 1500
set_option maxHeartbeats 16000000
namespace Go.Proofs.YtffoddpjfgjelaaGreatDoor
open Go.RowKit
namespace Ck
open Mem Wire
abbrev ptrR(n:Nat):Value:=.pointer (some ⟨n,0,none⟩)
def NextPost(Rb Ob:Nat)(bv:Value)(packed size:Int)(w:World)(res:Except (Nat×Nat) (Head×List UInt8×Nat×Sr))(e:Ending)(w':World):Prop:=
 Fr (fun k=>k=Rb∨k=Ob) w w'∧match res with
  |.error (p,er)=>e=.returned (.tuple #[.agg Head.none.cells,.slice none 0 0,.int .i64 p,.int .i64 er])
  |.ok (h,part,fr,s2)=>∃q c,e=.returned (.tuple #[.agg h.cells,.slice q part.length c,.int .i64 fr,.int .i64 0])∧Rd w' (.slice q part.length c) part∧(∀k,(Value.slice q part.length c).ownBlock=some k→bv.ownBlock=some k)∧RowAt w' Rb bv s2.at' s2.plain packed size Ob∧OrdAt w' Ob s2.now
theorem beyond_callsI(told:Int)(n:Nat)(k:Int)(hk:k=n)(v:Bool)(hv:beyond told n=v)(w:World):Calls Tryz.prog 160 #[.int .i64 told,.int .i64 k] w fun e w'=>e=.returned (.bool v)∧w=w':=by
 subst hk
 subst hv
 exact beyond_calls told n w
theorem rd_keepT{w w':World}{v:Value}{xs:List UInt8}(h:Rd w v xs){g:Nat}{cs:Array Value}{T:TypeId}{fr:Nat×Nat}(hg:w.heap[g]? =some (.cells cs T fr))(hcs:∀(i:Nat)(n:Int),cs[i]? ≠some (Value.int .u8 n))(hfr:Fr (fun k=>k=g) w w'):Rd w' v xs:=by
 by_cases h0:0<xs.length
 ·exact h.step hfr (rd_off0 h h0 hg hcs)
 ·obtain⟨p2,cap2,e2,h1,h2,h3⟩:=h
  exact⟨p2,cap2,e2,h1,h2,fun h=>absurd h h0⟩
theorem ordV_nb(a:Int)(i:Nat)(m:Int):(#[.int .i64 a]:Array Value)[i]? ≠some (Value.int .u8 m):=by
 intro h
 have:=Array.mem_of_getElem? h
 simp at this
theorem chV_nb(a b c d e f:Int)(i:Nat)(m:Int):(#[.int .i64 a,.int .i64 b,.int .i64 c,.int .i64 d,.int .i64 e,.int .i64 f]:Array Value)[i]? ≠some (Value.int .u8 m):=by
 intro h
 have:=Array.mem_of_getElem? h
 simp at this
theorem rowV_nb(p:Option Addr)(n c at' plain:Nat)(packed size:Int)(Ob:Nat)(i:Nat)(m:Int):(rowV (.slice p n c) at' plain packed size Ob)[i]? ≠some (Value.int .u8 m):=by
 intro h
 have:=Array.mem_of_getElem? h
 simp[rowV] at this
structure N(w0 wk:World)(z2 z6 Rb Ob:Nat)(bv:Value)(b:List UInt8)(at' plain:Nat)(packed size:Int)(now:Nat):Prop where
 fr:Fr (fun k=>k=Rb∨k=Ob) w0 wk
 b2:wk.heap[z2]? =some (.cells #[.int .i64 0,.int .i64 0,.int .i64 0,.int .i64 0,.int .i64 0,.int .i64 0] 47 (0,0))
 b6:wk.heap[z6]? =some (.cells #[.int .i64 0,.int .i64 0,.int .i64 0,.int .i64 0,.int .i64 0,.int .i64 0] 47 (0,0))
 row:RowAt wk Rb bv at' plain packed size Ob
 ord:OrdAt wk Ob now
 rd:Rd wk bv b
 mv:Moves wk
 o2:w0.heap.size≤z2
 o6:w0.heap.size≤z6
 ne:z2≠z6
 five:6≤Rb∧6≤Ob
theorem N.keep{w0 wk wk':World}{z2 z6 Rb Ob:Nat}{bv:Value}{b:List UInt8}{at' plain:Nat}{packed size:Int}{now:Nat}(h:N w0 wk z2 z6 Rb Ob bv b at' plain packed size now)(hfr:Fr (fun _=>False) wk wk'):N w0 wk' z2 z6 Rb Ob bv b at' plain packed size now:=
 ⟨h.fr.trans (hfr.mono (fun _ _ h=>h.elim)),hfr.keep h.b2 (fun h=>h),hfr.keep h.b6 (fun h=>h),hfr.keep h.row (fun h=>h),hfr.keep h.ord (fun h=>h),h.rd.keep hfr,h.mv.step hfr (fun _ h=>h.elim),h.o2,h.o6,h.ne,h.five⟩
theorem N.apart{w0 wk:World}{z2 z6 Rb Ob:Nat}{bv:Value}{b:List UInt8}{at' plain:Nat}{packed size:Int}{now:Nat}(h:N w0 wk z2 z6 Rb Ob bv b at' plain packed size now):Rb≠z2∧Rb≠z6∧Rb≠Ob∧Ob≠z2∧Ob≠z6:=by
 have h1:=h.row
 have h2:=h.ord
 unfold RowAt at h1
 unfold OrdAt at h2
 refine⟨fun e=> ?_,fun e=> ?_,fun e=> ?_,fun e=> ?_,fun e=> ?_⟩
 ·rw[e,h.b2] at h1
  simp at h1
 ·rw[e,h.b6] at h1
  simp at h1
 ·rw[e,h2] at h1
  simp at h1
 ·rw[e,h.b2] at h2
  simp at h2
 ·rw[e,h.b6] at h2
  simp at h2
theorem N.ordered{w0 wk wk':World}{z2 z6 Rb Ob:Nat}{bv:Value}{b:List UInt8}{at' plain:Nat}{packed size:Int}{now now2:Nat}(h:N w0 wk z2 z6 Rb Ob bv b at' plain packed size now)(hfr:Fr (fun k=>k=Ob) wk wk')(hO:OrdAt wk' Ob now2):N w0 wk' z2 z6 Rb Ob bv b at' plain packed size now2:=by
 obtain⟨a1,a2,a3,a4,a5⟩:=h.apart
 exact⟨h.fr.trans (hfr.mono (fun i _ e=>.inr e)),hfr.keep h.b2 (fun e=>a4 e.symm),hfr.keep h.b6 (fun e=>a5 e.symm),hfr.keep h.row a3,hO,rd_keepT h.rd h.ord (ordV_nb _) hfr,h.mv.step hfr (fun k(e:k=Ob)=>by have:=h.five;omega),h.o2,h.o6,h.ne,h.five⟩
theorem N.cells{w0 wk:World}{z2 z6 Rb Ob:Nat}{bv:Value}{b:List UInt8}{at' plain:Nat}{packed size:Int}{now:Nat}(h:N w0 wk z2 z6 Rb Ob bv b at' plain packed size now){w':World}(hfr:Fr (fun k=>k=z2) wk w'):
 w'.cell? ⟨z6,0,none⟩=some (.int .i64 0)∧w'.cell? ⟨z6,1,none⟩=some (.int .i64 0)∧w'.cell? ⟨z6,2,none⟩=some (.int .i64 0)∧w'.cell? ⟨z6,3,none⟩=some (.int .i64 0)∧w'.cell? ⟨z6,4,none⟩=some (.int .i64 0)∧w'.cell? ⟨z6,5,none⟩=some (.int .i64 0)∧
  w'.cell? ⟨Rb,0,none⟩=some bv∧w'.cell? ⟨Rb,1,none⟩=some (.int .i64 at')∧w'.cell? ⟨Rb,2,none⟩=some (.int .i64 plain)∧w'.cell? ⟨Rb,3,none⟩=some (.int .i64 packed)∧w'.cell? ⟨Rb,4,none⟩=some (.int .i64 size)∧w'.cell? ⟨Rb,5,none⟩=some (ptrR Ob):=by
 obtain⟨a1,a2,a3,a4,a5⟩:=h.apart
 have h6:=hfr.keep h.b6 (fun e=>h.ne e.symm)
 have hr:=hfr.keep h.row a1
 exact⟨cell_in h6 rfl,cell_in h6 rfl,cell_in h6 rfl,cell_in h6 rfl,cell_in h6 rfl,cell_in h6 rfl,cell_in hr rfl,cell_in hr rfl,cell_in hr rfl,cell_in hr rfl,cell_in hr rfl,cell_in hr rfl⟩
theorem heap_drew_new(w:World)(o:Obj):(w.alloc o).drew.heap[w.heap.size]? =some o:=heap_alloc_new w o
theorem N.cells7{w0 wk:World}{z2 z6 Rb Ob:Nat}{bv:Value}{b:List UInt8}{at' plain:Nat}{packed size:Int}{now:Nat}(h:N w0 wk z2 z6 Rb Ob bv b at' plain packed size now){w':World}(hfr:Fr (fun k=>k=z2) wk w'):
 w'.cell? ⟨z6,0,none⟩=some (.int .i64 0)∧w'.cell? ⟨z6,1,none⟩=some (.int .i64 0)∧w'.cell? ⟨z6,2,none⟩=some (.int .i64 0)∧w'.cell? ⟨z6,3,none⟩=some (.int .i64 0)∧w'.cell? ⟨z6,4,none⟩=some (.int .i64 0)∧w'.cell? ⟨z6,5,none⟩=some (.int .i64 0)∧w'.cell? ⟨Rb,1,none⟩=some (.int .i64 at'):=by
 obtain⟨c0,c1,c2,c3,c4,c5,r0,r1,r2,r3,r4,r5⟩:=h.cells hfr
 exact⟨c0,c1,c2,c3,c4,c5,r1⟩
theorem N.cells2b{w0 wk:World}{z2 z6 Rb Ob:Nat}{bv:Value}{b:List UInt8}{at' plain:Nat}{packed size:Int}{now:Nat}(h:N w0 wk z2 z6 Rb Ob bv b at' plain packed size now){w':World}(hfr:Fr (fun k=>wk.heap.size≤k) wk w'):w'.cell? ⟨Rb,0,none⟩=some bv∧w'.cell? ⟨Rb,1,none⟩=some (.int .i64 at'):=by
 have lr:=lt_of_block h.row
 have hr:=hfr.keep h.row (by omega)
 exact⟨cell_in hr rfl,cell_in hr rfl⟩
structure M(w0 wk:World)(z2 z6 z8 Rb Ob:Nat)(bv:Value)(b:List UInt8)(at' plain:Nat)(packed size:Int)(now:Nat)(c:Array Value):Prop where
 n:N w0 wk z2 z6 Rb Ob bv b at' plain packed size now
 b8:wk.heap[z8]? =some (.cells c 47 (0,0))
 ne:z8≠z2
theorem M.of{w0 wk w6:World}{z2 z6 z8 Rb Ob:Nat}{bv:Value}{b:List UInt8}{at' plain:Nat}{packed size:Int}{now:Nat}{c:Array Value}(h:N w0 wk z2 z6 Rb Ob bv b at' plain packed size now)(h0:0<b.length)(hf:Fr (fun k=>wk.heap.size≤k) wk w6)(hz:w6.heap[z8]? =some (.cells c 47 (0,0)))(h8:wk.heap.size≤z8):M w0 w6 z2 z6 z8 Rb Ob bv b at' plain packed size now c:=by
 have l2:=lt_of_block h.b2
 have l6:=lt_of_block h.b6
 have lr:=lt_of_block h.row
 have lo:=lt_of_block h.ord
 have hs:=h.fr.size
 refine⟨⟨h.fr.trans' hf (fun i hi(e:wk.heap.size≤i)=>by omega),hf.keep h.b2 (by omega),hf.keep h.b6 (by omega),hf.keep h.row (by omega),hf.keep h.ord (by omega),h.rd.step hf (fun k hk=>by have:=rd_lt h.rd h0 k hk;omega),?_,h.o2,h.o6,h.ne,h.five⟩,hz,by omega⟩
 obtain⟨T,fr,hm⟩:=h.mv
 exact⟨T,fr,hf.keep hm (by have:=lt_of_block hm;omega)⟩
theorem M.keep{w0 wk wk':World}{z2 z6 z8 Rb Ob:Nat}{bv:Value}{b:List UInt8}{at' plain:Nat}{packed size:Int}{now:Nat}{c:Array Value}(h:M w0 wk z2 z6 z8 Rb Ob bv b at' plain packed size now c)(hfr:Fr (fun _=>False) wk wk'):M w0 wk' z2 z6 z8 Rb Ob bv b at' plain packed size now c:=
 ⟨h.n.keep hfr,hfr.keep h.b8 (fun h=>h),h.ne⟩
theorem M.moved{w0 wk wk':World}{z2 z6 z8 Rb Ob:Nat}{p:Option Addr}{n cap:Nat}{b:List UInt8}{at' plain at2 plain2:Nat}{packed size:Int}{now:Nat}{a c d e f g:Int}(h:M w0 wk z2 z6 z8 Rb Ob (.slice p n cap) b at' plain packed size now #[.int .i64 a,.int .i64 c,.int .i64 d,.int .i64 e,.int .i64 f,.int .i64 g])(hfr:Fr (fun k=>k=Rb) wk wk')(hR:RowAt wk' Rb (.slice p n cap) at2 plain2 packed size Ob):
 M w0 wk' z2 z6 z8 Rb Ob (.slice p n cap) b at2 plain2 packed size now #[.int .i64 a,.int .i64 c,.int .i64 d,.int .i64 e,.int .i64 f,.int .i64 g]:=by
 obtain⟨a1,a2,a3,a4,a5⟩:=h.n.apart
 have h1:=h.n.row
 unfold RowAt at h1
 have h8:z8≠Rb:=fun e=>by
  have h2:=h.b8
  rw[e,h1] at h2
  simp at h2
 exact⟨⟨h.n.fr.trans (hfr.mono (fun i _ e=>.inl e)),hfr.keep h.n.b2 (fun e=>a1 e.symm),hfr.keep h.n.b6 (fun e=>a2 e.symm),hR,hfr.keep h.n.ord (fun e=>a3 e.symm),rd_keepT h.n.rd h1 (rowV_nb _ _ _ _ _ _ _ _) hfr,h.n.mv.step hfr (fun k(e:k=Rb)=>by have:=h.n.five;omega),h.n.o2,h.n.o6,h.n.ne,h.n.five⟩,hfr.keep h.b8 h8,h.ne⟩
theorem M.cells8{w0 wk:World}{z2 z6 z8 Rb Ob:Nat}{bv:Value}{b:List UInt8}{at' plain:Nat}{packed size:Int}{now:Nat}{v0 v1 v2 v3 v4 v5:Value}(h:M w0 wk z2 z6 z8 Rb Ob bv b at' plain packed size now #[v0,v1,v2,v3,v4,v5]){w':World}(hfr:Fr (fun k=>k=z2) wk w'):
 w'.cell? ⟨z8,0,none⟩=some v0∧w'.cell? ⟨z8,1,none⟩=some v1∧w'.cell? ⟨z8,2,none⟩=some v2∧w'.cell? ⟨z8,3,none⟩=some v3∧w'.cell? ⟨z8,4,none⟩=some v4∧w'.cell? ⟨z8,5,none⟩=some v5∧w'.cell? ⟨Rb,0,none⟩=some bv∧w'.cell? ⟨Rb,1,none⟩=some (.int .i64 at'):=by
 have h8:=hfr.keep h.b8 h.ne
 have hr:=hfr.keep h.n.row h.n.apart.1
 exact⟨cell_in h8 rfl,cell_in h8 rfl,cell_in h8 rfl,cell_in h8 rfl,cell_in h8 rfl,cell_in h8 rfl,cell_in hr rfl,cell_in hr rfl⟩
theorem N.fin{w0 wk:World}{z2 z6 Rb Ob:Nat}{bv:Value}{b:List UInt8}{at' plain:Nat}{packed size:Int}{now:Nat}(h:N w0 wk z2 z6 Rb Ob bv b at' plain packed size now){w':World}(hfr:Fr (fun k=>k=z2) wk w'):Fr (fun k=>k=Rb∨k=Ob) w0 w':=
 h.fr.trans' hfr (fun i hi(e:i=z2)=>by have:=h.o2;omega)
theorem M.last{w0 wk w':World}{z2 z6 z8 Rb Ob:Nat}{bp:Option Addr}{cap:Nat}{b:List UInt8}{fg pg fm gp gk gs glc glp gpb c2:Nat}{q2:Option Addr}{packed size:Int}{now:Nat}{c:Array Value}(h:M w0 wk z2 z6 z8 Rb Ob (.slice bp b.length cap) b fg pg packed size now c)
 (hmid:∀(W:World),Rd W (.slice bp b.length cap) b→Rd W (.slice q2 (fg-fm) c2) ((b.drop fm).take (fg-fm)))(hdb:∀m c3,(Value.slice q2 m c3).ownBlock=(Value.slice bp b.length cap).ownBlock)(hfg:fg=fm+gp)(hg:gp≤b.length-fm)(hfr:Fr (fun k=>k=z2) wk w'):
 NextPost Rb Ob (.slice bp b.length cap) packed size w0 (.ok (⟨gk,gs,gp,glc,glp,gpb⟩,(b.drop fm).take gp,fm,⟨fg,pg,now⟩)) (.returned (.tuple #[.agg #[.int .i64 gk,.int .i64 gs,.int .i64 gp,.int .i64 glc,.int .i64 glp,.int .i64 gpb],.slice q2 gp c2,.int .i64 fm,.int .i64 0])) w':=by
 have hlen:((b.drop fm).take gp).length=gp:=by rw[List.length_take,List.length_drop];omega
 have e:fg-fm=gp:=by omega
 have hR:=hmid wk h.n.rd
 rw[e] at hR
 refine⟨h.n.fin hfr,q2,c2,by rw[hlen];rfl,?_,fun k hk=>by rw[←hdb];exact hk,hfr.keep h.n.row h.n.apart.1,hfr.keep h.n.ord h.n.apart.2.2.2.1⟩
 rw[hlen]
 exact rd_keepT hR h.n.b2 (chV_nb 0 0 0 0 0 0) hfr
theorem lift0{S:Nat→Prop}{w w':World}(h:Fr (fun _=>False) w w'):Fr S w w':=h.mono (fun _ _ h=>h.elim)
set_option maxRecDepth 100000 in
theorem next_calls(Rb Ob:Nat)(bv:Value)(b:List UInt8)(packed size:Int)(s:Sr)(w:World)(h:RowAt w Rb bv s.at' s.plain packed size Ob)(hO:OrdAt w Ob s.now)(hb:Rd w bv b)(hM:Moves w)(h5:6≤Rb∧6≤Ob)(hn:s.now<4)(ha:s.at'≤b.length)(hl:b.length≤1099511627776)(hp:s.plain≤1152921504606846976):
 Calls Tryz.prog 100 #[ptrR Rb] w (NextPost Rb Ob bv packed size w (nextP b packed size s)):=by
 obtain⟨res,hres⟩:∃res,res=nextP b packed size s:=⟨_,rfl⟩
 rw[←hres]
 unfold nextP at hres
 obtain⟨at',plain,now⟩:=s
 simp only at h hO hn ha hp hres
 obtain⟨p,cap,rfl,hc1,hc2,hc3⟩:=hb
 have hb:Rd w (.slice p b.length cap) b:=⟨p,cap,rfl,hc1,hc2,hc3⟩
 clear hc3
 have hf1:=(R0 w).alloc (.cells #[.int .i64 0,.int .i64 0,.int .i64 0,.int .i64 0,.int .i64 0,.int .i64 0] 47)
 have hf2:=hf1.alloc (.cells #[.int .i64 0,.int .i64 0,.int .i64 0,.int .i64 0,.int .i64 0,.int .i64 0] 47)
 have x1:=heap_alloc_new w (.cells #[.int .i64 0,.int .i64 0,.int .i64 0,.int .i64 0,.int .i64 0,.int .i64 0] 47)
 have x2:=heap_alloc_new (w.alloc (.cells #[.int .i64 0,.int .i64 0,.int .i64 0,.int .i64 0,.int .i64 0,.int .i64 0] 47)) (.cells #[.int .i64 0,.int .i64 0,.int .i64 0,.int .i64 0,.int .i64 0,.int .i64 0] 47)
 simp only[World.size_alloc] at x2
 have HN:=Hd (show N w _ w.heap.size (w.heap.size+1) Rb Ob (.slice p b.length cap) b at' plain packed size now from⟨lift0 hf2,((R0 _).alloc _).keep x1 (fun h=>h),x2,hf2.keep h (fun h=>h),hf2.keep hO (fun h=>h),hb.keep hf2,hM.step hf2 (fun _ h=>h.elim),Nat.le_refl _,by omega,by omega,h5⟩)
 have HR:=Hd hres
 clear hres h hO hb hM hf1 hf2 x1 x2
 go_enter Tryz.func100,Tryz.ntmps100
 go_wp2_with fail
 generalize(w.alloc (.cells #[.int .i64 0,.int .i64 0,.int .i64 0,.int .i64 0,.int .i64 0,.int .i64 0] 47)).alloc (.cells #[.int .i64 0,.int .i64 0,.int .i64 0,.int .i64 0,.int .i64 0,.int .i64 0] 47)=wk at*
 generalize w.heap.size+1=z6 at*
 generalize w.heap.size=z2 at*
 have HBE:=Hd (fun v hv m(k:Int)(hk:k=((at'+1:Nat):Int))=>beyond_callsI packed (at'+1) k hk v hv (wk.drewN m))
 have hw1:IntKind.i64.wrap ((at':Int)+1)=((at':Int)+1):=IntWalk.i64_in _ (by omega)
 cases hbe:beyond packed (at'+1) with
 |true=>
   replace HR:=Hd (HR.out.trans (if_pos hbe))
   have HB:=Hd (fun m k hk=>HBE.out true hbe m k hk)
   clear HBE hbe
   have HALL:=Hd (fun n=>HN.out.keep ((R0 wk).drewN n))
   have ss:=HN.out.cells (w':=wk) (lift0 (Fr.refl _ _))
   obtain⟨c0,c1,c2,c3,c4,c5,r0,r1,r2,r3,r4,r5⟩:=ss
   go_quiet (exact quiet_left (HB.out _ _ (by omega)))
   replace HN:=Hd (HALL.out nq)
   clear HALL c0 c1 c2 c3 c4 c5 r0 r1 r2 r3 r4 r5
   generalize wk.drewN nq=wk at*
   go_wp2_with fail
   have ss:=HN.out.cells (w':=wk) (lift0 (Fr.refl _ _))
   obtain⟨c0,c1,c2,c3,c4,c5,r0,r1,r2,r3,r4,r5⟩:=ss
   have q2:=HN.out.b2
   obtain⟨a0,a1,a2,a3,a4,a5,af⟩:=cf6 q2 rfl rfl rfl rfl rfl rfl
   clear q2
   have HSC:=Hd (HN.out.cells7 (w':=wk.drew) (Fr.refl _ _).drew)
   clear c0 c1 c2 c3 c4 c5 r0 r1 r2 r3 r4 r5
   have ss:=HSC.out
   obtain⟨c0,c1,c2,c3,c4,c5,r1⟩:=ss
   go_region_held3 (fun w'=>w'.cell? ⟨z6,0,none⟩=some (.int .i64 0)∧w'.cell? ⟨z6,1,none⟩=some (.int .i64 0)∧w'.cell? ⟨z6,2,none⟩=some (.int .i64 0)∧w'.cell? ⟨z6,3,none⟩=some (.int .i64 0)∧w'.cell? ⟨z6,4,none⟩=some (.int .i64 0)∧w'.cell? ⟨z6,5,none⟩=some (.int .i64 0)∧w'.cell? ⟨Rb,1,none⟩=some (.int .i64 at'))
    (first|with_reducible exact HSC.out|(refine HN.out.cells7 ?_;((try refine Fr.drew ?_);(repeat refine Fr.setCell ?_ (.inl (by simp)) _);first|exact Fr.refl _ _|exact(Fr.refl _ _).drew))) (fail)
   go_wp2_with fail
   refine bodyPost_ret (v:=.tuple #[.agg Head.none.cells,.slice none 0 0,.int .i64 at',.int .i64 2]) (by simp[Head.none,Head.cells,results,Tryz.results100,go_sem,a0,a1,a2,a3,a4,a5]) rfl ?_
   rw[HR.out]
   exact⟨HN.out.fin (by((try refine Fr.drew ?_);(repeat refine Fr.setCell ?_ (.inl (by simp)) _);first|exact Fr.refl _ _|exact(Fr.refl _ _).drew)),rfl⟩
 |false=>
   replace HR:=Hd (HR.out.trans (if_neg (by rw[hbe];decide)))
   have HB:=Hd (fun m k hk=>HBE.out false hbe m k hk)
   clear HBE hbe
   have HALL:=Hd (fun n=>HN.out.keep ((R0 wk).drewN n))
   have ss:=HN.out.cells (w':=wk) (lift0 (Fr.refl _ _))
   obtain⟨c0,c1,c2,c3,c4,c5,r0,r1,r2,r3,r4,r5⟩:=ss
   go_quiet (exact quiet_left (HB.out _ _ (by omega)))
   replace HN:=Hd (HALL.out nq)
   clear HALL c0 c1 c2 c3 c4 c5 r0 r1 r2 r3 r4 r5
   generalize wk.drewN nq=wk at*
   clear HB hw1
   go_wp2_with fail
   by_cases hal:at'=b.length
   ·replace HR:=Hd (HR.out.trans (if_pos hal))
    have ea:((at':Int)==(b.length:Int))=true:=by simp[hal]
    have HAL:=Hd hal
    clear hal
    have HALL:=Hd (fun n=>HN.out.keep ((R0 wk).drewN n))
    have ss:=HN.out.cells (w':=wk) (lift0 (Fr.refl _ _))
    obtain⟨c0,c1,c2,c3,c4,c5,r0,r1,r2,r3,r4,r5⟩:=ss
    go_quiet (fail)
    replace HN:=Hd (HALL.out nq)
    clear HALL c0 c1 c2 c3 c4 c5 r0 r1 r2 r3 r4 r5
    generalize wk.drewN nq=wk at*
    go_wp2_with fail
    clear ea
    have ss:=HN.out.cells (w':=wk) (lift0 (Fr.refl _ _))
    obtain⟨c0,c1,c2,c3,c4,c5,r0,r1,r2,r3,r4,r5⟩:=ss
    have q2:=HN.out.b2
    obtain⟨a0,a1,a2,a3,a4,a5,af⟩:=cf6 q2 rfl rfl rfl rfl rfl rfl
    clear q2
    have HSC:=Hd (HN.out.cells7 (w':=wk.drew) (Fr.refl _ _).drew)
    clear c0 c1 c2 c3 c4 c5 r0 r1 r2 r3 r4 r5
    have ss:=HSC.out
    obtain⟨c0,c1,c2,c3,c4,c5,r1⟩:=ss
    go_region_held3 (fun w'=>w'.cell? ⟨z6,0,none⟩=some (.int .i64 0)∧w'.cell? ⟨z6,1,none⟩=some (.int .i64 0)∧w'.cell? ⟨z6,2,none⟩=some (.int .i64 0)∧w'.cell? ⟨z6,3,none⟩=some (.int .i64 0)∧w'.cell? ⟨z6,4,none⟩=some (.int .i64 0)∧w'.cell? ⟨z6,5,none⟩=some (.int .i64 0)∧w'.cell? ⟨Rb,1,none⟩=some (.int .i64 at'))
     (first|with_reducible exact HSC.out|(refine HN.out.cells7 ?_;((try refine Fr.drew ?_);(repeat refine Fr.setCell ?_ (.inl (by simp)) _);first|exact Fr.refl _ _|exact(Fr.refl _ _).drew))) (fail)
    go_wp2_with fail
    refine bodyPost_ret (v:=.tuple #[.agg Head.none.cells,.slice none 0 0,.int .i64 at',.int .i64 1]) (by simp[Head.none,Head.cells,results,Tryz.results100,go_sem,a0,a1,a2,a3,a4,a5]) rfl ?_
    rw[HR.out]
    exact⟨HN.out.fin (by((try refine Fr.drew ?_);(repeat refine Fr.setCell ?_ (.inl (by simp)) _);first|exact Fr.refl _ _|exact(Fr.refl _ _).drew)),rfl⟩
   have ea:((at':Int)==(b.length:Int))=false:=by simp;omega
   replace HR:=Hd (HR.out.trans (if_neg hal))
   have hat:at'<b.length:=by omega
   clear hal
   have HALL:=Hd (fun n=>HN.out.keep ((R0 wk).drewN n))
   have ss:=HN.out.cells (w':=wk) (lift0 (Fr.refl _ _))
   obtain⟨c0,c1,c2,c3,c4,c5,r0,r1,r2,r3,r4,r5⟩:=ss
   go_quiet (fail)
   replace HN:=Hd (HALL.out nq)
   clear HALL c0 c1 c2 c3 c4 c5 r0 r1 r2 r3 r4 r5
   generalize wk.drewN nq=wk at*
   go_wp2_with fail
   clear ea
   obtain⟨bb,o,rfl,hc⟩:=Win.byte_at HN.out.rd (el_at hat)
   have hxb:=UInt8.toNat_lt (b.getD at' 0)
   generalize(b.getD at' 0).toNat=x at*
   have i1:(0:Int)≤(at':Int):=by omega
   have i2:(at':Int)<(b.length:Int):=by omega
   have HKO:=Hd (fun m=>kindOf_calls x hxb (wk.drewN m))
   cases hk:kindOf x with
   |none=>
     rw[hk] at HR
     simp only at HR
     have hki:kindI x=-1:=by unfold kindI;rw[hk]
     rw[hki] at HKO
     clear hk hki
     have HALL:=Hd (fun n=>HN.out.keep ((R0 wk).drewN n))
     have ss:=HN.out.cells (w':=wk) (lift0 (Fr.refl _ _))
     obtain⟨c0,c1,c2,c3,c4,c5,r0,r1,r2,r3,r4,r5⟩:=ss
     go_quiet (exact quiet_left (HKO.out _))
     replace HN:=Hd (HALL.out nq)
     clear HALL c0 c1 c2 c3 c4 c5 r0 r1 r2 r3 r4 r5
     generalize wk.drewN nq=wk at*
     clear hc i1 i2
     go_wp2_with fail
     have ss:=HN.out.cells (w':=wk) (lift0 (Fr.refl _ _))
     obtain⟨c0,c1,c2,c3,c4,c5,r0,r1,r2,r3,r4,r5⟩:=ss
     have q2:=HN.out.b2
     obtain⟨a0,a1,a2,a3,a4,a5,af⟩:=cf6 q2 rfl rfl rfl rfl rfl rfl
     clear q2
     have HSC:=Hd (HN.out.cells7 (w':=wk.drew) (Fr.refl _ _).drew)
     clear c0 c1 c2 c3 c4 c5 r0 r1 r2 r3 r4 r5
     have ss:=HSC.out
     obtain⟨c0,c1,c2,c3,c4,c5,r1⟩:=ss
     go_region_held3 (fun w'=>w'.cell? ⟨z6,0,none⟩=some (.int .i64 0)∧w'.cell? ⟨z6,1,none⟩=some (.int .i64 0)∧w'.cell? ⟨z6,2,none⟩=some (.int .i64 0)∧w'.cell? ⟨z6,3,none⟩=some (.int .i64 0)∧w'.cell? ⟨z6,4,none⟩=some (.int .i64 0)∧w'.cell? ⟨z6,5,none⟩=some (.int .i64 0)∧w'.cell? ⟨Rb,1,none⟩=some (.int .i64 at'))
      (first|with_reducible exact HSC.out|(refine HN.out.cells7 ?_;((try refine Fr.drew ?_);(repeat refine Fr.setCell ?_ (.inl (by simp)) _);first|exact Fr.refl _ _|exact(Fr.refl _ _).drew))) (fail)
     go_wp2_with fail
     refine bodyPost_ret (v:=.tuple #[.agg Head.none.cells,.slice none 0 0,.int .i64 at',.int .i64 2]) (by simp[Head.none,Head.cells,results,Tryz.results100,go_sem,a0,a1,a2,a3,a4,a5]) rfl ?_
     rw[HR.out]
     exact⟨HN.out.fin (by((try refine Fr.drew ?_);(repeat refine Fr.setCell ?_ (.inl (by simp)) _);first|exact Fr.refl _ _|exact(Fr.refl _ _).drew)),rfl⟩
   |some k=>
     rw[hk] at HR
     simp only at HR
     have hki:kindI x=(k:Int):=by unfold kindI;rw[hk]
     rw[hki] at HKO
     have hk7:=kindOf_lt hxb hk
     clear hk hki
     have HALL:=Hd (fun n=>HN.out.keep ((R0 wk).drewN n))
     have ss:=HN.out.cells (w':=wk) (lift0 (Fr.refl _ _))
     obtain⟨c0,c1,c2,c3,c4,c5,r0,r1,r2,r3,r4,r5⟩:=ss
     go_quiet (exact quiet_left (HKO.out _))
     replace HN:=Hd (HALL.out nq)
     clear HALL c0 c1 c2 c3 c4 c5 r0 r1 r2 r3 r4 r5
     generalize wk.drewN nq=wk at*
     clear hc i1 i2 HKO
     have ss:=HN.out.cells (w':=wk) (lift0 (Fr.refl _ _))
     obtain⟨c0,c1,c2,c3,c4,c5,r0,r1,r2,r3,r4,r5⟩:=ss
     have HNX:=Hd (order_calls Ob now k wk HN.out.ord HN.out.mv hn hk7)
     go_wp2_with fail
     by_cases hmv:move now k=4
     ·rw[if_pos hmv,if_pos hmv] at HNX
      replace HR:=Hd (HR.out.trans (if_pos hmv))
      clear hmv
      refine HNX.out.mono ?_
      rintro e w2 ⟨rfl,hfr,hO⟩
      replace HN:=Hd (HN.out.ordered hfr hO)
      clear hfr hO HNX c0 c1 c2 c3 c4 c5 r0 r1 r2 r3 r4 r5 wk
      obtain⟨wk,rfl⟩:∃wk,wk=w2:=⟨_,rfl⟩
      go_wp2_with fail
      have ss:=HN.out.cells (w':=wk) (lift0 (Fr.refl _ _))
      obtain⟨c0,c1,c2,c3,c4,c5,r0,r1,r2,r3,r4,r5⟩:=ss
      have q2:=HN.out.b2
      obtain⟨a0,a1,a2,a3,a4,a5,af⟩:=cf6 q2 rfl rfl rfl rfl rfl rfl
      clear q2
      have HSC:=Hd (HN.out.cells7 (w':=wk.drew) (Fr.refl _ _).drew)
      clear c0 c1 c2 c3 c4 c5 r0 r1 r2 r3 r4 r5
      have ss:=HSC.out
      obtain⟨c0,c1,c2,c3,c4,c5,r1⟩:=ss
      go_region_held3 (fun w'=>w'.cell? ⟨z6,0,none⟩=some (.int .i64 0)∧w'.cell? ⟨z6,1,none⟩=some (.int .i64 0)∧w'.cell? ⟨z6,2,none⟩=some (.int .i64 0)∧w'.cell? ⟨z6,3,none⟩=some (.int .i64 0)∧w'.cell? ⟨z6,4,none⟩=some (.int .i64 0)∧w'.cell? ⟨z6,5,none⟩=some (.int .i64 0)∧w'.cell? ⟨Rb,1,none⟩=some (.int .i64 at'))
       (first|with_reducible exact HSC.out|(refine HN.out.cells7 ?_;((try refine Fr.drew ?_);(repeat refine Fr.setCell ?_ (.inl (by simp)) _);first|exact Fr.refl _ _|exact(Fr.refl _ _).drew))) (fail)
      go_wp2_with fail
      refine bodyPost_ret (v:=.tuple #[.agg Head.none.cells,.slice none 0 0,.int .i64 at',.int .i64 2]) (by simp[Head.none,Head.cells,results,Tryz.results100,go_sem,a0,a1,a2,a3,a4,a5]) rfl ?_
      rw[HR.out]
      exact⟨HN.out.fin (by((try refine Fr.drew ?_);(repeat refine Fr.setCell ?_ (.inl (by simp)) _);first|exact Fr.refl _ _|exact(Fr.refl _ _).drew)),rfl⟩
     rw[if_neg hmv,if_neg hmv] at HNX
     replace HR:=Hd (HR.out.trans (if_neg hmv))
     have hmv4:move now k<4:=by have:=move_le ⟨now,hn⟩ ⟨k,hk7⟩;simp only at this;omega
     clear hmv
     generalize move now k=now2 at*
     refine HNX.out.mono ?_
     rintro e w2 ⟨rfl,hfr,hO⟩
     replace HN:=Hd (HN.out.ordered hfr hO)
     clear hfr hO HNX c0 c1 c2 c3 c4 c5 r0 r1 r2 r3 r4 r5 wk
     obtain⟨wk,rfl⟩:∃wk,wk=w2:=⟨_,rfl⟩
     have hcase:(k=0∧ends packed size at' plain=false)∨((k=0∧ends packed size at' plain=true)∨¬k=0):=by cases ends packed size at' plain<;>by_cases h:k=0<;>simp[h]
     rcases hcase with⟨hk0,hen⟩|hcase
     ·subst hk0
      have HEN:=Hd (ends_calls Rb Ob at' plain _ packed size wk HN.out.row (by omega) false hen)
      replace HR:=Hd (HR.out.trans (if_pos ⟨rfl,hen⟩))
      clear hen
      go_wp2_with fail
      refine HEN.out.mono ?_
      rintro e w2 ⟨rfl,m,rfl⟩
      replace HN:=Hd (HN.out.keep ((R0 wk).drewN m))
      clear HEN
      generalize wk.drewN m=wk at*
      go_wp2_with fail
      have ss:=HN.out.cells (w':=wk) (lift0 (Fr.refl _ _))
      obtain⟨c0,c1,c2,c3,c4,c5,r0,r1,r2,r3,r4,r5⟩:=ss
      have q2:=HN.out.b2
      obtain⟨a0,a1,a2,a3,a4,a5,af⟩:=cf6 q2 rfl rfl rfl rfl rfl rfl
      clear q2
      have HSC:=Hd (HN.out.cells7 (w':=wk.drew) (Fr.refl _ _).drew)
      clear c0 c1 c2 c3 c4 c5 r0 r1 r2 r3 r4 r5
      have ss:=HSC.out
      obtain⟨c0,c1,c2,c3,c4,c5,r1⟩:=ss
      go_region_held3 (fun w'=>w'.cell? ⟨z6,0,none⟩=some (.int .i64 0)∧w'.cell? ⟨z6,1,none⟩=some (.int .i64 0)∧w'.cell? ⟨z6,2,none⟩=some (.int .i64 0)∧w'.cell? ⟨z6,3,none⟩=some (.int .i64 0)∧w'.cell? ⟨z6,4,none⟩=some (.int .i64 0)∧w'.cell? ⟨z6,5,none⟩=some (.int .i64 0)∧w'.cell? ⟨Rb,1,none⟩=some (.int .i64 at'))
       (first|with_reducible exact HSC.out|(refine HN.out.cells7 ?_;((try refine Fr.drew ?_);(repeat refine Fr.setCell ?_ (.inl (by simp)) _);first|exact Fr.refl _ _|exact(Fr.refl _ _).drew))) (fail)
      go_wp2_with fail
      refine bodyPost_ret (v:=.tuple #[.agg Head.none.cells,.slice none 0 0,.int .i64 at',.int .i64 2]) (by simp[Head.none,Head.cells,results,Tryz.results100,go_sem,a0,a1,a2,a3,a4,a5]) rfl ?_
      rw[HR.out]
      exact⟨HN.out.fin (by((try refine Fr.drew ?_);(repeat refine Fr.setCell ?_ (.inl (by simp)) _);first|exact Fr.refl _ _|exact(Fr.refl _ _).drew)),rfl⟩
     rcases hcase with⟨hk0,hen⟩|hk0
     focus
      subst hk0
      have HEN:=Hd (ends_calls Rb Ob at' plain _ packed size wk HN.out.row (by omega) true hen)
      replace HR:=Hd (HR.out.trans (if_neg (by rw[hen];simp)))
      clear hen
      go_wp2_with fail
      refine HEN.out.mono ?_
      rintro e w2 ⟨rfl,m,rfl⟩
      replace HN:=Hd (HN.out.keep ((R0 wk).drewN m))
      clear HEN
      generalize wk.drewN m=wk at*
      go_wp2_with fail
     rotate_left
     focus
      have ek:((k:Int)==0)=false:=by simp;omega
      replace HR:=Hd (HR.out.trans (if_neg (fun h=>hk0 h.1)))
      go_wp2_with fail
     all_goals
      have hd0:0<(b.drop at').length:=by rw[List.length_drop];omega
      have hrd:=rd_drop (a:=at') HN.out.rd (by omega)
      have hln:b.length-at'=(b.drop at').length:=by rw[List.length_drop]
      have HGET:=fun W(hf:Fr (fun _=>False) wk W)=>Hd (get_calls (.slice (dropP (some ⟨bb,o,none⟩) cap at') (b.length-at') (cap-at')) (b.drop at') W (hrd.keep hf) hd0 (by rw[List.length_drop];omega))
      have hsl:=slice_lI (some ⟨bb,o,none⟩) b.length cap at' (at':Int) rfl (by omega)
      have hgs:=get_small ((b.drop at').take 6)
      have hgl:=get_le_len ((b.drop at').take 6)
      have hg6:=get_le ((b.drop at').take 6)
      rw[List.length_take,List.length_drop] at hgl
      generalize get ((b.drop at').take 6)=g at*
      obtain⟨⟨gk,gs,gp,glc,glp,gpb⟩,gn,ge⟩:=g
      simp only[Head.cells] at HR HGET hgs hgl hg6
      obtain⟨hgs1,hgs2,hgs3,hgs4,hgs5,hgs6⟩:=hgs
      have HGL:=Hd hgl
      clear hrd hd0 hgl hgs3 hgs5 hgs6
      generalize dropP (some ⟨bb,o,none⟩) cap at'=q1 at*
      have HLN:=Hd hln
      clear hln
      have FC:=Hd (Fr.refl (fun k=>wk.heap.size≤k) wk).drew
      have HKP:=Hd (fun(W:World)(hf:Fr (fun k=>wk.heap.size≤k) wk W)=>HN.out.cells2b hf)
      have HSC:=Hd (HKP.out _ FC.out)
      have ss:=HSC.out
      obtain⟨r0,r1⟩:=ss
      have i1:(0:Int)≤(at':Int):=by omega
      go_region_held3 (fun w'=>w'.cell? ⟨Rb,0,none⟩=some (.slice (some ⟨bb,o,none⟩) b.length cap)∧w'.cell? ⟨Rb,1,none⟩=some (.int .i64 at'))
       (first|with_reducible exact HSC.out|(refine HKP.out _ ?_;(repeat refine Fr.setCell ?_ (.inl (by first|exact FC.out.size|exact HY.out)) _);first|exact FC.out|exact FC.out.alloc _)) ((first
       | (go_at_call 164
          first
           | (with_reducible refine (HGET _ (Fr.refl _ _).drew).out.mono ?_
              rintro e wc ⟨rfl,hfrc⟩
              have HFC:=Hd ((R0 wk).drew.trans hfrc)
              have FC:=Hd (lift0 (S:=fun k=>wk.heap.size≤k) HFC.out)
              have HSC:=Hd (HKP.out _ FC.out)
              have ss:=HSC.out
              obtain⟨r0,r1⟩:=ss
              clear hfrc)
           | (with_reducible refine (HGET _ ((Fr.refl _ _).alloc _).drew).out.mono ?_
              rintro e wc ⟨rfl,hfrc⟩
              have HY:=Hd FC.out.size
              have HFC:=Hd ((((R0 wk).alloc _).drew).trans hfrc)
              have FC:=Hd (lift0 (S:=fun k=>wk.heap.size≤k) HFC.out)
              have HSC:=Hd (HKP.out _ FC.out)
              have ss:=HSC.out
              obtain⟨r0,r1⟩:=ss
              have hz:=hfrc.keep (heap_drew_new wk _) (fun h=>h)
              try simp only[World.size_drew] at hz
              obtain⟨s0,s1,s2,s3,s4,s5,sf⟩:=cf6 hz rfl rfl rfl rfl rfl rfl
              have HSZ:=Hd hz
              clear hz hfrc))))
      focus
       have hx:=heap_alloc_new wc (.cells #[.int .i64 gk,.int .i64 gs,.int .i64 gp,.int .i64 glc,.int .i64 glp,.int .i64 gpb] 47)
       have HM:=Hd (M.of HN.out (by omega) (lift0 (HFC.out.alloc (.cells #[.int .i64 gk,.int .i64 gs,.int .i64 gp,.int .i64 glc,.int .i64 glp,.int .i64 gpb] 47))) hx HFC.out.size)
       generalize wc.alloc (.cells #[.int .i64 gk,.int .i64 gs,.int .i64 gp,.int .i64 glc,.int .i64 glp,.int .i64 gpb] 47)=w6 at*
       generalize wc.heap.size=z8 at*
       clear hx HFC FC HSC HKP HGET HN
       obtain⟨wk,rfl⟩:∃wk,wk=w6:=⟨_,rfl⟩
      rotate_left
      focus
       have hx:=(set_in (set_in (set_in (set_in (set_in (set_in HSZ.out 0 (.int .i64 gk)) 1 (.int .i64 gs)) 2 (.int .i64 gp)) 3 (.int .i64 glc)) 4 (.int .i64 glp)) 5 (.int .i64 gpb))
       have hf:Fr (fun k=>wk.heap.size≤k) wc ((((((wc.setCell ⟨wk.heap.size,0,none⟩ (.int .i64 gk)).setCell ⟨wk.heap.size,1,none⟩ (.int .i64 gs)).setCell ⟨wk.heap.size,2,none⟩ (.int .i64 gp)).setCell ⟨wk.heap.size,3,none⟩ (.int .i64 glc)).setCell ⟨wk.heap.size,4,none⟩ (.int .i64 glp)).setCell ⟨wk.heap.size,5,none⟩ (.int .i64 gpb)):=by
        repeat refine Fr.setCell ?_ (.inl (by simp)) _
        exact Fr.refl _ _
       have HM:=Hd (M.of (c:=#[.int .i64 gk,.int .i64 gs,.int .i64 gp,.int .i64 glc,.int .i64 glp,.int .i64 gpb]) HN.out (by omega) (FC.out.trans hf) hx (Nat.le_refl _))
       generalize((((((wc.setCell ⟨wk.heap.size,0,none⟩ (.int .i64 gk)).setCell ⟨wk.heap.size,1,none⟩ (.int .i64 gs)).setCell ⟨wk.heap.size,2,none⟩ (.int .i64 gp)).setCell ⟨wk.heap.size,3,none⟩ (.int .i64 glc)).setCell ⟨wk.heap.size,4,none⟩ (.int .i64 glp)).setCell ⟨wk.heap.size,5,none⟩ (.int .i64 gpb))=w6 at*
       clear hx hf HFC FC HSC HKP HGET s0 s1 s2 s3 s4 s5 sf HSZ HN HY
       generalize wk.heap.size=z8 at*
       obtain⟨wk,rfl⟩:∃wk,wk=w6:=⟨_,rfl⟩
      all_goals
       by_cases hge:ge=0
       ·subst hge
        replace HR:=Hd (HR.out.trans (if_neg (by simp)))
        have hgn:gn≤b.length-at':=by have:=HGL.out rfl;omega
        obtain⟨fm,hfm⟩:∃fm,fm=at'+gn:=⟨_,rfl⟩
        have hfi:(at':Int)+gn=(fm:Int):=by omega
        have hfl:fm≤b.length:=by omega
        rw[←hfm] at HR
        have HFM:=Hd hfm
        clear hfm hgn HGL
        have q8:=HM.out.b8
        obtain⟨e0,e1,e2,e3,e4,e5,ef⟩:=cf6 q8 rfl rfl rfl rfl rfl rfl
        clear q8
        have qr:=HM.out.n.row
        unfold RowAt at qr
        have r0:wk.cell? ⟨Rb,0,none⟩=some (.slice (some ⟨bb,o,none⟩) b.length cap):=cell_in qr rfl
        have r1:wk.cell? ⟨Rb,1,none⟩=some (.int .i64 at'):=cell_in qr rfl
        have r2:wk.cell? ⟨Rb,2,none⟩=some (.int .i64 plain):=cell_in qr rfl
        have r3:wk.cell? ⟨Rb,3,none⟩=some (.int .i64 packed):=cell_in qr rfl
        have r4:wk.cell? ⟨Rb,4,none⟩=some (.int .i64 size):=cell_in qr rfl
        have r5:wk.cell? ⟨Rb,5,none⟩=some (ptrR Ob):=cell_in qr rfl
        have rf:=fun i=>frozen_in qr i
        clear qr
        go_wp2_with fail
        clear e0 e1 e2 e3 e4 e5 ef r0 r1 r2 r3 r4 r5 rf
        have w1:IntKind.i64.wrap ((fm:Int)+gp)=(fm:Int)+gp:=IntWalk.i64_in _ (by omega)
        have w2:IntKind.i64.wrap ((plain:Int)+gs)=(plain:Int)+gs:=IntWalk.i64_in _ (by omega)
        have HB1:=Hd (fun v hv m(k:Int)(hk:k=((fm+gp:Nat):Int))=>beyond_callsI packed (fm+gp) k hk v hv (wk.drewN m))
        have HB2:=Hd (fun v hv m(k:Int)(hk:k=((plain+gs:Nat):Int))=>beyond_callsI size (plain+gs) k hk v hv (wk.drewN m))
        cases hb1:beyond packed (fm+gp) with
        |true=>
          replace HR:=Hd (HR.out.trans (if_pos (.inl hb1)))
          have HB:=Hd (fun m k hk=>HB1.out true hb1 m k hk)
          clear HB1 HB2 hb1
          have HALL:=Hd (fun n=>HM.out.keep ((R0 wk).drewN n))
          have q8:=HM.out.b8
          obtain⟨e0,e1,e2,e3,e4,e5,ef⟩:=cf6 q8 rfl rfl rfl rfl rfl rfl
          clear q8
          have qr:=HM.out.n.row
          unfold RowAt at qr
          have r0:wk.cell? ⟨Rb,0,none⟩=some (.slice (some ⟨bb,o,none⟩) b.length cap):=cell_in qr rfl
          have r1:wk.cell? ⟨Rb,1,none⟩=some (.int .i64 at'):=cell_in qr rfl
          have r2:wk.cell? ⟨Rb,2,none⟩=some (.int .i64 plain):=cell_in qr rfl
          have r3:wk.cell? ⟨Rb,3,none⟩=some (.int .i64 packed):=cell_in qr rfl
          have r4:wk.cell? ⟨Rb,4,none⟩=some (.int .i64 size):=cell_in qr rfl
          have r5:wk.cell? ⟨Rb,5,none⟩=some (ptrR Ob):=cell_in qr rfl
          have rf:=fun i=>frozen_in qr i
          clear qr
          go_quiet (exact quiet_left (HB.out _ _ (by omega)))
          replace HM:=Hd (HALL.out nq)
          clear HALL e0 e1 e2 e3 e4 e5 ef r0 r1 r2 r3 r4 r5 rf
          generalize wk.drewN nq=wk at*
          clear w1 w2 hfi
          go_wp2_with fail
          have HN:=Hd HM.out.n
          have ss:=HN.out.cells (w':=wk) (lift0 (Fr.refl _ _))
          obtain⟨c0,c1,c2,c3,c4,c5,r0,r1,r2,r3,r4,r5⟩:=ss
          have q2:=HN.out.b2
          obtain⟨a0,a1,a2,a3,a4,a5,af⟩:=cf6 q2 rfl rfl rfl rfl rfl rfl
          clear q2
          have HSC:=Hd (HN.out.cells7 (w':=wk.drew) (Fr.refl _ _).drew)
          clear c0 c1 c2 c3 c4 c5 r0 r1 r2 r3 r4 r5
          have ss:=HSC.out
          obtain⟨c0,c1,c2,c3,c4,c5,r1⟩:=ss
          go_region_held3 (fun w'=>w'.cell? ⟨z6,0,none⟩=some (.int .i64 0)∧w'.cell? ⟨z6,1,none⟩=some (.int .i64 0)∧w'.cell? ⟨z6,2,none⟩=some (.int .i64 0)∧w'.cell? ⟨z6,3,none⟩=some (.int .i64 0)∧w'.cell? ⟨z6,4,none⟩=some (.int .i64 0)∧w'.cell? ⟨z6,5,none⟩=some (.int .i64 0)∧w'.cell? ⟨Rb,1,none⟩=some (.int .i64 at'))
           (first|with_reducible exact HSC.out|(refine HN.out.cells7 ?_;((try refine Fr.drew ?_);(repeat refine Fr.setCell ?_ (.inl (by simp)) _);first|exact Fr.refl _ _|exact(Fr.refl _ _).drew))) (fail)
          go_wp2_with fail
          refine bodyPost_ret (v:=.tuple #[.agg Head.none.cells,.slice none 0 0,.int .i64 at',.int .i64 2]) (by simp[Head.none,Head.cells,results,Tryz.results100,go_sem,a0,a1,a2,a3,a4,a5]) rfl ?_
          rw[HR.out]
          exact⟨HN.out.fin (by((try refine Fr.drew ?_);(repeat refine Fr.setCell ?_ (.inl (by simp)) _);first|exact Fr.refl _ _|exact(Fr.refl _ _).drew)),rfl⟩
        |false=>
          cases hb2:beyond size (plain+gs) with
          |true=>
            replace HR:=Hd (HR.out.trans (if_pos (.inr hb2)))
            have HB:=Hd (fun m k hk=>HB1.out false hb1 m k hk)
            have HC:=Hd (fun m k hk=>HB2.out true hb2 m k hk)
            clear HB1 HB2 hb1 hb2
            have HALL:=Hd (fun n=>HM.out.keep ((R0 wk).drewN n))
            have q8:=HM.out.b8
            obtain⟨e0,e1,e2,e3,e4,e5,ef⟩:=cf6 q8 rfl rfl rfl rfl rfl rfl
            clear q8
            have qr:=HM.out.n.row
            unfold RowAt at qr
            have r0:wk.cell? ⟨Rb,0,none⟩=some (.slice (some ⟨bb,o,none⟩) b.length cap):=cell_in qr rfl
            have r1:wk.cell? ⟨Rb,1,none⟩=some (.int .i64 at'):=cell_in qr rfl
            have r2:wk.cell? ⟨Rb,2,none⟩=some (.int .i64 plain):=cell_in qr rfl
            have r3:wk.cell? ⟨Rb,3,none⟩=some (.int .i64 packed):=cell_in qr rfl
            have r4:wk.cell? ⟨Rb,4,none⟩=some (.int .i64 size):=cell_in qr rfl
            have r5:wk.cell? ⟨Rb,5,none⟩=some (ptrR Ob):=cell_in qr rfl
            have rf:=fun i=>frozen_in qr i
            clear qr
            go_quiet (first|((with_reducible refine quiet_left (HB.out _ _ ?_));omega)|((with_reducible refine quiet_left (HC.out _ _ ?_));omega))
            replace HM:=Hd (HALL.out nq)
            clear HALL e0 e1 e2 e3 e4 e5 ef r0 r1 r2 r3 r4 r5 rf
            generalize wk.drewN nq=wk at*
            clear w1 w2 hfi
            go_wp2_with fail
            have HN:=Hd HM.out.n
            have ss:=HN.out.cells (w':=wk) (lift0 (Fr.refl _ _))
            obtain⟨c0,c1,c2,c3,c4,c5,r0,r1,r2,r3,r4,r5⟩:=ss
            have q2:=HN.out.b2
            obtain⟨a0,a1,a2,a3,a4,a5,af⟩:=cf6 q2 rfl rfl rfl rfl rfl rfl
            clear q2
            have HSC:=Hd (HN.out.cells7 (w':=wk.drew) (Fr.refl _ _).drew)
            clear c0 c1 c2 c3 c4 c5 r0 r1 r2 r3 r4 r5
            have ss:=HSC.out
            obtain⟨c0,c1,c2,c3,c4,c5,r1⟩:=ss
            go_region_held3 (fun w'=>w'.cell? ⟨z6,0,none⟩=some (.int .i64 0)∧w'.cell? ⟨z6,1,none⟩=some (.int .i64 0)∧w'.cell? ⟨z6,2,none⟩=some (.int .i64 0)∧w'.cell? ⟨z6,3,none⟩=some (.int .i64 0)∧w'.cell? ⟨z6,4,none⟩=some (.int .i64 0)∧w'.cell? ⟨z6,5,none⟩=some (.int .i64 0)∧w'.cell? ⟨Rb,1,none⟩=some (.int .i64 at'))
             (first|with_reducible exact HSC.out|(refine HN.out.cells7 ?_;((try refine Fr.drew ?_);(repeat refine Fr.setCell ?_ (.inl (by simp)) _);first|exact Fr.refl _ _|exact(Fr.refl _ _).drew))) (fail)
            go_wp2_with fail
            refine bodyPost_ret (v:=.tuple #[.agg Head.none.cells,.slice none 0 0,.int .i64 at',.int .i64 2]) (by simp[Head.none,Head.cells,results,Tryz.results100,go_sem,a0,a1,a2,a3,a4,a5]) rfl ?_
            rw[HR.out]
            exact⟨HN.out.fin (by((try refine Fr.drew ?_);(repeat refine Fr.setCell ?_ (.inl (by simp)) _);first|exact Fr.refl _ _|exact(Fr.refl _ _).drew)),rfl⟩
          |false=>
            replace HR:=Hd (HR.out.trans (if_neg (by rw[hb1,hb2];simp)))
            have HB:=Hd (fun m k hk=>HB1.out false hb1 m k hk)
            have HC:=Hd (fun m k hk=>HB2.out false hb2 m k hk)
            clear HB1 HB2 hb1 hb2
            have HALL:=Hd (fun n=>HM.out.keep ((R0 wk).drewN n))
            have q8:=HM.out.b8
            obtain⟨e0,e1,e2,e3,e4,e5,ef⟩:=cf6 q8 rfl rfl rfl rfl rfl rfl
            clear q8
            have qr:=HM.out.n.row
            unfold RowAt at qr
            have r0:wk.cell? ⟨Rb,0,none⟩=some (.slice (some ⟨bb,o,none⟩) b.length cap):=cell_in qr rfl
            have r1:wk.cell? ⟨Rb,1,none⟩=some (.int .i64 at'):=cell_in qr rfl
            have r2:wk.cell? ⟨Rb,2,none⟩=some (.int .i64 plain):=cell_in qr rfl
            have r3:wk.cell? ⟨Rb,3,none⟩=some (.int .i64 packed):=cell_in qr rfl
            have r4:wk.cell? ⟨Rb,4,none⟩=some (.int .i64 size):=cell_in qr rfl
            have r5:wk.cell? ⟨Rb,5,none⟩=some (ptrR Ob):=cell_in qr rfl
            have rf:=fun i=>frozen_in qr i
            clear qr
            go_quiet (first|((with_reducible refine quiet_left (HB.out _ _ ?_));omega)|((with_reducible refine quiet_left (HC.out _ _ ?_));omega))
            replace HM:=Hd (HALL.out nq)
            clear HALL e0 e1 e2 e3 e4 e5 ef r0 r1 r2 r3 r4 r5 rf
            generalize wk.drewN nq=wk at*
            clear hfi
            have w3:IntKind.i64.wrap ((b.length:Int)-fm)=(b.length:Int)-fm:=IntWalk.i64_in _ (by omega)
            go_wp2_with fail
            have HALL:=Hd (fun n=>HM.out.keep ((R0 wk).drewN n))
            have q8:=HM.out.b8
            obtain⟨e0,e1,e2,e3,e4,e5,ef⟩:=cf6 q8 rfl rfl rfl rfl rfl rfl
            clear q8
            have qr:=HM.out.n.row
            unfold RowAt at qr
            have r0:wk.cell? ⟨Rb,0,none⟩=some (.slice (some ⟨bb,o,none⟩) b.length cap):=cell_in qr rfl
            have r1:wk.cell? ⟨Rb,1,none⟩=some (.int .i64 at'):=cell_in qr rfl
            have r2:wk.cell? ⟨Rb,2,none⟩=some (.int .i64 plain):=cell_in qr rfl
            have r3:wk.cell? ⟨Rb,3,none⟩=some (.int .i64 packed):=cell_in qr rfl
            have r4:wk.cell? ⟨Rb,4,none⟩=some (.int .i64 size):=cell_in qr rfl
            have r5:wk.cell? ⟨Rb,5,none⟩=some (ptrR Ob):=cell_in qr rfl
            have rf:=fun i=>frozen_in qr i
            clear qr
            go_quiet (fail)
            replace HM:=Hd (HALL.out nq)
            clear HALL e0 e1 e2 e3 e4 e5 ef r0 r1 r2 r3 r4 r5 rf
            generalize wk.drewN nq=wk at*
            clear w3
            by_cases hsh:b.length-fm<gp
            ·replace HR:=Hd (HR.out.trans (if_pos hsh))
             have hi:(b.length:Int)-fm<gp:=by omega
             have HN:=Hd HM.out.n
             have ss:=HN.out.cells (w':=wk) (lift0 (Fr.refl _ _))
             obtain⟨c0,c1,c2,c3,c4,c5,r0,r1,r2,r3,r4,r5⟩:=ss
             have q2:=HN.out.b2
             obtain⟨a0,a1,a2,a3,a4,a5,af⟩:=cf6 q2 rfl rfl rfl rfl rfl rfl
             clear q2
             go_wp2_with fail
             refine bodyPost_ret (v:=.tuple #[.agg Head.none.cells,.slice none 0 0,.int .i64 fm,.int .i64 1]) (by simp[Head.none,Head.cells,results,Tryz.results100,go_sem,a0,a1,a2,a3,a4,a5]) rfl ?_
             rw[HR.out]
             exact⟨HN.out.fin (by((try refine Fr.drew ?_);(repeat refine Fr.setCell ?_ (.inl (by simp)) _);first|exact Fr.refl _ _|exact(Fr.refl _ _).drew)),rfl⟩
            replace HR:=Hd (HR.out.trans (if_neg hsh))
            have hi:(gp:Int)≤(b.length:Int)-fm:=by omega
            have q8:=HM.out.b8
            obtain⟨e0,e1,e2,e3,e4,e5,ef⟩:=cf6 q8 rfl rfl rfl rfl rfl rfl
            clear q8
            have qr:=HM.out.n.row
            unfold RowAt at qr
            have r0:wk.cell? ⟨Rb,0,none⟩=some (.slice (some ⟨bb,o,none⟩) b.length cap):=cell_in qr rfl
            have r1:wk.cell? ⟨Rb,1,none⟩=some (.int .i64 at'):=cell_in qr rfl
            have r2:wk.cell? ⟨Rb,2,none⟩=some (.int .i64 plain):=cell_in qr rfl
            have r3:wk.cell? ⟨Rb,3,none⟩=some (.int .i64 packed):=cell_in qr rfl
            have r4:wk.cell? ⟨Rb,4,none⟩=some (.int .i64 size):=cell_in qr rfl
            have r5:wk.cell? ⟨Rb,5,none⟩=some (ptrR Ob):=cell_in qr rfl
            have rf:=fun i=>frozen_in qr i
            clear qr
            obtain⟨fg,hfg⟩:∃fg,fg=fm+gp:=⟨_,rfl⟩
            obtain⟨pg,hpg⟩:∃pg,pg=plain+gs:=⟨_,rfl⟩
            have hfg2:(fm:Int)+gp=(fg:Int):=by omega
            have hpg2:(plain:Int)+gs=(pg:Int):=by omega
            have w1b:IntKind.i64.wrap ((fm:Int)+gp)=(fg:Int):=by rw[w1];exact hfg2
            have w2b:IntKind.i64.wrap ((plain:Int)+gs)=(pg:Int):=by rw[w2];exact hpg2
            have hgl2:gp≤b.length-fm:=by omega
            rw[←hfg,←hpg] at HR
            have HFG:=Hd hfg
            clear w1 w2 hpg hsh
            have hsl2:=slice_lhI (some ⟨bb,o,none⟩) b.length cap fm fg (fm:Int) (fg:Int) rfl rfl (by omega) (by omega)
            rw[show fg-fm=gp by omega] at hsl2
            have HMID:=Hd (fun(W:World)(hr:Rd W (.slice (some ⟨bb,o,none⟩) b.length cap) b)=>rd_mid (a:=fm) (b:=fg) hr (by omega) (by omega))
            have HDB:=Hd (fun m c2=>Win.drop_block (some ⟨bb,o,none⟩) b.length m cap c2 fm)
            generalize dropP (some ⟨bb,o,none⟩) cap fm=q2 at*
            generalize cap-fm=c2 at*
            clear hfg
            go_wp2_with fail
            have hrow:=set_in HM.out.n.row 1 (.int .i64 (fg:Int))
            replace HM:=Hd (HM.out.moved (Fr.one wk Rb 1 (.int .i64 (fg:Int))) (show RowAt (wk.setCell ⟨Rb,1,none⟩ (.int .i64 (fg:Int))) Rb (.slice (some ⟨bb,o,none⟩) b.length cap) fg plain packed size Ob from hrow))
            generalize wk.setCell ⟨Rb,1,none⟩ (.int .i64 (fg:Int))=wk at*
            clear hrow e0 e1 e2 e3 e4 e5 ef r0 r1 r2 r3 r4 r5 rf
            have q8:=HM.out.b8
            have e1:=cell_in (i:=1) q8 rfl
            have qr:=HM.out.n.row
            unfold RowAt at qr
            have r2:wk.cell? ⟨Rb,2,none⟩=some (.int .i64 plain):=cell_in qr rfl
            have rf:=fun i=>frozen_in qr i
            have HQR:=Hd qr
            clear q8 qr
            go_region
            all_goals
             go_wp2_with fail
             have hrow:=set_in HQR.out 2 (.int .i64 (pg:Int))
             have HM2:=Hd (HM.out.moved ((Fr.one wk Rb 2 (.int .i64 (pg:Int))).drew) (show RowAt (wk.setCell ⟨Rb,2,none⟩ (.int .i64 (pg:Int))).drew Rb (.slice (some ⟨bb,o,none⟩) b.length cap) fg pg packed size Ob from hrow))
             generalize(wk.setCell ⟨Rb,2,none⟩ (.int .i64 (pg:Int))).drew=w7 at*
             clear hrow e1 r2 rf HQR HM
             have q2:=HM2.out.n.b2
             obtain⟨a0,a1,a2,a3,a4,a5,af⟩:=cf6 q2 rfl rfl rfl rfl rfl rfl
             clear q2
             have HSC:=Hd (HM2.out.cells8 (w':=w7.drew) (Fr.refl _ _).drew)
             have ss:=HSC.out
             obtain⟨e0,e1,e2,e3,e4,e5,r0,r1⟩:=ss
             have i3:(0:Int)≤(fm:Int):=by omega
             go_region_held3 (fun w'=>w'.cell? ⟨z8,0,none⟩=some (.int .i64 gk)∧w'.cell? ⟨z8,1,none⟩=some (.int .i64 gs)∧w'.cell? ⟨z8,2,none⟩=some (.int .i64 gp)∧w'.cell? ⟨z8,3,none⟩=some (.int .i64 glc)∧w'.cell? ⟨z8,4,none⟩=some (.int .i64 glp)∧w'.cell? ⟨z8,5,none⟩=some (.int .i64 gpb)∧w'.cell? ⟨Rb,0,none⟩=some (.slice (some ⟨bb,o,none⟩) b.length cap)∧w'.cell? ⟨Rb,1,none⟩=some (.int .i64 fg))
              (first|with_reducible exact HSC.out|(refine HM2.out.cells8 ?_;((try refine Fr.drew ?_);(repeat refine Fr.setCell ?_ (.inl (by simp)) _);first|exact Fr.refl _ _|exact(Fr.refl _ _).drew))) (fail)
             go_wp2_with fail
             refine bodyPost_ret (v:=.tuple #[.agg #[.int .i64 gk,.int .i64 gs,.int .i64 gp,.int .i64 glc,.int .i64 glp,.int .i64 gpb],.slice q2 gp c2,.int .i64 fm,.int .i64 0]) (by simp[results,Tryz.results100,go_sem,a0,a1,a2,a3,a4,a5]) rfl ?_
             rw[HR.out]
             exact M.last HM2.out HMID.out HDB.out HFG.out hgl2 (by((try refine Fr.drew ?_);(repeat refine Fr.setCell ?_ (.inl (by simp)) _);first|exact Fr.refl _ _|exact(Fr.refl _ _).drew))
       ·replace HR:=Hd (HR.out.trans (if_pos hge))
        have hne:((ge:Int) !=0)=true:=by simp[hge]
        clear hge
        have HN:=Hd HM.out.n
        have ss:=HN.out.cells (w':=wk) (lift0 (Fr.refl _ _))
        obtain⟨c0,c1,c2,c3,c4,c5,r0,r1,r2,r3,r4,r5⟩:=ss
        go_wp2_with fail
        have q2:=HN.out.b2
        obtain⟨a0,a1,a2,a3,a4,a5,af⟩:=cf6 q2 rfl rfl rfl rfl rfl rfl
        clear q2
        have HSC:=Hd (HN.out.cells7 (w':=wk.drew) (Fr.refl _ _).drew)
        clear c0 c1 c2 c3 c4 c5 r0 r1 r2 r3 r4 r5
        have ss:=HSC.out
        obtain⟨c0,c1,c2,c3,c4,c5,r1⟩:=ss
        go_region_held3 (fun w'=>w'.cell? ⟨z6,0,none⟩=some (.int .i64 0)∧w'.cell? ⟨z6,1,none⟩=some (.int .i64 0)∧w'.cell? ⟨z6,2,none⟩=some (.int .i64 0)∧w'.cell? ⟨z6,3,none⟩=some (.int .i64 0)∧w'.cell? ⟨z6,4,none⟩=some (.int .i64 0)∧w'.cell? ⟨z6,5,none⟩=some (.int .i64 0)∧w'.cell? ⟨Rb,1,none⟩=some (.int .i64 at'))
         (first|with_reducible exact HSC.out|(refine HN.out.cells7 ?_;((try refine Fr.drew ?_);(repeat refine Fr.setCell ?_ (.inl (by simp)) _);first|exact Fr.refl _ _|exact(Fr.refl _ _).drew))) (fail)
        go_wp2_with fail
        refine bodyPost_ret (v:=.tuple #[.agg Head.none.cells,.slice none 0 0,.int .i64 at',.int .i64 ge]) (by simp[Head.none,Head.cells,results,Tryz.results100,go_sem,a0,a1,a2,a3,a4,a5]) rfl ?_
        rw[HR.out]
        exact⟨HN.out.fin (by((try refine Fr.drew ?_);(repeat refine Fr.setCell ?_ (.inl (by simp)) _);first|exact Fr.refl _ _|exact(Fr.refl _ _).drew)),rfl⟩
end Ck
end Go.Proofs.YtffoddpjfgjelaaGreatDoor
