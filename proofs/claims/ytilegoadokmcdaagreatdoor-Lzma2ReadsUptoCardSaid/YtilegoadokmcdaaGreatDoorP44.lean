/- Part 44 of 53: lemmas of the last part, each under the conditions that it names. -/
import Derived.Test.YtilegoadokmcdaaGreatDoorP21
import Derived.Test.YtilegoadokmcdaaGreatDoorP22
import Derived.Test.YtilegoadokmcdaaGreatDoorP42
import Derived.Test.YtilegoadokmcdaaGreatDoorP43
set_option linter.unusedVariables false
set_option linter.unusedSimpArgs false
set_option maxRecDepth 1500
namespace Go.Proofs.YtilegoadokmcdaaGreatDoor
open Go.RowKit
namespace Rf
open Mem Rc Prob St Lz Win
def RL.rd(l:RL)(Q:Nat)(bv av:Value)(st:List Ent):RL:={l with Q:=Q,bv:=bv,av:=av,st:=st}
theorem RAt.offS{w:World}{l:RL}{c:C}{y:Y}(h:RAt w l c y){k:Nat}{cs:Array Value}{t:TypeId}{fr:Nat×Nat}(hk:w.heap[k]? =some (.cells cs t fr))(h1:t≠127)(h2:t≠239)(h3:t≠337)(h4:t≠3):¬l.S k:=by
 rintro(rfl|rfl|hs)
 ·exact blk_ne h.x hk (fun e=>h1 e.symm) rfl
 ·exact blk_ne h.rd.box hk (fun e=>h2 e.symm) rfl
 ·exact h.cod.sets.off hk h3 h4 hs
structure Sg(l:RL)(Q:Nat)(bv:Value)(w wk:World)(lv pv:Value)(ls:List Sy)(outs:List UInt8)(c:C)(y:Y)(av:Value)(st:List Ent):Prop where
 at':RAt wk (l.rd Q bv av st) c y
 fr:Fr l.DF w wk
 mine:Mine w wk pv outs
 syms:Syms w wk lv ls
 avn:∀k,av.ownBlock=some k→l.av.ownBlock=some k∨w.heap.size≤k
 stn:∀k,SF l.M st k→SF l.M l.st k∨w.heap.size≤k
 pa:∀k,pv.ownBlock=some k→av.ownBlock≠some k
 bvp:∀k,bv.ownBlock=some k→pv.ownBlock≠some k
 q:w.heap.size≤Q
 bvq:∀k,bv.ownBlock=some k→w.heap.size≤k
 old:∀k,l.DF k→k<w.heap.size
def ownedS(t:TypeId):Prop:=ownedR t∨t=239∨t=68
instance (t:TypeId):Decidable (ownedS t):=by unfold ownedS;infer_instance
theorem Sg.lt{l:RL}{Q:Nat}{bv:Value}{w wk:World}{lv pv:Value}{ls:List Sy}{outs:List UInt8}{c:C}{y:Y}{av:Value}{st:List Ent}(h:Sg l Q bv w wk lv pv ls outs c y av st):(∀k,bv.ownBlock=some k→k<wk.heap.size)∧(∀k,av.ownBlock=some k→k<wk.heap.size)∧(∀k,pv.ownBlock=some k→k<wk.heap.size)∧Q<wk.heap.size∧l.V<wk.heap.size∧l.K<wk.heap.size∧l.X<wk.heap.size:=
 ⟨fun k hk=>rd_lt h.at'.rd.rd h.at'.d.2.2.2.2 k hk,fun k hk=>(World.ownsRow.lt h.at'.cod.all k hk).2,h.mine.lt,lt_of_block h.at'.rd.box,lt_of_block h.at'.cod.v,lt_of_block h.at'.cod.k,lt_of_block h.at'.x⟩
theorem Sg.bad{l:RL}{Q:Nat}{bv:Value}{w wk:World}{lv pv:Value}{ls:List Sy}{outs:List UInt8}{c:C}{y:Y}{av:Value}{st:List Ent}(h:Sg l Q bv w wk lv pv ls outs c y av st):wk.heap[l.X]? =some (.cells #[ptr l.K,ptr Q,.bool y.bad,.bool false] 127 (0,0)):=h.at'.x
theorem Sg.step{S:Nat→Prop}{l:RL}{Q:Nat}{bv:Value}{w wk w':World}{lv pv:Value}{ls:List Sy}{outs:List UInt8}{c:C}{y:Y}{av:Value}{st:List Ent}(h:Sg l Q bv w wk lv pv ls outs c y av st)(hfr:Fr S wk w')
 (hS:∀k,S k→w.heap.size≤k∧∃cs t fr,wk.heap[k]? =some (.cells cs t fr)∧¬ownedS t)(hB:∀k,bv.ownBlock=some k→¬S k):Sg l Q bv w w' lv pv ls outs c y av st:=by
 have hn:∀{k:Nat}{cs:Array Value}{t:TypeId}{fr:Nat×Nat},wk.heap[k]? =some (.cells cs t fr)→ownedS t→¬S k:=by
  intro k cs t fr hk ht hs
  obtain⟨_,cs',t',fr',hk',ht'⟩:=hS k hs
  rw[hk] at hk'
  simp only[Option.some.injEq,Obj.cells.injEq] at hk'
  exact ht' (hk'.2.1 ▸ ht)
 refine⟨h.at'.step hfr (hn h.at'.x (by decide)) (hn h.at'.rd.box (by decide)) (fun k hk hs=> ?_) (fun k hk hs=> ?_),h.fr.trans' hfr (fun k hk hs=>absurd (hS k hs).1 (by omega)),h.mine.step hfr (fun k hk hs=> ?_),h.syms.step hfr (fun k hk hs=> ?_),h.avn,h.stn,h.pa,h.bvp,h.q,h.bvq,h.old⟩
 ·obtain⟨_,cs',t',fr',hk',ht'⟩:=hS k hs
  exact h.at'.cod.offT hk' (fun e=>ht' (e ▸ by decide)) (fun e=>ht' (e ▸ by decide)) (fun e=>ht' (e ▸ by decide)) (fun e=>ht' (e ▸ by decide)) (fun e=>ht' (e ▸ by decide)) k hk rfl
 ·exact hB k hk hs
 ·obtain⟨cur,hc⟩:=own_block h.mine.own hk
  exact hn hc (by decide) hs
 ·obtain⟨cur,hc⟩:=own_block h.syms.own hk
  exact hn hc (by decide) hs
theorem Sg.keep{l:RL}{Q:Nat}{bv:Value}{w wk w':World}{lv pv:Value}{ls:List Sy}{outs:List UInt8}{c:C}{y:Y}{av:Value}{st:List Ent}(h:Sg l Q bv w wk lv pv ls outs c y av st)(hfr:Fr (fun _=>False) wk w'):Sg l Q bv w w' lv pv ls outs c y av st:=
 h.step hfr (fun _ h=>h.elim) (fun _ _ h=>h)
theorem Sg.sym{l:RL}{Q:Nat}{bv:Value}{w wk w2:World}{lv pv:Value}{ls:List Sy}{outs:List UInt8}{c:C}{y y2:Y}{av:Value}{st st':List Ent}(h:Sg l Q bv w wk lv pv ls outs c y av st)(hfr:Fr (l.rd Q bv av st).S wk w2)(hA:RAt w2 {l.rd Q bv av st with st:=st'} c y2)(hg:∀k,SF l.M st' k→SF l.M st k∨wk.heap.size≤k):
 Sg l Q bv w w2 lv pv ls outs c y2 av st':=by
 have hs:=h.fr.size
 refine⟨hA,h.fr.trans' hfr (fun k hk hS=> ?_),h.mine.step hfr (fun k hk=> ?_),h.syms.step hfr (fun k hk=> ?_),h.avn,fun k hk=> ?_,h.pa,h.bvp,h.q,h.bvq,h.old⟩
 ·rcases hS with hS|hS|hS
  ·exact .inl hS
  ·have:=h.q
   have hS:k=Q:=hS
   omega
  ·rcases h.stn k hS with h1|h1
   ·exact .inr (.inr (.inr (.inr h1)))
   ·omega
 ·obtain⟨cur,hc⟩:=own_block h.mine.own hk
  exact h.at'.offS hc (by decide) (by decide) (by decide) (by decide)
 ·obtain⟨cur,hc⟩:=own_block h.syms.own hk
  exact h.at'.offS hc (by decide) (by decide) (by decide) (by decide)
 ·rcases hg k hk with h1|h1
  ·exact h.stn k h1
  ·exact .inr (by omega)
theorem Sg.applied{l:RL}{Q:Nat}{bv v:Value}{w wk w2:World}{lv pv:Value}{ls:List Sy}{outs bytes:List UInt8}{c:C}{y:Y}{av:Value}{st:List Ent}(h:Sg l Q bv w wk lv pv ls outs c y av st)(ha:AppOk l.V c.size av c.all bytes v wk w2)(hm:c.all.length+bytes.length≤70368744177664):
 ∃av2,Sg l Q bv w w2 lv pv ls outs (c.on bytes) y av2 st∧Mine w w2 v bytes:=by
 obtain⟨⟨av2,hW,hn,hv⟩,hf,hmine⟩:=ha
 obtain⟨lb,la,lp,lQ,lV,lK,lX⟩:=h.lt
 have hs:=h.fr.size
 have hc:=h.at'.cod
 have hoff:∀{k:Nat}{cs:Array Value}{t:TypeId}{fr:Nat×Nat},wk.heap[k]? =some (.cells cs t fr)→t≠182→t≠5→¬(k=l.V∨av.ownBlock=some k):=by
  intro k cs t fr hk h1 h2 h3
  rcases h3 with h3|h3
  ·exact blk_ne hk hc.v h1 h3
  ·obtain⟨cur,hcu⟩:=own_block hc.all h3
   exact blk_ne hk hcu h2 rfl
 have hcod:Cod w2 (l.rd Q bv av2 st) (c.on bytes) y.ps:=by
  refine⟨hf.keep hc.k (hoff hc.k (by decide) (by decide)),hW.v,hW.own,hc.sets.step hf (fun k hk e=> ?_),hc.has,⟨hc.okc.l,hc.okc.pb,hc.okc.s⟩,hc.len,hc.okp,hc.size,by simp only[C.on,List.length_append];omega⟩
  rcases e with e|e
  ·exact hc.sfV (e ▸ hk)
  ·exact hc.sfA k e hk
 refine⟨av2,⟨⟨hf.keep h.at'.x (hoff h.at'.x (by decide) (by decide)),hcod,⟨hf.keep h.at'.rd.box (hoff h.at'.rd.box (by decide) (by decide)),h.at'.rd.rd.step hf (fun k hk e=> ?_)⟩,h.at'.d,fun k hk e=> ?_⟩,h.fr.trans' hf (fun k hk e=> ?_),h.mine.step hf (fun k hk e=> ?_),h.syms.step hf (fun k hk=> ?_),fun k hk=> ?_,h.stn,fun k hk e=> ?_,h.bvp,h.q,h.bvq,h.old⟩,hmine.own,fun k hk=>Nat.le_trans hs (hmine.new k hk)⟩
 ·rcases e with e|e
  ·have h1:=h.bvq k hk
   have h2:=h.old l.V (.inr (.inr (.inl rfl)))
   omega
  ·exact h.at'.bva k hk e
 ·rcases hn k e with h1|h1
  ·exact h.at'.bva k hk h1
  ·have:=lb k hk
   omega
 ·rcases e with e|e
  ·exact .inr (.inr (.inl e))
  ·rcases h.avn k e with h1|h1
   ·exact .inr (.inr (.inr (.inl h1)))
   ·omega
 ·rcases e with e|e
  ·obtain⟨cur,hcu⟩:=own_block h.mine.own hk
   exact blk_ne hcu hc.v (by decide) e
  ·exact h.pa k hk e
 ·obtain⟨cur,hcu⟩:=own_block h.syms.own hk
  exact hoff hcu (by decide) (by decide)
 ·rcases hn k hk with h1|h1
  ·exact h.avn k h1
  ·exact .inr (by omega)
 ·rcases hn k e with h1|h1
  ·exact h.pa k hk h1
  ·have:=lp k hk
   omega
theorem kV_to(l:RL)(c:C)(s:S):(((((kV l c).setIfInBounds 4 (.int .i64 s.num)).setIfInBounds 5 (.int .i64 s.r0)).setIfInBounds 6 (.int .i64 s.r1)).setIfInBounds 7 (.int .i64 s.r2)).setIfInBounds 8 (.int .i64 s.r3)=kV l (c.to s):=by
 simp[kV,C.to]
theorem Sg.stated{l:RL}{Q:Nat}{bv:Value}{w wk w2:World}{lv pv:Value}{ls:List Sy}{outs:List UInt8}{c:C}{y:Y}{av:Value}{st:List Ent}(h:Sg l Q bv w wk lv pv ls outs c y av st)(s:S)(hs:s.Ok)(hf:Fr (fun k=>k=l.K) wk w2)(hk:w2.heap[l.K]? =some (.cells (kV (l.rd Q bv av st) (c.to s)) 136 (0,0))):
 Sg l Q bv w w2 lv pv ls outs (c.to s) y av st:=by
 have hc:=h.at'.cod
 have hoff:∀{k:Nat}{cs:Array Value}{t:TypeId}{fr:Nat×Nat},wk.heap[k]? =some (.cells cs t fr)→t≠136→¬k=l.K:=by
  intro k cs t fr hk h1 h2
  exact blk_ne hk hc.k h1 h2
 have hown:∀{T:TypeId}{z n:Nat}{v:Value}{xs:List Value},wk.ownsRow 0 T z v n xs→T≠136→∀k,v.ownBlock=some k→¬k=l.K:=by
  intro T z n v xs ho hT k hk
  obtain⟨cur,hcu⟩:=own_block ho hk
  exact hoff hcu hT
 refine⟨⟨hf.keep h.at'.x (hoff h.at'.x (by decide)),⟨hk,hf.keep hc.v (hoff hc.v (by decide)),own_step hc.all hf (hown hc.all (by decide)),hc.sets.step hf (fun k hk e=>hc.sfK (e ▸ hk)),hc.has,⟨hc.okc.l,hc.okc.pb,hs⟩,hc.len,hc.okp,hc.size,hc.much⟩,⟨hf.keep h.at'.rd.box (hoff h.at'.rd.box (by decide)),h.at'.rd.rd.step hf (fun k hk e=> ?_)⟩,h.at'.d,h.at'.bva⟩,h.fr.trans (hf.mono (fun k _ e=>.inr (.inl e))),h.mine.step hf (hown h.mine.own (by decide)),h.syms.step hf (hown h.syms.own (by decide)),h.avn,h.stn,h.pa,h.bvp,h.q,h.bvq,h.old⟩
 have h1:=h.bvq k hk
 have h2:=h.old l.K (.inr (.inl rfl))
 omega
theorem Sg.app1{l:RL}{Q:Nat}{bv:Value}{w wk w2:World}{lv lv2 pv:Value}{ls ls2:List Sy}{outs:List UInt8}{c:C}{y:Y}{av:Value}{st:List Ent}(h:Sg l Q bv w wk lv pv ls outs c y av st)(hbl:∀k,bv.ownBlock=some k→lv.ownBlock≠some k)(hs:Syms w w2 lv2 ls2)(hf:Fr (fun k=>lv.ownBlock=some k) wk w2):
 Sg l Q bv w w2 lv2 pv ls2 outs c y av st:=by
 have hc:=h.at'.cod
 have hoff:∀{k:Nat}{cs:Array Value}{t:TypeId}{fr:Nat×Nat},wk.heap[k]? =some (.cells cs t fr)→t≠68→¬lv.ownBlock=some k:=by
  intro k cs t fr hk h1 h2
  obtain⟨cur,hcu⟩:=own_block h.syms.own h2
  exact blk_ne hk hcu h1 rfl
 refine⟨h.at'.step hf (hoff h.at'.x (by decide)) (hoff h.at'.rd.box (by decide)) (fun k hk e=> ?_) (fun k hk e=>hbl k hk e),h.fr.trans' hf (fun k hk(e:lv.ownBlock=some k)=> ?_),h.mine.step hf (fun k hk=> ?_),hs,h.avn,h.stn,h.pa,h.bvp,h.q,h.bvq,h.old⟩
 ·obtain⟨cur,hcu⟩:=own_block h.syms.own e
  exact hc.offT hcu (by decide) (by decide) (by decide) (by decide) (by decide) k hk rfl
 ·have:=h.syms.new k e
  omega
 ·obtain⟨cur,hcu⟩:=own_block h.mine.own hk
  exact hoff hcu (by decide)
theorem Sg.app2{l:RL}{Q:Nat}{bv:Value}{w wk w2:World}{lv pv pv2:Value}{ls:List Sy}{outs outs2:List UInt8}{c:C}{y:Y}{av:Value}{st:List Ent}(h:Sg l Q bv w wk lv pv ls outs c y av st)(hm:Mine w w2 pv2 outs2)(hf:Fr (fun k=>pv.ownBlock=some k) wk w2)(hn:∀k,pv2.ownBlock=some k→pv.ownBlock=some k∨wk.heap.size≤k):
 Sg l Q bv w w2 lv pv2 ls outs2 c y av st:=by
 obtain⟨lb,la,lp,lQ,lV,lK,lX⟩:=h.lt
 have hc:=h.at'.cod
 have hoff:∀{k:Nat}{cs:Array Value}{t:TypeId}{fr:Nat×Nat},wk.heap[k]? =some (.cells cs t fr)→t≠5→¬pv.ownBlock=some k:=by
  intro k cs t fr hk h1 h2
  obtain⟨cur,hcu⟩:=own_block h.mine.own h2
  exact blk_ne hk hcu h1 rfl
 refine⟨h.at'.step hf (hoff h.at'.x (by decide)) (hoff h.at'.rd.box (by decide)) (fun k hk e=> ?_) (fun k hk e=>h.bvp k hk e),h.fr.trans' hf (fun k hk(e:pv.ownBlock=some k)=> ?_),hm,h.syms.step hf (fun k hk=> ?_),h.avn,h.stn,fun k hk e=> ?_,fun k hk e=> ?_,h.q,h.bvq,h.old⟩
 ·rcases hk with hk|hk|hk|hk
  ·exact hoff hc.k (by decide) (hk ▸ e)
  ·exact hoff hc.v (by decide) (hk ▸ e)
  ·exact h.pa k e hk
  ·obtain⟨cur,hcu⟩:=own_block h.mine.own e
   exact hc.sets.off hcu (by decide) (by decide) hk
 ·have:=h.mine.new k e
  omega
 ·obtain⟨cur,hcu⟩:=own_block h.syms.own hk
  exact hoff hcu (by decide)
 ·rcases hn k hk with h1|h1
  ·exact h.pa k h1 e
  ·have:=la k e
   omega
 ·rcases hn k e with h1|h1
  ·exact h.bvp k hk h1
  ·have:=lb k hk
   omega
theorem init_err{xs:List UInt8}{x:Nat}(h:init xs=.error x):x≠0:=by
 unfold init at h
 split at h
 ·cases h;decide
 ·split at h
  ·cases h;decide
  ·cases h
theorem Sg.start{l:RL}{c:C}{ps:Nat→List Nat}{d:D}{Q:Nat}{bv:Value}{w w1 w3:World}(H:Dcd w l c ps false)(hf:Fr (fun _=>False) w w1)(hR:RDec w1 Q bv d)(hQ:w.heap.size≤Q)(hbv:∀k,bv.ownBlock=some k→w.heap.size≤k)(hd:d.ok)
 (f3:Fr (fun k=>k=l.X) w1 w3)(h3:w3.heap[l.X]? =some (.cells #[ptr l.K,ptr Q,.bool false,.bool false] 127 (0,0))):Sg l Q bv w w3 (.slice none 0 0) (.slice none 0 0) [] [] c ⟨d,false,ps⟩ l.av l.st:=by
 have hXl:=H.old l.X (.inl rfl)
 have hbX:∀k,bv.ownBlock=some k→k≠l.X:=fun k hk e=>by have:=hbv k hk;omega
 have hc:=(H.cod.step hf (fun _ _ h=>h)).step f3 (fun k hk e=>H.xk k hk e)
 refine⟨⟨h3,⟨hc.k,hc.v,hc.all,hc.sets,hc.has,hc.okc,hc.len,hc.okp,hc.size,hc.much⟩,⟨f3.keep hR.box (fun(e:Q=l.X)=>by omega),hR.rd.step f3 (fun k hk e=>hbX k hk e)⟩,hd,fun k hk e=> ?_⟩,(lift hf).trans (f3.mono (fun k _ e=>.inl e)),Mine.nil _ _,⟨World.ownsRow_nil _ _ _ _,fun k hk=>by simp[Value.ownBlock] at hk⟩,fun k hk=>.inl hk,fun k hk=>.inl hk,fun k hk=>by simp[Value.ownBlock] at hk,fun k hk=>by simp[Value.ownBlock],hQ,hbv,H.old⟩
 have h1:=hbv k hk
 have h2:=H.old k (.inr (.inr (.inr (.inl e))))
 omega
end Rf
end Go.Proofs.YtilegoadokmcdaaGreatDoor
