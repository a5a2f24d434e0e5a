/- Part 45 of 53: lemmas of the last part, each under the conditions that it names. -/
import Derived.Deep.RegionHeld3
import Derived.Deep.CutBlock
import Derived.Deep.DeepCutAuto
import Derived.BigQuiet
import Derived.Test.YtilegoadokmcdaaGreatDoorP44
set_option linter.unusedVariables false
set_option linter.unusedSimpArgs false
set_option maxRecDepth 1500
set_option maxHeartbeats 4000000
namespace Go.Proofs.YtilegoadokmcdaaGreatDoor
open Go.RowKit
namespace Rf
open Mem Rc Prob St Lz Win
def RAllPost(l:RL)(c:C)(ps:Nat→List Nat)(xs:List UInt8)(n:Nat)(w:World)(e:Ending)(w':World):Prop:=
 ∃lv pv ok,e=.returned (.tuple #[lv,pv,.bool ok])∧Fr l.DF w w'∧(∃dv bad,w'.heap[l.X]? =some (.cells #[ptr l.K,dv,.bool bad,.bool false] 127 (0,0)))∧match takeAll c ps xs n with
  |none=>ok=false
  |some (ls,outs,c2,ps2)=>ok=true∧∃l',NxR w l l'∧Dcd w' l' c2 ps2 false∧Mine w w' pv outs∧Syms w w' lv ls∧(∀k,pv.ownBlock=some k→¬l'.DF k)∧(∀k,lv.ownBlock=some k→¬l'.DF k)
structure Lp(l:RL)(Q:Nat)(bv:Value)(c0:C)(y0:Y)(n:Nat)(w:World)(lv pv:Value)(wr:World)(f:Nat)(c:C)(y:Y)(ls:List Sy)(outs:List UInt8)(av:Value)(st:List Ent):Prop where
 fuel:n-outs.length<f
 go:takeGo n (n+1) c0 y0 [] []=takeGo n f c y ls outs
 le:outs.length≤n
 all:c.all.length=c0.all.length+outs.length
 size:c.size=c0.size
 bad:y.bad=false
 sg:Sg l Q bv w wr lv pv ls outs c y av st
 lls:ls.length≤outs.length
 bvl:∀k,bv.ownBlock=some k→lv.ownBlock≠some k
def RelR(l:RL)(Q:Nat)(bv:Value)(c0:C)(y0:Y)(n:Nat)(w:World)(lv pv:Value)(wr:World):Prop:=∃f c y ls outs av st,Lp l Q bv c0 y0 n w lv pv wr f c y ls outs av st
theorem apply_bad(size:Nat)(all:List UInt8)(s:S)(y:Sy)(hy:y.Ok)(h:St.size y<1):(apply size all s y).1≠0:=by
 have h1:=rsize_eq y hy
 have h2:=fe_next s y hy
 have h3:fe y≠0:=by
  intro h0
  rw[if_pos h0] at h1
  unfold fe at h0
  split at h1
  ·rename_i hk
   rcases hy.kind with hk'|hk'|hk'|hk'<;>simp only[hk'] at h0 hk
   ·simp at hk
   ·simp only[Nat.reduceEqDiff,or_self,if_false,if_true] at h0
    split at h0
    ·rename_i hl
     have:=hl.1.1
     omega
    ·simp at h0
   ·simp only[Nat.reduceEqDiff,or_self,if_false,if_true] at h0
    split at h0
    ·rename_i hl
     have:=hl.1
     omega
    ·simp at h0
   ·simp at hk
  ·omega
 unfold apply
 rw[if_neg (by rw[h2];exact h3),h2]
 exact h3
theorem size_le(y:Sy)(hy:y.Ok):St.size y≤273:=by
 rw[rsize_eq y hy]
 by_cases h0:fe y=0
 ·rw[if_pos h0]
  unfold fe at h0
  rcases hy.kind with hk'|hk'|hk'|hk'<;>simp only[hk'] at h0 ⊢
  ·simp
  ·simp only[Nat.reduceEqDiff,or_self,if_false,if_true,or_false,true_or] at h0 ⊢
   split at h0
   ·rename_i hl
    exact hl.1.2
   ·simp at h0
  ·simp only[Nat.reduceEqDiff,or_self,if_false,if_true,or_true] at h0 ⊢
   split at h0
   ·rename_i hl
    exact hl.2
   ·simp at h0
  ·simp
 ·rw[if_neg h0]
  omega
theorem five_keep{w5:World}{S:Nat→Prop}(hS:∀k,w5.heap.size≤k→S k){w wc:World}{z:Nat}{a b c d e:Value}(hz:w5.heap.size≤z)(h:Fr S w wc):Fr S w (((((wc.setCell ⟨z,0,none⟩ a).setCell ⟨z,1,none⟩ b).setCell ⟨z,2,none⟩ c).setCell ⟨z,3,none⟩ d).setCell ⟨z,4,none⟩ e):=
 h.trans ((five_fr wc z a b c d e).mono (fun k _ e=>hS k (e ▸ hz)))
theorem mine_syms{w w8 w9:World}{v lv:Value}{bytes:List UInt8}{ls:List Sy}(hm:Mine w w8 v bytes)(hs:Syms w w8 lv ls)(hf:Fr (fun k=>lv.ownBlock=some k) w8 w9):Mine w w9 v bytes:=
 hm.step hf (fun k hk e=>by
  obtain⟨cur,hcu⟩:=own_block hm.own hk
  obtain⟨cur2,hcu2⟩:=own_block hs.own e
  exact blk_ne hcu hcu2 (by decide) rfl)
theorem rapply_yes(V size:Nat)(av:Value)(all:List UInt8)(s:S)(hs:s.Ok)(y:Sy)(hy:y.Ok)(w:World)(h:WAt w V av size all)(hmuch:all.length+273≤70368744177664)(h0:(St.apply size all s y).1=0):
 Calls Tryz.prog 90 #[ptr V,.agg s.cells,.agg y.cells] w fun e w'=>∃v,e=.returned (.tuple #[v,.agg (St.apply size all s y).2.2.cells,.int .i64 0])∧AppOk V size av all (St.apply size all s y).2.1 v w w':=by
 refine(rapply_calls V size av all s hs y hy w h hmuch).mono ?_
 intro e w' hp
 unfold AppPost at hp
 rw[if_pos h0] at hp
 exact hp
theorem rapply_no(V size:Nat)(av:Value)(all:List UInt8)(s:S)(hs:s.Ok)(y:Sy)(hy:y.Ok)(w:World)(h:WAt w V av size all)(hmuch:all.length+273≤70368744177664)(h0:(St.apply size all s y).1≠0):
 Calls Tryz.prog 90 #[ptr V,.agg s.cells,.agg y.cells] w fun e w'=>e=.returned (.tuple #[.slice none 0 0,.agg #[.int .i64 0,.int .i64 0,.int .i64 0,.int .i64 0,.int .i64 0],.int .i64 (St.apply size all s y).1])∧Fr (fun _=>False) w w':=by
 refine(rapply_calls V size av all s hs y hy w h hmuch).mono ?_
 intro e w' hp
 unfold AppPost at hp
 rw[if_neg h0] at hp
 exact hp
theorem lp_next{l:RL}{Q:Nat}{bv:Value}{c0 c c2:C}{y0 y y2:Y}{n f:Nat}{w wr w8 w10:World}{lv lv2 pv pv2:Value}{ls:List Sy}{outs bytes:List UInt8}{av av2:Value}{st st2:List Ent}{sy:Sy}(hL:Lp l Q bv c0 y0 n w lv pv wr (f+1) c y ls outs av st)
 (h8:∀k,bv.ownBlock=some k→k<w8.heap.size)(hn9:∀k,lv2.ownBlock=some k→lv.ownBlock=some k∨w8.heap.size≤k)(h10:Sg l Q bv w w10 lv2 pv2 (ls++[sy]) (outs++bytes) c2 y2 av2 st2)(hgo:takeGo n (n+1) c0 y0 [] []=takeGo n f c2 y2 (ls++[sy]) (outs++bytes))
 (hb1:1≤bytes.length)(hb2:bytes.length≤n-outs.length)(hlt:outs.length<n)(hbad:y2.bad=false)(hc2:c2.all=c.all++bytes)(hc3:c2.size=c.size):Lp l Q bv c0 y0 n w lv2 pv2 w10 f c2 y2 (ls++[sy]) (outs++bytes) av2 st2:=by
 have hfu:=hL.fuel
 have hall:=hL.all
 have hll:=hL.lls
 have hlen:(outs++bytes).length=outs.length+bytes.length:=List.length_append
 refine⟨by omega,hgo,by omega,?_,hc3.trans hL.size,hbad,h10,?_,fun k hk he=> ?_⟩
 ·rw[hc2,List.length_append,List.length_append]
  omega
 ·rw[List.length_append,List.length_append,List.length_singleton]
  omega
 ·rcases hn9 k he with h|h
  ·exact hL.bvl k hk h
  ·have:=h8 k hk
   omega
theorem rall_done{l:RL}{Q:Nat}{bv:Value}{c c1:C}{ps:Nat→List Nat}{d:D}{xs:List UInt8}{n f:Nat}{w wr w2:World}{lv pv:Value}{y1:Y}{ls:List Sy}{outs:List UInt8}{av:Value}{st:List Ent}(hL:Lp l Q bv c ⟨d,false,ps⟩ n w lv pv wr (f+1) c1 y1 ls outs av st)(hi:init xs=.ok d)(hle:n≤outs.length)
 (hs2:Sg l Q bv w w2 lv pv ls outs c1 y1 av st)(dn:Bool)(hdn:decide (y1.d.read=y1.d.b.length∧y1.d.now=0)=dn):RAllPost l c ps xs n w (.returned (.tuple #[lv,pv,.bool dn])) w2:=by
 have hgo:takeGo n (n+1) c ⟨d,false,ps⟩ [] []=some (c1,y1,ls,outs):=(hL.go.trans (takeGo_succ n f c1 y1 ls outs)).trans (if_pos hle)
 refine⟨lv,pv,dn,rfl,hs2.fr,⟨_,_,hs2.at'.x⟩,?_⟩
 cases dn with
 |false=>
   have ht:takeAll c ps xs n=none:=by
    unfold takeAll
    rw[hi]
    simp only
    rw[hgo]
    simp only
    rw[if_neg (of_decide_eq_false hdn)]
   rw[ht]
 |true=>
   have ht:takeAll c ps xs n=some (ls,outs,c1,y1.ps):=by
    unfold takeAll
    rw[hi]
    simp only
    rw[hgo]
    simp only
    rw[if_pos (of_decide_eq_true hdn)]
   rw[ht]
   have hdec:Dcd w2 (l.rd Q bv av st) c1 y1.ps false:=⟨⟨_,_,hs2.at'.x⟩,hs2.at'.cod⟩
   refine⟨rfl,l.rd Q bv av st,⟨rfl,rfl,rfl,fun k hk=> ?_⟩,hdec,hs2.mine,hs2.syms,fun k hk hF=> ?_,fun k hk=> ?_⟩
   ·rcases hk with hk|hk|hk|hk|hk
    ·exact .inl (.inl hk)
    ·exact .inl (.inr (.inl hk))
    ·exact .inl (.inr (.inr (.inl hk)))
    ·exact(hs2.avn k hk).imp (fun h=>.inr (.inr (.inr (.inl h)))) id
    ·exact(hs2.stn k hk).imp (fun h=>.inr (.inr (.inr (.inr h)))) id
   ·obtain⟨cur,hc⟩:=own_block hs2.mine.own hk
    rcases hF with hF|hF|hF|hF|hF
    ·exact blk_ne hc hs2.at'.x (by decide) hF
    ·exact blk_ne hc hs2.at'.cod.k (by decide) hF
    ·exact blk_ne hc hs2.at'.cod.v (by decide) hF
    ·exact hs2.pa k hk hF
    ·exact hs2.at'.cod.sets.off hc (by decide) (by decide) hF
   ·obtain⟨cur,hc⟩:=own_block hs2.syms.own hk
    exact hdec.off hc (by decide)
set_option maxRecDepth 100000 in
theorem rall_calls{l:RL}{c:C}{ps:Nat→List Nat}{w:World}(h:Dcd w l c ps false)(v:Value)(xs:List UInt8)(hr:Rd w v xs)(hxl:xs.length≤1099511627776)(n:Nat)(hn:n≤2097152)(hm:c.all.length+n+300≤70368744177664):
 Calls Tryz.prog 57 #[ptr l.X,v,.int .i64 n] w (RAllPost l c ps xs n w):=by
 have HN:=Hd (rnew8_calls v xs w hr hxl)
 have H:=Hd h
 clear h hr
 unfold New8Post at HN
 obtain⟨dv,bad0,hx0⟩:=H.out.x
 have HX:=Hd hx0
 clear hx0
 cases hi:init xs with
 |error x=>
   rw[hi] at HN
   have ht:takeAll c ps xs n=none:=by unfold takeAll;rw[hi]
   have HTK:=Hd ht
   simp only at HN
   have hx1:x≠0:=init_err hi
   have hne:((x:Int) !=0)=true:=by simp[hx1]
   clear hi ht hx1
   go_enter Tryz.func57,Tryz.ntmps57
   go_wp2_with fail
   refine HN.out.mono ?_
   rintro e w1 ⟨hfr,rfl⟩
   have HF:=Hd hfr
   have HX1:=Hd (hfr.keep HX.out (fun h=>h))
   clear hfr
   go_wp2_with fail
   go_ret3
   refine⟨_,_,false,rfl,lift HF.out,⟨_,_,HX1.out⟩,?_⟩
   rw[HTK.out]
 |ok d=>
   rw[hi] at HN
   simp only at HN
   have HI:=Hd hi
   clear hi
   go_enter Tryz.func57,Tryz.ntmps57
   go_wp2_with fail
   refine HN.out.mono ?_
   rintro e w1 ⟨hfr,Q,bv,rfl,hR,hQ,hbv⟩
   have hx1:=hfr.keep HX.out (fun h=>h)
   have e1:w1.cell? ⟨l.X,1,none⟩=some dv:=cell_in hx1 rfl
   have e2:w1.cell? ⟨l.X,2,none⟩=some (.bool bad0):=cell_in hx1 rfl
   have ef:=fun i=>frozen_in hx1 i
   have HX1:=Hd hx1
   have HF:=Hd hfr
   have HR:=Hd hR
   have HQ:=Hd hQ
   have HBV:=Hd hbv
   clear hfr hR hQ hbv hx1
   go_upto_region 8 with fail
   have f3:Fr (fun k=>k=l.X) w1 ((w1.setCell ⟨l.X,1,none⟩ (ptr Q)).setCell ⟨l.X,2,none⟩ (.bool false)):=(Fr.one _ _ _ _).trans (Fr.one _ _ _ _)
   have h3:((w1.setCell ⟨l.X,1,none⟩ (ptr Q)).setCell ⟨l.X,2,none⟩ (.bool false)).heap[l.X]? =some (.cells #[ptr l.K,ptr Q,.bool false,.bool false] 127 (0,0)):=set_in (set_in HX1.out 1 (ptr Q)) 2 (.bool false)
   have HR0:=Hd (show RelR l Q bv c ⟨d,false,ps⟩ n w (.slice none 0 0) (.slice none 0 0) ((w1.setCell ⟨l.X,1,none⟩ (ptr Q)).setCell ⟨l.X,2,none⟩ (.bool false)) from
    ⟨n+1,c,_,[],[],l.av,l.st,⟨by simp,rfl,by simp,by simp,rfl,rfl,Sg.start H.out HF.out HR.out HQ.out HBV.out (init_ok HI.out hxl).1 f3 h3,by simp,fun k hk=>by simp[Value.ownBlock]⟩⟩)
   clear e1 e2 ef f3 h3 HX1
   generalize(w1.setCell ⟨l.X,1,none⟩ (ptr Q)).setCell ⟨l.X,2,none⟩ (.bool false)=w3 at*
   have FAIL:=Hd (show∀lv pv lv2 pv2 ls outs wk c1 y1 av st,Sg l Q bv w wk lv2 pv2 ls outs c1 y1 av st→takeGo n (n+1) c ⟨d,false,ps⟩ [] []=none→RAllPost l c ps xs n w (.returned (.tuple #[lv,pv,.bool false])) wk from fun lv pv lv2 pv2 ls outs wk c1 y1 av st hs hg=>by
    refine⟨lv,pv,false,rfl,hs.fr,⟨_,_,hs.at'.x⟩,?_⟩
    have ht:takeAll c ps xs n=none:=by
     unfold takeAll
     rw[HI.out]
     simp only
     rw[hg]
    rw[ht])
   go_loopw [9,10] (fun lv pv wr=>RelR l Q bv c ⟨d,false,ps⟩ n w lv pv wr) (fun _ pv _=>n-lenOf pv)
   case atStart=>exact HR0.out
   case round=>
    obtain⟨f,c1,y1,ls,outs,av,st,hloop⟩:=hrel
    obtain⟨p,cap,hpv⟩:=hloop.sg.mine.slice
    subst hpv
    have HL:=Hd hloop
    have hle:=hloop.le
    have hfu:=hloop.fuel
    clear hloop
    have hAt:=HL.out.sg.at'
    by_cases hlt:outs.length<n
    ·obtain⟨f,rfl⟩:∃f',f=f'+1:=⟨f-1,by omega⟩
     have HGO:=Hd ((HL.out.go.trans (takeGo_succ n f c1 y1 ls outs)).trans (if_neg (by omega)))
     have HSY:=Hd (symbol_calls hAt)
     have hok:=(Y.symbol_ok (y:=y1) (c:=c1) hAt.ok).2
     have hal:=rsymbol_alike hAt.ok hAt.cod.okc
     unfold SymPost at HSY
     clear hAt
     generalize rsymbol y1 c1=r at*
     generalize y1.symbol c1=r' at*
     obtain⟨sy,y2⟩:=r
     obtain⟨sy',y2'⟩:=r'
     obtain⟨ha1,ha2⟩:=hal
     simp only at hok HSY HGO ha1 ha2
     subst ha1
     obtain⟨kind,byte,len,dist⟩:=sy
     simp only[Sy.cells] at HSY
     have HA2:=Hd ha2
     have HOK:=Hd hok
     clear ha2 hok
     go_wp2_with fail
     refine HSY.out.mono ?_
     rintro e w2 ⟨rfl,hfr2,st2,hA2,hg2⟩
     have hs2:=HL.out.sg.sym hfr2 hA2 hg2
     have hf3:=(Fr.refl (fun _=>False) w2).alloc (.cells #[.int .i64 kind,.int .u8 byte,.int .i64 len,.int .i64 dist] 68)
     have hz:=heap_alloc_new w2 (.cells #[.int .i64 kind,.int .u8 byte,.int .i64 len,.int .i64 dist] 68)
     have HS3:=Hd (hs2.keep hf3)
     have HZ:=Hd hz
     have hx3:=(hs2.keep hf3).bad
     have m2:(w2.alloc (.cells #[.int .i64 kind,.int .u8 byte,.int .i64 len,.int .i64 dist] 68)).cell? ⟨l.X,2,none⟩=some (.bool y2.bad):=cell_in hx3 rfl
     obtain⟨z0,z1,z2,z3⟩:=cs4 hz rfl rfl rfl rfl
     clear hfr2 hA2 hg2 hf3 hz hs2 hx3 HSY
     cases hbad:y2.bad with
     |true=>
       rw[hbad] at m2
       have HG2:=Hd (HGO.out.trans (if_pos (.inl hbad)))
       go_wp2_with fail
       go_ret3
       exact FAIL.out _ _ _ _ _ _ _ _ _ _ _ HS3.out HG2.out
     |false=>
       rw[hbad] at m2
       have HBAD:=Hd hbad
       have hsy:=HA2.out hbad
       subst hsy
       clear hbad HA2
       have HSZ:=fun W=>Hd (rsize_calls ⟨kind,byte,len,dist⟩ HOK.out W)
       have hszl:=size_le ⟨kind,byte,len,dist⟩ HOK.out
       have HZB:=Hd (fun h=>apply_bad c1.size c1.all c1.s ⟨kind,byte,len,dist⟩ HOK.out h)
       simp only[Sy.cells] at HSZ
       generalize hsz:St.size ⟨kind,byte,len,dist⟩=sz at*
       have HSE:=Hd hsz
       clear hsz
       go_wp2_with fail
       refine(HSZ _).out.mono ?_
       rintro e w5 ⟨rfl,hfr5⟩
       have HZ5:=Hd (hfr5.keep HZ.out (fun h=>h))
       have HS5:=Hd (HS3.out.keep hfr5)
       clear hfr5 z0 z1 z2 z3 m2
       by_cases hbig:n-outs.length<sz
       ·have HG2:=Hd (HGO.out.trans (if_pos (.inr (.inr hbig))))
        go_wp2_with fail
        go_ret3
        exact FAIL.out _ _ _ _ _ _ _ _ _ _ _ HS5.out HG2.out
       ·obtain⟨z0,z1,z2,z3⟩:=cs4 HZ5.out rfl rfl rfl rfl
        have hA:=HS5.out.at'
        have hm2:c1.all.length+273≤70368744177664:=by have:=HL.out.all;omega
        have HAPY:=fun h0(W:World)(hf:Fr (fun _=>False) w5 W)=>Hd (rapply_yes l.V c1.size av c1.all c1.s hA.cod.okc.s ⟨kind,byte,len,dist⟩ HOK.out W ⟨hf.keep hA.cod.v (fun h=>h),own_step hA.cod.all hf (fun _ _ h=>h)⟩ hm2 h0)
        have HAPN:=fun h0(W:World)(hf:Fr (fun _=>False) w5 W)=>Hd (rapply_no l.V c1.size av c1.all c1.s hA.cod.okc.s ⟨kind,byte,len,dist⟩ HOK.out W ⟨hf.keep hA.cod.v (fun h=>h),own_step hA.cod.all hf (fun _ _ h=>h)⟩ hm2 h0)
        have hapl:=fun h=>apply_len (size:=c1.size) (all:=c1.all) (s:=c1.s) (y:=⟨kind,byte,len,dist⟩) h HOK.out.kind
        have hapo:=fun h=>apply_ok (size:=c1.size) (all:=c1.all) (s:=c1.s) (y:=⟨kind,byte,len,dist⟩) h hA.cod.okc.s
        have hoff:∀{k:Nat}{cs:Array Value}{t:TypeId}{fr:Nat×Nat},w5.heap[k]? =some (.cells cs t fr)→t≠182→t≠5→¬(k=l.V∨av.ownBlock=some k∨w5.heap.size≤k):=by
         intro k cs t fr hk h1 h2 h3
         rcases h3 with h3|h3|h3
         ·exact blk_ne hk hA.cod.v h1 h3
         ·obtain⟨cur,hc⟩:=own_block hA.cod.all h3
          exact blk_ne hk hc h2 rfl
         ·have:=lt_of_block hk
          omega
        have HZK:=Hd (show∀w':World,Fr (fun k=>k=l.V∨av.ownBlock=some k∨w5.heap.size≤k) w5 w'→w'.heap[w2.heap.size]? =some (.cells #[.int .i64 kind,.int .u8 byte,.int .i64 len,.int .i64 dist] 68 (0,0)) from fun w' hf=>hf.keep HZ5.out (hoff HZ5.out (by decide) (by decide)))
        have HKEEP:=Hd (show∀w':World,Fr (fun k=>k=l.V∨av.ownBlock=some k∨w5.heap.size≤k) w5 w'→w'.cell? ⟨l.X,0,none⟩=some (ptr l.K)∧w'.cell? ⟨l.K,3,none⟩=some (ptr l.V)∧w'.cell? ⟨l.K,4,none⟩=some (.int .i64 c1.s.num)∧w'.cell? ⟨l.K,5,none⟩=some (.int .i64 c1.s.r0)∧w'.cell? ⟨l.K,6,none⟩=some (.int .i64 c1.s.r1)∧w'.cell? ⟨l.K,7,none⟩=some (.int .i64 c1.s.r2)∧w'.cell? ⟨l.K,8,none⟩=some (.int .i64 c1.s.r3)∧
         w'.cell? ⟨w2.heap.size,0,none⟩=some (.int .i64 kind)∧w'.cell? ⟨w2.heap.size,1,none⟩=some (.int .u8 byte)∧w'.cell? ⟨w2.heap.size,2,none⟩=some (.int .i64 len)∧w'.cell? ⟨w2.heap.size,3,none⟩=some (.int .i64 dist) from fun w' hf=>by
         have hd:=hf.keep hA.x (hoff hA.x (by decide) (by decide))
         have ht:=hf.keep hA.cod.k (hoff hA.cod.k (by decide) (by decide))
         have hz:=hf.keep HZ5.out (hoff HZ5.out (by decide) (by decide))
         exact⟨cell_in hd rfl,cell_in ht rfl,cell_in ht rfl,cell_in ht rfl,cell_in ht rfl,cell_in ht rfl,cell_in ht rfl,cell_in hz rfl,cell_in hz rfl,cell_in hz rfl,cell_in hz rfl⟩)
        have HNEW:=Hd (show∀k,w5.heap.size≤k→¬(k=l.V∨av.ownBlock=some k) from fun k hk h3=>by
         rcases h3 with h3|h3
         ·have h4:=lt_of_block hA.cod.v
          have h3:k=l.V:=h3
          have h4:l.V<w5.heap.size:=h4
          omega
         ·have h4:k<w5.heap.size:=(World.ownsRow.lt hA.cod.all k h3).2
          omega)
        have FC:=Hd (Fr.refl (fun k=>k=l.V∨av.ownBlock=some k∨w5.heap.size≤k) w5).drew
        have HSC:=Hd (HKEEP.out _ FC.out)
        clear hA z0 z1 z2 z3 hoff
        have tt:=HSC.out
        obtain⟨t0,t1,t2,t3,t4,t5,t6,t7,t8,t9,t10⟩:=tt
        generalize apply c1.size c1.all c1.s ⟨kind,byte,len,dist⟩=ap at*
        obtain⟨er,bytes,⟨sn,sr0,sr1,sr2,sr3⟩⟩:=ap
        simp only[Sy.cells,S.cells] at HAPY HAPN
        simp only at hapl hapo
        have HAPL:=Hd hapl
        have HAPO:=Hd hapo
        clear hapl hapo
        have HNO:=Hd (show er≠0→takeGo n (n+1) c ⟨d,false,ps⟩ [] []=none from fun her=>by
         by_cases hs1:sz<1
         ·exact HGO.out.trans (if_pos (.inr (.inl hs1)))
         ·exact(HGO.out.trans (if_neg (fun h=>by rw[HBAD.out] at h;simp at h;omega))).trans (if_pos her))
        have HYES:=Hd (show er=0→1≤sz∧takeGo n (n+1) c ⟨d,false,ps⟩ [] []=takeGo n f ((c1.on bytes).to ⟨sn,sr0,sr1,sr2,sr3⟩) y2 (ls++[⟨kind,byte,len,dist⟩]) (outs++bytes) from fun her=>by
         by_cases hs1:sz<1
         ·exact absurd her (HZB.out hs1)
         ·exact⟨by omega,(HGO.out.trans (if_neg (fun h=>by rw[HBAD.out] at h;simp at h;omega))).trans (if_neg (fun h=>h her))⟩)
        have FC5:=@five_keep w5 (fun k=>k=l.V∨av.ownBlock=some k∨w5.heap.size≤k) (fun k h=>.inr (.inr h))
        by_cases her:er=0
        ·have HAY:=HAPY her
         have HBL0:=Hd (HAPL.out her)
         have HSOK:=Hd (HAPO.out her)
         have HG3:=Hd (HYES.out her)
         clear HAPY HAPN HAPL HAPO HYES HNO
         subst her
         go_wp2_with fail
         go_region_held3 (fun w'=>w'.cell? ⟨l.X,0,none⟩=some (ptr l.K)∧w'.cell? ⟨l.K,3,none⟩=some (ptr l.V)∧w'.cell? ⟨l.K,4,none⟩=some (.int .i64 c1.s.num)∧w'.cell? ⟨l.K,5,none⟩=some (.int .i64 c1.s.r0)∧w'.cell? ⟨l.K,6,none⟩=some (.int .i64 c1.s.r1)∧w'.cell? ⟨l.K,7,none⟩=some (.int .i64 c1.s.r2)∧w'.cell? ⟨l.K,8,none⟩=some (.int .i64 c1.s.r3)∧w'.cell? ⟨w2.heap.size,0,none⟩=some (.int .i64 kind)∧w'.cell? ⟨w2.heap.size,1,none⟩=some (.int .u8 byte)∧w'.cell? ⟨w2.heap.size,2,none⟩=some (.int .i64 len)∧w'.cell? ⟨w2.heap.size,3,none⟩=some (.int .i64 dist))
          (first|with_reducible exact HSC.out|(with_reducible refine HKEEP.out _ ?_;with_reducible exact FC5 (Nat.le_refl _) FC.out)|(refine HKEEP.out _ ?_;first|exact FC.out|exact FC.out.alloc _)) ((first
          | (go_at_call 90
             first
              | (refine (HAY _ (Fr.refl _ _).drew).out.mono ?_
                 rintro e wc ⟨v,rfl,hdone⟩
                 have FC:=Hd (FC.out.trans (hdone.fr.mono (fun i _ hi=>hi.elim (fun h=>.inl h) (fun h=>.inr (.inl h)))))
                 have HSC:=Hd (HKEEP.out _ FC.out)
                 have tt:=HSC.out
                 obtain⟨t0,t1,t2,t3,t4,t5,t6,t7,t8,t9,t10⟩:=tt
                 have HDONE:=Hd hdone
                 clear hdone)
              | (refine (HAY _ ((Fr.refl _ _).drew.alloc _)).out.mono ?_
                 rintro e wc ⟨v,rfl,hdone⟩
                 have HY:=Hd FC.out.size
                 have FC:=Hd ((FC.out.alloc _).trans (hdone.fr.mono (fun i _ hi=>hi.elim (fun h=>.inl h) (fun h=>.inr (.inl h)))))
                 have HSC:=Hd (HKEEP.out _ FC.out)
                 have tt:=HSC.out
                 obtain⟨t0,t1,t2,t3,t4,t5,t6,t7,t8,t9,t10⟩:=tt
                 have hz:=hdone.fr.keep (heap_alloc_new _ _) (HNEW.out _ (Nat.le_refl _))
                 try simp only[World.size_drew] at hz
                 obtain⟨s0,s1,s2,s3,s4,sf⟩:=cf5 hz rfl rfl rfl rfl rfl
                 have HSZ:=Hd hz
                 clear hz
                 have HDONE:=Hd hdone
                 clear hdone))))
         ·have hbl0:=HBL0.out
          have hbl:bytes.length=sz:=hbl0.trans HSE.out
          obtain⟨av2,hsg,hm⟩:=(HS5.out.keep (Fr.refl (fun _=>False) w5).drew).applied HDONE.out (by omega)
          have hf6:=(Fr.refl (fun _=>False) wc).alloc (.cells #[.int .i64 sn,.int .i64 sr0,.int .i64 sr1,.int .i64 sr2,.int .i64 sr3] 132)
          have hz6:=heap_alloc_new wc (.cells #[.int .i64 sn,.int .i64 sr0,.int .i64 sr1,.int .i64 sr2,.int .i64 sr3] 132)
          have HS6:=Hd (hsg.keep hf6)
          have HM6:=Hd (hm.keep hf6)
          have HF6:=Hd (FC.out.trans (lift hf6))
          generalize wc.alloc (.cells #[.int .i64 sn,.int .i64 sr0,.int .i64 sr1,.int .i64 sr2,.int .i64 sr3] 132)=w6 at*
          generalize wc.heap.size=zs at*
          have HZ6:=Hd hz6
          clear hz6 hf6 hsg hm HDONE t0 t1 t2 t3 t4 t5 t6 t7 t8 t9 t10 HSC FC
          have HZ6s:=Hd (HZK.out _ HF6.out)
          have HKX:=Hd HS6.out.at'.x
          have HKK:=Hd HS6.out.at'.cod.k
          have HK2:=Hd (show∀w':World,Fr (fun k=>k=l.K) w6 w'→w'.cell? ⟨l.X,0,none⟩=some (ptr l.K)∧w'.cell? ⟨zs,0,none⟩=some (.int .i64 sn)∧w'.cell? ⟨zs,1,none⟩=some (.int .i64 sr0)∧w'.cell? ⟨zs,2,none⟩=some (.int .i64 sr1)∧w'.cell? ⟨zs,3,none⟩=some (.int .i64 sr2)∧w'.cell? ⟨zs,4,none⟩=some (.int .i64 sr3) from fun w' hf=>by
           have hd:=hf.keep HKX.out (fun e=>blk_ne HKX.out HKK.out (by decide) e)
           have hz:=hf.keep HZ6.out (fun e=>blk_ne HZ6.out HKK.out (by decide) e)
           exact⟨cell_in hd rfl,cell_in hz rfl,cell_in hz rfl,cell_in hz rfl,cell_in hz rfl,cell_in hz rfl⟩)
          have HSC:=Hd (HK2.out w6.drew (lift (Fr.refl (fun _=>False) w6).drew))
          have ss:=HSC.out
          obtain⟨s0,s1,s2,s3,s4,s5⟩:=ss
          have tb:=HKK.out
          have q4:w6.cell? ⟨l.K,4,none⟩=some (.int .i64 c1.s.num):=cell_in (i:=4) tb rfl
          have q5:w6.cell? ⟨l.K,5,none⟩=some (.int .i64 c1.s.r0):=cell_in (i:=5) tb rfl
          have q6:w6.cell? ⟨l.K,6,none⟩=some (.int .i64 c1.s.r1):=cell_in (i:=6) tb rfl
          have q7:w6.cell? ⟨l.K,7,none⟩=some (.int .i64 c1.s.r2):=cell_in (i:=7) tb rfl
          have q8:w6.cell? ⟨l.K,8,none⟩=some (.int .i64 c1.s.r3):=cell_in (i:=8) tb rfl
          have qf:∀i,w6.frozen? ⟨l.K,i,none⟩=false:=fun i=>frozen_in tb i
          have hb7:=set_in (set_in (set_in (set_in (set_in tb 4 (.int .i64 sn)) 5 (.int .i64 sr0)) 6 (.int .i64 sr1)) 7 (.int .i64 sr2)) 8 (.int .i64 sr3)
          have hkv:=kV_to (l.rd Q bv av2 st2) (c1.on bytes) ⟨sn,sr0,sr1,sr2,sr3⟩
          simp only at hkv
          rw[hkv] at hb7
          have hf7:Fr (fun k=>k=l.K) w6 (((((w6.setCell ⟨l.K,4,none⟩ (.int .i64 sn)).setCell ⟨l.K,5,none⟩ (.int .i64 sr0)).setCell ⟨l.K,6,none⟩ (.int .i64 sr1)).setCell ⟨l.K,7,none⟩ (.int .i64 sr2)).setCell ⟨l.K,8,none⟩ (.int .i64 sr3)).drew:=(((((Fr.one _ _ _ _).trans (Fr.one _ _ _ _)).trans (Fr.one _ _ _ _)).trans (Fr.one _ _ _ _)).trans (Fr.one _ _ _ _)).drew
          have HB7:=Hd (show(((((w6.setCell ⟨l.K,4,none⟩ (.int .i64 sn)).setCell ⟨l.K,5,none⟩ (.int .i64 sr0)).setCell ⟨l.K,6,none⟩ (.int .i64 sr1)).setCell ⟨l.K,7,none⟩ (.int .i64 sr2)).setCell ⟨l.K,8,none⟩ (.int .i64 sr3)).drew.heap[l.K]? =some (.cells (kV (l.rd Q bv av2 st2) ((c1.on bytes).to ⟨sn,sr0,sr1,sr2,sr3⟩)) 136 (0,0)) from hb7)
          have HF7:=Hd hf7
          clear tb hb7 hkv hf7 HAY HNEW HKEEP HS3 HZ HZ5 HZB HSZ
          go_wp2_with fail
          go_region_held3 (fun w'=>w'.cell? ⟨l.X,0,none⟩=some (ptr l.K)∧w'.cell? ⟨zs,0,none⟩=some (.int .i64 sn)∧w'.cell? ⟨zs,1,none⟩=some (.int .i64 sr0)∧w'.cell? ⟨zs,2,none⟩=some (.int .i64 sr1)∧w'.cell? ⟨zs,3,none⟩=some (.int .i64 sr2)∧w'.cell? ⟨zs,4,none⟩=some (.int .i64 sr3))
           (first|with_reducible exact HSC.out|(refine HK2.out _ ?_;refine Fr.drew ?_;(repeat refine Fr.setCell ?_ (.inl (by simp)) _);exact Fr.refl _ _)) (fail)
          clear s0 s1 s2 s3 s4 s5 q4 q5 q6 q7 q8 qf HSC
          generalize(((((w6.setCell ⟨l.K,4,none⟩ (.int .i64 sn)).setCell ⟨l.K,5,none⟩ (.int .i64 sr0)).setCell ⟨l.K,6,none⟩ (.int .i64 sr1)).setCell ⟨l.K,7,none⟩ (.int .i64 sr2)).setCell ⟨l.K,8,none⟩ (.int .i64 sr3)).drew=w7 at*
          have HS7:=Hd (HS6.out.stated ⟨sn,sr0,sr1,sr2,sr3⟩ HSOK.out HF7.out HB7.out)
          have HM7:=Hd (HM6.out.step HF7.out (fun k hk e=>by
           obtain⟨cur,hcu⟩:=own_block HM6.out.own hk
           exact blk_ne hcu HKK.out (by decide) e))
          have hz7:=HF7.out.keep HZ6s.out (fun e=>blk_ne HZ6s.out HKK.out (by decide) e)
          obtain⟨z0,z1,z2,z3⟩:=cs4 hz7 rfl rfl rfl rfl
          have hf8:=(Fr.refl (fun _=>False) w7).alloc (.cells #[.int .i64 kind,.int .u8 byte,.int .i64 len,.int .i64 dist] 68)
          have hx8:=heap_alloc_new w7 (.cells #[.int .i64 kind,.int .u8 byte,.int .i64 len,.int .i64 dist] 68)
          have HS8:=Hd (HS7.out.keep hf8)
          have HM8:=Hd (HM7.out.keep hf8)
          have HX8:=Hd hx8
          have HLE:=Hd (show ls.length≤2097152 from Nat.le_trans HL.out.lls (by omega))
          have hbl2:1≤bytes.length∧bytes.length≤n-outs.length:=by have h1:=HG3.out.1;omega
          clear hz7 hf8 hx8 HB7 HZ6s HZ6 HF6 HK2 HZK HS5 HKX HKK HS6 HM6 HF7
          have tok1:True:=trivial
          go_wp2_with (first
           | (at_builtin
              have _t:=tok1
              refine append_sym rfl _ _ rfl (w0:=w) u9 ls ⟨kind,byte,len,dist⟩ w7.heap.size rfl rfl HS8.out.syms HS8.out.fr.size HX8.out (by have:=HLE.out;omega) ?_
              intro lv9 w9 hS9 hf9 hn9
              have HS9:=Hd (HS8.out.app1 HL.out.bvl hS9 hf9)
              have HM9:=Hd (mine_syms HM8.out HS8.out.syms hf9)
              have HN9:=Hd hn9
              clear hS9 hf9 hn9 tok1
              have tok2:True:=trivial)
           | (at_builtin
              have _t:=tok2
              refine append_mine rfl _ _ rfl (w0:=w) (.slice p outs.length cap) v outs bytes rfl rfl HS9.out.mine HS9.out.fr.size HM9.out.rd (by omega) ?_
              intro p10 cap10 n10 w10 hn10 hM10 hf10 hnew10
              have HS10:=Hd (HS9.out.app2 hM10 hf10 hnew10)
              have HL10:=Hd hn10
              clear hM10 hf10 hnew10 hn10 tok2))
          go_roundw
          case rel=>exact⟨f,_,y2,_,_,av2,st2,lp_next HL.out HS8.out.lt.1 HN9.out HS10.out HG3.out.2 hbl2.1 hbl2.2 hlt HBAD.out rfl rfl⟩
          case measure=>
           have h1:=HL10.out
           simp only[lenOf]
           omega
         ·have hbl0:=HBL0.out
          have hbl:bytes.length=sz:=hbl0.trans HSE.out
          obtain⟨av2,hsg,hm⟩:=(HS5.out.keep ((Fr.refl (fun _=>False) w5).drew.alloc _)).applied HDONE.out (by omega)
          have hz6:=set_in (set_in (set_in (set_in (set_in HSZ.out 0 (.int .i64 sn)) 1 (.int .i64 sr0)) 2 (.int .i64 sr1)) 3 (.int .i64 sr2)) 4 (.int .i64 sr3)
          have hf6:=five_fr wc w5.heap.size (.int .i64 sn) (.int .i64 sr0) (.int .i64 sr1) (.int .i64 sr2) (.int .i64 sr3)
          have HS6:=Hd (hsg.step hf6 (fun k e=>⟨e ▸ HS5.out.fr.size,_,_,_,e ▸ HSZ.out,by decide⟩) (fun k hk e=>by have h1:=HS5.out.lt.1 k hk;have e:k=w5.heap.size:=e;omega))
          have HM6:=Hd (hm.step hf6 (fun k hk e=>by
           obtain⟨cur,hcu⟩:=own_block hm.own hk
           exact blk_ne hcu HSZ.out (by decide) e))
          have HF6:=Hd (FC5 (Nat.le_refl _) FC.out (a:=.int .i64 sn) (b:=.int .i64 sr0) (c:=.int .i64 sr1) (d:=.int .i64 sr2) (e:=.int .i64 sr3))
          generalize((((wc.setCell ⟨w5.heap.size,0,none⟩ (.int .i64 sn)).setCell ⟨w5.heap.size,1,none⟩ (.int .i64 sr0)).setCell ⟨w5.heap.size,2,none⟩ (.int .i64 sr1)).setCell ⟨w5.heap.size,3,none⟩ (.int .i64 sr2)).setCell ⟨w5.heap.size,4,none⟩ (.int .i64 sr3)=w6 at*
          generalize hzz:w5.heap.size=zs at*
          have HZ6:=Hd (show w6.heap[zs]? =some (.cells #[.int .i64 sn,.int .i64 sr0,.int .i64 sr1,.int .i64 sr2,.int .i64 sr3] 132 (0,0)) from hz6)
          clear hzz hz6 hf6 hsg hm HDONE t0 t1 t2 t3 t4 t5 t6 t7 t8 t9 t10 HSC FC s0 s1 s2 s3 s4 sf HSZ
          have HZ6s:=Hd (HZK.out _ HF6.out)
          have HKX:=Hd HS6.out.at'.x
          have HKK:=Hd HS6.out.at'.cod.k
          have HK2:=Hd (show∀w':World,Fr (fun k=>k=l.K) w6 w'→w'.cell? ⟨l.X,0,none⟩=some (ptr l.K)∧w'.cell? ⟨zs,0,none⟩=some (.int .i64 sn)∧w'.cell? ⟨zs,1,none⟩=some (.int .i64 sr0)∧w'.cell? ⟨zs,2,none⟩=some (.int .i64 sr1)∧w'.cell? ⟨zs,3,none⟩=some (.int .i64 sr2)∧w'.cell? ⟨zs,4,none⟩=some (.int .i64 sr3) from fun w' hf=>by
           have hd:=hf.keep HKX.out (fun e=>blk_ne HKX.out HKK.out (by decide) e)
           have hz:=hf.keep HZ6.out (fun e=>blk_ne HZ6.out HKK.out (by decide) e)
           exact⟨cell_in hd rfl,cell_in hz rfl,cell_in hz rfl,cell_in hz rfl,cell_in hz rfl,cell_in hz rfl⟩)
          have HSC:=Hd (HK2.out w6.drew (lift (Fr.refl (fun _=>False) w6).drew))
          have ss:=HSC.out
          obtain⟨s0,s1,s2,s3,s4,s5⟩:=ss
          have tb:=HKK.out
          have q4:w6.cell? ⟨l.K,4,none⟩=some (.int .i64 c1.s.num):=cell_in (i:=4) tb rfl
          have q5:w6.cell? ⟨l.K,5,none⟩=some (.int .i64 c1.s.r0):=cell_in (i:=5) tb rfl
          have q6:w6.cell? ⟨l.K,6,none⟩=some (.int .i64 c1.s.r1):=cell_in (i:=6) tb rfl
          have q7:w6.cell? ⟨l.K,7,none⟩=some (.int .i64 c1.s.r2):=cell_in (i:=7) tb rfl
          have q8:w6.cell? ⟨l.K,8,none⟩=some (.int .i64 c1.s.r3):=cell_in (i:=8) tb rfl
          have qf:∀i,w6.frozen? ⟨l.K,i,none⟩=false:=fun i=>frozen_in tb i
          have hb7:=set_in (set_in (set_in (set_in (set_in tb 4 (.int .i64 sn)) 5 (.int .i64 sr0)) 6 (.int .i64 sr1)) 7 (.int .i64 sr2)) 8 (.int .i64 sr3)
          have hkv:=kV_to (l.rd Q bv av2 st2) (c1.on bytes) ⟨sn,sr0,sr1,sr2,sr3⟩
          simp only at hkv
          rw[hkv] at hb7
          have hf7:Fr (fun k=>k=l.K) w6 (((((w6.setCell ⟨l.K,4,none⟩ (.int .i64 sn)).setCell ⟨l.K,5,none⟩ (.int .i64 sr0)).setCell ⟨l.K,6,none⟩ (.int .i64 sr1)).setCell ⟨l.K,7,none⟩ (.int .i64 sr2)).setCell ⟨l.K,8,none⟩ (.int .i64 sr3)).drew:=(((((Fr.one _ _ _ _).trans (Fr.one _ _ _ _)).trans (Fr.one _ _ _ _)).trans (Fr.one _ _ _ _)).trans (Fr.one _ _ _ _)).drew
          have HB7:=Hd (show(((((w6.setCell ⟨l.K,4,none⟩ (.int .i64 sn)).setCell ⟨l.K,5,none⟩ (.int .i64 sr0)).setCell ⟨l.K,6,none⟩ (.int .i64 sr1)).setCell ⟨l.K,7,none⟩ (.int .i64 sr2)).setCell ⟨l.K,8,none⟩ (.int .i64 sr3)).drew.heap[l.K]? =some (.cells (kV (l.rd Q bv av2 st2) ((c1.on bytes).to ⟨sn,sr0,sr1,sr2,sr3⟩)) 136 (0,0)) from hb7)
          have HF7:=Hd hf7
          clear tb hb7 hkv hf7 HAY HNEW HKEEP HS3 HZ HZ5 HZB HSZ
          go_wp2_with fail
          go_region_held3 (fun w'=>w'.cell? ⟨l.X,0,none⟩=some (ptr l.K)∧w'.cell? ⟨zs,0,none⟩=some (.int .i64 sn)∧w'.cell? ⟨zs,1,none⟩=some (.int .i64 sr0)∧w'.cell? ⟨zs,2,none⟩=some (.int .i64 sr1)∧w'.cell? ⟨zs,3,none⟩=some (.int .i64 sr2)∧w'.cell? ⟨zs,4,none⟩=some (.int .i64 sr3))
           (first|with_reducible exact HSC.out|(refine HK2.out _ ?_;refine Fr.drew ?_;(repeat refine Fr.setCell ?_ (.inl (by simp)) _);exact Fr.refl _ _)) (fail)
          clear s0 s1 s2 s3 s4 s5 q4 q5 q6 q7 q8 qf HSC
          generalize(((((w6.setCell ⟨l.K,4,none⟩ (.int .i64 sn)).setCell ⟨l.K,5,none⟩ (.int .i64 sr0)).setCell ⟨l.K,6,none⟩ (.int .i64 sr1)).setCell ⟨l.K,7,none⟩ (.int .i64 sr2)).setCell ⟨l.K,8,none⟩ (.int .i64 sr3)).drew=w7 at*
          have HS7:=Hd (HS6.out.stated ⟨sn,sr0,sr1,sr2,sr3⟩ HSOK.out HF7.out HB7.out)
          have HM7:=Hd (HM6.out.step HF7.out (fun k hk e=>by
           obtain⟨cur,hcu⟩:=own_block HM6.out.own hk
           exact blk_ne hcu HKK.out (by decide) e))
          have hz7:=HF7.out.keep HZ6s.out (fun e=>blk_ne HZ6s.out HKK.out (by decide) e)
          obtain⟨z0,z1,z2,z3⟩:=cs4 hz7 rfl rfl rfl rfl
          have hf8:=(Fr.refl (fun _=>False) w7).alloc (.cells #[.int .i64 kind,.int .u8 byte,.int .i64 len,.int .i64 dist] 68)
          have hx8:=heap_alloc_new w7 (.cells #[.int .i64 kind,.int .u8 byte,.int .i64 len,.int .i64 dist] 68)
          have HS8:=Hd (HS7.out.keep hf8)
          have HM8:=Hd (HM7.out.keep hf8)
          have HX8:=Hd hx8
          have HLE:=Hd (show ls.length≤2097152 from Nat.le_trans HL.out.lls (by omega))
          have hbl2:1≤bytes.length∧bytes.length≤n-outs.length:=by have h1:=HG3.out.1;omega
          clear hz7 hf8 hx8 HB7 HZ6s HZ6 HF6 HK2 HZK HS5 HKX HKK HS6 HM6 HF7
          have tok1:True:=trivial
          go_wp2_with (first
           | (at_builtin
              have _t:=tok1
              refine append_sym rfl _ _ rfl (w0:=w) u9 ls ⟨kind,byte,len,dist⟩ w7.heap.size rfl rfl HS8.out.syms HS8.out.fr.size HX8.out (by have:=HLE.out;omega) ?_
              intro lv9 w9 hS9 hf9 hn9
              have HS9:=Hd (HS8.out.app1 HL.out.bvl hS9 hf9)
              have HM9:=Hd (mine_syms HM8.out HS8.out.syms hf9)
              have HN9:=Hd hn9
              clear hS9 hf9 hn9 tok1
              have tok2:True:=trivial)
           | (at_builtin
              have _t:=tok2
              refine append_mine rfl _ _ rfl (w0:=w) (.slice p outs.length cap) v outs bytes rfl rfl HS9.out.mine HS9.out.fr.size HM9.out.rd (by omega) ?_
              intro p10 cap10 n10 w10 hn10 hM10 hf10 hnew10
              have HS10:=Hd (HS9.out.app2 hM10 hf10 hnew10)
              have HL10:=Hd hn10
              clear hM10 hf10 hnew10 hn10 tok2))
          go_roundw
          case rel=>exact⟨f,_,y2,_,_,av2,st2,lp_next HL.out HS8.out.lt.1 HN9.out HS10.out HG3.out.2 hbl2.1 hbl2.2 hlt HBAD.out rfl rfl⟩
          case measure=>
           have h1:=HL10.out
           simp only[lenOf]
           omega
        ·have hne:((er:Int) !=0)=true:=by simp[her]
         have HAN:=HAPN her
         clear HAPY HAPN
         go_wp2_with fail
         go_region_held3 (fun w'=>w'.cell? ⟨l.X,0,none⟩=some (ptr l.K)∧w'.cell? ⟨l.K,3,none⟩=some (ptr l.V)∧w'.cell? ⟨l.K,4,none⟩=some (.int .i64 c1.s.num)∧w'.cell? ⟨l.K,5,none⟩=some (.int .i64 c1.s.r0)∧w'.cell? ⟨l.K,6,none⟩=some (.int .i64 c1.s.r1)∧w'.cell? ⟨l.K,7,none⟩=some (.int .i64 c1.s.r2)∧w'.cell? ⟨l.K,8,none⟩=some (.int .i64 c1.s.r3)∧w'.cell? ⟨w2.heap.size,0,none⟩=some (.int .i64 kind)∧w'.cell? ⟨w2.heap.size,1,none⟩=some (.int .u8 byte)∧w'.cell? ⟨w2.heap.size,2,none⟩=some (.int .i64 len)∧w'.cell? ⟨w2.heap.size,3,none⟩=some (.int .i64 dist))
          (first|with_reducible exact HSC.out|(with_reducible refine HKEEP.out _ ?_;with_reducible exact FC5 (Nat.le_refl _) FC.out)|(refine HKEEP.out _ ?_;first|exact FC.out|exact FC.out.alloc _)) ((first
          | (go_at_call 90
             first
              | (refine (HAN _ (Fr.refl _ _).drew).out.mono ?_
                 rintro e wc ⟨rfl,hdone⟩
                 have FC:=Hd (FC.out.trans (hdone.mono (fun _ _ h=>h.elim)))
                 have HSC:=Hd (HKEEP.out _ FC.out)
                 have tt:=HSC.out
                 obtain⟨t0,t1,t2,t3,t4,t5,t6,t7,t8,t9,t10⟩:=tt
                 have HDONE:=Hd hdone
                 clear hdone)
              | (refine (HAN _ ((Fr.refl _ _).drew.alloc _)).out.mono ?_
                 rintro e wc ⟨rfl,hdone⟩
                 have HY:=Hd FC.out.size
                 have FC:=Hd ((FC.out.alloc _).trans (hdone.mono (fun _ _ h=>h.elim)))
                 have HSC:=Hd (HKEEP.out _ FC.out)
                 have tt:=HSC.out
                 obtain⟨t0,t1,t2,t3,t4,t5,t6,t7,t8,t9,t10⟩:=tt
                 have hz:=hdone.keep (heap_alloc_new _ _) (fun h=>h)
                 try simp only[World.size_drew] at hz
                 obtain⟨s0,s1,s2,s3,s4,sf⟩:=cf5 hz rfl rfl rfl rfl rfl
                 have HSZ:=Hd hz
                 clear hz
                 have HDONE:=Hd hdone
                 clear hdone))))
         ·have HF6:=Hd ((HS5.out.keep (Fr.refl (fun _=>False) w5).drew).keep (HDONE.out.alloc (.cells #[.int .i64 0,.int .i64 0,.int .i64 0,.int .i64 0,.int .i64 0] 132)))
          have HN:=Hd (HNO.out her)
          clear HKEEP HZK HNEW HSC FC t0 t1 t2 t3 t4 t5 t6 t7 t8 t9 t10
          go_wp2_with fail
          go_ret3
          exact FAIL.out _ _ _ _ _ _ _ _ _ _ _ HF6.out HN.out
         ·have hsg:=(HS5.out.keep ((Fr.refl (fun _=>False) w5).drew.alloc _)).keep HDONE.out
          have HF6:=Hd (hsg.step (five_fr wc w5.heap.size (.int .i64 0) (.int .i64 0) (.int .i64 0) (.int .i64 0) (.int .i64 0)) (fun k e=>⟨e ▸ HS5.out.fr.size,_,_,_,e ▸ HSZ.out,by decide⟩) (fun k hk e=>by have h1:=HS5.out.lt.1 k hk;have e:k=w5.heap.size:=e;omega))
          have HN:=Hd (HNO.out her)
          clear HKEEP HZK HNEW HSC FC t0 t1 t2 t3 t4 t5 t6 t7 t8 t9 t10 s0 s1 s2 s3 s4 sf hsg HSZ
          go_wp2_with fail
          go_ret3
          exact FAIL.out _ _ _ _ _ _ _ _ _ _ _ HF6.out HN.out
    ·have hle2:n≤outs.length:=by omega
     obtain⟨f,rfl⟩:∃f',f=f'+1:=⟨f-1,by omega⟩
     have HGO:=Hd ((HL.out.go.trans (takeGo_succ n f c1 y1 ls outs)).trans (if_pos hle2))
     have m1:wr.cell? ⟨l.X,1,none⟩=some (ptr Q):=cell_in hAt.x rfl
     have HDC:=Hd (rdone_calls Q bv y1.d wr hAt.rd)
     clear hAt
     generalize hdn:decide (y1.d.read=y1.d.b.length∧y1.d.now=0)=dn at*
     have HDN:=Hd hdn
     clear hdn
     go_wp2_with fail
     refine HDC.out.mono ?_
     rintro e w2 ⟨rfl,mm,rfl⟩
     have HS2:=Hd (HL.out.sg.keep ((Fr.refl (fun _=>False) wr).drewN mm))
     go_wp2_with fail
     go_ret3
     exact rall_done HL.out HI.out hle2 HS2.out dn HDN.out
end Rf
end Go.Proofs.YtilegoadokmcdaaGreatDoor
