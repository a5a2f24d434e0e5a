/- Part 51 of 54: lemmas of the last part, each under the conditions that it names. -/
import Derived.Test.YtlgccpjccopdmaaGreatDoorP38
import Derived.Test.YtlgccpjccopdmaaGreatDoorP49
import Derived.Test.YtlgccpjccopdmaaGreatDoorP50
set_option linter.unusedVariables false
set_option linter.unusedSimpArgs false
set_option maxRecDepth 1500
set_option maxHeartbeats 2000000
namespace Go.Proofs.YtlgccpjccopdmaaGreatDoor
open Go.RowKit
namespace Rf
open Mem Rc Prob St Lz Win En Ga Ck
def scan1Q(s:Bool×Bool)(x:Nat):Bool×Bool:=if x=1 then(true,false) else if x=5∨x=6 then(true,true) else s
def scanQ(l:List Nat):Bool×Bool:=l.foldl scan1Q (false,false)
theorem scan_snocQ(l:List Nat)(x:Nat):scanQ (l++[x])=scan1Q (scanQ l) x:=by simp[scanQ]
def nxQ(s:Bool×Bool)(kind:Nat):Nat:=if kind=0∨kind=1∨kind=6 then 0 else if s.1=false∨(kind=3∨kind=4)∧s.2=false then 2 else 0
def intsQ(l:List Nat):List Value:=l.map fun(x:Nat)=>Value.int .i64 (x:Int)
theorem next17_callsQ(v:Value)(bs:List Nat)(kind:Nat)(hk:kind≤6)(hbs:∀x ∈ bs,1≤x∧x≤6)(w0 w:World)(h:Ga.Own 3 1 w0 w v bs.length (intsQ bs))(hl:bs.length≤1099511627776):
 Calls Tryz.prog 49 #[v,.int .i64 kind] w fun e w'=>e=.returned (.int .i64 (nxQ (scanQ bs) kind))∧w'=w:=by
 obtain⟨p,cap,rfl⟩:=h.slice
 have HO:=Hd h
 have HB:=Hd hbs
 clear h hbs
 obtain⟨res,hres⟩:∃r,r=nxQ (scanQ bs) kind:=⟨_,rfl⟩
 rw[←hres]
 have HRES:=Hd hres
 clear hres
 generalize hn:bs.length=n at*
 have HN:=Hd hn
 clear hn
 go_enter Tryz.func49,Tryz.ntmps49
 go_wp2_with fail
 go_loopw [5,6,7](fun b t i wr=>∃k:Nat,k≤n∧i=.int .i64 k∧b=.bool (scanQ (bs.take k)).1∧t=.bool (scanQ (bs.take k)).2∧wr=w) (fun _ _ i _=>n-(intOf i).toNat)
 case atStart=>exact⟨0,Nat.zero_le _,rfl,rfl,rfl,rfl⟩
 case round=>
  obtain⟨k,hkn,rfl,rfl,rfl,rfl⟩:=hrel
  by_cases hlt:k<n
  ·have hkb:k<bs.length:=HN.out ▸ hlt
   obtain⟨x,hx⟩:∃x,bs[k]? =some x:=⟨bs[k],by simp[hkb]⟩
   have hx6:=HB.out x (List.mem_of_getElem? hx)
   obtain⟨g,rfl,hc⟩:=HO.out.cell (i:=k) (u:=.int .i64 (x:Int)) (by simp[intsQ,hx])
   have hsc:scanQ (bs.take (k+1))=scan1Q (scanQ (bs.take k)) x:=by
    rw[List.take_add_one,hx]
    exact scan_snocQ _ _
   have HSC:=Hd hsc
   clear hsc hx hkb
   generalize scanQ (bs.take k)=sc at*
   obtain⟨b1,b2⟩:=sc
   simp only
   obtain rfl|rfl|rfl|rfl|rfl|rfl:x=1∨x=2∨x=3∨x=4∨x=5∨x=6:=by omega
   all_goals
    go_wp2_with fail
    go_roundw
    case rel=>exact⟨k+1,by omega,by go_num,by rw[HSC.out];rfl,by rw[HSC.out];rfl,by first|rfl|trivial⟩
    case measure=>simp[intOf];omega
  ·have hkn2:k=n:=by omega
   have hsc:scanQ (bs.take k)=scanQ bs:=by rw[hkn2,←HN.out,List.take_length]
   rw[hsc]
   have HRES2:=HRES
   clear hsc
   generalize scanQ bs=sc at*
   obtain⟨b1,b2⟩:=sc
   simp only
   obtain rfl|rfl|rfl|rfl|rfl|rfl|rfl:kind=0∨kind=1∨kind=2∨kind=3∨kind=4∨kind=5∨kind=6:=by omega
   all_goals
    cases b1<;>cases b2
    all_goals
     go_wp2_with fail
     go_ret
     exact⟨by rw[HRES2.out];rfl,rfl⟩
theorem nx_moveQ:∀now:Fin 3,∀k:Fin 7,nxQ (decide (now.val≠0),decide (now.val=2)) k.val=if Ck.move now.val k.val=4 then 2 else 0:=by decide
theorem scan_moveQ:∀now:Fin 3,∀k:Fin 7,k.val≠0→Ck.move now.val k.val≠4→scan1Q (decide (now.val≠0),decide (now.val=2)) k.val=(decide (Ck.move now.val k.val≠0),decide (Ck.move now.val k.val=2))∧Ck.move now.val k.val<3:=by decide
theorem packP_pr{kind:Int}(h:kind<5)(x:Xe)(ys:List Sz)(pr pr':Pi3):packP kind x ys pr=packP kind x ys pr':=by
 unfold packP
 cases putsZ ys x 0 with
 |error e=>rfl
 |ok r=>
   simp only
   rw[if_pos h,if_pos h]
theorem prop_nat{lc lp pb:Int}(h:Pi3.bad (lc,lp,pb)=false):(lc.toNat:Int)=lc∧(lp.toNat:Int)=lp∧(pb.toNat:Int)=pb:=by
 unfold Pi3.bad propsBad at h
 simp only[decide_eq_false_iff_not] at h
 omega
theorem pack_all{wB w:World}{l:RL}{E:Nat}{v:Value}{x:Xe}(h:EC w l E v x.c x.e)(hok:x.Ok)(hk0:x.e.k=K.new)(kd:Nat)(lc lp pb:Int)(raw:List UInt8)(pr:Pi3)(hkd:3≤kd∧kd≤6)(hpr:pr.n=(x.c.lc,x.c.lp,x.c.pb))(hgood:pr.bad=false)(hq:5≤kd→Pi3.bad (lc,lp,pb)=false)(ys:List Sz)(sp rp:Option Addr)(sc rn rc:Nat)(hby:∀z ∈ ys,z.byte<256)
 (hB:Fr (fun _=>False) wB w)(hnew:∀k,ECF l E v k→wB.heap.size≤k)(hz:RdZ wB (.slice sp ys.length sc) ys)(hyl:ys.length≤1048576)(ha:x.c.all.length≤1099511627776):
 Calls Tryz.prog 51 #[ptr l.K,.agg #[.int .i64 kd,.int .i64 lc,.int .i64 lp,.int .i64 pb,.slice sp ys.length sc,.slice rp rn rc]] w (PackP w l E v (partP x ⟨kd,lc,lp,pb,raw,ys⟩ (prOf ⟨kd,lc,lp,pb,raw,ys⟩ pr))):=by
 obtain rfl|rfl|rfl|rfl:kd=3∨kd=4∨kd=5∨kd=6:=by omega
 ·have e:partP x ⟨((3:Nat):Int),lc,lp,pb,raw,ys⟩ (prOf ⟨((3:Nat):Int),lc,lp,pb,raw,ys⟩ pr)=packP 3 x ys (lc,lp,pb):=by
   unfold partP prOf
   have f1:((3:Nat):Int)≤2↔False:=by decide
   have f2:(((3:Nat):Int)=1∨((3:Nat):Int)=6)↔False:=by decide
   have f3:4≤((3:Nat):Int)↔False:=by decide
   have f4:5≤((3:Nat):Int)↔False:=by decide
   simp only[f1,f2,f3,f4,if_true,if_false,false_and,true_and,Bool.false_eq_true]
   exact packP_pr (by decide) _ _ _ _
  rw[e]
  exact pack_k3 h hok hk0 lc lp pb ys sp rp sc rn rc hby hB hnew hz hyl ha
 ·have e:partP x ⟨((4:Nat):Int),lc,lp,pb,raw,ys⟩ (prOf ⟨((4:Nat):Int),lc,lp,pb,raw,ys⟩ pr)=packP 4 (x.reset (x.c.lc,x.c.lp,x.c.pb)) ys (lc,lp,pb):=by
   unfold partP prOf
   have f1:((4:Nat):Int)≤2↔False:=by decide
   have f2:(((4:Nat):Int)=1∨((4:Nat):Int)=6)↔False:=by decide
   have f3:4≤((4:Nat):Int)↔True:=by decide
   have f4:5≤((4:Nat):Int)↔False:=by decide
   simp only[f1,f2,f3,f4,if_true,if_false,false_and,true_and,Bool.false_eq_true,hgood,hpr]
   exact packP_pr (by decide) _ _ _ _
  rw[e]
  exact pack_k4 h hok hk0 lc lp pb ys sp rp sc rn rc hby hB hnew hz hyl ha
 ·have hb:=hq (by decide)
  obtain⟨e1,e2,e3⟩:=prop_nat hb
  have hn:=Pi3.ok hb
  have e:partP x ⟨((5:Nat):Int),lc,lp,pb,raw,ys⟩ (prOf ⟨((5:Nat):Int),lc,lp,pb,raw,ys⟩ pr)=packP 5 (x.reset (lc.toNat,lp.toNat,pb.toNat)) ys (lc,lp,pb):=by
   unfold partP prOf
   have f1:((5:Nat):Int)≤2↔False:=by decide
   have f2:(((5:Nat):Int)=1∨((5:Nat):Int)=6)↔False:=by decide
   have f3:4≤((5:Nat):Int)↔True:=by decide
   have f4:5≤((5:Nat):Int)↔True:=by decide
   simp only[f1,f2,f3,f4,if_true,if_false,false_and,true_and,Bool.false_eq_true,hb]
   rfl
  rw[e]
  have:=pack_k5 h hok hk0 lc.toNat lp.toNat pb.toNat hn.1 hn.2 ys sp rp sc rn rc hby hB hnew hz hyl ha
  rw[e1,e2,e3] at this
  exact this
 ·have hb:=hq (by decide)
  obtain⟨e1,e2,e3⟩:=prop_nat hb
  have hn:=Pi3.ok hb
  have e:partP x ⟨((6:Nat):Int),lc,lp,pb,raw,ys⟩ (prOf ⟨((6:Nat):Int),lc,lp,pb,raw,ys⟩ pr)=packP 6 (x.clear.reset (lc.toNat,lp.toNat,pb.toNat)) ys (lc,lp,pb):=by
   unfold partP prOf
   have f1:((6:Nat):Int)≤2↔False:=by decide
   have f2:(((6:Nat):Int)=1∨((6:Nat):Int)=6)↔True:=by decide
   have f3:4≤((6:Nat):Int)↔True:=by decide
   have f4:5≤((6:Nat):Int)↔True:=by decide
   simp only[f1,f2,f3,f4,if_true,if_false,false_and,true_and,Bool.false_eq_true,hb]
   rfl
  rw[e]
  have:=pack_k6 h hok hk0 lc.toNat lp.toNat pb.toNat hn.1 hn.2 ys sp rp sc rn rc hby hB hnew hz hyl ha
  rw[e1,e2,e3] at this
  exact this
theorem puts_props:∀(l:List Sz)(x:Xe)(n:Nat)(x':Xe)(m:Nat),putsZ l x n=.ok (x',m)→x'.c.lc=x.c.lc∧x'.c.lp=x.c.lp∧x'.c.pb=x.c.pb
 |[],x,n,x',m,h=>by
   simp only[putsZ,Except.ok.injEq,Prod.mk.injEq] at h
   rw[←h.1]
   exact⟨rfl,rfl,rfl⟩
 |z::l,x,n,x',m,h=>by
   rw[putsZ] at h
   by_cases h0:(x.apZ z).1=0
   ·rw[if_pos h0] at h
    exact puts_props l (x.put z.sy) _ x' m h
   ·rw[if_neg h0] at h
    exact absurd h (by simp)
theorem part_props{x:Xe}{kd:Nat}{lc lp pb:Int}{raw:List UInt8}{ys:List Sz}{pr:Pi3}{b:List UInt8}{x2:Xe}(hkd:3≤kd∧kd≤6)(hpr:pr.n=(x.c.lc,x.c.lp,x.c.pb))(h:partP x ⟨kd,lc,lp,pb,raw,ys⟩ (prOf ⟨kd,lc,lp,pb,raw,ys⟩ pr)=.ok (b,x2)):
 (prOf ⟨kd,lc,lp,pb,raw,ys⟩ pr).n=(x2.c.lc,x2.c.lp,x2.c.pb):=by
 obtain⟨q,hq⟩:∃q,q=prOf ⟨kd,lc,lp,pb,raw,ys⟩ pr:=⟨_,rfl⟩
 rw[←hq] at h ⊢
 unfold partP at h
 simp only at h
 rw[if_neg (show¬(kd:Int)≤2 by omega)] at h
 by_cases hb:4≤(kd:Int)∧q.bad=true
 ·rw[if_pos hb] at h
  exact absurd h (by simp)
 ·rw[if_neg hb] at h
  obtain⟨x1,hx1⟩:∃x1,x1=(if 4≤(kd:Int) then(if(kd:Int)=1∨(kd:Int)=6 then x.clear else x).reset q.n else(if(kd:Int)=1∨(kd:Int)=6 then x.clear else x)):=⟨_,rfl⟩
  rw[←hx1] at h
  have h1:q.n=(x1.c.lc,x1.c.lp,x1.c.pb):=by
   rw[hx1]
   by_cases h4:4≤(kd:Int)
   ·rw[if_pos h4]
    rfl
   ·rw[if_neg h4,if_neg (by omega),hq]
    unfold prOf
    rw[if_neg (by simp only;omega)]
    exact hpr
  unfold packP at h
  cases hp:putsZ ys x1 0 with
  |error e=>
    rw[hp] at h
    exact absurd h (by simp)
  |ok r=>
    obtain⟨x3,m⟩:=r
    rw[hp] at h
    simp only at h
    obtain⟨e1,e2,e3⟩:=puts_props ys x1 0 x3 m hp
    by_cases hs:sizedP m x3.e.k.bytes.length=true
    ·rw[if_pos hs] at h
     simp only[Except.ok.injEq,Prod.mk.injEq] at h
     rw[h1,←h.2]
     show _=(x3.c.lc,x3.c.lp,x3.c.pb)
     rw[e1,e2,e3]
    ·rw[if_neg hs] at h
     exact absurd h (by simp)
structure BQ(w wr:World)(KK:Nat)(l:RL)(E:Nat)(v:Value)(x:Xe)(now:Nat)(pr:Pi3)(bf:Value)(bs:List Nat)(ov:Value)(o:List UInt8):Prop where
 fr:Fr (fun _=>False) w wr
 e:EC wr l E v x.c x.e
 hK:l.K=KK
 new:∀k,ECF l E v k→w.heap.size≤k
 ok:x.Ok
 hk:x.e.k=K.new
 hpr:pr.n=(x.c.lc,x.c.lp,x.c.pb)
 hgood:pr.bad=false
 hbf:Ga.Own 3 1 w wr bf bs.length (intsQ bs)
 hbs:∀x ∈ bs,1≤x∧x≤6
 hnow:now<3∧scanQ bs=(decide (now≠0),decide (now=2))
 hout:Mine w wr ov o
 off:∀k,ov.ownBlock=some k→¬ECF l E v k
 off2:∀k,bf.ownBlock=some k→¬ECF l E v k
theorem BQ.keep{w wr wr':World}{KK:Nat}{l:RL}{E:Nat}{v:Value}{x:Xe}{now:Nat}{pr:Pi3}{bf ov:Value}{bs:List Nat}{o:List UInt8}(h:BQ w wr KK l E v x now pr bf bs ov o)(hf:Fr (fun _=>False) wr wr'):BQ w wr' KK l E v x now pr bf bs ov o:=
 ⟨h.fr.trans hf,h.e.keep hf,h.hK,h.new,h.ok,h.hk,h.hpr,h.hgood,h.hbf.keep hf,h.hbs,h.hnow,h.hout.keep hf,h.off,h.off2⟩
theorem BQ.noted{w wr wr':World}{KK:Nat}{l:RL}{E:Nat}{v:Value}{x:Xe}{now:Nat}{pr:Pi3}{bf bf' ov:Value}{bs:List Nat}{o:List UInt8}(h:BQ w wr KK l E v x now pr bf bs ov o){kd:Nat}(hk:1≤kd∧kd≤6)(hm:Ck.move now kd≠4)
 (hown:Ga.Own 3 1 w wr' bf' (bs.length+1) (intsQ bs++[.int .i64 kd]))(hf:Fr (fun k=>bf.ownBlock=some k) wr wr')(hn:∀k,bf'.ownBlock=some k→bf.ownBlock=some k∨wr.heap.size≤k):BQ w wr' KK l E v x (Ck.move now kd) pr bf' (bs++[kd]) ov o:=by
 have hs:=scan_moveQ ⟨now,h.hnow.1⟩ ⟨kd,by omega⟩ (by simp only;omega) hm
 simp only at hs
 have hlt:=h.e.old
 refine⟨h.fr.trans' hf (fun i h1 h2=>by have:=h.hbf.new i h2;omega),h.e.step hf (fun k hk he=>h.off2 k he hk),h.hK,h.new,h.ok,h.hk,h.hpr,h.hgood,?_,fun y hy=> ?_,⟨hs.2,by rw[scan_snocQ,h.hnow.2];exact hs.1⟩,h.hout.step hf (fun k hk2 he=> ?_),h.off,fun k hk2 he=> ?_⟩
 ·rw[List.length_append,List.length_singleton,show intsQ (bs++[kd])=intsQ bs++[.int .i64 kd] by simp[intsQ]]
  exact hown
 ·rcases List.mem_append.1 hy with hy|hy
  ·exact h.hbs y hy
  ·rw[List.mem_singleton.1 hy]
   exact hk
 ·obtain⟨cur,hc⟩:=own_blk h.hout.own hk2
  exact h.hbf.off hc (by decide) he
 ·rcases hn k hk2 with h1|h1
  ·exact h.off2 k h1 he
  ·have:=hlt k he
   omega
theorem BQ.laid{w wr wr':World}{KK:Nat}{l:RL}{E:Nat}{v:Value}{x:Xe}{now:Nat}{pr:Pi3}{bf ov ov':Value}{bs:List Nat}{o o':List UInt8}(h:BQ w wr KK l E v x now pr bf bs ov o)
 (hown:Mine w wr' ov' o')(hf:Fr (fun k=>ov.ownBlock=some k) wr wr')(hn:∀k,ov'.ownBlock=some k→ov.ownBlock=some k∨wr.heap.size≤k):BQ w wr' KK l E v x now pr bf bs ov' o':=by
 have hlt:=h.e.old
 refine⟨h.fr.trans' hf (fun i h1 h2=>by have:=h.hout.new i h2;omega),h.e.step hf (fun k hk he=>h.off k he hk),h.hK,h.new,h.ok,h.hk,h.hpr,h.hgood,h.hbf.step hf (fun k hk2 he=> ?_),h.hbs,h.hnow,hown,fun k hk2 he=> ?_,h.off2⟩
 ·obtain⟨cur,hc⟩:=own_blk h.hout.own he
  exact h.hbf.off hc (by decide) hk2
 ·rcases hn k hk2 with h1|h1
  ·exact h.off k h1 he
  ·have:=hlt k he
   omega
theorem BQ.coded{w wr wr':World}{KK:Nat}{l l':RL}{E E':Nat}{v v':Value}{x x':Xe}{now:Nat}{pr pr':Pi3}{bf ov:Value}{bs:List Nat}{o:List UInt8}(h:BQ w wr KK l E v x now pr bf bs ov o)(he:EC wr' l' E' v' x'.c x'.e)(hN:Nxt wr l E v wr' l' E' v')(hok:x'.Ok)(hk:x'.e.k=K.new)(hpr:pr'.n=(x'.c.lc,x'.c.lp,x'.c.pb))(hg:pr'.bad=false):BQ w wr' KK l' E' v' x' now pr' bf bs ov o:=by
 have hs:=h.fr.size
 refine⟨h.fr.trans' hN.fr (fun i h1 h2=>by have:=h.new i h2;omega),he,hN.k.trans h.hK,fun k hk=> ?_,hok,hk,hpr,hg,h.hbf.step hN.fr (fun k hk he=>h.off2 k hk he),h.hbs,h.hnow,h.hout.step hN.fr (fun k hk he=>h.off k hk he),fun k hk he=> ?_,fun k hk he=> ?_⟩
 ·rcases hN.gr k hk with h1|h1
  ·exact h.new k h1
  ·omega
 ·exact hN.off (h.hout.lt k hk) (h.off k hk) he
 ·exact hN.off (h.hbf.lt k hk) (h.off2 k hk) he
def BRelQ(w:World)(l:List Pz)(n KK:Nat)(bf ov i:Value)(wr:World):Prop:=
 ∃(k:Nat)(l':RL)(E':Nat)(v':Value)(x:Xe)(now:Nat)(pr:Pi3)(bs:List Nat)(o:List UInt8)(C:Nat),k≤l.length∧i=.int .i64 (k:Nat)∧BQ w wr KK l' E' v' x now pr bf bs ov o∧bs.length=k∧buildGo l 0 (Xe.start n) (0,0,0)=after o (buildGo (l.drop k) now x pr)∧C+costs (l.drop k)=costs l∧o.length≤C∧x.c.all.length≤6*C
end Rf
end Go.Proofs.YtlgccpjccopdmaaGreatDoor
