/- Part 38 of 55: lemmas of the last part, each under the conditions that it names. -/
import Derived.Test.YtlgccpjccopdmaaGreatDoorP14
import Derived.Test.YtlgccpjccopdmaaGreatDoorP22
import Derived.Test.YtlgccpjccopdmaaGreatDoorP35
import Derived.Test.YtlgccpjccopdmaaGreatDoorP36
set_option linter.unusedVariables false
set_option linter.unusedSimpArgs false
set_option maxRecDepth 1500
namespace Go.Proofs.YtlgccpjccopdmaaGreatDoor
open Go.RowKit
namespace En
open Mem Rc St Lz Ck
def Pz.pt(p:Pz):Pt:=⟨p.kind.toNat,(p.lc.toNat,p.lp.toNat,p.pb.toNat),p.ys.map Sz.sy,p.raw⟩
abbrev Pi3:=Int×Int×Int
def Pi3.n(p:Pi3):Pr:=(p.1.toNat,p.2.1.toNat,p.2.2.toNat)
def Pi3.bad(p:Pi3):Bool:=propsBad p.1 p.2.1 p.2.2
theorem Pi3.ok{p:Pi3}(h:p.bad=false):p.n.1+p.n.2.1≤4∧p.n.2.2≤4:=by
 unfold Pi3.bad propsBad at h
 simp only[decide_eq_false_iff_not] at h
 show p.1.toNat+p.2.1.toNat≤4∧p.2.2.toNat≤4
 omega
theorem raw_ok(k n:Nat)(hk:1≤k∧k≤2)(hn:1≤n∧n≤65536):HeadOk ⟨k,n,n,0,0,0⟩:=
 ⟨⟨hk.1,by simp only;omega⟩,fun _=>⟨hn.1,hn.2,rfl⟩,fun h=>absurd h (by simp only;omega),⟨by simp,by simp⟩,fun _=>⟨rfl,rfl,rfl⟩⟩
def Xe.apZ(x:Xe)(z:Sz):Nat×List UInt8×S:=applyZ x.c.size x.c.all x.c.s z
def putsZ:List Sz→Xe→Nat→Except Nat (Xe×Nat)
 |[],x,n=>.ok (x,n)
 |z::l,x,n=>if(x.apZ z).1=0 then putsZ l (x.put z.sy) (n+St.size z.sy) else .error (x.apZ z).1
def packP(kind:Int)(x1:Xe)(ys:List Sz)(pr:Pi3):Except Nat (List UInt8×Xe):=
 match putsZ ys x1 0 with
 |.error e=>.error e
 |.ok (x3,n)=>
   if sizedP n x3.e.k.bytes.length then .ok (headB (if kind<5 then⟨kind.toNat,n,x3.e.k.bytes.length,0,0,0⟩ else⟨kind.toNat,n,x3.e.k.bytes.length,pr.n.1,pr.n.2.1,pr.n.2.2⟩)++x3.e.k.bytes,x3.cut) else .error 7
def partP(x:Xe)(p:Pz)(pr:Pi3):Except Nat (List UInt8×Xe):=
 let x1:=if p.kind=1∨p.kind=6 then x.clear else x
 if p.kind≤2 then
  if 1≤p.raw.length∧p.raw.length≤65536 then .ok (headB ⟨p.kind.toNat,p.raw.length,p.raw.length,0,0,0⟩++p.raw,x1.raw p.raw) else .error 7
 else if 4≤p.kind∧pr.bad=true then .error 6
 else packP p.kind (if 4≤p.kind then x1.reset pr.n else x1) p.ys pr
def prOf(p:Pz)(pr:Pi3):Pi3:=if 5≤p.kind then(p.lc,p.lp,p.pb) else pr
def buildGo:List Pz→Nat→Xe→Pi3→Except Nat (List UInt8)
 |[],_,_,_=>.ok []
 |p::l,now,x,pr=>
   if p.kind<1∨6<p.kind then .error 6
   else if Ck.move now p.kind.toNat=4 then .error 2
   else match partP x p (prOf p pr) with
    |.error e=>.error e
    |.ok (b,x2)=>match buildGo l (Ck.move now p.kind.toNat) x2 (prOf p pr) with
      |.error e=>.error e
      |.ok t=>.ok (b++t)
def buildP(dict:Int)(l:List Pz):Except Nat (List UInt8):=
 if dict<1∨4294967295<dict then .error 7
 else match buildGo l 0 (Xe.start dict.toNat) (0,0,0) with
  |.error e=>.error e
  |.ok b=>.ok (b++[0])
theorem may_of{c:C}{z:Sz}(h:z.bad=0)(hb:z.byte<256):May c z.sy:=by
 obtain⟨hy,hn⟩:=Sz.ok h hb
 refine⟨hy.kind,hy.byte,fun hk=> ?_,fun hk=> ?_,hy.dist⟩
 ·have h0:=hn S.new
  have hk1:=hy.kind
  unfold S.next at h0
  by_cases hl:isL z.sy.len
  ·exact hl
  ·rcases hk with hk|hk
   ·rw[if_neg (by omega),if_neg (by omega),if_pos hk,if_neg hl] at h0
    simp at h0
   ·rw[if_neg (by omega),if_neg (by omega),if_neg (by omega),if_neg hl] at h0
    simp at h0
 ·have h0:=hn S.new
  unfold S.next at h0
  by_cases hl:isL z.sy.len
  ·by_cases hd:isD z.sy.dist
   ·exact hd
   ·rw[if_neg (by omega),if_neg (by omega),if_pos hk,if_pos hl,if_neg hd] at h0
    simp at h0
  ·rw[if_neg (by omega),if_neg (by omega),if_pos hk,if_neg hl] at h0
   simp at h0
theorem apZ_ok{x:Xe}{z:Sz}(h:(x.apZ z).1=0):z.bad=0∧x.apZ z=x.ap z.sy:=by
 unfold Xe.apZ applyZ at*
 by_cases hz:z.bad=0
 ·rw[if_pos hz]
  exact⟨hz,rfl⟩
 ·rw[if_neg hz] at h
  exact absurd h hz
theorem puts_legal:∀(l:List Sz)(x:Xe)(n:Nat)(x':Xe)(m:Nat),x.Ok→(∀z ∈ l,z.byte<256)→putsZ l x n=.ok (x',m)→Legal (l.map Sz.sy) x∧x'=x.putAll (l.map Sz.sy)∧m=n+(x.made (l.map Sz.sy)).length
 |[],x,n,x',m,hx,hb,h=>by
   simp only[putsZ,Except.ok.injEq,Prod.mk.injEq] at h
   exact⟨trivial,h.1.symm,by rw[←h.2];rfl⟩
 |z::l,x,n,x',m,hx,hb,h=>by
   rw[putsZ] at h
   by_cases h0:(x.apZ z).1=0
   ·rw[if_pos h0] at h
    obtain⟨hz,he⟩:=apZ_ok h0
    have hm:=may_of (c:=x.c) hz (hb z (List.mem_cons_self ..))
    rw[he] at h0
    obtain⟨a,b,c⟩:=puts_legal l (x.put z.sy) _ x' m (hx.put hm h0) (fun y hy=>hb y (List.mem_cons_of_mem _ hy)) h
    refine⟨⟨hm,h0,a⟩,b,?_⟩
    have hl:=apply_len (size:=x.c.size) (all:=x.c.all) (s:=x.c.s) (y:=z.sy) h0 hm.kind
    rw[c,List.map_cons,Xe.made,List.length_append]
    unfold Xe.ap
    rw[hl,Nat.add_assoc]
   ·rw[if_neg h0] at h
    exact absurd h (by simp)
theorem Xe.Ok.clear{x:Xe}(h:x.Ok):x.clear.Ok:=⟨⟨h.c.l,h.c.pb,S.new_ok⟩,fresh_ok _ _⟩
theorem Xe.Ok.reset{x:Xe}(h:x.Ok){pr:Pr}(hp:pr.1+pr.2.1≤4∧pr.2.2≤4):(x.reset pr).Ok:=⟨⟨hp.1,hp.2,S.new_ok⟩,fresh_ok _ _⟩
theorem Xe.Ok.cut{x:Xe}(h:x.Ok):x.cut.Ok:=⟨h.c,⟨k_new,h.e.q,h.e.len⟩⟩
theorem Xe.Ok.raw{x:Xe}(h:x.Ok)(l:List UInt8):(x.raw l).Ok:=⟨⟨h.c.l,h.c.pb,h.c.s⟩,h.e⟩
theorem part_pts{x:Xe}(hx:x.Ok){p:Pz}{pr:Pi3}(hp:pr.bad=false)(hk:1≤p.kind∧p.kind≤6)(hb:∀z ∈ p.ys,z.byte<256){b:List UInt8}{x2:Xe}(h:partP x p (prOf p pr)=.ok (b,x2)):
 HeadOk (p.pt.head (p.pt.prep x pr.n).1)∧(3≤p.pt.kind→Legal p.pt.ys (p.pt.prep x pr.n).1)∧b=headB (p.pt.head (p.pt.prep x pr.n).1)++p.pt.bytes (p.pt.prep x pr.n).1∧x2=p.pt.after (p.pt.prep x pr.n).1∧(p.pt.prep x pr.n).2=(prOf p pr).n∧((prOf p pr).bad=false)∧x2.Ok:=by
 have hpn:=Pi3.ok hp
 obtain⟨kind,lc,lp,pb,raw,ys⟩:=p
 simp only at hk hb
 unfold partP prOf at h
 simp only at h
 by_cases h2:kind≤2
 ·rw[if_pos h2] at h
  by_cases hr:1≤raw.length∧raw.length≤65536
  ·rw[if_pos hr] at h
   simp only[Except.ok.injEq,Prod.mk.injEq] at h
   obtain⟨h3,h4⟩:=h
   obtain rfl|rfl:kind=1∨kind=2:=by omega
   ·rw[←h3,←h4]
    exact⟨raw_ok 1 raw.length (by decide) hr,fun h=>absurd h (by show¬3≤1;decide),rfl,rfl,rfl,hp,hx.clear.raw _⟩
   ·rw[←h3,←h4]
    exact⟨raw_ok 2 raw.length (by decide) hr,fun h=>absurd h (by show¬3≤2;decide),rfl,rfl,rfl,hp,hx.raw _⟩
  ·rw[if_neg hr] at h
   exact absurd h (by simp)
 ·rw[if_neg h2] at h
  have step:∀(k:Nat)(x1:Xe)(qr:Pi3),kind=(k:Int)→3≤k→k≤6→x1.Ok→qr.bad=false→(k<5→True)→
   packP kind x1 ys qr=.ok (b,x2)→
   ∃H:Head,H=(if k<5 then⟨k,(x1.made (ys.map Sz.sy)).length,(x1.putAll (ys.map Sz.sy)).e.k.bytes.length,0,0,0⟩ else⟨k,(x1.made (ys.map Sz.sy)).length,(x1.putAll (ys.map Sz.sy)).e.k.bytes.length,qr.n.1,qr.n.2.1,qr.n.2.2⟩)∧HeadOk H∧Legal (ys.map Sz.sy) x1∧b=headB H++(x1.putAll (ys.map Sz.sy)).e.k.bytes∧x2=(x1.putAll (ys.map Sz.sy)).cut∧x2.Ok:=by
   rintro k x1 qr rfl h3 h6 hx1 hq _ hm
   have hqn:=Pi3.ok hq
   unfold packP at hm
   cases hps:putsZ ys x1 0 with
   |error e=>
     rw[hps] at hm
     exact absurd hm (by simp)
   |ok r=>
     obtain⟨x3,n⟩:=r
     rw[hps] at hm
     simp only at hm
     obtain⟨l1,l2,l3⟩:=puts_legal ys x1 0 x3 n hx1 hb hps
     rw[Nat.zero_add] at l3
     subst l2 l3
     by_cases hsz:sizedP (x1.made (ys.map Sz.sy)).length (x1.putAll (ys.map Sz.sy)).e.k.bytes.length=true
     ·rw[if_pos hsz] at hm
      simp only[Except.ok.injEq,Prod.mk.injEq,Int.toNat_natCast] at hm
      obtain⟨m1,m2⟩:=hm
      unfold sizedP at hsz
      rw[decide_eq_true_eq] at hsz
      refine⟨_,rfl,?_,l1,?_,m2.symm,by rw[←m2];exact(hx1.putAll l1).1.cut⟩
      ·by_cases h5:k<5
       ·rw[if_pos h5]
        exact⟨⟨by simp only;omega,by simp only;omega⟩,fun h=>absurd h (by simp only;omega),fun _=>hsz,by simp,fun _=>⟨rfl,rfl,rfl⟩⟩
       ·rw[if_neg h5]
        exact⟨⟨by simp only;omega,by simp only;omega⟩,fun h=>absurd h (by simp only;omega),fun _=>hsz,hqn,fun h=>absurd h (by simp only;omega)⟩
      ·rw[←m1]
       by_cases h5:k<5
       ·rw[if_pos h5,if_pos (by omega)]
       ·rw[if_neg h5,if_neg (by omega)]
     ·rw[if_neg hsz] at hm
      exact absurd hm (by simp)
  obtain rfl|rfl|rfl|rfl:kind=3∨kind=4∨kind=5∨kind=6:=by omega
  ·rw[if_neg (by simp)] at h
   obtain⟨H,rfl,s1,s2,s3,s4,s5⟩:=step 3 x pr rfl (by decide) (by decide) hx hp (fun _=>trivial) (by simpa using h)
   exact⟨s1,fun _=>s2,s3,s4,rfl,hp,s5⟩
  ·rw[if_neg (by simp[hp])] at h
   obtain⟨H,rfl,s1,s2,s3,s4,s5⟩:=step 4 (x.reset pr.n) pr rfl (by decide) (by decide) (hx.reset hpn) hp (fun _=>trivial) (by simpa using h)
   exact⟨s1,fun _=>s2,s3,s4,rfl,hp,s5⟩
  ·by_cases hq:Pi3.bad (lc,lp,pb)=true
   ·rw[if_pos (by simp[hq])] at h
    exact absurd h (by simp)
   ·rw[if_neg (by simp[hq])] at h
    have hq':Pi3.bad (lc,lp,pb)=false:=by simpa using hq
    obtain⟨H,rfl,s1,s2,s3,s4,s5⟩:=step 5 (x.reset (Pi3.n (lc,lp,pb))) (lc,lp,pb) rfl (by decide) (by decide) (hx.reset (Pi3.ok hq')) hq' (fun _=>trivial) (by simpa using h)
    exact⟨s1,fun _=>s2,s3,s4,rfl,hq',s5⟩
  ·by_cases hq:Pi3.bad (lc,lp,pb)=true
   ·rw[if_pos (by simp[hq])] at h
    exact absurd h (by simp)
   ·rw[if_neg (by simp[hq])] at h
    have hq':Pi3.bad (lc,lp,pb)=false:=by simpa using hq
    obtain⟨H,rfl,s1,s2,s3,s4,s5⟩:=step 6 (x.clear.reset (Pi3.n (lc,lp,pb))) (lc,lp,pb) rfl (by decide) (by decide) (hx.clear.reset (Pi3.ok hq')) hq' (fun _=>trivial) (by simpa using h)
    exact⟨s1,fun _=>s2,s3,s4,rfl,hq',s5⟩
theorem build_pts:∀(l:List Pz)(now:Nat)(x:Xe)(pr:Pi3)(b:List UInt8),now<4→x.Ok→pr.bad=false→(∀p ∈ l,∀z ∈ p.ys,z.byte<256)→buildGo l now x pr=.ok b→PtsOk (l.map Pz.pt) now x pr.n∧b=rowB (chunks (l.map Pz.pt) x pr.n)
 |[],now,x,pr,b,hn,hx,hp,hb,h=>by
   simp only[buildGo,Except.ok.injEq] at h
   exact⟨trivial,h.symm⟩
 |p::l,now,x,pr,b,hn,hx,hp,hb,h=>by
   rw[buildGo] at h
   by_cases hk:p.kind<1∨6<p.kind
   ·rw[if_pos hk] at h
    exact absurd h (by simp)
   ·rw[if_neg hk] at h
    by_cases hm:Ck.move now p.kind.toNat=4
    ·rw[if_pos hm] at h
     exact absurd h (by simp)
    ·rw[if_neg hm] at h
     have hmv:Ck.move now p.kind.toNat<3:=by
      have:∀a:Fin 4,∀k:Fin 7,1≤k.val→Ck.move a k≠4→Ck.move a k<3:=by decide
      exact this ⟨now,hn⟩ ⟨p.kind.toNat,by omega⟩ (by simp only;omega) hm
     cases hpp:partP x p (prOf p pr) with
     |error e=>
       rw[hpp] at h
       exact absurd h (by simp)
     |ok r=>
       obtain⟨b1,x2⟩:=r
       rw[hpp] at h
       simp only at h
       obtain⟨p1,p2,p3,p4,p5,p6,p7⟩:=part_pts hx hp (by omega) (hb p (List.mem_cons_self ..)) hpp
       cases hbb:buildGo l (Ck.move now p.kind.toNat) x2 (prOf p pr) with
       |error e=>
         rw[hbb] at h
         exact absurd h (by simp)
       |ok t=>
         rw[hbb] at h
         simp only[Except.ok.injEq] at h
         obtain⟨q1,q2⟩:=build_pts l _ x2 _ t (by omega) p7 p6 (fun q hq=>hb q (List.mem_cons_of_mem _ hq)) hbb
         rw[List.map_cons]
         refine⟨⟨p1,hmv,p2,?_⟩,?_⟩
         ·rw[p5,←p4]
          exact q1
         ·rw[chunks,rowB,p5,←p4,←q2,←h,p3,List.append_assoc]
end En
namespace En
open Mem St
def symsGo(size:Nat):List Sz→List UInt8→S→Option (List UInt8×List UInt8×S)
 |[],all,s=>some (all,[],s)
 |z::l,all,s=>
   if(applyZ size all s z).1=0 then(symsGo size l (all++(applyZ size all s z).2.1) (applyZ size all s z).2.2).map fun r=>(r.1,(applyZ size all s z).2.1++r.2.1,r.2.2)
   else none
def Pz.rowZ(p:Pz):List Sz:=if p.kind≤2 then[] else p.ys
def meanGo(size:Nat):List Pz→List UInt8→S→Option (List UInt8×List (List Sz))
 |[],_,_=>some ([],[])
 |p::l,all,s=>
   if p.kind≤2 then(meanGo size l ((if p.kind=1∨p.kind=6 then[] else all)++p.raw) (if 4≤p.kind then S.new else s)).map fun r=>(p.raw++r.1,[]::r.2)
   else(symsGo size p.ys (if p.kind=1∨p.kind=6 then[] else all) (if 4≤p.kind then S.new else s)).bind fun q=>(meanGo size l q.1 q.2.2).map fun r=>(q.2.1++r.1,p.ys::r.2)
end En
namespace En
open Mem Rc St Lz Ck
theorem syms_puts:∀(l:List Sz)(x:Xe)(n:Nat)(x':Xe)(m:Nat),putsZ l x n=.ok (x',m)→symsGo x.c.size l x.c.all x.c.s=some (x'.c.all,x.made (l.map Sz.sy),x'.c.s)∧x'.c.size=x.c.size
 |[],x,n,x',m,h=>by
   simp only[putsZ,Except.ok.injEq,Prod.mk.injEq] at h
   rw[←h.1]
   exact⟨rfl,rfl⟩
 |z::l,x,n,x',m,h=>by
   rw[putsZ] at h
   by_cases h0:(x.apZ z).1=0
   ·rw[if_pos h0] at h
    obtain⟨hz,he⟩:=apZ_ok h0
    obtain⟨ih,hs⟩:=syms_puts l (x.put z.sy) _ x' m h
    have e1:(x.put z.sy).c.size=x.c.size:=rfl
    have e2:(x.put z.sy).c.all=x.c.all++(x.apZ z).2.1:=by rw[he];rfl
    have e3:(x.put z.sy).c.s=(x.apZ z).2.2:=by rw[he];rfl
    rw[e1,e2,e3] at ih
    refine⟨?_,hs⟩
    rw[symsGo]
    rw[show applyZ x.c.size x.c.all x.c.s z=x.apZ z from rfl,if_pos h0,ih,List.map_cons,Xe.made,←he]
    rfl
   ·rw[if_neg h0] at h
    exact absurd h (by simp)
theorem part_mean{x:Xe}{p:Pz}{pr:Pi3}(hp:pr.bad=false)(hk:1≤p.kind∧p.kind≤6){b:List UInt8}{x2:Xe}(h:partP x p (prOf p pr)=.ok (b,x2)){s:S}(hs:p.kind=3→s=x.c.s)(size:Nat)(hz:size=x.c.size)(l:List Pz):
 meanGo size (p::l) x.c.all s=((meanGo size l x2.c.all (if p.kind≤2 then s else x2.c.s)).map fun r=>(p.pt.plain (p.pt.prep x pr.n).1++r.1,p.rowZ::r.2))∧x2.c.size=x.c.size∧(p.kind=2→x2.c.s=x.c.s):=by
 obtain⟨kind,lc,lp,pb,raw,ys⟩:=p
 subst hz
 simp only at hk hs
 unfold partP prOf at h
 simp only at h
 rw[meanGo]
 unfold Pz.rowZ
 simp only
 by_cases h2:kind≤2
 ·rw[if_pos h2] at h ⊢
  rw[if_pos h2,if_pos h2,if_neg (by omega:¬4≤kind)]
  by_cases hr:1≤raw.length∧raw.length≤65536
  ·rw[if_pos hr] at h
   simp only[Except.ok.injEq,Prod.mk.injEq] at h
   obtain⟨h3,h4⟩:=h
   subst h4
   obtain rfl|rfl:kind=1∨kind=2:=by omega
   ·exact⟨rfl,rfl,fun h=>absurd h (by decide)⟩
   ·exact⟨rfl,rfl,fun _=>rfl⟩
  ·rw[if_neg hr] at h
   exact absurd h (by simp)
 ·rw[if_neg h2] at h ⊢
  rw[if_neg h2,if_neg h2]
  have step:∀(x1:Xe)(qr:Pi3),packP kind x1 ys qr=.ok (b,x2)→
   symsGo x1.c.size ys x1.c.all x1.c.s=some (x2.c.all,x1.made (ys.map Sz.sy),x2.c.s)∧x2.c.size=x1.c.size:=by
   intro x1 qr hm
   unfold packP at hm
   cases hps:putsZ ys x1 0 with
   |error e=>
     rw[hps] at hm
     exact absurd hm (by simp)
   |ok r=>
     obtain⟨x3,n⟩:=r
     rw[hps] at hm
     simp only at hm
     have hq:=syms_puts ys x1 0 x3 n hps
     split at hm
     ·simp only[Except.ok.injEq,Prod.mk.injEq] at hm
      rw[←hm.2]
      exact hq
     ·exact absurd hm (by simp)
  obtain rfl|rfl|rfl|rfl:kind=3∨kind=4∨kind=5∨kind=6:=by omega
  ·rw[if_neg (by simp)] at h
   obtain⟨s1,s2⟩:=step x pr (by simpa using h)
   refine⟨?_,s2,fun h=>absurd h (by decide)⟩
   rw[if_neg (by decide),if_neg (by decide),hs rfl,s1]
   rfl
  ·rw[if_neg (by simp[hp])] at h
   obtain⟨s1,s2⟩:=step (x.reset pr.n) pr (by simpa using h)
   refine⟨?_,s2,fun h=>absurd h (by decide)⟩
   rw[if_neg (by decide),if_pos (by decide)]
   rw[show symsGo x.c.size ys x.c.all S.new=_ from s1]
   rfl
  ·by_cases hq:Pi3.bad (lc,lp,pb)=true
   ·rw[if_pos (by simp[hq])] at h
    exact absurd h (by simp)
   ·rw[if_neg (by simp[hq])] at h
    obtain⟨s1,s2⟩:=step (x.reset (Pi3.n (lc,lp,pb))) (lc,lp,pb) (by simpa using h)
    refine⟨?_,s2,fun h=>absurd h (by decide)⟩
    rw[if_neg (by decide),if_pos (by decide)]
    rw[show symsGo x.c.size ys x.c.all S.new=_ from s1]
    rfl
  ·by_cases hq:Pi3.bad (lc,lp,pb)=true
   ·rw[if_pos (by simp[hq])] at h
    exact absurd h (by simp)
   ·rw[if_neg (by simp[hq])] at h
    obtain⟨s1,s2⟩:=step (x.clear.reset (Pi3.n (lc,lp,pb))) (lc,lp,pb) (by simpa using h)
    refine⟨?_,s2,fun h=>absurd h (by decide)⟩
    rw[if_pos (by decide),if_pos (by decide)]
    rw[show symsGo x.c.size ys [] S.new=_ from s1]
    rfl
theorem move_facts:∀a:Fin 4,∀k:Fin 7,1≤k.val→Ck.move a k≠4→(k.val=3→a.val=2)∧(k.val=1→Ck.move a k=1)∧(k.val=2→Ck.move a k=2→a.val=2)∧Ck.move a k<3:=by decide
theorem build_mean:∀(l:List Pz)(now:Nat)(x:Xe)(pr:Pi3)(b:List UInt8)(s:S),now<4→x.Ok→pr.bad=false→(∀p ∈ l,∀z ∈ p.ys,z.byte<256)→(now=2→s=x.c.s)→buildGo l now x pr=.ok b→
 meanGo x.c.size l x.c.all s=some (plains (l.map Pz.pt) x pr.n,l.map Pz.rowZ)
 |[],now,x,pr,b,s,hn,hx,hp,hb,hs,h=>rfl
 |p::l,now,x,pr,b,s,hn,hx,hp,hb,hs,h=>by
   rw[buildGo] at h
   by_cases hk:p.kind<1∨6<p.kind
   ·rw[if_pos hk] at h
    exact absurd h (by simp)
   ·rw[if_neg hk] at h
    by_cases hm:Ck.move now p.kind.toNat=4
    ·rw[if_pos hm] at h
     exact absurd h (by simp)
    ·rw[if_neg hm] at h
     obtain⟨mv1,mv2,mv3,mv4⟩:=move_facts ⟨now,hn⟩ ⟨p.kind.toNat,by omega⟩ (by simp only;omega) hm
     simp only at mv1 mv2 mv3 mv4
     cases hpp:partP x p (prOf p pr) with
     |error e=>
       rw[hpp] at h
       exact absurd h (by simp)
     |ok r=>
       obtain⟨b1,x2⟩:=r
       rw[hpp] at h
       simp only at h
       obtain⟨p1,p2,p3,p4,p5,p6,p7⟩:=part_pts hx hp (by omega) (hb p (List.mem_cons_self ..)) hpp
       cases hbb:buildGo l (Ck.move now p.kind.toNat) x2 (prOf p pr) with
       |error e=>
         rw[hbb] at h
         exact absurd h (by simp)
       |ok t=>
         obtain⟨q1,q2,q3⟩:=part_mean hp (by omega) hpp (s:=s) (fun h3=>hs (mv1 (by omega))) x.c.size rfl l
         have ih:=build_mean l _ x2 _ t (if p.kind≤2 then s else x2.c.s) (by omega) p7 p6 (fun q hq=>hb q (List.mem_cons_of_mem _ hq)) (fun h2=>by
          by_cases hk2:p.kind≤2
          ·rw[if_pos hk2]
           obtain h1|h1:p.kind=1∨p.kind=2:=by omega
           ·have:=mv2 (by omega)
            omega
           ·rw[hs (mv3 (by omega) h2),q3 h1]
          ·rw[if_neg hk2]) hbb
         rw[q2] at ih
         rw[q1,ih]
         simp only[List.map_cons,plains,p5,←p4,Option.map_some]
end En
namespace En
open Mem Rc St Lz Ck
theorem widen_s(k:K):k.widen.s≤k.s+1:=by
 unfold K.widen
 split<;>simp
theorem op_bd(e:Es)(o:Op):(e.op o).k.s≤e.k.s+1:=by
 cases o with
 |bit j i b=>
   refine Nat.le_trans (widen_s _) ?_
   unfold K.cut
   split<;>exact Nat.le_refl _
 |half b=>exact widen_s _
theorem run_bd:∀(o:List Op)(e:Es),(e.run o).k.s≤e.k.s+o.length
 |[],e=>Nat.le_refl _
 |q::o,e=>by
   have h1:=run_bd o (e.op q)
   have h2:=op_bd e q
   rw[Es.run,List.length_cons]
   omega
theorem tree_n(back:Bool)(j a n x:Nat):∀(f m:Nat),(treeOps back j a n x f m).length=f
 |0,m=>rfl
 |f+1,m=>by rw[treeOps,List.length_cons,tree_n]
theorem mat_n(u a b:Nat):∀(k m:Nat)(s:Bool),(matOps u a b k m s).length=k
 |0,m,s=>rfl
 |k+1,m,s=>by rw[matOps,List.length_cons,mat_n]
theorem halves_n(x:Nat):∀n,(halves x n).length=n
 |0=>rfl
 |n+1=>by rw[halves,List.length_cons,halves_n]
theorem lit_n(c:C)(b:Nat):(litOps c b).length=8:=by
 unfold litOps
 split
 ·exact tree_n ..
 ·exact mat_n ..
theorem len_n(c:C)(q n:Nat):(lenOps c q n).length≤10:=by
 unfold lenOps
 split
 ·simp[tree_n]
 ·split<;>simp[tree_n]
theorem rest_n{slot r:Nat}(h:slot<64):(restOps slot r).length≤34:=by
 have hr:(range slot).2≤30:=by
  unfold range
  split
  ·simp
  ·simp only
   omega
 unfold restOps
 split
 ·simp
 ·split
  ·simp only[tree_n]
   omega
  ·simp only[List.length_append,halves_n,tree_n]
   omega
theorem sym_n{c:C}{y:Sy}(h:May c y):(symOps c y).length≤52:=by
 have hk:=h.kind
 have hd:=h.dist
 unfold symOps
 by_cases h1:y.kind=1
 ·rw[if_pos h1]
  simp[lit_n]
 ·rw[if_neg h1]
  by_cases h2:y.kind=2
  ·rw[if_pos h2]
   have hd2:=hd h2
   have h3:=len_n c 7 y.len
   have h4:=rest_n (r:=y.dist-(range (slotOf y.dist)).1) (slotOf_in hd2.1 hd2.2).1
   simp only[distOps,List.length_append,tree_n,List.length_cons,List.length_nil]
   omega
  ·rw[if_neg h2]
   have h3:=len_n c 11 y.len
   by_cases h4:y.kind=3
   ·rw[if_pos h4]
    unfold repOps
    split
    ·simp only[List.length_append,List.length_cons,List.length_nil]
     omega
    ·split<;>simp only[List.length_append,List.length_cons,List.length_nil]<;>omega
   ·rw[if_neg h4]
    simp
theorem size_le{z:Sz}(hz:z.bad=0)(hb:z.byte<256):St.size z.sy≤273:=by
 have hm:=may_of (c:=⟨0,0,0,S.new,0,[]⟩) hz hb
 unfold St.size
 split
 ·split
  ·rename_i h0 h1
   have:=hm.len h1
   unfold isL at this
   omega
  ·omega
 ·omega
theorem apZ_put{x:Xe}{z:Sz}(h:(x.apZ z).1=0)(hb:z.byte<256):(x.put z.sy).e.k.s≤x.e.k.s+52∧(x.put z.sy).c.all.length=x.c.all.length+St.size z.sy∧St.size z.sy≤273∧(x.apZ z).2.1.length=St.size z.sy:=by
 obtain⟨hz,he⟩:=apZ_ok h
 have hm:=may_of (c:=x.c) hz hb
 have h1:=sym_n hm
 have h2:=run_bd (symOps x.c z.sy) x.e
 have hl:(x.ap z.sy).2.1.length=St.size z.sy:=apply_len (by rw[he] at h;exact h) hm.kind
 refine⟨Nat.le_trans h2 (by omega),?_,size_le hz hb,by rw[he];exact hl⟩
 show(x.c.all++(x.ap z.sy).2.1).length=_
 rw[List.length_append,hl]
def Pz.cost(p:Pz):Nat:=11+p.raw.length+52*p.ys.length
def costs:List Pz→Nat
 |[]=>0
 |p::l=>p.cost+costs l
theorem puts_bd:∀(l:List Sz)(x:Xe)(n:Nat)(x':Xe)(m:Nat),(∀z ∈ l,z.byte<256)→putsZ l x n=.ok (x',m)→x'.e.k.s≤x.e.k.s+52*l.length∧x'.c.all.length≤x.c.all.length+273*l.length∧m≤n+273*l.length
 |[],x,n,x',m,hb,h=>by
   simp only[putsZ,Except.ok.injEq,Prod.mk.injEq] at h
   rw[←h.1,←h.2]
   simp
 |z::l,x,n,x',m,hb,h=>by
   rw[putsZ] at h
   by_cases h0:(x.apZ z).1=0
   ·rw[if_pos h0] at h
    obtain⟨a1,a2,a3,_⟩:=apZ_put h0 (hb z (List.mem_cons_self ..))
    obtain⟨b1,b2,b3⟩:=puts_bd l _ _ x' m (fun y hy=>hb y (List.mem_cons_of_mem _ hy)) h
    rw[List.length_cons]
    omega
   ·rw[if_neg h0] at h
    exact absurd h (by simp)
theorem bytes_n(k:K):k.bytes.length=k.s+5:=digs_len _ _
theorem head_n(h:Head):(headB h).length≤6:=by
 unfold headB
 split
 ·simp
 ·split
  ·simp
  ·split<;>simp
theorem part_bd{x:Xe}{p:Pz}{pr:Pi3}{b:List UInt8}{x2:Xe}(hb:∀z ∈ p.ys,z.byte<256)(hx:x.e.k=K.new)(h:partP x p pr=.ok (b,x2)):
 b.length≤p.cost∧x2.c.all.length≤x.c.all.length+p.raw.length+273*p.ys.length∧x2.e.k=K.new:=by
 have pack:∀(x1:Xe),x1.e.k=K.new→x1.c.all.length≤x.c.all.length→packP p.kind x1 p.ys pr=.ok (b,x2)→b.length≤p.cost∧x2.c.all.length≤x.c.all.length+p.raw.length+273*p.ys.length∧x2.e.k=K.new:=by
  intro x1 hk ha hm
  unfold packP at hm
  split at hm
  ·exact absurd hm (by simp)
  ·rename_i x3 n hps
   obtain⟨c1,c2,c3⟩:=puts_bd _ _ _ _ _ hb hps
   rw[hk] at c1
   split at hm
   ·simp only[Except.ok.injEq,Prod.mk.injEq] at hm
    rw[←hm.1,←hm.2,List.length_append]
    have hbn:=bytes_n x3.e.k
    have hh:=head_n (if p.kind<5 then⟨p.kind.toNat,n,x3.e.k.bytes.length,0,0,0⟩ else⟨p.kind.toNat,n,x3.e.k.bytes.length,pr.n.1,pr.n.2.1,pr.n.2.2⟩)
    have h0:K.new.s=0:=rfl
    unfold Pz.cost
    refine⟨by omega,?_,rfl⟩
    show x3.c.all.length≤_
    omega
   ·exact absurd hm (by simp)
 unfold partP at h
 simp only at h
 have hcl:x.clear.e.k=K.new:=rfl
 have hca:x.clear.c.all.length≤x.c.all.length:=Nat.zero_le _
 by_cases h2:p.kind≤2
 ·rw[if_pos h2] at h
  split at h
  ·simp only[Except.ok.injEq,Prod.mk.injEq] at h
   rw[←h.1,←h.2,List.length_append]
   have hh:=head_n ⟨p.kind.toNat,p.raw.length,p.raw.length,0,0,0⟩
   unfold Pz.cost
   by_cases h1:p.kind=1∨p.kind=6
   ·rw[if_pos h1]
    refine⟨by omega,?_,rfl⟩
    show(x.clear.c.all++p.raw).length≤_
    rw[List.length_append]
    omega
   ·rw[if_neg h1]
    refine⟨by omega,?_,hx⟩
    show(x.c.all++p.raw).length≤_
    rw[List.length_append]
    omega
  ·exact absurd h (by simp)
 ·rw[if_neg h2] at h
  by_cases hq:4≤p.kind∧pr.bad=true
  ·rw[if_pos hq] at h
   exact absurd h (by simp)
  ·rw[if_neg hq] at h
   refine pack _ ?_ ?_ h
   ·by_cases h4:4≤p.kind
    ·rw[if_pos h4]
     rfl
    ·rw[if_neg h4,if_neg (by omega)]
     exact hx
   ·by_cases h4:4≤p.kind
    ·rw[if_pos h4]
     by_cases h6:p.kind=1∨p.kind=6
     ·rw[if_pos h6]
      exact Nat.zero_le _
     ·rw[if_neg h6]
      exact Nat.le_refl _
    ·rw[if_neg h4,if_neg (by omega)]
     exact Nat.le_refl _
theorem build_bd:∀(l:List Pz)(now:Nat)(x:Xe)(pr:Pi3)(b:List UInt8),(∀p ∈ l,∀z ∈ p.ys,z.byte<256)→x.e.k=K.new→buildGo l now x pr=.ok b→b.length≤costs l
 |[],now,x,pr,b,hb,hx,h=>by
   simp only[buildGo,Except.ok.injEq] at h
   rw[←h]
   simp
 |p::l,now,x,pr,b,hb,hx,h=>by
   rw[buildGo] at h
   split at h
   ·exact absurd h (by simp)
   ·split at h
    ·exact absurd h (by simp)
    ·split at h
     ·exact absurd h (by simp)
     ·rename_i b1 x2 hpp
      obtain⟨c1,c2,c3⟩:=part_bd (hb p (List.mem_cons_self ..)) hx hpp
      split at h
      ·exact absurd h (by simp)
      ·rename_i t hbb
       have ih:=build_bd l _ x2 _ t (fun q hq=>hb q (List.mem_cons_of_mem _ hq)) c3 hbb
       simp only[Except.ok.injEq] at h
       rw[←h,List.length_append,costs]
       omega
theorem buildP_bd{dict:Int}{l:List Pz}{b:List UInt8}(hb:∀p ∈ l,∀z ∈ p.ys,z.byte<256)(h:buildP dict l=.ok b):b.length≤costs l+1:=by
 unfold buildP at h
 split at h
 ·exact absurd h (by simp)
 ·split at h
  ·exact absurd h (by simp)
  ·rename_i t hg
   simp only[Except.ok.injEq] at h
   have:=build_bd l 0 _ _ t hb rfl hg
   rw[←h,List.length_append]
   simp only[List.length_cons,List.length_nil]
   omega
theorem applyZ_len{size:Nat}{all:List UInt8}{s:S}{z:Sz}(h:(applyZ size all s z).1=0)(hb:z.byte<256):z.bad=0∧(applyZ size all s z).2.1.length≤273:=by
 unfold applyZ at*
 by_cases hz:z.bad=0
 ·rw[if_pos hz] at h ⊢
  refine⟨hz,?_⟩
  rw[apply_len h (may_of (c:=⟨0,0,0,S.new,0,[]⟩) hz hb).kind]
  exact size_le hz hb
 ·rw[if_neg hz] at h
  exact absurd h hz
theorem syms_bd(size:Nat):∀(l:List Sz)(all:List UInt8)(s:S)(r:List UInt8×List UInt8×S),(∀z ∈ l,z.byte<256)→symsGo size l all s=some r→r.1=all++r.2.1∧r.2.1.length≤273*l.length
 |[],all,s,r,hb,h=>by
   simp only[symsGo,Option.some.injEq] at h
   subst h
   simp
 |z::l,all,s,r,hb,h=>by
   rw[symsGo] at h
   by_cases h0:(applyZ size all s z).1=0
   ·rw[if_pos h0] at h
    have h1:=(applyZ_len h0 (hb z (List.mem_cons_self ..))).2
    cases hq:symsGo size l (all++(applyZ size all s z).2.1) (applyZ size all s z).2.2 with
    |none=>
      rw[hq] at h
      exact absurd h (by simp)
    |some q=>
      rw[hq] at h
      simp only[Option.map_some,Option.some.injEq] at h
      subst h
      obtain⟨a1,a2⟩:=syms_bd size l _ _ q (fun y hy=>hb y (List.mem_cons_of_mem _ hy)) hq
      simp only[List.length_append,List.length_cons]
      exact⟨by rw[a1,List.append_assoc],by omega⟩
   ·rw[if_neg h0] at h
    exact absurd h (by simp)
theorem mean_bd(size:Nat):∀(l:List Pz)(all:List UInt8)(s:S)(r:List UInt8×List (List Sz)),(∀p ∈ l,∀z ∈ p.ys,z.byte<256)→meanGo size l all s=some r→r.1.length≤6*costs l
 |[],all,s,r,hb,h=>by
   simp only[meanGo,Option.some.injEq] at h
   subst h
   simp
 |p::l,all,s,r,hb,h=>by
   have hb2:∀q ∈ l,∀z ∈ q.ys,z.byte<256:=fun q hq=>hb q (List.mem_cons_of_mem _ hq)
   rw[meanGo] at h
   rw[costs]
   unfold Pz.cost
   split at h
   ·cases hq:meanGo size l ((if p.kind=1∨p.kind=6 then[] else all)++p.raw) (if 4≤p.kind then S.new else s) with
    |none=>
      rw[hq] at h
      exact absurd h (by simp)
    |some q=>
      rw[hq] at h
      simp only[Option.map_some,Option.some.injEq] at h
      subst h
      have:=mean_bd size l _ _ q hb2 hq
      simp only[List.length_append]
      omega
   ·cases hs:symsGo size p.ys (if p.kind=1∨p.kind=6 then[] else all) (if 4≤p.kind then S.new else s) with
    |none=>
      rw[hs] at h
      exact absurd h (by simp)
    |some t=>
      rw[hs] at h
      simp only[Option.bind_some] at h
      cases hq:meanGo size l t.1 t.2.2 with
      |none=>
        rw[hq] at h
        exact absurd h (by simp)
      |some q=>
        rw[hq] at h
        simp only[Option.map_some,Option.some.injEq] at h
        subst h
        have h1:=mean_bd size l _ _ q hb2 hq
        have h2:=(syms_bd size _ _ _ _ (hb p (List.mem_cons_self ..)) hs).2
        simp only[List.length_append]
        omega
end En
end Go.Proofs.YtlgccpjccopdmaaGreatDoor
