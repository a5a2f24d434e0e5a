/- Part 40 of 53: lemmas of the last part, each under the conditions that it names. -/
import Derived.Deep.RegionHeld3
import Derived.Deep.DeepCutAuto
import Derived.Test.YtlgccpjccopdmaaGreatDoorP15
import Derived.Test.YtlgccpjccopdmaaGreatDoorP38
import Derived.Test.YtlgccpjccopdmaaGreatDoorP39
set_option linter.unusedVariables false
set_option linter.unusedSimpArgs false
set_option maxRecDepth 1500
set_option maxHeartbeats 8000000
namespace Go.Proofs.YtlgccpjccopdmaaGreatDoor
open Go.RowKit
namespace Pa
open Mem Win Ga Lz St En
def RowsZ(w0 w:World)(v:Value)(rs:List (List Sz)):Prop:=∃vs:List Value,Own 63 1 w0 w v rs.length vs∧vs.length=rs.length∧∀(i:Nat)(x:Value)(l:List Sz),vs[i]? =some x→rs[i]? =some l→RdZ w0 x l
theorem RowsZ.step{S:Nat→Prop}{w0 w w':World}{v:Value}{rs:List (List Sz)}(h:RowsZ w0 w v rs)(hfr:Fr S w w')(hS:∀k,v.ownBlock=some k→¬S k):RowsZ w0 w' v rs:=by
 obtain⟨vs,h1,h2,h3⟩:=h
 exact⟨vs,h1.step hfr hS,h2,h3⟩
theorem RowsZ.block{w0 w:World}{v:Value}{rs:List (List Sz)}(h:RowsZ w0 w v rs){k:Nat}(hk:v.ownBlock=some k):∃cur,w.heap[k]? =some (.cells cur 63 (0,0)):=by
 obtain⟨vs,h1,_⟩:=h
 exact h1.block hk
theorem RowsZ.snoc{w0 w':World}{v' x:Value}{rs:List (List Sz)}{vs:List Value}{l:List Sz}(h2:vs.length=rs.length)(h3:∀(i:Nat)(x:Value)(l:List Sz),vs[i]? =some x→rs[i]? =some l→RdZ w0 x l)(hx:RdZ w0 x l)(hown:Own 63 1 w0 w' v' (rs.length+1) (vs++#[x].toList)):RowsZ w0 w' v' (rs++[l]):=by
 refine⟨vs++[x],by rw[List.length_append];exact hown,by simp[h2],fun i y m hy hm=> ?_⟩
 by_cases hi:i<vs.length
 ·rw[List.getElem?_append_left hi] at hy
  rw[List.getElem?_append_left (by omega)] at hm
  exact h3 i y m hy hm
 ·have hi2:i=vs.length:=by
   have:=(List.getElem?_eq_some_iff.1 hy).1
   simp at this
   omega
  subst hi2
  rw[List.getElem?_append_right (Nat.le_refl _),Nat.sub_self] at hy
  rw[h2,List.getElem?_append_right (Nat.le_refl _),Nat.sub_self] at hm
  simp only[List.getElem?_cons_zero,Option.some.injEq] at hy hm
  subst hy hm
  exact hx
structure MI(w wr:World)(Bw Bs size:Nat)(all:List UInt8)(s:S)(ov:Value)(out:List UInt8)(gv:Value)(rs:List (List Sz)):Prop where
 fr:Fr (fun _=>False) w wr
 win:∃rv ring t,Win.At wr Bw rv size all ring t∧(∀k,rv.ownBlock=some k→w.heap.size≤k)∧(∀k,ov.ownBlock=some k→rv.ownBlock≠some k)
 bw:w.heap.size≤Bw
 bs:w.heap.size≤Bs
 st:wr.heap[Bs]? =some (.cells s.cells 71 (0,0))
 ok:s.Ok
 out:Mine w wr ov out
 rows:RowsZ w wr gv rs
theorem ne_of{w:World}{k j:Nat}{cs cs':Array Value}{t t':TypeId}{fr fr':Nat×Nat}(hk:w.heap[k]? =some (.cells cs t fr))(hj:w.heap[j]? =some (.cells cs' t' fr'))(h:t≠t'):¬k=j:=by
 intro e
 rw[e,hj] at hk
 simp only[Option.some.injEq,Obj.cells.injEq] at hk
 exact h hk.2.1.symm
section
variable {w wr wr':World}{Bw Bs size:Nat}{all out:List UInt8}{s:S}{ov gv:Value}{rs:List (List Sz)}
theorem mblock{v:Value}{xs:List UInt8}{w0 wx:World}(h:Mine w0 wx v xs){k:Nat}(hk:v.ownBlock=some k):∃cur,wx.heap[k]? =some (.cells cur 5 (0,0)):=(Own.of_mine h).block hk
theorem MI.keep(h:MI w wr Bw Bs size all s ov out gv rs)(hf:Fr (fun _=>False) wr wr'):MI w wr' Bw Bs size all s ov out gv rs:=by
 obtain⟨rv,ring,t,a,b,c⟩:=h.win
 exact⟨h.fr.trans hf,⟨rv,ring,t,a.keep hf (fun h=>h) (fun _ _ h=>h),b,c⟩,h.bw,h.bs,hf.keep h.st (fun h=>h),h.ok,h.out.keep hf,h.rows.step hf (fun _ _ h=>h)⟩
theorem MI.wind(h:MI w wr Bw Bs size all s ov out gv rs){rv:Value}{ring:List UInt8}{t:Nat}(a:Win.At wr Bw rv size all ring t)(b:∀k,rv.ownBlock=some k→w.heap.size≤k)(c:∀k,ov.ownBlock=some k→rv.ownBlock≠some k)
 (hf:Fr (fun k=>k=Bw∨rv.ownBlock=some k) wr wr'){all':List UInt8}{rv':Value}{ring':List UInt8}{t':Nat}(a':Win.At wr' Bw rv' size all' ring' t')(hn:∀k,rv'.ownBlock=some k→rv.ownBlock=some k∨wr.heap.size≤k):MI w wr' Bw Bs size all' s ov out gv rs:=by
 have hrb:∀k,rv.ownBlock=some k→∃cur,wr.heap[k]? =some (.cells cur 5 (0,0)):=fun k hk=>Lz.own_block a.own hk
 refine⟨h.fr.trans' hf (fun k hk e=> ?_),⟨rv',ring',t',a',fun k hk=> ?_,fun k hk e=> ?_⟩,h.bw,h.bs,hf.keep h.st (fun e=> ?_),h.ok,h.out.step hf (fun k hk e=> ?_),h.rows.step hf (fun k hk e=> ?_)⟩
 ·rcases e with e|e
  ·have:=h.bw;omega
  ·have:=b k e;omega
 ·exact(hn k hk).elim (b k) (fun e=>Nat.le_trans h.fr.size e)
 ·rcases hn k e with e|e
  ·exact c k hk e
  ·have:=(World.ownsRow.lt h.out.own k hk).2;omega
 ·rcases e with e|e
  ·exact ne_of h.st a.box (by decide) e
  ·obtain⟨cur,hc⟩:=hrb _ e
   exact ne_of h.st hc (by decide) rfl
 ·rcases e with e|e
  ·obtain⟨cur,hc⟩:=mblock h.out hk
   exact ne_of hc a.box (by decide) e
  ·exact c k hk e
 ·obtain⟨cur,hc⟩:=h.rows.block hk
  rcases e with e|e
  ·exact ne_of hc a.box (by decide) e
  ·obtain⟨cur2,hc2⟩:=hrb _ e
   exact ne_of hc hc2 (by decide) rfl
theorem MI.state(h:MI w wr Bw Bs size all s ov out gv rs){s':S}(hs:s'.Ok)(hf:Fr (fun k=>k=Bs) wr wr')(hst:wr'.heap[Bs]? =some (.cells s'.cells 71 (0,0))):MI w wr' Bw Bs size all s' ov out gv rs:=by
 obtain⟨rv,ring,t,a,b,c⟩:=h.win
 refine⟨h.fr.trans' hf (fun k hk(e:k=Bs)=>by have:=h.bs;omega),⟨rv,ring,t,a.keep hf (ne_of a.box h.st (by decide)) (fun k hk=> ?_),b,c⟩,h.bw,h.bs,hst,hs,h.out.step hf (fun k hk=> ?_),h.rows.step hf (fun k hk=> ?_)⟩
 ·obtain⟨cur,hc⟩:=Lz.own_block a.own hk
  exact ne_of hc h.st (by decide)
 ·obtain⟨cur,hc⟩:=mblock h.out hk
  exact ne_of hc h.st (by decide)
 ·obtain⟨cur,hc⟩:=h.rows.block hk
  exact ne_of hc h.st (by decide)
theorem MI.app(h:MI w wr Bw Bs size all s ov out gv rs){ov':Value}{out':List UInt8}(hf:Fr (fun k=>ov.ownBlock=some k) wr wr')(hm:Mine w wr' ov' out')(hn:∀k,ov'.ownBlock=some k→ov.ownBlock=some k∨wr.heap.size≤k):MI w wr' Bw Bs size all s ov' out' gv rs:=by
 obtain⟨rv,ring,t,a,b,c⟩:=h.win
 refine⟨h.fr.trans' hf (fun k hk e=>by have:=h.out.new k e;omega),⟨rv,ring,t,a.keep hf (fun e=> ?_) (fun k hk e=>c k e hk),b,fun k hk e=> ?_⟩,h.bw,h.bs,hf.keep h.st (fun e=> ?_),h.ok,hm,h.rows.step hf (fun k hk e=> ?_)⟩
 ·obtain⟨cur,hc⟩:=mblock h.out e
  exact ne_of hc a.box (by decide) rfl
 ·rcases hn k hk with e2|e2
  ·exact c k e2 e
  ·have:=(World.ownsRow.lt a.own k e).2;omega
 ·obtain⟨cur,hc⟩:=mblock h.out e
  exact ne_of hc h.st (by decide) rfl
 ·obtain⟨cur,hc⟩:=mblock h.out e
  obtain⟨cur2,hc2⟩:=h.rows.block hk
  exact ne_of hc hc2 (by decide) rfl
theorem MI.row(h:MI w wr Bw Bs size all s ov out gv rs){gv':Value}{rs':List (List Sz)}(hf:Fr (fun k=>gv.ownBlock=some k) wr wr')(hm:RowsZ w wr' gv' rs'):MI w wr' Bw Bs size all s ov out gv' rs':=by
 obtain⟨rv,ring,t,a,b,c⟩:=h.win
 refine⟨h.fr.trans' hf (fun k hk e=> ?_),⟨rv,ring,t,a.keep hf (fun e=> ?_) (fun k hk e=> ?_),b,c⟩,h.bw,h.bs,hf.keep h.st (fun e=> ?_),h.ok,h.out.step hf (fun k hk e=> ?_),hm⟩
 ·obtain⟨vs,h1,_⟩:=h.rows
  have:=h1.new k e
  omega
 ·obtain⟨cur,hc⟩:=h.rows.block e
  exact ne_of hc a.box (by decide) rfl
 ·obtain⟨cur,hc⟩:=h.rows.block e
  obtain⟨cur2,hc2⟩:=Lz.own_block a.own hk
  exact ne_of hc hc2 (by decide) rfl
 ·obtain⟨cur,hc⟩:=h.rows.block e
  exact ne_of hc h.st (by decide) rfl
 ·obtain⟨cur,hc⟩:=h.rows.block e
  obtain⟨cur2,hc2⟩:=mblock h.out hk
  exact ne_of hc hc2 (by decide) rfl
end
end Pa
namespace Pa
open Mem Win Ga Lz St En
theorem mean_raw{size:Nat}{p:Pz}{l:List Pz}{all:List UInt8}{s:S}{r:List UInt8×List (List Sz)}(h:meanGo size (p::l) all s=some r)(h2:p.kind≤2):
 ∃r',meanGo size l ((if p.kind=1∨p.kind=6 then[] else all)++p.raw) (if 4≤p.kind then S.new else s)=some r'∧r=(p.raw++r'.1,[]::r'.2):=by
 rw[meanGo,if_pos h2] at h
 cases hq:meanGo size l ((if p.kind=1∨p.kind=6 then[] else all)++p.raw) (if 4≤p.kind then S.new else s) with
 |none=>rw[hq] at h;exact absurd h (by simp)
 |some q=>
   rw[hq] at h
   simp only[Option.map_some,Option.some.injEq] at h
   exact⟨q,rfl,h.symm⟩
theorem mean_sym{size:Nat}{p:Pz}{l:List Pz}{all:List UInt8}{s:S}{r:List UInt8×List (List Sz)}(h:meanGo size (p::l) all s=some r)(h2:¬p.kind≤2):
 ∃T r',symsGo size p.ys (if p.kind=1∨p.kind=6 then[] else all) (if 4≤p.kind then S.new else s)=some T∧meanGo size l T.1 T.2.2=some r'∧r=(T.2.1++r'.1,p.ys::r'.2):=by
 rw[meanGo,if_neg h2] at h
 cases hs:symsGo size p.ys (if p.kind=1∨p.kind=6 then[] else all) (if 4≤p.kind then S.new else s) with
 |none=>rw[hs] at h;exact absurd h (by simp)
 |some T=>
   rw[hs] at h
   simp only[Option.bind_some] at h
   cases hq:meanGo size l T.1 T.2.2 with
   |none=>rw[hq] at h;exact absurd h (by simp)
   |some q=>
     rw[hq] at h
     simp only[Option.map_some,Option.some.injEq] at h
     exact⟨T,q,rfl,hq,h.symm⟩
theorem syms_cons{size:Nat}{z:Sz}{l:List Sz}{all:List UInt8}{s:S}{T:List UInt8×List UInt8×S}(h:symsGo size (z::l) all s=some T):
 (applyZ size all s z).1=0∧∃T',symsGo size l (all++(applyZ size all s z).2.1) (applyZ size all s z).2.2=some T'∧T=(T'.1,(applyZ size all s z).2.1++T'.2.1,T'.2.2):=by
 rw[symsGo] at h
 by_cases h0:(applyZ size all s z).1=0
 ·rw[if_pos h0] at h
  cases hq:symsGo size l (all++(applyZ size all s z).2.1) (applyZ size all s z).2.2 with
  |none=>rw[hq] at h;exact absurd h (by simp)
  |some q=>
    rw[hq] at h
    simp only[Option.map_some,Option.some.injEq] at h
    exact⟨h0,q,rfl,h.symm⟩
 ·rw[if_neg h0] at h
  exact absurd h (by simp)
theorem applyZ_ok{size:Nat}{all:List UInt8}{s:S}{z:Sz}(h0:(applyZ size all s z).1=0)(hs:s.Ok):(applyZ size all s z).2.2.Ok:=by
 have hz:z.bad=0:=by
  unfold applyZ at h0
  by_cases hz:z.bad=0
  ·exact hz
  ·rw[if_neg hz] at h0
   exact h0
 unfold applyZ at h0 ⊢
 rw[if_pos hz] at h0 ⊢
 exact apply_ok h0 hs
theorem done_new'{w W2 wx wy:World}{B size g:Nat}{rv v:Value}{all bytes:List UInt8}(hF:Fr (fun _=>False) w W2)(h:Done W2 B size rv all bytes v wx)(hch:Fr (fun k=>k=g) wx wy)(hg0:w.heap.size≤g)(hg1:g<W2.heap.size∨wx.heap.size≤g)(hB:B<w.heap.size)(hrv:∀k,rv.ownBlock=some k→k<w.heap.size):Done w B size rv all bytes v wy:=by
 rcases hg1 with hg1|hg1
 ·exact h.fin hF hch hg0 hg1 hB hrv
 ·obtain⟨h1,h2,rv',ring',t',h3,h4,h5⟩:=h
  have hs:=hF.size
  refine⟨((hF.mono (fun _ _ h=>h.elim)).trans h1).trans' hch (fun i hi(e:i=g)=>by omega),⟨(h2.step hch (fun k hk(e:k=g)=>by have:=(World.ownsRow.lt h2.own k hk).2;omega)).own,fun k hk=>Nat.le_trans hs (h2.new k hk)⟩,rv',ring',t',h3.keep hch (fun(e:B=g)=>by omega) (fun k hk(e:k=g)=> ?_),fun k hk=>(h4 k hk).imp id (Nat.le_trans hs),h5⟩
  have:=(World.ownsRow.lt h3.own k hk).2
  omega
theorem new5(w:World):Calls Tryz.prog 25 #[] w fun e w'=>e=.returned (.agg #[.int .i64 0,.int .i64 1,.int .i64 1,.int .i64 1,.int .i64 1])∧Fr (fun _=>False) w w':=St.new_calls w
def MRel(size:Nat)(l:List Pz)(w:World)(want:List UInt8)(rows:List (List Sz))(Bw Bs:Nat)(ov gv i:Value)(wr:World):Prop:=
 ∃k all out rs s r,k≤l.length∧i=.int .i64 (k:Nat)∧MI w wr Bw Bs size all s ov out gv rs∧meanGo size (l.drop k) all s=some r∧want=out++r.1∧rows=rs++r.2∧all.length≤out.length
def NRel(size:Nat)(ys:List Sz)(w:World)(T:List UInt8×List UInt8×S)(out:List UInt8)(gv:Value)(rs:List (List Sz))(Bw Bs bq:Nat)(qc:Array Value)(ov j:Value)(wr:World):Prop:=
 ∃k all s made r,k≤ys.length∧j=.int .i64 (k:Nat)∧MI w wr Bw Bs size all s ov (out++made) gv rs∧symsGo size (ys.drop k) all s=some r∧T=(r.1,made++r.2.1,r.2.2)∧all.length≤(out++made).length∧wr.heap[bq]? =some (.cells qc 108 (0,0))
theorem rdz_nil(w:World):RdZ w (.slice none 0 0) []:=⟨none,0,rfl,by simp,by simp[maxLen],by simp⟩
theorem drop_cons{α:Type}{l:List α}{k:Nat}{a:α}(h:l[k]? =some a):l.drop k=a::l.drop (k+1):=by
 obtain⟨hk,rfl⟩:=List.getElem?_eq_some_iff.1 h
 exact List.drop_eq_getElem_cons hk
set_option maxRecDepth 100000 in
theorem meaning_calls(size:Nat)(l:List Pz)(lv:Value)(w:World)(hT:Tabs w)(hr:RdP w lv l)(hwf:∀p ∈ l,p.Wf)(hk:∀p ∈ l,1≤p.kind∧p.kind≤6)(hd:1≤size∧size≤4294967295)(hl:l.length≤1048576)(hy:∀p ∈ l,p.ys.length≤1048576)
    (want:List UInt8)(rows:List (List Sz))(hm:meanGo size l [] S.new=some (want,rows))(hw:want.length≤70000000000)(hrw:rows.length≤1048576):
    Calls Tryz.prog 20 #[.int .i64 size,lv] w fun e w'=>Fr (fun _=>False) w w'∧∃ov gv,e=.returned (.tuple #[ov,gv,.bool true])∧Mine w w' ov want∧RowsZ w w' gv rows:=by
  obtain⟨p0,cap0,rfl,_,_⟩:=hr.slice
  obtain⟨n,hn⟩:∃n,n=l.length:=⟨_,rfl⟩
  have HT:=Hd hT
  have HR:=Hd hr
  have HWF:=Hd hwf
  have HK:=Hd hk
  have HL:=Hd hl
  have HY:=Hd hy
  have HM:=Hd hm
  have HW:=Hd hw
  have HRWL:=Hd hrw
  have HN:=Hd hn
  have hsz:0<size:=by omega
  have hsz2:=hd.2
  rw[←hn] at HR ⊢
  clear hT hr hwf hk hl hy hm hw hrw hd hn
  have HNW:=Hd (Win.new_in size w hsz hsz2)
  go_enter Tryz.func20,Tryz.ntmps20
  go_wp2_with fail
  refine HNW.out.mono ?_
  rintro e w1 ⟨rfl,hf1,hW1⟩
  have HF1:=Hd hf1
  have HW1:=Hd hW1
  clear hf1 hW1
  go_wp2_with fail
  refine(new5 w1).mono ?_
  rintro e w2 ⟨rfl,hf2⟩
  have hfa:=(Fr.refl (fun _=>False) w2).alloc (.cells #[.int .i64 0,.int .i64 1,.int .i64 1,.int .i64 1,.int .i64 1] 71)
  have hF:=(HF1.out.trans hf2).trans hfa
  have HM0:=Hd (show MI w (w2.alloc (.cells #[.int .i64 0,.int .i64 1,.int .i64 1,.int .i64 1,.int .i64 1] 71)) w.heap.size w2.heap.size size [] S.new (.slice none 0 0) [] (.slice none 0 0) [] from
    ⟨hF,⟨_,_,_,HW1.out.keep (hf2.trans hfa) (fun h=>h) (fun _ _ h=>h),fun k hk=>by simp[Value.ownBlock] at hk,fun k hk=>by simp[Value.ownBlock] at hk⟩,Nat.le_refl _,Nat.le_trans HF1.out.size hf2.size,heap_alloc_new _ _,S.new_ok,Mine.nil _ _,⟨[],Own.nil _ _ _ _,rfl,fun i x l h=>by simp at h⟩⟩)
  have HF2:=Hd hf2
  have HBS:=Hd (show w.heap.size≤w2.heap.size from Nat.le_trans HF1.out.size hf2.size)
  clear hf2 hfa hF
  go_wp2_with fail
  generalize hBs:w2.heap.size=Bs at*
  have HBSE:=Hd hBs
  clear hBs
  go_loopw [9,10,12] (fun ov gv i wr=>MRel size l w want rows w.heap.size Bs ov gv i wr) (fun _ _ i _=>n-(intOf i).toNat)
  case atStart=>
    exact⟨0,[],[],[],S.new,(want,rows),Nat.zero_le _,rfl,HM0.out,HM.out,rfl,rfl,Nat.le_refl _⟩
  case round=>
    obtain⟨k,all,out,rs,s,r,hkn,rfl,hI,hmean,hwant,hrows,hle⟩:=hrel
    have hn0:(n:Int)≤1048576:=by have:=HN.out;have:=HL.out;omega
    by_cases hlt:k<n
    · obtain⟨q,hq⟩:∃q,l[k]? =some q:=⟨l[k]'(HN.out ▸ hlt),List.getElem?_eq_getElem (HN.out ▸ hlt)⟩
      rw[drop_cons hq] at hmean
      have hkk:=HK.out q (List.mem_of_getElem? hq)
      have hby:=(HWF.out q (List.mem_of_getElem? hq)).byte
      have hyl:=HY.out q (List.mem_of_getElem? hq)
      obtain⟨b,o,rfl,c0,c1,c2,c3,sv,rvv,c4,c5,hz,hrd⟩:=(HR.out).at hq
      have c0:=cell_keep c0 hI.fr
      have c1:=cell_keep c1 hI.fr
      have c2:=cell_keep c2 hI.fr
      have c3:=cell_keep c3 hI.fr
      have c4:=cell_keep c4 hI.fr
      have c5:=cell_keep c5 hI.fr
      obtain⟨kind,lc,lp,pb,raw,ys⟩:=q
      simp only at c0 c1 c2 c3 hz hrd hkk hby hyl
      obtain⟨sp,sc,rfl,_,_⟩:=hz.slice
      have hrd0:=hrd
      obtain⟨rp,rc,rfl,_⟩:=hrd0
      have hidx:(k:Int)<n:=by omega
      have HZ:=Hd hz
      have HRD:=Hd hrd
      have HBY:=Hd hby
      have HYL:=Hd hyl
      have HI:=Hd hI
      have HWT:=Hd hwant
      have HRW:=Hd hrows
      have HLE:=Hd hle
      have HKN:=Hd hkn
      clear hz hrd hby hyl hI hwant hrows hle hq
      obtain rfl|rfl|hk3:kind=1∨kind=2∨3≤kind:=by omega
      · have hfq:=(Fr.refl (fun _=>False) wr).alloc (.cells #[.int .i64 1,.int .i64 lc,.int .i64 lp,.int .i64 pb,.slice sp ys.length sc,.slice rp raw.length rc] 108)
        have HBQ0:=Hd (heap_alloc_new wr (.cells #[.int .i64 1,.int .i64 lc,.int .i64 lp,.int .i64 pb,.slice sp ys.length sc,.slice rp raw.length rc] 108))
        have HIQ:=Hd (HI.out.keep hfq)
        clear hfq
        obtain⟨rv,ring,t,hAt,hb1,hb2⟩:=HIQ.out.win
        have HCL:=Hd (Win.clear_calls w.heap.size size t rv all ring _ hAt)
        go_wp2_with fail
        refine HCL.out.mono ?_
        rintro e w3 ⟨rfl,hf3,hA3⟩
        have hf3':=hf3.mono (T:=fun k=>k=w.heap.size∨rv.ownBlock=some k) (fun _ _ h=>.inl h)
        have HMW:=Hd (HIQ.out.wind hAt hb1 hb2 hf3' hA3 (fun k hk=>by simp[Value.ownBlock] at hk))
        have hbq:=hf3.keep HBQ0.out (ne_of HBQ0.out hAt.box (by decide))
        clear hf3 hf3' hA3 hAt hb1 hb2 HCL
        have HBQ:=Hd hbq
        have g0:=cell_in (i:=0) hbq rfl
        have g5:=cell_in (i:=5) hbq rfl
        obtain⟨r',hmean',rfl⟩:=mean_raw hmean (show(1:Int)≤2 by decide)
        have HMEAN:=Hd hmean'
        obtain⟨rv,ring,t,hAt,hb1,hb2⟩:=HMW.out.win
        have hraw:(([]:List UInt8)).length+raw.length≤70000000000:=by
          have h1:=HW.out
          have h2:=HLE.out
          rw[HWT.out] at h1
          simp only[List.length_append,List.length_nil] at h1 ⊢
          omega
        have hrawo:out.length+raw.length≤70000000000:=by
          have h1:=HW.out
          rw[HWT.out] at h1
          simp only[List.length_append] at h1
          omega
        have HRAWO:=Hd hrawo
        have HONEC:=Hd (show∀u ∈ (#[Value.slice none 0 0]:Array Value).toList,u.oneCell'=true from by simp[Value.oneCell'])
        have HRSB:=Hd (show rs.length≤1099511627776 from by have h1:=congrArg List.length HRW.out;have h2:=HRWL.out;simp only[List.length_append] at h1;omega)
        have HPUT:=Hd (Win.put_calls w.heap.size size t rv (.slice rp raw.length rc) ([]:List UInt8) ring raw _ hAt (HRD.out.keep HMW.out.fr) (fun h0 k hk e=>by have:=rd_lt HRD.out h0 k hk;have:=hb1 k e;omega) (by omega))
        clear hbq hmean hmean' hraw hrawo
        go_wp2_with fail
        refine HPUT.out.mono ?_
        rintro e w4 ⟨rfl,rv',ring',t',hf4,hA4,hn4⟩
        have HM4:=Hd (HMW.out.wind hAt hb1 hb2 hf4 hA4 hn4)
        have hbq4:=hf4.keep HBQ.out (fun e=>e.elim (fun e=>ne_of HBQ.out hAt.box (by decide) e) (fun e=>by obtain⟨cur,hc⟩:=Lz.own_block hAt.own e;exact ne_of HBQ.out hc (by decide) rfl))
        have z5:=cell_in (i:=5) hbq4 rfl
        clear hf4 hA4 hn4 hAt hb1 hb2 HPUT hbq4
        go_wp2_with (first
          | (at_builtin
             refine append_mine rfl _ _ rfl (w0:=w) u9 (.slice rp raw.length rc) out raw rfl rfl HM4.out.out HM4.out.fr.size (HRD.out.keep HM4.out.fr) (by have:=HRAWO.out;omega) ?_
             intro p5 cap5 n5 w5 hn5 hM5 hfr5 hnew5
             have HM5:=Hd ((HM4.out.app hfr5 hM5 hnew5).keep ((Fr.refl (fun _=>False) w5).alloc (.cells #[.slice none 0 0] 63)))
             obtain⟨vs,hO,hvl,hvr⟩:=HM5.out.rows
             have HO:=Hd hO
             have HVL:=Hd hvl
             have HVR:=Hd hvr
             have HONE:=Hd (heap_alloc_new w5 (.cells #[.slice none 0 0] 63))
             clear hn5 hM5 hfr5 hnew5 hO hvl hvr)
          | (at_builtin
             refine append_own (T:=63) (t:=57) (z:=1) (bytes:=24) (n:=rs.length) (zero:=.slice none 0 0) rfl _ _ rfl Tryz.underlying57 infoRow rfl Nat.one_pos (of_decide_eq_true rfl) (w0:=w) u10 vs #[.slice none 0 0] w5.heap.size rfl rfl HO.out HM5.out.fr.size HONE.out rfl HONEC.out HRSB.out ?_
             intro gv6 w6 hO6 hfr6 hnew6
             have HM6:=Hd (HM5.out.row hfr6 (RowsZ.snoc HVL.out HVR.out (rdz_nil w) hO6))
             clear hO6 hfr6 hnew6))
        go_roundw
        case rel=>exact⟨k+1,_,_,_,_,r',by have:=HN.out;omega,by go_num,HM6.out,HMEAN.out,by rw[HWT.out,List.append_assoc],by rw[HRW.out];simp,by have:=HLE.out;simp only[List.length_append,List.length_nil] at this ⊢;omega⟩
        case measure=>simp[intOf];omega
      · have hfq:=(Fr.refl (fun _=>False) wr).alloc (.cells #[.int .i64 2,.int .i64 lc,.int .i64 lp,.int .i64 pb,.slice sp ys.length sc,.slice rp raw.length rc] 108)
        have HBQ0:=Hd (heap_alloc_new wr (.cells #[.int .i64 2,.int .i64 lc,.int .i64 lp,.int .i64 pb,.slice sp ys.length sc,.slice rp raw.length rc] 108))
        have HIQ:=Hd (HI.out.keep hfq)
        clear hfq
        go_wp2_with fail
        have HMW:=HIQ
        have hbq:=HBQ0.out
        have HBQ:=Hd hbq
        have g0:=cell_in (i:=0) hbq rfl
        have g5:=cell_in (i:=5) hbq rfl
        obtain⟨r',hmean',rfl⟩:=mean_raw hmean (show(2:Int)≤2 by decide)
        have HMEAN:=Hd hmean'
        obtain⟨rv,ring,t,hAt,hb1,hb2⟩:=HMW.out.win
        have hraw:(all).length+raw.length≤70000000000:=by
          have h1:=HW.out
          have h2:=HLE.out
          rw[HWT.out] at h1
          simp only[List.length_append,List.length_nil] at h1 ⊢
          omega
        have hrawo:out.length+raw.length≤70000000000:=by
          have h1:=HW.out
          rw[HWT.out] at h1
          simp only[List.length_append] at h1
          omega
        have HRAWO:=Hd hrawo
        have HONEC:=Hd (show∀u ∈ (#[Value.slice none 0 0]:Array Value).toList,u.oneCell'=true from by simp[Value.oneCell'])
        have HRSB:=Hd (show rs.length≤1099511627776 from by have h1:=congrArg List.length HRW.out;have h2:=HRWL.out;simp only[List.length_append] at h1;omega)
        have HPUT:=Hd (Win.put_calls w.heap.size size t rv (.slice rp raw.length rc) all ring raw _ hAt (HRD.out.keep HMW.out.fr) (fun h0 k hk e=>by have:=rd_lt HRD.out h0 k hk;have:=hb1 k e;omega) (by omega))
        clear hbq hmean hmean' hraw hrawo
        go_wp2_with fail
        refine HPUT.out.mono ?_
        rintro e w4 ⟨rfl,rv',ring',t',hf4,hA4,hn4⟩
        have HM4:=Hd (HMW.out.wind hAt hb1 hb2 hf4 hA4 hn4)
        have hbq4:=hf4.keep HBQ.out (fun e=>e.elim (fun e=>ne_of HBQ.out hAt.box (by decide) e) (fun e=>by obtain⟨cur,hc⟩:=Lz.own_block hAt.own e;exact ne_of HBQ.out hc (by decide) rfl))
        have z5:=cell_in (i:=5) hbq4 rfl
        clear hf4 hA4 hn4 hAt hb1 hb2 HPUT hbq4
        go_wp2_with (first
          | (at_builtin
             refine append_mine rfl _ _ rfl (w0:=w) u9 (.slice rp raw.length rc) out raw rfl rfl HM4.out.out HM4.out.fr.size (HRD.out.keep HM4.out.fr) (by have:=HRAWO.out;omega) ?_
             intro p5 cap5 n5 w5 hn5 hM5 hfr5 hnew5
             have HM5:=Hd ((HM4.out.app hfr5 hM5 hnew5).keep ((Fr.refl (fun _=>False) w5).alloc (.cells #[.slice none 0 0] 63)))
             obtain⟨vs,hO,hvl,hvr⟩:=HM5.out.rows
             have HO:=Hd hO
             have HVL:=Hd hvl
             have HVR:=Hd hvr
             have HONE:=Hd (heap_alloc_new w5 (.cells #[.slice none 0 0] 63))
             clear hn5 hM5 hfr5 hnew5 hO hvl hvr)
          | (at_builtin
             refine append_own (T:=63) (t:=57) (z:=1) (bytes:=24) (n:=rs.length) (zero:=.slice none 0 0) rfl _ _ rfl Tryz.underlying57 infoRow rfl Nat.one_pos (of_decide_eq_true rfl) (w0:=w) u10 vs #[.slice none 0 0] w5.heap.size rfl rfl HO.out HM5.out.fr.size HONE.out rfl HONEC.out HRSB.out ?_
             intro gv6 w6 hO6 hfr6 hnew6
             have HM6:=Hd (HM5.out.row hfr6 (RowsZ.snoc HVL.out HVR.out (rdz_nil w) hO6))
             clear hO6 hfr6 hnew6))
        go_roundw
        case rel=>exact⟨k+1,_,_,_,_,r',by have:=HN.out;omega,by go_num,HM6.out,HMEAN.out,by rw[HWT.out,List.append_assoc],by rw[HRW.out];simp,by have:=HLE.out;simp only[List.length_append,List.length_nil] at this ⊢;omega⟩
        case measure=>simp[intOf];omega
      · obtain hq3|hq4|hq6:kind=3∨(kind=4∨kind=5)∨kind=6:=by omega
        focus
          subst hq3
          have hfq:=(Fr.refl (fun _=>False) wr).alloc (.cells #[.int .i64 3,.int .i64 lc,.int .i64 lp,.int .i64 pb,.slice sp ys.length sc,.slice rp raw.length rc] 108)
          have HBQ0:=Hd (heap_alloc_new wr (.cells #[.int .i64 3,.int .i64 lc,.int .i64 lp,.int .i64 pb,.slice sp ys.length sc,.slice rp raw.length rc] 108))
          have HIQ:=Hd (HI.out.keep hfq)
          clear hfq
          go_wp2_with fail
          have HMW:=HIQ
          have hbq:=HBQ0.out
          generalize hW3:wr.alloc (.cells #[.int .i64 3,.int .i64 lc,.int .i64 lp,.int .i64 pb,.slice sp ys.length sc,.slice rp raw.length rc] 108)=w3 at*
          have HBQ:=Hd hbq
          obtain⟨T,r',hsyms,hmean',rfl⟩:=mean_sym hmean (show¬(3:Int)≤2 by omega)
          have hsyms:symsGo size ys all s=some T:=hsyms
          have HMEAN:=Hd hmean'
          have hall:(all).length≤out.length:=by have:=HLE.out;simp only[List.length_nil] at*;omega
          have HSY:=Hd hsyms
          have HALL:=Hd hall
          obtain⟨al1,hal⟩:∃al1,al1=all:=⟨_,rfl⟩
          obtain⟨s1,hs1⟩:∃s1,s1=s:=⟨_,rfl⟩
          rw[←hal] at HALL
          rw[←hal,←hs1] at HMW HSY
          obtain⟨kind,hkind⟩:∃kd:Int,kd=3:=⟨_,rfl⟩
          rw[←hkind] at HBQ
          clear hkind hbq hmean hmean' hall hsyms hal hs1
        rotate_left
        focus
          have t1:(kind==1)=false:=by simp;omega
          have t2:decide (kind≤2)=false:=decide_eq_false (by omega)
          have t6:(kind==6)=false:=by simp;try omega
          have t4:decide (kind≥4)=true:=by simp;try omega
          have t4':decide ((4:Int)≤kind)=true:=by simp;try omega
          have hfq:=(Fr.refl (fun _=>False) wr).alloc (.cells #[.int .i64 kind,.int .i64 lc,.int .i64 lp,.int .i64 pb,.slice sp ys.length sc,.slice rp raw.length rc] 108)
          have HBQ0:=Hd (heap_alloc_new wr (.cells #[.int .i64 kind,.int .i64 lc,.int .i64 lp,.int .i64 pb,.slice sp ys.length sc,.slice rp raw.length rc] 108))
          have HIQ:=Hd (HI.out.keep hfq)
          clear hfq
          go_wp2_with fail
          have HMW:=HIQ
          have hbq:=HBQ0.out
          refine(new5 _).mono ?_
          rintro e w4 ⟨rfl,hf4⟩
          have hm4:=HMW.out.keep hf4
          have hst4:=hm4.st
          have yf:=fun i=>frozen_in hst4 i
          obtain⟨y0,y1,y2,y3,y4⟩:=cs5 hst4 rfl rfl rfl rfl rfl
          have hbq4:=hf4.keep hbq (fun h=>h)
          have hf5:Fr (fun k=>k=Bs) w4 (((((w4.setCell ⟨Bs,0,none⟩ (.int .i64 0)).setCell ⟨Bs,1,none⟩ (.int .i64 1)).setCell ⟨Bs,2,none⟩ (.int .i64 1)).setCell ⟨Bs,3,none⟩ (.int .i64 1)).setCell ⟨Bs,4,none⟩ (.int .i64 1)):=((((Fr.one _ _ _ _).trans (Fr.one _ _ _ _)).trans (Fr.one _ _ _ _)).trans (Fr.one _ _ _ _)).trans (Fr.one _ _ _ _)
          have hst5:=set_in (set_in (set_in (set_in (set_in hst4 0 (.int .i64 0)) 1 (.int .i64 1)) 2 (.int .i64 1)) 3 (.int .i64 1)) 4 (.int .i64 1)
          have HMW:=Hd (show MI w (((((w4.setCell ⟨Bs,0,none⟩ (.int .i64 0)).setCell ⟨Bs,1,none⟩ (.int .i64 1)).setCell ⟨Bs,2,none⟩ (.int .i64 1)).setCell ⟨Bs,3,none⟩ (.int .i64 1)).setCell ⟨Bs,4,none⟩ (.int .i64 1)) w.heap.size Bs size (all) S.new u9 out u10 rs from hm4.state S.new_ok hf5 hst5)
          have hbq:=hf5.keep hbq4 (ne_of hbq4 hst4 (by decide))
          have q0:=cell_in (i:=0) hbq rfl
          clear hm4 hst4 hbq4 hf5 hst5 hf4
          have HBQ:=Hd hbq
          obtain⟨T,r',hsyms,hmean',rfl⟩:=mean_sym hmean (show¬(kind:Int)≤2 by omega)
          simp only at hsyms
          rw[if_neg (show¬(kind=1∨kind=6) by omega),if_pos (show 4≤kind by omega)] at hsyms
          have HMEAN:=Hd hmean'
          have hall:(all).length≤out.length:=by have:=HLE.out;simp only[List.length_nil] at*;omega
          have HSY:=Hd hsyms
          have HALL:=Hd hall
          obtain⟨al1,hal⟩:∃al1,al1=all:=⟨_,rfl⟩
          obtain⟨s1,hs1⟩:∃s1,s1=S.new:=⟨_,rfl⟩
          rw[←hal] at HALL
          rw[←hal,←hs1] at HMW HSY
          clear hbq hmean hmean' hall hsyms hal hs1
        rotate_left
        focus
          subst hq6
          have hfq:=(Fr.refl (fun _=>False) wr).alloc (.cells #[.int .i64 6,.int .i64 lc,.int .i64 lp,.int .i64 pb,.slice sp ys.length sc,.slice rp raw.length rc] 108)
          have HBQ0:=Hd (heap_alloc_new wr (.cells #[.int .i64 6,.int .i64 lc,.int .i64 lp,.int .i64 pb,.slice sp ys.length sc,.slice rp raw.length rc] 108))
          have HIQ:=Hd (HI.out.keep hfq)
          clear hfq
          obtain⟨rv,ring,t,hAt,hb1,hb2⟩:=HIQ.out.win
          have HCL:=Hd (Win.clear_calls w.heap.size size t rv all ring _ hAt)
          go_wp2_with fail
          refine HCL.out.mono ?_
          rintro e w3 ⟨rfl,hf3,hA3⟩
          have hf3':=hf3.mono (T:=fun k=>k=w.heap.size∨rv.ownBlock=some k) (fun _ _ h=>.inl h)
          have HMW:=Hd (HIQ.out.wind hAt hb1 hb2 hf3' hA3 (fun k hk=>by simp[Value.ownBlock] at hk))
          have hbq:=hf3.keep HBQ0.out (ne_of HBQ0.out hAt.box (by decide))
          clear hf3 hf3' hA3 hAt hb1 hb2 HCL
          have g0:=cell_in (i:=0) hbq rfl
          go_wp2_with fail
          refine(new5 _).mono ?_
          rintro e w4 ⟨rfl,hf4⟩
          have hm4:=HMW.out.keep hf4
          have hst4:=hm4.st
          have yf:=fun i=>frozen_in hst4 i
          obtain⟨y0,y1,y2,y3,y4⟩:=cs5 hst4 rfl rfl rfl rfl rfl
          have hbq4:=hf4.keep hbq (fun h=>h)
          have hf5:Fr (fun k=>k=Bs) w4 (((((w4.setCell ⟨Bs,0,none⟩ (.int .i64 0)).setCell ⟨Bs,1,none⟩ (.int .i64 1)).setCell ⟨Bs,2,none⟩ (.int .i64 1)).setCell ⟨Bs,3,none⟩ (.int .i64 1)).setCell ⟨Bs,4,none⟩ (.int .i64 1)):=((((Fr.one _ _ _ _).trans (Fr.one _ _ _ _)).trans (Fr.one _ _ _ _)).trans (Fr.one _ _ _ _)).trans (Fr.one _ _ _ _)
          have hst5:=set_in (set_in (set_in (set_in (set_in hst4 0 (.int .i64 0)) 1 (.int .i64 1)) 2 (.int .i64 1)) 3 (.int .i64 1)) 4 (.int .i64 1)
          have HMW:=Hd (show MI w (((((w4.setCell ⟨Bs,0,none⟩ (.int .i64 0)).setCell ⟨Bs,1,none⟩ (.int .i64 1)).setCell ⟨Bs,2,none⟩ (.int .i64 1)).setCell ⟨Bs,3,none⟩ (.int .i64 1)).setCell ⟨Bs,4,none⟩ (.int .i64 1)) w.heap.size Bs size (([]:List UInt8)) S.new u9 out u10 rs from hm4.state S.new_ok hf5 hst5)
          have hbq:=hf5.keep hbq4 (ne_of hbq4 hst4 (by decide))
          have q0:=cell_in (i:=0) hbq rfl
          clear hm4 hst4 hbq4 hf5 hst5 hf4
          have HBQ:=Hd hbq
          obtain⟨T,r',hsyms,hmean',rfl⟩:=mean_sym hmean (show¬(6:Int)≤2 by omega)
          have hsyms:symsGo size ys ([]:List UInt8) S.new=some T:=hsyms
          have HMEAN:=Hd hmean'
          have hall:(([]:List UInt8)).length≤out.length:=by have:=HLE.out;simp only[List.length_nil] at*;omega
          have HSY:=Hd hsyms
          have HALL:=Hd hall
          obtain⟨al1,hal⟩:∃al1,al1=([]:List UInt8):=⟨_,rfl⟩
          obtain⟨s1,hs1⟩:∃s1,s1=S.new:=⟨_,rfl⟩
          rw[←hal] at HALL
          rw[←hal,←hs1] at HMW HSY
          obtain⟨kind,hkind⟩:∃kd:Int,kd=6:=⟨_,rfl⟩
          rw[←hkind] at HBQ
          clear hkind hbq hmean hmean' hall hsyms hal hs1
        rotate_left
        all_goals
          have HRSB:=Hd (show rs.length≤1099511627776 from by have h1:=congrArg List.length HRW.out;have h2:=HRWL.out;simp only[List.length_append] at h1;omega)
          have hout:out.length+T.2.1.length≤70000000000:=by
            have h1:=HW.out
            rw[HWT.out] at h1
            simp only[List.length_append] at h1
            omega
          have HOUT:=Hd hout
          obtain⟨ny,hny⟩:∃ny,ny=ys.length:=⟨_,rfl⟩
          have HNY:=Hd hny
          have hyb:(ny:Int)≤1048576:=by have:=HYL.out;omega
          generalize hbqn:wr.heap.size=bq at*
          have HBQN:=Hd hbqn
          have z4:=cell_in (i:=4) HBQ.out rfl
          rw[←hny] at z4
          clear hout hny hbqn
          go_wp2_with fail
          go_loopw [9,14] (fun ov j wr=>NRel size ys w T out u10 rs w.heap.size Bs bq #[.int .i64 kind,.int .i64 lc,.int .i64 lp,.int .i64 pb,.slice sp ys.length sc,.slice rp raw.length rc] ov j wr) (fun _ j _=>ny-(intOf j).toNat)
          case atStart=>
            exact⟨0,_,_,[],T,Nat.zero_le _,rfl,by rw[List.append_nil];exact HMW.out,HSY.out,rfl,by rw[List.append_nil];exact HALL.out,HBQ.out⟩
          case round=>
            obtain⟨j,all2,s2,made,r2,hjn,rfl,hI2,hsy2,hT2,hle2,hbq2⟩:=hrel
            have z4:=cell_in (i:=4) hbq2 rfl
            rw[←HNY.out] at z4
            have HBQ2:=Hd hbq2
            have HI2:=Hd hI2
            have HT2:=Hd hT2
            have HLE2:=Hd hle2
            by_cases hlt2:j<ny
            · obtain⟨z,hz⟩:∃z,ys[j]? =some z:=⟨ys[j]'(HNY.out ▸ hlt2),List.getElem?_eq_getElem (HNY.out ▸ hlt2)⟩
              rw[drop_cons hz] at hsy2
              obtain⟨hap,T2,hsy3,rfl⟩:=syms_cons hsy2
              have hzb:=HBY.out z (List.mem_of_getElem? hz)
              obtain⟨b2,o2,hsp,d0,d1,d2,d3⟩:=HZ.out.at hz
              subst hsp
              have hjidx:(j:Int)<ny:=by omega
              have d0:=cell_keep d0 hI2.fr
              have d1:=cell_keep d1 hI2.fr
              have d2:=cell_keep d2 hI2.fr
              have d3:=cell_keep d3 hI2.fr
              have hsok:=applyZ_ok hap hI2.ok
              have hb63:all2.length≤1152921504606846000:=by
                have h1:=HOUT.out
                have h2:=congrArg (fun t=>t.2.1.length) HT2.out
                have h3:=HLE2.out
                simp only[List.length_append] at h2 h3
                omega
              have hmk:(out++made).length+(applyZ size all2 s2 z).2.1.length≤70368744177664:=by
                have h1:=HOUT.out
                have h2:=congrArg (fun t=>t.2.1.length) HT2.out
                simp only[List.length_append] at h2 ⊢
                omega
              have hle3:(all2++(applyZ size all2 s2 z).2.1).length≤(out++(made++(applyZ size all2 s2 z).2.1)).length:=by
                have h3:=HLE2.out
                simp only[List.length_append] at h3 ⊢
                omega
              obtain⟨rv,ring,t,hAt,hb1,hb2⟩:=hI2.win
              have hst:=hI2.st
              have HAP:=Hd (show∀W,Fr (fun _=>False) wr W→Calls Tryz.prog 56 #[.pointer (some ⟨w.heap.size,0,none⟩),.agg s2.cells,.agg z.cells] W (fun e w'=>∃v,e=.returned (.tuple #[v,.agg (applyZ size all2 s2 z).2.2.cells,.int .i64 0])∧Done W w.heap.size size rv all2 (applyZ size all2 s2 z).2.1 v w') from fun W hW=>by
                have h:=apply_any w.heap.size size t rv all2 ring s2 hI2.ok z hzb W ((HT.out.keep hI2.fr).keep hW) (hAt.keep hW (fun h=>h) (fun _ _ h=>h)) hb63
                rw[hap] at h
                exact h)
              have HSY3:=Hd hsy3
              have HMK:=Hd hmk
              have HLE3:=Hd hle3
              have HSOK:=Hd hsok
              have HT3:=Hd (show T=(T2.1,(made++(applyZ size all2 s2 z).2.1)++T2.2.1,T2.2.2) by rw[HT2.out,List.append_assoc])
              have hzz:=hz
              clear hsy3 hsy2 hmk hle3 hsok hap hb63 hT2 hle2 hz HT2 HLE2
              generalize hap:applyZ size all2 s2 z=ap at*
              obtain⟨er,bytes,st⟩:=ap
              obtain⟨sn,sr0,sr1,sr2,sr3⟩:=st
              obtain⟨qn,q0,q1,q2,q3⟩:=s2
              obtain⟨zk,zb,zl,zd⟩:=z
              simp only[S.cells,Sz.cells] at HAP hst d0 d1 d2 d3 HSY3 HMK HLE3 HSOK HT3
              have HST:=Hd hst
              have hoff:∀{k:Nat}{cs:Array Value}{t:TypeId}{fr:Nat×Nat},wr.heap[k]? =some (.cells cs t fr)→t≠178→t≠5→¬(k=w.heap.size∨rv.ownBlock=some k∨wr.heap.size≤k):=by
                intro k cs t fr hk h1 h2 h3
                rcases h3 with h3|h3|h3
                · exact ne_of hk hAt.box h1 h3
                · obtain⟨cur,hc⟩:=Lz.own_block hAt.own h3
                  exact ne_of hk hc h2 rfl
                · have:=lt_of_block hk
                  omega
              have HNEW:=Hd (show∀k,wr.heap.size≤k→¬(k=w.heap.size∨rv.ownBlock=some k) from fun k hk h3=>by
                rcases h3 with h3|h3
                · have h4:=lt_of_block hAt.box
                  omega
                · have:=(World.ownsRow.lt hAt.own k h3).2
                  omega)
              have HARG:=Hd (show∀(a:Addr)(u:Value),w.cell? a=some u→∀W,Fr (fun k=>k=w.heap.size∨rv.ownBlock=some k∨wr.heap.size≤k) wr W→W.cell? a=some u from fun a u ha W hW=>cell_keep ha (hI2.fr.trans' hW (fun k h1 h2=>by
                rcases h2 with h2|h2|h2
                · omega
                · have:=hb1 k h2;omega
                · have:=hI2.fr.size;omega)))
              have HKEEP:=Hd (show∀W:World,Fr (fun k=>k=w.heap.size∨rv.ownBlock=some k∨wr.heap.size≤k) wr W→W.cell? ⟨Bs,0,none⟩=some (.int .i64 qn)∧W.cell? ⟨Bs,1,none⟩=some (.int .i64 q0)∧W.cell? ⟨Bs,2,none⟩=some (.int .i64 q1)∧W.cell? ⟨Bs,3,none⟩=some (.int .i64 q2)∧W.cell? ⟨Bs,4,none⟩=some (.int .i64 q3)∧W.cell? ⟨bq,4,none⟩=some (.slice (some ⟨b2,o2,none⟩) ny sc)∧
                  W.cell? ⟨b2,o2+j*4,none⟩=some (.int .i64 zk)∧W.cell? ⟨b2,o2+j*4+1,none⟩=some (.int .u8 zb)∧W.cell? ⟨b2,o2+j*4+2,none⟩=some (.int .i64 zl)∧W.cell? ⟨b2,o2+j*4+3,none⟩=some (.int .i64 zd) from fun W hf=>by
                have ht:=hf.keep HST.out (hoff HST.out (by decide) (by decide))
                have hq:=hf.keep HBQ2.out (hoff HBQ2.out (by decide) (by decide))
                rw[←HNY.out] at hq
                obtain⟨b3,o3,hsp3,a0,a1,a2,a3⟩:=HZ.out.at hzz
                simp only[Option.some.injEq,Addr.mk.injEq,and_true] at hsp3
                obtain⟨rfl,rfl⟩:=hsp3
                exact⟨cell_in ht rfl,cell_in ht rfl,cell_in ht rfl,cell_in ht rfl,cell_in ht rfl,cell_in hq rfl,HARG.out _ _ a0 W hf,HARG.out _ _ a1 W hf,HARG.out _ _ a2 W hf,HARG.out _ _ a3 W hf⟩)
              have FC:=Hd (Fr.refl (fun k=>k=w.heap.size∨rv.ownBlock=some k∨wr.heap.size≤k) wr).drew
              have HSC:=Hd (HKEEP.out _ FC.out)
              have tt:=HSC.out
              obtain⟨t0,t1,t2,t3,t4,t5,t6,t7,t8,t9⟩:=tt
              have HAT:=Hd hAt
              have HB1:=Hd hb1
              have HB2:=Hd hb2
              clear hoff hst hI2 hbq2 hAt hb1 hb2 d0 d1 d2 d3 hzz
              go_wp2_with fail
              go_cut [15,16,17] (fun s15 s16 s17 wx=>∃zs v wc,s15=v∧s16=.pointer (some ⟨zs,0,none⟩)∧s17=.int .i64 0∧wr.heap.size≤zs∧wx.heap[zs]? =some (.cells #[.int .i64 sn,.int .i64 sr0,.int .i64 sr1,.int .i64 sr2,.int .i64 sr3] 71 (0,0))∧(∃wa,Fr (fun _=>False) wr wa∧Done wa w.heap.size size rv all2 bytes v wc∧(zs<wa.heap.size∨wc.heap.size≤zs))∧Fr (fun k=>k=zs) wc wx)
              case first=>
                go_region_held3 (fun W=>W.cell? ⟨Bs,0,none⟩=some (.int .i64 qn)∧W.cell? ⟨Bs,1,none⟩=some (.int .i64 q0)∧W.cell? ⟨Bs,2,none⟩=some (.int .i64 q1)∧W.cell? ⟨Bs,3,none⟩=some (.int .i64 q2)∧W.cell? ⟨Bs,4,none⟩=some (.int .i64 q3)∧W.cell? ⟨bq,4,none⟩=some (.slice (some ⟨b2,o2,none⟩) ny sc)∧
                    W.cell? ⟨b2,o2+j*4,none⟩=some (.int .i64 zk)∧W.cell? ⟨b2,o2+j*4+1,none⟩=some (.int .u8 zb)∧W.cell? ⟨b2,o2+j*4+2,none⟩=some (.int .i64 zl)∧W.cell? ⟨b2,o2+j*4+3,none⟩=some (.int .i64 zd))
                  (first|with_reducible exact HSC.out|(refine HKEEP.out _ ?_;(repeat refine Fr.setCell ?_ (.inl (.inr (.inr (by first|exact FC.out.size|exact HY2.out)))) _);first|exact FC.out|exact FC.out.alloc _)) ((first
                  | (go_at_call 56
                     first
                       | (refine (HAP.out _ (Fr.refl _ _).drew).mono ?_
                          rintro e wc ⟨v,rfl,hdone⟩
                          have FC:=Hd (FC.out.trans (hdone.fr.mono (fun i _ hi=>by rcases hi with hi|hi;exact .inl hi;exact .inr (.inl hi))))
                          have HSC:=Hd (HKEEP.out _ FC.out)
                          have tt:=HSC.out
                          obtain⟨t0,t1,t2,t3,t4,t5,t6,t7,t8,t9⟩:=tt
                          have HDONE:=Hd hdone
                          clear hdone)
                       | (refine (HAP.out _ ((Fr.refl _ _).drew.alloc _)).mono ?_
                          rintro e wc ⟨v,rfl,hdone⟩
                          have HY2:=Hd FC.out.size
                          have FC:=Hd ((FC.out.alloc _).trans (hdone.fr.mono (fun i _ hi=>by rcases hi with hi|hi;exact .inl hi;exact .inr (.inl hi))))
                          have HSC:=Hd (HKEEP.out _ FC.out)
                          have tt:=HSC.out
                          obtain⟨t0,t1,t2,t3,t4,t5,t6,t7,t8,t9⟩:=tt
                          have hz:=hdone.fr.keep (heap_alloc_new _ _) (HNEW.out _ (by simp))
                          try simp only[World.size_drew] at hz
                          obtain⟨s0,s1,s2,s3,s4,sf⟩:=cf5 hz rfl rfl rfl rfl rfl
                          have HSZ:=Hd hz
                          clear hz
                          have HDONE:=Hd hdone
                          clear hdone))))
                · go_wp2_with fail
                  go_meet
                  exact⟨_,v,wc,rfl,rfl,rfl,FC.out.size,heap_alloc_new wc _,⟨_,(Fr.refl _ _).drew,HDONE.out,.inr (Nat.le_refl _)⟩,(Fr.refl _ _).alloc _⟩
                · go_wp2_with fail
                  go_meet
                  exact⟨_,v,wc,rfl,rfl,rfl,by simp,set_in (set_in (set_in (set_in (set_in HSZ.out 0 (.int .i64 sn)) 1 (.int .i64 sr0)) 2 (.int .i64 sr1)) 3 (.int .i64 sr2)) 4 (.int .i64 sr3),⟨_,(Fr.refl _ _).drew.alloc _,HDONE.out,.inl (by simp)⟩,((((Fr.one _ _ _ _).trans (Fr.one _ _ _ _)).trans (Fr.one _ _ _ _)).trans (Fr.one _ _ _ _)).trans (Fr.one _ _ _ _)⟩
              case rest=>
                obtain⟨zs,v3,wd,rfl,rfl,rfl,hzs,hzx,⟨wa,hwa,hdo,hor⟩,hfx⟩:=hcut
                have hdone:=done_new' hwa hdo hfx hzs hor (lt_of_block HAT.out.box) (fun k hk=>(World.ownsRow.lt HAT.out.own k hk).2)
                obtain⟨rv2,ring2,t2,hA2,hn2,hv2⟩:=hdone.win
                have HM3:=Hd (HI2.out.wind HAT.out HB1.out HB2.out hdone.fr hA2 hn2)
                have hst3:=HM3.out.st
                have hmv:=hdone.mine
                have hbq3:=hdone.fr.keep HBQ2.out (fun e=>e.elim (fun e=>ne_of HBQ2.out HAT.out.box (by decide) e) (fun e=>by obtain⟨cur,hc⟩:=Lz.own_block HAT.out.own e;exact ne_of HBQ2.out hc (by decide) rfl))
                obtain⟨s0,s1,s2,s3,s4⟩:=cs5 hzx rfl rfl rfl rfl rfl
                obtain⟨y0,y1,y2,y3,y4,yf⟩:=cf5 hst3 rfl rfl rfl rfl rfl
                have hf5:Fr (fun k=>k=Bs) wc (((((wc.setCell ⟨Bs,0,none⟩ (.int .i64 sn)).setCell ⟨Bs,1,none⟩ (.int .i64 sr0)).setCell ⟨Bs,2,none⟩ (.int .i64 sr1)).setCell ⟨Bs,3,none⟩ (.int .i64 sr2)).setCell ⟨Bs,4,none⟩ (.int .i64 sr3)):=((((Fr.one _ _ _ _).trans (Fr.one _ _ _ _)).trans (Fr.one _ _ _ _)).trans (Fr.one _ _ _ _)).trans (Fr.one _ _ _ _)
                have hst5:=set_in (set_in (set_in (set_in (set_in hst3 0 (.int .i64 sn)) 1 (.int .i64 sr0)) 2 (.int .i64 sr1)) 3 (.int .i64 sr2)) 4 (.int .i64 sr3)
                have HM4:=Hd (show MI w (((((wc.setCell ⟨Bs,0,none⟩ (.int .i64 sn)).setCell ⟨Bs,1,none⟩ (.int .i64 sr0)).setCell ⟨Bs,2,none⟩ (.int .i64 sr1)).setCell ⟨Bs,3,none⟩ (.int .i64 sr2)).setCell ⟨Bs,4,none⟩ (.int .i64 sr3)) w.heap.size Bs size (all2++bytes) ⟨sn,sr0,sr1,sr2,sr3⟩ u9 (out++made) u10 rs from HM3.out.state HSOK.out hf5 hst5)
                have HMV:=Hd (hmv.step hf5 (fun k hk=>by obtain⟨cur,hc⟩:=mblock hmv hk;exact ne_of hc hst3 (by decide))).rd
                have HBQ4:=Hd (hf5.keep hbq3 (ne_of hbq3 hst3 (by decide)))
                clear hdo hwa hor hfx hdone hzx hst3 hmv hbq3 hf5 hst5 hA2 hn2 hv2 t0 t1 t2 t3 t4 t5 t6 t7 t8 t9 HSC FC HKEEP HNEW HARG
                go_wp2_with (at_builtin
                             refine append_mine rfl _ _ rfl (w0:=w) u9 u15 (out++made) bytes rfl rfl HM4.out.out HM4.out.fr.size HMV.out HMK.out ?_
                             intro p6 cap6 n6 w6 hn6 hM6 hfr6 hnew6
                             have HM6:=Hd (HM4.out.app hfr6 hM6 hnew6)
                             have HBQ6:=Hd (hfr6.keep HBQ4.out (fun e=>by obtain⟨cur,hc⟩:=mblock HM4.out.out e;exact ne_of HBQ4.out hc (by decide) rfl))
                             clear hn6 hM6 hfr6 hnew6)
                go_roundw
                case rel=>exact⟨j+1,_,_,made++bytes,T2,by have:=HNY.out;omega,by go_num,by rw[←List.append_assoc];exact HM6.out,HSY3.out,HT3.out,HLE3.out,HBQ6.out⟩
                case measure=>simp[intOf];omega
            · obtain rfl:j=ny:=by have:=HNY.out;omega
              have hd0:ys.drop j=[]:=List.drop_eq_nil_of_le (by have:=HNY.out;omega)
              rw[hd0] at hsy2
              simp only[symsGo,Option.some.injEq] at hsy2
              subst hsy2
              have hz':RdZ w (.slice sp j sc) ys:=by rw[HNY.out];exact HZ.out
              have HZ2:=Hd hz'
              have HM7:=Hd (HI2.out.keep ((Fr.refl (fun _=>False) wr).alloc (.cells #[.slice sp j sc] 63)))
              have HONE:=Hd (heap_alloc_new wr (.cells #[.slice sp j sc] 63))
              have HONEC:=Hd (show∀u ∈ (#[Value.slice sp j sc]:Array Value).toList,u.oneCell'=true from by simp[Value.oneCell'])
              obtain⟨vs,hO,hvl,hvr⟩:=HM7.out.rows
              have HO:=Hd hO
              have HVL:=Hd hvl
              have HVR:=Hd hvr
              clear hO hvl hvr hz' hd0
              go_wp2_with (at_builtin
                           refine append_own (T:=63) (t:=57) (z:=1) (bytes:=24) (n:=rs.length) (zero:=.slice none 0 0) rfl _ _ rfl Tryz.underlying57 infoRow rfl Nat.one_pos (of_decide_eq_true rfl) (w0:=w) u10 vs #[.slice sp j sc] wr.heap.size rfl rfl HO.out HM7.out.fr.size HONE.out rfl HONEC.out HRSB.out ?_
                           intro gv8 w8 hO8 hfr8 hnew8
                           have HM8:=Hd (HM7.out.row hfr8 (RowsZ.snoc HVL.out HVR.out HZ2.out hO8))
                           clear hO8 hfr8 hnew8)
              go_roundw
              case rel=>
                have hT:=HT2.out
                subst hT
                exact⟨k+1,_,_,_,_,r',by have:=HN.out;omega,by go_num,HM8.out,HMEAN.out,by rw[HWT.out,List.append_nil,List.append_assoc],by rw[HRW.out,List.append_assoc];rfl,HLE2.out⟩
              case measure=>simp[intOf];omega
    · obtain rfl:k=n:=by have:=HN.out;omega
      go_wp2_with fail
      go_ret3
      have h0:l.drop k=[]:=List.drop_eq_nil_of_le (by have:=HN.out;omega)
      rw[h0] at hmean
      simp only[meanGo,Option.some.injEq] at hmean
      subst hmean
      rw[List.append_nil] at hwant hrows
      subst hwant hrows
      exact⟨hI.fr,_,_,rfl,hI.out,hI.rows⟩
end Pa
end Go.Proofs.YtlgccpjccopdmaaGreatDoor
