/- Part 17 of 52: lemmas of the last part, each under the conditions that it names. -/
import Derived.Test.YtffoddpjfgjelaaGreatDoorP10
import Derived.Test.YtffoddpjfgjelaaGreatDoorP16
set_option linter.unusedVariables false
set_option linter.unusedSimpArgs false
set_option maxRecDepth 1500
set_option maxHeartbeats 1000000
namespace Go.Proofs.YtffoddpjfgjelaaGreatDoor
open Go.RowKit
namespace Lz
open Mem Rc St
def C.fresh(c:C)(lc lp pb:Nat):C:={c with lc:=lc,lp:=lp,pb:=pb,s:=S.new}
theorem fresh_len(lc lp j:Nat):(fresh lc lp j).length=rowLen lc lp j:=by simp[fresh]
theorem Dec.tabs{w w1:World}{l:L}{c:C}{ps:Nat→List Nat}{sp:Bool}(h:Dec w l c ps sp){T lc lp pb:Nat}{b g:Nat→Nat}(hfr:Fr (fun _=>False) w w1)(hT:Tab w1 T b g lc lp pb S.new (fresh lc lp))
 (hT0:w.heap.size≤T)(hn:∀j,j<18→w.heap.size≤b j∧w.heap.size≤g j)(hl:lc+lp≤4)(hp:pb≤4):
 Fr l.F w (w1.setCell ⟨l.D,0,none⟩ (ptr T))∧Nx w l {l with T:=T,b:=b,g:=g}∧Dec (w1.setCell ⟨l.D,0,none⟩ (ptr T)) {l with T:=T,b:=b,g:=g} (c.fresh lc lp pb) (fresh lc lp) sp:=by
 have hd:=hfr.keep h.d (fun h=>h)
 have hD:=lt_of_block h.d
 have hs:Fr (fun k=>k=l.D) w1 (w1.setCell ⟨l.D,0,none⟩ (ptr T)):=Fr.one _ _ _ _
 refine⟨(lift hfr).trans (hs.mono (fun i _(e:i=l.D)=>.inl e)),⟨rfl,fun k hk=> ?_⟩,⟨set_in hd 0 _,⟨hs.keep hT.box (show¬T=l.D by omega),fun j hj=> ?_,hT.inj⟩,?_,⟨hl,hp,S.new_ok⟩,fun j _=>fresh_len lc lp j⟩⟩
 ·rcases hk with hk|hk|hk|hk|⟨j,hj,hk|hk⟩
  ·exact .inl (.inl hk)
  ·exact .inr (by simp only at hk;omega)
  ·exact .inl (.inr (.inr (.inl hk)))
  ·exact .inl (.inr (.inr (.inr (.inl hk))))
  ·have:=hn j hj
   exact .inr (by simp only at hk;omega)
  ·have:=hn j hj
   exact .inr (by simp only at hk;omega)
 ·have:=hn j hj
  exact(hT.set j hj).step hs (fun(e:b j=l.D)=>by omega) (fun(e:g j=l.D)=>by omega)
 ·refine(h.win.keep hfr (fun h=>h) (fun _ _ h=>h)).keep hs (fun(e:l.W=l.D)=> ?_) (fun k hk(e:k=l.D)=> ?_)
  ·have h1:=h.win.box
   rw[e,h.d] at h1
   simp at h1
  ·rcases h.win.own.2 with⟨hnil,_⟩|⟨g2,cap,cur,hgv,_,hg2,_⟩
   ·rw[hnil] at hk
    simp[Value.ownBlock] at hk
   ·rw[hgv] at hk
    simp only[Value.ownBlock,Option.some.injEq] at hk
    rw[hk,e,h.d] at hg2
    simp at hg2
theorem reset_calls{l:L}{c:C}{ps:Nat→List Nat}{sp:Bool}{w:World}(h:Dec w l c ps sp)(lc lp pb:Nat)(hl:lc+lp≤4)(hp:pb≤4):
 Calls Tryz.prog 95 #[ptr l.D,.agg #[.int .i64 lc,.int .i64 lp,.int .i64 pb]] w fun e w'=>e=.returned (.int .i64 0)∧Fr l.F w w'∧∃l',Nx w l l'∧Dec w' l' (c.fresh lc lp pb) (fresh lc lp) sp:=by
 have hx:=heap_alloc_new w (.cells #[.int .i64 lc,.int .i64 lp,.int .i64 pb] 24)
 have hf0:=(Fr.refl (fun _=>False) w).alloc (.cells #[.int .i64 lc,.int .i64 lp,.int .i64 pb] 24)
 have HP:=fun W=>Hd (props_ok lc lp pb hl hp W)
 have HT:=fun W=>Hd (tables_calls lc lp pb W hl)
 unfold NewPost at HT
 have H0:=Hd h
 have HX:=Hd hx
 have HF:=Hd hf0
 clear h hx hf0
 go_enter Tryz.func95,Tryz.ntmps95
 go_wp2_with fail
 refine(HP _).out.mono ?_
 rintro e w1 ⟨⟨x,rfl⟩,hfr1⟩
 have hx1:=hfr1.keep HX.out (fun h=>h)
 obtain⟨z0,z1,z2⟩:=cs3 hx1 rfl rfl rfl
 have HF1:=Hd (HF.out.trans hfr1)
 clear hfr1 hx1
 go_wp2_with fail
 refine(HT _).out.mono ?_
 rintro e w2 ⟨T,b,g,rfl,hfr2,hTab,hT0,hn⟩
 have h2:=H0.out.keep0 (HF1.out.trans hfr2)
 have hsz:=HF1.out.size
 have KEY:=Hd (H0.out.tabs (HF1.out.trans hfr2) hTab (Nat.le_trans hsz hT0) (fun j hj=>⟨Nat.le_trans hsz (hn j hj).1,Nat.le_trans hsz (hn j hj).2⟩) hl hp)
 have y0:w2.cell? ⟨l.D,0,none⟩=some (ptr l.T):=cell_in h2.d rfl
 have yf:=frozen_in h2.d 0
 clear hfr2 hTab hn h2
 go_wp2_with fail
 go_ret
 exact⟨rfl,KEY.out.1,_,KEY.out.2.1,KEY.out.2.2⟩
theorem clear_calls{l:L}{c:C}{ps:Nat→List Nat}{sp:Bool}{w:World}(h:Dec w l c ps sp):
 Calls Tryz.prog 94 #[ptr l.D] w fun e w'=>e=.returned (.tuple #[])∧Fr l.F w w'∧∃l',Nx w l l'∧Dec w' l' {c.fresh c.lc c.lp c.pb with all:=[]} (fresh c.lc c.lp) false:=by
 have HT:=fun W=>Hd (tables_calls c.lc c.lp c.pb W h.okc.l)
 unfold NewPost at HT
 have x0:w.cell? ⟨l.D,0,none⟩=some (ptr l.T):=cell_in h.d rfl
 have x1:w.cell? ⟨l.T,0,none⟩=some (.int .i64 c.lc):=cell_in h.tab.box rfl
 have x2:w.cell? ⟨l.T,1,none⟩=some (.int .i64 c.lp):=cell_in h.tab.box rfl
 have x3:w.cell? ⟨l.T,2,none⟩=some (.int .i64 c.pb):=cell_in h.tab.box rfl
 have H0:=Hd h
 clear h
 go_enter Tryz.func94,Tryz.ntmps94
 go_wp2_with fail
 refine(HT _).out.mono ?_
 rintro e w2 ⟨T,b,g,rfl,hfr2,hTab,hT0,hn⟩
 have h2:=H0.out.keep0 hfr2
 have KEY:=Hd (H0.out.tabs hfr2 hTab hT0 hn H0.out.okc.l H0.out.okc.pb)
 have y0:w2.cell? ⟨l.D,0,none⟩=some (ptr l.T):=cell_in h2.d rfl
 have y1:w2.cell? ⟨l.D,1,none⟩=some (ptr l.W):=cell_in h2.d rfl
 have yf:=frozen_in h2.d 0
 have HC:=Hd (Win.clear_calls l.W c.size l.t l.rv c.all l.ring _ KEY.out.2.2.win)
 clear hfr2 hTab hn h2 x0 x1 x2 x3
 go_wp2_with fail
 refine HC.out.mono ?_
 rintro e w3 ⟨rfl,hfr3,hW3⟩
 have k:=KEY.out.2.2
 have hd3:=hfr3.keep k.d (fun(e:l.D=l.W)=>by
  have h1:=k.win.box
  simp only[←e] at h1
  rw[k.d] at h1
  simp at h1)
 have z0:w3.cell? ⟨l.D,2,none⟩=some (.bool sp):=cell_in hd3 rfl
 have zf:=frozen_in hd3 2
 have FIN:Fr l.F w (w3.setCell ⟨l.D,2,none⟩ (.bool false))∧∃l',Nx w l l'∧Dec (w3.setCell ⟨l.D,2,none⟩ (.bool false)) l' {c.fresh c.lc c.lp c.pb with all:=[]} (fresh c.lc c.lp) false:=by
  have hs:Fr (fun k=>k=l.D) w3 (w3.setCell ⟨l.D,2,none⟩ (.bool false)):=Fr.one _ _ _ _
  have hne:∀{k:Nat}{cs:Array Value}{t:TypeId}{fr:Nat×Nat},w3.heap[k]? =some (.cells cs t fr)→t≠272→¬k=l.D:=by
   intro k cs t fr hk h1 e
   rw[e,hd3] at hk
   simp only[Option.some.injEq,Obj.cells.injEq] at hk
   exact h1 hk.2.1.symm
  have hne2:∀{k:Nat}{cs:Array Value}{t:TypeId}{fr:Nat×Nat},(w2.setCell ⟨l.D,0,none⟩ (ptr T)).heap[k]? =some (.cells cs t fr)→t≠210→¬k=l.W:=by
   intro k' cs t fr hk h1 e
   have h4:=k.win.box
   simp only at h4
   rw[e,h4] at hk
   simp only[Option.some.injEq,Obj.cells.injEq] at hk
   exact h1 hk.2.1.symm
  refine⟨(KEY.out.1.trans (hfr3.mono (fun i _(e:i=l.W)=>.inr (.inr (.inl e))))).trans (hs.mono (fun i _(e:i=l.D)=>.inl e)),{l with T:=T,b:=b,g:=g,rv:=.slice none 0 0,ring:=[],t:=0},⟨rfl,fun k' hk=> ?_⟩,?_⟩
  ·refine KEY.out.2.1.F k' ?_
   rcases hk with hk|hk|hk|hk|hk
   ·exact .inl hk
   ·exact .inr (.inl hk)
   ·exact .inr (.inr (.inl hk))
   ·simp[Value.ownBlock] at hk
   ·exact .inr (.inr (.inr (.inr hk)))
  ·have htb:=k.tab.box
   refine⟨set_in hd3 2 _,⟨hs.keep (hfr3.keep k.tab.box (hne2 k.tab.box (by decide))) (hne (hfr3.keep k.tab.box (hne2 k.tab.box (by decide))) (by decide)),fun j hj=> ?_,k.tab.inj⟩,hW3.keep hs (hne hW3.box (by decide)) (fun k hk=>by simp[Value.ownBlock] at hk),⟨k.okc.l,k.okc.pb,S.new_ok⟩,k.len⟩
   have hj2:=k.tab.set j hj
   obtain⟨_,_,hb,hg,_⟩:=k.tab.set j hj
   have hj3:=hj2.step hfr3 (hne2 hb (by decide)) (hne2 hg (by decide))
   obtain⟨_,_,hb3,hg3,_⟩:=hj2.step hfr3 (hne2 hb (by decide)) (hne2 hg (by decide))
   exact hj3.step hs (hne hb3 (by decide)) (hne hg3 (by decide))
 have FIN:=Hd FIN
 clear hfr3 hW3 k hd3
 go_wp2_with fail
 go_end0
 exact⟨rfl,FIN.out⟩
theorem zero_props(w:World):Calls Tryz.prog 49 #[.agg #[.int .i64 0,.int .i64 0,.int .i64 0]] w fun e w'=>(∃x,e=.returned (.tuple #[.int .i64 x,.int .i64 0]))∧Fr (fun _=>False) w w':=props_ok 0 0 0 (by omega) (by omega) w
theorem zero_tables(w:World):Calls Tryz.prog 65 #[.agg #[.int .i64 0,.int .i64 0,.int .i64 0]] w (NewPost 0 0 0 w):=tables_calls 0 0 0 w (by omega)
theorem dnew_in(n:Nat)(w:World)(h1:1≤n)(h2:n≤4294967295):
 Calls Tryz.prog 92 #[.agg #[.int .i64 0,.int .i64 0,.int .i64 0],.int .i64 n] w fun e w'=>Fr (fun _=>False) w w'∧∃l:L,e=.returned (.tuple #[ptr l.D,.int .i64 0])∧Dec w' l ⟨0,0,0,S.new,n,[]⟩ (fresh 0 0) false∧∀k,l.F k→w.heap.size≤k:=by
 have hx:=heap_alloc_new w (.cells #[.int .i64 0,.int .i64 0,.int .i64 0] 24)
 have hf0:=(Fr.refl (fun _=>False) w).alloc (.cells #[.int .i64 0,.int .i64 0,.int .i64 0] 24)
 have HT:=fun W=>Hd (zero_tables W)
 unfold NewPost at HT
 have HX:=Hd hx
 have HF:=Hd hf0
 clear hx hf0
 go_enter Tryz.func92,Tryz.ntmps92
 go_wp2_with fail
 refine(zero_props _).mono ?_
 rintro e w1 ⟨⟨x,rfl⟩,hfr1⟩
 have hx1:=hfr1.keep HX.out (fun h=>h)
 have HX1:=Hd hx1
 have HF1:=Hd (HF.out.trans hfr1)
 clear hfr1 hx1
 go_wp2_with fail
 refine(Win.new_in n _ (by omega) h2).mono ?_
 rintro e w2 ⟨rfl,hfr2,hW2⟩
 have hx2:=hfr2.keep HX1.out (fun h=>h)
 obtain⟨z0,z1,z2⟩:=cs3 hx2 rfl rfl rfl
 have HF2:=Hd hfr2
 have HW2:=Hd hW2
 clear hfr2 hW2 hx2
 go_wp2_with fail
 refine(HT _).out.mono ?_
 rintro e w3 ⟨T,b,g,rfl,hfr3,hTab,hT0,hn⟩
 have hb:=heap_alloc_new w3 (.cells #[ptr T,ptr w1.heap.size,.bool false] 272)
 have hf4:=(Fr.refl (fun _=>False) w3).alloc (.cells #[ptr T,ptr w1.heap.size,.bool false] 272)
 have FIN:=Hd (show Fr (fun _=>False) w (w3.alloc (.cells #[ptr T,ptr w1.heap.size,.bool false] 272))∧Dec (w3.alloc (.cells #[ptr T,ptr w1.heap.size,.bool false] 272)) ⟨0,w3.heap.size,0,T,w1.heap.size,.slice none 0 0,.slice none 0 0,[],0,b,g⟩ ⟨0,0,0,S.new,n,[]⟩ (fresh 0 0) false∧∀k,L.F ⟨0,w3.heap.size,0,T,w1.heap.size,.slice none 0 0,.slice none 0 0,[],0,b,g⟩ k→w.heap.size≤k from by
  have hs1:=HF1.out.size
  have hs2:=HF2.out.size
  have hs3:=hfr3.size
  refine⟨((HF1.out.trans HF2.out).trans hfr3).trans hf4,⟨hb,⟨hf4.keep hTab.box (fun h=>h),fun j hj=>(hTab.set j hj).keep hf4,hTab.inj⟩,(HW2.out.keep hfr3 (fun h=>h) (fun _ _ h=>h)).keep hf4 (fun h=>h) (fun _ _ h=>h),⟨by simp,by simp,S.new_ok⟩,fun j _=>fresh_len 0 0 j⟩,fun k hk=> ?_⟩
  rcases hk with hk|hk|hk|hk|⟨j,hj,hk|hk⟩
  ·simp only at hk
   omega
  ·simp only at hk
   omega
  ·simp only at hk
   omega
  ·simp[Value.ownBlock] at hk
  ·have:=hn j hj
   simp only at hk
   omega
  ·have:=hn j hj
   simp only at hk
   omega)
 clear hfr3 hTab hn hb hf4
 go_wp2_with fail
 go_ret2
 exact⟨FIN.out.1,_,rfl,FIN.out.2⟩
theorem dnew_out(n:Int)(w:World)(h:n<1∨4294967295<n):
 Calls Tryz.prog 92 #[.agg #[.int .i64 0,.int .i64 0,.int .i64 0],.int .i64 n] w fun e w'=>Fr (fun _=>False) w w'∧e=.returned (.tuple #[.pointer none,.int .i64 7]):=by
 have HF:=Hd ((Fr.refl (fun _=>False) w).alloc (.cells #[.int .i64 0,.int .i64 0,.int .i64 0] 24))
 have HW:=fun W=>Hd (Win.new_out n W h)
 clear h
 go_enter Tryz.func92,Tryz.ntmps92
 go_wp2_with fail
 refine(zero_props _).mono ?_
 rintro e w1 ⟨⟨x,rfl⟩,hfr1⟩
 have HF1:=Hd (HF.out.trans hfr1)
 clear hfr1
 go_wp2_with fail
 refine(HW _).out.mono ?_
 rintro e w2 ⟨rfl,rfl⟩
 go_wp2_with fail
 go_ret2
 exact⟨HF1.out,rfl⟩
end Lz
namespace Lz
open Mem Rc St
theorem next_err_same(s t:S)(y:Sy):(s.next y).1=(t.next y).1:=by
 unfold S.next
 repeat' split
 all_goals rfl
theorem apply_len{size:Nat}{all:List UInt8}{s:S}{y:Sy}(h:(apply size all s y).1=0)(hk:y.kind=1∨y.kind=2∨y.kind=3∨y.kind=4):(apply size all s y).2.1.length=St.size y:=by
 unfold apply at*
 unfold St.size
 rw[next_err_same S.new s y]
 by_cases h0:(s.next y).1=0
 ·rw[if_pos h0] at h ⊢
  rw[if_pos h0]
  by_cases h1:y.kind=1
  ·rw[if_pos h1,if_neg (by omega)]
   rfl
  ·rw[if_neg h1] at h ⊢
   by_cases h2:1≤distOf s y∧distOf s y≤min size all.length
   ·rw[if_pos h2]
    simp only[Win.copied_len,lenOfSy]
    by_cases h4:y.kind=4
    ·rw[if_pos h4,if_neg (by omega)]
    ·rw[if_neg h4,if_pos (by omega)]
   ·rw[if_neg h2] at h
    simp at h
 ·rw[if_neg h0] at h
  exact absurd h h0
theorem apply_ok{size:Nat}{all:List UInt8}{s:S}{y:Sy}(h:(apply size all s y).1=0)(hs:s.Ok):(apply size all s y).2.2.Ok:=by
 unfold apply at*
 by_cases h0:(s.next y).1=0
 ·rw[if_pos h0] at h ⊢
  have:=S.next_ok hs h0
  split
  ·exact this
  ·split
   ·exact this
   ·rename_i h1 h2
    rw[if_neg h1,if_neg h2] at h
    simp at h
 ·rw[if_neg h0] at h
  exact absurd h h0
def C.on(c:C)(bytes:List UInt8):C:={c with all:=c.all++bytes}
def C.to(c:C)(s:S):C:={c with s:=s}
def takeGo(n:Nat):Nat→C→Y→List Sy→List UInt8→Option (C×Y×List Sy×List UInt8)
 |0,_,_,_,_=>none
 |f+1,c,y,l,out=>
   if n≤out.length then some (c,y,l,out)
   else if(y.symbol c).2.bad=true∨St.size (y.symbol c).1<1∨n-out.length<St.size (y.symbol c).1 then none
   else if(apply c.size c.all c.s (y.symbol c).1).1≠0 then none
   else takeGo n f ((c.on (apply c.size c.all c.s (y.symbol c).1).2.1).to (apply c.size c.all c.s (y.symbol c).1).2.2) (y.symbol c).2 (l++[(y.symbol c).1]) (out++(apply c.size c.all c.s (y.symbol c).1).2.1)
def takeAll(c:C)(ps:Nat→List Nat)(xs:List UInt8)(n:Nat):Option (List Sy×List UInt8×C×(Nat→List Nat)):=
 match init xs with
 |.error _=>none
 |.ok d=>match takeGo n (n+1) c ⟨d,false,ps⟩ [] [] with
   |none=>none
   |some (c2,y2,l,out)=>if y2.d.read=y2.d.b.length∧y2.d.now=0 then some (l,out,c2,y2.ps) else none
def syCells(l:List Sy):List Value:=l.flatMap (fun y=>y.cells.toList)
theorem syCells_snoc(l:List Sy)(y:Sy):syCells (l++[y])=syCells l++y.cells.toList:=by simp[syCells]
structure Syms(w0 w:World)(v:Value)(l:List Sy):Prop where
 own:w.ownsRow 0 110 4 v l.length (syCells l)
 new:∀k,v.ownBlock=some k→w0.heap.size≤k
theorem own_block{w:World}{T:TypeId}{size n:Nat}{v:Value}{xs:List Value}(h:w.ownsRow 0 T size v n xs){k:Nat}(hk:v.ownBlock=some k):∃cur,w.heap[k]? =some (.cells cur T (0,0)):=by
 rcases h.2 with⟨hn,_⟩|⟨g,cap,cur,hgv,_,hg2,_⟩
 ·rw[hn] at hk
  simp[Value.ownBlock] at hk
 ·rw[hgv] at hk
  simp only[Value.ownBlock,Option.some.injEq] at hk
  exact⟨cur,hk ▸ hg2⟩
theorem own_stepN{S:Nat→Prop}{w w':World}{T:TypeId}{size n:Nat}{v:Value}{xs:List Value}(h:w.ownsRow 0 T size v n xs)(hfr:Fr S w w')(hS:∀k,v.ownBlock=some k→¬S k):w'.ownsRow 0 T size v n xs:=by
 obtain⟨h1,h2⟩:=h
 refine⟨h1,?_⟩
 rcases h2 with h2|⟨g,cap,cur,rfl,h4,hg,hrest⟩
 ·exact .inl h2
 ·exact .inr ⟨g,cap,cur,rfl,h4,hfr.keep hg (hS g rfl),hrest⟩
theorem Syms.step{S:Nat→Prop}{w0 w w':World}{v:Value}{l:List Sy}(h:Syms w0 w v l)(hfr:Fr S w w')(hS:∀k,v.ownBlock=some k→¬S k):Syms w0 w' v l:=⟨own_stepN h.own hfr hS,h.new⟩
def owned(t:TypeId):Prop:=t=341∨t=272∨t=217∨t=210∨t=381∨t=360∨t=3
instance (t:TypeId):Decidable (owned t):=by unfold owned;infer_instance
theorem At.keepO{S:Nat→Prop}{w w':World}{l:L}{c:C}{y:Y}(h:At w l c y)(hfr:Fr S w w')(hx:∀k cs t fr,w.heap[k]? =some (.cells cs t fr)→owned t→¬S k)(hrv:∀k,l.rv.ownBlock=some k→¬S k)(hbv:∀k,l.bv.ownBlock=some k→¬S k):At w' l c y:=by
 refine⟨hfr.keep h.x (hx _ _ _ _ h.x (by decide)),hfr.keep h.d (hx _ _ _ _ h.d (by decide)),⟨hfr.keep h.tab.box (hx _ _ _ _ h.tab.box (by decide)),fun j hj=> ?_,h.tab.inj⟩,h.win.keep hfr (hx _ _ _ _ h.win.box (by decide)) hrv,h.rc.keep hfr (hx _ _ _ _ h.rc.1 (by decide)) hbv,h.ok,h.c,h.bvoff,h.rvoff⟩
 obtain⟨_,_,hb,hg,_⟩:=h.tab.set j hj
 exact(h.tab.set j hj).step hfr (hx _ _ _ _ hb (by decide)) (hx _ _ _ _ hg (by decide))
theorem tabV_nb(lc lp pb:Nat)(s:S)(b:Nat→Nat)(i:Nat)(n:Int):(tabV lc lp pb s b)[i]? ≠some (Value.int .u8 n):=by
 intro h
 have:=Array.mem_of_getElem? h
 simp[tabV] at this
theorem At.applied{w w':World}{l:L}{c:C}{y:Y}{bytes:List UInt8}{v:Value}(h:At w l c y)(hd:Done w l.W c.size l.rv c.all bytes v w')(hbr:∀k,l.bv.ownBlock=some k→l.rv.ownBlock≠some k):
 ∃rv' ring' t',At w' {l with rv:=rv',ring:=ring',t:=t'} (c.on bytes) y∧(∀k,rv'.ownBlock=some k→l.rv.ownBlock=some k∨w.heap.size≤k)∧(∀k,v.ownBlock=some k→rv'.ownBlock≠some k)∧(∀k,l.bv.ownBlock=some k→rv'.ownBlock≠some k):=by
 obtain⟨hfr,hmine,rv',ring',t',hW,hn,hv⟩:=hd
 have hoff:∀{k:Nat}{cs:Array Value}{t:TypeId}{fr:Nat×Nat},w.heap[k]? =some (.cells cs t fr)→t≠210→t≠5→¬(k=l.W∨l.rv.ownBlock=some k):=by
  intro k cs t fr hk h1 h2 h3
  rcases h3 with h3|h3
  ·rw[h3,h.win.box] at hk
   simp only[Option.some.injEq,Obj.cells.injEq] at hk
   exact h1 hk.2.1.symm
  ·obtain⟨cur,hc⟩:=own_block h.win.own h3
   rw[hc] at hk
   simp only[Option.some.injEq,Obj.cells.injEq] at hk
   exact h2 hk.2.1.symm
 have hbvW:∀k,l.bv.ownBlock=some k→¬(k=l.W∨l.rv.ownBlock=some k):=by
  intro k hk h3
  rcases h3 with h3|h3
  ·obtain⟨p2,cp2,hrv⟩:=h.win.slice
   have hbox:=h.win.box
   rw[hrv] at hbox
   exact Win.rd_off h.rc.2 h.ok.d.2.2.2.2 hbox Win.winV_nb k hk h3
  ·exact hbr k hk h3
 refine⟨rv',ring',t',⟨hfr.keep h.x (hoff h.x (by decide) (by decide)),hfr.keep h.d (hoff h.d (by decide) (by decide)),⟨hfr.keep h.tab.box (hoff h.tab.box (by decide) (by decide)),fun j hj=> ?_,h.tab.inj⟩,hW,h.rc.keep hfr (hoff h.rc.1 (by decide) (by decide)) hbvW,h.ok,⟨h.c.l,h.c.pb,h.c.s⟩,h.bvoff,fun k hk=> ?_⟩,hn,hv,fun k hk he=> ?_⟩
 ·obtain⟨_,_,hb,hg,_⟩:=h.tab.set j hj
  exact(h.tab.set j hj).step hfr (hoff hb (by decide) (by decide)) (hoff hg (by decide) (by decide))
 ·rcases hn k hk with h1|h1
  ·exact h.rvoff k h1
  ·exact h.newOff h1
 ·rcases hn k he with h1|h1
  ·exact hbr k hk h1
  ·have:=rd_lt h.rc.2 h.ok.d.2.2.2.2 k hk
   omega
theorem At.stated{w w':World}{l:L}{c:C}{y:Y}(h:At w l c y)(s:S)(hs:s.Ok)(hfr:Fr (fun k=>k=l.T) w w')(hT:w'.heap[l.T]? =some (.cells (tabV c.lc c.lp c.pb s l.b) 217 (0,0))):At w' l (c.to s) y:=by
 have hoff:∀{k:Nat}{cs:Array Value}{t:TypeId}{fr:Nat×Nat},w.heap[k]? =some (.cells cs t fr)→t≠217→¬k=l.T:=by
  intro k cs t fr hk h1 h2
  rw[h2,h.tab.box] at hk
  simp only[Option.some.injEq,Obj.cells.injEq] at hk
  exact h1 hk.2.1.symm
 refine⟨hfr.keep h.x (hoff h.x (by decide)),hfr.keep h.d (hoff h.d (by decide)),⟨hT,fun j hj=> ?_,h.tab.inj⟩,h.win.keep hfr (hoff h.win.box (by decide)) (fun k hk=> ?_),h.rc.keep hfr (hoff h.rc.1 (by decide)) (fun k hk=> ?_),h.ok,⟨h.c.l,h.c.pb,hs⟩,h.bvoff,h.rvoff⟩
 ·obtain⟨_,_,hb,hg,_⟩:=h.tab.set j hj
  exact(h.tab.set j hj).step hfr (hoff hb (by decide)) (hoff hg (by decide))
 ·obtain⟨cur,hc⟩:=own_block h.win.own hk
  exact hoff hc (by decide)
 ·exact Win.rd_off h.rc.2 h.ok.d.2.2.2.2 h.tab.box (tabV_nb _ _ _ _ _) k hk
end Lz
namespace Lz
open Mem Rc St Win
theorem infoSym:(Tryz.prog.info? 110).map (fun i=>(i.zero,i.size,i.bytes))=some (some (.agg #[.int .i64 0,.int .u8 0,.int .i64 0,.int .i64 0]),4,32):=by kernel_rfl
theorem src_sym{w:World}{B:Nat}{sy:Sy}(hB:w.heap[B]? =some (.cells sy.cells 110 (0,0))):Src Tryz.prog 4 98 (.slice (some ⟨B,0,none⟩) 1 1) 1 sy.cells.toList w:=by
 refine Src.ofSlice w Tryz.underlying98 ⟨B,0,none⟩ 1 1 sy.cells.toList rfl (fun j u hu=> ?_) (fun u hu=> ?_)
 ·rw[add_mid,Nat.zero_add]
  exact cell_in hB (by simpa using hu)
 ·simp only[Sy.cells,List.mem_cons,List.not_mem_nil,or_false] at hu
  rcases hu with rfl|rfl|rfl|rfl<;>rfl
theorem append_sym{ops:Array Oper}{rest:List Oper}{o:Oper}{a:Act}{Q:Exit→Act→World→Prop}(hgd:o.guard=none)(s y:Operand)
 (ho:o.op=.call {callee:=.builtin .append,args:=#[s,y],argTypes:=#[98,98]}){w0 w:World}(v:Value)(ls:List Sy)(sy:Sy)(B:Nat)(hv:a.eval s=v)(hx:a.eval y=.slice (some ⟨B,0,none⟩) 1 1)(hm:Syms w0 w v ls)(hle:w0.heap.size≤w.heap.size)
 (hB:w.heap[B]? =some (.cells sy.cells 110 (0,0)))(hb:ls.length≤1099511627776)
 (h:∀v' w',Syms w0 w' v' (ls++[sy])→Fr (fun k=>v.ownBlock=some k) w w'→(∀k,v'.ownBlock=some k→v.ownBlock=some k∨w.heap.size≤k)→wpList Tryz.prog ops Q rest (a.put o.dst v') w'):
 wpList Tryz.prog ops Q (o::rest) a w:=by
 obtain⟨i0,hi,hz0,hz1,hz2⟩:=info_parts infoSym
 refine wpList_append_any w hgd s y 98 98 ho 110 i0 _ 4 32 Tryz.underlying98 hi hz0 hz1 hz2 rfl (by decide) v ls.length (syCells ls) hv hm.own _ 1 sy.cells.toList hx (src_sym hB) (by simp only[maxLen];omega) (by omega) ?_
 intro v' w' hown hfr hnew _
 refine h v' w' ⟨by rw[List.length_append,syCells_snoc];exact hown,fun k hk=> ?_⟩ hfr hnew
 rcases hnew k hk with h|h
 ·exact hm.new k h
 ·omega
end Lz
end Go.Proofs.YtffoddpjfgjelaaGreatDoor
