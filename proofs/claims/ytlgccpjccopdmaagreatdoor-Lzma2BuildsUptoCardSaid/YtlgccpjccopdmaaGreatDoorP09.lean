/- Part 9 of 54: lemmas of the last part, each under the conditions that it names. -/
import Derived.Test.YtlgccpjccopdmaaGreatDoorP07
import Derived.Test.YtlgccpjccopdmaaGreatDoorP08
set_option linter.unusedVariables false
set_option linter.unusedSimpArgs false
set_option maxRecDepth 1500
set_option maxHeartbeats 1000000
namespace Go.Proofs.YtlgccpjccopdmaaGreatDoor
open Go.RowKit
namespace Lz
open Mem Rc St
def C.fresh(c:C)(lc lp pb:Nat):C:={c with lc:=lc,lp:=lp,pb:=pb,s:=S.new}
theorem fresh_len(lc lp j:Nat):(fresh lc lp j).length=rowLen lc lp j:=by simp[fresh]
theorem Dec.tabs{w w1:World}{l:L}{c:C}{ps:Nat→List Nat}{sp:Bool}(h:Dec w l c ps sp){T lc lp pb:Nat}{b g:Nat→Nat}(hfr:Fr (fun _=>False) w w1)(hT:Tab w1 T b g lc lp pb S.new (fresh lc lp))
 (hT0:w.heap.size≤T)(hn:∀j,j<18→w.heap.size≤b j∧w.heap.size≤g j)(hl:lc+lp≤4)(hp:pb≤4):
 Fr l.F w (w1.setCell ⟨l.D,0,none⟩ (ptr T))∧Nx w l {l with T:=T,b:=b,g:=g}∧Dec (w1.setCell ⟨l.D,0,none⟩ (ptr T)) {l with T:=T,b:=b,g:=g} (c.fresh lc lp pb) (fresh lc lp) sp:=by
 have hd:=hfr.keep h.d (fun h=>h)
 have hD:=lt_of_block h.d
 have hs:Fr (fun k=>k=l.D) w1 (w1.setCell ⟨l.D,0,none⟩ (ptr T)):=Fr.one _ _ _ _
 refine⟨(lift hfr).trans (hs.mono (fun i _(e:i=l.D)=>.inl e)),⟨rfl,fun k hk=> ?_⟩,⟨set_in hd 0 _,⟨hs.keep hT.box (show¬T=l.D by omega),fun j hj=> ?_,hT.inj⟩,?_,⟨hl,hp,S.new_ok⟩,fun j _=>fresh_len lc lp j⟩⟩
 ·rcases hk with hk|hk|hk|hk|⟨j,hj,hk|hk⟩
  ·exact .inl (.inl hk)
  ·exact .inr (by simp only at hk;omega)
  ·exact .inl (.inr (.inr (.inl hk)))
  ·exact .inl (.inr (.inr (.inr (.inl hk))))
  ·have:=hn j hj
   exact .inr (by simp only at hk;omega)
  ·have:=hn j hj
   exact .inr (by simp only at hk;omega)
 ·have:=hn j hj
  exact(hT.set j hj).step hs (fun(e:b j=l.D)=>by omega) (fun(e:g j=l.D)=>by omega)
 ·refine(h.win.keep hfr (fun h=>h) (fun _ _ h=>h)).keep hs (fun(e:l.W=l.D)=> ?_) (fun k hk(e:k=l.D)=> ?_)
  ·have h1:=h.win.box
   rw[e,h.d] at h1
   simp at h1
  ·rcases h.win.own.2 with⟨hnil,_⟩|⟨g2,cap,cur,hgv,_,hg2,_⟩
   ·rw[hnil] at hk
    simp[Value.ownBlock] at hk
   ·rw[hgv] at hk
    simp only[Value.ownBlock,Option.some.injEq] at hk
    rw[hk,e,h.d] at hg2
    simp at hg2
theorem clear_calls{l:L}{c:C}{ps:Nat→List Nat}{sp:Bool}{w:World}(h:Dec w l c ps sp):
 Calls Tryz.prog 87 #[ptr l.D] w fun e w'=>e=.returned (.tuple #[])∧Fr l.F w w'∧∃l',Nx w l l'∧Dec w' l' {c.fresh c.lc c.lp c.pb with all:=[]} (fresh c.lc c.lp) false:=by
 have HT:=fun W=>Hd (tables_calls c.lc c.lp c.pb W h.okc.l)
 unfold NewPost at HT
 have x0:w.cell? ⟨l.D,0,none⟩=some (ptr l.T):=cell_in h.d rfl
 have x1:w.cell? ⟨l.T,0,none⟩=some (.int .i64 c.lc):=cell_in h.tab.box rfl
 have x2:w.cell? ⟨l.T,1,none⟩=some (.int .i64 c.lp):=cell_in h.tab.box rfl
 have x3:w.cell? ⟨l.T,2,none⟩=some (.int .i64 c.pb):=cell_in h.tab.box rfl
 have H0:=Hd h
 clear h
 go_enter Tryz.func87,Tryz.ntmps87
 go_wp2_with fail
 refine(HT _).out.mono ?_
 rintro e w2 ⟨T,b,g,rfl,hfr2,hTab,hT0,hn⟩
 have h2:=H0.out.keep0 hfr2
 have KEY:=Hd (H0.out.tabs hfr2 hTab hT0 hn H0.out.okc.l H0.out.okc.pb)
 have y0:w2.cell? ⟨l.D,0,none⟩=some (ptr l.T):=cell_in h2.d rfl
 have y1:w2.cell? ⟨l.D,1,none⟩=some (ptr l.W):=cell_in h2.d rfl
 have yf:=frozen_in h2.d 0
 have HC:=Hd (Win.clear_calls l.W c.size l.t l.rv c.all l.ring _ KEY.out.2.2.win)
 clear hfr2 hTab hn h2 x0 x1 x2 x3
 go_wp2_with fail
 refine HC.out.mono ?_
 rintro e w3 ⟨rfl,hfr3,hW3⟩
 have k:=KEY.out.2.2
 have hd3:=hfr3.keep k.d (fun(e:l.D=l.W)=>by
  have h1:=k.win.box
  simp only[←e] at h1
  rw[k.d] at h1
  simp at h1)
 have z0:w3.cell? ⟨l.D,2,none⟩=some (.bool sp):=cell_in hd3 rfl
 have zf:=frozen_in hd3 2
 have FIN:Fr l.F w (w3.setCell ⟨l.D,2,none⟩ (.bool false))∧∃l',Nx w l l'∧Dec (w3.setCell ⟨l.D,2,none⟩ (.bool false)) l' {c.fresh c.lc c.lp c.pb with all:=[]} (fresh c.lc c.lp) false:=by
  have hs:Fr (fun k=>k=l.D) w3 (w3.setCell ⟨l.D,2,none⟩ (.bool false)):=Fr.one _ _ _ _
  have hne:∀{k:Nat}{cs:Array Value}{t:TypeId}{fr:Nat×Nat},w3.heap[k]? =some (.cells cs t fr)→t≠240→¬k=l.D:=by
   intro k cs t fr hk h1 e
   rw[e,hd3] at hk
   simp only[Option.some.injEq,Obj.cells.injEq] at hk
   exact h1 hk.2.1.symm
  have hne2:∀{k:Nat}{cs:Array Value}{t:TypeId}{fr:Nat×Nat},(w2.setCell ⟨l.D,0,none⟩ (ptr T)).heap[k]? =some (.cells cs t fr)→t≠178→¬k=l.W:=by
   intro k' cs t fr hk h1 e
   have h4:=k.win.box
   simp only at h4
   rw[e,h4] at hk
   simp only[Option.some.injEq,Obj.cells.injEq] at hk
   exact h1 hk.2.1.symm
  refine⟨(KEY.out.1.trans (hfr3.mono (fun i _(e:i=l.W)=>.inr (.inr (.inl e))))).trans (hs.mono (fun i _(e:i=l.D)=>.inl e)),{l with T:=T,b:=b,g:=g,rv:=.slice none 0 0,ring:=[],t:=0},⟨rfl,fun k' hk=> ?_⟩,?_⟩
  ·refine KEY.out.2.1.F k' ?_
   rcases hk with hk|hk|hk|hk|hk
   ·exact .inl hk
   ·exact .inr (.inl hk)
   ·exact .inr (.inr (.inl hk))
   ·simp[Value.ownBlock] at hk
   ·exact .inr (.inr (.inr (.inr hk)))
  ·have htb:=k.tab.box
   refine⟨set_in hd3 2 _,⟨hs.keep (hfr3.keep k.tab.box (hne2 k.tab.box (by decide))) (hne (hfr3.keep k.tab.box (hne2 k.tab.box (by decide))) (by decide)),fun j hj=> ?_,k.tab.inj⟩,hW3.keep hs (hne hW3.box (by decide)) (fun k hk=>by simp[Value.ownBlock] at hk),⟨k.okc.l,k.okc.pb,S.new_ok⟩,k.len⟩
   have hj2:=k.tab.set j hj
   obtain⟨_,_,hb,hg,_⟩:=k.tab.set j hj
   have hj3:=hj2.step hfr3 (hne2 hb (by decide)) (hne2 hg (by decide))
   obtain⟨_,_,hb3,hg3,_⟩:=hj2.step hfr3 (hne2 hb (by decide)) (hne2 hg (by decide))
   exact hj3.step hs (hne hb3 (by decide)) (hne hg3 (by decide))
 have FIN:=Hd FIN
 clear hfr3 hW3 k hd3
 go_wp2_with fail
 go_end0
 exact⟨rfl,FIN.out⟩
theorem zero_props(w:World):Calls Tryz.prog 40 #[.agg #[.int .i64 0,.int .i64 0,.int .i64 0]] w fun e w'=>(∃x,e=.returned (.tuple #[.int .i64 x,.int .i64 0]))∧Fr (fun _=>False) w w':=props_ok 0 0 0 (by omega) (by omega) w
theorem zero_tables(w:World):Calls Tryz.prog 58 #[.agg #[.int .i64 0,.int .i64 0,.int .i64 0]] w (NewPost 0 0 0 w):=tables_calls 0 0 0 w (by omega)
theorem dnew_in(n:Nat)(w:World)(h1:1≤n)(h2:n≤4294967295):
 Calls Tryz.prog 85 #[.agg #[.int .i64 0,.int .i64 0,.int .i64 0],.int .i64 n] w fun e w'=>Fr (fun _=>False) w w'∧∃l:L,e=.returned (.tuple #[ptr l.D,.int .i64 0])∧Dec w' l ⟨0,0,0,S.new,n,[]⟩ (fresh 0 0) false∧∀k,l.F k→w.heap.size≤k:=by
 have hx:=heap_alloc_new w (.cells #[.int .i64 0,.int .i64 0,.int .i64 0] 24)
 have hf0:=(Fr.refl (fun _=>False) w).alloc (.cells #[.int .i64 0,.int .i64 0,.int .i64 0] 24)
 have HT:=fun W=>Hd (zero_tables W)
 unfold NewPost at HT
 have HX:=Hd hx
 have HF:=Hd hf0
 clear hx hf0
 go_enter Tryz.func85,Tryz.ntmps85
 go_wp2_with fail
 refine(zero_props _).mono ?_
 rintro e w1 ⟨⟨x,rfl⟩,hfr1⟩
 have hx1:=hfr1.keep HX.out (fun h=>h)
 have HX1:=Hd hx1
 have HF1:=Hd (HF.out.trans hfr1)
 clear hfr1 hx1
 go_wp2_with fail
 refine(Win.new_in n _ (by omega) h2).mono ?_
 rintro e w2 ⟨rfl,hfr2,hW2⟩
 have hx2:=hfr2.keep HX1.out (fun h=>h)
 obtain⟨z0,z1,z2⟩:=cs3 hx2 rfl rfl rfl
 have HF2:=Hd hfr2
 have HW2:=Hd hW2
 clear hfr2 hW2 hx2
 go_wp2_with fail
 refine(HT _).out.mono ?_
 rintro e w3 ⟨T,b,g,rfl,hfr3,hTab,hT0,hn⟩
 have hb:=heap_alloc_new w3 (.cells #[ptr T,ptr w1.heap.size,.bool false] 240)
 have hf4:=(Fr.refl (fun _=>False) w3).alloc (.cells #[ptr T,ptr w1.heap.size,.bool false] 240)
 have FIN:=Hd (show Fr (fun _=>False) w (w3.alloc (.cells #[ptr T,ptr w1.heap.size,.bool false] 240))∧Dec (w3.alloc (.cells #[ptr T,ptr w1.heap.size,.bool false] 240)) ⟨0,w3.heap.size,0,T,w1.heap.size,.slice none 0 0,.slice none 0 0,[],0,b,g⟩ ⟨0,0,0,S.new,n,[]⟩ (fresh 0 0) false∧∀k,L.F ⟨0,w3.heap.size,0,T,w1.heap.size,.slice none 0 0,.slice none 0 0,[],0,b,g⟩ k→w.heap.size≤k from by
  have hs1:=HF1.out.size
  have hs2:=HF2.out.size
  have hs3:=hfr3.size
  refine⟨((HF1.out.trans HF2.out).trans hfr3).trans hf4,⟨hb,⟨hf4.keep hTab.box (fun h=>h),fun j hj=>(hTab.set j hj).keep hf4,hTab.inj⟩,(HW2.out.keep hfr3 (fun h=>h) (fun _ _ h=>h)).keep hf4 (fun h=>h) (fun _ _ h=>h),⟨by simp,by simp,S.new_ok⟩,fun j _=>fresh_len 0 0 j⟩,fun k hk=> ?_⟩
  rcases hk with hk|hk|hk|hk|⟨j,hj,hk|hk⟩
  ·simp only at hk
   omega
  ·simp only at hk
   omega
  ·simp only at hk
   omega
  ·simp[Value.ownBlock] at hk
  ·have:=hn j hj
   simp only at hk
   omega
  ·have:=hn j hj
   simp only at hk
   omega)
 clear hfr3 hTab hn hb hf4
 go_wp2_with fail
 go_ret2
 exact⟨FIN.out.1,_,rfl,FIN.out.2⟩
theorem dnew_out(n:Int)(w:World)(h:n<1∨4294967295<n):
 Calls Tryz.prog 85 #[.agg #[.int .i64 0,.int .i64 0,.int .i64 0],.int .i64 n] w fun e w'=>Fr (fun _=>False) w w'∧e=.returned (.tuple #[.pointer none,.int .i64 7]):=by
 have HF:=Hd ((Fr.refl (fun _=>False) w).alloc (.cells #[.int .i64 0,.int .i64 0,.int .i64 0] 24))
 have HW:=fun W=>Hd (Win.new_out n W h)
 clear h
 go_enter Tryz.func85,Tryz.ntmps85
 go_wp2_with fail
 refine(zero_props _).mono ?_
 rintro e w1 ⟨⟨x,rfl⟩,hfr1⟩
 have HF1:=Hd (HF.out.trans hfr1)
 clear hfr1
 go_wp2_with fail
 refine(HW _).out.mono ?_
 rintro e w2 ⟨rfl,rfl⟩
 go_wp2_with fail
 go_ret2
 exact⟨HF1.out,rfl⟩
end Lz
namespace Lz
open Mem Rc St
theorem next_err_same(s t:S)(y:Sy):(s.next y).1=(t.next y).1:=by
 unfold S.next
 repeat' split
 all_goals rfl
theorem apply_len{size:Nat}{all:List UInt8}{s:S}{y:Sy}(h:(apply size all s y).1=0)(hk:y.kind=1∨y.kind=2∨y.kind=3∨y.kind=4):(apply size all s y).2.1.length=St.size y:=by
 unfold apply at*
 unfold St.size
 rw[next_err_same S.new s y]
 by_cases h0:(s.next y).1=0
 ·rw[if_pos h0] at h ⊢
  rw[if_pos h0]
  by_cases h1:y.kind=1
  ·rw[if_pos h1,if_neg (by omega)]
   rfl
  ·rw[if_neg h1] at h ⊢
   by_cases h2:1≤distOf s y∧distOf s y≤min size all.length
   ·rw[if_pos h2]
    simp only[Win.copied_len,lenOfSy]
    by_cases h4:y.kind=4
    ·rw[if_pos h4,if_neg (by omega)]
    ·rw[if_neg h4,if_pos (by omega)]
   ·rw[if_neg h2] at h
    simp at h
 ·rw[if_neg h0] at h
  exact absurd h h0
theorem apply_ok{size:Nat}{all:List UInt8}{s:S}{y:Sy}(h:(apply size all s y).1=0)(hs:s.Ok):(apply size all s y).2.2.Ok:=by
 unfold apply at*
 by_cases h0:(s.next y).1=0
 ·rw[if_pos h0] at h ⊢
  have:=S.next_ok hs h0
  split
  ·exact this
  ·split
   ·exact this
   ·rename_i h1 h2
    rw[if_neg h1,if_neg h2] at h
    simp at h
 ·rw[if_neg h0] at h
  exact absurd h h0
def C.on(c:C)(bytes:List UInt8):C:={c with all:=c.all++bytes}
def C.to(c:C)(s:S):C:={c with s:=s}
def takeGo(n:Nat):Nat→C→Y→List Sy→List UInt8→Option (C×Y×List Sy×List UInt8)
 |0,_,_,_,_=>none
 |f+1,c,y,l,out=>
   if n≤out.length then some (c,y,l,out)
   else if(y.symbol c).2.bad=true∨St.size (y.symbol c).1<1∨n-out.length<St.size (y.symbol c).1 then none
   else if(apply c.size c.all c.s (y.symbol c).1).1≠0 then none
   else takeGo n f ((c.on (apply c.size c.all c.s (y.symbol c).1).2.1).to (apply c.size c.all c.s (y.symbol c).1).2.2) (y.symbol c).2 (l++[(y.symbol c).1]) (out++(apply c.size c.all c.s (y.symbol c).1).2.1)
def takeAll(c:C)(ps:Nat→List Nat)(xs:List UInt8)(n:Nat):Option (List Sy×List UInt8×C×(Nat→List Nat)):=
 match init xs with
 |.error _=>none
 |.ok d=>match takeGo n (n+1) c ⟨d,false,ps⟩ [] [] with
   |none=>none
   |some (c2,y2,l,out)=>if y2.d.read=y2.d.b.length∧y2.d.now=0 then some (l,out,c2,y2.ps) else none
theorem own_block{w:World}{T:TypeId}{size n:Nat}{v:Value}{xs:List Value}(h:w.ownsRow 0 T size v n xs){k:Nat}(hk:v.ownBlock=some k):∃cur,w.heap[k]? =some (.cells cur T (0,0)):=by
 rcases h.2 with⟨hn,_⟩|⟨g,cap,cur,hgv,_,hg2,_⟩
 ·rw[hn] at hk
  simp[Value.ownBlock] at hk
 ·rw[hgv] at hk
  simp only[Value.ownBlock,Option.some.injEq] at hk
  exact⟨cur,hk ▸ hg2⟩
theorem own_stepN{S:Nat→Prop}{w w':World}{T:TypeId}{size n:Nat}{v:Value}{xs:List Value}(h:w.ownsRow 0 T size v n xs)(hfr:Fr S w w')(hS:∀k,v.ownBlock=some k→¬S k):w'.ownsRow 0 T size v n xs:=by
 obtain⟨h1,h2⟩:=h
 refine⟨h1,?_⟩
 rcases h2 with h2|⟨g,cap,cur,rfl,h4,hg,hrest⟩
 ·exact .inl h2
 ·exact .inr ⟨g,cap,cur,rfl,h4,hfr.keep hg (hS g rfl),hrest⟩
def owned(t:TypeId):Prop:=t=296∨t=240∨t=188∨t=178∨t=327∨t=305∨t=3
instance (t:TypeId):Decidable (owned t):=by unfold owned;infer_instance
end Lz
namespace En
open Mem Rc St Lz
structure K where
 a:Nat
 s:Nat
 r:Nat
def K.new:K:=⟨0,0,4294967295⟩
def K.widen(k:K):K:=if 16777216≤k.r then k else⟨k.a*256,k.s+1,k.r*256⟩
def K.cut(k:K)(c b:Nat):K:=if b=0 then⟨k.a,k.s,c⟩ else⟨k.a+c,k.s,k.r-c⟩
def K.bit(k:K)(p b:Nat):K:=(k.cut (cutAt k.r p) b).widen
def K.half0(k:K)(b:Nat):K:=⟨k.a+b*(k.r/2),k.s,k.r/2⟩
def K.half(k:K)(b:Nat):K:=(k.half0 b).widen
def digs:Nat→Nat→List UInt8
 |0,_=>[]
 |n+1,a=>digs n (a/256)++[UInt8.ofNat (a%256)]
def K.bytes(k:K):List UInt8:=digs (k.s+5) k.a
structure K.Ok(k:K):Prop where
 lo:16777216≤k.r
 hi:k.r<4294967296
 top:k.a+k.r≤256^k.s*4294967296
def K.In(k f:K):Prop:=∃d,f.s=k.s+d∧k.a*256^d≤f.a∧f.a+f.r≤(k.a+k.r)*256^d
theorem digs_len:∀n a,(digs n a).length=n
 |0,_=>rfl
 |n+1,a=>by simp[digs,digs_len n]
theorem digs_get:∀(n a i:Nat),i<n→(digs n a)[i]? =some (UInt8.ofNat (a/256^(n-1-i)%256))
 |0,_,i,h=>by omega
 |n+1,a,i,h=>by
   rw[digs]
   by_cases hi:i<n
   ·rw[List.getElem?_append_left (by rw[digs_len];exact hi),digs_get n (a/256) i hi,Nat.div_div_eq_div_mul,show n+1-1-i=(n-1-i)+1 by omega,Nat.pow_succ,Nat.mul_comm 256]
   ·obtain rfl:i=n:=by omega
    rw[List.getElem?_append_right (by rw[digs_len];exact Nat.le_refl _),digs_len]
    simp
theorem K.In.refl(k:K):k.In k:=⟨0,rfl,by simp,by simp⟩
theorem K.In.trans{k m f:K}(h:k.In m)(g:m.In f):k.In f:=by
 obtain⟨d,h1,h2,h3⟩:=h
 obtain⟨e,g1,g2,g3⟩:=g
 refine⟨d+e,by omega,?_,?_⟩
 ·rw[Nat.pow_add,←Nat.mul_assoc]
  exact Nat.le_trans (Nat.mul_le_mul_right _ h2) g2
 ·rw[Nat.pow_add,←Nat.mul_assoc]
  exact Nat.le_trans g3 (Nat.mul_le_mul_right _ h3)
theorem K.in_widen(k:K):k.In k.widen:=by
 unfold K.widen
 split
 ·exact .refl _
 ·exact⟨1,rfl,by simp,by simp only[Nat.pow_one];omega⟩
theorem K.in_cut{k:K}{c:Nat}(b:Nat)(hc:c≤k.r):k.In (k.cut c b):=by
 unfold K.cut
 split
 ·exact⟨0,rfl,by simp,by simp only[Nat.pow_zero];omega⟩
 ·exact⟨0,rfl,by simp,by simp only[Nat.pow_zero];omega⟩
theorem K.in_half0(k:K){b:Nat}(hb:b≤1):k.In (k.half0 b):=by
 unfold K.half0
 refine⟨0,rfl,by simp,?_⟩
 simp only[Nat.pow_zero]
 rcases(show b=0∨b=1 by omega) with rfl|rfl<;>omega
theorem K.widen_ok{k:K}(h0:65536≤k.r)(h1:k.r<4294967296)(h2:k.a+k.r≤256^k.s*4294967296):k.widen.Ok:=by
 unfold K.widen
 split
 ·exact⟨by assumption,h1,h2⟩
 ·refine⟨by simp only;omega,by simp only;omega,?_⟩
  simp only[Nat.pow_succ]
  omega
theorem cut_bd{r p:Nat}(h0:16777216≤r)(hp:31≤p)(hp2:p≤2017):65536≤cutAt r p∧cutAt r p+65536≤r:=by
 unfold cutAt
 have h1:r/2048*31≤r/2048*p:=Nat.mul_le_mul_left _ hp
 have h2:r/2048*p≤r/2048*2017:=Nat.mul_le_mul_left _ hp2
 omega
theorem K.bit_ok{k:K}(h:k.Ok){p:Nat}(b:Nat)(hp:31≤p)(hp2:p≤2017):(k.bit p b).Ok:=by
 obtain⟨h1,h2,h3⟩:=h
 have hc:=cut_bd h1 hp hp2
 unfold K.bit K.cut
 split
 ·exact K.widen_ok (by simp only;omega) (by simp only;omega) (by simp only;omega)
 ·exact K.widen_ok (by simp only;omega) (by simp only;omega) (by simp only;omega)
theorem K.half_ok{k:K}(h:k.Ok){b:Nat}(hb:b≤1):(k.half b).Ok:=by
 obtain⟨h1,h2,h3⟩:=h
 unfold K.half K.half0
 rcases(show b=0∨b=1 by omega) with rfl|rfl
 ·exact K.widen_ok (by simp only;omega) (by simp only;omega) (by simp only;omega)
 ·exact K.widen_ok (by simp only;omega) (by simp only;omega) (by simp only;omega)
structure Sync(f k:K)(d:D):Prop where
 b:d.b=f.bytes
 read:d.read=k.s+5
 rng:d.rng=k.r
 now:d.now+k.a=f.a/256^(f.s-k.s)
theorem in_div{k f:K}(h:k.In f)(hf:0<f.r):k.s≤f.s∧k.a≤f.a/256^(f.s-k.s)∧f.a/256^(f.s-k.s)<k.a+k.r:=by
 obtain⟨d,h1,h2,h3⟩:=h
 have hp:0<256^d:=Nat.pow_pos (by omega)
 rw[show f.s-k.s=d by omega]
 exact⟨by omega,(Nat.le_div_iff_mul_le hp).2 h2,(Nat.div_lt_iff_lt_mul hp).2 (by omega)⟩
theorem Sync.widen{f k:K}{d:D}(h:Sync f k d)(hin:k.widen.In f)(hf:0<f.r):∃e,d.widen=some e∧Sync f k.widen e:=by
 unfold D.widen
 rw[h.rng]
 unfold K.widen at*
 by_cases hr:16777216≤k.r
 ·rw[if_pos hr] at hin ⊢
  rw[if_pos hr]
  exact⟨d,rfl,h⟩
 ·rw[if_neg hr] at hin ⊢
  rw[if_neg hr]
  have hi:=(in_div hin hf).1
  simp only at hi
  have hg:=digs_get (f.s+5) f.a (k.s+5) (by omega)
  rw[h.b,h.read]
  unfold K.bytes
  rw[hg]
  refine⟨_,rfl,rfl,?_,?_,?_⟩
  ·simp only
  ·simp only
  ·simp only
   have hn:=h.now
   have e1:f.s-k.s=(f.s-(k.s+1))+1:=by omega
   have e2:f.s+5-1-(k.s+5)=f.s-(k.s+1):=by omega
   rw[e1,Nat.pow_succ,←Nat.div_div_eq_div_mul] at hn
   rw[e2]
   have hb:(UInt8.ofNat (f.a/256^(f.s-(k.s+1))%256)).toNat=f.a/256^(f.s-(k.s+1))%256:=by
    rw[UInt8.toNat_ofNat']
    omega
   rw[hb]
   omega
theorem Sync.bit{f k:K}{d:D}(h:Sync f k d){p b:Nat}(hb:b≤1)(hk:16777216≤k.r)(hp:31≤p)(hp2:p≤2017)(hin:(k.bit p b).In f)(hf:0<f.r):∃e,d.bit p=some (b,e)∧Sync f (k.bit p b) e:=by
 have hc:=cut_bd hk hp hp2
 have h0:=in_div ((k.cut (cutAt k.r p) b).in_widen.trans hin) hf
 have hn:=h.now
 have key:(d.upper (cutAt d.rng p)).1=b∧Sync f (k.cut (cutAt k.r p) b) (d.upper (cutAt d.rng p)).2:=by
  rw[h.rng]
  unfold D.upper K.cut at*
  rcases(show b=0∨b=1 by omega) with rfl|rfl
  ·simp only[if_true] at h0 ⊢
   rw[if_pos (by omega)]
   exact⟨rfl,h.b,h.read,rfl,hn⟩
  ·simp only[Nat.one_ne_zero,if_false] at h0 ⊢
   rw[if_neg (by omega)]
   exact⟨rfl,h.b,h.read,by simp only;rw[h.rng],by simp only;omega⟩
 obtain⟨e,he,hs⟩:=key.2.widen hin hf
 refine⟨e,?_,hs⟩
 unfold D.bit
 rw[he,key.1]
 rfl
theorem Sync.half{f k:K}{d:D}(h:Sync f k d){b:Nat}(hb:b≤1)(hin:(k.half b).In f)(hf:0<f.r):
 (if d.rng/2≤d.now then d.now-d.rng/2 else d.now)≠d.rng/2∧(decide (d.rng/2≤d.now)=decide (b=1))∧∃e,(⟨d.b,d.read,d.rng/2,if d.rng/2≤d.now then d.now-d.rng/2 else d.now⟩:D).widen=some e∧Sync f (k.half b) e:=by
 have h0:=in_div ((k.half0 b).in_widen.trans hin) hf
 have hn:=h.now
 rw[h.rng]
 unfold K.half0 at h0
 simp only at h0
 rcases(show b=0∨b=1 by omega) with rfl|rfl
 ·have hlt:¬k.r/2≤d.now:=by omega
  rw[if_neg hlt]
  refine⟨by omega,by simp[hlt],?_⟩
  exact Sync.widen (k:=k.half0 0) ⟨h.b,h.read,rfl,by simp only[K.half0];omega⟩ hin hf
 ·have hge:k.r/2≤d.now:=by omega
  rw[if_pos hge]
  refine⟨by omega,by simp[hge],?_⟩
  exact Sync.widen (k:=k.half0 1) ⟨h.b,h.read,rfl,by simp only[K.half0];omega⟩ hin hf
end En
set_option maxRecDepth 100000
namespace En
open Mem Rc
structure G where
 low:Nat
 rng:Nat
 held:Nat
 wait:Nat
 out:List UInt8
def G.new:G:=⟨0,4294967295,0,0,[]⟩
def carry(g:G):Nat:=g.low/4294967296
def G.fixed(g:G):List UInt8:=g.out++UInt8.ofNat (g.held+carry g)::List.replicate g.wait (UInt8.ofNat (255+carry g))
def G.shift(g:G):G:=
 if g.low<4278190080∨4294967295<g.low then⟨g.low%16777216*256,g.rng,g.low/16777216%256,0,g.fixed⟩
 else⟨g.low%16777216*256,g.rng,g.held,g.wait+1,g.out⟩
def G.widen(g:G):G:=if 16777216≤g.rng then g else G.shift ⟨g.low,g.rng*256,g.held,g.wait,g.out⟩
def G.bit(g:G)(p b:Nat):G:=(if b=0 then⟨g.low,cutAt g.rng p,g.held,g.wait,g.out⟩ else⟨g.low+cutAt g.rng p,g.rng-cutAt g.rng p,g.held,g.wait,g.out⟩:G).widen
def G.half(g:G)(b:Nat):G:=(⟨g.low+b*(g.rng/2),g.rng/2,g.held,g.wait,g.out⟩:G).widen
def G.shifts:Nat→G→G
 |0,g=>g
 |n+1,g=>G.shifts n g.shift
def G.bytes(g:G):List UInt8:=(g.shifts 5).out
def val(l:List UInt8):Nat:=l.foldl (fun v c=>v*256+c.toNat) 0
theorem val_snoc(l:List UInt8)(c:UInt8):val (l++[c])=val l*256+c.toNat:=by simp[val]
theorem val_rep(l:List UInt8)(c:UInt8):∀n,(val (l++List.replicate n c)+(if c=255 then 1 else 0))=(if c=255 then(val l+1)*256^n else if c=0 then val l*256^n else val (l++List.replicate n c))
 |0=>by
   by_cases h:c=255
   ·rw[if_pos h,if_pos h];simp
   ·rw[if_neg h,if_neg h]
    by_cases h0:c=0
    ·rw[if_pos h0];simp
    ·rw[if_neg h0];rfl
 |n+1=>by
   have ih:=val_rep l c n
   rw[List.replicate_succ',←List.append_assoc,val_snoc]
   by_cases h:c=255
   ·rw[if_pos h,if_pos h] at*
    subst h
    rw[Nat.pow_succ,←Nat.mul_assoc,←ih]
    simp only[show(255:UInt8).toNat=255 from rfl]
    omega
   ·rw[if_neg h,if_neg h] at*
    by_cases h0:c=0
    ·rw[if_pos h0] at ih ⊢
     subst h0
     rw[Nat.pow_succ,←Nat.mul_assoc,←ih]
     simp
    ·rw[if_neg h0];rfl
theorem digs_val:∀(n:Nat)(l:List UInt8),l.length=n→digs n (val l)=l
 |0,l,h=>by rw[List.length_eq_zero_iff.1 h];rfl
 |n+1,l,h=>by
   obtain rfl|⟨m,c,rfl⟩:=List.eq_nil_or_concat l
   ·simp at h
   rw[List.concat_eq_append] at*
   have hc:=UInt8.toNat_lt c
   rw[List.length_append,List.length_singleton] at h
   rw[val_snoc,digs,show(val m*256+c.toNat)/256=val m by omega,digs_val n m (by omega),show(val m*256+c.toNat)%256=c.toNat by omega]
   simp
structure Ab(g:G)(a s r:Nat):Prop where
 val:(val g.out*256+g.held+1)*256^g.wait*4294967296+g.low=a+4294967296
 s:g.out.length+g.wait=s
 held:g.held≤255
 low:g.low+r≤8589934592
 top:g.held=255→g.low+r≤4294967296
 pos:1≤r
theorem Ab.mono{g:G}{a s r q:Nat}(h:Ab g a s r)(hq:q≤r)(h1:1≤q):Ab g a s q:=
 ⟨h.val,h.s,h.held,by have:=h.low;omega,fun e=>by have:=h.top e;omega,h1⟩
theorem Ab.fixed{g:G}{a s r:Nat}(h:Ab g a s r)(hl:g.low<4278190080∨4294967295<g.low):(En.val g.fixed+(1-carry g))=(En.val g.out*256+g.held+1)*256^g.wait∧g.fixed.length=s+1∧carry g≤1:=by
 have h1:=h.low
 have h2:=h.top
 have h3:=h.held
 have h4:=h.pos
 have hc:carry g≤1:=by unfold carry;omega
 refine⟨?_,by unfold G.fixed;simp;have:=h.s;omega,hc⟩
 unfold G.fixed
 rw[show g.out++UInt8.ofNat (g.held+carry g)::List.replicate g.wait (UInt8.ofNat (255+carry g))=(g.out++[UInt8.ofNat (g.held+carry g)])++List.replicate g.wait (UInt8.ofNat (255+carry g)) by simp]
 have hv:=val_rep (g.out++[UInt8.ofNat (g.held+carry g)]) (UInt8.ofNat (255+carry g)) g.wait
 rw[val_snoc] at hv
 rcases(show carry g=0∨carry g=1 by omega) with hc0|hc0
 ·rw[hc0] at hv ⊢
  rw[if_pos (by decide),if_pos (by decide),UInt8.toNat_ofNat',show(g.held+0)%2^8=g.held by omega] at hv
  exact hv
 ·have hh:g.held≤254:=by
   by_cases e:g.held=255
   ·have:=h2 e
    unfold carry at hc0
    omega
   ·omega
  rw[hc0] at hv ⊢
  rw[if_neg (by decide),if_neg (by decide),if_pos (by decide),UInt8.toNat_ofNat',show(g.held+1)%2^8=g.held+1 by omega] at hv
  exact hv
theorem emit_val'(T P F q m low a c:Nat)(hP:P=256*T)(hlow:low=c*P+q*T+m)(hc:c≤1)(h5:(F+(1-c))*P+low=a+P):(F*256+q+1)*P+m*256=a*256+P:=by
 have e1:q*P=256*(q*T):=by rw[hP];exact Nat.mul_left_comm ..
 have e2:F*256*P=256*(F*P):=by rw[Nat.mul_comm F,Nat.mul_assoc]
 simp only[Nat.add_mul,Nat.one_mul] at h5 ⊢
 rcases(show c=0∨c=1 by omega) with rfl|rfl
 ·simp only[Nat.zero_mul,Nat.sub_zero,Nat.one_mul] at*
  omega
 ·simp only[Nat.sub_self,Nat.zero_mul,Nat.one_mul] at*
  omega
theorem wait_val'(T P F m low a:Nat)(hP:P=256*T)(hlow:low=255*T+m)(h5:F*P+low=a+P):F*256*P+m*256=a*256+P:=by
 have e2:F*256*P=256*(F*P):=by rw[Nat.mul_comm F,Nat.mul_assoc]
 omega
theorem emit_val(F low a c:Nat){r:Nat}(hc:c=low/4294967296)(h1:low+r≤8589934592)(h4:1≤r)(hl:low<4278190080∨4294967295<low)(h5:(F+(1-c))*4294967296+low=a+4294967296):
 (F*256+low/16777216%256+1)*4294967296+low%16777216*256=a*256+4294967296:=
 emit_val' 16777216 4294967296 F (low/16777216%256) (low%16777216) low a c rfl (by clear h5;omega) (by clear h5;omega) h5
theorem wait_val(F low a:Nat)(hl:4278190080≤low∧low≤4294967295)(h5:F*4294967296+low=a+4294967296):F*256*4294967296+low%16777216*256=a*256+4294967296:=
 wait_val' 16777216 4294967296 F (low%16777216) low a rfl (by clear h5;omega) h5
theorem Ab.shift{g:G}{a s r:Nat}(h:Ab g a s r)(hr:r≤16777216):Ab g.shift (a*256) (s+1) (r*256):=by
 have h1:=h.low
 have h2:=h.top
 have h3:=h.held
 have h4:=h.pos
 have h5:=h.val
 have h6:=h.s
 have hm:g.low%16777216<16777216:=Nat.mod_lt _ (by decide)
 unfold G.shift
 by_cases hl:g.low<4278190080∨4294967295<g.low
 ·rw[if_pos hl]
  obtain⟨f1,f2,f3⟩:=h.fixed hl
  refine⟨?_,by simp only;omega,by simp only;omega,by simp only;omega,?_,by omega⟩
  ·simp only[Nat.pow_zero,Nat.mul_one]
   rw[←f1] at h5
   exact emit_val (En.val g.fixed) g.low a (carry g) rfl h1 h4 hl h5
  ·simp only
   intro e
   rcases hl with hl|hl
   ·omega
   ·omega
 ·rw[if_neg hl]
  have hl2:4278190080≤g.low∧g.low≤4294967295:=by omega
  refine⟨?_,by simp only;omega,h3,by simp only;omega,fun e=>by simp only at e ⊢;have:=h2 e;omega,by omega⟩
  simp only[Nat.pow_succ]
  rw[←Nat.mul_assoc]
  exact wait_val _ _ _ hl2 h5
structure Is(g:G)(k:K):Prop where
 ab:Ab g k.a k.s k.r
 rng:g.rng=k.r
 ok:k.Ok
theorem is_new:Is G.new K.new:=⟨⟨by decide,rfl,by decide,by decide,by decide,by decide⟩,rfl,⟨by decide,by decide,by decide⟩⟩
theorem G.widen_is{g:G}{k:K}(h:Ab g k.a k.s k.r)(hr:g.rng=k.r)(hk:k.widen.Ok):Is g.widen k.widen:=by
 refine⟨?_,?_,hk⟩
 ·unfold G.widen K.widen
  rw[hr]
  split
  ·exact h
  ·have h1:Ab ⟨g.low,k.r*256,g.held,g.wait,g.out⟩ k.a k.s k.r:=⟨h.val,h.s,h.held,h.low,h.top,h.pos⟩
   exact h1.shift (by omega)
 ·unfold G.widen K.widen
  rw[hr]
  split
  ·exact hr
  ·unfold G.shift
   split<;>rfl
theorem Is.bit{g:G}{k:K}(h:Is g k){p:Nat}(b:Nat)(hp:31≤p)(hp2:p≤2017):Is (g.bit p b) (k.bit p b):=by
 have hc:=cut_bd h.ok.lo hp hp2
 have hok:=K.bit_ok h.ok b hp hp2
 have hr:=h.rng
 obtain⟨a1,a2,a3,a4,a5,a6⟩:=h.ab
 unfold G.bit K.bit K.cut at*
 rw[hr]
 by_cases hb:b=0
 ·rw[if_pos hb] at hok ⊢
  rw[if_pos hb]
  exact G.widen_is ⟨a1,a2,a3,by simp only;omega,fun e=>by have:=a5 e;simp only;omega,by simp only;omega⟩ rfl hok
 ·rw[if_neg hb] at hok ⊢
  rw[if_neg hb]
  exact G.widen_is ⟨by simp only;omega,a2,a3,by simp only;omega,fun e=>by have:=a5 e;simp only;omega,by simp only;omega⟩ rfl hok
theorem Is.half{g:G}{k:K}(h:Is g k){b:Nat}(hb:b≤1):Is (g.half b) (k.half b):=by
 have hok:=K.half_ok h.ok hb
 have hlo:=h.ok.lo
 have hr:=h.rng
 obtain⟨a1,a2,a3,a4,a5,a6⟩:=h.ab
 unfold G.half K.half K.half0 at*
 rw[hr]
 rcases(show b=0∨b=1 by omega) with rfl|rfl
 ·exact G.widen_is ⟨by simp only;omega,a2,a3,by simp only;omega,fun e=>by have:=a5 e;simp only;omega,by simp only;omega⟩ rfl hok
 ·exact G.widen_is ⟨by simp only;omega,a2,a3,by simp only;omega,fun e=>by have:=a5 e;simp only;omega,by simp only;omega⟩ rfl hok
theorem Is.bytes{g:G}{k:K}(h:Is g k):g.bytes=k.bytes:=by
 have a0:=h.ab.mono (q:=1) (by have:=h.ok.lo;omega) (Nat.le_refl _)
 have a1:=a0.shift (by decide)
 have a2:=a1.shift (by decide)
 have a3:=a2.shift (by decide)
 have a4:=a3.shift (by decide)
 have l1:∀g:G,g.shift.low=g.low%16777216*256:=fun g=>by unfold G.shift;split<;>rfl
 have l4:g.shift.shift.shift.shift.low=0:=by
  rw[l1,l1,l1,l1]
  omega
 have a5:=a4.mono (q:=1) (by decide) (Nat.le_refl _)
 have a6:=a5.shift (by decide)
 unfold G.bytes K.bytes
 show g.shift.shift.shift.shift.shift.out=_
 have e5:g.shift.shift.shift.shift.shift=⟨0,g.shift.shift.shift.shift.rng,0,0,g.shift.shift.shift.shift.fixed⟩:=by
  rw[G.shift,if_pos (by omega),l4]
 rw[e5] at a6 ⊢
 have v:=a6.val
 have s:=a6.s
 simp only[Nat.pow_zero,Nat.mul_one,Nat.add_zero] at v s
 simp only
 have hv:=digs_val _ _ s
 rw[show En.val g.shift.shift.shift.shift.fixed=k.a by omega] at hv
 exact hv.symm
end En
end Go.Proofs.YtlgccpjccopdmaaGreatDoor
