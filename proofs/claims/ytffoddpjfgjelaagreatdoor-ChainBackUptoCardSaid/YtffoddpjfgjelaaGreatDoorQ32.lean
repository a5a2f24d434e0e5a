/- Part 32 of 48: lemmas of the last part, each under the conditions that it names. -/
import Derived.Deep.RegionLaw
import Derived.Deep.RegionHeld3
import Derived.Test.YtffoddpjfgjelaaGreatDoorQ02
import Derived.Test.YtffoddpjfgjelaaGreatDoorQ03
import Derived.Test.YtffoddpjfgjelaaGreatDoorQ07
import Derived.Test.YtffoddpjfgjelaaGreatDoorQ08
import Derived.Test.YtffoddpjfgjelaaGreatDoorQ12
import Derived.Test.YtffoddpjfgjelaaGreatDoorQ27
import Derived.Test.YtffoddpjfgjelaaGreatDoorQ31
set_option linter.unusedVariables false
set_option linter.unusedSimpArgs false
set_option maxRecDepth 1500
set_option maxHeartbeats 2000000
namespace Go.Proofs.YtffoddpjfgjelaaGreatDoor
open Go.RowKit
namespace En
open Mem Rc Win Lz
theorem shifts_succ:∀(n:Nat)(g:G),g.shifts (n+1)=(g.shifts n).shift
 |0,g=>rfl
 |n+1,g=>shifts_succ n g.shift
theorem Is.shifts{g:G}{k:K}(h:Is g k):∀j,j≤4→∃a,Ab (g.shifts j) a (k.s+j) (256^j)
 |0,_=>⟨k.a,h.ab.mono (by have:=h.ok.lo;simp;omega) (Nat.le_refl _)⟩
 |j+1,hj=>by
   obtain⟨a,ha⟩:=h.shifts j (by omega)
   have hp:256^j≤16777216:=Nat.le_trans (Nat.pow_le_pow_right (by omega) (show j≤3 by omega)) (by decide)
   rw[shifts_succ,Nat.pow_succ]
   exact⟨_,ha.shift hp⟩
theorem new_calls(w:World):Calls Tryz.prog 66 #[] w fun e w'=>e=.returned (ptr w.heap.size)∧Fr (fun _=>False) w w'∧EAt w' w.heap.size (.slice none 0 0) G.new:=by
 go_enter Tryz.func66,Tryz.ntmps66
 go_wp2_with fail
 go_ret
 exact⟨rfl,(Fr.refl _ w).alloc _,heap_alloc_new w _,World.ownsRow_nil _ _ _ _⟩
theorem bytes_calls{w:World}{B:Nat}{v:Value}{g:G}{k:K}(h:EAt w B v g)(hk:Is g k)(hs:k.s≤1099511627000):
 Calls Tryz.prog 134 #[ptr B] w fun e w'=>∃v',e=.returned v'∧Fr (fun _=>False) w w'∧Mine w w' v' k.bytes:=by
 have HF:=Hd (fork_calls h (by have:=hk.ab.s;omega))
 have HSH:=Hd (show∀(w1:World)(B1:Nat)(v1:Value)(j:Nat),EAt w1 B1 v1 (g.shifts j)→j<5→Calls Tryz.prog 198 #[ptr B1] w1 fun e w'=>e=.returned (.tuple #[])∧EPost B1 v1 w1 (g.shifts (j+1)) w' from fun w1 B1 v1 j ha hj=>by
  obtain⟨a,hab⟩:=hk.shifts j (by omega)
  have hp:=hab.pos
  have hlo:=hab.low
  rw[shifts_succ]
  exact shift_calls ha (by omega) hab.held (by have:=hab.s;omega))
 have HKB:=Hd hk.bytes
 unfold G.bytes at HKB
 clear h hk hs
 go_enter Tryz.func134,Tryz.ntmps134
 go_wp2_with fail
 refine HF.out.mono ?_
 rintro e w1 ⟨B1,rfl,hB1,hfr,v1,ha,hn⟩
 have H0:=Hd (show EPost B1 v1 w1 (g.shifts 0) w1 from ha.same)
 have HFR:=Hd hfr
 have HN:=Hd hn
 clear hfr ha hn HF
 go_wp2_with fail
 go_loopw [6](fun s6 wr=>∃j:Nat,j≤5∧s6=.int .i64 j∧EPost B1 v1 w1 (g.shifts j) wr) (fun s6 _=>5-(intOf s6).toNat)
 case atStart=>exact⟨0,by omega,rfl,H0.out⟩
 case round=>
  obtain⟨j,hj,rfl,f2,v2,a2,n2⟩:=hrel
  have HP:=Hd (show EPost B1 v1 w1 (g.shifts j) wr from⟨f2,v2,a2,n2⟩)
  by_cases h5:j<5
  ·have hc:=HSH.out wr B1 v2 j a2 h5
   have HC:=Hd hc
   have HF2:=Hd f2
   have HN2:=Hd n2
   clear f2 a2 n2 hc
   go_wp2_with fail
   refine HC.out.mono ?_
   rintro e w3 ⟨rfl,hp⟩
   have HP3:=Hd (EPost.trans HF2.out HN2.out hp)
   clear hp
   go_wp2_with fail
   go_roundw
   case rel=>exact⟨j+1,by omega,by go_num,HP3.out⟩
   case measure=>simp[intOf];omega
  ·obtain rfl:j=5:=by omega
   have c4:wr.cell? ⟨B1,4,none⟩=some v2:=cell_in a2.box rfl
   have HA2:=Hd a2
   have HF2:=Hd f2
   have HN2:=Hd n2
   clear f2 a2 n2 h5
   go_wp2_with fail
   go_ret
   have hl:∀k,v2.ownBlock=some k→w.heap.size≤k:=fun k hk=>(HN2.out k hk).elim (HN.out k) (fun e=>Nat.le_trans HFR.out.size e)
   refine⟨v2,rfl,HFR.out.trans' HF2.out (fun i hi e=> ?_),?_⟩
   ·rcases e with e|e
    ·omega
    ·have:=HN.out i e
     omega
   ·rw[←HKB.out]
    exact⟨HA2.out.own,hl⟩
end En
namespace En
open Mem Rc Win Lz Tr
def TAt(w:World)(B:Nat)(v:Value)(b gb:Nat)(e:Es)(j:Nat):Prop:=∃g,EAt w B v g∧Is g e.k∧Prob.SetAt w b gb (e.ps j)
def TF(B:Nat)(v:Value)(gb k:Nat):Prop:=EF B v k∨k=gb
def TPost(B:Nat)(v:Value)(b gb:Nat)(w:World)(e:Es)(j:Nat)(w':World):Prop:=Fr (TF B v gb) w w'∧∃v',TAt w' B v' b gb e j∧∀k,v'.ownBlock=some k→v.ownBlock=some k∨w.heap.size≤k
theorem TAt.same{w:World}{B b gb j:Nat}{v:Value}{e:Es}(h:TAt w B v b gb e j):TPost B v b gb w e j w:=⟨Fr.refl _ _,v,h,fun k hk=>.inl hk⟩
theorem TAt.keep{S:Nat→Prop}{w w':World}{B b gb j:Nat}{v:Value}{e:Es}(h:TAt w B v b gb e j)(hfr:Fr S w w')(hS:∀k,k<w.heap.size→¬S k):TAt w' B v b gb e j:=by
 obtain⟨g,h1,h2,h3⟩:=h
 exact⟨g,h1.keep hfr (hS _ (lt_of_block h1.box)) (fun k hk=>hS k (World.ownsRow.lt h1.own k hk).2),h2,h3.step hfr (hS _ h3.lt.1) (hS _ h3.lt.2)⟩
theorem TPost.trans{w w1 w2:World}{B b gb j:Nat}{v v1:Value}{e:Es}(h1:Fr (TF B v gb) w w1)(hn:∀k,v1.ownBlock=some k→v.ownBlock=some k∨w.heap.size≤k)(h2:TPost B v1 b gb w1 e j w2):TPost B v b gb w e j w2:=by
 obtain⟨f,v2,a,n⟩:=h2
 refine⟨h1.trans' f (fun k hk e=> ?_),v2,a,fun k hk=> ?_⟩
 ·rcases e with(e|e)|e
  ·exact .inl (.inl e)
  ·rcases hn k e with e|e
   ·exact .inl (.inr e)
   ·omega
  ·exact .inr e
 ·rcases n k hk with e|e
  ·exact hn k e
  ·exact .inr (Nat.le_trans h1.size e)
theorem TAt.off{w:World}{B b gb j:Nat}{v:Value}{e:Es}(h:TAt w B v b gb e j){k:Nat}{cs:Array Value}{t:TypeId}{fr:Nat×Nat}(hk:w.heap[k]? =some (.cells cs t fr))(h1:t≠219)(h2:t≠5)(h3:t≠3∨k≠gb):¬TF B v gb k:=by
 obtain⟨g,a,_,s⟩:=h
 rintro((rfl|e)|rfl)
 ·rw[a.box] at hk
  simp only[Option.some.injEq,Obj.cells.injEq] at hk
  exact h1 hk.2.1.symm
 ·exact off_box a.own hk h2 _ e rfl
 ·obtain⟨_,_,_,hg,_⟩:=s
  rcases h3 with h3|h3
  ·rw[hg] at hk
   simp only[Option.some.injEq,Obj.cells.injEq] at hk
   exact h3 hk.2.1.symm
  ·exact h3 rfl
theorem tbit_calls{w:World}{B b gb j i bit lc lp:Nat}{v:Value}{e:Es}(h:TAt w B v b gb e j)(hok:e.Ok lc lp)(ho:Op.Ok lc lp (.bit j i bit))(hs:e.k.s≤1099511627776):
 Calls Tryz.prog 343 #[ptr B,ptr b,.int .i64 i,.int .i64 bit] w fun r w'=>r=.returned (.int .i64 0)∧TPost B v b gb w (e.op (.bit j i bit)) j w':=by
 obtain⟨g,a,hg,s⟩:=h
 obtain⟨f1,f2,f3,f4⟩:=hg.fit hs
 obtain⟨p1,p2,p3⟩:=hok.at ho.1 ho.2.1
 refine(ebit_calls a f1 f2 f3 f4 s p1 p2 p3 ho.2.2).mono ?_
 rintro r w' ⟨rfl,hf,⟨v',a',n'⟩,s'⟩
 refine⟨rfl,hf,v',⟨_,a',hg.bit bit p2 p3,?_⟩,n'⟩
 show Prob.SetAt w' b gb (upd e.ps j _ j)
 rw[upd_same]
 exact s'
theorem op_s(e:Es)(o:Op):(e.op o).k.s≤e.k.s+1:=by
 cases o with
 |bit j i b=>exact K.bit_s _ _ _
 |half b=>exact K.half_s _ _
theorem run_s:∀(l:List Op)(e:Es),(e.run l).k.s≤e.k.s+l.length
 |[],e=>Nat.le_refl _
 |o::l,e=>by
   have h1:=op_s e o
   have h2:=run_s l (e.op o)
   rw[Es.run,List.length_cons]
   omega
structure Bx(w:World)(z B b x n:Nat)(back:Bool):Prop where
 e:w.heap[z]? =some (.cells #[ptr B] 146 (0,0))
 s:w.heap[z+1]? =some (.cells #[ptr b] 211 (0,0))
 n:w.heap[z+2]? =some (.cells #[.int .i64 n] 3 (0,0))
 x:w.heap[z+3]? =some (.cells #[.int .i64 x] 3 (0,0))
 back:w.heap[z+4]? =some (.cells #[.bool back] 4 (0,0))
theorem Bx.keep{w w':World}{z B b x n gb j:Nat}{v:Value}{e:Es}{back:Bool}(h:Bx w z B b x n back)(ht:TAt w B v b gb e j)(hz:gb<z)(hfr:Fr (TF B v gb) w w'):Bx w' z B b x n back:=
 ⟨hfr.keep h.e (ht.off h.e (by decide) (by decide) (.inl (by decide))),hfr.keep h.s (ht.off h.s (by decide) (by decide) (.inl (by decide))),hfr.keep h.n (ht.off h.n (by decide) (by decide) (.inr (by omega))),hfr.keep h.x (ht.off h.x (by decide) (by decide) (.inr (by omega))),hfr.keep h.back (ht.off h.back (by decide) (by decide) (.inl (by decide)))⟩
abbrev cap(z:Nat):Array Value:=#[ptr (z+3),ptr (z+4),ptr (z+2),ptr z,ptr (z+1)]
theorem bit_of(x o:Nat)(hx:x<65536):bits BinOp.and IntKind.i64 ((x:Int)/2^o) 1=((x/2^o%2:Nat):Int):=by
 have e:(x:Int)/2^o=((x/2^o:Nat):Int):=by simp
 have hl:x/2^o≤x:=Nat.div_le_self _ _
 have:=and_low (x/2^o) 1 (by omega) (by decide)
 rw[e]
 simpa using this
theorem put1_calls{w:World}{z B b gb j a m k n x lc lp:Nat}{v:Value}{e:Es}{back:Bool}(h:TAt w B v b gb e j)(hb:Bx w z B b x n back)(hok:e.Ok lc lp)(hk:k<n)(hn:n≤16)(hx:x<65536)(ho:Op.Ok lc lp (.bit j (a+m) (x/2^ord back n k%2)))(hs:e.k.s≤1099511627776)(pl:Int)(hpl:pl=((a+m:Nat):Int)):
 Calls Tryz.prog 349 (#[.int .i64 pl,.int .i64 k]++cap z) w fun r w'=>r=.returned (.tuple #[.int .i64 ((x/2^ord back n k%2:Nat):Int),.int .i64 0])∧TPost B v b gb w (e.op (.bit j (a+m) (x/2^ord back n k%2))) j w':=by
 have c0:=cell_in (i:=0) hb.x rfl
 have c1:=cell_in (i:=0) hb.back rfl
 have c2:=cell_in (i:=0) hb.n rfl
 have hq:=bit_of x (ord back n k) hx
 have HB:=Hd (show∀q,Fr (fun _=>False) w (w.drewN q) from fun q=>(Fr.refl _ w).drewN q)
 have HT:=Hd (fun q=>tbit_calls (h.keep (HB.out q) (fun _ _ h=>h)) hok ho hs)
 rw[←hpl] at HT
 have hm:min (ord back n k) 64=ord back n k:=by have:ord back n k<n:=(by unfold ord;split<;>omega);omega
 have HE:=Hd (fun q=>(HB.out q).keep hb.e (fun h=>h))
 have HS:=Hd (fun q=>(HB.out q).keep hb.s (fun h=>h))
 have HO:=Hd (fun w=>order_calls back n k w hk hn)
 clear h hb hok ho hpl
 generalize x/2^ord back n k%2=bt at*
 go_enter Tryz.func349,Tryz.ntmps349
 go_wp2_with fail
 go_quiet ((go_at_call 318;exact quiet_left (HO.out _)))
 have d0:=cell_in (i:=0) (HE.out nq) rfl
 have d1:=cell_in (i:=0) (HS.out nq) rfl
 clear c0 c1 c2 HE HS
 go_wp2_with fail
 refine(HT.out nq).mono ?_
 rintro r w2 ⟨rfl,hp⟩
 have HP:=Hd (TPost.trans (v1:=v) ((HB.out nq).mono (fun _ _ h=>h.elim)) (fun k hk=>.inl hk) hp)
 clear hp
 go_wp2_with fail
 go_ret2
 exact⟨rfl,HP.out⟩
structure PRel(w0:World)(B:Nat)(v:Value)(b gb j a n x lc lp:Nat)(back:Bool)(fin:Es)(k m:Nat)(wr:World):Prop where
 le:k≤n
 hm:m<2^(k+1)
 ok:∃e,TPost B v b gb w0 e j wr∧e.Ok lc lp∧e.k.s+(n-k)≤1099511627776∧e.run (treeOps back j a n x (n-k) m)=fin∧∀o ∈ treeOps back j a n x (n-k) m,o.Ok lc lp
theorem pdown_calls{w:World}{z B b gb j a n x lc lp:Nat}{v:Value}{e:Es}{back:Bool}(h:TAt w B v b gb e j)(hb:Bx w z B b x n back)(hz:gb<z)(hok:e.Ok lc lp)(hn:n≤16)(hx:x<65536)(ha:a≤1099511627776)(ho:∀o ∈ treeOps back j a n x n 1,o.Ok lc lp)(hs:e.k.s+n≤1099511627776):
 Calls Tryz.prog 316 #[.int .i64 a,.int .i64 n,.func (Fn.func 349) #[] (cap z)] w fun r w'=>r=.returned (.int .i64 0)∧TPost B v b gb w (e.run (treeOps back j a n x n 1)) j w':=by
 have HB:=Hd (fun(wr:World)(hf:Fr (TF B v gb) w wr)=>hb.keep h hz hf)
 have H0:=Hd (show PRel w B v b gb j a n x lc lp back (e.run (treeOps back j a n x n 1)) 0 1 w from⟨Nat.zero_le _,by decide,e,h.same,hok,hs,rfl,ho⟩)
 generalize e.run (treeOps back j a n x n 1)=fin at*
 clear h hb hok ho hs
 go_enter Tryz.func316,Tryz.ntmps316
 go_wp2_with fail
 go_loopw [7,8,9,10,12](fun s7 _ _ _ i wr=>∃k m:Nat,i=.int .i64 k∧s7=.int .i64 m∧PRel w B v b gb j a n x lc lp back fin k m wr) (fun _ _ _ _ i _=>n-(intOf i).toNat)
 case atStart=>exact⟨0,1,rfl,rfl,H0.out⟩
 case round=>
  obtain⟨k,m,rfl,rfl,hk,hm,e1,⟨f1,v1,t1,n1⟩,ok1,s1,r1,o1⟩:=hrel
  by_cases hlt:k<n
  ·obtain⟨f,hf⟩:∃f,n-k=f+1:=⟨n-k-1,by omega⟩
   have hkf:n-(f+1)=k:=by omega
   rw[hf] at s1 r1 o1
   rw[treeOps,hkf] at r1 o1
   have hp:(2:Nat)^(k+1)≤2^16:=Nat.pow_le_pow_right (by omega) (by omega)
   have hb1:x/2^ord back n k%2≤1:=by omega
   have hO:=o1 _ (List.mem_cons_self ..)
   have HC:=Hd (fun(pl:Int)(hpl:pl=((a+m:Nat):Int))=>put1_calls t1 (HB.out wr f1) ok1 hlt hn hx hO (by omega) pl hpl)
   have HF1:=Hd f1
   have HN1:=Hd n1
   have HOK:=Hd (ok1.op hO).1
   have HSS:=Hd (show(e1.op (.bit j (a+m) (x/2^ord back n k%2))).k.s+f≤1099511627776 by have:=op_s e1 (.bit j (a+m) (x/2^ord back n k%2));omega)
   have HR:=Hd (show(e1.op (.bit j (a+m) (x/2^ord back n k%2))).run (treeOps back j a n x f (2*m+x/2^ord back n k%2))=fin from r1)
   have HO:=Hd (fun o ho=>o1 o (List.mem_cons_of_mem _ ho))
   have hmb:m≤65536:=by omega
   have HMB:=Hd (show 2*m+x/2^ord back n k%2<2^(k+1+1) by rw[Nat.pow_succ];omega)
   clear f1 t1 n1 ok1 s1 r1 o1 hO hp hm
   generalize e1.op (.bit j (a+m) (x/2^ord back n k%2))=e2 at*
   generalize x/2^ord back n k%2=bt at*
   go_wp2_with fail
   refine(HC.out _ (by omega)).mono ?_
   rintro r w2 ⟨rfl,hp⟩
   have HP:=Hd (TPost.trans HF1.out HN1.out hp)
   clear hp
   go_wp2_with fail
   go_roundw
   case rel=>exact⟨k+1,2*m+bt,by go_num,by go_num,by omega,HMB.out,e2,HP.out,HOK.out,by have:=HSS.out;omega,by rw[show n-(k+1)=f by omega];exact HR.out,by rw[show n-(k+1)=f by omega];exact HO.out⟩
   case measure=>simp[intOf];omega
  ·obtain rfl:k=n:=by omega
   rw[Nat.sub_self] at r1
   have HR:=Hd (show e1=fin from r1)
   have HP:=Hd (show TPost B v b gb w e1 j wr from⟨f1,v1,t1,n1⟩)
   clear f1 t1 n1 ok1 s1 r1 o1 hm hlt
   go_wp2_with fail
   go_ret
   rw[←HR.out]
   exact⟨rfl,HP.out⟩
theorem holds_calls(x n:Nat)(w:World)(hn:n≤16)(hx:x<2^n):Calls Tryz.prog 348 #[.int .i64 x,.int .i64 n] w fun e w'=>e=.returned (.bool true)∧w=w':=by
 have hp:2^n≤65536:=Nat.le_trans (Nat.pow_le_pow_right (by omega) hn) (by decide)
 have hpi:((2^n:Nat):Int)=2^n:=by simp
 have hw2:IntKind.i64.wrap (2^n)=2^n:=by
  rw[←hpi]
  exact IntWalk.i64_in _ (by omega)
 have hw:IntKind.i64.wrap (1*2^n)=2^n:=by rw[Int.one_mul];exact hw2
 have hmin:min n 64=n:=by omega
 have t1:decide ((x:Int)<2^n)=true:=decide_eq_true (by rw[←hpi];omega)
 have z1:decide ((x:Int)≥0)=true:=by simp
 have z2:decide ((0:Int)≤(x:Int))=true:=by simp
 clear hp hpi hx
 go_enter Tryz.func348,Tryz.ntmps348
 go_wp2_with fail
 go_ret
 exact⟨rfl,rfl⟩
theorem put_calls{w:World}{B b gb j a n x lc lp:Nat}{v:Value}{e:Es}{back:Bool}(h:TAt w B v b gb e j)(hok:e.Ok lc lp)(hn:n≤16)(hx:x<2^n)(ha:a+2^n≤Lz.rowLen lc lp j)(hj:j<18)(hs:e.k.s+n≤1099511627776)(hl:Lz.rowLen lc lp j≤1099511627776):
 Calls Tryz.prog 346 #[ptr B,ptr b,.int .i64 a,.int .i64 n,.int .i64 x,.bool back] w fun r w'=>r=.returned (.int .i64 0)∧TPost B v b gb w (e.run (treeOps back j a n x n 1)) j w':=by
 have hp16:2^n≤65536:=Nat.le_trans (Nat.pow_le_pow_right (by omega) hn) (by decide)
 have hlen:=hok.len j hj
 have hops:=(tree_reads (lc:=lc) (lp:=lp) back hj hx hn ha).1
 obtain⟨hfr,hsz,b1,b2,b3,b4,b5⟩:=five w (.cells #[ptr B] 146) (.cells #[ptr b] 211) (.cells #[.int .i64 n] 3) (.cells #[.int .i64 x] 3) (.cells #[.bool back] 4)
 have HT:=Hd (h.keep hfr (fun _ _ h=>h))
 have HBX:=Hd (show Bx _ w.heap.size B b x n back from⟨b1,b2,b3,b4,b5⟩)
 have HFR:=Hd hfr
 have HSZ:=Hd hsz
 have hgl:gb<w.heap.size:=by obtain⟨_,_,_,s⟩:=h;exact s.lt.2
 have HTH:=Hd (fun(W:World)(hf:Fr (fun _=>False) w W)=>show Calls Tryz.prog 315 #[ptr b,.int .i64 a,.int .i64 n] W (fun r w'=>r=.returned (.bool true)∧Fr (fun _=>False) W w') from by
  obtain⟨_,_,_,s⟩:=h
  have:=there_calls b gb a n (e.ps j) W (s.keep hf) (by omega) (by omega) (by omega)
  rwa [show thereB (e.ps j) a n=true from decide_eq_true ⟨hn,by omega,by omega⟩] at this)
 have HDN:=Hd (fun(W:World)(hf:Fr (fun _=>False) w W)(hbx:Bx W w.heap.size B b x n back)=>pdown_calls (h.keep hf (fun _ _ h=>h)) hbx hgl hok hn (by omega) (by omega) hops hs)
 clear hfr hsz b1 b2 b3 b4 b5 h hok hops
 go_enter Tryz.func346,Tryz.ntmps346
 go_wp2_with fail
 generalize hz:w.heap.size=z at*
 generalize World.alloc (World.alloc (World.alloc (World.alloc (World.alloc w _) _) _) _) _=W at*
 refine(HTH.out W HFR.out).mono ?_
 rintro r w2 ⟨rfl,hf2⟩
 have hb2:Bx w2 z B b x n back:=⟨hf2.keep HBX.out.e (fun h=>h),hf2.keep HBX.out.s (fun h=>h),hf2.keep HBX.out.n (fun h=>h),hf2.keep HBX.out.x (fun h=>h),hf2.keep HBX.out.back (fun h=>h)⟩
 have d3:=cell_in (i:=0) hb2.x rfl
 have d2:=cell_in (i:=0) hb2.n rfl
 have HB2:=Hd hb2
 have HF2:=Hd (HFR.out.trans hf2)
 have HH:=Hd (holds_calls x n w2 hn hx)
 clear hb2 hf2
 go_wp2_with fail
 refine HH.out.mono ?_
 rintro r w3 ⟨rfl,rfl⟩
 go_wp2_with fail
 refine(HDN.out w2 HF2.out HB2.out).mono ?_
 rintro r w4 ⟨rfl,hp⟩
 have HP:=Hd (TPost.trans (v1:=v) (HF2.out.mono (fun _ _ h=>h.elim)) (fun k hk=>.inl hk) hp)
 clear hp
 go_wp2_with fail
 go_ret
 exact⟨rfl,HP.out⟩
theorem tput_calls{w:World}{B b gb j a n x lc lp:Nat}{v:Value}{e:Es}(h:TAt w B v b gb e j)(hok:e.Ok lc lp)(hn:n≤16)(hx:x<2^n)(ha:a+2^n≤Lz.rowLen lc lp j)(hj:j<18)(hs:e.k.s+n≤1099511627776)(hl:Lz.rowLen lc lp j≤1099511627776):
 Calls Tryz.prog 345 #[ptr B,ptr b,.int .i64 a,.int .i64 n,.int .i64 x] w fun r w'=>r=.returned (.int .i64 0)∧TPost B v b gb w (e.run (treeOps false j a n x n 1)) j w':=by
 have HC:=Hd (put_calls (back:=false) h hok hn hx ha hj hs hl)
 clear h hok
 generalize e.run (treeOps false j a n x n 1)=e2 at*
 go_enter Tryz.func345,Tryz.ntmps345
 go_wp2_with fail
 refine HC.out.mono ?_
 rintro r w4 ⟨rfl,hp⟩
 go_wp2_with fail
 go_ret
 exact⟨rfl,hp⟩
theorem tback_calls{w:World}{B b gb j a n x lc lp:Nat}{v:Value}{e:Es}(h:TAt w B v b gb e j)(hok:e.Ok lc lp)(hn:n≤16)(hx:x<2^n)(ha:a+2^n≤Lz.rowLen lc lp j)(hj:j<18)(hs:e.k.s+n≤1099511627776)(hl:Lz.rowLen lc lp j≤1099511627776):
 Calls Tryz.prog 342 #[ptr B,ptr b,.int .i64 a,.int .i64 n,.int .i64 x] w fun r w'=>r=.returned (.int .i64 0)∧TPost B v b gb w (e.run (treeOps true j a n x n 1)) j w':=by
 have HC:=Hd (put_calls (back:=true) h hok hn hx ha hj hs hl)
 clear h hok
 generalize e.run (treeOps true j a n x n 1)=e2 at*
 go_enter Tryz.func342,Tryz.ntmps342
 go_wp2_with fail
 refine HC.out.mono ?_
 rintro r w4 ⟨rfl,hp⟩
 go_wp2_with fail
 go_ret
 exact⟨rfl,hp⟩
end En
namespace Enc
open Mem Win
theorem src_set{w:World}{b g:Nat}{ps:List Nat}(h:Prob.SetAt w b g ps):∃cap,w.heap[b]? =some (.cells #[.slice (some ⟨g,0,none⟩) ps.length cap] 360 (0,0))∧
 Src Tryz.prog 1 94 (.slice (some ⟨g,0,none⟩) ps.length cap) ps.length (ps.map (fun p:Nat=>Value.int .i64 (p:Int))) w:=by
 obtain⟨cap,cs,h1,h2,h3,h4,h5,h6⟩:=h
 refine⟨cap,h1,Src.ofSlice w Tryz.underlying94 ⟨g,0,none⟩ ps.length cap _ (by simp) (fun j u hj=> ?_) (fun u hu=> ?_)⟩
 ·rw[List.getElem?_map] at hj
  cases hp:ps[j]? with
  |none=>rw[hp] at hj;cases hj
  |some p=>
    rw[hp] at hj
    cases hj
    have:=cell_in h2 (h5 j p hp).1
    simp only[Addr.add,Nat.zero_add]
    split
    ·rename_i hj0
     subst hj0
     exact this
    ·exact this
 ·obtain⟨x,_,rfl⟩:=List.mem_map.1 hu
  rfl
theorem winFork_calls(B size t:Nat)(rv:Value)(all ring:List UInt8)(w:World)(h:At w B rv size all ring t)(hr:ring.length≤70368744177664):
 Calls Tryz.prog 120 #[.pointer (some ⟨B,0,none⟩)] w fun e w'=>∃b' rv',e=.returned (.pointer (some ⟨b',0,none⟩))∧Fr (fun _=>False) w w'∧w.heap.size≤b'∧At w' b' rv' size all ring t∧(∀k,rv'.ownBlock=some k→w.heap.size≤k):=by
 obtain⟨p,cap,rfl⟩:=h.slice
 have HH:=Hd h
 have hlB:=lt_of_block h.box
 have c0:w.cell? ⟨B,0,none⟩=some (.int .i64 size):=cell_in h.box rfl
 have c1:w.cell? ⟨B,1,none⟩=some (.slice p ring.length cap):=cell_in h.box rfl
 have c2:w.cell? ⟨B,2,none⟩=some (.int .i64 t):=cell_in h.box rfl
 have c3:w.cell? ⟨B,3,none⟩=some (.int .i64 all.length):=cell_in h.box rfl
 clear h
 have hsz:=(w.alloc (.cells #[.int .i64 size,.slice p ring.length cap,.int .i64 t,.int .i64 all.length] 210)).heap.size
 have hm0:Mine w ((w.alloc (.cells #[.int .i64 size,.slice p ring.length cap,.int .i64 t,.int .i64 all.length] 210)).alloc (.cells #[] 5)) (.slice (some ⟨w.heap.size+1,0,none⟩) 0 0) []:=by
  have h1:=World.ownsRow_made (base:=0) (e:=5) (size:=1) (w.alloc (.cells #[.int .i64 size,.slice p ring.length cap,.int .i64 t,.int .i64 all.length] 210)) #[] 0 (Nat.zero_le _) (by decide) rfl
  rw[World.size_alloc] at h1
  refine⟨h1,fun k hk=> ?_⟩
  simp only[Value.ownBlock,Option.some.injEq] at hk
  omega
 have HM0:=Hd hm0
 have hf0:Fr (fun _=>False) w ((w.alloc (.cells #[.int .i64 size,.slice p ring.length cap,.int .i64 t,.int .i64 all.length] 210)).alloc (.cells #[] 5)):=((Fr.refl _ w).alloc _).alloc _
 have HF0:=Hd hf0
 have hx0:=((R0 (w.alloc (.cells #[.int .i64 size,.slice p ring.length cap,.int .i64 t,.int .i64 all.length] 210))).alloc (.cells #[] 5)).keep (heap_alloc_new w (.cells #[.int .i64 size,.slice p ring.length cap,.int .i64 t,.int .i64 all.length] 210)) (fun h=>h)
 have HX0:=Hd hx0
 have hrd0:Rd ((w.alloc (.cells #[.int .i64 size,.slice p ring.length cap,.int .i64 t,.int .i64 all.length] 210)).alloc (.cells #[] 5)) (.slice p ring.length cap) ring:=HH.out.rd.keep hf0
 have HR0:=Hd hrd0
 have hRL:=Hd hr
 obtain⟨rl,hrl⟩:∃rl,rl=ring.length:=⟨_,rfl⟩
 have HRL:=Hd hrl
 rw[←hrl] at c1
 clear hm0 hf0 hx0 hrd0 hr hsz hrl
 go_enter Tryz.func120,Tryz.ntmps120
 go_wp2_with (at_builtin;refine append_mine rfl _ _ rfl (w0:=w) (.slice (some ⟨w.heap.size+1,0,none⟩) 0 0) (.slice p rl cap) [] ring rfl rfl (by rw[HRL.out];exact HM0.out) (by rw[HRL.out];exact HF0.out.size) (by rw[HRL.out];exact HR0.out) (by have:=hRL.out;simp only[List.length_nil];omega) ?_;intro p2 cap2 n2 w2 hn2 hM2 hfr2 hnew2;have hx2:=hfr2.keep (by rw[HRL.out];exact HX0.out) (fun h=>by simp[Value.ownBlock] at h);have z1:=cell_in (i:=1) hx2 rfl;have zf:=frozen_in hx2 1;have HX2:=Hd hx2;have HM2:=Hd hM2;have HF2:=Hd hfr2;have HN2:=Hd hnew2;have HL2:=Hd hn2;clear hx2 hM2 hfr2 hnew2 hn2)
 go_ret
 have hM2:=HM2.out
 rw[List.nil_append] at hM2
 have hl2:=HL2.out
 rw[List.length_nil,Nat.zero_add] at hl2
 subst hl2
 have hne:∀k,(Value.slice p2 ring.length cap2).ownBlock=some k→w.heap.size+1≤k:=fun k hk=>by
  rcases HN2.out k hk with h|h
  ·simp only[Value.ownBlock,Option.some.injEq] at h
   omega
  ·rw[World.size_alloc,World.size_alloc] at h
   omega
 refine⟨w.heap.size,.slice p2 ring.length cap2,rfl,?_,Nat.le_refl _,⟨?_,?_,HH.out.of,HH.out.pos,HH.out.top,HH.out.much,fun k hk=>by have:=hne k hk;omega⟩,fun k hk=>by have:=hne k hk;omega⟩
 ·exact(HF0.out.trans' (by have:=HF2.out;rw[HRL.out] at this;exact this) (fun i hi(h:(Value.slice (some ⟨w.heap.size+1,0,none⟩) 0 0).ownBlock=some i)=>by
   simp only[Value.ownBlock,Option.some.injEq] at h
   omega)).setCell (.inr (Nat.le_refl _)) _
 ·rw[set_in HX2.out]
  rfl
 ·exact ownsRow_setCell_other hM2.own (fun h=>by
   have:=hne _ h
   simp only at this
   omega) _
end Enc
namespace Enc
open Mem Win
section
variable {P:Program}(w:World)
theorem run_append_nil(t tx ty e:TypeId)(i:TypeInfo)(z:Value)(size bytes:Nat)(ht:P.underlying t=some (.slice e))(hi:P.info? e=some i)(hz:i.zero=some z)
 (hsize:i.size=size)(hby:i.bytes=bytes)(hzs:z.cells.size=size)(hsz:0<size)(x:Value)(m:Nat)(news:List Value)(hs:Src P size tx x m news w)(hm:0<m)
 (h63:m≤maxLen)(hbytes:m*bytes≤140737488355328):
 (Builtin.append_ #[t,tx] ty #[.slice none 0 0,x]).run P w=.ok (.slice (some ⟨w.heap.size,0,none⟩) m (grownCap w m 0 e)) (w.drew.alloc (.cells (news.toArray++Builtin.zeroCells z.cells (grownCap w m 0 e-m)) e))∧m≤grownCap w m 0 e∧grownCap w m 0 e≤maxLen:=by
 subst hsize
 subst hby
 have hsmall:m≤9223372036854775807:=by simp only[maxLen] at h63;omega
 have hr:=run_append_grow_src (P:=P) w t tx ty e i z ht hi hz none 0 0 [] (run_firstCells_none w.drew i.size 0 0 0) x m news hs (by omega) (by omega) (growslice_fits (by omega) (by simpa using hbytes))
 simp only[Nat.zero_add,List.nil_append] at hr
 exact⟨hr,grownCap_ge w m 0 e,grownCap_le_maxLen w m 0 e h63⟩
end
section
variable {P:Program}(w:World)
theorem wpList_append_nil{ops:Array Oper}{rest:List Oper}{o:Oper}{a:Act}{Q:Exit→Act→World→Prop}(hgd:o.guard=none)(s y:Operand)(t tx:TypeId)
 (ho:o.op=.call {callee:=.builtin .append,args:=#[s,y],argTypes:=#[t,tx]})
 (e:TypeId)(i:TypeInfo)(z:Value)(size bytes:Nat)(ht:P.underlying t=some (.slice e))(hi:P.info? e=some i)(hz:i.zero=some z)
 (hsize:i.size=size)(hby:i.bytes=bytes)(hzs:z.cells.size=size)(hsz:0<size)
 (hv:a.eval s=.slice none 0 0)(x:Value)(m:Nat)(news:List Value)(hx:a.eval y=x)(hs:Src P size tx x m news w)(hm:0<m)
 (h63:m≤maxLen)(hbytes:m*bytes≤140737488355328)
 (h:∀cap,m≤cap→cap≤maxLen→wpList P ops Q rest (a.put o.dst (.slice (some ⟨w.heap.size,0,none⟩) m cap)) (w.drew.alloc (.cells (news.toArray++Builtin.zeroCells z.cells (cap-m)) e))):wpList P ops Q (o::rest) a w:=by
 obtain⟨hr,h1,h2⟩:=run_append_nil (P:=P) w t tx o.type e i z size bytes ht hi hz hsize hby hzs hsz x m news hs hm h63 hbytes
 refine wpList_plain hgd fun _ hK=> ?_
 unfold Oper.wp execOp
 simp only[ho,resolve,invoke,builtin,Sem.run_bind,Sem.run_pure,Result.andThen_ok,List.map_toArray,List.map_cons,List.map_nil,hv,hx,hr]
 exact hK _ _ (h _ h1 h2)
end
def NewSet(w:World)(ps:List Nat)(e:Ending)(w':World):Prop:=∃q,e=.returned (.pointer (some ⟨q+1,0,none⟩))∧Fr (fun _=>False) w w'∧w.heap.size≤q∧q+1<w'.heap.size∧Prob.SetAt w' (q+1) q ps
theorem set_le{w:World}{b g:Nat}{ps:List Nat}(h:Prob.SetAt w b g ps):∀p ∈ ps,p≤2047:=by
 obtain⟨cap,cs,h1,h2,h3,h4,h5,h6⟩:=h
 intro p hp
 obtain⟨i,hi⟩:=List.getElem?_of_mem hp
 exact(h5 i p hi).2
theorem set_new{w:World}{ps:List Nat}{cap:Nat}(h0:0<ps.length)(hc:ps.length≤cap)(hm:cap≤maxLen)(hle:∀p ∈ ps,p≤2047):
 Prob.SetAt ((w.alloc (.cells ((ps.map (fun p:Nat=>Value.int .i64 (p:Int))).toArray++Builtin.zeroCells #[.int .i64 0] (cap-ps.length)) 3)).alloc (.cells #[.slice (some ⟨w.heap.size,0,none⟩) ps.length cap] 360)) (w.heap.size+1) w.heap.size ps:=by
 have h1:=heap_alloc_new w (.cells ((ps.map (fun p:Nat=>Value.int .i64 (p:Int))).toArray++Builtin.zeroCells #[.int .i64 0] (cap-ps.length)) 3)
 have h2:=heap_alloc_new (w.alloc (.cells ((ps.map (fun p:Nat=>Value.int .i64 (p:Int))).toArray++Builtin.zeroCells #[.int .i64 0] (cap-ps.length)) 3)) (.cells #[.slice (some ⟨w.heap.size,0,none⟩) ps.length cap] 360)
 have h3:=((R0 (w.alloc (.cells ((ps.map (fun p:Nat=>Value.int .i64 (p:Int))).toArray++Builtin.zeroCells #[.int .i64 0] (cap-ps.length)) 3))).alloc (.cells #[.slice (some ⟨w.heap.size,0,none⟩) ps.length cap] 360)).keep h1 (fun h=>h)
 simp only[World.size_alloc] at h2 h3
 refine⟨cap,_,h2,h3,hc,hm,fun i p hp=>⟨?_,hle p (List.mem_of_getElem? hp)⟩,fun j x hx=> ?_⟩
 ·have hi:=(List.getElem?_eq_some_iff.1 hp).1
  rw[Array.getElem?_append_left (by simp;exact hi)]
  simp[hp]
 ·rw[Array.getElem?_append] at hx
  split at hx
  ·simp only[List.getElem?_toArray,List.getElem?_map] at hx
   cases hp:ps[j]? with
   |none=>rw[hp] at hx;exact absurd hx (by simp)
   |some p=>
     rw[hp] at hx
     simp only[Option.map_some,Option.some.injEq] at hx
     exact⟨p,hx.symm⟩
  ·have hmem:=Array.mem_of_getElem? hx
   have h5:∃a,a<cap-ps.length∧[Value.int IntKind.i64 0][a%1]?.getD default=x:=by simpa [Builtin.zeroCells] using hmem
   obtain⟨a,_,ha⟩:=h5
   rw[Nat.mod_one] at ha
   exact⟨0,ha.symm⟩
theorem setForkP_calls(b g:Nat)(ps:List Nat)(w:World)(h:Prob.SetAt w b g ps)(h0:0<ps.length)(hn:ps.length≤1048576):Calls Tryz.prog 178 #[.pointer (some ⟨b,0,none⟩)] w (NewSet w ps):=by
 obtain⟨i0,hi,hz0,hz1,hz2⟩:=info_parts Prob.infoInt
 have hle:=set_le h
 obtain⟨cap,hb,hsrc⟩:=src_set h
 have hb0:w.cell? ⟨b,0,none⟩=some (.slice (some ⟨g,0,none⟩) ps.length cap):=cell_in hb rfl
 have HSRC:=Hd hsrc
 clear hsrc h hb
 go_enter Tryz.func178,Tryz.ntmps178
 go_wp2_with (at_builtin;refine wpList_append_nil _ rfl _ _ 94 94 rfl 3 i0 (.int .i64 0) 1 8 Tryz.underlying94 hi hz0 hz1 hz2 rfl (by decide) rfl _ _ _ rfl HSRC.out h0 (by simp only[maxLen];omega) (by omega) ?_;intro cap' hc1 hc2;have HS:=Hd (set_new (w:=w) h0 hc1 hc2 hle))
 go_ret
 exact⟨w.heap.size,rfl,(((R0 w).alloc _).alloc _).drew,Nat.le_refl _,by simp,HS.out.keep (Fr.refl _ _).drew⟩
end Enc
namespace Enc
open Mem Win Lz
end Enc
namespace Enc
open Mem Win Lz St
def NewLen(w:World)(p0 p1 p2 p3:List Nat)(e:Ending)(w':World):Prop:=∃q0 q1 q2 q3,e=.returned (.agg #[ptr (q0+1),ptr (q1+1),ptr (q2+1),ptr (q3+1)])∧Fr (fun _=>False) w w'∧w.heap.size≤q0∧q0+1<q1∧q1+1<q2∧q2+1<q3∧q3+1<w'.heap.size∧
 Prob.SetAt w' (q0+1) q0 p0∧Prob.SetAt w' (q1+1) q1 p1∧Prob.SetAt w' (q2+1) q2 p2∧Prob.SetAt w' (q3+1) q3 p3
theorem up1{w w':World}{B:Nat}(h:Fr (fun _=>False) w w'):Fr (fun k=>k=B) w w':=h.mono (fun _ _ h=>h.elim)
theorem lenP_ret{P:Program}{fn:Func}{a:Act}{Q:Ending→World→Prop}{wc wx:World}{q0 q1 q2 q3:Nat}(hr:(results fn a.tmps).run P wx=.ok (.agg #[ptr q0,ptr q1,ptr q2,ptr q3]) wx)(hd:a.defers=[])
 (hq:Q (.returned (.agg #[ptr q0,ptr q1,ptr q2,ptr q3])) wx):bodyPost P fn Q .ret a wx:=bodyPost_ret hr hd hq
set_option maxRecDepth 100000 in
theorem lenForkP_calls(b0 b1 b2 b3 g0 g1 g2 g3:Nat)(p0 p1 p2 p3:List Nat)(w:World)(h0:Prob.SetAt w b0 g0 p0)(h1:Prob.SetAt w b1 g1 p1)(h2:Prob.SetAt w b2 g2 p2)(h3:Prob.SetAt w b3 g3 p3)
 (n0:0<p0.length∧p0.length≤1048576)(n1:0<p1.length∧p1.length≤1048576)(n2:0<p2.length∧p2.length≤1048576)(n3:0<p3.length∧p3.length≤1048576):
 Calls Tryz.prog 179 #[.agg #[ptr b0,ptr b1,ptr b2,ptr b3]] w (NewLen w p0 p1 p2 p3):=by
 have hf0:=((R0 w).alloc (.cells #[ptr b0,ptr b1,ptr b2,ptr b3] 214)).alloc (.cells #[.pointer none,.pointer none,.pointer none,.pointer none] 214)
 have hx:=((R0 (w.alloc (.cells #[ptr b0,ptr b1,ptr b2,ptr b3] 214))).alloc (.cells #[.pointer none,.pointer none,.pointer none,.pointer none] 214)).keep (heap_alloc_new w (.cells #[ptr b0,ptr b1,ptr b2,ptr b3] 214)) (fun h=>h)
 have hy:=heap_alloc_new (w.alloc (.cells #[ptr b0,ptr b1,ptr b2,ptr b3] 214)) (.cells #[.pointer none,.pointer none,.pointer none,.pointer none] 214)
 rw[World.size_alloc] at hy
 have HF0:=Hd hf0
 have HX:=Hd hx
 have HY:=Hd hy
 have H0:=Hd h0
 have H1:=Hd h1
 have H2:=Hd h2
 have H3:=Hd h3
 clear hf0 hx hy h0 h1 h2 h3
 go_enter Tryz.func179,Tryz.ntmps179
 go_wp2_with fail
 generalize hW:(w.alloc (.cells #[ptr b0,ptr b1,ptr b2,ptr b3] 214)).alloc (.cells #[.pointer none,.pointer none,.pointer none,.pointer none] 214)=W at*
 clear hW
 have HS:=Hd (show∀w':World,Fr (fun k=>k=w.heap.size+1) W w'→w'.cell? ⟨w.heap.size,0,none⟩=some (ptr b0)∧w'.cell? ⟨w.heap.size,1,none⟩=some (ptr b1)∧w'.cell? ⟨w.heap.size,2,none⟩=some (ptr b2)∧w'.cell? ⟨w.heap.size,3,none⟩=some (ptr b3) from fun w' h=>
  ⟨cell_in (i:=0) (h.keep HX.out (by omega)) rfl,cell_in (i:=1) (h.keep HX.out (by omega)) rfl,cell_in (i:=2) (h.keep HX.out (by omega)) rfl,cell_in (i:=3) (h.keep HX.out (by omega)) rfl⟩)
 have HR:=Hd ((R0 W).drew)
 have HSC:=Hd (HS.out W.drew (up1 (B:=w.heap.size+1) HR.out))
 obtain⟨c0,c1,c2,c3⟩:=HSC.out
 have HSZ:=Hd HF0.out.size
 go_region_held3 (fun w'=>w'.cell? ⟨w.heap.size,0,none⟩=some (ptr b0)∧w'.cell? ⟨w.heap.size,1,none⟩=some (ptr b1)∧w'.cell? ⟨w.heap.size,2,none⟩=some (ptr b2)∧w'.cell? ⟨w.heap.size,3,none⟩=some (ptr b3)) (first|with_reducible exact HSC.out|exact HS.out _ (up1 (B:=w.heap.size+1) HR.out)|exact HS.out _ (((((up1 (B:=w.heap.size+1) HR.out).setCell (.inl rfl) _).setCell (.inl rfl) _).setCell (.inl rfl) _).setCell (.inl rfl) _)) ((first
  | (go_at_call 178
     with_reducible refine(setForkP_calls b0 g0 p0 _ (H0.out.keep (HF0.out.trans HR.out)) n0.1 n0.2).mono ?_
     rintro e wc ⟨q0,rfl,hfrc,hq,hq2,hs⟩
     have HQ0:=Hd (⟨Nat.le_trans (HF0.out.trans HR.out).size hq,hq2⟩:w.heap.size≤q0∧q0+1<wc.heap.size)
     have HS0:=Hd hs
     have HR:=Hd (HR.out.trans hfrc)
     have HSC:=Hd (HS.out _ (up1 (B:=w.heap.size+1) HR.out))
     obtain⟨c0,c1,c2,c3⟩:=HSC.out
     clear hfrc hq hq2 hs)
  | (go_at_call 178
     with_reducible refine(setForkP_calls b1 g1 p1 _ (H1.out.keep (HF0.out.trans HR.out)) n1.1 n1.2).mono ?_
     rintro e wc ⟨q1,rfl,hfrc,hq,hq2,hs⟩
     have HQ1:=Hd (⟨Nat.lt_of_lt_of_le HQ0.out.2 hq,hq2⟩:q0+1<q1∧q1+1<wc.heap.size)
     have HS0:=Hd (HS0.out.keep hfrc)
     have HS1:=Hd hs
     have HR:=Hd (HR.out.trans hfrc)
     have HSC:=Hd (HS.out _ (up1 (B:=w.heap.size+1) HR.out))
     obtain⟨c0,c1,c2,c3⟩:=HSC.out
     clear hfrc hq hq2 hs)
  | (go_at_call 178
     with_reducible refine(setForkP_calls b2 g2 p2 _ (H2.out.keep (HF0.out.trans HR.out)) n2.1 n2.2).mono ?_
     rintro e wc ⟨q2,rfl,hfrc,hq,hq2,hs⟩
     have HQ2:=Hd (⟨Nat.lt_of_lt_of_le HQ1.out.2 hq,hq2⟩:q1+1<q2∧q2+1<wc.heap.size)
     have HS0:=Hd (HS0.out.keep hfrc)
     have HS1:=Hd (HS1.out.keep hfrc)
     have HS2:=Hd hs
     have HR:=Hd (HR.out.trans hfrc)
     have HSC:=Hd (HS.out _ (up1 (B:=w.heap.size+1) HR.out))
     obtain⟨c0,c1,c2,c3⟩:=HSC.out
     clear hfrc hq hq2 hs)
  | (go_at_call 178
     with_reducible refine(setForkP_calls b3 g3 p3 _ (H3.out.keep (HF0.out.trans HR.out)) n3.1 n3.2).mono ?_
     rintro e wc ⟨q3,rfl,hfrc,hq,hq2,hs⟩
     have HQ3:=Hd (⟨Nat.lt_of_lt_of_le HQ2.out.2 hq,hq2⟩:q2+1<q3∧q3+1<wc.heap.size)
     have HS0:=Hd (HS0.out.keep hfrc)
     have HS1:=Hd (HS1.out.keep hfrc)
     have HS2:=Hd (HS2.out.keep hfrc)
     have HS3:=Hd hs
     have HR:=Hd (HR.out.trans hfrc)
     have HSC:=Hd (HS.out _ (up1 (B:=w.heap.size+1) HR.out))
     obtain⟨c0,c1,c2,c3⟩:=HSC.out
     have HY:=Hd (HR.out.keep HY.out (fun h=>h))
     obtain⟨y0,y1,y2,y3,yf⟩:=cf4 HY.out rfl rfl rfl rfl
     clear hfrc hq hq2 hs)))
 go_wp2_with fail
 have hfw:Fr (fun k=>k=w.heap.size+1) wc ((((wc.setCell ⟨w.heap.size+1,0,none⟩ (.pointer (some ⟨q0+1,0,none⟩))).setCell ⟨w.heap.size+1,1,none⟩ (.pointer (some ⟨q1+1,0,none⟩))).setCell ⟨w.heap.size+1,2,none⟩ (.pointer (some ⟨q2+1,0,none⟩))).setCell ⟨w.heap.size+1,3,none⟩ (.pointer (some ⟨q3+1,0,none⟩))):=(((Fr.one _ _ _ _).trans (Fr.one _ _ _ _)).trans (Fr.one _ _ _ _)).trans (Fr.one _ _ _ _)
 have hne:∀{b g:Nat}{ps:List Nat},Prob.SetAt wc b g ps→¬b=w.heap.size+1∧¬g=w.heap.size+1:=fun{b g ps} h=>by
  obtain⟨cap,cs,h1,h2,_⟩:=h
  constructor
  ·rintro rfl
   rw[HY.out] at h1
   simp at h1
  ·rintro rfl
   rw[HY.out] at h2
   simp at h2
 refine lenP_ret (q0:=q0+1) (q1:=q1+1) (q2:=q2+1) (q3:=q3+1) (wc:=wc) ?_ rfl ⟨q0,q1,q2,q3,rfl,(HF0.out.trans HR.out).trans' hfw (fun i hi(e:i=w.heap.size+1)=>by omega),HQ0.out.1,HQ1.out.1,HQ2.out.1,HQ3.out.1,by simpa using HQ3.out.2,HS0.out.step hfw (hne HS0.out).1 (hne HS0.out).2,HS1.out.step hfw (hne HS1.out).1 (hne HS1.out).2,HS2.out.step hfw (hne HS2.out).1 (hne HS2.out).2,HS3.out.step hfw (hne HS3.out).1 (hne HS3.out).2⟩
 simp[results,Tryz.results179,go_sem,y0,y1,y2,y3,yf]
end Enc
end Go.Proofs.YtffoddpjfgjelaaGreatDoor
