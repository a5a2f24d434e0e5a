/- Part 32 of 52: lemmas of the last part, each under the conditions that it names. -/
import Derived.Test.YtffoddpjfgjelaaGreatDoorP12
import Derived.Test.YtffoddpjfgjelaaGreatDoorP21
import Derived.Test.YtffoddpjfgjelaaGreatDoorP26
import Derived.Test.YtffoddpjfgjelaaGreatDoorP29
import Derived.Test.YtffoddpjfgjelaaGreatDoorP31
set_option linter.unusedVariables false
set_option linter.unusedSimpArgs false
set_option maxRecDepth 1500
set_option maxHeartbeats 1000000
namespace Go.Proofs.YtffoddpjfgjelaaGreatDoor
open Go.RowKit
namespace En
open Mem Rc Win Lz Tr
def TAt(w:World)(B:Nat)(v:Value)(b gb:Nat)(e:Es)(j:Nat):Prop:=∃g,EAt w B v g∧Is g e.k∧Prob.SetAt w b gb (e.ps j)
def TF(B:Nat)(v:Value)(gb k:Nat):Prop:=EF B v k∨k=gb
def TPost(B:Nat)(v:Value)(b gb:Nat)(w:World)(e:Es)(j:Nat)(w':World):Prop:=Fr (TF B v gb) w w'∧∃v',TAt w' B v' b gb e j∧∀k,v'.ownBlock=some k→v.ownBlock=some k∨w.heap.size≤k
theorem TAt.same{w:World}{B b gb j:Nat}{v:Value}{e:Es}(h:TAt w B v b gb e j):TPost B v b gb w e j w:=⟨Fr.refl _ _,v,h,fun k hk=>.inl hk⟩
theorem TAt.keep{S:Nat→Prop}{w w':World}{B b gb j:Nat}{v:Value}{e:Es}(h:TAt w B v b gb e j)(hfr:Fr S w w')(hS:∀k,k<w.heap.size→¬S k):TAt w' B v b gb e j:=by
 obtain⟨g,h1,h2,h3⟩:=h
 exact⟨g,h1.keep hfr (hS _ (lt_of_block h1.box)) (fun k hk=>hS k (World.ownsRow.lt h1.own k hk).2),h2,h3.step hfr (hS _ h3.lt.1) (hS _ h3.lt.2)⟩
theorem TPost.trans{w w1 w2:World}{B b gb j:Nat}{v v1:Value}{e:Es}(h1:Fr (TF B v gb) w w1)(hn:∀k,v1.ownBlock=some k→v.ownBlock=some k∨w.heap.size≤k)(h2:TPost B v1 b gb w1 e j w2):TPost B v b gb w e j w2:=by
 obtain⟨f,v2,a,n⟩:=h2
 refine⟨h1.trans' f (fun k hk e=> ?_),v2,a,fun k hk=> ?_⟩
 ·rcases e with(e|e)|e
  ·exact .inl (.inl e)
  ·rcases hn k e with e|e
   ·exact .inl (.inr e)
   ·omega
  ·exact .inr e
 ·rcases n k hk with e|e
  ·exact hn k e
  ·exact .inr (Nat.le_trans h1.size e)
theorem TAt.off{w:World}{B b gb j:Nat}{v:Value}{e:Es}(h:TAt w B v b gb e j){k:Nat}{cs:Array Value}{t:TypeId}{fr:Nat×Nat}(hk:w.heap[k]? =some (.cells cs t fr))(h1:t≠219)(h2:t≠5)(h3:t≠3∨k≠gb):¬TF B v gb k:=by
 obtain⟨g,a,_,s⟩:=h
 rintro((rfl|e)|rfl)
 ·rw[a.box] at hk
  simp only[Option.some.injEq,Obj.cells.injEq] at hk
  exact h1 hk.2.1.symm
 ·exact off_box a.own hk h2 _ e rfl
 ·obtain⟨_,_,_,hg,_⟩:=s
  rcases h3 with h3|h3
  ·rw[hg] at hk
   simp only[Option.some.injEq,Obj.cells.injEq] at hk
   exact h3 hk.2.1.symm
  ·exact h3 rfl
theorem tbit_calls{w:World}{B b gb j i bit lc lp:Nat}{v:Value}{e:Es}(h:TAt w B v b gb e j)(hok:e.Ok lc lp)(ho:Op.Ok lc lp (.bit j i bit))(hs:e.k.s≤1099511627776):
 Calls Tryz.prog 343 #[ptr B,ptr b,.int .i64 i,.int .i64 bit] w fun r w'=>r=.returned (.int .i64 0)∧TPost B v b gb w (e.op (.bit j i bit)) j w':=by
 obtain⟨g,a,hg,s⟩:=h
 obtain⟨f1,f2,f3,f4⟩:=hg.fit hs
 obtain⟨p1,p2,p3⟩:=hok.at ho.1 ho.2.1
 refine(ebit_calls a f1 f2 f3 f4 s p1 p2 p3 ho.2.2).mono ?_
 rintro r w' ⟨rfl,hf,⟨v',a',n'⟩,s'⟩
 refine⟨rfl,hf,v',⟨_,a',hg.bit bit p2 p3,?_⟩,n'⟩
 show Prob.SetAt w' b gb (upd e.ps j _ j)
 rw[upd_same]
 exact s'
theorem op_s(e:Es)(o:Op):(e.op o).k.s≤e.k.s+1:=by
 cases o with
 |bit j i b=>exact K.bit_s _ _ _
 |half b=>exact K.half_s _ _
theorem run_s:∀(l:List Op)(e:Es),(e.run l).k.s≤e.k.s+l.length
 |[],e=>Nat.le_refl _
 |o::l,e=>by
   have h1:=op_s e o
   have h2:=run_s l (e.op o)
   rw[Es.run,List.length_cons]
   omega
structure Bx(w:World)(z B b x n:Nat)(back:Bool):Prop where
 e:w.heap[z]? =some (.cells #[ptr B] 146 (0,0))
 s:w.heap[z+1]? =some (.cells #[ptr b] 211 (0,0))
 n:w.heap[z+2]? =some (.cells #[.int .i64 n] 3 (0,0))
 x:w.heap[z+3]? =some (.cells #[.int .i64 x] 3 (0,0))
 back:w.heap[z+4]? =some (.cells #[.bool back] 4 (0,0))
theorem Bx.keep{w w':World}{z B b x n gb j:Nat}{v:Value}{e:Es}{back:Bool}(h:Bx w z B b x n back)(ht:TAt w B v b gb e j)(hz:gb<z)(hfr:Fr (TF B v gb) w w'):Bx w' z B b x n back:=
 ⟨hfr.keep h.e (ht.off h.e (by decide) (by decide) (.inl (by decide))),hfr.keep h.s (ht.off h.s (by decide) (by decide) (.inl (by decide))),hfr.keep h.n (ht.off h.n (by decide) (by decide) (.inr (by omega))),hfr.keep h.x (ht.off h.x (by decide) (by decide) (.inr (by omega))),hfr.keep h.back (ht.off h.back (by decide) (by decide) (.inl (by decide)))⟩
abbrev cap(z:Nat):Array Value:=#[ptr (z+3),ptr (z+4),ptr (z+2),ptr z,ptr (z+1)]
theorem bit_of(x o:Nat)(hx:x<65536):bits BinOp.and IntKind.i64 ((x:Int)/2^o) 1=((x/2^o%2:Nat):Int):=by
 have e:(x:Int)/2^o=((x/2^o:Nat):Int):=by simp
 have hl:x/2^o≤x:=Nat.div_le_self _ _
 have:=and_low (x/2^o) 1 (by omega) (by decide)
 rw[e]
 simpa using this
theorem put1_calls{w:World}{z B b gb j a m k n x lc lp:Nat}{v:Value}{e:Es}{back:Bool}(h:TAt w B v b gb e j)(hb:Bx w z B b x n back)(hok:e.Ok lc lp)(hk:k<n)(hn:n≤16)(hx:x<65536)(ho:Op.Ok lc lp (.bit j (a+m) (x/2^ord back n k%2)))(hs:e.k.s≤1099511627776)(pl:Int)(hpl:pl=((a+m:Nat):Int)):
 Calls Tryz.prog 349 (#[.int .i64 pl,.int .i64 k]++cap z) w fun r w'=>r=.returned (.tuple #[.int .i64 ((x/2^ord back n k%2:Nat):Int),.int .i64 0])∧TPost B v b gb w (e.op (.bit j (a+m) (x/2^ord back n k%2))) j w':=by
 have c0:=cell_in (i:=0) hb.x rfl
 have c1:=cell_in (i:=0) hb.back rfl
 have c2:=cell_in (i:=0) hb.n rfl
 have hq:=bit_of x (ord back n k) hx
 have HB:=Hd (show∀q,Fr (fun _=>False) w (w.drewN q) from fun q=>(Fr.refl _ w).drewN q)
 have HT:=Hd (fun q=>tbit_calls (h.keep (HB.out q) (fun _ _ h=>h)) hok ho hs)
 rw[←hpl] at HT
 have hm:min (ord back n k) 64=ord back n k:=by have:ord back n k<n:=(by unfold ord;split<;>omega);omega
 have HE:=Hd (fun q=>(HB.out q).keep hb.e (fun h=>h))
 have HS:=Hd (fun q=>(HB.out q).keep hb.s (fun h=>h))
 have HO:=Hd (fun w=>order_calls back n k w hk hn)
 clear h hb hok ho hpl
 generalize x/2^ord back n k%2=bt at*
 go_enter Tryz.func349,Tryz.ntmps349
 go_wp2_with fail
 go_quiet ((go_at_call 318;exact quiet_left (HO.out _)))
 have d0:=cell_in (i:=0) (HE.out nq) rfl
 have d1:=cell_in (i:=0) (HS.out nq) rfl
 clear c0 c1 c2 HE HS
 go_wp2_with fail
 refine(HT.out nq).mono ?_
 rintro r w2 ⟨rfl,hp⟩
 have HP:=Hd (TPost.trans (v1:=v) ((HB.out nq).mono (fun _ _ h=>h.elim)) (fun k hk=>.inl hk) hp)
 clear hp
 go_wp2_with fail
 go_ret2
 exact⟨rfl,HP.out⟩
structure PRel(w0:World)(B:Nat)(v:Value)(b gb j a n x lc lp:Nat)(back:Bool)(fin:Es)(k m:Nat)(wr:World):Prop where
 le:k≤n
 hm:m<2^(k+1)
 ok:∃e,TPost B v b gb w0 e j wr∧e.Ok lc lp∧e.k.s+(n-k)≤1099511627776∧e.run (treeOps back j a n x (n-k) m)=fin∧∀o ∈ treeOps back j a n x (n-k) m,o.Ok lc lp
theorem pdown_calls{w:World}{z B b gb j a n x lc lp:Nat}{v:Value}{e:Es}{back:Bool}(h:TAt w B v b gb e j)(hb:Bx w z B b x n back)(hz:gb<z)(hok:e.Ok lc lp)(hn:n≤16)(hx:x<65536)(ha:a≤1099511627776)(ho:∀o ∈ treeOps back j a n x n 1,o.Ok lc lp)(hs:e.k.s+n≤1099511627776):
 Calls Tryz.prog 316 #[.int .i64 a,.int .i64 n,.func (Fn.func 349) #[] (cap z)] w fun r w'=>r=.returned (.int .i64 0)∧TPost B v b gb w (e.run (treeOps back j a n x n 1)) j w':=by
 have HB:=Hd (fun(wr:World)(hf:Fr (TF B v gb) w wr)=>hb.keep h hz hf)
 have H0:=Hd (show PRel w B v b gb j a n x lc lp back (e.run (treeOps back j a n x n 1)) 0 1 w from⟨Nat.zero_le _,by decide,e,h.same,hok,hs,rfl,ho⟩)
 generalize e.run (treeOps back j a n x n 1)=fin at*
 clear h hb hok ho hs
 go_enter Tryz.func316,Tryz.ntmps316
 go_wp2_with fail
 go_loopw [7,8,9,10,12](fun s7 _ _ _ i wr=>∃k m:Nat,i=.int .i64 k∧s7=.int .i64 m∧PRel w B v b gb j a n x lc lp back fin k m wr) (fun _ _ _ _ i _=>n-(intOf i).toNat)
 case atStart=>exact⟨0,1,rfl,rfl,H0.out⟩
 case round=>
  obtain⟨k,m,rfl,rfl,hk,hm,e1,⟨f1,v1,t1,n1⟩,ok1,s1,r1,o1⟩:=hrel
  by_cases hlt:k<n
  ·obtain⟨f,hf⟩:∃f,n-k=f+1:=⟨n-k-1,by omega⟩
   have hkf:n-(f+1)=k:=by omega
   rw[hf] at s1 r1 o1
   rw[treeOps,hkf] at r1 o1
   have hp:(2:Nat)^(k+1)≤2^16:=Nat.pow_le_pow_right (by omega) (by omega)
   have hb1:x/2^ord back n k%2≤1:=by omega
   have hO:=o1 _ (List.mem_cons_self ..)
   have HC:=Hd (fun(pl:Int)(hpl:pl=((a+m:Nat):Int))=>put1_calls t1 (HB.out wr f1) ok1 hlt hn hx hO (by omega) pl hpl)
   have HF1:=Hd f1
   have HN1:=Hd n1
   have HOK:=Hd (ok1.op hO).1
   have HSS:=Hd (show(e1.op (.bit j (a+m) (x/2^ord back n k%2))).k.s+f≤1099511627776 by have:=op_s e1 (.bit j (a+m) (x/2^ord back n k%2));omega)
   have HR:=Hd (show(e1.op (.bit j (a+m) (x/2^ord back n k%2))).run (treeOps back j a n x f (2*m+x/2^ord back n k%2))=fin from r1)
   have HO:=Hd (fun o ho=>o1 o (List.mem_cons_of_mem _ ho))
   have hmb:m≤65536:=by omega
   have HMB:=Hd (show 2*m+x/2^ord back n k%2<2^(k+1+1) by rw[Nat.pow_succ];omega)
   clear f1 t1 n1 ok1 s1 r1 o1 hO hp hm
   generalize e1.op (.bit j (a+m) (x/2^ord back n k%2))=e2 at*
   generalize x/2^ord back n k%2=bt at*
   go_wp2_with fail
   refine(HC.out _ (by omega)).mono ?_
   rintro r w2 ⟨rfl,hp⟩
   have HP:=Hd (TPost.trans HF1.out HN1.out hp)
   clear hp
   go_wp2_with fail
   go_roundw
   case rel=>exact⟨k+1,2*m+bt,by go_num,by go_num,by omega,HMB.out,e2,HP.out,HOK.out,by have:=HSS.out;omega,by rw[show n-(k+1)=f by omega];exact HR.out,by rw[show n-(k+1)=f by omega];exact HO.out⟩
   case measure=>simp[intOf];omega
  ·obtain rfl:k=n:=by omega
   rw[Nat.sub_self] at r1
   have HR:=Hd (show e1=fin from r1)
   have HP:=Hd (show TPost B v b gb w e1 j wr from⟨f1,v1,t1,n1⟩)
   clear f1 t1 n1 ok1 s1 r1 o1 hm hlt
   go_wp2_with fail
   go_ret
   rw[←HR.out]
   exact⟨rfl,HP.out⟩
theorem holds_calls(x n:Nat)(w:World)(hn:n≤16)(hx:x<2^n):Calls Tryz.prog 348 #[.int .i64 x,.int .i64 n] w fun e w'=>e=.returned (.bool true)∧w=w':=by
 have hp:2^n≤65536:=Nat.le_trans (Nat.pow_le_pow_right (by omega) hn) (by decide)
 have hpi:((2^n:Nat):Int)=2^n:=by simp
 have hw2:IntKind.i64.wrap (2^n)=2^n:=by
  rw[←hpi]
  exact IntWalk.i64_in _ (by omega)
 have hw:IntKind.i64.wrap (1*2^n)=2^n:=by rw[Int.one_mul];exact hw2
 have hmin:min n 64=n:=by omega
 have t1:decide ((x:Int)<2^n)=true:=decide_eq_true (by rw[←hpi];omega)
 have z1:decide ((x:Int)≥0)=true:=by simp
 have z2:decide ((0:Int)≤(x:Int))=true:=by simp
 clear hp hpi hx
 go_enter Tryz.func348,Tryz.ntmps348
 go_wp2_with fail
 go_ret
 exact⟨rfl,rfl⟩
theorem put_calls{w:World}{B b gb j a n x lc lp:Nat}{v:Value}{e:Es}{back:Bool}(h:TAt w B v b gb e j)(hok:e.Ok lc lp)(hn:n≤16)(hx:x<2^n)(ha:a+2^n≤Lz.rowLen lc lp j)(hj:j<18)(hs:e.k.s+n≤1099511627776)(hl:Lz.rowLen lc lp j≤1099511627776):
 Calls Tryz.prog 346 #[ptr B,ptr b,.int .i64 a,.int .i64 n,.int .i64 x,.bool back] w fun r w'=>r=.returned (.int .i64 0)∧TPost B v b gb w (e.run (treeOps back j a n x n 1)) j w':=by
 have hp16:2^n≤65536:=Nat.le_trans (Nat.pow_le_pow_right (by omega) hn) (by decide)
 have hlen:=hok.len j hj
 have hops:=(tree_reads (lc:=lc) (lp:=lp) back hj hx hn ha).1
 obtain⟨hfr,hsz,b1,b2,b3,b4,b5⟩:=five w (.cells #[ptr B] 146) (.cells #[ptr b] 211) (.cells #[.int .i64 n] 3) (.cells #[.int .i64 x] 3) (.cells #[.bool back] 4)
 have HT:=Hd (h.keep hfr (fun _ _ h=>h))
 have HBX:=Hd (show Bx _ w.heap.size B b x n back from⟨b1,b2,b3,b4,b5⟩)
 have HFR:=Hd hfr
 have HSZ:=Hd hsz
 have hgl:gb<w.heap.size:=by obtain⟨_,_,_,s⟩:=h;exact s.lt.2
 have HTH:=Hd (fun(W:World)(hf:Fr (fun _=>False) w W)=>show Calls Tryz.prog 315 #[ptr b,.int .i64 a,.int .i64 n] W (fun r w'=>r=.returned (.bool true)∧Fr (fun _=>False) W w') from by
  obtain⟨_,_,_,s⟩:=h
  have:=there_calls b gb a n (e.ps j) W (s.keep hf) (by omega) (by omega) (by omega)
  rwa [show thereB (e.ps j) a n=true from decide_eq_true ⟨hn,by omega,by omega⟩] at this)
 have HDN:=Hd (fun(W:World)(hf:Fr (fun _=>False) w W)(hbx:Bx W w.heap.size B b x n back)=>pdown_calls (h.keep hf (fun _ _ h=>h)) hbx hgl hok hn (by omega) (by omega) hops hs)
 clear hfr hsz b1 b2 b3 b4 b5 h hok hops
 go_enter Tryz.func346,Tryz.ntmps346
 go_wp2_with fail
 generalize hz:w.heap.size=z at*
 generalize World.alloc (World.alloc (World.alloc (World.alloc (World.alloc w _) _) _) _) _=W at*
 refine(HTH.out W HFR.out).mono ?_
 rintro r w2 ⟨rfl,hf2⟩
 have hb2:Bx w2 z B b x n back:=⟨hf2.keep HBX.out.e (fun h=>h),hf2.keep HBX.out.s (fun h=>h),hf2.keep HBX.out.n (fun h=>h),hf2.keep HBX.out.x (fun h=>h),hf2.keep HBX.out.back (fun h=>h)⟩
 have d3:=cell_in (i:=0) hb2.x rfl
 have d2:=cell_in (i:=0) hb2.n rfl
 have HB2:=Hd hb2
 have HF2:=Hd (HFR.out.trans hf2)
 have HH:=Hd (holds_calls x n w2 hn hx)
 clear hb2 hf2
 go_wp2_with fail
 refine HH.out.mono ?_
 rintro r w3 ⟨rfl,rfl⟩
 go_wp2_with fail
 refine(HDN.out w2 HF2.out HB2.out).mono ?_
 rintro r w4 ⟨rfl,hp⟩
 have HP:=Hd (TPost.trans (v1:=v) (HF2.out.mono (fun _ _ h=>h.elim)) (fun k hk=>.inl hk) hp)
 clear hp
 go_wp2_with fail
 go_ret
 exact⟨rfl,HP.out⟩
theorem tput_calls{w:World}{B b gb j a n x lc lp:Nat}{v:Value}{e:Es}(h:TAt w B v b gb e j)(hok:e.Ok lc lp)(hn:n≤16)(hx:x<2^n)(ha:a+2^n≤Lz.rowLen lc lp j)(hj:j<18)(hs:e.k.s+n≤1099511627776)(hl:Lz.rowLen lc lp j≤1099511627776):
 Calls Tryz.prog 345 #[ptr B,ptr b,.int .i64 a,.int .i64 n,.int .i64 x] w fun r w'=>r=.returned (.int .i64 0)∧TPost B v b gb w (e.run (treeOps false j a n x n 1)) j w':=by
 have HC:=Hd (put_calls (back:=false) h hok hn hx ha hj hs hl)
 clear h hok
 generalize e.run (treeOps false j a n x n 1)=e2 at*
 go_enter Tryz.func345,Tryz.ntmps345
 go_wp2_with fail
 refine HC.out.mono ?_
 rintro r w4 ⟨rfl,hp⟩
 go_wp2_with fail
 go_ret
 exact⟨rfl,hp⟩
theorem tback_calls{w:World}{B b gb j a n x lc lp:Nat}{v:Value}{e:Es}(h:TAt w B v b gb e j)(hok:e.Ok lc lp)(hn:n≤16)(hx:x<2^n)(ha:a+2^n≤Lz.rowLen lc lp j)(hj:j<18)(hs:e.k.s+n≤1099511627776)(hl:Lz.rowLen lc lp j≤1099511627776):
 Calls Tryz.prog 342 #[ptr B,ptr b,.int .i64 a,.int .i64 n,.int .i64 x] w fun r w'=>r=.returned (.int .i64 0)∧TPost B v b gb w (e.run (treeOps true j a n x n 1)) j w':=by
 have HC:=Hd (put_calls (back:=true) h hok hn hx ha hj hs hl)
 clear h hok
 generalize e.run (treeOps true j a n x n 1)=e2 at*
 go_enter Tryz.func342,Tryz.ntmps342
 go_wp2_with fail
 refine HC.out.mono ?_
 rintro r w4 ⟨rfl,hp⟩
 go_wp2_with fail
 go_ret
 exact⟨rfl,hp⟩
end En
namespace Pk
open Mem Rc St Lz En Win
theorem z_raw{now k:Nat}(v:Xe)(pr0:Pr)(b:List UInt8)(hk:k=1∨k=2)(hb:1≤b.length∧b.length≤65536)(hm:Ck.move now k<3):
 PtsOk [⟨k,(0,0,0),[],b⟩] now v pr0∧chunks [⟨k,(0,0,0),[],b⟩] v pr0=[(⟨k,b.length,b.length,0,0,0⟩,b)]∧plains [⟨k,(0,0,0),[],b⟩] v pr0=b∧
  fin [⟨k,(0,0,0),[],b⟩] now v pr0=(Ck.move now k,(if k=1 then v.clear else v).raw b,pr0):=by
 rcases hk with rfl|rfl
 ·exact⟨⟨raw_ok 1 b.length (by decide) hb,hm,fun h=>absurd h (by show¬3≤1;decide),trivial⟩,rfl,by simp[plains,Pt.plain],rfl⟩
 ·exact⟨⟨raw_ok 2 b.length (by decide) hb,hm,fun h=>absurd h (by show¬3≤2;decide),trivial⟩,rfl,by simp[plains,Pt.plain],rfl⟩
theorem moves_raw:Ck.move 0 1=1∧Ck.move 1 2=1∧Ck.move 2 2=2:=by decide
theorem moves_pack:Ck.move 0 6=2∧Ck.move 2 3=2∧Ck.move 2 4=2∧Ck.move 1 5=2:=by decide
theorem raw_headB{k n:Nat}(hk:k=1∨k=2):(headB ⟨k,n,n,0,0,0⟩).length=3:=by
 rcases hk with rfl|rfl<;>rfl
theorem piece_len{data:List UInt8}{i:Nat}(hi:65536*i<data.length){b:List UInt8}(hb:b=(data.drop (upto data.length i)).take (upto data.length (i+1)-upto data.length i)):
 b.length=upto data.length (i+1)-upto data.length i∧1≤b.length∧b.length≤65536:=by
 obtain⟨h1,h2,h3,h4⟩:=upto_step hi
 have h5:=upto_le data.length (i+1)
 have e:b.length=upto data.length (i+1)-upto data.length i:=by
  rw[hb,List.length_take,List.length_drop]
  omega
 exact⟨e,by omega,by omega⟩
theorem Pst.Ok.lay{t:Pst}{data:List UInt8}{dict:Nat}{pr:Pr}{raw:Bool}(h:t.Ok data dict pr raw)(hi:65536*t.pts.length<data.length){b:List UInt8}
 (hb:b=(data.drop (upto data.length t.pts.length)).take (upto data.length (t.pts.length+1)-upto data.length t.pts.length)):
 (t.lay b).Ok data dict pr raw∧(t.lay b).out dict=t.out dict++(headB ⟨if t.begun=false then 1 else 2,b.length,b.length,0,0,0⟩++b):=by
 obtain⟨l1,l2,l3⟩:=piece_len hi hb
 have hpt:=piece_take data t.pts.length
 rw[←hb] at hpt
 have hmono:=upto_mono data.length t.pts.length
 have hk:(if t.begun=false then 1 else 2)=1∨(if t.begun=false then 1 else 2)=2:=by
  split
  ·exact .inl rfl
  ·exact .inr rfl
 have hnow:Ck.move (t.end' dict).1 (if t.begun=false then 1 else 2)=if t.props=true then 2 else 1:=by
  rw[h.now]
  have hbp:=h.begun
  cases hb0:t.begun<;>cases hp:t.props
  ·simpa using moves_raw.1
  ·exact absurd (hbp hp) (by rw[hb0];decide)
  ·simpa using moves_raw.2.1
  ·simpa using moves_raw.2.2
 have hm3:Ck.move (t.end' dict).1 (if t.begun=false then 1 else 2)<3:=by
  rw[hnow]
  split<;>decide
 obtain⟨z1,z2,z3,z4⟩:=z_raw (now:=(t.end' dict).1) (t.end' dict).2.1 (t.end' dict).2.2 b hk ⟨l2,l3⟩ hm3
 have hfin:(t.lay b).end' dict=(Ck.move (t.end' dict).1 (if t.begun=false then 1 else 2),(if(if t.begun=false then 1 else 2)=1 then(t.end' dict).2.1.clear else(t.end' dict).2.1).raw b,(t.end' dict).2.2):=by
  unfold Pst.end' Pst.lay
  simp only
  rw[snoc_fin]
  exact z4
 have hrow:(t.lay b).row dict=t.row dict++[(⟨if t.begun=false then 1 else 2,b.length,b.length,0,0,0⟩,b)]:=by
  unfold Pst.row Pst.lay
  simp only
  rw[snoc_chunks _ _ 0,←z2]
 have hlen:(t.lay b).pts.length=t.pts.length+1:=by simp[Pst.lay]
 have hout:(t.lay b).out dict=t.out dict++(headB ⟨if t.begun=false then 1 else 2,b.length,b.length,0,0,0⟩++b):=by
  unfold Pst.out
  rw[hrow,rowB_append]
  simp[rowB]
 refine⟨⟨snoc_ok _ _ _ _ _ h.pts z1,?_,?_,?_,?_,?_,?_,?_,⟨⟨h.ok.c.l,h.ok.c.pb,h.ok.c.s⟩,h.ok.e⟩,h.size,?_,h.k,?_,fun _=>rfl,?_,h.sok,?_,?_,?_⟩,hout⟩
 ·rw[hlen]
  unfold Pst.lay
  simp only
  rw[snoc_plains _ _ 0,h.plain,z3,hpt]
 ·rw[hfin]
  simp only
  rw[hnow]
  rfl
 ·rw[hfin]
  simp only
  split
  ·exact h.vok.clear.raw _
  ·exact h.vok.raw _
 ·rw[hfin]
  simp only
  split
  ·exact h.vsize
  ·exact h.vsize
 ·rw[hfin,hlen]
  simp only
  split
  ·rename_i h1
   have hb0:t.begun=false:=by
    cases hb0:t.begun with
    |false=>rfl
    |true=>rw[hb0] at h1;simp at h1
   have he:=h.empty hb0
   rw[he] at hpt ⊢
   simp only[List.length_nil,upto_zero,List.take_zero,List.nil_append] at hpt ⊢
   rw[←hpt]
   rfl
  ·show(t.end' dict).2.1.c.all++b=_
   rw[h.vall,hpt]
 ·rw[hfin]
  simp only
  split
  ·rfl
  ·exact h.vk
 ·intro hp
  rw[hfin]
  exact h.vpr hp
 ·rw[hlen]
  show t.x.c.all++b=_
  rw[h.all,hpt]
 ·intro hp
  exact absurd hp (by simp[Pst.lay])
 ·intro hp
  exact absurd hp (by simp[Pst.lay])
 ·intro i c hc
  rw[hrow] at hc
  exact snoc_sizes (chunks_length _ _ _) h.sizes ⟨l1,by simp only;omega⟩ i c hc
 ·rw[hlen]
  show((t.lay b).out dict).length≤_
  have hl:=h.len
  rw[hout,List.length_append,List.length_append,raw_headB hk]
  unfold Pst.out
  omega
 ·intro hr p hp
  unfold Pst.lay at hp
  simp only[List.mem_append,List.mem_singleton] at hp
  rcases hp with hp|rfl
  ·exact h.raw hr p hp
  ·simp only
   omega
theorem z_pack{now:Nat}{v x1:Xe}{pr0 pr:Pr}{z:Pt}(hz:z.prep v pr0=(x1,pr))(hpr:z.pr=pr)(hq:pr.1+pr.2.1≤4∧pr.2.2≤4)(hk:3≤z.kind∧z.kind≤6)(hl:Legal z.ys x1)(hn:1≤(x1.made z.ys).length∧(x1.made z.ys).length≤2097152)
 (hb:1≤(x1.putAll z.ys).e.k.bytes.length∧(x1.putAll z.ys).e.k.bytes.length≤65536)(hm:Ck.move now z.kind<3):
 PtsOk [z] now v pr0∧chunks [z] v pr0=[(if z.kind<5 then⟨z.kind,(x1.made z.ys).length,(x1.putAll z.ys).e.k.bytes.length,0,0,0⟩ else⟨z.kind,(x1.made z.ys).length,(x1.putAll z.ys).e.k.bytes.length,pr.1,pr.2.1,pr.2.2⟩,(x1.putAll z.ys).e.k.bytes)]∧plains [z] v pr0=x1.made z.ys∧
  fin [z] now v pr0=(Ck.move now z.kind,(x1.putAll z.ys).cut,pr):=by
 have e1:z.head x1=if z.kind<5 then⟨z.kind,(x1.made z.ys).length,(x1.putAll z.ys).e.k.bytes.length,0,0,0⟩ else⟨z.kind,(x1.made z.ys).length,(x1.putAll z.ys).e.k.bytes.length,pr.1,pr.2.1,pr.2.2⟩:=by
  have n2:¬z.kind≤2:=by omega
  unfold Pt.head Pt.plain Pt.bytes
  simp only[if_neg n2,hpr]
 have e2:z.bytes x1=(x1.putAll z.ys).e.k.bytes:=by unfold Pt.bytes;rw[if_neg (by omega)]
 have e3:z.plain x1=x1.made z.ys:=by unfold Pt.plain;rw[if_neg (by omega)]
 have e4:z.after x1=(x1.putAll z.ys).cut:=by unfold Pt.after;rw[if_neg (by omega)]
 refine⟨⟨?_,hm,fun _=>by rw[hz];exact hl,trivial⟩,?_,?_,?_⟩
 ·rw[hz]
  simp only
  rw[e1]
  split
  ·exact⟨⟨by simp only;omega,by simp only;omega⟩,fun h=>absurd h (by simp only;omega),fun _=>⟨hn.1,hn.2,hb.1,hb.2⟩,by simp,fun _=>⟨rfl,rfl,rfl⟩⟩
  ·exact⟨⟨by simp only;omega,by simp only;omega⟩,fun h=>absurd h (by simp only;omega),fun _=>⟨hn.1,hn.2,hb.1,hb.2⟩,hq,fun h=>absurd h (by simp only;omega)⟩
 ·rw[chunks,hz]
  simp only
  rw[e1,e2]
  rfl
 ·rw[plains,hz]
  simp only
  rw[e3]
  simp[plains]
 ·rw[fin,hz]
  simp only
  rw[e4]
  rfl
theorem reset_same{x y:Xe}(pr:Pr)(h1:x.c.size=y.c.size)(h2:x.c.all=y.c.all):x.reset pr=y.reset pr:=by
 unfold Xe.reset C.fresh
 rw[h1,h2]
theorem Pst.Ok.prep{t:Pst}{data:List UInt8}{dict:Nat}{pr:Pr}{raw:Bool}(h:t.Ok data dict pr raw)(ys:List Sy):
 (Pt.prep ⟨t.kind,pr,ys,[]⟩ (t.end' dict).2.1 (t.end' dict).2.2)=(t.from' pr,pr)∧Ck.move (t.end' dict).1 t.kind=2:=by
 have hnow:=h.now
 have hrs:(t.end' dict).2.1.reset pr=t.x.reset pr:=reset_same pr (by rw[h.vsize,h.size]) (by rw[h.vall,h.all])
 unfold Pst.from' Pst.kind
 cases hb:t.begun with
 |false=>
   simp only[if_true]
   rw[hb,if_pos rfl] at hnow
   refine⟨?_,by rw[hnow];exact moves_pack.1⟩
   rw[if_neg (by decide)]
   unfold Pt.prep
   simp only
   rw[if_neg (by decide),if_neg (by decide),if_neg (by decide),if_neg (by decide)]
   rw[←hrs]
   have he:(t.end' dict).2.1.c.all=[]:=by rw[h.vall,h.empty hb];simp[upto_zero]
   rw[show(t.end' dict).2.1.clear.reset pr=(t.end' dict).2.1.reset pr from reset_same pr rfl (by rw[he];rfl)]
 |true=>
   rw[hb,if_neg (by decide)] at hnow
   simp only[Bool.true_eq_false,if_false]
   cases hp:t.packed with
   |true=>
     obtain⟨h1,h2,h3⟩:=h.same hp
     simp only[if_true]
     rw[h3,if_pos rfl] at hnow
     refine⟨?_,by rw[hnow];exact moves_pack.2.1⟩
     unfold Pt.prep
     simp only
     rw[if_neg (by decide),if_pos (by decide),h1,h.vpr h3]
   |false=>
     simp only[Bool.false_eq_true,if_false]
     cases hq:t.props with
     |true=>
       simp only[if_true]
       rw[hq,if_pos rfl] at hnow
       refine⟨?_,by rw[hnow];exact moves_pack.2.2.1⟩
       rw[if_neg (by decide)]
       unfold Pt.prep
       simp only
       rw[if_neg (by decide),if_neg (by decide),if_pos trivial,h.vpr hq,hrs]
     |false=>
       simp only[Bool.false_eq_true,if_false]
       rw[hq,if_neg (by decide)] at hnow
       refine⟨?_,by rw[hnow];exact moves_pack.2.2.2⟩
       rw[if_neg (by decide)]
       unfold Pt.prep
       simp only
       rw[if_neg (by decide),if_neg (by decide),if_neg (by decide),if_pos trivial,hrs]
theorem kind_bd(t:Pst):3≤t.kind∧t.kind≤6:=by
 unfold Pst.kind
 split
 ·exact⟨by decide,by decide⟩
 split
 ·exact⟨by decide,by decide⟩
 split
 ·exact⟨by decide,by decide⟩
 ·exact⟨by decide,by decide⟩
theorem Pst.Ok.from_ok{t:Pst}{data:List UInt8}{dict:Nat}{pr:Pr}{raw:Bool}(h:t.Ok data dict pr raw)(hq:pr.1+pr.2.1≤4∧pr.2.2≤4):
 (t.from' pr).Ok∧(t.from' pr).c.all=data.take (upto data.length t.pts.length)∧(t.from' pr).c.size=dict∧(t.from' pr).e.k=K.new:=by
 unfold Pst.from'
 split
 ·exact⟨h.ok,h.all,h.size,h.k⟩
 ·exact⟨h.ok.reset hq,h.all,h.size,rfl⟩
def Pst.headP(t:Pst)(pr:Pr)(n m:Nat):Ck.Head:=if t.kind<5 then⟨t.kind,n,m,0,0,0⟩ else⟨t.kind,n,m,pr.1,pr.2.1,pr.2.2⟩
theorem bytes_pos(k:K):1≤k.bytes.length:=by
 unfold K.bytes
 rw[digs_len]
 omega
theorem Pst.Ok.pack{t:Pst}{data:List UInt8}{dict:Nat}{pr:Pr}(h:t.Ok data dict pr false)(hi:65536*t.pts.length<data.length)(hq:pr.1+pr.2.1≤4∧pr.2.2≤4){ys:List Sy}(hl:Legal ys (t.from' pr))
 (hs:∃s',Steps data (upto data.length (t.pts.length+1)) ys (upto data.length t.pts.length) (t.from' pr).c.s (upto data.length (t.pts.length+1)) s')
 (hb:((t.from' pr).putAll ys).e.k.bytes.length≤65536)
 (hle:(headB (t.headP pr (upto data.length (t.pts.length+1)-upto data.length t.pts.length) ((t.from' pr).putAll ys).e.k.bytes.length)).length+((t.from' pr).putAll ys).e.k.bytes.length≤3+(upto data.length (t.pts.length+1)-upto data.length t.pts.length)):
 (t.pack pr ys).Ok data dict pr false∧(t.pack pr ys).out dict=t.out dict++(headB (t.headP pr (upto data.length (t.pts.length+1)-upto data.length t.pts.length) ((t.from' pr).putAll ys).e.k.bytes.length)++((t.from' pr).putAll ys).e.k.bytes):=by
 obtain⟨s',hs⟩:=hs
 obtain⟨p1,p2⟩:=h.prep ys
 obtain⟨f1,f2,f3,f4⟩:=h.from_ok hq
 have hup:=upto_step hi
 have htop:=upto_le data.length (t.pts.length+1)
 obtain⟨m1,m2,m3,m4,m5,m6⟩:=steps_made htop (by omega) f2 hs hl
 have hpt:=piece_take data t.pts.length
 rw[←m1] at hpt
 have hml:((t.from' pr).made ys).length=upto data.length (t.pts.length+1)-upto data.length t.pts.length:=by
  rw[m1,List.length_take,List.length_drop]
  omega
 have hb1:=bytes_pos ((t.from' pr).putAll ys).e.k
 obtain⟨g1,g2,g3,g4⟩:=f1.putAll hl
 obtain⟨z1,z2,z3,z4⟩:=z_pack (now:=(t.end' dict).1) (z:=⟨t.kind,pr,ys,[]⟩) p1 rfl hq (kind_bd t) hl (by rw[hml];omega) ⟨hb1,hb⟩ (by show Ck.move (t.end' dict).1 t.kind<3;rw[p2];decide)
 have hfin:(t.pack pr ys).end' dict=(2,((t.from' pr).putAll ys).cut,pr):=by
  unfold Pst.end' Pst.pack
  simp only
  rw[snoc_fin,z4]
  simp only
  rw[p2]
 have hrow:(t.pack pr ys).row dict=t.row dict++[(t.headP pr (upto data.length (t.pts.length+1)-upto data.length t.pts.length) ((t.from' pr).putAll ys).e.k.bytes.length,((t.from' pr).putAll ys).e.k.bytes)]:=by
  unfold Pst.row Pst.pack Pst.headP
  simp only
  rw[snoc_chunks _ _ 0,z2,hml]
 have hlen:(t.pack pr ys).pts.length=t.pts.length+1:=by simp[Pst.pack]
 have hout:(t.pack pr ys).out dict=t.out dict++(headB (t.headP pr (upto data.length (t.pts.length+1)-upto data.length t.pts.length) ((t.from' pr).putAll ys).e.k.bytes.length)++((t.from' pr).putAll ys).e.k.bytes):=by
  unfold Pst.out
  rw[hrow,rowB_append]
  simp[rowB]
 refine⟨⟨snoc_ok _ _ _ _ _ h.pts z1,?_,?_,?_,?_,?_,?_,?_,g1.cut,?_,?_,rfl,?_,fun _=>rfl,?_,?_,?_,?_,?_⟩,hout⟩
 ·rw[hlen]
  unfold Pst.pack
  simp only
  rw[snoc_plains _ _ 0,h.plain,z3,hpt]
 ·rw[hfin]
  rfl
 ·rw[hfin]
  exact g1.cut
 ·rw[hfin]
  exact m4.trans f3
 ·rw[hfin,hlen]
  exact m2
 ·rw[hfin]
  rfl
 ·intro _
  rw[hfin]
 ·exact m4.trans f3
 ·rw[hlen]
  exact m2
 ·intro _
  rw[hfin]
  exact⟨rfl,rfl,rfl⟩
 ·intro hp
  exact absurd hp (by simp[Pst.pack])
 ·exact g1.c.s
 ·intro i c hc
  rw[hrow] at hc
  refine snoc_sizes (chunks_length _ _ _) h.sizes ⟨?_,?_⟩ i c hc
  ·simp only[Pst.headP]
   split<;>rfl
  ·have:=kind_bd t
   simp only[Pst.headP]
   split
   ·simp only;omega
   ·simp only;omega
 ·rw[hlen]
  show((t.pack pr ys).out dict).length≤_
  have hl:=h.len
  rw[hout,List.length_append,List.length_append]
  unfold Pst.out
  omega
 ·intro hr
  exact absurd hr (by decide)
end Pk
namespace Ck
open Mem Wire Win
def readG{σ:Type}(step:σ→Head→List UInt8→Option σ)(b:List UInt8)(packed size:Int):Nat→Sr→σ→Except (Nat×Nat) (Nat×σ)
 |0,_,_=>.error (0,0)
 |f+1,s,u=>
   if s.now=3 then .ok (s.at',u)
   else match nextP b packed size s with
    |.error x=>.error x
    |.ok (h,part,fr,s2)=>match step u h part with
      |none=>.error (fr,2)
      |some u2=>readG step b packed size f s2 u2
def hStep(hs:List Head)(h:Head)(part:List UInt8):Option (List Head):=some (hs++[h])
end Ck
namespace Pk
open Mem Rc St Lz Ck En Win
structure Pst.Whole(t:Pst)(data:List UInt8)(dict:Nat)(pr:Pr)(raw:Bool):Prop where
 ok:t.Ok data dict pr raw
 all:data.length≤65536*t.pts.length
 each:∀i,i<t.pts.length→65536*i<data.length
theorem Pst.Whole.upto{t:Pst}{data:List UInt8}{dict:Nat}{pr:Pr}{raw:Bool}(h:t.Whole data dict pr raw):Pk.upto data.length t.pts.length=data.length:=by
 have:=h.all
 unfold Pk.upto
 omega
theorem Pst.Whole.pieces{t:Pst}{data:List UInt8}{dict:Nat}{pr:Pr}{raw:Bool}(h:t.Whole data dict pr raw):t.pts.length=(data.length+65535)/65536:=by
 have h1:=h.all
 by_cases h0:t.pts.length=0
 ·omega
 ·have h2:=h.each (t.pts.length-1) (by omega)
  omega
theorem readE_G{U:Type}(F:U→Head→List UInt8→Option U)(b:List UInt8)(packed size:Int):∀(f:Nat)(s:Sr)(u:U),readE F b packed size f s u=readG F b packed size f s u
 |0,s,u=>rfl
 |f+1,s,u=>by
   unfold readE readG
   by_cases h3:s.now=3
   ·rw[if_pos h3,if_pos h3]
   rw[if_neg h3,if_neg h3]
   cases nextP b packed size s with
   |error x=>rfl
   |ok r=>
     obtain⟨h,part,fr,s2⟩:=r
     simp only
     cases F u h part with
     |none=>rfl
     |some u2=>exact readE_G F b packed size f s2 u2
theorem fold_heads:∀(l:List Chk)(hs:List Head),fold hStep l hs=some (hs++l.map (·.1))
 |[],hs=>by simp[fold]
 |p::l,hs=>by
   rw[fold,hStep,Option.bind_some,fold_heads l]
   simp
theorem moves_of{dict g:Nat}{l:List Pt}(hd:1≤dict)(hg:dict≤g)(hl:PtsOk l 0 (Xe.start dict) (0,0,0)):moves (chunks l (Xe.start dict) (0,0,0)) 0:=by
 have hR:Rel g (Xe.start dict) (0,0,0) (Ck.US.start g) (Cs.US.start g):=
  ⟨rfl,rfl,rfl,rfl,rfl,rfl,⟨⟨show 0+0≤4 by decide,show 0≤4 by decide,S.new_ok⟩,fresh_ok 0 0⟩,rfl,⟨hd,fun h7=>absurd h7 (show¬7≤0 by decide)⟩,hg,by decide⟩
 exact(fold_ok hR hl).1
theorem Pst.Whole.law{t:Pst}{data:List UInt8}{dict:Nat}{pr:Pr}{raw:Bool}(h:t.Whole data dict pr raw){g:Nat}(hd:1≤dict)(hg:dict≤g)(hg2:g≤4294967295)(behind:List UInt8):
 Ck.unpackP (t.out dict++0::behind) g (-1) (-1)=.ok ((t.out dict).length+1,data)∧
 readG hStep (t.out dict++0::behind) (-1) (-1) ((t.out dict++0::behind).length+2) ⟨0,0,0⟩ []=.ok ((t.out dict).length+1,(t.row dict).map (·.1)++[Head.none])∧
 (t.out dict).length≤data.length+3*((data.length+65535)/65536):=by
 have hu:=h.upto
 obtain⟨a,_⟩:=build_read hd hg hg2 h.ok.pts behind
 rw[h.ok.plain,hu,List.take_length] at a
 refine⟨a,?_,?_⟩
 ·have hm:=moves_of hd hg h.ok.pts
  have hlen:=rowB_len hm
  have r1:=read_row hStep (t.out dict++0::behind) behind (t.row dict) ((t.out dict++0::behind).length+2) ⟨0,0,0⟩ [] _ _ hm (by decide) rfl (fold_heads _ _) rfl (by
   rw[List.length_append]
   unfold Pst.out Pst.row
   omega)
  rw[readE_G] at r1
  rw[r1]
  simp only[Nat.zero_add,List.nil_append]
  rfl
 ·have hl:=h.ok.len
  rw[hu,h.pieces] at hl
  exact hl
theorem Pst.Whole.heads{t:Pst}{data:List UInt8}{dict:Nat}{pr:Pr}{raw:Bool}(h:t.Whole data dict pr raw):
 (t.row dict).length=(data.length+65535)/65536∧∀i k,(t.row dict)[i]? =some k→k.1.size=min (data.length-65536*i) 65536∧k.1.kind≠0:=by
 refine⟨(chunks_length _ _ _).trans h.pieces,fun i k hk=> ?_⟩
 obtain⟨h1,h2⟩:=h.ok.sizes i k hk
 have hi:i<t.pts.length:=by
  have:=(List.getElem?_eq_some_iff.1 hk).1
  rwa [show(t.row dict).length=t.pts.length from chunks_length _ _ _] at this
 have h3:=h.each i hi
 refine⟨?_,h2⟩
 rw[h1]
 unfold Pk.upto
 omega
theorem Pst.Whole.one{t:Pst}{data:List UInt8}{dict:Nat}{pr:Pr}(h:t.Whole data dict pr true)(h1:1≤data.length)(h2:data.length≤65536):t.out dict=headB ⟨1,data.length,data.length,0,0,0⟩++data:=by
 have hp:=h.pieces
 have hu:=h.upto
 have hok:=h.ok.pts
 have hpl:=h.ok.plain
 have hr:=h.ok.raw rfl
 rw[hu,List.take_length] at hpl
 unfold Pst.out Pst.row
 generalize t.pts=l at*
 match l,hp with
 |[],hp=>simp at hp;omega
 |p::q::l,hp=>simp at hp;omega
 |[p],_=>
   obtain⟨k1,k2,k3,k4⟩:=hok
   have hk:=hr p (List.mem_singleton.2 rfl)
   have hk1:=k1.kind.1
   have hkk:(p.head (p.prep (Xe.start dict) (0,0,0)).1).kind=p.kind:=by unfold Pt.head;split<;>rfl
   rw[hkk] at hk1
   have hm:p.kind≠2:=fun e=>by
    rw[e] at k2
    exact absurd k2 (by decide)
   have e1:p.kind=1:=by omega
   have hraw:p.raw=data:=by
    simp only[plains,Pt.plain,List.append_nil] at hpl
    rw[if_pos hk] at hpl
    exact hpl
   have e2:p.head (p.prep (Xe.start dict) (0,0,0)).1=⟨1,data.length,data.length,0,0,0⟩:=by
    unfold Pt.head Pt.plain Pt.bytes
    rw[if_pos (by omega),if_pos hk,if_pos hk,e1,hraw]
   have e3:p.bytes (p.prep (Xe.start dict) (0,0,0)).1=data:=by unfold Pt.bytes;rw[if_pos hk,hraw]
   simp only[chunks,rowB]
   rw[e2,e3,List.append_nil]
end Pk
end Go.Proofs.YtffoddpjfgjelaaGreatDoor
