/- Part 19 of 55: lemmas of the last part, each under the conditions that it names. -/
import Derived.Test.YtlgccpjccopdmaaGreatDoorP10
import Derived.Test.YtlgccpjccopdmaaGreatDoorP12
import Derived.Test.YtlgccpjccopdmaaGreatDoorP17
import Derived.Test.YtlgccpjccopdmaaGreatDoorP18
set_option linter.unusedVariables false
set_option linter.unusedSimpArgs false
set_option maxRecDepth 1500
set_option maxHeartbeats 1000000
namespace Go.Proofs.YtlgccpjccopdmaaGreatDoor
open Go.RowKit
namespace En
open Mem Rc Win Lz Tr
def TAt(w:World)(B:Nat)(v:Value)(b gb:Nat)(e:Es)(j:Nat):Prop:=∃g,EAt w B v g∧Is g e.k∧Prob.SetAt w b gb (e.ps j)
def TF(B:Nat)(v:Value)(gb k:Nat):Prop:=EF B v k∨k=gb
def TPost(B:Nat)(v:Value)(b gb:Nat)(w:World)(e:Es)(j:Nat)(w':World):Prop:=Fr (TF B v gb) w w'∧∃v',TAt w' B v' b gb e j∧∀k,v'.ownBlock=some k→v.ownBlock=some k∨w.heap.size≤k
theorem TAt.same{w:World}{B b gb j:Nat}{v:Value}{e:Es}(h:TAt w B v b gb e j):TPost B v b gb w e j w:=⟨Fr.refl _ _,v,h,fun k hk=>.inl hk⟩
theorem TAt.keep{S:Nat→Prop}{w w':World}{B b gb j:Nat}{v:Value}{e:Es}(h:TAt w B v b gb e j)(hfr:Fr S w w')(hS:∀k,k<w.heap.size→¬S k):TAt w' B v b gb e j:=by
 obtain⟨g,h1,h2,h3⟩:=h
 exact⟨g,h1.keep hfr (hS _ (lt_of_block h1.box)) (fun k hk=>hS k (World.ownsRow.lt h1.own k hk).2),h2,h3.step hfr (hS _ h3.lt.1) (hS _ h3.lt.2)⟩
theorem TPost.trans{w w1 w2:World}{B b gb j:Nat}{v v1:Value}{e:Es}(h1:Fr (TF B v gb) w w1)(hn:∀k,v1.ownBlock=some k→v.ownBlock=some k∨w.heap.size≤k)(h2:TPost B v1 b gb w1 e j w2):TPost B v b gb w e j w2:=by
 obtain⟨f,v2,a,n⟩:=h2
 refine⟨h1.trans' f (fun k hk e=> ?_),v2,a,fun k hk=> ?_⟩
 ·rcases e with(e|e)|e
  ·exact .inl (.inl e)
  ·rcases hn k e with e|e
   ·exact .inl (.inr e)
   ·omega
  ·exact .inr e
 ·rcases n k hk with e|e
  ·exact hn k e
  ·exact .inr (Nat.le_trans h1.size e)
theorem TAt.off{w:World}{B b gb j:Nat}{v:Value}{e:Es}(h:TAt w B v b gb e j){k:Nat}{cs:Array Value}{t:TypeId}{fr:Nat×Nat}(hk:w.heap[k]? =some (.cells cs t fr))(h1:t≠191)(h2:t≠5)(h3:t≠3∨k≠gb):¬TF B v gb k:=by
 obtain⟨g,a,_,s⟩:=h
 rintro((rfl|e)|rfl)
 ·rw[a.box] at hk
  simp only[Option.some.injEq,Obj.cells.injEq] at hk
  exact h1 hk.2.1.symm
 ·exact off_box a.own hk h2 _ e rfl
 ·obtain⟨_,_,_,hg,_⟩:=s
  rcases h3 with h3|h3
  ·rw[hg] at hk
   simp only[Option.some.injEq,Obj.cells.injEq] at hk
   exact h3 hk.2.1.symm
  ·exact h3 rfl
theorem tbit_calls{w:World}{B b gb j i bit lc lp:Nat}{v:Value}{e:Es}(h:TAt w B v b gb e j)(hok:e.Ok lc lp)(ho:Op.Ok lc lp (.bit j i bit))(hs:e.k.s≤1099511627776):
 Calls Tryz.prog 290 #[ptr B,ptr b,.int .i64 i,.int .i64 bit] w fun r w'=>r=.returned (.int .i64 0)∧TPost B v b gb w (e.op (.bit j i bit)) j w':=by
 obtain⟨g,a,hg,s⟩:=h
 obtain⟨f1,f2,f3,f4⟩:=hg.fit hs
 obtain⟨p1,p2,p3⟩:=hok.at ho.1 ho.2.1
 refine(ebit_calls a f1 f2 f3 f4 s p1 p2 p3 ho.2.2).mono ?_
 rintro r w' ⟨rfl,hf,⟨v',a',n'⟩,s'⟩
 refine⟨rfl,hf,v',⟨_,a',hg.bit bit p2 p3,?_⟩,n'⟩
 show Prob.SetAt w' b gb (upd e.ps j _ j)
 rw[upd_same]
 exact s'
theorem op_s(e:Es)(o:Op):(e.op o).k.s≤e.k.s+1:=by
 cases o with
 |bit j i b=>exact K.bit_s _ _ _
 |half b=>exact K.half_s _ _
theorem run_s:∀(l:List Op)(e:Es),(e.run l).k.s≤e.k.s+l.length
 |[],e=>Nat.le_refl _
 |o::l,e=>by
   have h1:=op_s e o
   have h2:=run_s l (e.op o)
   rw[Es.run,List.length_cons]
   omega
structure Bx(w:World)(z B b x n:Nat)(back:Bool):Prop where
 e:w.heap[z]? =some (.cells #[ptr B] 125 (0,0))
 s:w.heap[z+1]? =some (.cells #[ptr b] 182 (0,0))
 n:w.heap[z+2]? =some (.cells #[.int .i64 n] 3 (0,0))
 x:w.heap[z+3]? =some (.cells #[.int .i64 x] 3 (0,0))
 back:w.heap[z+4]? =some (.cells #[.bool back] 4 (0,0))
theorem Bx.keep{w w':World}{z B b x n gb j:Nat}{v:Value}{e:Es}{back:Bool}(h:Bx w z B b x n back)(ht:TAt w B v b gb e j)(hz:gb<z)(hfr:Fr (TF B v gb) w w'):Bx w' z B b x n back:=
 ⟨hfr.keep h.e (ht.off h.e (by decide) (by decide) (.inl (by decide))),hfr.keep h.s (ht.off h.s (by decide) (by decide) (.inl (by decide))),hfr.keep h.n (ht.off h.n (by decide) (by decide) (.inr (by omega))),hfr.keep h.x (ht.off h.x (by decide) (by decide) (.inr (by omega))),hfr.keep h.back (ht.off h.back (by decide) (by decide) (.inl (by decide)))⟩
abbrev cap(z:Nat):Array Value:=#[ptr (z+3),ptr (z+4),ptr (z+2),ptr z,ptr (z+1)]
theorem bit_of(x o:Nat)(hx:x<65536):bits BinOp.and IntKind.i64 ((x:Int)/2^o) 1=((x/2^o%2:Nat):Int):=by
 have e:(x:Int)/2^o=((x/2^o:Nat):Int):=by simp
 have hl:x/2^o≤x:=Nat.div_le_self _ _
 have:=and_low (x/2^o) 1 (by omega) (by decide)
 rw[e]
 simpa using this
theorem put1_calls{w:World}{z B b gb j a m k n x lc lp:Nat}{v:Value}{e:Es}{back:Bool}(h:TAt w B v b gb e j)(hb:Bx w z B b x n back)(hok:e.Ok lc lp)(hk:k<n)(hn:n≤16)(hx:x<65536)(ho:Op.Ok lc lp (.bit j (a+m) (x/2^ord back n k%2)))(hs:e.k.s≤1099511627776)(pl:Int)(hpl:pl=((a+m:Nat):Int)):
 Calls Tryz.prog 296 (#[.int .i64 pl,.int .i64 k]++cap z) w fun r w'=>r=.returned (.tuple #[.int .i64 ((x/2^ord back n k%2:Nat):Int),.int .i64 0])∧TPost B v b gb w (e.op (.bit j (a+m) (x/2^ord back n k%2))) j w':=by
 have c0:=cell_in (i:=0) hb.x rfl
 have c1:=cell_in (i:=0) hb.back rfl
 have c2:=cell_in (i:=0) hb.n rfl
 have hq:=bit_of x (ord back n k) hx
 have HB:=Hd (show∀q,Fr (fun _=>False) w (w.drewN q) from fun q=>(Fr.refl _ w).drewN q)
 have HT:=Hd (fun q=>tbit_calls (h.keep (HB.out q) (fun _ _ h=>h)) hok ho hs)
 rw[←hpl] at HT
 have hm:min (ord back n k) 64=ord back n k:=by have:ord back n k<n:=(by unfold ord;split<;>omega);omega
 have HE:=Hd (fun q=>(HB.out q).keep hb.e (fun h=>h))
 have HS:=Hd (fun q=>(HB.out q).keep hb.s (fun h=>h))
 have HO:=Hd (fun w=>order_calls back n k w hk hn)
 clear h hb hok ho hpl
 generalize x/2^ord back n k%2=bt at*
 go_enter Tryz.func296,Tryz.ntmps296
 go_wp2_with fail
 go_quiet ((go_at_call 266;exact quiet_left (HO.out _)))
 have d0:=cell_in (i:=0) (HE.out nq) rfl
 have d1:=cell_in (i:=0) (HS.out nq) rfl
 clear c0 c1 c2 HE HS
 go_wp2_with fail
 refine(HT.out nq).mono ?_
 rintro r w2 ⟨rfl,hp⟩
 have HP:=Hd (TPost.trans (v1:=v) ((HB.out nq).mono (fun _ _ h=>h.elim)) (fun k hk=>.inl hk) hp)
 clear hp
 go_wp2_with fail
 go_ret2
 exact⟨rfl,HP.out⟩
structure PRel(w0:World)(B:Nat)(v:Value)(b gb j a n x lc lp:Nat)(back:Bool)(fin:Es)(k m:Nat)(wr:World):Prop where
 le:k≤n
 hm:m<2^(k+1)
 ok:∃e,TPost B v b gb w0 e j wr∧e.Ok lc lp∧e.k.s+(n-k)≤1099511627776∧e.run (treeOps back j a n x (n-k) m)=fin∧∀o ∈ treeOps back j a n x (n-k) m,o.Ok lc lp
theorem pdown_calls{w:World}{z B b gb j a n x lc lp:Nat}{v:Value}{e:Es}{back:Bool}(h:TAt w B v b gb e j)(hb:Bx w z B b x n back)(hz:gb<z)(hok:e.Ok lc lp)(hn:n≤16)(hx:x<65536)(ha:a≤1099511627776)(ho:∀o ∈ treeOps back j a n x n 1,o.Ok lc lp)(hs:e.k.s+n≤1099511627776):
 Calls Tryz.prog 264 #[.int .i64 a,.int .i64 n,.func (Fn.func 296) #[] (cap z)] w fun r w'=>r=.returned (.int .i64 0)∧TPost B v b gb w (e.run (treeOps back j a n x n 1)) j w':=by
 have HB:=Hd (fun(wr:World)(hf:Fr (TF B v gb) w wr)=>hb.keep h hz hf)
 have H0:=Hd (show PRel w B v b gb j a n x lc lp back (e.run (treeOps back j a n x n 1)) 0 1 w from⟨Nat.zero_le _,by decide,e,h.same,hok,hs,rfl,ho⟩)
 generalize e.run (treeOps back j a n x n 1)=fin at*
 clear h hb hok ho hs
 go_enter Tryz.func264,Tryz.ntmps264
 go_wp2_with fail
 go_loopw [7,8,9,10,12](fun s7 _ _ _ i wr=>∃k m:Nat,i=.int .i64 k∧s7=.int .i64 m∧PRel w B v b gb j a n x lc lp back fin k m wr) (fun _ _ _ _ i _=>n-(intOf i).toNat)
 case atStart=>exact⟨0,1,rfl,rfl,H0.out⟩
 case round=>
  obtain⟨k,m,rfl,rfl,hk,hm,e1,⟨f1,v1,t1,n1⟩,ok1,s1,r1,o1⟩:=hrel
  by_cases hlt:k<n
  ·obtain⟨f,hf⟩:∃f,n-k=f+1:=⟨n-k-1,by omega⟩
   have hkf:n-(f+1)=k:=by omega
   rw[hf] at s1 r1 o1
   rw[treeOps,hkf] at r1 o1
   have hp:(2:Nat)^(k+1)≤2^16:=Nat.pow_le_pow_right (by omega) (by omega)
   have hb1:x/2^ord back n k%2≤1:=by omega
   have hO:=o1 _ (List.mem_cons_self ..)
   have HC:=Hd (fun(pl:Int)(hpl:pl=((a+m:Nat):Int))=>put1_calls t1 (HB.out wr f1) ok1 hlt hn hx hO (by omega) pl hpl)
   have HF1:=Hd f1
   have HN1:=Hd n1
   have HOK:=Hd (ok1.op hO).1
   have HSS:=Hd (show(e1.op (.bit j (a+m) (x/2^ord back n k%2))).k.s+f≤1099511627776 by have:=op_s e1 (.bit j (a+m) (x/2^ord back n k%2));omega)
   have HR:=Hd (show(e1.op (.bit j (a+m) (x/2^ord back n k%2))).run (treeOps back j a n x f (2*m+x/2^ord back n k%2))=fin from r1)
   have HO:=Hd (fun o ho=>o1 o (List.mem_cons_of_mem _ ho))
   have hmb:m≤65536:=by omega
   have HMB:=Hd (show 2*m+x/2^ord back n k%2<2^(k+1+1) by rw[Nat.pow_succ];omega)
   clear f1 t1 n1 ok1 s1 r1 o1 hO hp hm
   generalize e1.op (.bit j (a+m) (x/2^ord back n k%2))=e2 at*
   generalize x/2^ord back n k%2=bt at*
   go_wp2_with fail
   refine(HC.out _ (by omega)).mono ?_
   rintro r w2 ⟨rfl,hp⟩
   have HP:=Hd (TPost.trans HF1.out HN1.out hp)
   clear hp
   go_wp2_with fail
   go_roundw
   case rel=>exact⟨k+1,2*m+bt,by go_num,by go_num,by omega,HMB.out,e2,HP.out,HOK.out,by have:=HSS.out;omega,by rw[show n-(k+1)=f by omega];exact HR.out,by rw[show n-(k+1)=f by omega];exact HO.out⟩
   case measure=>simp[intOf];omega
  ·obtain rfl:k=n:=by omega
   rw[Nat.sub_self] at r1
   have HR:=Hd (show e1=fin from r1)
   have HP:=Hd (show TPost B v b gb w e1 j wr from⟨f1,v1,t1,n1⟩)
   clear f1 t1 n1 ok1 s1 r1 o1 hm hlt
   go_wp2_with fail
   go_ret
   rw[←HR.out]
   exact⟨rfl,HP.out⟩
theorem holds_calls(x n:Nat)(w:World)(hn:n≤16)(hx:x<2^n):Calls Tryz.prog 295 #[.int .i64 x,.int .i64 n] w fun e w'=>e=.returned (.bool true)∧w=w':=by
 have hp:2^n≤65536:=Nat.le_trans (Nat.pow_le_pow_right (by omega) hn) (by decide)
 have hpi:((2^n:Nat):Int)=2^n:=by simp
 have hw2:IntKind.i64.wrap (2^n)=2^n:=by
  rw[←hpi]
  exact IntWalk.i64_in _ (by omega)
 have hw:IntKind.i64.wrap (1*2^n)=2^n:=by rw[Int.one_mul];exact hw2
 have hmin:min n 64=n:=by omega
 have t1:decide ((x:Int)<2^n)=true:=decide_eq_true (by rw[←hpi];omega)
 have z1:decide ((x:Int)≥0)=true:=by simp
 have z2:decide ((0:Int)≤(x:Int))=true:=by simp
 clear hp hpi hx
 go_enter Tryz.func295,Tryz.ntmps295
 go_wp2_with fail
 go_ret
 exact⟨rfl,rfl⟩
theorem put_calls{w:World}{B b gb j a n x lc lp:Nat}{v:Value}{e:Es}{back:Bool}(h:TAt w B v b gb e j)(hok:e.Ok lc lp)(hn:n≤16)(hx:x<2^n)(ha:a+2^n≤Lz.rowLen lc lp j)(hj:j<18)(hs:e.k.s+n≤1099511627776)(hl:Lz.rowLen lc lp j≤1099511627776):
 Calls Tryz.prog 293 #[ptr B,ptr b,.int .i64 a,.int .i64 n,.int .i64 x,.bool back] w fun r w'=>r=.returned (.int .i64 0)∧TPost B v b gb w (e.run (treeOps back j a n x n 1)) j w':=by
 have hp16:2^n≤65536:=Nat.le_trans (Nat.pow_le_pow_right (by omega) hn) (by decide)
 have hlen:=hok.len j hj
 have hops:=(tree_reads (lc:=lc) (lp:=lp) back hj hx hn ha).1
 obtain⟨hfr,hsz,b1,b2,b3,b4,b5⟩:=five w (.cells #[ptr B] 125) (.cells #[ptr b] 182) (.cells #[.int .i64 n] 3) (.cells #[.int .i64 x] 3) (.cells #[.bool back] 4)
 have HT:=Hd (h.keep hfr (fun _ _ h=>h))
 have HBX:=Hd (show Bx _ w.heap.size B b x n back from⟨b1,b2,b3,b4,b5⟩)
 have HFR:=Hd hfr
 have HSZ:=Hd hsz
 have hgl:gb<w.heap.size:=by obtain⟨_,_,_,s⟩:=h;exact s.lt.2
 have HTH:=Hd (fun(W:World)(hf:Fr (fun _=>False) w W)=>show Calls Tryz.prog 263 #[ptr b,.int .i64 a,.int .i64 n] W (fun r w'=>r=.returned (.bool true)∧Fr (fun _=>False) W w') from by
  obtain⟨_,_,_,s⟩:=h
  have:=there_calls b gb a n (e.ps j) W (s.keep hf) (by omega) (by omega) (by omega)
  rwa [show thereB (e.ps j) a n=true from decide_eq_true ⟨hn,by omega,by omega⟩] at this)
 have HDN:=Hd (fun(W:World)(hf:Fr (fun _=>False) w W)(hbx:Bx W w.heap.size B b x n back)=>pdown_calls (h.keep hf (fun _ _ h=>h)) hbx hgl hok hn (by omega) (by omega) hops hs)
 clear hfr hsz b1 b2 b3 b4 b5 h hok hops
 go_enter Tryz.func293,Tryz.ntmps293
 go_wp2_with fail
 generalize hz:w.heap.size=z at*
 generalize World.alloc (World.alloc (World.alloc (World.alloc (World.alloc w _) _) _) _) _=W at*
 refine(HTH.out W HFR.out).mono ?_
 rintro r w2 ⟨rfl,hf2⟩
 have hb2:Bx w2 z B b x n back:=⟨hf2.keep HBX.out.e (fun h=>h),hf2.keep HBX.out.s (fun h=>h),hf2.keep HBX.out.n (fun h=>h),hf2.keep HBX.out.x (fun h=>h),hf2.keep HBX.out.back (fun h=>h)⟩
 have d3:=cell_in (i:=0) hb2.x rfl
 have d2:=cell_in (i:=0) hb2.n rfl
 have HB2:=Hd hb2
 have HF2:=Hd (HFR.out.trans hf2)
 have HH:=Hd (holds_calls x n w2 hn hx)
 clear hb2 hf2
 go_wp2_with fail
 refine HH.out.mono ?_
 rintro r w3 ⟨rfl,rfl⟩
 go_wp2_with fail
 refine(HDN.out w2 HF2.out HB2.out).mono ?_
 rintro r w4 ⟨rfl,hp⟩
 have HP:=Hd (TPost.trans (v1:=v) (HF2.out.mono (fun _ _ h=>h.elim)) (fun k hk=>.inl hk) hp)
 clear hp
 go_wp2_with fail
 go_ret
 exact⟨rfl,HP.out⟩
theorem tput_calls{w:World}{B b gb j a n x lc lp:Nat}{v:Value}{e:Es}(h:TAt w B v b gb e j)(hok:e.Ok lc lp)(hn:n≤16)(hx:x<2^n)(ha:a+2^n≤Lz.rowLen lc lp j)(hj:j<18)(hs:e.k.s+n≤1099511627776)(hl:Lz.rowLen lc lp j≤1099511627776):
 Calls Tryz.prog 292 #[ptr B,ptr b,.int .i64 a,.int .i64 n,.int .i64 x] w fun r w'=>r=.returned (.int .i64 0)∧TPost B v b gb w (e.run (treeOps false j a n x n 1)) j w':=by
 have HC:=Hd (put_calls (back:=false) h hok hn hx ha hj hs hl)
 clear h hok
 generalize e.run (treeOps false j a n x n 1)=e2 at*
 go_enter Tryz.func292,Tryz.ntmps292
 go_wp2_with fail
 refine HC.out.mono ?_
 rintro r w4 ⟨rfl,hp⟩
 go_wp2_with fail
 go_ret
 exact⟨rfl,hp⟩
theorem tback_calls{w:World}{B b gb j a n x lc lp:Nat}{v:Value}{e:Es}(h:TAt w B v b gb e j)(hok:e.Ok lc lp)(hn:n≤16)(hx:x<2^n)(ha:a+2^n≤Lz.rowLen lc lp j)(hj:j<18)(hs:e.k.s+n≤1099511627776)(hl:Lz.rowLen lc lp j≤1099511627776):
 Calls Tryz.prog 289 #[ptr B,ptr b,.int .i64 a,.int .i64 n,.int .i64 x] w fun r w'=>r=.returned (.int .i64 0)∧TPost B v b gb w (e.run (treeOps true j a n x n 1)) j w':=by
 have HC:=Hd (put_calls (back:=true) h hok hn hx ha hj hs hl)
 clear h hok
 generalize e.run (treeOps true j a n x n 1)=e2 at*
 go_enter Tryz.func289,Tryz.ntmps289
 go_wp2_with fail
 refine HC.out.mono ?_
 rintro r w4 ⟨rfl,hp⟩
 go_wp2_with fail
 go_ret
 exact⟨rfl,hp⟩
end En
namespace En
open Mem Rc St Lz
structure Xe where
 c:C
 e:Es
def Xe.ap(x:Xe)(y:Sy):Nat×List UInt8×S:=apply x.c.size x.c.all x.c.s y
def Xe.put(x:Xe)(y:Sy):Xe:=⟨(x.c.on (x.ap y).2.1).to (x.ap y).2.2,x.e.run (symOps x.c y)⟩
def Xe.putAll:List Sy→Xe→Xe
 |[],x=>x
 |y::l,x=>putAll l (x.put y)
def Xe.made:List Sy→Xe→List UInt8
 |[],_=>[]
 |y::l,x=>(x.ap y).2.1++made l (x.put y)
def Legal:List Sy→Xe→Prop
 |[],_=>True
 |y::l,x=>May x.c y∧(x.ap y).1=0∧Legal l (x.put y)
structure Xe.Ok(x:Xe):Prop where
 c:x.c.Ok
 e:x.e.Ok x.c.lc x.c.lp
theorem Xe.Ok.put{x:Xe}(h:x.Ok){y:Sy}(hy:May x.c y)(h0:(x.ap y).1=0):(x.put y).Ok:=
 ⟨⟨h.c.l,h.c.pb,apply_ok h0 h.c.s⟩,(h.e.run (sym_reads x.c h.c hy).1).1⟩
theorem Xe.Ok.putAll:∀{l:List Sy}{x:Xe},x.Ok→Legal l x→(x.putAll l).Ok∧x.e.k.In (x.putAll l).e.k∧(x.putAll l).c.lc=x.c.lc∧(x.putAll l).c.lp=x.c.lp
 |[],x,h,_=>⟨h,.refl _,rfl,rfl⟩
 |y::l,x,h,⟨h1,h2,h3⟩=>by
   have ih:=(h.put h1 h2).putAll h3
   exact⟨ih.1,((h.e.run (sym_reads x.c h.c h1).1).2).trans ih.2.1,ih.2.2⟩
theorem apply_norm(size:Nat)(all:List UInt8)(s:S){y:Sy}(hk:y.kind=1∨y.kind=2∨y.kind=3∨y.kind=4):apply size all s (norm y)=apply size all s y∧St.size (norm y)=St.size y:=by
 obtain⟨k,b,n,d⟩:=y
 simp only at hk
 rcases hk with rfl|rfl|rfl|rfl
 ·exact⟨by simp[norm,apply,S.next],by simp[norm,St.size,S.next]⟩
 ·exact⟨by simp[norm,apply,S.next,distOf,lenOfSy],by simp[norm,St.size,S.next]⟩
 ·exact⟨by simp[norm,apply,S.next,distOf,lenOfSy],by simp[norm,St.size,S.next]⟩
 ·exact⟨by simp[norm,apply,S.next,distOf,lenOfSy],by simp[norm,St.size,S.next]⟩
theorem size_pos{y:Sy}{c:C}(h:May c y):1≤St.size y:=by
 obtain⟨k,b,n,d⟩:=y
 have hk:=h.kind
 have hl:=h.len
 have hd:=h.dist
 simp only at hk hl hd
 rcases hk with rfl|rfl|rfl|rfl
 ·simp[St.size,S.next]
 ·have h1:=hl (.inl rfl)
  have e:St.size ⟨2,b,n,d⟩=n:=by
   have e:(S.new.next ⟨2,b,n,d⟩).1=0:=by unfold S.next;rw[if_neg (by simp),if_neg (by simp),if_pos rfl,if_pos h1,if_pos (hd rfl)]
   unfold St.size
   rw[e,if_pos rfl,if_pos (.inl rfl)]
  omega
 ·have h1:=hl (.inr rfl)
  have e:St.size ⟨3,b,n,d⟩=n:=by
   have e:(S.new.next ⟨3,b,n,d⟩).1=0:=by unfold S.next;rw[if_neg (by simp),if_neg (by simp),if_neg (by simp),if_pos h1]
   unfold St.size
   rw[e,if_pos rfl,if_pos (.inr rfl)]
  omega
 ·simp[St.size,S.next]
theorem take_go{f:K}(hf:0<f.r):∀(l:List Sy)(x:Xe)(y:Y)(q n:Nat)(ls:List Sy)(out:List UInt8),x.Ok→Legal l x→Syn f x.c.lc x.c.lp x.e y→(x.putAll l).e.k=f→l.length<q→n=out.length+(x.made l).length→
 ∃y2,takeGo n q x.c y ls out=some ((x.putAll l).c,y2,ls++l.map norm,out++x.made l)∧Syn f x.c.lc x.c.lp (x.putAll l).e y2
 |[],x,y,q,n,ls,out,h,hl,hs,hf2,hq,hn=>by
   obtain⟨q,rfl⟩:∃p,q=p+1:=⟨q-1,by simp at hq;omega⟩
   refine⟨y,?_,hs⟩
   simp only[Xe.made,List.length_nil] at hn
   rw[takeGo,if_pos (by omega)]
   simp[Xe.putAll,Xe.made]
 |z::l,x,y,q,n,ls,out,h,⟨h1,h2,h3⟩,hs,hf2,hq,hn=>by
   obtain⟨q,rfl⟩:∃p,q=p+1:=⟨q-1,by simp at hq;omega⟩
   have hr:=sym_reads x.c h.c h1
   have hp:=h.put h1 h2
   have hin:(x.e.run (symOps x.c z)).k.In f:=by
    rw[←hf2]
    exact(hp.putAll h3).2.1
   obtain⟨r1,r2⟩:=hr.2 f x.e y hf hs hin
   simp only at r1 r2
   obtain⟨a1,a2⟩:=apply_norm x.c.size x.c.all x.c.s h1.kind
   have hlen:(x.ap z).2.1.length=St.size z:=apply_len h2 h1.kind
   have hsz:=size_pos h1
   rw[Xe.made,List.length_append,hlen] at hn
   obtain⟨y2,e2,s2⟩:=take_go hf l (x.put z) (y.symbol x.c).2 q n (ls++[norm z]) (out++(x.ap z).2.1) hp h3 r2 hf2 (by simp at hq;omega) (by rw[List.length_append,hlen];omega)
   refine⟨y2,?_,s2⟩
   rw[takeGo,if_neg (by omega),r1,r2.bad,a1,a2,if_neg (by
    rintro(h|h|h)
    ·cases h
    ·omega
    ·omega),if_neg (by
    show¬(x.ap z).1≠0
    rw[h2]
    simp)]
   rw[show takeGo n q ((x.c.on (apply x.c.size x.c.all x.c.s z).2.1).to (apply x.c.size x.c.all x.c.s z).2.2) (y.symbol x.c).2 (ls++[norm z]) (out++(apply x.c.size x.c.all x.c.s z).2.1)=takeGo n q (x.put z).c (y.symbol x.c).2 (ls++[norm z]) (out++(x.ap z).2.1) from rfl,e2]
   simp[Xe.made,Xe.putAll,Xe.put]
theorem made_len:∀{l:List Sy}{x:Xe},Legal l x→l.length≤(x.made l).length
 |[],_,_=>Nat.zero_le _
 |y::l,x,⟨h1,h2,h3⟩=>by
   have ih:=made_len h3
   have h4:(x.ap y).2.1.length=St.size y:=apply_len h2 h1.kind
   have h5:=size_pos h1
   rw[Xe.made,List.length_append,List.length_cons]
   omega
theorem take_put{x:Xe}(h:x.Ok)(hk:x.e.k=K.new){l:List Sy}(hl:Legal l x):takeAll x.c x.e.ps (x.putAll l).e.k.bytes (x.made l).length=some (l.map norm,x.made l,(x.putAll l).c,(x.putAll l).e.ps):=by
 have hp:=h.putAll hl
 have hf:0<(x.putAll l).e.k.r:=by have:=hp.1.e.k.lo;omega
 have hin:=hp.2.1
 rw[hk] at hin
 obtain⟨d,h1,h2⟩:=init_sync hin hf
 rw[←hk] at h2
 have hml:=made_len hl
 obtain⟨y2,e2,s2⟩:=take_go hf l x ⟨d,false,x.e.ps⟩ ((x.made l).length+1) (x.made l).length [] [] h hl ⟨h2,rfl,rfl,h.e⟩ rfl (by omega) (by simp)
 have hfin:=Sync.fin s2.s
 unfold takeAll
 rw[h1]
 simp only
 rw[e2]
 simp only
 rw[if_pos hfin,s2.ps]
 simp
end En
namespace En
open Mem Rc Win Lz St
structure XL where
 D:Nat
 E:Nat
 T:Nat
 W:Nat
 v:Value
 rv:Value
 ring:List UInt8
 t:Nat
 b:Nat→Nat
 g:Nat→Nat
structure XAt(w:World)(l:XL)(x:Xe):Prop where
 d:w.heap[l.D]? =some (.cells #[ptr l.T,ptr l.W,ptr l.E] 128 (0,0))
 tab:Tab w l.T l.b l.g x.c.lc x.c.lp x.c.pb x.c.s x.e.ps
 win:Win.At w l.W l.rv x.c.size x.c.all l.ring l.t
 rc:∃g,EAt w l.E l.v g∧Is g x.e.k
 ok:x.Ok
def XF(l:XL)(k:Nat):Prop:=EF l.E l.v k∨∃j,j<18∧k=l.g j
theorem XAt.off{w:World}{l:XL}{x:Xe}(h:XAt w l x){k:Nat}{cs:Array Value}{t:TypeId}{fr:Nat×Nat}(hk:w.heap[k]? =some (.cells cs t fr))(h1:t≠191)(h2:t≠5)(h3:t≠3):¬XF l k:=by
 obtain⟨g,a,_⟩:=h.rc
 rintro((rfl|e)|⟨j,hj,rfl⟩)
 ·rw[a.box] at hk
  simp only[Option.some.injEq,Obj.cells.injEq] at hk
  exact h1 hk.2.1.symm
 ·exact off_box a.own hk h2 _ e rfl
 ·obtain⟨_,_,_,hg,_⟩:=h.tab.set j hj
  rw[hg] at hk
  simp only[Option.some.injEq,Obj.cells.injEq] at hk
  exact h3 hk.2.1.symm
structure XSep(l:XL):Prop where
 rv:∀k,l.rv.ownBlock=some k→l.v.ownBlock≠some k
def XPost(l:XL)(w:World)(x:Xe)(w':World):Prop:=Fr (XF l) w w'∧∃v',XAt w' {l with v:=v'} x∧XSep {l with v:=v'}∧∀k,v'.ownBlock=some k→l.v.ownBlock=some k∨w.heap.size≤k
def Xe.ops(x:Xe)(o:List Op):Xe:=⟨x.c,x.e.run o⟩
def onRow(j:Nat):Op→Prop
 |.bit k _ _=>k=j
 |.half _=>True
theorem run_row{j k:Nat}(hk:k≠j):∀(o:List Op)(e:Es),(∀q ∈ o,onRow j q)→(e.run o).ps k=e.ps k
 |[],e,_=>rfl
 |q::o,e,h=>by
   rw[Es.run,run_row hk o _ (fun r hr=>h r (List.mem_cons_of_mem _ hr))]
   have:=h q (List.mem_cons_self ..)
   cases q with
   |bit i _ _=>
     have e:i=j:=this
     subst e
     exact upd_other _ _ hk
   |half _=>rfl
theorem XAt.post{w w':World}{l:XL}{x:Xe}(h:XAt w l x)(hp:XSep l){o:List Op}(ho:∀q ∈ o,q.Ok x.c.lc x.c.lp){v':Value}{g:G}(hfr:Fr (XF l) w w')(ha:EAt w' l.E v' g)(hg:Is g (x.e.run o).k)(hn:∀k,v'.ownBlock=some k→l.v.ownBlock=some k∨w.heap.size≤k)(hs:∀j,j<18→Prob.SetAt w' (l.b j) (l.g j) ((x.e.run o).ps j)):XPost l w (x.ops o) w':=by
 have hrw:=World.ownsRow.lt h.win.own
 refine⟨hfr,v',⟨hfr.keep h.d (h.off h.d (by decide) (by decide) (by decide)),⟨hfr.keep h.tab.box (h.off h.tab.box (by decide) (by decide) (by decide)),hs,h.tab.inj⟩,h.win.keep hfr (h.off h.win.box (by decide) (by decide) (by decide)) (fun k hk e=> ?_),⟨g,ha,hg⟩,⟨h.ok.c,(h.ok.e.run ho).1⟩⟩,⟨fun k hk e=> ?_⟩,hn⟩
 ·obtain⟨cur,hc⟩:=own_block h.win.own hk
  rcases e with(e|e)|⟨j,hj,e⟩
  ·obtain⟨g0,a0,_⟩:=h.rc
   rw[e,a0.box] at hc
   simp at hc
  ·exact hp.rv k hk e
  ·obtain⟨_,_,_,hg,_⟩:=h.tab.set j hj
   rw[e,hg] at hc
   simp at hc
 ·rcases hn k e with e|e
  ·exact hp.rv k hk e
  ·have:=(hrw k hk).2
   omega
theorem XPost.trans{w w1 w2:World}{l:XL}{v1:Value}{x:Xe}(h1:Fr (XF l) w w1)(hn:∀k,v1.ownBlock=some k→l.v.ownBlock=some k∨w.heap.size≤k)(h2:XPost {l with v:=v1} w1 x w2):XPost l w x w2:=by
 obtain⟨f,v2,a,s,n⟩:=h2
 refine⟨h1.trans' f (fun k hk e=> ?_),v2,a,s,fun k hk=> ?_⟩
 ·rcases e with(e|e)|e
  ·exact .inl (.inl e)
  ·rcases hn k e with e|e
   ·exact .inl (.inr e)
   ·omega
  ·exact .inr e
 ·rcases n k hk with e|e
  ·exact hn k e
  ·exact .inr (Nat.le_trans h1.size e)
theorem XAt.row{w w':World}{l:XL}{x:Xe}(h:XAt w l x)(hp:XSep l){j:Nat}(hj:j<18){o:List Op}(ho:∀q ∈ o,q.Ok x.c.lc x.c.lp)(hr:∀q ∈ o,onRow j q)(ht:TPost l.E l.v (l.b j) (l.g j) w (x.e.run o) j w'):XPost l w (x.ops o) w':=by
 obtain⟨hf,v',⟨g,a,hg,hs⟩,hn⟩:=ht
 have hfr:Fr (XF l) w w':=hf.mono (fun k _ e=>e.imp id (fun e=>⟨j,hj,e⟩))
 refine h.post hp ho hfr a hg hn (fun i hi=> ?_)
 by_cases e:i=j
 ·rw[e]
  exact hs
 ·rw[run_row e o x.e hr]
  obtain⟨g0,a0,_⟩:=h.rc
  have hso:=a0.offSet (h.tab.set i hi)
  have hb:=h.off (h.tab.set i hi).choose_spec.choose_spec.1 (by decide) (by decide) (by decide)
  refine(h.tab.set i hi).step hf (fun q=>hb (q.imp id (fun q=>⟨j,hj,q⟩))) (fun q=> ?_)
  rcases q with q|q
  ·exact hso.2 q
  ·exact e (h.tab.inj i j hi hj q)
theorem XAt.tat{w:World}{l:XL}{x:Xe}(h:XAt w l x){j:Nat}(hj:j<18):TAt w l.E l.v (l.b j) (l.g j) x.e j:=by
 obtain⟨g,a,hg⟩:=h.rc
 exact⟨g,a,hg,h.tab.set j hj⟩
theorem XAt.keep{w w':World}{l:XL}{x:Xe}(h:XAt w l x)(hfr:Fr (fun _=>False) w w'):XAt w' l x:=by
 obtain⟨g,a,hg⟩:=h.rc
 exact⟨hfr.keep h.d (fun h=>h),⟨hfr.keep h.tab.box (fun h=>h),fun j hj=>(h.tab.set j hj).keep hfr,h.tab.inj⟩,h.win.keep hfr (fun h=>h) (fun _ _ h=>h),⟨g,a.keep hfr (fun h=>h) (fun _ _ h=>h),hg⟩,h.ok⟩
theorem tree_row(back:Bool)(j a n x:Nat):∀q m,∀o ∈ treeOps back j a n x q m,onRow j o
 |0,m,o,h=>by simp[treeOps] at h
 |q+1,m,o,h=>by
   rw[treeOps,List.mem_cons] at h
   rcases h with rfl|h
   ·rfl
   ·exact tree_row back j a n x q _ o h
theorem tree_len(back:Bool)(j a n x:Nat):∀q m,(treeOps back j a n x q m).length=q
 |0,m=>rfl
 |q+1,m=>by rw[treeOps,List.length_cons,tree_len]
theorem rowLen_le{lc lp:Nat}(h:lc+lp≤4)(j:Nat):Lz.rowLen lc lp j≤12288:=by
 have hp:2^(lc+lp)≤2^4:=Nat.pow_le_pow_right (by omega) h
 unfold Lz.rowLen
 repeat' split
 all_goals omega
abbrev sinkV(E:Nat):Value:=.agg #[ptr E]
def SPost(l:XL)(w:World)(x:Xe)(e:Ending)(w':World):Prop:=e=.returned (.tuple #[])∧XPost l w x w'
theorem XPost.box{w w1 w2:World}{l:XL}{x:Xe}(h1:Fr (fun _=>False) w w1)(h2:XPost l w1 x w2):XPost l w x w2:=XPost.trans (v1:=l.v) (h1.mono (fun _ _ h=>h.elim)) (fun k hk=>.inl hk) h2
theorem cbit_calls{w:World}{l:XL}{x:Xe}(h:XAt w l x)(hp:XSep l){j i bit:Nat}(ho:Op.Ok x.c.lc x.c.lp (.bit j i bit))(hs:x.e.k.s≤1099511627000):
 Calls Tryz.prog 286 #[sinkV l.E,ptr (l.b j),.int .i64 i,.int .i64 bit] w (SPost l w (x.ops [.bit j i bit])):=by
 have hf:=(Fr.refl (fun _=>False) w).alloc (.cells #[ptr l.E] 211)
 have HF:=Hd hf
 have HT:=Hd (tbit_calls ((h.keep hf).tat ho.1) h.ok.e ho (by omega))
 have HP:=Hd (fun w'(ht:TPost l.E l.v (l.b j) (l.g j) _ (x.e.op (.bit j i bit)) j w')=>XPost.box hf ((h.keep hf).row hp ho.1 (o:=[.bit j i bit]) (fun q hq=>by simp only[List.mem_singleton] at hq;subst hq;exact ho) (fun q hq=>by simp only[List.mem_singleton] at hq;subst hq;rfl) ht))
 clear h hp ho hf
 go_enter Tryz.func286,Tryz.ntmps286
 go_wp2_with fail
 refine HT.out.mono ?_
 rintro e w2 ⟨rfl,ht⟩
 have HP2:=Hd (HP.out w2 ht)
 clear ht
 go_wp2_with fail
 go_end0
 exact⟨rfl,HP2.out⟩
theorem ctree_calls{w:World}{l:XL}{x:Xe}(h:XAt w l x)(hp:XSep l){j a n v:Nat}(hj:j<18)(hn:n≤16)(hv:v<2^n)(ha:a+2^n≤Lz.rowLen x.c.lc x.c.lp j)(hs:x.e.k.s≤1099511627000):
 Calls Tryz.prog 288 #[sinkV l.E,ptr (l.b j),.int .i64 a,.int .i64 n,.int .i64 v] w (SPost l w (x.ops (treeOps false j a n v n 1))):=by
 have hf:=(Fr.refl (fun _=>False) w).alloc (.cells #[ptr l.E] 211)
 have HT:=Hd (tput_calls ((h.keep hf).tat hj) h.ok.e hn hv ha hj (by omega) (by have:=rowLen_le h.ok.c.l j;omega))
 have HP:=Hd (fun w'(ht:TPost l.E l.v (l.b j) (l.g j) _ (x.e.run (treeOps false j a n v n 1)) j w')=>XPost.box hf ((h.keep hf).row hp hj (tree_reads (lc:=x.c.lc) (lp:=x.c.lp) false hj hv hn ha).1 (tree_row _ _ _ _ _ _ _) ht))
 clear h hp hf
 generalize treeOps false j a n v n 1=o at*
 go_enter Tryz.func288,Tryz.ntmps288
 go_wp2_with fail
 refine HT.out.mono ?_
 rintro e w2 ⟨rfl,ht⟩
 have HP2:=Hd (HP.out w2 ht)
 clear ht
 go_wp2_with fail
 go_end0
 exact⟨rfl,HP2.out⟩
theorem cback_calls{w:World}{l:XL}{x:Xe}(h:XAt w l x)(hp:XSep l){j a n v:Nat}(hj:j<18)(hn:n≤16)(hv:v<2^n)(ha:a+2^n≤Lz.rowLen x.c.lc x.c.lp j)(hs:x.e.k.s≤1099511627000):
 Calls Tryz.prog 285 #[sinkV l.E,ptr (l.b j),.int .i64 a,.int .i64 n,.int .i64 v] w (SPost l w (x.ops (treeOps true j a n v n 1))):=by
 have hf:=(Fr.refl (fun _=>False) w).alloc (.cells #[ptr l.E] 211)
 have HT:=Hd (tback_calls ((h.keep hf).tat hj) h.ok.e hn hv ha hj (by omega) (by have:=rowLen_le h.ok.c.l j;omega))
 have HP:=Hd (fun w'(ht:TPost l.E l.v (l.b j) (l.g j) _ (x.e.run (treeOps true j a n v n 1)) j w')=>XPost.box hf ((h.keep hf).row hp hj (tree_reads (lc:=x.c.lc) (lp:=x.c.lp) true hj hv hn ha).1 (tree_row _ _ _ _ _ _ _) ht))
 clear h hp hf
 generalize treeOps true j a n v n 1=o at*
 go_enter Tryz.func285,Tryz.ntmps285
 go_wp2_with fail
 refine HT.out.mono ?_
 rintro e w2 ⟨rfl,ht⟩
 have HP2:=Hd (HP.out w2 ht)
 clear ht
 go_wp2_with fail
 go_end0
 exact⟨rfl,HP2.out⟩
theorem halves_k(x:Nat):∀n(e:Es),(e.run (halves x n)).k=e.k.halves x n∧(e.run (halves x n)).ps=e.ps
 |0,e=>⟨rfl,rfl⟩
 |n+1,e=>halves_k x n (e.op (.half (x/2^n%2)))
theorem halves_is{g:G}{k:K}(x:Nat):∀n,Is g k→Is (g.halves x n) (k.halves x n)
 |0,h=>h
 |n+1,h=>halves_is x n (h.half (by omega))
theorem cdirect_calls{w:World}{l:XL}{x:Xe}(h:XAt w l x)(hp:XSep l){n v:Nat}(hn:n≤32)(hv:v<4294967296)(hs:x.e.k.s≤1099511627000):
 Calls Tryz.prog 287 #[sinkV l.E,.int .i64 v,.int .i64 n] w (SPost l w (x.ops (halves v n))):=by
 have hf:=(Fr.refl (fun _=>False) w).alloc (.cells #[ptr l.E] 211)
 obtain⟨g,a,hg⟩:=h.rc
 have HT:=Hd (direct_calls v n (a.keep hf (fun h=>h) (fun _ _ h=>h)) hg (by omega) hn hv)
 have HP:=Hd (fun w'(ht:EPost l.E l.v _ (g.halves v n) w')=>XPost.box hf ((h.keep hf).post hp (o:=halves v n) (direct_go (lc:=x.c.lc) (lp:=x.c.lp) (x:=v) n).1 (ht.1.mono (fun _ _ e=>.inl e)) ht.2.choose_spec.1 (by rw[(halves_k v n x.e).1];exact halves_is v n hg) ht.2.choose_spec.2 (fun j hj=>by
  rw[(halves_k v n x.e).2]
  obtain⟨g0,a0,_⟩:=(h.keep hf).rc
  have:=a0.offSet ((h.keep hf).tab.set j hj)
  exact((h.keep hf).tab.set j hj).step ht.1 this.1 this.2)))
 have hw:IntKind.u32.wrap (v:Int)=(v:Int):=IntWalk.u32_in _ (by omega)
 clear h hp hf a hg
 generalize halves v n=o at*
 generalize g.halves v n=g2 at*
 clear hv
 go_enter Tryz.func287,Tryz.ntmps287
 go_wp2_with fail
 refine HT.out.mono ?_
 rintro e w2 ⟨rfl,ht⟩
 have HP2:=Hd (HP.out w2 ht)
 clear ht
 go_wp2_with fail
 go_end0
 exact⟨rfl,HP2.out⟩
end En
end Go.Proofs.YtlgccpjccopdmaaGreatDoor
