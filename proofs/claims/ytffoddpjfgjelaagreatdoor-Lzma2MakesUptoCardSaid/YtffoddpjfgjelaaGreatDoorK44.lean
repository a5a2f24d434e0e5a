/- Part 44 of 54: lemmas of the last part, each under the conditions that it names. -/
import Derived.Deep.RegionHeld3
import Derived.Deep.CutBlock
import Derived.Deep.DeepCutAuto
import Derived.Test.YtffoddpjfgjelaaGreatDoorK43
set_option linter.unusedVariables false
set_option linter.unusedSimpArgs false
set_option maxRecDepth 1500
set_option maxHeartbeats 8000000
namespace Go.Proofs.YtffoddpjfgjelaaGreatDoor
open Go.RowKit
namespace Rf
open Mem Rc Prob St Lz Win En Ga
theorem OP.keep{w f g:World}{l:RL}{E:Nat}{v d:Value}{c:C}{e:Es}{a:List Ent}(h:OP w l E v c e a d f)(b:Fr (fun _=>False) f g):OP w l E v c e a d g:=
 ⟨h.ec.keep b,h.fr.trans' b (fun _ _ h=>h.elim),h.gr⟩
theorem run_take(e:Es)(L:List Nb){k:Nat}{x:Nb}(a:L[k]? =some x):e.run (ops (L.take (k+1)))=(e.run (ops (L.take k))).op x.op:=by
 rw[List.take_add_one,a,ops_append,Es.run_append];rfl
theorem str_bit{a:Nm}(b:a ∈ names):a.str≠[]:=by
 have h:names.all (fun a=> !a.str.isEmpty)=true:=by kernel_rfl
 have:=List.all_eq_true.1 h a b;intro e;rw[e] at this;simp at this
def PutP(w:World)(l:RL)(E:Nat)(v:Value)(x:Xe)(z:Sz)(e:Ending)(w':World):Prop:=
 if(x.apZ z).1=0 then∃(st':List Ent)(av' v':Value),e=.returned (.int .i64 0)∧EC w' {l with st:=st',av:=av'} E v' (x.put z.sy).c (x.put z.sy).e∧Fr (ECF l E v) w w'∧∀k,ECF {l with st:=st',av:=av'} E v' k→ECF l E v k∨w.heap.size≤k
 else e=.returned (.int .i64 (x.apZ z).1)∧Fr (fun _=>False) w w'
set_option maxRecDepth 100000 in
theorem rput_calls{w:World}{l:RL}{E:Nat}{v:Value}{x:Xe}(h:EC w l E v x.c x.e)(O:x.Ok)(z:Sz)(hb:z.byte<256)(hm:x.c.all.length+273≤70368744177664)(hs:x.e.k.s+200≤1099511627000):
 Calls Tryz.prog 44 #[ptr l.K,.agg z.cells] w (PutP w l E v x z):=by
 have e4:=(R0 w).alloc (.cells z.cells 110);have b8:=heap_alloc_new w (.cells z.cells 110);have H:=Hd h;have H0:=Hd (h.keep e4);have f3:=Hd (bits14_calls H0.out.cod z hb hm);have m:=Hd (show∀e X,PutP w l E v x z e X↔(if(applyZ x.c.size x.c.all x.c.s z).1=0 then∃(f:List Ent)(av' D:Value),e=.returned (.int .i64 0)∧EC X {l with st:=f,av:=av'} E D (x.put z.sy).c (x.put z.sy).e∧Fr (ECF l E v) w X∧∀k,ECF {l with st:=f,av:=av'} E D k→ECF l E v k∨w.heap.size≤k
 else e=.returned (.int .i64 (applyZ x.c.size x.c.all x.c.s z).1)∧Fr (fun _=>False) w X) from fun e X=>Iff.rfl);obtain⟨post,b2⟩:∃post,post=PutP w l E v x z:=⟨_,rfl⟩;rw[←b2] at m ⊢;have f4:=Hd (fun(B:(applyZ x.c.size x.c.all x.c.s z).1=0)=>apZ_ok (x:=x) (z:=z) B);have d3:=Hd (fun(B:(applyZ x.c.size x.c.all x.c.s z).1=0)=>applyZ_len (size:=x.c.size) (all:=x.c.all) (s:=x.c.s) B hb);have d4:=Hd (fun(B:(applyZ x.c.size x.c.all x.c.s z).1=0)=>may_of (c:=x.c) (apZ_ok (x:=x) (z:=z) B).1 hb);have c8:=Hd (fun(W:World)(hW:WAt W l.V l.av x.c.size x.c.all)=>rapplyz_calls l.V x.c.size l.av x.c.all x.c.s O.c.s z hb W hW hm);have c7:=Hd (fun(B:(applyZ x.c.size x.c.all x.c.s z).1=0)=>applyZ_okQ B O.c.s);have d9:=Hd O;obtain⟨kind,d,j,dist⟩:=z;unfold Sz.cells at*;simp only at b8 hb;obtain⟨w0,i5⟩:∃w0,w0=w.alloc (.cells #[.int .i64 kind,.int .u8 (d:Nat),.int .i64 j,.int .i64 dist] 110):=⟨_,rfl⟩;obtain⟨y0,y1,y2,y3⟩:=cs4 b8 rfl rfl rfl rfl;have g1:=Hd b8;have d8:=Hd e4;clear h O b8 e4 b2;go_enter Tryz.func44,Tryz.ntmps44;go_wp2_with fail;rw[←i5] at y0 y1 y2 y3 g1 d8 H0 f3 ⊢;refine f3.out.mono ?_;rintro e w1 ⟨a9,C⟩;generalize f0:w.heap.size=zz at*;have e3:=Hd f0;have b6:=Hd (d8.out.trans a9);have k2:=Hd a9;have e6:=a9.keep g1.out (fun h=>h);have j6:=Hd e6;clear f0 y0 y1 y2 y3 i5;by_cases B:(applyZ x.c.size x.c.all x.c.s ⟨kind,d,j,dist⟩).1=0;case neg=>
  rw[if_neg B] at C;subst C;have HP:=Hd (show post (.returned (.int .i64 (applyZ x.c.size x.c.all x.c.s ⟨kind,d,j,dist⟩).1)) w1 from(m.out _ _).2 (by rw[if_neg B];exact⟨rfl,b6.out⟩));have t0:(((applyZ x.c.size x.c.all x.c.s ⟨kind,d,j,dist⟩).1:Int) !=0)=true:=by simp[B]
  clear a9 m e6;generalize(applyZ x.c.size x.c.all x.c.s ⟨kind,d,j,dist⟩).1=er at*;go_wp2_with fail;exact HP.out
 rw[if_pos B] at C;obtain⟨bv,rfl,a0⟩:=C;obtain⟨bp,g3,rfl⟩:=a0.slice;obtain⟨g8,g5⟩:=f4.out B;have N:=d4.out B;have R:=symNb_op N;have a8:=symNb_ok d9.out.c (Sz.sy ⟨kind,d,j,dist⟩);have b3:=(sym_reads x.c d9.out.c N).1;have c4:=sym_n N;rw[←R] at b3 c4;obtain⟨L,hL⟩:∃L,L=symNb x.c (Sz.sy ⟨kind,d,j,dist⟩):=⟨_,rfl⟩;rw[←hL] at a0 R a8 b3 c4 ⊢;have f1:=Hd a8;have j4:=Hd b3;have k8:L.length≤52:=by simpa [ops] using c4
 have f7:=Hd (show∀k,(x.e.run (ops (L.take k))).Ok x.c.lc x.c.lp∧(x.e.run (ops (L.take k))).k.s≤1099511627000 from fun k=>by
  refine⟨(d9.out.e.run (fun o F=>b3 o ?_)).1,?_⟩
  ·obtain⟨y,hy,rfl⟩:=List.mem_map.1 F
   exact List.mem_map.2 ⟨y,List.mem_of_mem_take hy,rfl⟩
  ·have:=run_bd (ops (L.take k)) x.e
   have h2:(ops (L.take k)).length≤52:=by
    simp only[ops,List.length_map,List.length_take];omega
   omega)
 have a6:=Hd (fun e X(hx:∃(f:List Ent)(av' D:Value),e=.returned (.int .i64 0)∧EC X {l with st:=f,av:=av'} E D (x.put (Sz.sy ⟨kind,d,j,dist⟩)).c (x.put (Sz.sy ⟨kind,d,j,dist⟩)).e∧Fr (ECF l E v) w X∧∀k,ECF {l with st:=f,av:=av'} E D k→ECF l E v k∨zz≤k)=>(m.out e X).2 (by rw[if_pos B];exact hx));have d5:x.put (Sz.sy ⟨kind,d,j,dist⟩)=⟨(x.c.on (applyZ x.c.size x.c.all x.c.s ⟨kind,d,j,dist⟩).2.1).to (applyZ x.c.size x.c.all x.c.s ⟨kind,d,j,dist⟩).2.2,x.e.run (ops L)⟩:=by
  unfold Xe.put;rw[←g5,R];rfl
 have g9:=(d3.out B).2;have d6:=c7.out B;have d7:=Hd (show∀W,WAt W l.V l.av x.c.size x.c.all→Calls Tryz.prog 89 #[ptr l.V,.agg x.c.s.cells,.agg #[.int .i64 kind,.int .u8 d,.int .i64 j,.int .i64 dist]] W (fun e X=>∃va,e=.returned (.tuple #[va,.agg (applyZ x.c.size x.c.all x.c.s ⟨kind,d,j,dist⟩).2.2.cells,.int .i64 0])∧AppOk l.V x.c.size l.av x.c.all (applyZ x.c.size x.c.all x.c.s ⟨kind,d,j,dist⟩).2.1 va W X) from fun W hW=>(c8.out W hW).mono (fun e X hp=>by
  unfold AppPostZ at hp;rw[if_pos B] at hp;exact hp))
 clear f4 d4 d3 c7 c8 m g8 g5 N R a8 b3 c4 hL;generalize(applyZ x.c.size x.c.all x.c.s ⟨kind,d,j,dist⟩).2.1=bytes at*;generalize(applyZ x.c.size x.c.all x.c.s ⟨kind,d,j,dist⟩).2.2=T at*;obtain⟨tn,t0,t1,t2,t3⟩:=T;clear B;rw[d5] at a6;have f8:=Hd d6;have f2:=Hd g9;obtain⟨n,hn⟩:∃n,L.length=n:=⟨_,rfl⟩;rw[hn] at a0 ⊢;have j1:=Hd (H.out.keep b6.out);have b9:=H.out.old;rw[e3.out] at b9;have c9:=Hd (show∀f D e' W,OP w1 l E v x.c e' f D W→BL w0 W (.slice bp n g3) L from fun f D e' W F=>a0.step F.fr (fun k hk he=>by
  have M:=a0.new k hk;have h2:=b9 k he;have h3:=d8.out.size;have h4:=e3.out;omega))
 have j7:=Hd (show∀f D e' W,OP w1 l E v x.c e' f D W→W.heap[zz]? =some (.cells #[.int .i64 kind,.int .u8 (d:Nat),.int .i64 j,.int .i64 dist] 110) from fun f D e' W F=>F.fr.keep j6.out (fun he=>by
  have h2:=b9 _ he;omega))
 have HN:=Hd hn;have k4:n≤52:=by omega
 clear a9 d5 d6 g9 a0 hn b9 e6;have hq:(((0:Nat):Int) !=0)=false:=rfl;go_wp2_with fail;go_loopw [7] (fun i wr=>∃(k:Nat)(f:List Ent)(D:Value),k≤n∧i=.int .i64 k∧OP w1 l E v x.c (x.e.run (ops (L.take k))) f D wr) (fun i _=>n-(intOf i).toNat);case atStart=>exact⟨0,l.st,v,Nat.zero_le _,rfl,OP.refl j1.out⟩
 case round=>
  obtain⟨k,f,D,k7,rfl,b1⟩:=hrel;have e0:=Hd b1;by_cases k1:k<n
  ·obtain⟨y,hy⟩:∃y,L[k]? =some y:=⟨L[k]'(by rw[HN.out];exact k1),List.getElem?_eq_getElem _⟩
   have h7:=run_take x.e L hy;have b4:=f1.out y (List.mem_of_getElem? hy);have b5:=j4.out y.op (List.mem_map.2 ⟨y,List.mem_of_getElem? hy,rfl⟩);obtain⟨g,rfl,c0,c1,c2⟩:=BL.at (c9.out _ _ _ _ b1) hy;have J:=Hd (show∀A v2 e2 W,OP w1 l E v x.c e2 A v2 W→W.cell? ⟨l.K,10,none⟩=some (ptr E)∧W.cell? ⟨g,k*3,none⟩=some (bstr y.nm)∧W.cell? ⟨g,k*3+1,none⟩=some (.int .i64 y.i)∧W.cell? ⟨g,k*3+2,none⟩=some (.int .i64 y.b) from fun A v2 e2 W F=>by
    obtain⟨g2,h6,d0,d1,d2⟩:=BL.at (c9.out _ _ _ _ F) hy;simp only[Option.some.injEq,Addr.mk.injEq] at h6;obtain⟨rfl,_⟩:=h6;exact⟨by rw[←F.ec.ev];exact cell_in (i:=10) F.ec.cod.k rfl,d0,d1,d2⟩)
   have f6:=Hd h7;obtain⟨i3,i4⟩:=f7.out k;generalize x.e.run (ops (L.take k))=ek at*;have b7:=Hd i3;have k3:(k:Int)<n:=by omega
   have k0:(0:Int)≤(k:Int):=by omega
   clear h7 b1 hy;cases y with
   |half b=>
     have e7:b≤1:=b4;have eb:IntKind.u32.wrap (b:Int)=(b:Int):=by rw[IntKind.wrap_u32];omega
     have j0:=Hd (show∀W,OP w1 l E v x.c ek f D W→Calls Tryz.prog 86 #[ptr E,.int .u32 b,.int .i64 1] W _ from fun W F=>rdirect_calls e7 F.ec.q b7.out.k i4);simp only[Nb.nm,Nb.i,Nb.b] at c0 c1 c2 J;clear b4 b5;have r:=Hd (e0.out.keep (R0 wr).drew);have u:=Hd (J.out _ _ _ _ r.out);go_wp2_with fail;go_region_held3 (fun W=>W.cell? ⟨l.K,10,none⟩=some (ptr E)∧W.cell? ⟨g,k*3,none⟩=some (bstr [])∧W.cell? ⟨g,k*3+1,none⟩=some (.int .i64 (0:Nat))∧W.cell? ⟨g,k*3+2,none⟩=some (.int .i64 b))
      (with_reducible exact u.out) ((
      (go_at_call 86
       refine(j0.out _ r.out).mono ?_;rintro e wd ⟨rfl,i2⟩;obtain⟨v2,h8⟩:=r.out.ec.halved i2;have t:=Hd (r.out.trans h8);have u:=Hd (J.out _ _ _ _ t.out);clear i2 h8)))
     go_wp2_with fail;go_roundw;case rel=>exact⟨k+1,_,_,by omega,by go_num,by rw[f6.out];exact t.out⟩
     case measure=>simp[intOf];omega
   |bit a i b=>
     obtain⟨ha,hi,e7⟩:=b4;have K:a.o+i<Lz.rowLen x.c.lc x.c.lp a.j:=b5.2.1;obtain⟨p,hp⟩:∃p,p=(ek.ps a.j).getD (a.o+i) 0:=⟨_,rfl⟩;have g7:=b7.out.at (name_small ha).2 K;rw[←hp] at g7;obtain⟨i1,h9,i0⟩:=g7;have e8:=str_bit ha;simp only[Nb.nm,Nb.i,Nb.b] at c0 c1 c2 J;have f9:=Hd (show∀W,OP w1 l E v x.c ek f D W→Calls Tryz.prog 88 #[ptr l.K,bstr a.str] W (SetPost {l with st:=f} x.c ek.ps a W) from fun W F=>Set_calls F.ec.cod a ha);have i9:=Hd (show∀W A v2 U,OP w1 l E v x.c ek A v2 W→look A a.str=some U→Calls Tryz.prog 87 #[ptr E,ptr U.b,.int .i64 i,.int .i64 b] W (fun e X=>e=.returned (.int .i64 0)∧RBPost E v2 U.b U.g W (ek.k.bit p b) (U.L.set i (nextN p b)) X) from fun W A v2 U F hl=>rbit7_calls b F.ec.q b7.out.k i4 (F.ec.cod.sets.at' U (look_some hl).1) (F.ec.cod.has.at' ha hl hi i1) h9 i0);have i8:=Hd (show∀W A v2 U W2,OP w1 l E v x.c ek A v2 W→look A a.str=some U→RBPost E v2 U.b U.g W (ek.k.bit p b) (U.L.set i (nextN p b)) W2→∃c6 v3,OP w1 l E v x.c (ek.op (.bit a.j (a.o+i) b)) c6 v3 W2 from fun W A v2 U W2 F hl C=>by
      obtain⟨c6,v3,c3⟩:=EC.bitted F.ec b7.out ha hl hi K hp.symm C;exact⟨c6,v3,F.trans c3⟩)
     have r:=Hd (e0.out.keep (R0 wr).drew);have u:=Hd (J.out _ _ _ _ r.out);obtain⟨s,e9⟩:∃s,s=a.str:=⟨_,rfl⟩;have k5:=Hd e9;rw[←e9] at e8 f9 J u c0;have k6:s.isEmpty=false:=by cases s with|nil=>exact absurd rfl e8|cons _ _=>rfl
     clear ha hi e7 K hp i1 h9 i0 e9 b5 e8;go_wp2_with fail;go_region_held3 (fun W=>W.cell? ⟨l.K,10,none⟩=some (ptr E)∧W.cell? ⟨g,k*3,none⟩=some (bstr s)∧W.cell? ⟨g,k*3+1,none⟩=some (.int .i64 i)∧W.cell? ⟨g,k*3+2,none⟩=some (.int .i64 b))
      (with_reducible exact u.out) ((first
      | (go_at_call 88
         refine(f9.out _ r.out).mono ?_;rintro e ws ⟨U,A,rfl,hl,hf,hc,hg⟩;have r:=Hd (r.out.trans (r.out.ec.setted hf hc hg));have f5:=Hd hl;have u:=Hd (J.out _ _ _ _ r.out);clear hl hf hc hg)
      | (go_at_call 87
         refine(i9.out _ _ _ _ r.out f5.out).mono ?_;rintro e wd ⟨rfl,C⟩;obtain⟨c6,v3,c3⟩:=i8.out _ _ _ _ _ r.out f5.out C;have t:=Hd c3;have u:=Hd (J.out _ _ _ _ t.out);clear C c3)))
     go_wp2_with fail;go_roundw;case rel=>exact⟨k+1,_,_,by omega,by go_num,by rw[f6.out];exact t.out⟩
     case measure=>simp[intOf];omega
  ·obtain rfl:k=n:=by omega
   have V:OP w1 l E v x.c (x.e.run (ops L)) f D wr:=by
    have:=b1;rw[←HN.out,List.take_length] at this;exact this
   have q:=V.ec;have c5:=j7.out _ _ _ _ V;have e5:¬(l.K=l.V∨l.av.ownBlock=some l.K):=by
    rintro(e|e)
    ·exact blk_ne q.cod.k q.cod.v (by decide) e
    ·obtain⟨j9,hc⟩:=own_blk q.cod.all e
     exact blk_ne q.cod.k hc (by decide) rfl
   have g4:¬(zz=l.V∨l.av.ownBlock=some zz):=by
    rintro(e|e)
    ·exact blk_ne c5 q.cod.v (by decide) e
    ·obtain⟨j9,hc⟩:=own_blk q.cod.all e
     exact blk_ne c5 hc (by decide) rfl
   have I:=Hd (show∀W,Fr (fun k=>k=l.V∨l.av.ownBlock=some k) wr W→W.cell? ⟨l.K,3,none⟩=some (ptr l.V)∧W.cell? ⟨l.K,4,none⟩=some (.int .i64 x.c.s.num)∧W.cell? ⟨l.K,5,none⟩=some (.int .i64 x.c.s.r0)∧W.cell? ⟨l.K,6,none⟩=some (.int .i64 x.c.s.r1)∧W.cell? ⟨l.K,7,none⟩=some (.int .i64 x.c.s.r2)∧W.cell? ⟨l.K,8,none⟩=some (.int .i64 x.c.s.r3)∧W.cell? ⟨zz,0,none⟩=some (.int .i64 kind)∧W.cell? ⟨zz,1,none⟩=some (.int .u8 d)∧W.cell? ⟨zz,2,none⟩=some (.int .i64 j)∧W.cell? ⟨zz,3,none⟩=some (.int .i64 dist) from fun W hW=>by
    have M:=hW.keep q.cod.k e5;have h2:=hW.keep c5 g4;exact⟨cell_in M rfl,cell_in M rfl,cell_in M rfl,cell_in M rfl,cell_in M rfl,cell_in M rfl,cell_in h2 rfl,cell_in h2 rfl,cell_in h2 rfl,cell_in h2 rfl⟩)
   have g0:=Hd (show WAt wr l.V l.av x.c.size x.c.all from⟨q.cod.v,q.cod.all⟩);have j2:=Hd q;have P:=Hd (show l.V<wr.heap.size∧∀k,l.av.ownBlock=some k→k<wr.heap.size from⟨lt_of_block q.cod.v,fun k hk=>(World.ownsRow.lt q.cod.all k hk).2⟩);have j3:=Hd (show∀W,Fr (fun k=>k=l.V∨l.av.ownBlock=some k) wr W→W.heap[l.K]? =some (.cells (kV {l with st:=f} x.c) 107 (0,0)) from fun W hW=>hW.keep q.cod.k e5);have Q:=Hd V;clear b1 V q c5 e5 g4 e0;simp only[S.cells] at d7;have FC:=Hd (Fr.refl (fun k=>k=l.V∨l.av.ownBlock=some k) wr).drew;have u:=Hd (I.out _ FC.out);go_wp2_with fail;go_region_held3 (fun W=>W.cell? ⟨l.K,3,none⟩=some (ptr l.V)∧W.cell? ⟨l.K,4,none⟩=some (.int .i64 x.c.s.num)∧W.cell? ⟨l.K,5,none⟩=some (.int .i64 x.c.s.r0)∧W.cell? ⟨l.K,6,none⟩=some (.int .i64 x.c.s.r1)∧W.cell? ⟨l.K,7,none⟩=some (.int .i64 x.c.s.r2)∧W.cell? ⟨l.K,8,none⟩=some (.int .i64 x.c.s.r3)∧W.cell? ⟨zz,0,none⟩=some (.int .i64 kind)∧W.cell? ⟨zz,1,none⟩=some (.int .u8 d)∧W.cell? ⟨zz,2,none⟩=some (.int .i64 j)∧W.cell? ⟨zz,3,none⟩=some (.int .i64 dist))
    (first|with_reducible exact u.out|(refine I.out _ ?_;first|exact FC.out|exact FC.out.alloc _|((repeat refine Fr.setCell ?_ (.inr j8.out) _);exact FC.out))) ((
    (go_at_call 89
     first
      | (refine (d7.out _ (g0.out.keep (R0 _).drew)).mono ?_
         rintro e wa ⟨va,rfl,O⟩;obtain⟨⟨av2,a7,b0,_⟩,a4,_⟩:=O;have Z:=Hd a7;have a5:=Hd (show∀k,av2.ownBlock=some k→l.av.ownBlock=some k∨wr.heap.size≤k from b0);have FC:=Hd (FC.out.trans a4);have u:=Hd (I.out _ FC.out);clear a4 a7 b0)
      | (refine (d7.out _ (g0.out.keep ((R0 _).drew.alloc _))).mono ?_
         rintro e wa ⟨va,rfl,O⟩;obtain⟨⟨av2,a7,b0,_⟩,a4,_⟩:=O;have hz:=a4.keep (heap_alloc_new _ _) (fun e=>by
          rcases e with e|e
          ·have:=P.out.1
           simp at e;omega
          ·have:=P.out.2 _ e
           simp at this)
         try simp only[World.size_drew] at hz
         obtain⟨s0,s1,s2,s3,s4,sf⟩:=cf5 hz rfl rfl rfl rfl rfl;have j5:=Hd hz;have j8:=Hd (Nat.le_refl wr.heap.size);have Z:=Hd a7;have a5:=Hd (show∀k,av2.ownBlock=some k→l.av.ownBlock=some k∨wr.heap.size+1≤k from fun k hk=>(b0 k hk).imp id (fun h=>by simpa using h));have FC:=Hd ((FC.out.alloc _).trans a4);have u:=Hd (I.out _ FC.out);clear a4 a7 b0 hz))))
   focus
    have FW:=Hd (FC.out.alloc (.cells #[.int .i64 (tn:Int),.int .i64 (t0:Int),.int .i64 (t1:Int),.int .i64 (t2:Int),.int .i64 (t3:Int)] 103));have e1:=Hd (heap_alloc_new wa (.cells #[.int .i64 (tn:Int),.int .i64 (t0:Int),.int .i64 (t1:Int),.int .i64 (t2:Int),.int .i64 (t3:Int)] 103));have Z:=Hd (Z.out.keep ((R0 wa).alloc (.cells #[.int .i64 (tn:Int),.int .i64 (t0:Int),.int .i64 (t1:Int),.int .i64 (t2:Int),.int .i64 (t3:Int)] 103)));generalize World.alloc wa _=w2 at*;generalize wa.heap.size=zs at*
   rotate_left;focus
    have Y:=five_fr wa wr.heap.size (.int .i64 (tn:Int)) (.int .i64 (t0:Int)) (.int .i64 (t1:Int)) (.int .i64 (t2:Int)) (.int .i64 (t3:Int));have FW:=Hd (FC.out.trans' Y (fun i M h2=>by omega));have e1:=Hd (set_in (set_in (set_in (set_in (set_in j5.out 0 (.int .i64 (tn:Int))) 1 (.int .i64 (t0:Int))) 2 (.int .i64 (t1:Int))) 3 (.int .i64 (t2:Int))) 4 (.int .i64 (t3:Int)));have Z:=Hd (Z.out.step Y (fun e=>by have:=P.out.1;omega) (fun k hk e=>by
     rcases a5.out k hk with M|M
     ·have:=P.out.2 k M
      omega
     ·omega))
    have a5:=Hd (show∀k,av2.ownBlock=some k→l.av.ownBlock=some k∨wr.heap.size≤k from fun k hk=>(a5.out k hk).imp id (fun h=>by omega));clear Y s0 s1 s2 s3 s4 sf;generalize World.setCell (World.setCell (World.setCell (World.setCell (World.setCell wa _ _) _ _) _ _) _ _) _ _=w2 at*;obtain⟨zs,i7⟩:∃zs,zs=wr.heap.size:=⟨_,rfl⟩;rw[←i7] at e1 ⊢;clear i7
   rotate_left;all_goals
    have i6:w2.heap[zs]? =some (.cells #[.int .i64 (tn:Int),.int .i64 (t0:Int),.int .i64 (t1:Int),.int .i64 (t2:Int),.int .i64 (t3:Int)] 103):=e1.out;obtain⟨s0,s1,s2,s3,s4⟩:=cs5 i6 rfl rfl rfl rfl rfl;have G:=j3.out _ FW.out;have q4:w2.cell? ⟨l.K,4,none⟩=some (.int .i64 x.c.s.num):=cell_in (i:=4) G rfl;have q5:w2.cell? ⟨l.K,5,none⟩=some (.int .i64 x.c.s.r0):=cell_in (i:=5) G rfl;have q6:w2.cell? ⟨l.K,6,none⟩=some (.int .i64 x.c.s.r1):=cell_in (i:=6) G rfl;have q7:w2.cell? ⟨l.K,7,none⟩=some (.int .i64 x.c.s.r2):=cell_in (i:=7) G rfl;have q8:w2.cell? ⟨l.K,8,none⟩=some (.int .i64 x.c.s.r3):=cell_in (i:=8) G rfl;have qf:=fun i=>frozen_in G i;have h5:=set_in (set_in (set_in (set_in (set_in G 4 (.int .i64 (tn:Int))) 5 (.int .i64 (t0:Int))) 6 (.int .i64 (t1:Int))) 7 (.int .i64 (t2:Int))) 8 (.int .i64 (t3:Int));have Y:Fr (fun k=>k=l.K) w2 (((((w2.setCell ⟨l.K,4,none⟩ (.int .i64 (tn:Int))).setCell ⟨l.K,5,none⟩ (.int .i64 (t0:Int))).setCell ⟨l.K,6,none⟩ (.int .i64 (t1:Int))).setCell ⟨l.K,7,none⟩ (.int .i64 (t2:Int))).setCell ⟨l.K,8,none⟩ (.int .i64 (t3:Int))):=((((Fr.one _ _ _ _).trans (Fr.one _ _ _ _)).trans (Fr.one _ _ _ _)).trans (Fr.one _ _ _ _)).trans (Fr.one _ _ _ _);have g6:=EC.applied (l:={l with st:=f}) (av2:=av2) (bytes:=bytes) (s':=⟨tn,t0,t1,t2,t3⟩) j2.out f8.out (by have:=f2.out;omega) FW.out Z.out a5.out Y h5;obtain⟨a1,a2,a3⟩:=g6;have k9:=b6.out.size;have l0:=Q.out.fr.size;have f0:=e3.out;have t:=Hd (a6.out _ _ ⟨f,av2,D,rfl,a1,((b6.out.mono (T:=ECF l E v) (fun _ _ h=>h.elim)).trans Q.out.fr).trans' a2 (fun i hi h=>by
     rcases Q.out.gr i h with h|h
     ·exact h
     ·omega),fun k hk=>by
     rcases a3 k hk with M|M
     ·rcases Q.out.gr k M with h2|h2
      ·exact .inl h2
      ·exact .inr (by omega)
     ·exact .inr (by omega)⟩)
    clear a1 a2 a3 Y h5 G i6;go_wp2_with fail;exact t.out
end Rf
end Go.Proofs.YtffoddpjfgjelaaGreatDoor
