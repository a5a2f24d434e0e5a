/- Part 47 of 54: lemmas of the last part, each under the conditions that it names. -/
import Derived.Deep.RegionHeld3
import Derived.Deep.CutBlock
import Derived.Deep.DeepCutAuto
import Derived.Test.YtlgccpjccopdmaaGreatDoorP46
set_option linter.unusedVariables false
set_option linter.unusedSimpArgs false
set_option maxRecDepth 1500
set_option maxHeartbeats 8000000
namespace Go.Proofs.YtlgccpjccopdmaaGreatDoor
open Go.RowKit
namespace Rf
open Mem Rc Prob St Lz Win En Ga
theorem OP.keep{w w1 w2:World}{l:RL}{E:Nat}{v v':Value}{c:C}{e:Es}{st':List Ent}(h:OP w l E v c e st' v' w1)(hf:Fr (fun _=>False) w1 w2):OP w l E v c e st' v' w2:=
 ⟨h.ec.keep hf,h.fr.trans' hf (fun _ _ h=>h.elim),h.gr⟩
theorem run_take(e:Es)(L:List Nb){k:Nat}{x:Nb}(hx:L[k]? =some x):e.run (ops (L.take (k+1)))=(e.run (ops (L.take k))).op x.op:=by
 rw[List.take_add_one,hx,ops_append,Es.run_append]
 rfl
theorem str_bit{a:Nm}(ha:a ∈ names):a.str≠[]:=by
 have h:names.all (fun a=> !a.str.isEmpty)=true:=by kernel_rfl
 have:=List.all_eq_true.1 h a ha
 intro e
 rw[e] at this
 simp at this
def PutP(w:World)(l:RL)(E:Nat)(v:Value)(x:Xe)(z:Sz)(e:Ending)(w':World):Prop:=
 if(x.apZ z).1=0 then∃(st':List Ent)(av' v':Value),e=.returned (.int .i64 0)∧EC w' {l with st:=st',av:=av'} E v' (x.put z.sy).c (x.put z.sy).e∧Fr (ECF l E v) w w'∧∀k,ECF {l with st:=st',av:=av'} E v' k→ECF l E v k∨w.heap.size≤k
 else e=.returned (.int .i64 (x.apZ z).1)∧Fr (fun _=>False) w w'
set_option maxRecDepth 100000 in
theorem rput_calls{w:World}{l:RL}{E:Nat}{v:Value}{x:Xe}(h:EC w l E v x.c x.e)(hok:x.Ok)(z:Sz)(hb:z.byte<256)(hm:x.c.all.length+273≤70368744177664)(hs:x.e.k.s+200≤1099511627000):
 Calls Tryz.prog 35 #[ptr l.K,.agg z.cells] w (PutP w l E v x z):=by
 have h0w:=(Fr.refl (fun _=>False) w).alloc (.cells z.cells 96)
 have hYB:=heap_alloc_new w (.cells z.cells 96)
 have H:=Hd h
 have H0:=Hd (h.keep h0w)
 have HBT:=Hd (bits14_calls H0.out.cod z hb hm)
 have HPOST0:=Hd (show∀e w',PutP w l E v x z e w'↔(if(applyZ x.c.size x.c.all x.c.s z).1=0 then∃(st':List Ent)(av' v':Value),e=.returned (.int .i64 0)∧EC w' {l with st:=st',av:=av'} E v' (x.put z.sy).c (x.put z.sy).e∧Fr (ECF l E v) w w'∧∀k,ECF {l with st:=st',av:=av'} E v' k→ECF l E v k∨w.heap.size≤k
 else e=.returned (.int .i64 (applyZ x.c.size x.c.all x.c.s z).1)∧Fr (fun _=>False) w w') from fun e w'=>Iff.rfl)
 obtain⟨post,hpost⟩:∃post,post=PutP w l E v x z:=⟨_,rfl⟩
 rw[←hpost] at HPOST0 ⊢
 have HGD:=Hd (fun(h0:(applyZ x.c.size x.c.all x.c.s z).1=0)=>apZ_ok (x:=x) (z:=z) h0)
 have HLEN:=Hd (fun(h0:(applyZ x.c.size x.c.all x.c.s z).1=0)=>applyZ_len (size:=x.c.size) (all:=x.c.all) (s:=x.c.s) h0 hb)
 have HMAY:=Hd (fun(h0:(applyZ x.c.size x.c.all x.c.s z).1=0)=>may_of (c:=x.c) (apZ_ok (x:=x) (z:=z) h0).1 hb)
 have HAPZ:=Hd (fun(W:World)(hW:WAt W l.V l.av x.c.size x.c.all)=>rapplyz_calls l.V x.c.size l.av x.c.all x.c.s hok.c.s z hb W hW hm)
 have HAOK:=Hd (fun(h0:(applyZ x.c.size x.c.all x.c.s z).1=0)=>applyZ_okQ h0 hok.c.s)
 have HOK:=Hd hok
 obtain⟨kind,byte,len,dist⟩:=z
 unfold Sz.cells at*
 simp only at hYB hb
 obtain⟨w0,hw0⟩:∃w0,w0=w.alloc (.cells #[.int .i64 kind,.int .u8 (byte:Nat),.int .i64 len,.int .i64 dist] 96):=⟨_,rfl⟩
 obtain⟨y0,y1,y2,y3⟩:=cs4 hYB rfl rfl rfl rfl
 have HYB:=Hd hYB
 have HF0:=Hd h0w
 clear h hok hYB h0w hpost
 go_enter Tryz.func35,Tryz.ntmps35
 go_wp2_with fail
 rw[←hw0] at y0 y1 y2 y3 HYB HF0 H0 HBT ⊢
 refine HBT.out.mono ?_
 rintro e w1 ⟨hf1,hbp⟩
 generalize hzz:w.heap.size=zz at*
 have HZZ:=Hd hzz
 have HF1:=Hd (HF0.out.trans hf1)
 have HF01:=Hd hf1
 have hY1:=hf1.keep HYB.out (fun h=>h)
 have HY1:=Hd hY1
 clear hzz y0 y1 y2 y3 hw0
 by_cases h0:(applyZ x.c.size x.c.all x.c.s ⟨kind,byte,len,dist⟩).1=0
 case neg=>
  rw[if_neg h0] at hbp
  subst hbp
  have HP:=Hd (show post (.returned (.int .i64 (applyZ x.c.size x.c.all x.c.s ⟨kind,byte,len,dist⟩).1)) w1 from(HPOST0.out _ _).2 (by rw[if_neg h0];exact⟨rfl,HF1.out⟩))
  have t0:(((applyZ x.c.size x.c.all x.c.s ⟨kind,byte,len,dist⟩).1:Int) !=0)=true:=by simp[h0]
  clear hf1 HPOST0 hY1
  generalize(applyZ x.c.size x.c.all x.c.s ⟨kind,byte,len,dist⟩).1=er at*
  go_wp2_with fail
  exact HP.out
 rw[if_pos h0] at hbp
 obtain⟨bv,rfl,hBL⟩:=hbp
 obtain⟨bp,bcap,rfl⟩:=hBL.slice
 obtain⟨hbad,hap⟩:=HGD.out h0
 have hmay:=HMAY.out h0
 have hops:=symNb_op hmay
 have hall:=symNb_ok HOK.out.c (Sz.sy ⟨kind,byte,len,dist⟩)
 have hrd:=(sym_reads x.c HOK.out.c hmay).1
 have hsn:=sym_n hmay
 rw[←hops] at hrd hsn
 obtain⟨L,hL⟩:∃L,L=symNb x.c (Sz.sy ⟨kind,byte,len,dist⟩):=⟨_,rfl⟩
 rw[←hL] at hBL hops hall hrd hsn ⊢
 have HALL:=Hd hall
 have HRD:=Hd hrd
 have hln:L.length≤52:=by simpa [ops] using hsn
 have HROK:=Hd (show∀k,(x.e.run (ops (L.take k))).Ok x.c.lc x.c.lp∧(x.e.run (ops (L.take k))).k.s≤1099511627000 from fun k=>by
  refine⟨(HOK.out.e.run (fun o ho=>hrd o ?_)).1,?_⟩
  ·obtain⟨y,hy,rfl⟩:=List.mem_map.1 ho
   exact List.mem_map.2 ⟨y,List.mem_of_mem_take hy,rfl⟩
  ·have:=run_bd (ops (L.take k)) x.e
   have h2:(ops (L.take k)).length≤52:=by
    simp only[ops,List.length_map,List.length_take]
    omega
   omega)
 have HPOST:=Hd (fun e w'(hx:∃(st':List Ent)(av' v':Value),e=.returned (.int .i64 0)∧EC w' {l with st:=st',av:=av'} E v' (x.put (Sz.sy ⟨kind,byte,len,dist⟩)).c (x.put (Sz.sy ⟨kind,byte,len,dist⟩)).e∧Fr (ECF l E v) w w'∧∀k,ECF {l with st:=st',av:=av'} E v' k→ECF l E v k∨zz≤k)=>(HPOST0.out e w').2 (by rw[if_pos h0];exact hx))
 have hput:x.put (Sz.sy ⟨kind,byte,len,dist⟩)=⟨(x.c.on (applyZ x.c.size x.c.all x.c.s ⟨kind,byte,len,dist⟩).2.1).to (applyZ x.c.size x.c.all x.c.s ⟨kind,byte,len,dist⟩).2.2,x.e.run (ops L)⟩:=by
  unfold Xe.put
  rw[←hap,hops]
  rfl
 have hbl:=(HLEN.out h0).2
 have hsok:=HAOK.out h0
 have HAP:=Hd (show∀W,WAt W l.V l.av x.c.size x.c.all→Calls Tryz.prog 82 #[ptr l.V,.agg x.c.s.cells,.agg #[.int .i64 kind,.int .u8 byte,.int .i64 len,.int .i64 dist]] W (fun e w'=>∃va,e=.returned (.tuple #[va,.agg (applyZ x.c.size x.c.all x.c.s ⟨kind,byte,len,dist⟩).2.2.cells,.int .i64 0])∧AppOk l.V x.c.size l.av x.c.all (applyZ x.c.size x.c.all x.c.s ⟨kind,byte,len,dist⟩).2.1 va W w') from fun W hW=>(HAPZ.out W hW).mono (fun e w' hp=>by
  unfold AppPostZ at hp
  rw[if_pos h0] at hp
  exact hp))
 clear HGD HMAY HLEN HAOK HAPZ HPOST0 hbad hap hmay hops hall hrd hsn hL
 generalize(applyZ x.c.size x.c.all x.c.s ⟨kind,byte,len,dist⟩).2.1=bytes at*
 generalize(applyZ x.c.size x.c.all x.c.s ⟨kind,byte,len,dist⟩).2.2=T at*
 obtain⟨tn,t0,t1,t2,t3⟩:=T
 clear h0
 rw[hput] at HPOST
 have HSOK:=Hd hsok
 have HBL0:=Hd hbl
 obtain⟨n,hn⟩:∃n,L.length=n:=⟨_,rfl⟩
 rw[hn] at hBL ⊢
 have HE1:=Hd (H.out.keep HF1.out)
 have hgo:=H.out.old
 rw[HZZ.out] at hgo
 have HBLK:=Hd (show∀st' v' e' W,OP w1 l E v x.c e' st' v' W→BL w0 W (.slice bp n bcap) L from fun st' v' e' W ho=>hBL.step ho.fr (fun k hk he=>by
  have h1:=hBL.new k hk
  have h2:=hgo k he
  have h3:=HF0.out.size
  have h4:=HZZ.out
  omega))
 have HYK:=Hd (show∀st' v' e' W,OP w1 l E v x.c e' st' v' W→W.heap[zz]? =some (.cells #[.int .i64 kind,.int .u8 (byte:Nat),.int .i64 len,.int .i64 dist] 96) from fun st' v' e' W ho=>ho.fr.keep HY1.out (fun he=>by
  have h2:=hgo _ he
  omega))
 have HN:=Hd hn
 have hn52:n≤52:=by omega
 clear hf1 hput hsok hbl hBL hn hgo hY1
 have hq:(((0:Nat):Int) !=0)=false:=rfl
 go_wp2_with fail
 go_loopw [7] (fun i wr=>∃(k:Nat)(st':List Ent)(v':Value),k≤n∧i=.int .i64 k∧OP w1 l E v x.c (x.e.run (ops (L.take k))) st' v' wr) (fun i _=>n-(intOf i).toNat)
 case atStart=>exact⟨0,l.st,v,Nat.zero_le _,rfl,OP.refl HE1.out⟩
 case round=>
  obtain⟨k,st',v',hkn,rfl,hop⟩:=hrel
  have HOP:=Hd hop
  by_cases hlt:k<n
  ·obtain⟨y,hy⟩:∃y,L[k]? =some y:=⟨L[k]'(by rw[HN.out];exact hlt),List.getElem?_eq_getElem _⟩
   have hnx:=run_take x.e L hy
   have hyok:=HALL.out y (List.mem_of_getElem? hy)
   have hyrd:=HRD.out y.op (List.mem_map.2 ⟨y,List.mem_of_getElem? hy,rfl⟩)
   obtain⟨g,rfl,c0,c1,c2⟩:=BL.at (HBLK.out _ _ _ _ hop) hy
   have HSK:=Hd (show∀st2 v2 e2 W,OP w1 l E v x.c e2 st2 v2 W→W.cell? ⟨l.K,10,none⟩=some (ptr E)∧W.cell? ⟨g,k*3,none⟩=some (bstr y.nm)∧W.cell? ⟨g,k*3+1,none⟩=some (.int .i64 y.i)∧W.cell? ⟨g,k*3+2,none⟩=some (.int .i64 y.b) from fun st2 v2 e2 W ho=>by
    obtain⟨g2,hg2,d0,d1,d2⟩:=BL.at (HBLK.out _ _ _ _ ho) hy
    simp only[Option.some.injEq,Addr.mk.injEq] at hg2
    obtain⟨rfl,_⟩:=hg2
    exact⟨by rw[←ho.ec.ev];exact cell_in (i:=10) ho.ec.cod.k rfl,d0,d1,d2⟩)
   have HNX:=Hd hnx
   obtain⟨hrok,hrs⟩:=HROK.out k
   generalize x.e.run (ops (L.take k))=ek at*
   have HRK:=Hd hrok
   have hidx:(k:Int)<n:=by omega
   have hidx0:(0:Int)≤(k:Int):=by omega
   clear hnx hop hy
   cases y with
   |half b=>
     have hb1:b≤1:=hyok
     have eb:IntKind.u32.wrap (b:Int)=(b:Int):=by rw[IntKind.wrap_u32];omega
     have HDR:=Hd (show∀W,OP w1 l E v x.c ek st' v' W→Calls Tryz.prog 79 #[ptr E,.int .u32 b,.int .i64 1] W _ from fun W ho=>rdirect_calls hb1 ho.ec.q HRK.out.k hrs)
     simp only[Nb.nm,Nb.i,Nb.b] at c0 c1 c2 HSK
     clear hyok hyrd
     have HCU:=Hd (HOP.out.keep (Fr.refl (fun _=>False) wr).drew)
     have HSC:=Hd (HSK.out _ _ _ _ HCU.out)
     go_wp2_with fail
     go_region_held3 (fun W=>W.cell? ⟨l.K,10,none⟩=some (ptr E)∧W.cell? ⟨g,k*3,none⟩=some (bstr [])∧W.cell? ⟨g,k*3+1,none⟩=some (.int .i64 (0:Nat))∧W.cell? ⟨g,k*3+2,none⟩=some (.int .i64 b))
      (with_reducible exact HSC.out) ((
      (go_at_call 79
       refine(HDR.out _ HCU.out).mono ?_
       rintro e wd ⟨rfl,hqp⟩
       obtain⟨v2,ho2⟩:=HCU.out.ec.halved hqp
       have HFIN:=Hd (HCU.out.trans ho2)
       have HSC:=Hd (HSK.out _ _ _ _ HFIN.out)
       clear hqp ho2)))
     go_wp2_with fail
     go_roundw
     case rel=>exact⟨k+1,_,_,by omega,by go_num,by rw[HNX.out];exact HFIN.out⟩
     case measure=>simp[intOf];omega
   |bit a i b=>
     obtain⟨ha,hi,hb1⟩:=hyok
     have hidx2:a.o+i<Lz.rowLen x.c.lc x.c.lp a.j:=hyrd.2.1
     obtain⟨p,hp⟩:∃p,p=(ek.ps a.j).getD (a.o+i) 0:=⟨_,rfl⟩
     have hat:=HRK.out.at (name_small ha).2 hidx2
     rw[←hp] at hat
     obtain⟨hpl,hp1,hp2⟩:=hat
     have hne:=str_bit ha
     simp only[Nb.nm,Nb.i,Nb.b] at c0 c1 c2 HSK
     have HST:=Hd (show∀W,OP w1 l E v x.c ek st' v' W→Calls Tryz.prog 81 #[ptr l.K,bstr a.str] W (SetPost {l with st:=st'} x.c ek.ps a W) from fun W ho=>Set_calls ho.ec.cod a ha)
     have HBI:=Hd (show∀W st2 v2 en,OP w1 l E v x.c ek st2 v2 W→look st2 a.str=some en→Calls Tryz.prog 80 #[ptr E,ptr en.b,.int .i64 i,.int .i64 b] W (fun e w'=>e=.returned (.int .i64 0)∧RBPost E v2 en.b en.g W (ek.k.bit p b) (en.L.set i (nextN p b)) w') from fun W st2 v2 en ho hl=>rbit7_calls b ho.ec.q HRK.out.k hrs (ho.ec.cod.sets.at' en (look_some hl).1) (ho.ec.cod.has.at' ha hl hi hpl) hp1 hp2)
     have HBD:=Hd (show∀W st2 v2 en W2,OP w1 l E v x.c ek st2 v2 W→look st2 a.str=some en→RBPost E v2 en.b en.g W (ek.k.bit p b) (en.L.set i (nextN p b)) W2→∃st3 v3,OP w1 l E v x.c (ek.op (.bit a.j (a.o+i) b)) st3 v3 W2 from fun W st2 v2 en W2 ho hl hbp=>by
      obtain⟨st3,v3,ho3⟩:=EC.bitted ho.ec HRK.out ha hl hi hidx2 hp.symm hbp
      exact⟨st3,v3,ho.trans ho3⟩)
     have HCU:=Hd (HOP.out.keep (Fr.refl (fun _=>False) wr).drew)
     have HSC:=Hd (HSK.out _ _ _ _ HCU.out)
     obtain⟨s,hs'⟩:∃s,s=a.str:=⟨_,rfl⟩
     have HSS:=Hd hs'
     rw[←hs'] at hne HST HSK HSC c0
     have hie:s.isEmpty=false:=by cases s with|nil=>exact absurd rfl hne|cons _ _=>rfl
     clear ha hi hb1 hidx2 hp hpl hp1 hp2 hs' hyrd hne
     go_wp2_with fail
     go_region_held3 (fun W=>W.cell? ⟨l.K,10,none⟩=some (ptr E)∧W.cell? ⟨g,k*3,none⟩=some (bstr s)∧W.cell? ⟨g,k*3+1,none⟩=some (.int .i64 i)∧W.cell? ⟨g,k*3+2,none⟩=some (.int .i64 b))
      (with_reducible exact HSC.out) ((first
      | (go_at_call 81
         refine(HST.out _ HCU.out).mono ?_
         rintro e ws ⟨en,st2,rfl,hl,hf,hc,hg⟩
         have HCU:=Hd (HCU.out.trans (HCU.out.ec.setted hf hc hg))
         have HLK:=Hd hl
         have HSC:=Hd (HSK.out _ _ _ _ HCU.out)
         clear hl hf hc hg)
      | (go_at_call 80
         refine(HBI.out _ _ _ _ HCU.out HLK.out).mono ?_
         rintro e wd ⟨rfl,hbp⟩
         obtain⟨st3,v3,ho3⟩:=HBD.out _ _ _ _ _ HCU.out HLK.out hbp
         have HFIN:=Hd ho3
         have HSC:=Hd (HSK.out _ _ _ _ HFIN.out)
         clear hbp ho3)))
     go_wp2_with fail
     go_roundw
     case rel=>exact⟨k+1,_,_,by omega,by go_num,by rw[HNX.out];exact HFIN.out⟩
     case measure=>simp[intOf];omega
  ·obtain rfl:k=n:=by omega
   have hop2:OP w1 l E v x.c (x.e.run (ops L)) st' v' wr:=by
    have:=hop
    rw[←HN.out,List.take_length] at this
    exact this
   have hec:=hop2.ec
   have hyw:=HYK.out _ _ _ _ hop2
   have hKV:¬(l.K=l.V∨l.av.ownBlock=some l.K):=by
    rintro(e|e)
    ·exact blk_ne hec.cod.k hec.cod.v (by decide) e
    ·obtain⟨cur,hc⟩:=own_blk hec.cod.all e
     exact blk_ne hec.cod.k hc (by decide) rfl
   have hYV:¬(zz=l.V∨l.av.ownBlock=some zz):=by
    rintro(e|e)
    ·exact blk_ne hyw hec.cod.v (by decide) e
    ·obtain⟨cur,hc⟩:=own_blk hec.cod.all e
     exact blk_ne hyw hc (by decide) rfl
   have HKEEP:=Hd (show∀W,Fr (fun k=>k=l.V∨l.av.ownBlock=some k) wr W→W.cell? ⟨l.K,3,none⟩=some (ptr l.V)∧W.cell? ⟨l.K,4,none⟩=some (.int .i64 x.c.s.num)∧W.cell? ⟨l.K,5,none⟩=some (.int .i64 x.c.s.r0)∧W.cell? ⟨l.K,6,none⟩=some (.int .i64 x.c.s.r1)∧W.cell? ⟨l.K,7,none⟩=some (.int .i64 x.c.s.r2)∧W.cell? ⟨l.K,8,none⟩=some (.int .i64 x.c.s.r3)∧W.cell? ⟨zz,0,none⟩=some (.int .i64 kind)∧W.cell? ⟨zz,1,none⟩=some (.int .u8 byte)∧W.cell? ⟨zz,2,none⟩=some (.int .i64 len)∧W.cell? ⟨zz,3,none⟩=some (.int .i64 dist) from fun W hW=>by
    have h1:=hW.keep hec.cod.k hKV
    have h2:=hW.keep hyw hYV
    exact⟨cell_in h1 rfl,cell_in h1 rfl,cell_in h1 rfl,cell_in h1 rfl,cell_in h1 rfl,cell_in h1 rfl,cell_in h2 rfl,cell_in h2 rfl,cell_in h2 rfl,cell_in h2 rfl⟩)
   have HWA:=Hd (show WAt wr l.V l.av x.c.size x.c.all from⟨hec.cod.v,hec.cod.all⟩)
   have HEC:=Hd hec
   have HAVL:=Hd (show l.V<wr.heap.size∧∀k,l.av.ownBlock=some k→k<wr.heap.size from⟨lt_of_block hec.cod.v,fun k hk=>(World.ownsRow.lt hec.cod.all k hk).2⟩)
   have HKB:=Hd (show∀W,Fr (fun k=>k=l.V∨l.av.ownBlock=some k) wr W→W.heap[l.K]? =some (.cells (kV {l with st:=st'} x.c) 93 (0,0)) from fun W hW=>hW.keep hec.cod.k hKV)
   have HOP2:=Hd hop2
   clear hop hop2 hec hyw hKV hYV HOP
   simp only[S.cells] at HAP
   have FC:=Hd (Fr.refl (fun k=>k=l.V∨l.av.ownBlock=some k) wr).drew
   have HSC:=Hd (HKEEP.out _ FC.out)
   go_wp2_with fail
   go_region_held3 (fun W=>W.cell? ⟨l.K,3,none⟩=some (ptr l.V)∧W.cell? ⟨l.K,4,none⟩=some (.int .i64 x.c.s.num)∧W.cell? ⟨l.K,5,none⟩=some (.int .i64 x.c.s.r0)∧W.cell? ⟨l.K,6,none⟩=some (.int .i64 x.c.s.r1)∧W.cell? ⟨l.K,7,none⟩=some (.int .i64 x.c.s.r2)∧W.cell? ⟨l.K,8,none⟩=some (.int .i64 x.c.s.r3)∧W.cell? ⟨zz,0,none⟩=some (.int .i64 kind)∧W.cell? ⟨zz,1,none⟩=some (.int .u8 byte)∧W.cell? ⟨zz,2,none⟩=some (.int .i64 len)∧W.cell? ⟨zz,3,none⟩=some (.int .i64 dist))
    (first|with_reducible exact HSC.out|(refine HKEEP.out _ ?_;first|exact FC.out|exact FC.out.alloc _|((repeat refine Fr.setCell ?_ (.inr HZN.out) _);exact FC.out))) ((
    (go_at_call 82
     first
      | (refine (HAP.out _ (HWA.out.keep (Fr.refl (fun _ => False) _).drew)).mono ?_
         rintro e wa ⟨va,rfl,hok⟩
         obtain⟨⟨av2,hW2,hn2,_⟩,hfa,_⟩:=hok
         have HW2:=Hd hW2
         have HN2:=Hd (show∀k,av2.ownBlock=some k→l.av.ownBlock=some k∨wr.heap.size≤k from hn2)
         have FC:=Hd (FC.out.trans hfa)
         have HSC:=Hd (HKEEP.out _ FC.out)
         clear hfa hW2 hn2)
      | (refine (HAP.out _ (HWA.out.keep ((Fr.refl (fun _ => False) _).drew.alloc _))).mono ?_
         rintro e wa ⟨va,rfl,hok⟩
         obtain⟨⟨av2,hW2,hn2,_⟩,hfa,_⟩:=hok
         have hz:=hfa.keep (heap_alloc_new _ _) (fun e=>by
          rcases e with e|e
          ·have:=HAVL.out.1
           simp at e
           omega
          ·have:=HAVL.out.2 _ e
           simp at this)
         try simp only[World.size_drew] at hz
         obtain⟨s0,s1,s2,s3,s4,sf⟩:=cf5 hz rfl rfl rfl rfl rfl
         have HSZ:=Hd hz
         have HZN:=Hd (Nat.le_refl wr.heap.size)
         have HW2:=Hd hW2
         have HN2:=Hd (show∀k,av2.ownBlock=some k→l.av.ownBlock=some k∨wr.heap.size+1≤k from fun k hk=>(hn2 k hk).imp id (fun h=>by simpa using h))
         have FC:=Hd ((FC.out.alloc _).trans hfa)
         have HSC:=Hd (HKEEP.out _ FC.out)
         clear hfa hW2 hn2 hz))))
   focus
    have FW:=Hd (FC.out.alloc (.cells #[.int .i64 (tn:Int),.int .i64 (t0:Int),.int .i64 (t1:Int),.int .i64 (t2:Int),.int .i64 (t3:Int)] 89))
    have HZ2:=Hd (heap_alloc_new wa (.cells #[.int .i64 (tn:Int),.int .i64 (t0:Int),.int .i64 (t1:Int),.int .i64 (t2:Int),.int .i64 (t3:Int)] 89))
    have HW2:=Hd (HW2.out.keep ((Fr.refl (fun _=>False) wa).alloc (.cells #[.int .i64 (tn:Int),.int .i64 (t0:Int),.int .i64 (t1:Int),.int .i64 (t2:Int),.int .i64 (t3:Int)] 89)))
    generalize World.alloc wa _=w2 at*
    generalize wa.heap.size=zs at*
   rotate_left
   focus
    have hf5:=five_fr wa wr.heap.size (.int .i64 (tn:Int)) (.int .i64 (t0:Int)) (.int .i64 (t1:Int)) (.int .i64 (t2:Int)) (.int .i64 (t3:Int))
    have FW:=Hd (FC.out.trans' hf5 (fun i h1 h2=>by omega))
    have HZ2:=Hd (set_in (set_in (set_in (set_in (set_in HSZ.out 0 (.int .i64 (tn:Int))) 1 (.int .i64 (t0:Int))) 2 (.int .i64 (t1:Int))) 3 (.int .i64 (t2:Int))) 4 (.int .i64 (t3:Int)))
    have HW2:=Hd (HW2.out.step hf5 (fun e=>by have:=HAVL.out.1;omega) (fun k hk e=>by
     rcases HN2.out k hk with h1|h1
     ·have:=HAVL.out.2 k h1
      omega
     ·omega))
    have HN2:=Hd (show∀k,av2.ownBlock=some k→l.av.ownBlock=some k∨wr.heap.size≤k from fun k hk=>(HN2.out k hk).imp id (fun h=>by omega))
    clear hf5 s0 s1 s2 s3 s4 sf
    generalize World.setCell (World.setCell (World.setCell (World.setCell (World.setCell wa _ _) _ _) _ _) _ _) _ _=w2 at*
    obtain⟨zs,hzs⟩:∃zs,zs=wr.heap.size:=⟨_,rfl⟩
    rw[←hzs] at HZ2 ⊢
    clear hzs
   rotate_left
   all_goals
    have hz2:w2.heap[zs]? =some (.cells #[.int .i64 (tn:Int),.int .i64 (t0:Int),.int .i64 (t1:Int),.int .i64 (t2:Int),.int .i64 (t3:Int)] 89):=HZ2.out
    obtain⟨s0,s1,s2,s3,s4⟩:=cs5 hz2 rfl rfl rfl rfl rfl
    have hkb:=HKB.out _ FW.out
    have q4:w2.cell? ⟨l.K,4,none⟩=some (.int .i64 x.c.s.num):=cell_in (i:=4) hkb rfl
    have q5:w2.cell? ⟨l.K,5,none⟩=some (.int .i64 x.c.s.r0):=cell_in (i:=5) hkb rfl
    have q6:w2.cell? ⟨l.K,6,none⟩=some (.int .i64 x.c.s.r1):=cell_in (i:=6) hkb rfl
    have q7:w2.cell? ⟨l.K,7,none⟩=some (.int .i64 x.c.s.r2):=cell_in (i:=7) hkb rfl
    have q8:w2.cell? ⟨l.K,8,none⟩=some (.int .i64 x.c.s.r3):=cell_in (i:=8) hkb rfl
    have qf:=fun i=>frozen_in hkb i
    have h5:=set_in (set_in (set_in (set_in (set_in hkb 4 (.int .i64 (tn:Int))) 5 (.int .i64 (t0:Int))) 6 (.int .i64 (t1:Int))) 7 (.int .i64 (t2:Int))) 8 (.int .i64 (t3:Int))
    have hf5:Fr (fun k=>k=l.K) w2 (((((w2.setCell ⟨l.K,4,none⟩ (.int .i64 (tn:Int))).setCell ⟨l.K,5,none⟩ (.int .i64 (t0:Int))).setCell ⟨l.K,6,none⟩ (.int .i64 (t1:Int))).setCell ⟨l.K,7,none⟩ (.int .i64 (t2:Int))).setCell ⟨l.K,8,none⟩ (.int .i64 (t3:Int))):=((((Fr.one _ _ _ _).trans (Fr.one _ _ _ _)).trans (Fr.one _ _ _ _)).trans (Fr.one _ _ _ _)).trans (Fr.one _ _ _ _)
    have happ:=EC.applied (l:={l with st:=st'}) (av2:=av2) (bytes:=bytes) (s':=⟨tn,t0,t1,t2,t3⟩) HEC.out HSOK.out (by have:=HBL0.out;omega) FW.out HW2.out HN2.out hf5 h5
    obtain⟨a1,a2,a3⟩:=happ
    have hs1:=HF1.out.size
    have hs2:=HOP2.out.fr.size
    have hzz:=HZZ.out
    have HFIN:=Hd (HPOST.out _ _ ⟨st',av2,v',rfl,a1,((HF1.out.mono (T:=ECF l E v) (fun _ _ h=>h.elim)).trans HOP2.out.fr).trans' a2 (fun i hi h=>by
     rcases HOP2.out.gr i h with h|h
     ·exact h
     ·omega),fun k hk=>by
     rcases a3 k hk with h1|h1
     ·rcases HOP2.out.gr k h1 with h2|h2
      ·exact .inl h2
      ·exact .inr (by omega)
     ·exact .inr (by omega)⟩)
    clear a1 a2 a3 hf5 h5 hkb hz2
    go_wp2_with fail
    exact HFIN.out
end Rf
end Go.Proofs.YtlgccpjccopdmaaGreatDoor
