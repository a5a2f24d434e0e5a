/- Part 49 of 54: lemmas of the last part, each under the conditions that it names. -/
import Derived.Test.YtlgccpjccopdmaaGreatDoorP21
import Derived.Test.YtlgccpjccopdmaaGreatDoorP48
set_option linter.unusedVariables false
set_option linter.unusedSimpArgs false
set_option maxRecDepth 1500
set_option maxHeartbeats 8000000
namespace Go.Proofs.YtlgccpjccopdmaaGreatDoor
open Go.RowKit
namespace Rf
open Mem Rc Prob St Lz Win En Ga Ck
theorem mine_old{w00 w0 w:World}{v:Value}{xs:List UInt8}(h:Mine w0 w v xs)(hs:w00.heap.size≤w0.heap.size):Mine w00 w v xs:=⟨h.own,fun k hk=>Nat.le_trans hs (h.new k hk)⟩
theorem laid_calls(k n m lc lp pb:Int)(H:Head)(bv:Value)(bs:List UInt8)(w:World)(hp:∀W,Calls Tryz.prog 37 #[.agg #[.int .i64 k,.int .i64 n,.int .i64 m,.int .i64 lc,.int .i64 lp,.int .i64 pb]] W (HeadP W H))(hr:Rd w bv bs)(hb:bs.length≤100000):
    Calls Tryz.prog 38 #[.agg #[.int .i64 k,.int .i64 n,.int .i64 m,.int .i64 lc,.int .i64 lp,.int .i64 pb],bv] w fun e w'=>∃v,e=.returned v∧Fr (fun _=>False) w w'∧Mine w w' v (headB H++bs):=by
  have hx:=heap_alloc_new w (.cells #[.int .i64 k,.int .i64 n,.int .i64 m,.int .i64 lc,.int .i64 lp,.int .i64 pb] 47)
  have HF:=Hd ((Fr.refl (fun _=>False) w).alloc (.cells #[.int .i64 k,.int .i64 n,.int .i64 m,.int .i64 lc,.int .i64 lp,.int .i64 pb] 47))
  obtain⟨y0,y1,y2,y3,y4,y5⟩:=cs6 hx rfl rfl rfl rfl rfl rfl
  have HP:=Hd hp
  have hr0:=hr
  obtain⟨bp,bc,rfl,_⟩:=hr0
  have HR:=Hd hr
  have HB:=Hd hb
  have hhl:=head_n H
  clear hx hp hr hb
  obtain⟨bn,hbn⟩:∃bn,bs.length=bn:=⟨_,rfl⟩
  rw[hbn] at HR HB ⊢
  have HBN:=Hd hbn
  clear hbn
  go_enter Tryz.func38,Tryz.ntmps38
  go_wp2_with fail
  refine(HP.out _).mono ?_
  rintro e w2 ⟨hf2,hv,rfl,hm⟩
  obtain⟨hd,hhd⟩:∃hd,headB H=hd:=⟨_,rfl⟩
  rw[hhd] at hm hhl
  have HHD:=Hd hhd
  clear hhd
  obtain⟨p2,cap2,rfl⟩:=hm.slice
  have HM:=Hd (mine_old hm HF.out.size)
  have HF2:=Hd (HF.out.trans hf2)
  have HR2:=Hd (HR.out.keep (HF.out.trans hf2))
  clear hf2 hm y0 y1 y2 y3 y4 y5
  go_wp2_with (at_builtin
               refine append_mine rfl _ _ rfl (w0:=w) (.slice p2 hd.length cap2) (.slice bp bn bc) hd bs rfl rfl HM.out HF2.out.size HR2.out (by have:=HB.out;have:=HBN.out;omega) ?_
               intro p5 cap5 n5 w5 hn5 hM5 hfr5 _
               have HM5:=Hd hM5
               have HF5:=Hd (HF2.out.trans' hfr5 (fun i h1 h2=>by have:=HM.out.new i h2;omega))
               clear hM5 hfr5 hn5)
  go_ret
  exact⟨_,rfl,HF5.out,by rw[HHD.out];exact HM5.out⟩
theorem drop_consQ{α:Type}{l:List α}{k:Nat}{a:α}(h:l[k]? =some a):l.drop k=a::l.drop (k+1):=by
 obtain⟨hk,rfl⟩:=List.getElem?_eq_some_iff.1 h
 exact List.drop_eq_getElem_cons hk
def PackP(w:World)(l:RL)(E:Nat)(v:Value)(res:Except Nat (List UInt8×Xe))(e:Ending)(w':World):Prop:=
 match res with
 |.error er=>e=.returned (.tuple #[.slice none 0 0,.int .i64 er])∧Fr (ECF l E v) w w'∧er≠0
 |.ok (b,x')=>∃bv l' E' v',e=.returned (.tuple #[bv,.int .i64 0])∧Mine w w' bv b∧EC w' l' E' v' x'.c x'.e∧Nxt w l E v w' l' E' v'∧∀k,bv.ownBlock=some k→¬ECF l' E' v' k
def PkRel(w0:World)(l:RL)(E:Nat)(v:Value)(ys:List Sz)(x1:Xe)(nv i:Value)(wr:World):Prop:=
 ∃(k m:Nat)(l':RL)(v':Value)(xk:Xe),k≤ys.length∧i=.int .i64 k∧nv=.int .i64 m∧EC wr l' E v' xk.c xk.e∧Nxt w0 l E v wr l' E v'∧xk.Ok∧putsZ ys x1 0=putsZ (ys.drop k) xk m∧xk.c.all.length≤x1.c.all.length+273*k∧xk.e.k.s≤52*k∧m≤273*k
theorem Nxt.off{w w1:World}{l l1:RL}{E E1:Nat}{v v1:Value}(h:Nxt w l E v w1 l1 E1 v1){k:Nat}(hk:k<w.heap.size)(hn:¬ECF l E v k):¬ECF l1 E1 v1 k:=fun hx=>by
 rcases h.gr k hx with h1|h1
 ·exact hn h1
 ·omega
theorem Nxt.front{w w0 w1:World}{l l1:RL}{E E1:Nat}{v v1:Value}(hf:Fr (fun _=>False) w w0)(h:Nxt w0 l E v w1 l1 E1 v1):Nxt w l E v w1 l1 E1 v1:=
 ⟨(hf.mono (T:=ECF l E v) (fun _ _ h=>h.elim)).trans h.fr,fun k hk=>(h.gr k hk).imp id (Nat.le_trans hf.size),h.k⟩
theorem Nxt.puts{w w':World}{l:RL}{E:Nat}{v av' v':Value}{st':List Ent}(hf:Fr (ECF l E v) w w')(hg:∀k,ECF {l with st:=st',av:=av'} E v' k→ECF l E v k∨w.heap.size≤k):Nxt w l E v w' {l with st:=st',av:=av'} E v':=⟨hf,hg,rfl⟩
end Rf
namespace Rf
open Mem Rc Prob St Lz Win En Ga Ck
set_option maxRecDepth 100000 in
theorem pack_k3{wB w:World}{l:RL}{E:Nat}{v:Value}{x:Xe}(h:EC w l E v x.c x.e)(hok:x.Ok)(hk0:x.e.k=K.new)(lc lp pb:Int)(ys:List Sz)(sp rp:Option Addr)(sc rn rc:Nat)(hby:∀z ∈ ys,z.byte<256)
 (hB:Fr (fun _=>False) wB w)(hnew:∀k,ECF l E v k→wB.heap.size≤k)(hz:RdZ wB (.slice sp ys.length sc) ys)(hyl:ys.length≤1048576)(ha:x.c.all.length≤1099511627776):
 Calls Tryz.prog 51 #[ptr l.K,.agg #[.int .i64 3,.int .i64 lc,.int .i64 lp,.int .i64 pb,.slice sp ys.length sc,.slice rp rn rc]] w (PackP w l E v (packP 3 (x) ys (lc,lp,pb))):=by
 obtain⟨ny,hny⟩:∃ny,ny=ys.length:=⟨_,rfl⟩
 rw[←hny] at hz ⊢
 have HNY:=Hd hny
 have hfa:=(Fr.refl (fun _=>False) w).alloc (.cells #[.int .i64 3,.int .i64 lc,.int .i64 lp,.int .i64 pb,.slice sp ny sc,.slice rp rn rc] 108)
 have hxa:=heap_alloc_new w (.cells #[.int .i64 3,.int .i64 lc,.int .i64 lp,.int .i64 pb,.slice sp ny sc,.slice rp rn rc] 108)
 have H:=Hd h
 have HB:=Hd hB
 have HNEW:=Hd hnew
 have HZ:=Hd hz
 have HBY:=Hd hby
 have HYL:=Hd hyl
 have hzo:¬ECF l E v w.heap.size:=fun hx=>by have:=h.old _ hx;omega
 obtain⟨w0,hw0⟩:∃w0,w0=w.alloc (.cells #[.int .i64 3,.int .i64 lc,.int .i64 lp,.int .i64 pb,.slice sp ny sc,.slice rp rn rc] 108):=⟨_,rfl⟩
 have HW0:=Hd hw0
 have hzl:w.heap.size<w0.heap.size:=by rw[hw0];simp
 rw[←hw0] at hfa hxa
 have HFA:=Hd hfa
 have HXA:=Hd hxa
 obtain⟨zz,hzz⟩:∃zz,zz=w.heap.size:=⟨_,rfl⟩
 rw[←hzz] at hzo hzl hxa HXA
 have HZZ:=Hd hzz
 have HZO:=Hd (And.intro hzl hzo)
 have H0:=Hd (h.keep hfa)
 obtain⟨RS,hRS⟩:∃RS,RS=packP 3 (x) ys (lc,lp,pb):=⟨_,rfl⟩
 rw[←hRS]
 have HRS:=Hd hRS
 -- the part's cells, wherever the encoder has come to
 have HPC:=Hd (show∀l' E' v' W,Nxt w0 l E v W l' E' v'→(W.cell? ⟨zz,0,none⟩=some (.int .i64 3)∧W.cell? ⟨zz,1,none⟩=some (.int .i64 lc)∧W.cell? ⟨zz,2,none⟩=some (.int .i64 lp)∧W.cell? ⟨zz,3,none⟩=some (.int .i64 pb)∧W.cell? ⟨zz,4,none⟩=some (.slice sp ny sc)) from fun l' E' v' W hN=>by
  have hx:=hN.fr.keep HXA.out hzo
  exact⟨cell_in hx rfl,cell_in hx rfl,cell_in hx rfl,cell_in hx rfl,cell_in hx rfl⟩)
 have HFB:=Hd (show∀l' E' v' W,Nxt w0 l E v W l' E' v'→Fr (fun _=>False) wB W from fun l' E' v' W hN=>(hB.trans hfa).trans' hN.fr (fun i h1 h2=>by have:=hnew i h2;omega))
 have HOK:=Hd hok
 have HA:=Hd ha
 clear h hok hB hnew hz hby hyl hzo hzl hny hfa hRS hzz ha
 obtain⟨p0,p1,p2,p3,p4⟩:=cs5 hxa rfl rfl rfl rfl rfl
 rw[hw0] at p0 p1 p2 p3 p4
 rw[HZZ.out] at p0 p1 p2 p3 p4
 clear hxa
 go_enter Tryz.func51,Tryz.ntmps51
 go_wp2_with fail
 rw[←hw0] at p0 p1 p2 p3 p4 ⊢
 rw[←HZZ.out] at p0 p1 p2 p3 p4 ⊢
 obtain⟨w1,l1,hw1,HE1,HN1⟩:∃w1 l1,w1=w0∧Hid (EC w1 l1 E v x.c x.e)∧Hid (Nxt w0 l E v w1 l1 E v):=⟨_,l,rfl,H0,Hd (Nxt.refl _ _ _ _)⟩
 rw[←hw1]
 obtain⟨x1,hx1⟩:∃x1,x1=x:=⟨_,rfl⟩
 rw[←hx1] at HE1 HOK HA hk0 HRS
 have HOK1:=HOK
 have HK1:=Hd hk0
 have HA1:=HA
 clear p0 p1 p2 p3 p4
 have HKK:=Hd (show∀W l' E' v',Nxt w0 l E v W l' E' v'→l'.K=l.K from fun W l' E' v' hN=>hN.k)
 obtain⟨p0,p1,p2,p3,p4⟩:=HPC.out _ _ _ _ HN1.out
 go_wp2_with fail
 go_loopw [6,7] (fun nv i wr=>PkRel w0 l E v ys x1 nv i wr) (fun _ i _=>ny-(intOf i).toNat)
 case atStart=>exact⟨0,0,l1,v,x1,Nat.zero_le _,rfl,rfl,HE1.out,HN1.out,HOK1.out,rfl,by omega,by rw[HK1.out];exact Nat.le_refl _,by omega⟩
 case round=>
  obtain⟨k,m,l',v',xk,hkn,rfl,rfl,hE,hN,hok,hputs,hba,hbs,hbm⟩:=hrel
  have hnb:ny≤1048576:=by have:=HYL.out;have:=HNY.out;omega
  obtain⟨p0,p1,p2,p3,p4⟩:=HPC.out _ _ _ _ hN
  have HN:=Hd hN
  have HE:=Hd hE
  have HOKK:=Hd hok
  have HBD:=Hd (And.intro hba (And.intro hbs hbm))
  have HPU:=Hd hputs
  have hm30:m≤286261248:=by have:=HNY.out;omega
  by_cases hlt:k<ny
  ·obtain⟨z,hz⟩:∃z,ys[k]? =some z:=⟨ys[k]'(HNY.out ▸ hlt),List.getElem?_eq_getElem (HNY.out ▸ hlt)⟩
   have hzb:=HBY.out z (List.mem_of_getElem? hz)
   have hd:ys.drop k=z::ys.drop (k+1):=drop_consQ hz
   rw[hd,putsZ] at hputs
   obtain⟨b,o,rfl,c0,c1,c2,c3⟩:=HZ.out.at hz
   have HCK:=Hd (show∀W l2 E2 v2,Nxt w0 l E v W l2 E2 v2→(W.cell? ⟨b,o+k*4,none⟩=some (.int .i64 z.kind)∧W.cell? ⟨b,o+k*4+1,none⟩=some (.int .u8 z.byte)∧W.cell? ⟨b,o+k*4+2,none⟩=some (.int .i64 z.len)∧W.cell? ⟨b,o+k*4+3,none⟩=some (.int .i64 z.dist)) from fun W l2 E2 v2 hN2=>by
    have hf:=HFB.out _ _ _ _ hN2
    exact⟨cell_keep c0 hf,cell_keep c1 hf,cell_keep c2 hf,cell_keep c3 hf⟩)
   have hPT:=rput_calls hE hok z hzb (by have:=HA1.out;omega) (by omega)
   rw[hN.k] at hPT
   have HPT:=Hd hPT
   have HAZ:=Hd (fun h0=>apZ_put (x:=xk) (z:=z) h0 hzb)
   have HZK:=Hd (fun h0=>(apZ_ok (x:=xk) (z:=z) h0).1)
   have HSZ:=Hd (fun h0 W=>rsizez_calls z ((apZ_ok (x:=xk) (z:=z) h0).1) hzb W)
   have HOP:=Hd (fun h0=>hok.put (may_of (c:=xk.c) (apZ_ok (x:=xk) (z:=z) h0).1 hzb) (by have:=(apZ_ok (x:=xk) (z:=z) h0).2;rw[←this];exact h0))
   have HPT2:=Hd hputs
   have HDR:=Hd hd
   clear c0 c1 c2 c3 hPT hputs hd hE hok hz
   obtain⟨c0,c1,c2,c3⟩:=HCK.out _ _ _ _ hN
   clear hN
   obtain⟨er,her⟩:∃er,er=(xk.apZ z).1:=⟨_,rfl⟩
   unfold PutP at HPT
   rw[←her] at HPT HPT2
   simp only[←her] at HAZ HZK HSZ HOP
   clear her
   have hidx:(k:Int)<ny:=by omega
   have hidx0:(0:Int)≤(k:Int):=by omega
   obtain⟨zk,zb,zl,zd⟩:=z
   simp only[Sz.cells] at HPT HSZ c0 c1 c2 c3 HCK
   go_wp2_with fail
   refine HPT.out.mono ?_
   rintro e w4 hp4
   by_cases he:er=0
   case neg=>
    rw[if_neg he] at hp4
    obtain⟨rfl,hf4⟩:=hp4
    have t0:((er:Int) !=0)=true:=by simp[he]
    have hres:RS=.error er:=by
     rw[if_neg he] at HPT2
     rw[HRS.out]
     unfold packP
     rw[HPT2.out]
    have HFIN:=Hd (show PackP w l E v RS (.returned (.tuple #[.slice none 0 0,.int .i64 er])) w4 from by
     rw[hres]
     refine⟨rfl,?_,he⟩
     exact(HFA.out.mono (T:=ECF l E v) (fun _ _ h=>h.elim)).trans (HN.out.keep hf4).fr)
    clear hres hf4
    go_wp2_with fail
    go_ret2
    exact HFIN.out
   subst he
   rw[if_pos rfl] at hp4
   rw[if_pos rfl] at HPT2
   have HPU2:=HPT2
   obtain⟨st4,av4,v4,rfl,he4,hf4,hg4⟩:=hp4
   obtain⟨a1,a2,a3,a4⟩:=HAZ.out rfl
   have hN4:=HN.out.trans (Nxt.puts hf4 hg4)
   have HN4:=Hd hN4
   have HE4:=Hd he4
   obtain⟨p0,p1,p2,p3,p4⟩:=HPC.out _ _ _ _ hN4
   obtain⟨c0,c1,c2,c3⟩:=HCK.out _ _ _ _ hN4
   clear hf4 hg4 he4 hN4
   have HS1:=Hd (HSZ.out rfl)
   generalize hsy:St.size (Sz.sy ⟨zk,zb,zl,zd⟩)=sy at*
   have t0:(((0:Nat):Int) !=0)=false:=rfl
   go_wp2_with fail
   refine(HS1.out _).mono ?_
   rintro e w5 ⟨rfl,hf5⟩
   have HN5:=Hd (HN4.out.keep hf5)
   have HE5:=Hd (HE4.out.keep hf5)
   clear hf5 p0 p1 p2 p3 p4 c0 c1 c2 c3
   go_wp2_with fail
   go_roundw
   case rel=>exact⟨k+1,m+sy,_,_,_,by have:=HNY.out;omega,by go_num,by go_num,HE5.out,HN5.out,HOP.out (by first|rfl|trivial),HPU2.out,by have:=HBD.out;omega,by have:=HBD.out;omega,by have:=HBD.out;omega⟩
   case measure=>simp[intOf];omega
  ·obtain rfl:k=ny:=by have:=HNY.out;omega
   have hq:putsZ ys x1 0=.ok (xk,m):=by
    rw[hputs,HNY.out,List.drop_length]
    rfl
   have HQ:=Hd hq
   have hCT:=ecut_calls hE (by have:=hnb;omega)
   rw[hN.k] at hCT
   have HCT:=Hd hCT
   have hbl:xk.e.k.bytes.length=xk.e.k.s+5:=digs_len _ _
   clear hq hCT hE hN hok hputs hba hbs hbm HE
   go_wp2_with fail
   refine HCT.out.mono ?_
   rintro e w5 ⟨bv,l5,E5,v5,rfl,hm5,he5,hn5,hoff5⟩
   obtain⟨q5,c5,rfl⟩:=hm5.slice
   obtain⟨bl,hbl2⟩:∃bl,xk.e.k.bytes.length=bl:=⟨_,rfl⟩
   have HBL2:=Hd hbl2
   have hbl5:5≤bl:=by omega
   have hbl6:bl≤286261248:=by have:=HBD.out;omega
   have HRD:=Hd hm5.rd
   have HN5:=Hd (HN.out.trans hn5)
   have HE5:=Hd he5
   rw[hbl2] at HRD ⊢
   obtain⟨p0,p1,p2,p3,p4⟩:=HPC.out _ _ _ _ (HN.out.trans hn5)
   clear hbl hbl2 hm5 he5 hn5 hoff5
   have HERR:=Hd (show¬(1≤m∧m≤2097152∧bl≤65536)→PackP w l E v RS (.returned (.tuple #[.slice none 0 0,.int .i64 7])) w5 from fun hbad=>by
    have hres:RS=.error 7:=by
     rw[HRS.out]
     unfold packP
     rw[HQ.out]
     simp only
     rw[HBL2.out,if_neg (by unfold sizedP;rw[decide_eq_true_eq];omega)]
    rw[hres]
    exact⟨rfl,(Nxt.front HFA.out HN5.out).fr,by decide⟩)
   by_cases s1:m<1
   ·have t1:decide ((m:Int)<1)=true:=decide_eq_true (by omega)
    have HX:=Hd (HERR.out (by omega))
    clear s1
    go_wp2_with fail
    go_ret2
    exact HX.out
   have t1:decide ((m:Int)<1)=false:=decide_eq_false (by omega)
   by_cases s2:2097152<m
   ·have t2:decide ((m:Int)>2097152)=true:=decide_eq_true (by omega)
    have t2':decide ((2097152:Int)<(m:Int))=true:=decide_eq_true (by omega)
    have HX:=Hd (HERR.out (by omega))
    clear s1 s2
    go_wp2_with fail
    go_ret2
    exact HX.out
   have t2:decide ((m:Int)>2097152)=false:=decide_eq_false (by omega)
   have t2':decide ((2097152:Int)<(m:Int))=false:=decide_eq_false (by omega)
   by_cases s3:65536<bl
   ·have t3:decide ((bl:Int)>65536)=true:=decide_eq_true (by omega)
    have t3':decide ((65536:Int)<(bl:Int))=true:=decide_eq_true (by omega)
    have HX:=Hd (HERR.out (by omega))
    clear s1 s2 s3
    go_wp2_with fail
    go_ret2
    exact HX.out
   have t3:decide ((bl:Int)>65536)=false:=decide_eq_false (by omega)
   have t3':decide ((65536:Int)<(bl:Int))=false:=decide_eq_false (by omega)
   have HLD:=Hd (laid_calls 3 m bl lc lp pb ⟨3,m,bl,0,0,0⟩ (.slice q5 bl c5) xk.e.k.bytes w5 (fun W=>by
    obtain⟨m',rfl⟩:∃m',m=m'+1:=⟨m-1,by omega⟩
    obtain⟨b',rfl⟩:∃b',bl=b'+1:=⟨bl-1,by omega⟩
    exact put17_same 3 m' b' lc lp pb (by decide) (by omega) (by omega) W) HRD.out (by rw[HBL2.out];omega))
   have hres:RS=.ok (headB ⟨3,m,bl,0,0,0⟩++xk.e.k.bytes,xk.cut):=by
    rw[HRS.out]
    unfold packP
    rw[HQ.out]
    simp only
    rw[HBL2.out,if_pos (by unfold sizedP;rw[decide_eq_true_eq];omega)]
    rfl
   have HRES:=Hd hres
   clear hres s1 s2 s3 HERR
   go_wp2_with fail
   refine HLD.out.mono ?_
   rintro e w6 ⟨v6,rfl,hf6,hm6⟩
   obtain⟨q6,c6,rfl⟩:=hm6.slice
   have HFIN:=Hd (show PackP w l E v RS (.returned (.tuple #[.slice q6 (headB ⟨3,m,bl,0,0,0⟩++xk.e.k.bytes).length c6,.int .i64 0])) w6 from by
    rw[HRES.out]
    refine⟨_,l5,E5,v5,rfl,mine_old hm6 (Nat.le_trans HFA.out.size HN5.out.fr.size),HE5.out.keep hf6,(Nxt.front HFA.out HN5.out).keep hf6,fun k hk hx=> ?_⟩
    have h1:=hm6.new k hk
    have h2:=HE5.out.old k hx
    omega)
   obtain⟨bn,hbn⟩:∃bn,(headB ⟨3,m,bl,0,0,0⟩++xk.e.k.bytes).length=bn:=⟨_,rfl⟩
   rw[hbn] at HFIN ⊢
   clear hf6 hm6 p0 p1 p2 p3 p4 hbn
   go_wp2_with fail
   go_ret2
   exact HFIN.out
end Rf
namespace Rf
open Mem Rc Prob St Lz Win En Ga Ck
set_option maxRecDepth 100000 in
theorem pack_k4{wB w:World}{l:RL}{E:Nat}{v:Value}{x:Xe}(h:EC w l E v x.c x.e)(hok:x.Ok)(hk0:x.e.k=K.new)(lc lp pb:Int)(ys:List Sz)(sp rp:Option Addr)(sc rn rc:Nat)(hby:∀z ∈ ys,z.byte<256)
 (hB:Fr (fun _=>False) wB w)(hnew:∀k,ECF l E v k→wB.heap.size≤k)(hz:RdZ wB (.slice sp ys.length sc) ys)(hyl:ys.length≤1048576)(ha:x.c.all.length≤1099511627776):
 Calls Tryz.prog 51 #[ptr l.K,.agg #[.int .i64 4,.int .i64 lc,.int .i64 lp,.int .i64 pb,.slice sp ys.length sc,.slice rp rn rc]] w (PackP w l E v (packP 4 (x.reset (x.c.lc,x.c.lp,x.c.pb)) ys (lc,lp,pb))):=by
 obtain⟨ny,hny⟩:∃ny,ny=ys.length:=⟨_,rfl⟩
 rw[←hny] at hz ⊢
 have HNY:=Hd hny
 have hfa:=(Fr.refl (fun _=>False) w).alloc (.cells #[.int .i64 4,.int .i64 lc,.int .i64 lp,.int .i64 pb,.slice sp ny sc,.slice rp rn rc] 108)
 have hxa:=heap_alloc_new w (.cells #[.int .i64 4,.int .i64 lc,.int .i64 lp,.int .i64 pb,.slice sp ny sc,.slice rp rn rc] 108)
 have H:=Hd h
 have HB:=Hd hB
 have HNEW:=Hd hnew
 have HZ:=Hd hz
 have HBY:=Hd hby
 have HYL:=Hd hyl
 have hzo:¬ECF l E v w.heap.size:=fun hx=>by have:=h.old _ hx;omega
 obtain⟨w0,hw0⟩:∃w0,w0=w.alloc (.cells #[.int .i64 4,.int .i64 lc,.int .i64 lp,.int .i64 pb,.slice sp ny sc,.slice rp rn rc] 108):=⟨_,rfl⟩
 have HW0:=Hd hw0
 have hzl:w.heap.size<w0.heap.size:=by rw[hw0];simp
 rw[←hw0] at hfa hxa
 have HFA:=Hd hfa
 have HXA:=Hd hxa
 obtain⟨zz,hzz⟩:∃zz,zz=w.heap.size:=⟨_,rfl⟩
 rw[←hzz] at hzo hzl hxa HXA
 have HZZ:=Hd hzz
 have HZO:=Hd (And.intro hzl hzo)
 have H0:=Hd (h.keep hfa)
 obtain⟨RS,hRS⟩:∃RS,RS=packP 4 (x.reset (x.c.lc,x.c.lp,x.c.pb)) ys (lc,lp,pb):=⟨_,rfl⟩
 rw[←hRS]
 have HRS:=Hd hRS
 -- the part's cells, wherever the encoder has come to
 have HPC:=Hd (show∀l' E' v' W,Nxt w0 l E v W l' E' v'→(W.cell? ⟨zz,0,none⟩=some (.int .i64 4)∧W.cell? ⟨zz,1,none⟩=some (.int .i64 lc)∧W.cell? ⟨zz,2,none⟩=some (.int .i64 lp)∧W.cell? ⟨zz,3,none⟩=some (.int .i64 pb)∧W.cell? ⟨zz,4,none⟩=some (.slice sp ny sc)) from fun l' E' v' W hN=>by
  have hx:=hN.fr.keep HXA.out hzo
  exact⟨cell_in hx rfl,cell_in hx rfl,cell_in hx rfl,cell_in hx rfl,cell_in hx rfl⟩)
 have HFB:=Hd (show∀l' E' v' W,Nxt w0 l E v W l' E' v'→Fr (fun _=>False) wB W from fun l' E' v' W hN=>(hB.trans hfa).trans' hN.fr (fun i h1 h2=>by have:=hnew i h2;omega))
 have HOK:=Hd hok
 have HA:=Hd ha
 clear h hok hB hnew hz hby hyl hzo hzl hny hfa hRS hzz ha
 obtain⟨p0,p1,p2,p3,p4⟩:=cs5 hxa rfl rfl rfl rfl rfl
 rw[hw0] at p0 p1 p2 p3 p4
 rw[HZZ.out] at p0 p1 p2 p3 p4
 clear hxa
 go_enter Tryz.func51,Tryz.ntmps51
 obtain⟨k0,k1,k2,_⟩:=(H0.out.cod).cells
 rw[hw0] at k0 k1 k2
 have HRE:=Hd (ereset_calls H0.out x.c.lc x.c.lp x.c.pb HOK.out.c.l HOK.out.c.pb)
 go_wp2_with fail
 rw[←hw0] at p0 p1 p2 p3 p4 ⊢
 rw[←HZZ.out] at p0 p1 p2 p3 p4 ⊢
 refine HRE.out.mono ?_
 rintro e w1 ⟨rfl,l1,he1,hn1⟩
 have HE1:=Hd he1
 have HN1:=Hd hn1
 obtain⟨x1,hx1⟩:∃x1,x1=(x.reset (x.c.lc,x.c.lp,x.c.pb)):=⟨_,rfl⟩
 have HOK1:=Hd (show x1.Ok by rw[hx1];exact HOK.out.reset ⟨HOK.out.c.l,HOK.out.c.pb⟩)
 have HK1:=Hd (show x1.e.k=K.new by rw[hx1];rfl)
 have HA1:=Hd (show x1.c.all.length≤1099511627776 by rw[hx1];exact HA.out)
 rw[hk0] at HE1
 have HE1:=Hd (show EC w1 l1 E v x1.c x1.e by rw[hx1];exact HE1.out)
 rw[←hx1] at HRS
 clear he1 hn1 k0 k1 k2
 clear p0 p1 p2 p3 p4
 have HKK:=Hd (show∀W l' E' v',Nxt w0 l E v W l' E' v'→l'.K=l.K from fun W l' E' v' hN=>hN.k)
 obtain⟨p0,p1,p2,p3,p4⟩:=HPC.out _ _ _ _ HN1.out
 go_wp2_with fail
 go_loopw [6,7] (fun nv i wr=>PkRel w0 l E v ys x1 nv i wr) (fun _ i _=>ny-(intOf i).toNat)
 case atStart=>exact⟨0,0,l1,v,x1,Nat.zero_le _,rfl,rfl,HE1.out,HN1.out,HOK1.out,rfl,by omega,by rw[HK1.out];exact Nat.le_refl _,by omega⟩
 case round=>
  obtain⟨k,m,l',v',xk,hkn,rfl,rfl,hE,hN,hok,hputs,hba,hbs,hbm⟩:=hrel
  have hnb:ny≤1048576:=by have:=HYL.out;have:=HNY.out;omega
  obtain⟨p0,p1,p2,p3,p4⟩:=HPC.out _ _ _ _ hN
  have HN:=Hd hN
  have HE:=Hd hE
  have HOKK:=Hd hok
  have HBD:=Hd (And.intro hba (And.intro hbs hbm))
  have HPU:=Hd hputs
  have hm30:m≤286261248:=by have:=HNY.out;omega
  by_cases hlt:k<ny
  ·obtain⟨z,hz⟩:∃z,ys[k]? =some z:=⟨ys[k]'(HNY.out ▸ hlt),List.getElem?_eq_getElem (HNY.out ▸ hlt)⟩
   have hzb:=HBY.out z (List.mem_of_getElem? hz)
   have hd:ys.drop k=z::ys.drop (k+1):=drop_consQ hz
   rw[hd,putsZ] at hputs
   obtain⟨b,o,rfl,c0,c1,c2,c3⟩:=HZ.out.at hz
   have HCK:=Hd (show∀W l2 E2 v2,Nxt w0 l E v W l2 E2 v2→(W.cell? ⟨b,o+k*4,none⟩=some (.int .i64 z.kind)∧W.cell? ⟨b,o+k*4+1,none⟩=some (.int .u8 z.byte)∧W.cell? ⟨b,o+k*4+2,none⟩=some (.int .i64 z.len)∧W.cell? ⟨b,o+k*4+3,none⟩=some (.int .i64 z.dist)) from fun W l2 E2 v2 hN2=>by
    have hf:=HFB.out _ _ _ _ hN2
    exact⟨cell_keep c0 hf,cell_keep c1 hf,cell_keep c2 hf,cell_keep c3 hf⟩)
   have hPT:=rput_calls hE hok z hzb (by have:=HA1.out;omega) (by omega)
   rw[hN.k] at hPT
   have HPT:=Hd hPT
   have HAZ:=Hd (fun h0=>apZ_put (x:=xk) (z:=z) h0 hzb)
   have HZK:=Hd (fun h0=>(apZ_ok (x:=xk) (z:=z) h0).1)
   have HSZ:=Hd (fun h0 W=>rsizez_calls z ((apZ_ok (x:=xk) (z:=z) h0).1) hzb W)
   have HOP:=Hd (fun h0=>hok.put (may_of (c:=xk.c) (apZ_ok (x:=xk) (z:=z) h0).1 hzb) (by have:=(apZ_ok (x:=xk) (z:=z) h0).2;rw[←this];exact h0))
   have HPT2:=Hd hputs
   have HDR:=Hd hd
   clear c0 c1 c2 c3 hPT hputs hd hE hok hz
   obtain⟨c0,c1,c2,c3⟩:=HCK.out _ _ _ _ hN
   clear hN
   obtain⟨er,her⟩:∃er,er=(xk.apZ z).1:=⟨_,rfl⟩
   unfold PutP at HPT
   rw[←her] at HPT HPT2
   simp only[←her] at HAZ HZK HSZ HOP
   clear her
   have hidx:(k:Int)<ny:=by omega
   have hidx0:(0:Int)≤(k:Int):=by omega
   obtain⟨zk,zb,zl,zd⟩:=z
   simp only[Sz.cells] at HPT HSZ c0 c1 c2 c3 HCK
   go_wp2_with fail
   refine HPT.out.mono ?_
   rintro e w4 hp4
   by_cases he:er=0
   case neg=>
    rw[if_neg he] at hp4
    obtain⟨rfl,hf4⟩:=hp4
    have t0:((er:Int) !=0)=true:=by simp[he]
    have hres:RS=.error er:=by
     rw[if_neg he] at HPT2
     rw[HRS.out]
     unfold packP
     rw[HPT2.out]
    have HFIN:=Hd (show PackP w l E v RS (.returned (.tuple #[.slice none 0 0,.int .i64 er])) w4 from by
     rw[hres]
     refine⟨rfl,?_,he⟩
     exact(HFA.out.mono (T:=ECF l E v) (fun _ _ h=>h.elim)).trans (HN.out.keep hf4).fr)
    clear hres hf4
    go_wp2_with fail
    go_ret2
    exact HFIN.out
   subst he
   rw[if_pos rfl] at hp4
   rw[if_pos rfl] at HPT2
   have HPU2:=HPT2
   obtain⟨st4,av4,v4,rfl,he4,hf4,hg4⟩:=hp4
   obtain⟨a1,a2,a3,a4⟩:=HAZ.out rfl
   have hN4:=HN.out.trans (Nxt.puts hf4 hg4)
   have HN4:=Hd hN4
   have HE4:=Hd he4
   obtain⟨p0,p1,p2,p3,p4⟩:=HPC.out _ _ _ _ hN4
   obtain⟨c0,c1,c2,c3⟩:=HCK.out _ _ _ _ hN4
   clear hf4 hg4 he4 hN4
   have HS1:=Hd (HSZ.out rfl)
   generalize hsy:St.size (Sz.sy ⟨zk,zb,zl,zd⟩)=sy at*
   have t0:(((0:Nat):Int) !=0)=false:=rfl
   go_wp2_with fail
   refine(HS1.out _).mono ?_
   rintro e w5 ⟨rfl,hf5⟩
   have HN5:=Hd (HN4.out.keep hf5)
   have HE5:=Hd (HE4.out.keep hf5)
   clear hf5 p0 p1 p2 p3 p4 c0 c1 c2 c3
   go_wp2_with fail
   go_roundw
   case rel=>exact⟨k+1,m+sy,_,_,_,by have:=HNY.out;omega,by go_num,by go_num,HE5.out,HN5.out,HOP.out (by first|rfl|trivial),HPU2.out,by have:=HBD.out;omega,by have:=HBD.out;omega,by have:=HBD.out;omega⟩
   case measure=>simp[intOf];omega
  ·obtain rfl:k=ny:=by have:=HNY.out;omega
   have hq:putsZ ys x1 0=.ok (xk,m):=by
    rw[hputs,HNY.out,List.drop_length]
    rfl
   have HQ:=Hd hq
   have hCT:=ecut_calls hE (by have:=hnb;omega)
   rw[hN.k] at hCT
   have HCT:=Hd hCT
   have hbl:xk.e.k.bytes.length=xk.e.k.s+5:=digs_len _ _
   clear hq hCT hE hN hok hputs hba hbs hbm HE
   go_wp2_with fail
   refine HCT.out.mono ?_
   rintro e w5 ⟨bv,l5,E5,v5,rfl,hm5,he5,hn5,hoff5⟩
   obtain⟨q5,c5,rfl⟩:=hm5.slice
   obtain⟨bl,hbl2⟩:∃bl,xk.e.k.bytes.length=bl:=⟨_,rfl⟩
   have HBL2:=Hd hbl2
   have hbl5:5≤bl:=by omega
   have hbl6:bl≤286261248:=by have:=HBD.out;omega
   have HRD:=Hd hm5.rd
   have HN5:=Hd (HN.out.trans hn5)
   have HE5:=Hd he5
   rw[hbl2] at HRD ⊢
   obtain⟨p0,p1,p2,p3,p4⟩:=HPC.out _ _ _ _ (HN.out.trans hn5)
   clear hbl hbl2 hm5 he5 hn5 hoff5
   have HERR:=Hd (show¬(1≤m∧m≤2097152∧bl≤65536)→PackP w l E v RS (.returned (.tuple #[.slice none 0 0,.int .i64 7])) w5 from fun hbad=>by
    have hres:RS=.error 7:=by
     rw[HRS.out]
     unfold packP
     rw[HQ.out]
     simp only
     rw[HBL2.out,if_neg (by unfold sizedP;rw[decide_eq_true_eq];omega)]
    rw[hres]
    exact⟨rfl,(Nxt.front HFA.out HN5.out).fr,by decide⟩)
   by_cases s1:m<1
   ·have t1:decide ((m:Int)<1)=true:=decide_eq_true (by omega)
    have HX:=Hd (HERR.out (by omega))
    clear s1
    go_wp2_with fail
    go_ret2
    exact HX.out
   have t1:decide ((m:Int)<1)=false:=decide_eq_false (by omega)
   by_cases s2:2097152<m
   ·have t2:decide ((m:Int)>2097152)=true:=decide_eq_true (by omega)
    have t2':decide ((2097152:Int)<(m:Int))=true:=decide_eq_true (by omega)
    have HX:=Hd (HERR.out (by omega))
    clear s1 s2
    go_wp2_with fail
    go_ret2
    exact HX.out
   have t2:decide ((m:Int)>2097152)=false:=decide_eq_false (by omega)
   have t2':decide ((2097152:Int)<(m:Int))=false:=decide_eq_false (by omega)
   by_cases s3:65536<bl
   ·have t3:decide ((bl:Int)>65536)=true:=decide_eq_true (by omega)
    have t3':decide ((65536:Int)<(bl:Int))=true:=decide_eq_true (by omega)
    have HX:=Hd (HERR.out (by omega))
    clear s1 s2 s3
    go_wp2_with fail
    go_ret2
    exact HX.out
   have t3:decide ((bl:Int)>65536)=false:=decide_eq_false (by omega)
   have t3':decide ((65536:Int)<(bl:Int))=false:=decide_eq_false (by omega)
   have HLD:=Hd (laid_calls 4 m bl lc lp pb ⟨4,m,bl,0,0,0⟩ (.slice q5 bl c5) xk.e.k.bytes w5 (fun W=>by
    obtain⟨m',rfl⟩:∃m',m=m'+1:=⟨m-1,by omega⟩
    obtain⟨b',rfl⟩:∃b',bl=b'+1:=⟨bl-1,by omega⟩
    exact put17_same 4 m' b' lc lp pb (by decide) (by omega) (by omega) W) HRD.out (by rw[HBL2.out];omega))
   have hres:RS=.ok (headB ⟨4,m,bl,0,0,0⟩++xk.e.k.bytes,xk.cut):=by
    rw[HRS.out]
    unfold packP
    rw[HQ.out]
    simp only
    rw[HBL2.out,if_pos (by unfold sizedP;rw[decide_eq_true_eq];omega)]
    rfl
   have HRES:=Hd hres
   clear hres s1 s2 s3 HERR
   go_wp2_with fail
   refine HLD.out.mono ?_
   rintro e w6 ⟨v6,rfl,hf6,hm6⟩
   obtain⟨q6,c6,rfl⟩:=hm6.slice
   have HFIN:=Hd (show PackP w l E v RS (.returned (.tuple #[.slice q6 (headB ⟨4,m,bl,0,0,0⟩++xk.e.k.bytes).length c6,.int .i64 0])) w6 from by
    rw[HRES.out]
    refine⟨_,l5,E5,v5,rfl,mine_old hm6 (Nat.le_trans HFA.out.size HN5.out.fr.size),HE5.out.keep hf6,(Nxt.front HFA.out HN5.out).keep hf6,fun k hk hx=> ?_⟩
    have h1:=hm6.new k hk
    have h2:=HE5.out.old k hx
    omega)
   obtain⟨bn,hbn⟩:∃bn,(headB ⟨4,m,bl,0,0,0⟩++xk.e.k.bytes).length=bn:=⟨_,rfl⟩
   rw[hbn] at HFIN ⊢
   clear hf6 hm6 p0 p1 p2 p3 p4 hbn
   go_wp2_with fail
   go_ret2
   exact HFIN.out
end Rf
end Go.Proofs.YtlgccpjccopdmaaGreatDoor
