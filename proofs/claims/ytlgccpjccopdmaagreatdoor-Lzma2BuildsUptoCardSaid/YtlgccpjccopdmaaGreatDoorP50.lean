/- Part 50 of 54: lemmas of the last part, each under the conditions that it names. -/
import Derived.Test.YtlgccpjccopdmaaGreatDoorP21
import Derived.Test.YtlgccpjccopdmaaGreatDoorP49
set_option linter.unusedVariables false
set_option linter.unusedSimpArgs false
set_option maxRecDepth 1500
set_option maxHeartbeats 8000000
namespace Go.Proofs.YtlgccpjccopdmaaGreatDoor
open Go.RowKit
namespace Rf
open Mem Rc Prob St Lz Win En Ga Ck
set_option maxRecDepth 100000 in
theorem pack_k5{wB w:World}{l:RL}{E:Nat}{v:Value}{x:Xe}(h:EC w l E v x.c x.e)(hok:x.Ok)(hk0:x.e.k=K.new)(lc lp pb:Nat)(hl:lc+lp≤4)(hp:pb≤4)(ys:List Sz)(sp rp:Option Addr)(sc rn rc:Nat)(hby:∀z ∈ ys,z.byte<256)
 (hB:Fr (fun _=>False) wB w)(hnew:∀k,ECF l E v k→wB.heap.size≤k)(hz:RdZ wB (.slice sp ys.length sc) ys)(hyl:ys.length≤1048576)(ha:x.c.all.length≤1099511627776):
 Calls Tryz.prog 51 #[ptr l.K,.agg #[.int .i64 5,.int .i64 lc,.int .i64 lp,.int .i64 pb,.slice sp ys.length sc,.slice rp rn rc]] w (PackP w l E v (packP 5 (x.reset (lc,lp,pb)) ys ((lc:Int),(lp:Int),(pb:Int)))):=by
 obtain⟨ny,hny⟩:∃ny,ny=ys.length:=⟨_,rfl⟩
 rw[←hny] at hz ⊢
 have HNY:=Hd hny
 have hfa:=(Fr.refl (fun _=>False) w).alloc (.cells #[.int .i64 5,.int .i64 lc,.int .i64 lp,.int .i64 pb,.slice sp ny sc,.slice rp rn rc] 108)
 have hxa:=heap_alloc_new w (.cells #[.int .i64 5,.int .i64 lc,.int .i64 lp,.int .i64 pb,.slice sp ny sc,.slice rp rn rc] 108)
 have H:=Hd h
 have HB:=Hd hB
 have HNEW:=Hd hnew
 have HZ:=Hd hz
 have HBY:=Hd hby
 have HYL:=Hd hyl
 have hzo:¬ECF l E v w.heap.size:=fun hx=>by have:=h.old _ hx;omega
 obtain⟨w0,hw0⟩:∃w0,w0=w.alloc (.cells #[.int .i64 5,.int .i64 lc,.int .i64 lp,.int .i64 pb,.slice sp ny sc,.slice rp rn rc] 108):=⟨_,rfl⟩
 have HW0:=Hd hw0
 have hzl:w.heap.size<w0.heap.size:=by rw[hw0];simp
 rw[←hw0] at hfa hxa
 have HFA:=Hd hfa
 have HXA:=Hd hxa
 obtain⟨zz,hzz⟩:∃zz,zz=w.heap.size:=⟨_,rfl⟩
 rw[←hzz] at hzo hzl hxa HXA
 have HZZ:=Hd hzz
 have HZO:=Hd (And.intro hzl hzo)
 have H0:=Hd (h.keep hfa)
 obtain⟨RS,hRS⟩:∃RS,RS=packP 5 (x.reset (lc,lp,pb)) ys ((lc:Int),(lp:Int),(pb:Int)):=⟨_,rfl⟩
 rw[←hRS]
 have HRS:=Hd hRS
 -- the part's cells, wherever the encoder has come to
 have HPC:=Hd (show∀l' E' v' W,Nxt w0 l E v W l' E' v'→(W.cell? ⟨zz,0,none⟩=some (.int .i64 5)∧W.cell? ⟨zz,1,none⟩=some (.int .i64 lc)∧W.cell? ⟨zz,2,none⟩=some (.int .i64 lp)∧W.cell? ⟨zz,3,none⟩=some (.int .i64 pb)∧W.cell? ⟨zz,4,none⟩=some (.slice sp ny sc)) from fun l' E' v' W hN=>by
  have hx:=hN.fr.keep HXA.out hzo
  exact⟨cell_in hx rfl,cell_in hx rfl,cell_in hx rfl,cell_in hx rfl,cell_in hx rfl⟩)
 have HFB:=Hd (show∀l' E' v' W,Nxt w0 l E v W l' E' v'→Fr (fun _=>False) wB W from fun l' E' v' W hN=>(hB.trans hfa).trans' hN.fr (fun i h1 h2=>by have:=hnew i h2;omega))
 have HOK:=Hd hok
 have HA:=Hd ha
 clear h hok hB hnew hz hby hyl hzo hzl hny hfa hRS hzz ha
 obtain⟨p0,p1,p2,p3,p4⟩:=cs5 hxa rfl rfl rfl rfl rfl
 rw[hw0] at p0 p1 p2 p3 p4
 rw[HZZ.out] at p0 p1 p2 p3 p4
 clear hxa
 go_enter Tryz.func51,Tryz.ntmps51
 have HRE:=Hd (ereset_calls H0.out lc lp pb hl hp)
 unfold propV at HRE
 go_wp2_with fail
 rw[←hw0] at p0 p1 p2 p3 p4 ⊢
 rw[←HZZ.out] at p0 p1 p2 p3 p4 ⊢
 refine HRE.out.mono ?_
 rintro e w1 ⟨rfl,l1,he1,hn1⟩
 have HE1:=Hd he1
 have HN1:=Hd hn1
 obtain⟨x1,hx1⟩:∃x1,x1=(x.reset (lc,lp,pb)):=⟨_,rfl⟩
 have HOK1:=Hd (show x1.Ok by rw[hx1];exact HOK.out.reset ⟨hl,hp⟩)
 have HK1:=Hd (show x1.e.k=K.new by rw[hx1];rfl)
 have HA1:=Hd (show x1.c.all.length≤1099511627776 by rw[hx1];exact HA.out)
 rw[hk0] at HE1
 have HE1:=Hd (show EC w1 l1 E v x1.c x1.e by rw[hx1];exact HE1.out)
 rw[←hx1] at HRS
 clear he1 hn1
 clear p0 p1 p2 p3 p4
 have HKK:=Hd (show∀W l' E' v',Nxt w0 l E v W l' E' v'→l'.K=l.K from fun W l' E' v' hN=>hN.k)
 obtain⟨p0,p1,p2,p3,p4⟩:=HPC.out _ _ _ _ HN1.out
 go_wp2_with fail
 go_loopw [6,7] (fun nv i wr=>PkRel w0 l E v ys x1 nv i wr) (fun _ i _=>ny-(intOf i).toNat)
 case atStart=>exact⟨0,0,l1,v,x1,Nat.zero_le _,rfl,rfl,HE1.out,HN1.out,HOK1.out,rfl,by omega,by rw[HK1.out];exact Nat.le_refl _,by omega⟩
 case round=>
  obtain⟨k,m,l',v',xk,hkn,rfl,rfl,hE,hN,hok,hputs,hba,hbs,hbm⟩:=hrel
  have hnb:ny≤1048576:=by have:=HYL.out;have:=HNY.out;omega
  obtain⟨p0,p1,p2,p3,p4⟩:=HPC.out _ _ _ _ hN
  have HN:=Hd hN
  have HE:=Hd hE
  have HOKK:=Hd hok
  have HBD:=Hd (And.intro hba (And.intro hbs hbm))
  have HPU:=Hd hputs
  have hm30:m≤286261248:=by have:=HNY.out;omega
  by_cases hlt:k<ny
  ·obtain⟨z,hz⟩:∃z,ys[k]? =some z:=⟨ys[k]'(HNY.out ▸ hlt),List.getElem?_eq_getElem (HNY.out ▸ hlt)⟩
   have hzb:=HBY.out z (List.mem_of_getElem? hz)
   have hd:ys.drop k=z::ys.drop (k+1):=drop_consQ hz
   rw[hd,putsZ] at hputs
   obtain⟨b,o,rfl,c0,c1,c2,c3⟩:=HZ.out.at hz
   have HCK:=Hd (show∀W l2 E2 v2,Nxt w0 l E v W l2 E2 v2→(W.cell? ⟨b,o+k*4,none⟩=some (.int .i64 z.kind)∧W.cell? ⟨b,o+k*4+1,none⟩=some (.int .u8 z.byte)∧W.cell? ⟨b,o+k*4+2,none⟩=some (.int .i64 z.len)∧W.cell? ⟨b,o+k*4+3,none⟩=some (.int .i64 z.dist)) from fun W l2 E2 v2 hN2=>by
    have hf:=HFB.out _ _ _ _ hN2
    exact⟨cell_keep c0 hf,cell_keep c1 hf,cell_keep c2 hf,cell_keep c3 hf⟩)
   have hPT:=rput_calls hE hok z hzb (by have:=HA1.out;omega) (by omega)
   rw[hN.k] at hPT
   have HPT:=Hd hPT
   have HAZ:=Hd (fun h0=>apZ_put (x:=xk) (z:=z) h0 hzb)
   have HZK:=Hd (fun h0=>(apZ_ok (x:=xk) (z:=z) h0).1)
   have HSZ:=Hd (fun h0 W=>rsizez_calls z ((apZ_ok (x:=xk) (z:=z) h0).1) hzb W)
   have HOP:=Hd (fun h0=>hok.put (may_of (c:=xk.c) (apZ_ok (x:=xk) (z:=z) h0).1 hzb) (by have:=(apZ_ok (x:=xk) (z:=z) h0).2;rw[←this];exact h0))
   have HPT2:=Hd hputs
   have HDR:=Hd hd
   clear c0 c1 c2 c3 hPT hputs hd hE hok hz
   obtain⟨c0,c1,c2,c3⟩:=HCK.out _ _ _ _ hN
   clear hN
   obtain⟨er,her⟩:∃er,er=(xk.apZ z).1:=⟨_,rfl⟩
   unfold PutP at HPT
   rw[←her] at HPT HPT2
   simp only[←her] at HAZ HZK HSZ HOP
   clear her
   have hidx:(k:Int)<ny:=by omega
   have hidx0:(0:Int)≤(k:Int):=by omega
   obtain⟨zk,zb,zl,zd⟩:=z
   simp only[Sz.cells] at HPT HSZ c0 c1 c2 c3 HCK
   go_wp2_with fail
   refine HPT.out.mono ?_
   rintro e w4 hp4
   by_cases he:er=0
   case neg=>
    rw[if_neg he] at hp4
    obtain⟨rfl,hf4⟩:=hp4
    have t0:((er:Int) !=0)=true:=by simp[he]
    have hres:RS=.error er:=by
     rw[if_neg he] at HPT2
     rw[HRS.out]
     unfold packP
     rw[HPT2.out]
    have HFIN:=Hd (show PackP w l E v RS (.returned (.tuple #[.slice none 0 0,.int .i64 er])) w4 from by
     rw[hres]
     refine⟨rfl,?_,he⟩
     exact(HFA.out.mono (T:=ECF l E v) (fun _ _ h=>h.elim)).trans (HN.out.keep hf4).fr)
    clear hres hf4
    go_wp2_with fail
    go_ret2
    exact HFIN.out
   subst he
   rw[if_pos rfl] at hp4
   rw[if_pos rfl] at HPT2
   have HPU2:=HPT2
   obtain⟨st4,av4,v4,rfl,he4,hf4,hg4⟩:=hp4
   obtain⟨a1,a2,a3,a4⟩:=HAZ.out rfl
   have hN4:=HN.out.trans (Nxt.puts hf4 hg4)
   have HN4:=Hd hN4
   have HE4:=Hd he4
   obtain⟨p0,p1,p2,p3,p4⟩:=HPC.out _ _ _ _ hN4
   obtain⟨c0,c1,c2,c3⟩:=HCK.out _ _ _ _ hN4
   clear hf4 hg4 he4 hN4
   have HS1:=Hd (HSZ.out rfl)
   generalize hsy:St.size (Sz.sy ⟨zk,zb,zl,zd⟩)=sy at*
   have t0:(((0:Nat):Int) !=0)=false:=rfl
   go_wp2_with fail
   refine(HS1.out _).mono ?_
   rintro e w5 ⟨rfl,hf5⟩
   have HN5:=Hd (HN4.out.keep hf5)
   have HE5:=Hd (HE4.out.keep hf5)
   clear hf5 p0 p1 p2 p3 p4 c0 c1 c2 c3
   go_wp2_with fail
   go_roundw
   case rel=>exact⟨k+1,m+sy,_,_,_,by have:=HNY.out;omega,by go_num,by go_num,HE5.out,HN5.out,HOP.out (by first|rfl|trivial),HPU2.out,by have:=HBD.out;omega,by have:=HBD.out;omega,by have:=HBD.out;omega⟩
   case measure=>simp[intOf];omega
  ·obtain rfl:k=ny:=by have:=HNY.out;omega
   have hq:putsZ ys x1 0=.ok (xk,m):=by
    rw[hputs,HNY.out,List.drop_length]
    rfl
   have HQ:=Hd hq
   have hCT:=ecut_calls hE (by have:=hnb;omega)
   rw[hN.k] at hCT
   have HCT:=Hd hCT
   have hbl:xk.e.k.bytes.length=xk.e.k.s+5:=digs_len _ _
   clear hq hCT hE hN hok hputs hba hbs hbm HE
   go_wp2_with fail
   refine HCT.out.mono ?_
   rintro e w5 ⟨bv,l5,E5,v5,rfl,hm5,he5,hn5,hoff5⟩
   obtain⟨q5,c5,rfl⟩:=hm5.slice
   obtain⟨bl,hbl2⟩:∃bl,xk.e.k.bytes.length=bl:=⟨_,rfl⟩
   have HBL2:=Hd hbl2
   have hbl5:5≤bl:=by omega
   have hbl6:bl≤286261248:=by have:=HBD.out;omega
   have HRD:=Hd hm5.rd
   have HN5:=Hd (HN.out.trans hn5)
   have HE5:=Hd he5
   rw[hbl2] at HRD ⊢
   obtain⟨p0,p1,p2,p3,p4⟩:=HPC.out _ _ _ _ (HN.out.trans hn5)
   clear hbl hbl2 hm5 he5 hn5 hoff5
   have HERR:=Hd (show¬(1≤m∧m≤2097152∧bl≤65536)→PackP w l E v RS (.returned (.tuple #[.slice none 0 0,.int .i64 7])) w5 from fun hbad=>by
    have hres:RS=.error 7:=by
     rw[HRS.out]
     unfold packP
     rw[HQ.out]
     simp only
     rw[HBL2.out,if_neg (by unfold sizedP;rw[decide_eq_true_eq];omega)]
    rw[hres]
    exact⟨rfl,(Nxt.front HFA.out HN5.out).fr,by decide⟩)
   by_cases s1:m<1
   ·have t1:decide ((m:Int)<1)=true:=decide_eq_true (by omega)
    have HX:=Hd (HERR.out (by omega))
    clear s1
    go_wp2_with fail
    go_ret2
    exact HX.out
   have t1:decide ((m:Int)<1)=false:=decide_eq_false (by omega)
   by_cases s2:2097152<m
   ·have t2:decide ((m:Int)>2097152)=true:=decide_eq_true (by omega)
    have t2':decide ((2097152:Int)<(m:Int))=true:=decide_eq_true (by omega)
    have HX:=Hd (HERR.out (by omega))
    clear s1 s2
    go_wp2_with fail
    go_ret2
    exact HX.out
   have t2:decide ((m:Int)>2097152)=false:=decide_eq_false (by omega)
   have t2':decide ((2097152:Int)<(m:Int))=false:=decide_eq_false (by omega)
   by_cases s3:65536<bl
   ·have t3:decide ((bl:Int)>65536)=true:=decide_eq_true (by omega)
    have t3':decide ((65536:Int)<(bl:Int))=true:=decide_eq_true (by omega)
    have HX:=Hd (HERR.out (by omega))
    clear s1 s2 s3
    go_wp2_with fail
    go_ret2
    exact HX.out
   have t3:decide ((bl:Int)>65536)=false:=decide_eq_false (by omega)
   have t3':decide ((65536:Int)<(bl:Int))=false:=decide_eq_false (by omega)
   have HLD:=Hd (laid_calls 5 m bl lc lp pb ⟨5,m,bl,lc,lp,pb⟩ (.slice q5 bl c5) xk.e.k.bytes w5 (fun W=>by
    obtain⟨m',rfl⟩:∃m',m=m'+1:=⟨m-1,by omega⟩
    obtain⟨b',rfl⟩:∃b',bl=b'+1:=⟨bl-1,by omega⟩
    exact put17_props 5 m' b' lc lp pb (by decide) (by omega) (by omega) hl hp W) HRD.out (by rw[HBL2.out];omega))
   have hres:RS=.ok (headB ⟨5,m,bl,lc,lp,pb⟩++xk.e.k.bytes,xk.cut):=by
    rw[HRS.out]
    unfold packP
    rw[HQ.out]
    simp only
    rw[HBL2.out,if_pos (by unfold sizedP;rw[decide_eq_true_eq];omega)]
    simp only[Pi3.n,Int.toNat_natCast]
    rfl
   have HRES:=Hd hres
   clear hres s1 s2 s3 HERR
   go_wp2_with fail
   refine HLD.out.mono ?_
   rintro e w6 ⟨v6,rfl,hf6,hm6⟩
   obtain⟨q6,c6,rfl⟩:=hm6.slice
   have HFIN:=Hd (show PackP w l E v RS (.returned (.tuple #[.slice q6 (headB ⟨5,m,bl,lc,lp,pb⟩++xk.e.k.bytes).length c6,.int .i64 0])) w6 from by
    rw[HRES.out]
    refine⟨_,l5,E5,v5,rfl,mine_old hm6 (Nat.le_trans HFA.out.size HN5.out.fr.size),HE5.out.keep hf6,(Nxt.front HFA.out HN5.out).keep hf6,fun k hk hx=> ?_⟩
    have h1:=hm6.new k hk
    have h2:=HE5.out.old k hx
    omega)
   obtain⟨bn,hbn⟩:∃bn,(headB ⟨5,m,bl,lc,lp,pb⟩++xk.e.k.bytes).length=bn:=⟨_,rfl⟩
   rw[hbn] at HFIN ⊢
   clear hf6 hm6 p0 p1 p2 p3 p4 hbn
   go_wp2_with fail
   go_ret2
   exact HFIN.out
end Rf
namespace Rf
open Mem Rc Prob St Lz Win En Ga Ck
set_option maxRecDepth 100000 in
theorem pack_k6{wB w:World}{l:RL}{E:Nat}{v:Value}{x:Xe}(h:EC w l E v x.c x.e)(hok:x.Ok)(hk0:x.e.k=K.new)(lc lp pb:Nat)(hl:lc+lp≤4)(hp:pb≤4)(ys:List Sz)(sp rp:Option Addr)(sc rn rc:Nat)(hby:∀z ∈ ys,z.byte<256)
 (hB:Fr (fun _=>False) wB w)(hnew:∀k,ECF l E v k→wB.heap.size≤k)(hz:RdZ wB (.slice sp ys.length sc) ys)(hyl:ys.length≤1048576)(ha:x.c.all.length≤1099511627776):
 Calls Tryz.prog 51 #[ptr l.K,.agg #[.int .i64 6,.int .i64 lc,.int .i64 lp,.int .i64 pb,.slice sp ys.length sc,.slice rp rn rc]] w (PackP w l E v (packP 6 (x.clear.reset (lc,lp,pb)) ys ((lc:Int),(lp:Int),(pb:Int)))):=by
 obtain⟨ny,hny⟩:∃ny,ny=ys.length:=⟨_,rfl⟩
 rw[←hny] at hz ⊢
 have HNY:=Hd hny
 have hfa:=(Fr.refl (fun _=>False) w).alloc (.cells #[.int .i64 6,.int .i64 lc,.int .i64 lp,.int .i64 pb,.slice sp ny sc,.slice rp rn rc] 108)
 have hxa:=heap_alloc_new w (.cells #[.int .i64 6,.int .i64 lc,.int .i64 lp,.int .i64 pb,.slice sp ny sc,.slice rp rn rc] 108)
 have H:=Hd h
 have HB:=Hd hB
 have HNEW:=Hd hnew
 have HZ:=Hd hz
 have HBY:=Hd hby
 have HYL:=Hd hyl
 have hzo:¬ECF l E v w.heap.size:=fun hx=>by have:=h.old _ hx;omega
 obtain⟨w0,hw0⟩:∃w0,w0=w.alloc (.cells #[.int .i64 6,.int .i64 lc,.int .i64 lp,.int .i64 pb,.slice sp ny sc,.slice rp rn rc] 108):=⟨_,rfl⟩
 have HW0:=Hd hw0
 have hzl:w.heap.size<w0.heap.size:=by rw[hw0];simp
 rw[←hw0] at hfa hxa
 have HFA:=Hd hfa
 have HXA:=Hd hxa
 obtain⟨zz,hzz⟩:∃zz,zz=w.heap.size:=⟨_,rfl⟩
 rw[←hzz] at hzo hzl hxa HXA
 have HZZ:=Hd hzz
 have HZO:=Hd (And.intro hzl hzo)
 have H0:=Hd (h.keep hfa)
 obtain⟨RS,hRS⟩:∃RS,RS=packP 6 (x.clear.reset (lc,lp,pb)) ys ((lc:Int),(lp:Int),(pb:Int)):=⟨_,rfl⟩
 rw[←hRS]
 have HRS:=Hd hRS
 -- the part's cells, wherever the encoder has come to
 have HPC:=Hd (show∀l' E' v' W,Nxt w0 l E v W l' E' v'→(W.cell? ⟨zz,0,none⟩=some (.int .i64 6)∧W.cell? ⟨zz,1,none⟩=some (.int .i64 lc)∧W.cell? ⟨zz,2,none⟩=some (.int .i64 lp)∧W.cell? ⟨zz,3,none⟩=some (.int .i64 pb)∧W.cell? ⟨zz,4,none⟩=some (.slice sp ny sc)) from fun l' E' v' W hN=>by
  have hx:=hN.fr.keep HXA.out hzo
  exact⟨cell_in hx rfl,cell_in hx rfl,cell_in hx rfl,cell_in hx rfl,cell_in hx rfl⟩)
 have HFB:=Hd (show∀l' E' v' W,Nxt w0 l E v W l' E' v'→Fr (fun _=>False) wB W from fun l' E' v' W hN=>(hB.trans hfa).trans' hN.fr (fun i h1 h2=>by have:=hnew i h2;omega))
 have HOK:=Hd hok
 have HA:=Hd ha
 clear h hok hB hnew hz hby hyl hzo hzl hny hfa hRS hzz ha
 obtain⟨p0,p1,p2,p3,p4⟩:=cs5 hxa rfl rfl rfl rfl rfl
 rw[hw0] at p0 p1 p2 p3 p4
 rw[HZZ.out] at p0 p1 p2 p3 p4
 clear hxa
 go_enter Tryz.func51,Tryz.ntmps51
 have HCL:=Hd (eclear_calls H0.out)
 go_wp2_with fail
 rw[←hw0] at p0 p1 p2 p3 p4 ⊢
 rw[←HZZ.out] at p0 p1 p2 p3 p4 ⊢
 refine HCL.out.mono ?_
 rintro e wc ⟨rfl,lq,hec,hnc⟩
 have HNC:=Hd hnc
 have HRE:=Hd (ereset_calls hec lc lp pb hl hp)
 rw[hnc.k] at HRE
 unfold propV at HRE
 clear p0 p1 p2 p3 p4
 obtain⟨p0,p1,p2,p3,p4⟩:=HPC.out _ _ _ _ hnc
 clear hec hnc
 go_wp2_with fail
 refine HRE.out.mono ?_
 rintro e w1 ⟨rfl,l1,he1,hn1⟩
 have HE1:=Hd he1
 have HN1:=Hd (HNC.out.trans hn1)
 obtain⟨x1,hx1⟩:∃x1,x1=(x.clear.reset (lc,lp,pb)):=⟨_,rfl⟩
 have HOK1:=Hd (show x1.Ok by rw[hx1];exact HOK.out.clear.reset ⟨hl,hp⟩)
 have HK1:=Hd (show x1.e.k=K.new by rw[hx1];rfl)
 have HA1:=Hd (show x1.c.all.length≤1099511627776 by rw[hx1];exact Nat.zero_le _)
 simp only[hk0] at HE1
 have HE1:=Hd (show EC w1 l1 E v x1.c x1.e by rw[hx1];exact HE1.out)
 rw[←hx1] at HRS
 clear he1 hn1
 clear p0 p1 p2 p3 p4
 have HKK:=Hd (show∀W l' E' v',Nxt w0 l E v W l' E' v'→l'.K=l.K from fun W l' E' v' hN=>hN.k)
 obtain⟨p0,p1,p2,p3,p4⟩:=HPC.out _ _ _ _ HN1.out
 go_wp2_with fail
 go_loopw [6,7] (fun nv i wr=>PkRel w0 l E v ys x1 nv i wr) (fun _ i _=>ny-(intOf i).toNat)
 case atStart=>exact⟨0,0,l1,v,x1,Nat.zero_le _,rfl,rfl,HE1.out,HN1.out,HOK1.out,rfl,by omega,by rw[HK1.out];exact Nat.le_refl _,by omega⟩
 case round=>
  obtain⟨k,m,l',v',xk,hkn,rfl,rfl,hE,hN,hok,hputs,hba,hbs,hbm⟩:=hrel
  have hnb:ny≤1048576:=by have:=HYL.out;have:=HNY.out;omega
  obtain⟨p0,p1,p2,p3,p4⟩:=HPC.out _ _ _ _ hN
  have HN:=Hd hN
  have HE:=Hd hE
  have HOKK:=Hd hok
  have HBD:=Hd (And.intro hba (And.intro hbs hbm))
  have HPU:=Hd hputs
  have hm30:m≤286261248:=by have:=HNY.out;omega
  by_cases hlt:k<ny
  ·obtain⟨z,hz⟩:∃z,ys[k]? =some z:=⟨ys[k]'(HNY.out ▸ hlt),List.getElem?_eq_getElem (HNY.out ▸ hlt)⟩
   have hzb:=HBY.out z (List.mem_of_getElem? hz)
   have hd:ys.drop k=z::ys.drop (k+1):=drop_consQ hz
   rw[hd,putsZ] at hputs
   obtain⟨b,o,rfl,c0,c1,c2,c3⟩:=HZ.out.at hz
   have HCK:=Hd (show∀W l2 E2 v2,Nxt w0 l E v W l2 E2 v2→(W.cell? ⟨b,o+k*4,none⟩=some (.int .i64 z.kind)∧W.cell? ⟨b,o+k*4+1,none⟩=some (.int .u8 z.byte)∧W.cell? ⟨b,o+k*4+2,none⟩=some (.int .i64 z.len)∧W.cell? ⟨b,o+k*4+3,none⟩=some (.int .i64 z.dist)) from fun W l2 E2 v2 hN2=>by
    have hf:=HFB.out _ _ _ _ hN2
    exact⟨cell_keep c0 hf,cell_keep c1 hf,cell_keep c2 hf,cell_keep c3 hf⟩)
   have hPT:=rput_calls hE hok z hzb (by have:=HA1.out;omega) (by omega)
   rw[hN.k] at hPT
   have HPT:=Hd hPT
   have HAZ:=Hd (fun h0=>apZ_put (x:=xk) (z:=z) h0 hzb)
   have HZK:=Hd (fun h0=>(apZ_ok (x:=xk) (z:=z) h0).1)
   have HSZ:=Hd (fun h0 W=>rsizez_calls z ((apZ_ok (x:=xk) (z:=z) h0).1) hzb W)
   have HOP:=Hd (fun h0=>hok.put (may_of (c:=xk.c) (apZ_ok (x:=xk) (z:=z) h0).1 hzb) (by have:=(apZ_ok (x:=xk) (z:=z) h0).2;rw[←this];exact h0))
   have HPT2:=Hd hputs
   have HDR:=Hd hd
   clear c0 c1 c2 c3 hPT hputs hd hE hok hz
   obtain⟨c0,c1,c2,c3⟩:=HCK.out _ _ _ _ hN
   clear hN
   obtain⟨er,her⟩:∃er,er=(xk.apZ z).1:=⟨_,rfl⟩
   unfold PutP at HPT
   rw[←her] at HPT HPT2
   simp only[←her] at HAZ HZK HSZ HOP
   clear her
   have hidx:(k:Int)<ny:=by omega
   have hidx0:(0:Int)≤(k:Int):=by omega
   obtain⟨zk,zb,zl,zd⟩:=z
   simp only[Sz.cells] at HPT HSZ c0 c1 c2 c3 HCK
   go_wp2_with fail
   refine HPT.out.mono ?_
   rintro e w4 hp4
   by_cases he:er=0
   case neg=>
    rw[if_neg he] at hp4
    obtain⟨rfl,hf4⟩:=hp4
    have t0:((er:Int) !=0)=true:=by simp[he]
    have hres:RS=.error er:=by
     rw[if_neg he] at HPT2
     rw[HRS.out]
     unfold packP
     rw[HPT2.out]
    have HFIN:=Hd (show PackP w l E v RS (.returned (.tuple #[.slice none 0 0,.int .i64 er])) w4 from by
     rw[hres]
     refine⟨rfl,?_,he⟩
     exact(HFA.out.mono (T:=ECF l E v) (fun _ _ h=>h.elim)).trans (HN.out.keep hf4).fr)
    clear hres hf4
    go_wp2_with fail
    go_ret2
    exact HFIN.out
   subst he
   rw[if_pos rfl] at hp4
   rw[if_pos rfl] at HPT2
   have HPU2:=HPT2
   obtain⟨st4,av4,v4,rfl,he4,hf4,hg4⟩:=hp4
   obtain⟨a1,a2,a3,a4⟩:=HAZ.out rfl
   have hN4:=HN.out.trans (Nxt.puts hf4 hg4)
   have HN4:=Hd hN4
   have HE4:=Hd he4
   obtain⟨p0,p1,p2,p3,p4⟩:=HPC.out _ _ _ _ hN4
   obtain⟨c0,c1,c2,c3⟩:=HCK.out _ _ _ _ hN4
   clear hf4 hg4 he4 hN4
   have HS1:=Hd (HSZ.out rfl)
   generalize hsy:St.size (Sz.sy ⟨zk,zb,zl,zd⟩)=sy at*
   have t0:(((0:Nat):Int) !=0)=false:=rfl
   go_wp2_with fail
   refine(HS1.out _).mono ?_
   rintro e w5 ⟨rfl,hf5⟩
   have HN5:=Hd (HN4.out.keep hf5)
   have HE5:=Hd (HE4.out.keep hf5)
   clear hf5 p0 p1 p2 p3 p4 c0 c1 c2 c3
   go_wp2_with fail
   go_roundw
   case rel=>exact⟨k+1,m+sy,_,_,_,by have:=HNY.out;omega,by go_num,by go_num,HE5.out,HN5.out,HOP.out (by first|rfl|trivial),HPU2.out,by have:=HBD.out;omega,by have:=HBD.out;omega,by have:=HBD.out;omega⟩
   case measure=>simp[intOf];omega
  ·obtain rfl:k=ny:=by have:=HNY.out;omega
   have hq:putsZ ys x1 0=.ok (xk,m):=by
    rw[hputs,HNY.out,List.drop_length]
    rfl
   have HQ:=Hd hq
   have hCT:=ecut_calls hE (by have:=hnb;omega)
   rw[hN.k] at hCT
   have HCT:=Hd hCT
   have hbl:xk.e.k.bytes.length=xk.e.k.s+5:=digs_len _ _
   clear hq hCT hE hN hok hputs hba hbs hbm HE
   go_wp2_with fail
   refine HCT.out.mono ?_
   rintro e w5 ⟨bv,l5,E5,v5,rfl,hm5,he5,hn5,hoff5⟩
   obtain⟨q5,c5,rfl⟩:=hm5.slice
   obtain⟨bl,hbl2⟩:∃bl,xk.e.k.bytes.length=bl:=⟨_,rfl⟩
   have HBL2:=Hd hbl2
   have hbl5:5≤bl:=by omega
   have hbl6:bl≤286261248:=by have:=HBD.out;omega
   have HRD:=Hd hm5.rd
   have HN5:=Hd (HN.out.trans hn5)
   have HE5:=Hd he5
   rw[hbl2] at HRD ⊢
   obtain⟨p0,p1,p2,p3,p4⟩:=HPC.out _ _ _ _ (HN.out.trans hn5)
   clear hbl hbl2 hm5 he5 hn5 hoff5
   have HERR:=Hd (show¬(1≤m∧m≤2097152∧bl≤65536)→PackP w l E v RS (.returned (.tuple #[.slice none 0 0,.int .i64 7])) w5 from fun hbad=>by
    have hres:RS=.error 7:=by
     rw[HRS.out]
     unfold packP
     rw[HQ.out]
     simp only
     rw[HBL2.out,if_neg (by unfold sizedP;rw[decide_eq_true_eq];omega)]
    rw[hres]
    exact⟨rfl,(Nxt.front HFA.out HN5.out).fr,by decide⟩)
   by_cases s1:m<1
   ·have t1:decide ((m:Int)<1)=true:=decide_eq_true (by omega)
    have HX:=Hd (HERR.out (by omega))
    clear s1
    go_wp2_with fail
    go_ret2
    exact HX.out
   have t1:decide ((m:Int)<1)=false:=decide_eq_false (by omega)
   by_cases s2:2097152<m
   ·have t2:decide ((m:Int)>2097152)=true:=decide_eq_true (by omega)
    have t2':decide ((2097152:Int)<(m:Int))=true:=decide_eq_true (by omega)
    have HX:=Hd (HERR.out (by omega))
    clear s1 s2
    go_wp2_with fail
    go_ret2
    exact HX.out
   have t2:decide ((m:Int)>2097152)=false:=decide_eq_false (by omega)
   have t2':decide ((2097152:Int)<(m:Int))=false:=decide_eq_false (by omega)
   by_cases s3:65536<bl
   ·have t3:decide ((bl:Int)>65536)=true:=decide_eq_true (by omega)
    have t3':decide ((65536:Int)<(bl:Int))=true:=decide_eq_true (by omega)
    have HX:=Hd (HERR.out (by omega))
    clear s1 s2 s3
    go_wp2_with fail
    go_ret2
    exact HX.out
   have t3:decide ((bl:Int)>65536)=false:=decide_eq_false (by omega)
   have t3':decide ((65536:Int)<(bl:Int))=false:=decide_eq_false (by omega)
   have HLD:=Hd (laid_calls 6 m bl lc lp pb ⟨6,m,bl,lc,lp,pb⟩ (.slice q5 bl c5) xk.e.k.bytes w5 (fun W=>by
    obtain⟨m',rfl⟩:∃m',m=m'+1:=⟨m-1,by omega⟩
    obtain⟨b',rfl⟩:∃b',bl=b'+1:=⟨bl-1,by omega⟩
    exact put17_props 6 m' b' lc lp pb (by decide) (by omega) (by omega) hl hp W) HRD.out (by rw[HBL2.out];omega))
   have hres:RS=.ok (headB ⟨6,m,bl,lc,lp,pb⟩++xk.e.k.bytes,xk.cut):=by
    rw[HRS.out]
    unfold packP
    rw[HQ.out]
    simp only
    rw[HBL2.out,if_pos (by unfold sizedP;rw[decide_eq_true_eq];omega)]
    simp only[Pi3.n,Int.toNat_natCast]
    rfl
   have HRES:=Hd hres
   clear hres s1 s2 s3 HERR
   go_wp2_with fail
   refine HLD.out.mono ?_
   rintro e w6 ⟨v6,rfl,hf6,hm6⟩
   obtain⟨q6,c6,rfl⟩:=hm6.slice
   have HFIN:=Hd (show PackP w l E v RS (.returned (.tuple #[.slice q6 (headB ⟨6,m,bl,lc,lp,pb⟩++xk.e.k.bytes).length c6,.int .i64 0])) w6 from by
    rw[HRES.out]
    refine⟨_,l5,E5,v5,rfl,mine_old hm6 (Nat.le_trans HFA.out.size HN5.out.fr.size),HE5.out.keep hf6,(Nxt.front HFA.out HN5.out).keep hf6,fun k hk hx=> ?_⟩
    have h1:=hm6.new k hk
    have h2:=HE5.out.old k hx
    omega)
   obtain⟨bn,hbn⟩:∃bn,(headB ⟨6,m,bl,lc,lp,pb⟩++xk.e.k.bytes).length=bn:=⟨_,rfl⟩
   rw[hbn] at HFIN ⊢
   clear hf6 hm6 p0 p1 p2 p3 p4 hbn
   go_wp2_with fail
   go_ret2
   exact HFIN.out
end Rf
end Go.Proofs.YtlgccpjccopdmaaGreatDoor
