/- Part 44 of 54: lemmas of the last part, each under the conditions that it names. -/
import Derived.Deep.RegionHeld3
import Derived.Carry
import Derived.Deep.CutBlock
import Derived.Deep.DeepCutAuto
import Derived.Test.YtlgccpjccopdmaaGreatDoorP09
import Derived.Test.YtlgccpjccopdmaaGreatDoorP15
import Derived.Test.YtlgccpjccopdmaaGreatDoorP28
import Derived.Test.YtlgccpjccopdmaaGreatDoorP41
import Derived.Test.YtlgccpjccopdmaaGreatDoorP42
import Derived.Test.YtlgccpjccopdmaaGreatDoorP43
set_option linter.unusedVariables false
set_option linter.unusedSimpArgs false
set_option maxRecDepth 1500
set_option maxHeartbeats 4000000
namespace Go.Proofs.YtlgccpjccopdmaaGreatDoor
open Go.RowKit
namespace Rf
open Mem Rc Prob St Lz Win
set_option maxRecDepth 100000 in
theorem rapplyz_in(V size:Nat)(av:Value)(all:List UInt8)(s:S)(hs:s.Ok)(y:Sy)(hy:y.Ok)(w:World)(h:WAt w V av size all)(hmuch:all.length+273≤70368744177664)(ln0 dn0:Int)
 (HNX:∀W,Hid (Calls Tryz.prog 122 #[.agg s.cells,.agg #[.int .i64 y.kind,.int .u8 y.byte,.int .i64 ln0,.int .i64 dn0]] W fun e w'=>e=.returned (.tuple #[.agg (s.next y).2.cells,.int .i64 (s.next y).1])∧Fr (fun _=>False) W w'))
 (HSZC:∀W,Hid (Calls Tryz.prog 96 #[.agg #[.int .i64 y.kind,.int .u8 y.byte,.int .i64 ln0,.int .i64 dn0]] W fun e w'=>e=.returned (.int .i64 (St.size y))∧Fr (fun _=>False) W w'))
 (HDC:∀W,Hid (Calls Tryz.prog 140 #[.agg s.cells,.agg #[.int .i64 y.kind,.int .u8 y.byte,.int .i64 ln0,.int .i64 dn0]] W fun e w'=>e=.returned (.int .i64 (distOf s y))∧Fr (fun _=>False) W w')):
 Calls Tryz.prog 82 #[ptr V,.agg s.cells,.agg #[.int .i64 y.kind,.int .u8 y.byte,.int .i64 ln0,.int .i64 dn0]] w (AppPost V size av all s y w):=by
 have hfe:=fe_next s y hy
 have hsz:=rsize_eq y hy
 obtain⟨ap,hap⟩:∃ap,ap=St.apply size all s y:=⟨_,rfl⟩
 obtain⟨post,hpost⟩:∃post,post=AppPost V size av all s y w:=⟨_,rfl⟩
 have HP0:Hid (∀v w',ap.1=0→AppOk V size av all ap.2.1 v w w'→post (.returned (.tuple #[v,.agg ap.2.2.cells,.int .i64 0])) w'):=Hd (fun v w' h0 h1=>by
  rw[hpost]
  unfold AppPost
  rw[←hap,if_pos h0]
  exact⟨v,rfl,h1⟩)
 have HP1:Hid (∀w',ap.1≠0→Fr (fun _=>False) w w'→post (.returned (.tuple #[.slice none 0 0,.agg S.zero.cells,.int .i64 ap.1])) w'):=Hd (fun w' h0 h1=>by
  rw[hpost]
  unfold AppPost
  rw[←hap,if_neg h0]
  exact⟨rfl,h1⟩)
 rw[←hpost]
 clear hpost
 unfold St.apply at hap
 obtain⟨hV,hav⟩:=h.lt
 have hyk:=hy.kind
 have hyb:=hy.byte
 have hle:lenOfSy y≤273∨y.kind=1∨fe y≠0:=by
  unfold lenOfSy fe
  rcases hyk with hk|hk|hk|hk
  ·exact .inr (.inl hk)
  ·by_cases hl:isL y.len
   ·exact .inl (by rw[if_neg (by omega)];exact hl.2)
   ·exact .inr (.inr (by rw[if_neg (by omega),if_pos hk,if_neg (fun h=>hl h.1)];decide))
  ·by_cases hl:isL y.len
   ·exact .inl (by rw[if_neg (by omega)];exact hl.2)
   ·exact .inr (.inr (by rw[if_neg (by omega),if_neg (by omega),if_neg hl];decide))
  ·exact .inl (by rw[if_pos hk];decide)
 have hsz2:fe y=0→y.kind≠1→St.size y=lenOfSy y:=by
  intro h0 h1
  rw[hsz,if_pos h0]
  unfold lenOfSy
  rcases hyk with hk|hk|hk|hk
  ·exact absurd hk h1
  ·rw[if_pos (.inl hk),if_neg (by omega)]
  ·rw[if_pos (.inr hk),if_neg (by omega)]
  ·rw[if_neg (by omega),if_pos hk]
 have hre:=S.next_err s y
 rw[hfe] at hre
 obtain⟨nx,hnx⟩:∃nx,nx=s.next y:=⟨_,rfl⟩
 rw[←hnx] at hap hfe
 have hnx2:∀W,Hid (Calls Tryz.prog 122 #[.agg s.cells,.agg #[.int .i64 y.kind,.int .u8 y.byte,.int .i64 ln0,.int .i64 dn0]] W fun e w'=>e=.returned (.tuple #[.agg nx.2.cells,.int .i64 nx.1])∧Fr (fun _=>False) W w'):=by rw[hnx];exact HNX
 clear HNX hnx hsz
 generalize hdd:distOf s y=dd at*
 generalize lenOfSy y=ln at*
 generalize St.size y=sz at*
 generalize fe y=er at*
 obtain⟨ne,nn,na,nb,nc,nd⟩:=nx
 simp only at hap hfe hnx2
 subst hfe
 obtain⟨n,a,b,c,d⟩:=s
 obtain⟨kind,byte,len,dist⟩:=y
 unfold S.cells at*
 simp only at hap hnx2 HSZC HDC hyk hyb hle hsz2 ⊢
 have HW:=Hd h
 have HAP:=Hd hap
 have HAV:=Hd hav
 clear h hap hav hs hy hdd
 obtain⟨hf3,hsz3,b0,b1,b2⟩:=Rc.three w (.cells #[.int .i64 n,.int .i64 a,.int .i64 b,.int .i64 c,.int .i64 d] 89) (.cells #[.int .i64 kind,.int .u8 byte,.int .i64 ln0,.int .i64 dn0] 96) (.cells #[.int .i64 0,.int .i64 0,.int .i64 0,.int .i64 0,.int .i64 0] 89)
 have HF3:=Hd hf3
 obtain⟨q0,q1,q2,q3,q4⟩:=cs5 b0 rfl rfl rfl rfl rfl
 obtain⟨y0,y1,y2,y3⟩:=cs4 b1 rfl rfl rfl rfl
 have HB:=Hd (And.intro b0 (And.intro b1 b2))
 clear hf3 b0 b1 b2
 go_enter Tryz.func82,Tryz.ntmps82
 go_wp2_with fail
 generalize hz:w.heap.size=z at*
 have HZ:=Hd hz
 have HSZ:=Hd hsz3
 clear hz hsz3
 generalize World.alloc (World.alloc (World.alloc w _) _) _=W at*
 refine(hnx2 _).out.mono ?_
 rintro e w1 ⟨rfl,hf1⟩
 have hx9:=heap_alloc_new w1 (.cells #[.int .i64 nn,.int .i64 na,.int .i64 nb,.int .i64 nc,.int .i64 nd] 89)
 have hf9:=hf1.trans ((Fr.refl (fun _=>False) w1).alloc (.cells #[.int .i64 nn,.int .i64 na,.int .i64 nb,.int .i64 nc,.int .i64 nd] 89))
 have hz9:z+1+1<w1.heap.size:=by have:=HSZ.out;have:=hf1.size;omega
 have hV9:V<w1.heap.size:=by omega
 clear q0 q1 q2 q3 q4 y0 y1 y2 y3
 have HB9:=Hd (And.intro (hf9.keep HB.out.1 (fun h=>h)) (And.intro (hf9.keep HB.out.2.1 (fun h=>h)) (hf9.keep HB.out.2.2 (fun h=>h))))
 have HF9:=Hd (HF3.out.trans hf9)
 have HX9:=Hd hx9
 have HZ9:=Hd (show z+1+1<(w1.alloc (.cells #[.int .i64 nn,.int .i64 na,.int .i64 nb,.int .i64 nc,.int .i64 nd] 89)).heap.size from by simp;omega)
 have hs9:(w1.alloc (.cells #[.int .i64 nn,.int .i64 na,.int .i64 nb,.int .i64 nc,.int .i64 nd] 89)).heap.size=w1.heap.size+1:=by simp
 have HS9:=Hd hs9
 clear hs9
 have HW9:=Hd (HW.out.keep (HF3.out.trans hf9))
 clear hf9 hx9 hf1
 go_upto_region 2 with fail
 generalize hz9s:w1.heap.size=z9 at*
 generalize w1.alloc (.cells #[.int .i64 nn,.int .i64 na,.int .i64 nb,.int .i64 nc,.int .i64 nd] 89)=w9 at*
 clear hz9s
 by_cases hne:ne=0
 ·have t0:((ne:Int) !=0)=false:=by simp[hne]
  obtain⟨y0,y1⟩:=cs2 HB9.out.2.1 rfl rfl
  subst hne
  by_cases hk1:kind=1
  ·subst hk1
   have hap:ap=(0,[UInt8.ofNat byte],⟨nn,na,nb,nc,nd⟩):=by rw[HAP.out,if_pos rfl,if_pos rfl]
   have HAP2:=Hd hap
   have hbb:(byte:Int)=((UInt8.ofNat byte).toNat:Int):=by
    rw[UInt8.toNat_ofNat']
    omega
   have HPC:=Hd (put_calls V size av (.slice (some ⟨w9.heap.size,0,none⟩) 1 1) all [UInt8.ofNat byte] (w9.alloc (.cells #[.int .u8 (byte:Int)] 5)) (HW9.out.keep ((Fr.refl (fun _=>False) _).alloc _)) (rd_one w9 (w9.heap.size) rfl (UInt8.ofNat byte) (byte:Int) hbb) (by simp only [List.length_singleton];omega))
   have HBB:=Hd hbb
   clear hap hbb
   go_wp2_with fail
   refine HPC.out.mono ?_
   rintro e w11 ⟨rfl,hput⟩
   have hok:=AppOk.of_put HBB.out (fun k hk=>by have:=HAV.out k hk;have:=HS9.out;omega) (by have:=HS9.out;omega) hput
   have hst:∀{k:Nat}{o:Obj},w9.heap[k]? =some o→z≤k→w11.heap[k]? =some o:=fun hk hz=>hok.fr.keep hk (fun e=>by
    rcases e with e|e
    ·omega
    ·have:=HAV.out _ e
     omega)
   have hr:=hst HB9.out.2.2 (by omega)
   have ht:=hst HX9.out (by omega)
   obtain⟨r0,r1,r2,r3,r4⟩:=cs5 hr rfl rfl rfl rfl rfl
   obtain⟨u0,u1,u2,u3,u4⟩:=cs5 ht rfl rfl rfl rfl rfl
   have rf:=fun i=>frozen_in hr i
   have HOK:=Hd hok
   clear y0 y1 hr ht hst hok hput HPC
   go_wp2_with fail
   go_region
   all_goals go_wp2_with fail
   all_goals
    refine bodyPost_ret (v:=.tuple #[.slice (some ⟨w9.heap.size,0,none⟩) 1 1,.agg #[.int .i64 nn,.int .i64 na,.int .i64 nb,.int .i64 nc,.int .i64 nd],.int .i64 0]) (by simp[results,Tryz.results82,go_sem,r0,r1,r2,r3,r4]) rfl ?_
    have hpp:=HP0.out
    rw[HAP2.out] at hpp
    exact hpp _ _ rfl (HOK.out.fin HF9.out (by have:=HZ.out;omega) HZ9.out (by have:=HZ.out;omega) (fun k hk=>by have:=HAV.out k hk;have:=HZ.out;omega) ((five_fr _ (z+1+1) _ _ _ _ _)).drew)
  ·have hfe0:(0:Nat)=0:=rfl
   have hss:=hsz2 rfl hk1
   have hln:ln≤273:=by rcases hle with h|h|h;exact h;exact absurd h hk1;exact absurd rfl h
   subst hss
   have HSF:=Hd (show∀w':World,Fr (fun _=>False) w9 w'→w'.cell? ⟨z,0,none⟩=some (.int .i64 n)∧w'.cell? ⟨z,1,none⟩=some (.int .i64 a)∧w'.cell? ⟨z,2,none⟩=some (.int .i64 b)∧w'.cell? ⟨z,3,none⟩=some (.int .i64 c)∧w'.cell? ⟨z,4,none⟩=some (.int .i64 d)∧w'.cell? ⟨z+1,0,none⟩=some (.int .i64 kind)∧w'.cell? ⟨z+1,1,none⟩=some (.int .u8 byte)∧w'.cell? ⟨z+1,2,none⟩=some (.int .i64 ln0)∧w'.cell? ⟨z+1,3,none⟩=some (.int .i64 dn0) from fun w' h=>⟨cell_in (i:=0) (h.keep HB9.out.1 (fun h=>h)) rfl,cell_in (i:=1) (h.keep HB9.out.1 (fun h=>h)) rfl,cell_in (i:=2) (h.keep HB9.out.1 (fun h=>h)) rfl,cell_in (i:=3) (h.keep HB9.out.1 (fun h=>h)) rfl,cell_in (i:=4) (h.keep HB9.out.1 (fun h=>h)) rfl,cell_in (i:=0) (h.keep HB9.out.2.1 (fun h=>h)) rfl,cell_in (i:=1) (h.keep HB9.out.2.1 (fun h=>h)) rfl,cell_in (i:=2) (h.keep HB9.out.2.1 (fun h=>h)) rfl,cell_in (i:=3) (h.keep HB9.out.2.1 (fun h=>h)) rfl⟩)
   have HR:=Hd (Fr.refl (fun _=>False) w9).drew
   have HSC:=Hd (HSF.out _ HR.out)
   have tk:((kind:Int)==1)=false:=by simp;omega
   by_cases hin:1≤dd∧dd≤min size all.length
   ·have hap:ap=(0,copied all dd sz,⟨nn,na,nb,nc,nd⟩):=by rw[HAP.out,if_pos rfl,if_neg hk1,if_pos hin]
    have HAP2:=Hd hap
    have HCP:=Hd (show∀w':World,Fr (fun _=>False) w9 w'→Calls Tryz.prog 139 #[ptr V,.int .i64 dd,.int .i64 sz] w' _ from fun w' h=>copy_calls V size dd sz av all w' (HW9.out.keep h) hin hln (by omega))
    clear hap hin hk1
    go_wp2_with fail
    go_region_held3 (fun w'=>w'.cell? ⟨z,0,none⟩=some (.int .i64 n)∧w'.cell? ⟨z,1,none⟩=some (.int .i64 a)∧w'.cell? ⟨z,2,none⟩=some (.int .i64 b)∧w'.cell? ⟨z,3,none⟩=some (.int .i64 c)∧w'.cell? ⟨z,4,none⟩=some (.int .i64 d)∧w'.cell? ⟨z+1,0,none⟩=some (.int .i64 kind)∧w'.cell? ⟨z+1,1,none⟩=some (.int .u8 byte)∧w'.cell? ⟨z+1,2,none⟩=some (.int .i64 ln0)∧w'.cell? ⟨z+1,3,none⟩=some (.int .i64 dn0)) (first|with_reducible exact HSC.out) ((first
    | (go_at_call 140
       with_reducible refine(HDC _).out.mono ?_
       rintro e wc ⟨rfl,hfrc⟩
       have HR:=Hd (HR.out.trans hfrc)
       have HSC:=Hd (HSF.out _ HR.out)
       clear hfrc)
    | (go_at_call 96
       with_reducible refine(HSZC _).out.mono ?_
       rintro e wc ⟨rfl,hfrc⟩
       have HR:=Hd (HR.out.trans hfrc)
       have HSC:=Hd (HSF.out _ HR.out)
       clear hfrc)
    | (go_at_call 139
       with_reducible refine(HCP.out _ HR.out).mono ?_
       rintro e w11 ⟨v,rfl,hcp⟩
       have hok:=AppOk.of_copy hcp
       have hst:∀{k:Nat}{o:Obj},w9.heap[k]? =some o→z≤k→w11.heap[k]? =some o:=fun hk hz=>hok.fr.keep (HR.out.keep hk (fun h=>h)) (fun e=>by
        rcases e with e|e
        ·omega
        ·have:=HAV.out _ e
         omega)
       have HB11:=Hd (And.intro (hst HB9.out.1 (Nat.le_refl _)) (And.intro (hst HB9.out.2.1 (by omega)) (And.intro (hst HB9.out.2.2 (by omega)) (hst HX9.out (by omega)))))
       have HOK:=Hd (hok.fin0 (HF9.out.trans HR.out))
       have HZC:=Hd (Nat.lt_of_lt_of_le HZ9.out HR.out.size)
       have HSC:=Hd (show w11.cell? ⟨z,0,none⟩=some (.int .i64 n)∧w11.cell? ⟨z,1,none⟩=some (.int .i64 a)∧w11.cell? ⟨z,2,none⟩=some (.int .i64 b)∧w11.cell? ⟨z,3,none⟩=some (.int .i64 c)∧w11.cell? ⟨z,4,none⟩=some (.int .i64 d)∧w11.cell? ⟨z+1,0,none⟩=some (.int .i64 kind)∧w11.cell? ⟨z+1,1,none⟩=some (.int .u8 byte)∧w11.cell? ⟨z+1,2,none⟩=some (.int .i64 ln0)∧w11.cell? ⟨z+1,3,none⟩=some (.int .i64 dn0) from⟨cell_in (i:=0) HB11.out.1 rfl,cell_in (i:=1) HB11.out.1 rfl,cell_in (i:=2) HB11.out.1 rfl,cell_in (i:=3) HB11.out.1 rfl,cell_in (i:=4) HB11.out.1 rfl,cell_in (i:=0) HB11.out.2.1 rfl,cell_in (i:=1) HB11.out.2.1 rfl,cell_in (i:=2) HB11.out.2.1 rfl,cell_in (i:=3) HB11.out.2.1 rfl⟩)
       clear hok hst hcp)))
    all_goals
     obtain⟨r0,r1,r2,r3,r4⟩:=cs5 HB11.out.2.2.1 rfl rfl rfl rfl rfl
     obtain⟨u0,u1,u2,u3,u4⟩:=cs5 HB11.out.2.2.2 rfl rfl rfl rfl rfl
     have rf:=fun i=>frozen_in HB11.out.2.2.1 i
     clear y0 y1
    all_goals go_wp2_with fail
    all_goals go_region
    all_goals go_wp2_with fail
    all_goals
     refine bodyPost_ret (v:=.tuple #[v,.agg #[.int .i64 nn,.int .i64 na,.int .i64 nb,.int .i64 nc,.int .i64 nd],.int .i64 0]) (by simp[results,Tryz.results82,go_sem,r0,r1,r2,r3,r4]) rfl ?_
     have hpp:=HP0.out
     rw[HAP2.out] at hpp
     exact hpp _ _ rfl (HOK.out.1.fin HOK.out.2 (by have:=HZ.out;omega) HZC.out (by have:=HZ.out;omega) (fun k hk=>by have:=HAV.out k hk;have:=HZ.out;omega) ((five_fr _ (z+1+1) _ _ _ _ _)).drew)
   ·have hap:ap=(7,[],.zero):=by rw[HAP.out,if_pos rfl,if_neg hk1,if_neg hin]
    have HAP2:=Hd hap
    have HCP:=Hd (show∀w':World,Fr (fun _=>False) w9 w'→Calls Tryz.prog 139 #[ptr V,.int .i64 dd,.int .i64 sz] w' _ from fun w' h=>copy_bad V size dd sz av all w' (HW9.out.keep h) (.inl hin))
    clear hap hin hk1
    go_wp2_with fail
    go_region_held3 (fun w'=>w'.cell? ⟨z,0,none⟩=some (.int .i64 n)∧w'.cell? ⟨z,1,none⟩=some (.int .i64 a)∧w'.cell? ⟨z,2,none⟩=some (.int .i64 b)∧w'.cell? ⟨z,3,none⟩=some (.int .i64 c)∧w'.cell? ⟨z,4,none⟩=some (.int .i64 d)∧w'.cell? ⟨z+1,0,none⟩=some (.int .i64 kind)∧w'.cell? ⟨z+1,1,none⟩=some (.int .u8 byte)∧w'.cell? ⟨z+1,2,none⟩=some (.int .i64 ln0)∧w'.cell? ⟨z+1,3,none⟩=some (.int .i64 dn0)) (first|with_reducible exact HSC.out) ((first
    | (go_at_call 140
       with_reducible refine(HDC _).out.mono ?_
       rintro e wc ⟨rfl,hfrc⟩
       have HR:=Hd (HR.out.trans hfrc)
       have HSC:=Hd (HSF.out _ HR.out)
       clear hfrc)
    | (go_at_call 96
       with_reducible refine(HSZC _).out.mono ?_
       rintro e wc ⟨rfl,hfrc⟩
       have HR:=Hd (HR.out.trans hfrc)
       have HSC:=Hd (HSF.out _ HR.out)
       clear hfrc)
    | (go_at_call 139
       with_reducible refine(HCP.out _ HR.out).mono ?_
       rintro e w11 ⟨rfl,hfrc⟩
       have HR:=Hd (HR.out.trans hfrc)
       have HSC:=Hd (HSF.out _ HR.out)
       clear hfrc)))
    all_goals
     have hr:=HR.out.keep HB9.out.2.2 (fun h=>h)
     obtain⟨r0,r1,r2,r3,r4,rf⟩:=cf5 hr rfl rfl rfl rfl rfl
     clear y0 y1 hr
    all_goals go_wp2_with fail
    all_goals
     refine bodyPost_ret (v:=.tuple #[.slice none 0 0,.agg #[.int .i64 0,.int .i64 0,.int .i64 0,.int .i64 0,.int .i64 0],.int .i64 7]) (by simp[results,Tryz.results82,go_sem,r0,r1,r2,r3,r4]) rfl ?_
     have hpp:=HP1.out
     rw[HAP2.out] at hpp
     exact hpp _ (by decide) ((HF9.out.trans HR.out).trans' (T:=fun k=>k=z+1+1) (five_fr _ (z+1+1) _ _ _ _ _) (fun k hk e=>by have:=HZ.out;omega))
 ·have t0:((ne:Int) !=0)=true:=by simp[hne]
  have hap:ap=(ne,[],.zero):=by rw[HAP.out,if_neg hne]
  have HAP2:=Hd hap
  have HNE:=Hd hne
  obtain⟨r0,r1,r2,r3,r4,rf⟩:=cf5 HB9.out.2.2 rfl rfl rfl rfl rfl
  clear hap hne
  go_wp2_with fail
  refine bodyPost_ret (v:=.tuple #[.slice none 0 0,.agg #[.int .i64 0,.int .i64 0,.int .i64 0,.int .i64 0,.int .i64 0],.int .i64 ne]) (by simp[results,Tryz.results82,go_sem,r0,r1,r2,r3,r4]) rfl ?_
  have hpp:=HP1.out
  rw[HAP2.out] at hpp
  refine hpp _ HNE.out (HF9.out.trans' (T:=fun k=>k=z+1+1) (five_fr _ (z+1+1) _ _ _ _ _) (fun k hk e=>by have:=HZ.out;omega))
theorem rdistz_calls(s:S)(k:Int)(hk:k=1∨k=4)(byte:Nat)(len dist:Int)(w:World):Calls Tryz.prog 140 #[.agg s.cells,.agg #[.int .i64 k,.int .u8 byte,.int .i64 len,.int .i64 dist]] w fun e w'=>e=.returned (.int .i64 s.r0)∧Fr (fun _=>False) w w':=by
 obtain⟨n,a,b,c,d⟩:=s
 unfold S.cells
 simp only
 have f1:=(Fr.refl (fun _=>False) w).alloc (.cells #[.int .i64 n,.int .i64 a,.int .i64 b,.int .i64 c,.int .i64 d] 89)
 have f2:=(Fr.refl (fun _=>False) (w.alloc (.cells #[.int .i64 n,.int .i64 a,.int .i64 b,.int .i64 c,.int .i64 d] 89))).alloc (.cells #[.int .i64 k,.int .u8 byte,.int .i64 len,.int .i64 dist] 96)
 have hx0:=f2.keep (heap_alloc_new w (.cells #[.int .i64 n,.int .i64 a,.int .i64 b,.int .i64 c,.int .i64 d] 89)) (fun h=>h)
 have hx1:=heap_alloc_new (w.alloc (.cells #[.int .i64 n,.int .i64 a,.int .i64 b,.int .i64 c,.int .i64 d] 89)) (.cells #[.int .i64 k,.int .u8 byte,.int .i64 len,.int .i64 dist] 96)
 simp only[World.size_alloc] at hx1
 have HF:=Hd (f1.trans f2)
 obtain⟨q0,q1,q2,q3,q4⟩:=cs5 hx0 rfl rfl rfl rfl rfl
 have y0:=cell_in (i:=0) hx1 rfl
 have y3:=cell_in (i:=3) hx1 rfl
 clear hx0 hx1 f1 f2
 rcases hk with rfl|rfl
 all_goals
  go_enter Tryz.func140,Tryz.ntmps140
  go_wp2_with fail
  go_ret
  exact⟨rfl,HF.out⟩
def AppPostZ(V size:Nat)(av:Value)(all:List UInt8)(s:S)(z:Sz)(w:World)(e:Ending)(w':World):Prop:=
 if(applyZ size all s z).1=0 then∃v,e=.returned (.tuple #[v,.agg (applyZ size all s z).2.2.cells,.int .i64 0])∧AppOk V size av all (applyZ size all s z).2.1 v w w'
 else e=.returned (.tuple #[.slice none 0 0,.agg S.zero.cells,.int .i64 (applyZ size all s z).1])∧Fr (fun _=>False) w w'
theorem rapplyz_bad(V:Nat)(s:S)(hs:s.Ok)(z:Sz)(hb:z.byte<256)(h0:z.bad≠0)(w:World):
 Calls Tryz.prog 82 #[ptr V,.agg s.cells,.agg z.cells] w fun e w'=>e=.returned (.tuple #[.slice none 0 0,.agg S.zero.cells,.int .i64 z.bad])∧Fr (fun _=>False) w w':=by
 have HNX:=fun W=>Hd (rnextz_calls s hs z hb W)
 rw[if_neg h0] at HNX
 have t0:((z.bad:Int) !=0)=true:=by simp[h0]
 clear h0 hs
 generalize z.bad=E at*
 obtain⟨n,a,b,c,d⟩:=s
 obtain⟨kind,byte,len,dist⟩:=z
 unfold S.cells Sz.cells S.zero at*
 simp only at HNX ⊢
 obtain⟨hf3,hsz3,b0,b1,b2⟩:=Rc.three w (.cells #[.int .i64 n,.int .i64 a,.int .i64 b,.int .i64 c,.int .i64 d] 89) (.cells #[.int .i64 kind,.int .u8 byte,.int .i64 len,.int .i64 dist] 96) (.cells #[.int .i64 0,.int .i64 0,.int .i64 0,.int .i64 0,.int .i64 0] 89)
 have HF3:=Hd hf3
 obtain⟨q0,q1,q2,q3,q4⟩:=cs5 b0 rfl rfl rfl rfl rfl
 obtain⟨y0,y1,y2,y3⟩:=cs4 b1 rfl rfl rfl rfl
 have HB:=Hd b2
 clear hf3 b0 b1 b2
 go_enter Tryz.func82,Tryz.ntmps82
 go_wp2_with fail
 generalize hz:w.heap.size=z at*
 have HZ:=Hd hz
 have HSZ:=Hd hsz3
 clear hz hsz3
 generalize World.alloc (World.alloc (World.alloc w _) _) _=W at*
 refine(HNX _).out.mono ?_
 rintro e w1 ⟨rfl,hf1⟩
 have hx9:=(Fr.refl (fun _=>False) w1).alloc (.cells #[.int .i64 0,.int .i64 0,.int .i64 0,.int .i64 0,.int .i64 0] 89)
 have hr:=(hf1.trans hx9).keep HB.out (fun h=>h)
 have HF9:=Hd (HF3.out.trans (hf1.trans hx9))
 clear q0 q1 q2 q3 q4 y0 y1 y2 y3 hf1 hx9
 obtain⟨r0,r1,r2,r3,r4,rf⟩:=cf5 hr rfl rfl rfl rfl rfl
 clear hr
 go_upto_region 2 with fail
 generalize w1.alloc (.cells #[.int .i64 0,.int .i64 0,.int .i64 0,.int .i64 0,.int .i64 0] 89)=w9 at*
 go_wp2_with fail
 refine bodyPost_ret (v:=.tuple #[.slice none 0 0,.agg #[.int .i64 0,.int .i64 0,.int .i64 0,.int .i64 0,.int .i64 0],.int .i64 E]) (by simp[results,Tryz.results82,go_sem,r0,r1,r2,r3,r4]) rfl ?_
 exact⟨rfl,HF9.out.trans' (T:=fun k=>k=z+1+1) (five_fr _ (z+1+1) _ _ _ _ _) (fun k hk e=>by have:=HZ.out;omega)⟩
theorem rapplyz_calls(V size:Nat)(av:Value)(all:List UInt8)(s:S)(hs:s.Ok)(z:Sz)(hb:z.byte<256)(w:World)(h:WAt w V av size all)(hmuch:all.length+273≤70368744177664):
 Calls Tryz.prog 82 #[ptr V,.agg s.cells,.agg z.cells] w (AppPostZ V size av all s z w):=by
 unfold AppPostZ applyZ
 by_cases h0:z.bad=0
 ·rw[if_pos h0]
  obtain⟨hy,hn⟩:=Sz.ok h0 hb
  have hsm:=Sz.same h0
  have hbd:=h0
  obtain⟨k,b,n,d⟩:=z
  simp only at hsm hb
  by_cases hk:k=2∨k=3
  ·obtain⟨e1,e2,e3⟩:=hsm hk
   have ha:=rapply_calls V size av all s hs _ hy w h hmuch
   unfold Sy.cells at ha
   rw[e1,e2,e3] at ha
   exact ha
  ·have hk2:k=1∨k=4:=by
    unfold Sz.bad at h0
    simp only at h0
    split at h0
    ·assumption
    ·rw[if_neg (by omega),if_neg (by omega)] at h0
     simp at h0
   have hnx:∀W,Calls Tryz.prog 122 #[.agg s.cells,.agg #[.int .i64 k,.int .u8 b,.int .i64 n,.int .i64 d]] W (fun e w'=>e=.returned (.tuple #[.agg (s.next (Sz.sy ⟨k,b,n,d⟩)).2.cells,.int .i64 (s.next (Sz.sy ⟨k,b,n,d⟩)).1])∧Fr (fun _=>False) W w'):=fun W=>by
    have:=rnextz_calls s hs ⟨k,b,n,d⟩ hb W
    rw[hbd,if_pos rfl] at this
    rw[hn s]
    exact this
   have hsz:=fun W=>rsizez_calls ⟨k,b,n,d⟩ hbd hb W
   rcases hk2 with rfl|rfl
   ·exact rapplyz_in V size av all s hs _ hy w h hmuch n d (fun W=>Hd (hnx W)) (fun W=>Hd (hsz W)) (fun W=>Hd (rdistz_calls s 1 (.inl rfl) b n d W))
   ·exact rapplyz_in V size av all s hs _ hy w h hmuch n d (fun W=>Hd (hnx W)) (fun W=>Hd (hsz W)) (fun W=>Hd (rdistz_calls s 4 (.inr rfl) b n d W))
 ·rw[if_neg h0]
  refine(rapplyz_bad V s hs z hb h0 w).mono fun e w' hp=> ?_
  simp only
  rw[if_neg h0]
  exact hp
end Rf
namespace Rf
open Mem Rc Prob St Lz Win
theorem new12_calls(w:World):Calls Tryz.prog 71 #[] w fun e w'=>e=.returned (.agg #[.int .i64 0,.int .i64 1,.int .i64 1,.int .i64 1,.int .i64 1])∧Fr (fun _=>False) w w':=by
 have hbx:=heap_alloc_new w (.cells #[.int .i64 0,.int .i64 1,.int .i64 1,.int .i64 1,.int .i64 1] 89)
 obtain⟨c0,c1,c2,c3,c4⟩:=cs5 hbx rfl rfl rfl rfl rfl
 clear hbx
 go_enter Tryz.func71,Tryz.ntmps71
 go_wp2_with fail
 refine bodyPost_ret (v:=.agg #[.int .i64 0,.int .i64 1,.int .i64 1,.int .i64 1,.int .i64 1]) (by simp[results,Tryz.results71,go_sem,c0,c1,c2,c3,c4]) rfl ?_
 exact⟨rfl,(Fr.refl _ _).alloc _⟩
set_option maxRecDepth 100000 in
theorem make_five(W:World):(Instr.makeSlice 22 (.int .i64 5) (.int .i64 5)).run Tryz.prog W=.ok (.slice (some ⟨W.heap.size,0,none⟩) 5 5) (W.alloc (.cells (madeCells [Value.int .u8 0].toArray 5) 5)):=by
 obtain⟨i,hi,hz,hs,hb⟩:=info_parts infoU8
 have:=run_make (P:=Tryz.prog) W 22 5 i (.int .u8 0) Tryz.underlying22 hi hz .i64 .i64 5 5 (by omega) (by omega) (by rw[hb];omega) (by omega)
 rw[this,hs]
 rfl
set_option maxRecDepth 100000 in
theorem new10_calls(size:Nat)(h1:1≤size)(h2:size≤4294967295)(w:World):Calls Tryz.prog 70 #[.int .i64 size] w fun e w'=>e=.returned (.tuple #[ptr w.heap.size,.int .i64 0])∧Fr (fun _=>False) w w'∧w'.heap[w.heap.size]? =some (.cells #[.int .i64 size,.slice none 0 0] 213 (0,0)):=by
 have t1:decide ((size:Int)<1)=false:=by rw[decide_eq_false_iff_not];omega
 have t2:decide ((size:Int)>4294967295)=false:=by rw[decide_eq_false_iff_not];omega
 have t3:decide ((4294967295:Int)<size)=false:=by rw[decide_eq_false_iff_not];omega
 go_enter Tryz.func70,Tryz.ntmps70
 go_wp2_with fail
 go_ret2
 exact⟨rfl,(Fr.refl _ w).alloc _,heap_alloc_new w _⟩
theorem clear10_calls(V size:Nat)(av:Value)(w:World)(h:w.heap[V]? =some (.cells #[.int .i64 size,av] 213 (0,0))):Calls Tryz.prog 95 #[ptr V] w fun e w'=>e=.returned (.tuple #[])∧Fr (fun k=>k=V) w w'∧w'.heap[V]? =some (.cells #[.int .i64 size,.slice none 0 0] 213 (0,0)):=by
 have c1:=cell_in (i:=1) h rfl
 have f1:=frozen_in h 1
 have H:=Hd h
 clear h
 go_enter Tryz.func95,Tryz.ntmps95
 go_wp2_with fail
 go_end0
 exact⟨rfl,Fr.one _ _ _ _,set_in H.out 1 _⟩
theorem kV_fresh(l:RL)(c:C)(lc lp pb M':Nat):(((((((((kV l c).setIfInBounds 0 (.int .i64 lc)).setIfInBounds 1 (.int .i64 lp)).setIfInBounds 2 (.int .i64 pb)).setIfInBounds 9 (.map (some M'))).setIfInBounds 4 (.int .i64 0)).setIfInBounds 5 (.int .i64 1)).setIfInBounds 6 (.int .i64 1)).setIfInBounds 7 (.int .i64 1)).setIfInBounds 8 (.int .i64 1)=kV {l with M:=M',st:=[]} (c.fresh lc lp pb):=by
 simp[kV,C.fresh,S.new]
theorem kV_9(l:RL)(c:C)(lc lp pb:Nat):((((kV l c).setIfInBounds 0 (.int .i64 lc)).setIfInBounds 1 (.int .i64 lp)).setIfInBounds 2 (.int .i64 pb))[9]? =some (.map (some l.M)):=by simp[kV]
theorem mk_map(W:World):(Instr.makeMap 90 none).run Tryz.prog W=.ok (.map (some W.heap.size)) (W.alloc (.map #[] 0)):=rfl
theorem reset_calls{l:RL}{c:C}{ps:Nat→List Nat}{w:World}(h:Cod w l c ps)(lc lp pb:Nat)(hl:lc+lp≤4)(hp:pb≤4):
 Calls Tryz.prog 33 #[ptr l.K,propV lc lp pb] w fun e w'=>e=.returned (.int .i64 0)∧Fr (fun k=>k=l.K) w w'∧∃M',w.heap.size≤M'∧Cod w' {l with M:=M',st:=[]} (c.fresh lc lp pb) (Lz.fresh lc lp):=by
 have hx:=heap_alloc_new w (.cells #[.int .i64 lc,.int .i64 lp,.int .i64 pb] 24)
 have HAL:=Hd ((Fr.refl (fun _=>False) w).alloc (.cells #[.int .i64 lc,.int .i64 lp,.int .i64 pb] 24))
 obtain⟨c0,c1,c2⟩:=cs3 hx rfl rfl rfl
 have HX:=Hd hx
 have H:=Hd h
 have hKl:=lt_of_block h.k
 have HPB:=fun W=>Hd (propsByte_calls lc lp pb hl hp W)
 clear h hx
 have hmm:=mk_map
 go_enter Tryz.func33,Tryz.ntmps33
 go_wp2_with fail
 refine(HPB _).out.mono ?_
 rintro e w2 ⟨rfl,hf2⟩
 have hx2:=hf2.keep HX.out (fun h=>h)
 have HF2:=Hd (HAL.out.trans hf2)
 have h2:=H.out.keep HF2.out
 clear c0 c1 c2 hf2
 obtain⟨c0,c1,c2⟩:=cs3 hx2 rfl rfl rfl
 obtain⟨p0,p1,p2,p3,p4,p5,p6,p7,p8,p9,v0,v1⟩:=h2.cells
 have pf:=fun i=>frozen_in h2.k i
 have H2:=Hd h2
 clear h2 hx2
 go_upto_region 5 with fail
 have f3:=(((Fr.one w2 l.K 0 (.int .i64 lc)).trans (Fr.one _ l.K 1 (.int .i64 lp))).trans (Fr.one _ l.K 2 (.int .i64 pb)))
 have h3:=set_in (set_in (set_in H2.out.k 0 (.int .i64 lc)) 1 (.int .i64 lp)) 2 (.int .i64 pb)
 have H3:=Hd h3
 have HF3:=Hd (((HF2.out.mono (T:=fun k=>k=l.K) (fun _ _ h=>h.elim)).trans f3))
 clear f3 h3 p0 p1 p2 p3 p4 p5 p6 p7 p8 p9 v0 v1 pf c0 c1 c2
 generalize World.setCell (World.setCell (World.setCell w2 _ _) _ _) _ _=w3 at*
 have hK3:=lt_of_block H3.out
 have p9:w3.cell? ⟨l.K,9,none⟩=some (.map (some l.M)):=cell_in (i:=9) H3.out (kV_9 l c lc lp pb)
 have pf:=frozen_in H3.out 9
 have hal:=(Fr.refl (fun _=>False) w3).alloc (.map #[] 0)
 have q9:(w3.alloc (.map #[] 0)).cell? ⟨l.K,9,none⟩=some (.map (some l.M)):=cell_in (i:=9) (hal.keep H3.out (fun h=>h)) (kV_9 l c lc lp pb)
 have qf:=frozen_in (hal.keep H3.out (fun h=>h)) 9
 have hkm:=KM.made w3
 have HAL3:=Hd hal
 have HKM:=Hd hkm
 clear hal hkm
 go_upto_region 6 with fail
 have h4:=set_in H3.out 9 (.map (some w3.heap.size))
 have f4:=Fr.one w3 l.K 9 (.map (some w3.heap.size))
 have hkm4:=KM.made (w3.setCell ⟨l.K,9,none⟩ (.map (some w3.heap.size)))
 have hs4:(w3.setCell ⟨l.K,9,none⟩ (.map (some w3.heap.size))).heap.size=w3.heap.size:=by simp
 rw[hs4] at hkm4
 have hal4:=(Fr.refl (fun _=>False) (w3.setCell ⟨l.K,9,none⟩ (.map (some w3.heap.size)))).alloc (.map #[] 0)
 have H4:=Hd (hal4.keep h4 (fun h=>h))
 have HF4:=Hd ((HF3.out.trans f4).trans (hal4.mono (fun _ _ h=>h.elim)))
 have HKM4:=Hd hkm4
 have hz3:w.heap.size≤w3.heap.size:=HF3.out.size
 clear h4 f4 hkm4 hs4 hal4 p9 pf q9 qf HKM HAL3
 generalize hm:w3.heap.size=M' at*
 generalize World.alloc (World.setCell w3 _ _) _=w4 at*
 have HN:=Hd (new12_calls w4)
 go_wp2_with fail
 refine HN.out.mono ?_
 rintro e w5 ⟨rfl,hf5⟩
 have h5:=hf5.keep H4.out (fun h=>h)
 have k4:w5.cell? ⟨l.K,4,none⟩=some (.int .i64 c.s.num):=cell_in (i:=4) h5 (by simp[kV])
 have k5:w5.cell? ⟨l.K,5,none⟩=some (.int .i64 c.s.r0):=cell_in (i:=5) h5 (by simp[kV])
 have k6:w5.cell? ⟨l.K,6,none⟩=some (.int .i64 c.s.r1):=cell_in (i:=6) h5 (by simp[kV])
 have k7:w5.cell? ⟨l.K,7,none⟩=some (.int .i64 c.s.r2):=cell_in (i:=7) h5 (by simp[kV])
 have k8:w5.cell? ⟨l.K,8,none⟩=some (.int .i64 c.s.r3):=cell_in (i:=8) h5 (by simp[kV])
 have kf:=fun i=>frozen_in h5 i
 have HF5:=Hd (HF4.out.trans (hf5.mono (fun _ _ h=>h.elim)))
 have H5:=Hd h5
 have HKM5:=Hd (HKM4.out.step hf5 (fun h=>h))
 clear hf5 h5 HN
 go_wp2_with fail
 go_ret
 have f6:=((((Fr.one w5 l.K 4 (.int .i64 0)).trans (Fr.one _ l.K 5 (.int .i64 1))).trans (Fr.one _ l.K 6 (.int .i64 1))).trans (Fr.one _ l.K 7 (.int .i64 1))).trans (Fr.one _ l.K 8 (.int .i64 1))
 have h6:=set_in (set_in (set_in (set_in (set_in H5.out 4 (.int .i64 0)) 5 (.int .i64 1)) 6 (.int .i64 1)) 7 (.int .i64 1)) 8 (.int .i64 1)
 rw[kV_fresh] at h6
 have hfall:=HF5.out.trans f6
 have hkm6:=HKM5.out.step f6 (fun(e:M'=l.K)=>by omega)
 refine⟨rfl,hfall,M',hz3,h6,hfall.keep H.out.v (fun e=>blk_ne H.out.k H.out.v (by decide) e.symm),own_step H.out.all hfall (fun k hk e=> ?_),⟨hkm6,by simp,by simp⟩,Has.start _ (fun j hj p hp=> ?_),⟨hl,hp,S.new_ok⟩,fun j hj=>Lz.fresh_len lc lp j,fun j hj p hp=> ?_,H.out.size,H.out.much⟩
 ·obtain⟨cur,hc⟩:=own_block H.out.all hk
  exact blk_ne hc H.out.k (by decide) e
 ·simp only[Lz.fresh,List.mem_replicate] at hp
  exact hp.2
 ·simp only[Lz.fresh,List.mem_replicate] at hp
  omega
theorem clear14_calls{l:RL}{c:C}{ps:Nat→List Nat}{w:World}(h:Cod w l c ps):
 Calls Tryz.prog 50 #[ptr l.K] w fun e w'=>e=.returned (.tuple #[])∧Fr (fun k=>k=l.K∨k=l.V) w w'∧∃M',w.heap.size≤M'∧Cod w' {l with M:=M',st:=[],av:=.slice none 0 0} {c.fresh c.lc c.lp c.pb with all:=[]} (Lz.fresh c.lc c.lp):=by
 obtain⟨p0,p1,p2,p3,p4,p5,p6,p7,p8,p9,v0,v1⟩:=h.cells
 have HRS:=Hd (reset_calls h c.lc c.lp c.pb h.okc.l h.okc.pb)
 have H:=Hd h
 clear h
 go_enter Tryz.func50,Tryz.ntmps50
 go_wp2_with fail
 refine HRS.out.mono ?_
 rintro e w2 ⟨rfl,hf,M',hM,hc⟩
 have k3:w2.cell? ⟨l.K,3,none⟩=some (ptr l.V):=cell_in hc.k rfl
 have HCL:=Hd (clear10_calls l.V c.size l.av w2 hc.v)
 have HF:=Hd hf
 have HC:=Hd hc
 clear hf hc p0 p1 p2 p3 p4 p5 p6 p7 p8 p9 v0 v1
 go_wp2_with fail
 refine HCL.out.mono ?_
 rintro e w3 ⟨rfl,hf3,hv3⟩
 have HF3:=Hd hf3
 have HV3:=Hd hv3
 clear hf3 hv3
 go_wp2_with fail
 go_end0
 have hc:=HC.out
 refine⟨rfl,(HF.out.mono (fun k _ h=>.inl h)).trans (HF3.out.mono (fun k _ h=>.inr h)),M',hM,HF3.out.keep hc.k (fun e=>blk_ne hc.k hc.v (by decide) e),HV3.out,World.ownsRow_nil _ _ _ _,hc.sets.step HF3.out (fun k hk(e:k=l.V)=>hc.sfV (e ▸ hk)),hc.has,⟨hc.okc.l,hc.okc.pb,hc.okc.s⟩,hc.len,hc.okp,hc.size,Nat.zero_le _⟩
end Rf
namespace Rf
open Mem Rc Prob St Lz Win En Ga
theorem wfork_calls(V size:Nat)(av:Value)(all:List UInt8)(w:World)(h:WAt w V av size all)(hb:all.length≤70368744177664):
    Calls Tryz.prog 73 #[ptr V] w fun e w'=>∃V' av',e=.returned (ptr V')∧Fr (fun _=>False) w w'∧WAt w' V' av' size all∧w.heap.size≤V'∧∀k,av'.ownBlock=some k→w.heap.size≤k:=by
  obtain⟨p,cap,rfl⟩:=own_slice h.own
  have c0:w.cell? ⟨V,0,none⟩=some (.int .i64 size):=cell_in h.v rfl
  have c1:w.cell? ⟨V,1,none⟩=some (.slice p all.length cap):=cell_in h.v rfl
  have HR:=Hd (Rd.of_own h.own)
  have HV:=Hd h.v
  have HB:=Hd (show([]:List UInt8).length+all.length≤70368744177664 by simp only[List.length_nil];omega)
  clear h hb
  obtain⟨n,hn⟩:∃n,n=all.length:=⟨_,rfl⟩
  have HN:=Hd hn
  rw[←hn] at c1 HR HV
  clear hn
  go_enter Tryz.func73,Tryz.ntmps73
  go_wp2_with (at_builtin
               refine append_mine rfl _ _ rfl (w0:=w) (.slice none 0 0) (.slice p n cap) [] all rfl rfl (Mine.nil _ _) (Nat.le_refl _) HR.out HB.out ?_
               intro p5 cap5 n5 w5 hn5 hM5 hfr5 hnew5
               have HM5:=Hd hM5
               have HN5:=Hd hn5
               have hf5:Fr (fun _=>False) w w5:=hfr5.mono (fun k _ e=>by simp[Value.ownBlock] at e)
               have z0:w5.cell? ⟨V,0,none⟩=some (.int .i64 size):=cell_in (hf5.keep HV.out (fun h=>h)) rfl
               have HF5:=Hd hf5
               clear hn5 hM5 hfr5 hnew5 hf5 c0 c1)
  go_ret
  have hal:=(Fr.refl (fun _=>False) w5).alloc (.cells #[.int .i64 size,.slice p5 n5 cap5] 213)
  have hm:=HM5.out.keep hal
  rw[List.nil_append] at hm
  exact⟨_,.slice p5 n5 cap5,rfl,HF5.out.trans hal,⟨heap_alloc_new w5 _,hm.own⟩,HF5.out.size,hm.new⟩
end Rf
end Go.Proofs.YtlgccpjccopdmaaGreatDoor
