/- Part 43 of 54: lemmas of the last part, each under the conditions that it names. -/
import Derived.Deep.CutBlock
import Derived.Deep.DeepCutAuto
import Derived.Test.YtlgccpjccopdmaaGreatDoorP42
set_option linter.unusedVariables false
set_option linter.unusedSimpArgs false
set_option maxRecDepth 1500
set_option maxHeartbeats 4000000
namespace Go.Proofs.YtlgccpjccopdmaaGreatDoor
open Go.RowKit
namespace Rf
open Mem Rc Prob St Lz Win
theorem five_fr(w:World)(z:Nat)(a0 a1 a2 a3 a4:Value):Fr (fun k=>k=z) w (((((w.setCell ⟨z,0,none⟩ a0).setCell ⟨z,1,none⟩ a1).setCell ⟨z,2,none⟩ a2).setCell ⟨z,3,none⟩ a3).setCell ⟨z,4,none⟩ a4):=
 ((((Fr.one w z 0 a0).trans (Fr.one _ z 1 a1)).trans (Fr.one _ z 2 a2)).trans (Fr.one _ z 3 a3)).trans (Fr.one _ z 4 a4)
structure AppOk(V size:Nat)(av:Value)(all bytes:List UInt8)(v:Value)(w w':World):Prop where
 ex:∃av2,WAt w' V av2 size (all++bytes)∧(∀k,av2.ownBlock=some k→av.ownBlock=some k∨w.heap.size≤k)∧∀k,v.ownBlock=some k→av2.ownBlock≠some k
 fr:Fr (fun k=>k=V∨av.ownBlock=some k) w w'
 mine:Mine w w' v bytes
def AppPost(V size:Nat)(av:Value)(all:List UInt8)(s:S)(y:Sy)(w:World)(e:Ending)(w':World):Prop:=
 if(St.apply size all s y).1=0 then∃v,e=.returned (.tuple #[v,.agg (St.apply size all s y).2.2.cells,.int .i64 0])∧AppOk V size av all (St.apply size all s y).2.1 v w w'
 else e=.returned (.tuple #[.slice none 0 0,.agg S.zero.cells,.int .i64 (St.apply size all s y).1])∧Fr (fun _=>False) w w'
theorem rd_list1{w:World}(c:UInt8)(x:Int)(hx:x=(c.toNat:Int)):Mine w (w.alloc (.cells #[.int .u8 x] 5)) (.slice (some ⟨w.heap.size,0,none⟩) 1 1) [c]:=by
 subst hx
 exact⟨⟨rfl,.inr ⟨w.heap.size,1,_,rfl,Nat.zero_le _,heap_alloc_new w _,by simp,by simp[maxLen],by simp,by simp[bvs,bv]⟩⟩,fun k hk=>by simp only[Value.ownBlock,Option.some.injEq] at hk;omega⟩
theorem AppOk.fin{V size z:Nat}{av v:Value}{all bytes:List UInt8}{w wa wb wc:World}(h:AppOk V size av all bytes v wa wb)(h0:Fr (fun _=>False) w wa)(hz:w.heap.size≤z)(hza:z<wa.heap.size)(hV:V<w.heap.size)(hav:∀k,av.ownBlock=some k→k<w.heap.size)(hf:Fr (fun k=>k=z) wb wc):AppOk V size av all bytes v w wc:=by
 obtain⟨⟨av2,h1,h2,h3⟩,h4,h5⟩:=h
 have hs:=h0.size
 have hs4:=h4.size
 have e1:∀k,av2.ownBlock=some k→¬k=z:=fun k hk e=>by
  rcases h2 k hk with h|h
  ·have:=hav k h
   omega
  ·omega
 refine⟨⟨av2,h1.step hf (fun e=>by omega) e1,fun k hk=>(h2 k hk).imp id (fun h=>by omega),h3⟩,?_,⟨(h5.step hf (fun k hk e=>by have:=h5.new k hk;omega)).own,fun k hk=>by have:=h5.new k hk;omega⟩⟩
 exact((lift (S:=fun k=>k=V∨av.ownBlock=some k) h0).trans h4).trans' hf (fun k hk e=>by omega)
theorem AppOk.fin0{V size:Nat}{av v:Value}{all bytes:List UInt8}{w wa wb:World}(h:AppOk V size av all bytes v wa wb)(h0:Fr (fun _=>False) w wa):AppOk V size av all bytes v wa wb∧Fr (fun _=>False) w wa:=⟨h,h0⟩
theorem AppOk.of_put{V size:Nat}{av:Value}{all:List UInt8}{c:UInt8}{x:Int}{w w':World}(hx:x=(c.toNat:Int))(hlt:∀k,av.ownBlock=some k→k<w.heap.size)(hV:V<w.heap.size)(h:PutW V size av all [c] (w.alloc (.cells #[.int .u8 x] 5)) w'):AppOk V size av all [c] (.slice (some ⟨w.heap.size,0,none⟩) 1 1) w w':=by
 obtain⟨av',h1,h2,h3⟩:=h
 refine⟨⟨av',h1,fun k hk=>(h3 k hk).imp id (fun h=>by simp at h;omega),fun k hk e=> ?_⟩,(lift ((Fr.refl (fun _=>False) w).alloc (.cells #[.int .u8 x] 5))).trans h2,(rd_list1 c x hx).step h2 (fun k hk e=> ?_)⟩
 ·simp only[Value.ownBlock,Option.some.injEq] at hk
  subst hk
  rcases h3 _ e with h|h
  ·have:=hlt _ h
   omega
  ·simp at h
   omega
 ·simp only[Value.ownBlock,Option.some.injEq] at hk
  subst hk
  rcases e with e|e
  ·omega
  ·have:=hlt _ e
   omega
theorem AppOk.of_copy{V size d n:Nat}{av v:Value}{all:List UInt8}{w w':World}(h:CopyR V size d av all w n v w'):AppOk V size av all (copied all d n) v w w':=by
 obtain⟨av2,h1,h2,h3,h4,h5⟩:=h
 rw[grown_eq] at h1
 exact⟨⟨av2,h1,h3,h5⟩,h2,h4⟩
set_option maxRecDepth 100000 in
theorem rapply_calls(V size:Nat)(av:Value)(all:List UInt8)(s:S)(hs:s.Ok)(y:Sy)(hy:y.Ok)(w:World)(h:WAt w V av size all)(hmuch:all.length+273≤70368744177664):
 Calls Tryz.prog 82 #[ptr V,.agg s.cells,.agg y.cells] w (AppPost V size av all s y w):=by
 have HNX:=fun W=>Hd (rnext_calls s hs y hy W)
 have HSZC:=fun W=>Hd (rsize_calls y hy W)
 have HDC:=fun W=>Hd (rdist_calls s y hy W)
 have hfe:=fe_next s y hy
 have hsz:=rsize_eq y hy
 obtain⟨ap,hap⟩:∃ap,ap=St.apply size all s y:=⟨_,rfl⟩
 obtain⟨post,hpost⟩:∃post,post=AppPost V size av all s y w:=⟨_,rfl⟩
 have HP0:Hid (∀v w',ap.1=0→AppOk V size av all ap.2.1 v w w'→post (.returned (.tuple #[v,.agg ap.2.2.cells,.int .i64 0])) w'):=Hd (fun v w' h0 h1=>by
  rw[hpost]
  unfold AppPost
  rw[←hap,if_pos h0]
  exact⟨v,rfl,h1⟩)
 have HP1:Hid (∀w',ap.1≠0→Fr (fun _=>False) w w'→post (.returned (.tuple #[.slice none 0 0,.agg S.zero.cells,.int .i64 ap.1])) w'):=Hd (fun w' h0 h1=>by
  rw[hpost]
  unfold AppPost
  rw[←hap,if_neg h0]
  exact⟨rfl,h1⟩)
 rw[←hpost]
 clear hpost
 unfold St.apply at hap
 obtain⟨hV,hav⟩:=h.lt
 have hyk:=hy.kind
 have hyb:=hy.byte
 have hle:lenOfSy y≤273∨y.kind=1∨fe y≠0:=by
  unfold lenOfSy fe
  rcases hyk with hk|hk|hk|hk
  ·exact .inr (.inl hk)
  ·by_cases hl:isL y.len
   ·exact .inl (by rw[if_neg (by omega)];exact hl.2)
   ·exact .inr (.inr (by rw[if_neg (by omega),if_pos hk,if_neg (fun h=>hl h.1)];decide))
  ·by_cases hl:isL y.len
   ·exact .inl (by rw[if_neg (by omega)];exact hl.2)
   ·exact .inr (.inr (by rw[if_neg (by omega),if_neg (by omega),if_neg hl];decide))
  ·exact .inl (by rw[if_pos hk];decide)
 have hsz2:fe y=0→y.kind≠1→St.size y=lenOfSy y:=by
  intro h0 h1
  rw[hsz,if_pos h0]
  unfold lenOfSy
  rcases hyk with hk|hk|hk|hk
  ·exact absurd hk h1
  ·rw[if_pos (.inl hk),if_neg (by omega)]
  ·rw[if_pos (.inr hk),if_neg (by omega)]
  ·rw[if_neg (by omega),if_pos hk]
 have hre:=S.next_err s y
 rw[hfe] at hre
 obtain⟨nx,hnx⟩:∃nx,nx=s.next y:=⟨_,rfl⟩
 rw[←hnx] at hap hfe
 have hnx2:∀W,Hid (Calls Tryz.prog 122 #[.agg s.cells,.agg y.cells] W fun e w'=>e=.returned (.tuple #[.agg nx.2.cells,.int .i64 nx.1])∧Fr (fun _=>False) W w'):=by rw[hnx];exact HNX
 clear HNX hnx hsz
 generalize hdd:distOf s y=dd at*
 generalize lenOfSy y=ln at*
 generalize St.size y=sz at*
 generalize fe y=er at*
 obtain⟨ne,nn,na,nb,nc,nd⟩:=nx
 simp only at hap hfe hnx2
 subst hfe
 obtain⟨n,a,b,c,d⟩:=s
 obtain⟨kind,byte,len,dist⟩:=y
 unfold S.cells Sy.cells at*
 simp only at hap hnx2 HSZC HDC hyk hyb hle hsz2
 have HW:=Hd h
 have HAP:=Hd hap
 have HAV:=Hd hav
 clear h hap hav hs hy hdd
 obtain⟨hf3,hsz3,b0,b1,b2⟩:=Rc.three w (.cells #[.int .i64 n,.int .i64 a,.int .i64 b,.int .i64 c,.int .i64 d] 89) (.cells #[.int .i64 kind,.int .u8 byte,.int .i64 len,.int .i64 dist] 96) (.cells #[.int .i64 0,.int .i64 0,.int .i64 0,.int .i64 0,.int .i64 0] 89)
 have HF3:=Hd hf3
 obtain⟨q0,q1,q2,q3,q4⟩:=cs5 b0 rfl rfl rfl rfl rfl
 obtain⟨y0,y1,y2,y3⟩:=cs4 b1 rfl rfl rfl rfl
 have HB:=Hd (And.intro b0 (And.intro b1 b2))
 clear hf3 b0 b1 b2
 go_enter Tryz.func82,Tryz.ntmps82
 go_wp2_with fail
 generalize hz:w.heap.size=z at*
 have HZ:=Hd hz
 have HSZ:=Hd hsz3
 clear hz hsz3
 generalize World.alloc (World.alloc (World.alloc w _) _) _=W at*
 refine(hnx2 _).out.mono ?_
 rintro e w1 ⟨rfl,hf1⟩
 have hx9:=heap_alloc_new w1 (.cells #[.int .i64 nn,.int .i64 na,.int .i64 nb,.int .i64 nc,.int .i64 nd] 89)
 have hf9:=hf1.trans ((Fr.refl (fun _=>False) w1).alloc (.cells #[.int .i64 nn,.int .i64 na,.int .i64 nb,.int .i64 nc,.int .i64 nd] 89))
 have hz9:z+1+1<w1.heap.size:=by have:=HSZ.out;have:=hf1.size;omega
 have hV9:V<w1.heap.size:=by omega
 clear q0 q1 q2 q3 q4 y0 y1 y2 y3
 have HB9:=Hd (And.intro (hf9.keep HB.out.1 (fun h=>h)) (And.intro (hf9.keep HB.out.2.1 (fun h=>h)) (hf9.keep HB.out.2.2 (fun h=>h))))
 have HF9:=Hd (HF3.out.trans hf9)
 have HX9:=Hd hx9
 have HZ9:=Hd (show z+1+1<(w1.alloc (.cells #[.int .i64 nn,.int .i64 na,.int .i64 nb,.int .i64 nc,.int .i64 nd] 89)).heap.size from by simp;omega)
 have hs9:(w1.alloc (.cells #[.int .i64 nn,.int .i64 na,.int .i64 nb,.int .i64 nc,.int .i64 nd] 89)).heap.size=w1.heap.size+1:=by simp
 have HS9:=Hd hs9
 clear hs9
 have HW9:=Hd (HW.out.keep (HF3.out.trans hf9))
 clear hf9 hx9 hf1
 go_upto_region 2 with fail
 generalize hz9s:w1.heap.size=z9 at*
 generalize w1.alloc (.cells #[.int .i64 nn,.int .i64 na,.int .i64 nb,.int .i64 nc,.int .i64 nd] 89)=w9 at*
 clear hz9s
 by_cases hne:ne=0
 ·have t0:((ne:Int) !=0)=false:=by simp[hne]
  obtain⟨y0,y1⟩:=cs2 HB9.out.2.1 rfl rfl
  subst hne
  by_cases hk1:kind=1
  ·subst hk1
   have hap:ap=(0,[UInt8.ofNat byte],⟨nn,na,nb,nc,nd⟩):=by rw[HAP.out,if_pos rfl,if_pos rfl]
   have HAP2:=Hd hap
   have hbb:(byte:Int)=((UInt8.ofNat byte).toNat:Int):=by
    rw[UInt8.toNat_ofNat']
    omega
   have HPC:=Hd (put_calls V size av (.slice (some ⟨w9.heap.size,0,none⟩) 1 1) all [UInt8.ofNat byte] (w9.alloc (.cells #[.int .u8 (byte:Int)] 5)) (HW9.out.keep ((Fr.refl (fun _=>False) _).alloc _)) (rd_one w9 (w9.heap.size) rfl (UInt8.ofNat byte) (byte:Int) hbb) (by simp only [List.length_singleton];omega))
   have HBB:=Hd hbb
   clear hap hbb
   go_wp2_with fail
   refine HPC.out.mono ?_
   rintro e w11 ⟨rfl,hput⟩
   have hok:=AppOk.of_put HBB.out (fun k hk=>by have:=HAV.out k hk;have:=HS9.out;omega) (by have:=HS9.out;omega) hput
   have hst:∀{k:Nat}{o:Obj},w9.heap[k]? =some o→z≤k→w11.heap[k]? =some o:=fun hk hz=>hok.fr.keep hk (fun e=>by
    rcases e with e|e
    ·omega
    ·have:=HAV.out _ e
     omega)
   have hr:=hst HB9.out.2.2 (by omega)
   have ht:=hst HX9.out (by omega)
   obtain⟨r0,r1,r2,r3,r4⟩:=cs5 hr rfl rfl rfl rfl rfl
   obtain⟨u0,u1,u2,u3,u4⟩:=cs5 ht rfl rfl rfl rfl rfl
   have rf:=fun i=>frozen_in hr i
   have HOK:=Hd hok
   clear y0 y1 hr ht hst hok hput HPC
   go_wp2_with fail
   go_region
   all_goals go_wp2_with fail
   all_goals
    refine bodyPost_ret (v:=.tuple #[.slice (some ⟨w9.heap.size,0,none⟩) 1 1,.agg #[.int .i64 nn,.int .i64 na,.int .i64 nb,.int .i64 nc,.int .i64 nd],.int .i64 0]) (by simp[results,Tryz.results82,go_sem,r0,r1,r2,r3,r4]) rfl ?_
    have hpp:=HP0.out
    rw[HAP2.out] at hpp
    exact hpp _ _ rfl (HOK.out.fin HF9.out (by have:=HZ.out;omega) HZ9.out (by have:=HZ.out;omega) (fun k hk=>by have:=HAV.out k hk;have:=HZ.out;omega) ((five_fr _ (z+1+1) _ _ _ _ _)).drew)
  ·have hfe0:(0:Nat)=0:=rfl
   have hss:=hsz2 rfl hk1
   have hln:ln≤273:=by rcases hle with h|h|h;exact h;exact absurd h hk1;exact absurd rfl h
   subst hss
   have HSF:=Hd (show∀w':World,Fr (fun _=>False) w9 w'→w'.cell? ⟨z,0,none⟩=some (.int .i64 n)∧w'.cell? ⟨z,1,none⟩=some (.int .i64 a)∧w'.cell? ⟨z,2,none⟩=some (.int .i64 b)∧w'.cell? ⟨z,3,none⟩=some (.int .i64 c)∧w'.cell? ⟨z,4,none⟩=some (.int .i64 d)∧w'.cell? ⟨z+1,0,none⟩=some (.int .i64 kind)∧w'.cell? ⟨z+1,1,none⟩=some (.int .u8 byte)∧w'.cell? ⟨z+1,2,none⟩=some (.int .i64 len)∧w'.cell? ⟨z+1,3,none⟩=some (.int .i64 dist) from fun w' h=>⟨cell_in (i:=0) (h.keep HB9.out.1 (fun h=>h)) rfl,cell_in (i:=1) (h.keep HB9.out.1 (fun h=>h)) rfl,cell_in (i:=2) (h.keep HB9.out.1 (fun h=>h)) rfl,cell_in (i:=3) (h.keep HB9.out.1 (fun h=>h)) rfl,cell_in (i:=4) (h.keep HB9.out.1 (fun h=>h)) rfl,cell_in (i:=0) (h.keep HB9.out.2.1 (fun h=>h)) rfl,cell_in (i:=1) (h.keep HB9.out.2.1 (fun h=>h)) rfl,cell_in (i:=2) (h.keep HB9.out.2.1 (fun h=>h)) rfl,cell_in (i:=3) (h.keep HB9.out.2.1 (fun h=>h)) rfl⟩)
   have HR:=Hd (Fr.refl (fun _=>False) w9).drew
   have HSC:=Hd (HSF.out _ HR.out)
   have tk:((kind:Int)==1)=false:=by simp;omega
   by_cases hin:1≤dd∧dd≤min size all.length
   ·have hap:ap=(0,copied all dd sz,⟨nn,na,nb,nc,nd⟩):=by rw[HAP.out,if_pos rfl,if_neg hk1,if_pos hin]
    have HAP2:=Hd hap
    have HCP:=Hd (show∀w':World,Fr (fun _=>False) w9 w'→Calls Tryz.prog 139 #[ptr V,.int .i64 dd,.int .i64 sz] w' _ from fun w' h=>copy_calls V size dd sz av all w' (HW9.out.keep h) hin hln (by omega))
    clear hap hin hk1
    go_wp2_with fail
    go_region_held3 (fun w'=>w'.cell? ⟨z,0,none⟩=some (.int .i64 n)∧w'.cell? ⟨z,1,none⟩=some (.int .i64 a)∧w'.cell? ⟨z,2,none⟩=some (.int .i64 b)∧w'.cell? ⟨z,3,none⟩=some (.int .i64 c)∧w'.cell? ⟨z,4,none⟩=some (.int .i64 d)∧w'.cell? ⟨z+1,0,none⟩=some (.int .i64 kind)∧w'.cell? ⟨z+1,1,none⟩=some (.int .u8 byte)∧w'.cell? ⟨z+1,2,none⟩=some (.int .i64 len)∧w'.cell? ⟨z+1,3,none⟩=some (.int .i64 dist)) (first|with_reducible exact HSC.out) ((first
    | (go_at_call 140
       with_reducible refine(HDC _).out.mono ?_
       rintro e wc ⟨rfl,hfrc⟩
       have HR:=Hd (HR.out.trans hfrc)
       have HSC:=Hd (HSF.out _ HR.out)
       clear hfrc)
    | (go_at_call 96
       with_reducible refine(HSZC _).out.mono ?_
       rintro e wc ⟨rfl,hfrc⟩
       have HR:=Hd (HR.out.trans hfrc)
       have HSC:=Hd (HSF.out _ HR.out)
       clear hfrc)
    | (go_at_call 139
       with_reducible refine(HCP.out _ HR.out).mono ?_
       rintro e w11 ⟨v,rfl,hcp⟩
       have hok:=AppOk.of_copy hcp
       have hst:∀{k:Nat}{o:Obj},w9.heap[k]? =some o→z≤k→w11.heap[k]? =some o:=fun hk hz=>hok.fr.keep (HR.out.keep hk (fun h=>h)) (fun e=>by
        rcases e with e|e
        ·omega
        ·have:=HAV.out _ e
         omega)
       have HB11:=Hd (And.intro (hst HB9.out.1 (Nat.le_refl _)) (And.intro (hst HB9.out.2.1 (by omega)) (And.intro (hst HB9.out.2.2 (by omega)) (hst HX9.out (by omega)))))
       have HOK:=Hd (hok.fin0 (HF9.out.trans HR.out))
       have HZC:=Hd (Nat.lt_of_lt_of_le HZ9.out HR.out.size)
       have HSC:=Hd (show w11.cell? ⟨z,0,none⟩=some (.int .i64 n)∧w11.cell? ⟨z,1,none⟩=some (.int .i64 a)∧w11.cell? ⟨z,2,none⟩=some (.int .i64 b)∧w11.cell? ⟨z,3,none⟩=some (.int .i64 c)∧w11.cell? ⟨z,4,none⟩=some (.int .i64 d)∧w11.cell? ⟨z+1,0,none⟩=some (.int .i64 kind)∧w11.cell? ⟨z+1,1,none⟩=some (.int .u8 byte)∧w11.cell? ⟨z+1,2,none⟩=some (.int .i64 len)∧w11.cell? ⟨z+1,3,none⟩=some (.int .i64 dist) from⟨cell_in (i:=0) HB11.out.1 rfl,cell_in (i:=1) HB11.out.1 rfl,cell_in (i:=2) HB11.out.1 rfl,cell_in (i:=3) HB11.out.1 rfl,cell_in (i:=4) HB11.out.1 rfl,cell_in (i:=0) HB11.out.2.1 rfl,cell_in (i:=1) HB11.out.2.1 rfl,cell_in (i:=2) HB11.out.2.1 rfl,cell_in (i:=3) HB11.out.2.1 rfl⟩)
       clear hok hst hcp)))
    all_goals
     obtain⟨r0,r1,r2,r3,r4⟩:=cs5 HB11.out.2.2.1 rfl rfl rfl rfl rfl
     obtain⟨u0,u1,u2,u3,u4⟩:=cs5 HB11.out.2.2.2 rfl rfl rfl rfl rfl
     have rf:=fun i=>frozen_in HB11.out.2.2.1 i
     clear y0 y1
    all_goals go_wp2_with fail
    all_goals go_region
    all_goals go_wp2_with fail
    all_goals
     refine bodyPost_ret (v:=.tuple #[v,.agg #[.int .i64 nn,.int .i64 na,.int .i64 nb,.int .i64 nc,.int .i64 nd],.int .i64 0]) (by simp[results,Tryz.results82,go_sem,r0,r1,r2,r3,r4]) rfl ?_
     have hpp:=HP0.out
     rw[HAP2.out] at hpp
     exact hpp _ _ rfl (HOK.out.1.fin HOK.out.2 (by have:=HZ.out;omega) HZC.out (by have:=HZ.out;omega) (fun k hk=>by have:=HAV.out k hk;have:=HZ.out;omega) ((five_fr _ (z+1+1) _ _ _ _ _)).drew)
   ·have hap:ap=(7,[],.zero):=by rw[HAP.out,if_pos rfl,if_neg hk1,if_neg hin]
    have HAP2:=Hd hap
    have HCP:=Hd (show∀w':World,Fr (fun _=>False) w9 w'→Calls Tryz.prog 139 #[ptr V,.int .i64 dd,.int .i64 sz] w' _ from fun w' h=>copy_bad V size dd sz av all w' (HW9.out.keep h) (.inl hin))
    clear hap hin hk1
    go_wp2_with fail
    go_region_held3 (fun w'=>w'.cell? ⟨z,0,none⟩=some (.int .i64 n)∧w'.cell? ⟨z,1,none⟩=some (.int .i64 a)∧w'.cell? ⟨z,2,none⟩=some (.int .i64 b)∧w'.cell? ⟨z,3,none⟩=some (.int .i64 c)∧w'.cell? ⟨z,4,none⟩=some (.int .i64 d)∧w'.cell? ⟨z+1,0,none⟩=some (.int .i64 kind)∧w'.cell? ⟨z+1,1,none⟩=some (.int .u8 byte)∧w'.cell? ⟨z+1,2,none⟩=some (.int .i64 len)∧w'.cell? ⟨z+1,3,none⟩=some (.int .i64 dist)) (first|with_reducible exact HSC.out) ((first
    | (go_at_call 140
       with_reducible refine(HDC _).out.mono ?_
       rintro e wc ⟨rfl,hfrc⟩
       have HR:=Hd (HR.out.trans hfrc)
       have HSC:=Hd (HSF.out _ HR.out)
       clear hfrc)
    | (go_at_call 96
       with_reducible refine(HSZC _).out.mono ?_
       rintro e wc ⟨rfl,hfrc⟩
       have HR:=Hd (HR.out.trans hfrc)
       have HSC:=Hd (HSF.out _ HR.out)
       clear hfrc)
    | (go_at_call 139
       with_reducible refine(HCP.out _ HR.out).mono ?_
       rintro e w11 ⟨rfl,hfrc⟩
       have HR:=Hd (HR.out.trans hfrc)
       have HSC:=Hd (HSF.out _ HR.out)
       clear hfrc)))
    all_goals
     have hr:=HR.out.keep HB9.out.2.2 (fun h=>h)
     obtain⟨r0,r1,r2,r3,r4,rf⟩:=cf5 hr rfl rfl rfl rfl rfl
     clear y0 y1 hr
    all_goals go_wp2_with fail
    all_goals
     refine bodyPost_ret (v:=.tuple #[.slice none 0 0,.agg #[.int .i64 0,.int .i64 0,.int .i64 0,.int .i64 0,.int .i64 0],.int .i64 7]) (by simp[results,Tryz.results82,go_sem,r0,r1,r2,r3,r4]) rfl ?_
     have hpp:=HP1.out
     rw[HAP2.out] at hpp
     exact hpp _ (by decide) ((HF9.out.trans HR.out).trans' (T:=fun k=>k=z+1+1) (five_fr _ (z+1+1) _ _ _ _ _) (fun k hk e=>by have:=HZ.out;omega))
 ·have t0:((ne:Int) !=0)=true:=by simp[hne]
  have hap:ap=(ne,[],.zero):=by rw[HAP.out,if_neg hne]
  have HAP2:=Hd hap
  have HNE:=Hd hne
  obtain⟨r0,r1,r2,r3,r4,rf⟩:=cf5 HB9.out.2.2 rfl rfl rfl rfl rfl
  clear hap hne
  go_wp2_with fail
  refine bodyPost_ret (v:=.tuple #[.slice none 0 0,.agg #[.int .i64 0,.int .i64 0,.int .i64 0,.int .i64 0,.int .i64 0],.int .i64 ne]) (by simp[results,Tryz.results82,go_sem,r0,r1,r2,r3,r4]) rfl ?_
  have hpp:=HP1.out
  rw[HAP2.out] at hpp
  refine hpp _ HNE.out (HF9.out.trans' (T:=fun k=>k=z+1+1) (five_fr _ (z+1+1) _ _ _ _ _) (fun k hk e=>by have:=HZ.out;omega))
end Rf
end Go.Proofs.YtlgccpjccopdmaaGreatDoor
