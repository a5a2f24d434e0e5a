/- Part 27 of 54: lemmas of the last part, each under the conditions that it names. -/
import Derived.Test.YtlgccpjccopdmaaGreatDoorP08
import Derived.Test.YtlgccpjccopdmaaGreatDoorP26
set_option linter.unusedVariables false
set_option linter.unusedSimpArgs false
set_option maxRecDepth 1500
set_option maxHeartbeats 4000000
namespace Go.Proofs.YtlgccpjccopdmaaGreatDoor
open Go.RowKit
namespace Rf
open Mem St
set_option maxRecDepth 100000 in
theorem rnext_lit(n a b c d:Nat)(hs:(⟨n,a,b,c,d⟩:S).Ok)(byte:Nat)(len dist:Nat)(hb:byte<256)(w:World):Calls Tryz.prog 122 #[.agg #[.int .i64 n,.int .i64 a,.int .i64 b,.int .i64 c,.int .i64 d],.agg #[.int .i64 1,.int .u8 byte,.int .i64 len,.int .i64 dist]] w fun e w'=>e=.returned (.tuple #[.agg #[.int .i64 (movedN n 1),.int .i64 a,.int .i64 b,.int .i64 c,.int .i64 d],.int .i64 0])∧Fr (fun _=>False) w w':=by
 have hy:(⟨1,byte,len,dist⟩:Sy).Ok:=⟨.inl rfl,(fun h=>by simp at h),hb⟩
 have HR:=fun W=>Hd (show Calls Tryz.prog 120 #[.agg #[.int .i64 n,.int .i64 a,.int .i64 b,.int .i64 c,.int .i64 d]] W (fun e w'=>e=.returned (.bool true)∧Fr (fun _=>False) W w') from rright_calls ⟨n,a,b,c,d⟩ hs W)
 have HFM:=fun W=>Hd (show Calls Tryz.prog 146 #[.agg #[.int .i64 1,.int .u8 byte,.int .i64 len,.int .i64 dist]] W (fun e w'=>e=.returned (.int .i64 0)∧Fr (fun _=>False) W w') from(rformed_calls ⟨1,byte,len,dist⟩ hy W).mono (fun e w' h=>by rw[show fe ⟨1,byte,len,dist⟩=0 from by rfl] at h;exact h))
 have HM:=fun W=>Hd (show Calls Tryz.prog 177 #[.int .i64 n,.int .i64 1] W (fun e w'=>e=.returned (.int .i64 (movedN n 1))∧W=w') from moved_calls n 1 hs.num (by decide) W)
 obtain⟨hf3,hsz,b0,b1,b2⟩:=Rc.three w (.cells #[.int .i64 n,.int .i64 a,.int .i64 b,.int .i64 c,.int .i64 d] 89) (.cells #[.int .i64 1,.int .u8 byte,.int .i64 len,.int .i64 dist] 96) (.cells #[.int .i64 0,.int .i64 0,.int .i64 0,.int .i64 0,.int .i64 0] 89)
 have HF3:=Hd hf3
 have HS:=Hd (show∀w':World,Fr (fun _=>False) (((w.alloc (.cells #[.int .i64 n,.int .i64 a,.int .i64 b,.int .i64 c,.int .i64 d] 89)).alloc (.cells #[.int .i64 1,.int .u8 byte,.int .i64 len,.int .i64 dist] 96)).alloc (.cells #[.int .i64 0,.int .i64 0,.int .i64 0,.int .i64 0,.int .i64 0] 89)) w'→_ from fun w' h=>And.intro (h.keep b0 (fun h=>h)) (And.intro (h.keep b1 (fun h=>h)) (h.keep b2 (fun h=>h))))
 clear hf3 hy
 obtain⟨q0,q1,q2,q3,q4⟩:=cs5 b0 rfl rfl rfl rfl rfl
 clear b0 b1 b2
 generalize movedN n 1=mv at*
 go_enter Tryz.func122,Tryz.ntmps122
 go_wp2_with fail
 generalize hz:w.heap.size=z at*
 have HZ:=Hd hz
 have HSZ:=Hd hsz
 clear hz hsz
 generalize World.alloc (World.alloc (World.alloc w _) _) _=W at*
 refine(HR _).out.mono ?_
 rintro e w1 ⟨rfl,hf1⟩
 clear q0 q1 q2 q3 q4
 obtain⟨b0,b1,b2⟩:=HS.out w1 hf1
 obtain⟨y0,y1,y2,y3⟩:=cs4 b1 rfl rfl rfl rfl
 have HF1:=Hd hf1
 clear b0 b1 b2 hf1
 go_wp2_with fail
 refine(HFM _).out.mono ?_
 rintro e w2 ⟨rfl,hf2⟩
 clear y0 y1 y2 y3
 have HF2:=Hd (HF1.out.trans hf2)
 clear hf2 HF1
 obtain⟨b0,b1,b2⟩:=HS.out w2 HF2.out
 have HB:=Hd (And.intro b0 (And.intro b1 b2))
 obtain⟨c0,c1,c2,c3,c4⟩:=cs5 b0 rfl rfl rfl rfl rfl
 have y0:=cell_in (i:=0) b1 rfl
 have y3:=cell_in (i:=3) b1 rfl
 obtain⟨r0,r1,r2,r3,r4,rf⟩:=cf5 b2 rfl rfl rfl rfl rfl
 clear b0 b1 b2
 have HSF:=Hd (show∀w':World,Fr (fun _=>False) w2 w'→w'.cell? ⟨z,0,none⟩=some (.int .i64 n)∧w'.cell? ⟨z,1,none⟩=some (.int .i64 a)∧w'.cell? ⟨z,2,none⟩=some (.int .i64 b)∧w'.cell? ⟨z,3,none⟩=some (.int .i64 c)∧w'.cell? ⟨z,4,none⟩=some (.int .i64 d)∧w'.cell? ⟨z+1,0,none⟩=some (.int .i64 1) from fun w' h=>⟨cell_in (i:=0) (h.keep HB.out.1 (fun h=>h)) rfl,cell_in (i:=1) (h.keep HB.out.1 (fun h=>h)) rfl,cell_in (i:=2) (h.keep HB.out.1 (fun h=>h)) rfl,cell_in (i:=3) (h.keep HB.out.1 (fun h=>h)) rfl,cell_in (i:=4) (h.keep HB.out.1 (fun h=>h)) rfl,cell_in (i:=0) (h.keep HB.out.2.1 (fun h=>h)) rfl⟩)
 have HSC:=Hd (HSF.out _ (Fr.refl _ w2).drew)
 go_wp2_with fail
 go_region_held3 (fun w'=>w'.cell? ⟨z,0,none⟩=some (.int .i64 n)∧w'.cell? ⟨z,1,none⟩=some (.int .i64 a)∧w'.cell? ⟨z,2,none⟩=some (.int .i64 b)∧w'.cell? ⟨z,3,none⟩=some (.int .i64 c)∧w'.cell? ⟨z,4,none⟩=some (.int .i64 d)∧w'.cell? ⟨z+1,0,none⟩=some (.int .i64 1)) (first|with_reducible exact HSC.out|with_reducible exact HSF.out _ ((Fr.refl _ w2).drew.alloc _)|(refine HSF.out _ ?_;(repeat refine Fr.setCell ?_ (.inr (Nat.le_refl _)) _);exact(Fr.refl _ w2).drew.alloc _)) ((first
  | (go_at_call 177
     with_reducible refine(HM _).out.mono ?_
     rintro e wc ⟨rfl,rfl⟩)))
 clear c0 c1 c2 c3 c4 y0 y3 r0 r1 r2 r3 r4 rf HSC HSF
 all_goals
  have hf8:=((Fr.refl (fun _=>False) w2).alloc (.cells #[.int .i64 mv,.int .i64 a,.int .i64 b,.int .i64 c,.int .i64 d] 89)).drew
  have hx8:((w2.alloc (.cells #[.int .i64 mv,.int .i64 a,.int .i64 b,.int .i64 c,.int .i64 d] 89)).drew).heap[w2.heap.size]? =some (.cells #[.int .i64 mv,.int .i64 a,.int .i64 b,.int .i64 c,.int .i64 d] 89 (0,0)):=heap_alloc_new w2 _
  have hz8:z+1+1<w2.heap.size:=by have:=HSZ.out;have:=HF2.out.size;omega
  obtain⟨b0,b1,b2⟩:=HS.out _ (HF2.out.trans hf8)
  have HB8:=Hd (And.intro b0 (And.intro b1 b2))
  have HF8:=Hd (HF3.out.trans (HF2.out.trans hf8))
  have HX8:=Hd hx8
  clear hf8 hx8 b0 b1 b2
  generalize(w2.alloc (.cells #[.int .i64 mv,.int .i64 a,.int .i64 b,.int .i64 c,.int .i64 d] 89)).drew=w8 at*
  generalize w2.heap.size=z8 at*
  obtain⟨c0,c1,c2,c3,c4⟩:=cs5 HB8.out.1 rfl rfl rfl rfl rfl
  have y0:=cell_in (i:=0) HB8.out.2.1 rfl
  have y3:=cell_in (i:=3) HB8.out.2.1 rfl
  obtain⟨t0,t1,t2,t3,t4,tf⟩:=cf5 HX8.out rfl rfl rfl rfl rfl
  obtain⟨r0,r1,r2,r3,r4,rf⟩:=cf5 HB8.out.2.2 rfl rfl rfl rfl rfl
  go_wp2_with fail
  refine bodyPost_ret (v:=.tuple #[.agg #[.int .i64 mv,.int .i64 a,.int .i64 b,.int .i64 c,.int .i64 d],.int .i64 0]) (by simp[results,Tryz.results122,go_sem,r0,r1,r2,r3,r4]) rfl ?_
  exact⟨rfl,(HF8.out).trans' (T:=fun k=>k=z+1+1) (((((Fr.one _ (z+1+1) 0 _).trans (Fr.one _ (z+1+1) 1 _)).trans (Fr.one _ (z+1+1) 2 _)).trans (Fr.one _ (z+1+1) 3 _)).trans (Fr.one _ (z+1+1) 4 _)) (fun k hk e=>by have:=HZ.out;omega)⟩
set_option maxRecDepth 100000 in
theorem rnext_short(n a b c d:Nat)(hs:(⟨n,a,b,c,d⟩:S).Ok)(byte:Nat)(len dist:Nat)(hb:byte<256)(w:World):Calls Tryz.prog 122 #[.agg #[.int .i64 n,.int .i64 a,.int .i64 b,.int .i64 c,.int .i64 d],.agg #[.int .i64 4,.int .u8 byte,.int .i64 len,.int .i64 dist]] w fun e w'=>e=.returned (.tuple #[.agg #[.int .i64 (movedN n 4),.int .i64 a,.int .i64 b,.int .i64 c,.int .i64 d],.int .i64 0])∧Fr (fun _=>False) w w':=by
 have hy:(⟨4,byte,len,dist⟩:Sy).Ok:=⟨.inr (.inr (.inr rfl)),(fun h=>by simp at h),hb⟩
 have HR:=fun W=>Hd (show Calls Tryz.prog 120 #[.agg #[.int .i64 n,.int .i64 a,.int .i64 b,.int .i64 c,.int .i64 d]] W (fun e w'=>e=.returned (.bool true)∧Fr (fun _=>False) W w') from rright_calls ⟨n,a,b,c,d⟩ hs W)
 have HFM:=fun W=>Hd (show Calls Tryz.prog 146 #[.agg #[.int .i64 4,.int .u8 byte,.int .i64 len,.int .i64 dist]] W (fun e w'=>e=.returned (.int .i64 0)∧Fr (fun _=>False) W w') from(rformed_calls ⟨4,byte,len,dist⟩ hy W).mono (fun e w' h=>by rw[show fe ⟨4,byte,len,dist⟩=0 from by rfl] at h;exact h))
 have HM:=fun W=>Hd (show Calls Tryz.prog 177 #[.int .i64 n,.int .i64 4] W (fun e w'=>e=.returned (.int .i64 (movedN n 4))∧W=w') from moved_calls n 4 hs.num (by decide) W)
 obtain⟨hf3,hsz,b0,b1,b2⟩:=Rc.three w (.cells #[.int .i64 n,.int .i64 a,.int .i64 b,.int .i64 c,.int .i64 d] 89) (.cells #[.int .i64 4,.int .u8 byte,.int .i64 len,.int .i64 dist] 96) (.cells #[.int .i64 0,.int .i64 0,.int .i64 0,.int .i64 0,.int .i64 0] 89)
 have HF3:=Hd hf3
 have HS:=Hd (show∀w':World,Fr (fun _=>False) (((w.alloc (.cells #[.int .i64 n,.int .i64 a,.int .i64 b,.int .i64 c,.int .i64 d] 89)).alloc (.cells #[.int .i64 4,.int .u8 byte,.int .i64 len,.int .i64 dist] 96)).alloc (.cells #[.int .i64 0,.int .i64 0,.int .i64 0,.int .i64 0,.int .i64 0] 89)) w'→_ from fun w' h=>And.intro (h.keep b0 (fun h=>h)) (And.intro (h.keep b1 (fun h=>h)) (h.keep b2 (fun h=>h))))
 clear hf3 hy
 obtain⟨q0,q1,q2,q3,q4⟩:=cs5 b0 rfl rfl rfl rfl rfl
 clear b0 b1 b2
 generalize movedN n 4=mv at*
 go_enter Tryz.func122,Tryz.ntmps122
 go_wp2_with fail
 generalize hz:w.heap.size=z at*
 have HZ:=Hd hz
 have HSZ:=Hd hsz
 clear hz hsz
 generalize World.alloc (World.alloc (World.alloc w _) _) _=W at*
 refine(HR _).out.mono ?_
 rintro e w1 ⟨rfl,hf1⟩
 clear q0 q1 q2 q3 q4
 obtain⟨b0,b1,b2⟩:=HS.out w1 hf1
 obtain⟨y0,y1,y2,y3⟩:=cs4 b1 rfl rfl rfl rfl
 have HF1:=Hd hf1
 clear b0 b1 b2 hf1
 go_wp2_with fail
 refine(HFM _).out.mono ?_
 rintro e w2 ⟨rfl,hf2⟩
 clear y0 y1 y2 y3
 have HF2:=Hd (HF1.out.trans hf2)
 clear hf2 HF1
 obtain⟨b0,b1,b2⟩:=HS.out w2 HF2.out
 have HB:=Hd (And.intro b0 (And.intro b1 b2))
 obtain⟨c0,c1,c2,c3,c4⟩:=cs5 b0 rfl rfl rfl rfl rfl
 have y0:=cell_in (i:=0) b1 rfl
 have y3:=cell_in (i:=3) b1 rfl
 obtain⟨r0,r1,r2,r3,r4,rf⟩:=cf5 b2 rfl rfl rfl rfl rfl
 clear b0 b1 b2
 have HSF:=Hd (show∀w':World,Fr (fun _=>False) w2 w'→w'.cell? ⟨z,0,none⟩=some (.int .i64 n)∧w'.cell? ⟨z,1,none⟩=some (.int .i64 a)∧w'.cell? ⟨z,2,none⟩=some (.int .i64 b)∧w'.cell? ⟨z,3,none⟩=some (.int .i64 c)∧w'.cell? ⟨z,4,none⟩=some (.int .i64 d)∧w'.cell? ⟨z+1,0,none⟩=some (.int .i64 4) from fun w' h=>⟨cell_in (i:=0) (h.keep HB.out.1 (fun h=>h)) rfl,cell_in (i:=1) (h.keep HB.out.1 (fun h=>h)) rfl,cell_in (i:=2) (h.keep HB.out.1 (fun h=>h)) rfl,cell_in (i:=3) (h.keep HB.out.1 (fun h=>h)) rfl,cell_in (i:=4) (h.keep HB.out.1 (fun h=>h)) rfl,cell_in (i:=0) (h.keep HB.out.2.1 (fun h=>h)) rfl⟩)
 have HSC:=Hd (HSF.out _ (Fr.refl _ w2).drew)
 go_wp2_with fail
 go_region_held3 (fun w'=>w'.cell? ⟨z,0,none⟩=some (.int .i64 n)∧w'.cell? ⟨z,1,none⟩=some (.int .i64 a)∧w'.cell? ⟨z,2,none⟩=some (.int .i64 b)∧w'.cell? ⟨z,3,none⟩=some (.int .i64 c)∧w'.cell? ⟨z,4,none⟩=some (.int .i64 d)∧w'.cell? ⟨z+1,0,none⟩=some (.int .i64 4)) (first|with_reducible exact HSC.out|with_reducible exact HSF.out _ ((Fr.refl _ w2).drew.alloc _)|(refine HSF.out _ ?_;(repeat refine Fr.setCell ?_ (.inr (Nat.le_refl _)) _);exact(Fr.refl _ w2).drew.alloc _)) ((first
  | (go_at_call 177
     with_reducible refine(HM _).out.mono ?_
     rintro e wc ⟨rfl,rfl⟩)))
 clear c0 c1 c2 c3 c4 y0 y3 r0 r1 r2 r3 r4 rf HSC HSF
 all_goals
  have hf8:=((Fr.refl (fun _=>False) w2).alloc (.cells #[.int .i64 mv,.int .i64 a,.int .i64 b,.int .i64 c,.int .i64 d] 89)).drew
  have hx8:((w2.alloc (.cells #[.int .i64 mv,.int .i64 a,.int .i64 b,.int .i64 c,.int .i64 d] 89)).drew).heap[w2.heap.size]? =some (.cells #[.int .i64 mv,.int .i64 a,.int .i64 b,.int .i64 c,.int .i64 d] 89 (0,0)):=heap_alloc_new w2 _
  have hz8:z+1+1<w2.heap.size:=by have:=HSZ.out;have:=HF2.out.size;omega
  obtain⟨b0,b1,b2⟩:=HS.out _ (HF2.out.trans hf8)
  have HB8:=Hd (And.intro b0 (And.intro b1 b2))
  have HF8:=Hd (HF3.out.trans (HF2.out.trans hf8))
  have HX8:=Hd hx8
  clear hf8 hx8 b0 b1 b2
  generalize(w2.alloc (.cells #[.int .i64 mv,.int .i64 a,.int .i64 b,.int .i64 c,.int .i64 d] 89)).drew=w8 at*
  generalize w2.heap.size=z8 at*
  obtain⟨c0,c1,c2,c3,c4⟩:=cs5 HB8.out.1 rfl rfl rfl rfl rfl
  have y0:=cell_in (i:=0) HB8.out.2.1 rfl
  have y3:=cell_in (i:=3) HB8.out.2.1 rfl
  obtain⟨t0,t1,t2,t3,t4,tf⟩:=cf5 HX8.out rfl rfl rfl rfl rfl
  obtain⟨r0,r1,r2,r3,r4,rf⟩:=cf5 HB8.out.2.2 rfl rfl rfl rfl rfl
  go_wp2_with fail
  refine bodyPost_ret (v:=.tuple #[.agg #[.int .i64 mv,.int .i64 a,.int .i64 b,.int .i64 c,.int .i64 d],.int .i64 0]) (by simp[results,Tryz.results122,go_sem,r0,r1,r2,r3,r4]) rfl ?_
  exact⟨rfl,(HF8.out).trans' (T:=fun k=>k=z+1+1) (((((Fr.one _ (z+1+1) 0 _).trans (Fr.one _ (z+1+1) 1 _)).trans (Fr.one _ (z+1+1) 2 _)).trans (Fr.one _ (z+1+1) 3 _)).trans (Fr.one _ (z+1+1) 4 _)) (fun k hk e=>by have:=HZ.out;omega)⟩
set_option maxRecDepth 100000 in
theorem rnext_mat(n a b c d:Nat)(hs:(⟨n,a,b,c,d⟩:S).Ok)(byte:Nat)(len dist:Nat)(hb:byte<256)(hl:isL len)(hd:isD dist)(w:World):Calls Tryz.prog 122 #[.agg #[.int .i64 n,.int .i64 a,.int .i64 b,.int .i64 c,.int .i64 d],.agg #[.int .i64 2,.int .u8 byte,.int .i64 len,.int .i64 dist]] w fun e w'=>e=.returned (.tuple #[.agg #[.int .i64 (movedN n 2),.int .i64 dist,.int .i64 a,.int .i64 b,.int .i64 c],.int .i64 0])∧Fr (fun _=>False) w w':=by
 have hy:(⟨2,byte,len,dist⟩:Sy).Ok:=⟨.inr (.inl rfl),(fun h=>by simp at h),hb⟩
 have HR:=fun W=>Hd (show Calls Tryz.prog 120 #[.agg #[.int .i64 n,.int .i64 a,.int .i64 b,.int .i64 c,.int .i64 d]] W (fun e w'=>e=.returned (.bool true)∧Fr (fun _=>False) W w') from rright_calls ⟨n,a,b,c,d⟩ hs W)
 have HFM:=fun W=>Hd (show Calls Tryz.prog 146 #[.agg #[.int .i64 2,.int .u8 byte,.int .i64 len,.int .i64 dist]] W (fun e w'=>e=.returned (.int .i64 0)∧Fr (fun _=>False) W w') from(rformed_calls ⟨2,byte,len,dist⟩ hy W).mono (fun e w' h=>by rw[show fe ⟨2,byte,len,dist⟩=0 from by unfold fe;rw[if_neg (by simp),if_pos rfl,if_pos ⟨hl,hd⟩]] at h;exact h))
 have HM:=fun W=>Hd (show Calls Tryz.prog 177 #[.int .i64 n,.int .i64 2] W (fun e w'=>e=.returned (.int .i64 (movedN n 2))∧W=w') from moved_calls n 2 hs.num (by decide) W)
 obtain⟨hf3,hsz,b0,b1,b2⟩:=Rc.three w (.cells #[.int .i64 n,.int .i64 a,.int .i64 b,.int .i64 c,.int .i64 d] 89) (.cells #[.int .i64 2,.int .u8 byte,.int .i64 len,.int .i64 dist] 96) (.cells #[.int .i64 0,.int .i64 0,.int .i64 0,.int .i64 0,.int .i64 0] 89)
 have HF3:=Hd hf3
 have HS:=Hd (show∀w':World,Fr (fun _=>False) (((w.alloc (.cells #[.int .i64 n,.int .i64 a,.int .i64 b,.int .i64 c,.int .i64 d] 89)).alloc (.cells #[.int .i64 2,.int .u8 byte,.int .i64 len,.int .i64 dist] 96)).alloc (.cells #[.int .i64 0,.int .i64 0,.int .i64 0,.int .i64 0,.int .i64 0] 89)) w'→_ from fun w' h=>And.intro (h.keep b0 (fun h=>h)) (And.intro (h.keep b1 (fun h=>h)) (h.keep b2 (fun h=>h))))
 clear hf3 hy
 obtain⟨q0,q1,q2,q3,q4⟩:=cs5 b0 rfl rfl rfl rfl rfl
 clear b0 b1 b2
 generalize movedN n 2=mv at*
 go_enter Tryz.func122,Tryz.ntmps122
 go_wp2_with fail
 generalize hz:w.heap.size=z at*
 have HZ:=Hd hz
 have HSZ:=Hd hsz
 clear hz hsz
 generalize World.alloc (World.alloc (World.alloc w _) _) _=W at*
 refine(HR _).out.mono ?_
 rintro e w1 ⟨rfl,hf1⟩
 clear q0 q1 q2 q3 q4
 obtain⟨b0,b1,b2⟩:=HS.out w1 hf1
 obtain⟨y0,y1,y2,y3⟩:=cs4 b1 rfl rfl rfl rfl
 have HF1:=Hd hf1
 clear b0 b1 b2 hf1
 go_wp2_with fail
 refine(HFM _).out.mono ?_
 rintro e w2 ⟨rfl,hf2⟩
 clear y0 y1 y2 y3
 have HF2:=Hd (HF1.out.trans hf2)
 clear hf2 HF1
 obtain⟨b0,b1,b2⟩:=HS.out w2 HF2.out
 have HB:=Hd (And.intro b0 (And.intro b1 b2))
 obtain⟨c0,c1,c2,c3,c4⟩:=cs5 b0 rfl rfl rfl rfl rfl
 have y0:=cell_in (i:=0) b1 rfl
 have y3:=cell_in (i:=3) b1 rfl
 obtain⟨r0,r1,r2,r3,r4,rf⟩:=cf5 b2 rfl rfl rfl rfl rfl
 clear b0 b1 b2
 have HSF:=Hd (show∀w':World,Fr (fun _=>False) w2 w'→w'.cell? ⟨z,0,none⟩=some (.int .i64 n)∧w'.cell? ⟨z,1,none⟩=some (.int .i64 a)∧w'.cell? ⟨z,2,none⟩=some (.int .i64 b)∧w'.cell? ⟨z,3,none⟩=some (.int .i64 c)∧w'.cell? ⟨z,4,none⟩=some (.int .i64 d)∧w'.cell? ⟨z+1,0,none⟩=some (.int .i64 2) from fun w' h=>⟨cell_in (i:=0) (h.keep HB.out.1 (fun h=>h)) rfl,cell_in (i:=1) (h.keep HB.out.1 (fun h=>h)) rfl,cell_in (i:=2) (h.keep HB.out.1 (fun h=>h)) rfl,cell_in (i:=3) (h.keep HB.out.1 (fun h=>h)) rfl,cell_in (i:=4) (h.keep HB.out.1 (fun h=>h)) rfl,cell_in (i:=0) (h.keep HB.out.2.1 (fun h=>h)) rfl⟩)
 have HSC:=Hd (HSF.out _ (Fr.refl _ w2).drew)
 go_wp2_with fail
 go_region_held3 (fun w'=>w'.cell? ⟨z,0,none⟩=some (.int .i64 n)∧w'.cell? ⟨z,1,none⟩=some (.int .i64 a)∧w'.cell? ⟨z,2,none⟩=some (.int .i64 b)∧w'.cell? ⟨z,3,none⟩=some (.int .i64 c)∧w'.cell? ⟨z,4,none⟩=some (.int .i64 d)∧w'.cell? ⟨z+1,0,none⟩=some (.int .i64 2)) (first|with_reducible exact HSC.out|with_reducible exact HSF.out _ ((Fr.refl _ w2).drew.alloc _)|(refine HSF.out _ ?_;(repeat refine Fr.setCell ?_ (.inr (Nat.le_refl _)) _);exact(Fr.refl _ w2).drew.alloc _)) ((first
  | (go_at_call 177
     with_reducible refine(HM _).out.mono ?_
     rintro e wc ⟨rfl,rfl⟩)))
 clear c0 c1 c2 c3 c4 y0 y3 r0 r1 r2 r3 r4 rf HSC HSF
 all_goals
  have hf8:=((Fr.refl (fun _=>False) w2).alloc (.cells #[.int .i64 mv,.int .i64 a,.int .i64 b,.int .i64 c,.int .i64 d] 89)).drew
  have hx8:((w2.alloc (.cells #[.int .i64 mv,.int .i64 a,.int .i64 b,.int .i64 c,.int .i64 d] 89)).drew).heap[w2.heap.size]? =some (.cells #[.int .i64 mv,.int .i64 a,.int .i64 b,.int .i64 c,.int .i64 d] 89 (0,0)):=heap_alloc_new w2 _
  have hz8:z+1+1<w2.heap.size:=by have:=HSZ.out;have:=HF2.out.size;omega
  obtain⟨b0,b1,b2⟩:=HS.out _ (HF2.out.trans hf8)
  have HB8:=Hd (And.intro b0 (And.intro b1 b2))
  have HF8:=Hd (HF3.out.trans (HF2.out.trans hf8))
  have HX8:=Hd hx8
  clear hf8 hx8 b0 b1 b2
  generalize(w2.alloc (.cells #[.int .i64 mv,.int .i64 a,.int .i64 b,.int .i64 c,.int .i64 d] 89)).drew=w8 at*
  generalize w2.heap.size=z8 at*
  obtain⟨c0,c1,c2,c3,c4⟩:=cs5 HB8.out.1 rfl rfl rfl rfl rfl
  have y0:=cell_in (i:=0) HB8.out.2.1 rfl
  have y3:=cell_in (i:=3) HB8.out.2.1 rfl
  obtain⟨t0,t1,t2,t3,t4,tf⟩:=cf5 HX8.out rfl rfl rfl rfl rfl
  obtain⟨r0,r1,r2,r3,r4,rf⟩:=cf5 HB8.out.2.2 rfl rfl rfl rfl rfl
  go_wp2_with fail
  refine bodyPost_ret (v:=.tuple #[.agg #[.int .i64 mv,.int .i64 dist,.int .i64 a,.int .i64 b,.int .i64 c],.int .i64 0]) (by simp[results,Tryz.results122,go_sem,r0,r1,r2,r3,r4]) rfl ?_
  exact⟨rfl,(HF8.out.trans' (T:=fun k=>k=z8) ((((Fr.one _ z8 1 _).trans (Fr.one _ z8 2 _)).trans (Fr.one _ z8 3 _)).trans (Fr.one _ z8 4 _)) (fun k hk e=>by have:=HZ.out;omega)).trans' (T:=fun k=>k=z+1+1) (((((Fr.one _ (z+1+1) 0 _).trans (Fr.one _ (z+1+1) 1 _)).trans (Fr.one _ (z+1+1) 2 _)).trans (Fr.one _ (z+1+1) 3 _)).trans (Fr.one _ (z+1+1) 4 _)) (fun k hk e=>by have:=HZ.out;omega)⟩
set_option maxRecDepth 100000 in
theorem rnext_rep0(n a b c d:Nat)(hs:(⟨n,a,b,c,d⟩:S).Ok)(byte:Nat)(len:Nat)(hb:byte<256)(hl:isL len)(w:World):Calls Tryz.prog 122 #[.agg #[.int .i64 n,.int .i64 a,.int .i64 b,.int .i64 c,.int .i64 d],.agg #[.int .i64 3,.int .u8 byte,.int .i64 len,.int .i64 0]] w fun e w'=>e=.returned (.tuple #[.agg #[.int .i64 (movedN n 3),.int .i64 a,.int .i64 b,.int .i64 c,.int .i64 d],.int .i64 0])∧Fr (fun _=>False) w w':=by
 have hy:(⟨3,byte,len,0⟩:Sy).Ok:=⟨.inr (.inr (.inl rfl)),(fun _=>show(0:Nat)≤3 by decide),hb⟩
 have HR:=fun W=>Hd (show Calls Tryz.prog 120 #[.agg #[.int .i64 n,.int .i64 a,.int .i64 b,.int .i64 c,.int .i64 d]] W (fun e w'=>e=.returned (.bool true)∧Fr (fun _=>False) W w') from rright_calls ⟨n,a,b,c,d⟩ hs W)
 have HFM:=fun W=>Hd (show Calls Tryz.prog 146 #[.agg #[.int .i64 3,.int .u8 byte,.int .i64 len,.int .i64 0]] W (fun e w'=>e=.returned (.int .i64 0)∧Fr (fun _=>False) W w') from(rformed_calls ⟨3,byte,len,0⟩ hy W).mono (fun e w' h=>by rw[show fe ⟨3,byte,len,0⟩=0 from by unfold fe;rw[if_neg (by simp),if_neg (by simp),if_pos hl]] at h;exact h))
 have HM:=fun W=>Hd (show Calls Tryz.prog 177 #[.int .i64 n,.int .i64 3] W (fun e w'=>e=.returned (.int .i64 (movedN n 3))∧W=w') from moved_calls n 3 hs.num (by decide) W)
 obtain⟨hf3,hsz,b0,b1,b2⟩:=Rc.three w (.cells #[.int .i64 n,.int .i64 a,.int .i64 b,.int .i64 c,.int .i64 d] 89) (.cells #[.int .i64 3,.int .u8 byte,.int .i64 len,.int .i64 0] 96) (.cells #[.int .i64 0,.int .i64 0,.int .i64 0,.int .i64 0,.int .i64 0] 89)
 have HF3:=Hd hf3
 have HS:=Hd (show∀w':World,Fr (fun _=>False) (((w.alloc (.cells #[.int .i64 n,.int .i64 a,.int .i64 b,.int .i64 c,.int .i64 d] 89)).alloc (.cells #[.int .i64 3,.int .u8 byte,.int .i64 len,.int .i64 0] 96)).alloc (.cells #[.int .i64 0,.int .i64 0,.int .i64 0,.int .i64 0,.int .i64 0] 89)) w'→_ from fun w' h=>And.intro (h.keep b0 (fun h=>h)) (And.intro (h.keep b1 (fun h=>h)) (h.keep b2 (fun h=>h))))
 clear hf3 hy
 obtain⟨q0,q1,q2,q3,q4⟩:=cs5 b0 rfl rfl rfl rfl rfl
 clear b0 b1 b2
 generalize movedN n 3=mv at*
 go_enter Tryz.func122,Tryz.ntmps122
 go_wp2_with fail
 generalize hz:w.heap.size=z at*
 have HZ:=Hd hz
 have HSZ:=Hd hsz
 clear hz hsz
 generalize World.alloc (World.alloc (World.alloc w _) _) _=W at*
 refine(HR _).out.mono ?_
 rintro e w1 ⟨rfl,hf1⟩
 clear q0 q1 q2 q3 q4
 obtain⟨b0,b1,b2⟩:=HS.out w1 hf1
 obtain⟨y0,y1,y2,y3⟩:=cs4 b1 rfl rfl rfl rfl
 have HF1:=Hd hf1
 clear b0 b1 b2 hf1
 go_wp2_with fail
 refine(HFM _).out.mono ?_
 rintro e w2 ⟨rfl,hf2⟩
 clear y0 y1 y2 y3
 have HF2:=Hd (HF1.out.trans hf2)
 clear hf2 HF1
 obtain⟨b0,b1,b2⟩:=HS.out w2 HF2.out
 have HB:=Hd (And.intro b0 (And.intro b1 b2))
 obtain⟨c0,c1,c2,c3,c4⟩:=cs5 b0 rfl rfl rfl rfl rfl
 have y0:=cell_in (i:=0) b1 rfl
 have y3:=cell_in (i:=3) b1 rfl
 obtain⟨r0,r1,r2,r3,r4,rf⟩:=cf5 b2 rfl rfl rfl rfl rfl
 clear b0 b1 b2
 have HSF:=Hd (show∀w':World,Fr (fun _=>False) w2 w'→w'.cell? ⟨z,0,none⟩=some (.int .i64 n)∧w'.cell? ⟨z,1,none⟩=some (.int .i64 a)∧w'.cell? ⟨z,2,none⟩=some (.int .i64 b)∧w'.cell? ⟨z,3,none⟩=some (.int .i64 c)∧w'.cell? ⟨z,4,none⟩=some (.int .i64 d)∧w'.cell? ⟨z+1,0,none⟩=some (.int .i64 3) from fun w' h=>⟨cell_in (i:=0) (h.keep HB.out.1 (fun h=>h)) rfl,cell_in (i:=1) (h.keep HB.out.1 (fun h=>h)) rfl,cell_in (i:=2) (h.keep HB.out.1 (fun h=>h)) rfl,cell_in (i:=3) (h.keep HB.out.1 (fun h=>h)) rfl,cell_in (i:=4) (h.keep HB.out.1 (fun h=>h)) rfl,cell_in (i:=0) (h.keep HB.out.2.1 (fun h=>h)) rfl⟩)
 have HSC:=Hd (HSF.out _ (Fr.refl _ w2).drew)
 go_wp2_with fail
 go_region_held3 (fun w'=>w'.cell? ⟨z,0,none⟩=some (.int .i64 n)∧w'.cell? ⟨z,1,none⟩=some (.int .i64 a)∧w'.cell? ⟨z,2,none⟩=some (.int .i64 b)∧w'.cell? ⟨z,3,none⟩=some (.int .i64 c)∧w'.cell? ⟨z,4,none⟩=some (.int .i64 d)∧w'.cell? ⟨z+1,0,none⟩=some (.int .i64 3)) (first|with_reducible exact HSC.out|with_reducible exact HSF.out _ ((Fr.refl _ w2).drew.alloc _)|(refine HSF.out _ ?_;(repeat refine Fr.setCell ?_ (.inr (Nat.le_refl _)) _);exact(Fr.refl _ w2).drew.alloc _)) ((first
  | (go_at_call 177
     with_reducible refine(HM _).out.mono ?_
     rintro e wc ⟨rfl,rfl⟩)))
 clear c0 c1 c2 c3 c4 y0 y3 r0 r1 r2 r3 r4 rf HSC HSF
 all_goals
  have hf8:=((Fr.refl (fun _=>False) w2).alloc (.cells #[.int .i64 mv,.int .i64 a,.int .i64 b,.int .i64 c,.int .i64 d] 89)).drew
  have hx8:((w2.alloc (.cells #[.int .i64 mv,.int .i64 a,.int .i64 b,.int .i64 c,.int .i64 d] 89)).drew).heap[w2.heap.size]? =some (.cells #[.int .i64 mv,.int .i64 a,.int .i64 b,.int .i64 c,.int .i64 d] 89 (0,0)):=heap_alloc_new w2 _
  have hz8:z+1+1<w2.heap.size:=by have:=HSZ.out;have:=HF2.out.size;omega
  obtain⟨b0,b1,b2⟩:=HS.out _ (HF2.out.trans hf8)
  have HB8:=Hd (And.intro b0 (And.intro b1 b2))
  have HF8:=Hd (HF3.out.trans (HF2.out.trans hf8))
  have HX8:=Hd hx8
  clear hf8 hx8 b0 b1 b2
  generalize(w2.alloc (.cells #[.int .i64 mv,.int .i64 a,.int .i64 b,.int .i64 c,.int .i64 d] 89)).drew=w8 at*
  generalize w2.heap.size=z8 at*
  obtain⟨c0,c1,c2,c3,c4⟩:=cs5 HB8.out.1 rfl rfl rfl rfl rfl
  have y0:=cell_in (i:=0) HB8.out.2.1 rfl
  have y3:=cell_in (i:=3) HB8.out.2.1 rfl
  obtain⟨t0,t1,t2,t3,t4,tf⟩:=cf5 HX8.out rfl rfl rfl rfl rfl
  go_wp2_with fail
  go_loopw [9,10] (fun kv iv wr=>(kv=.int .i64 0∧iv=.int .i64 0∧Fr (fun k=>k=z8) w8 wr∧wr.heap[z8]? =some (.cells #[.int .i64 mv,.int .i64 a,.int .i64 b,.int .i64 c,.int .i64 d] 89 (0,0)))∨(kv=.int .i64 0∧iv=.int .i64 1∧Fr (fun k=>k=z8) w8 wr∧wr.heap[z8]? =some (.cells #[.int .i64 mv,.int .i64 a,.int .i64 b,.int .i64 c,.int .i64 d] 89 (0,0)))∨(kv=.int .i64 1∧iv=.int .i64 2∧Fr (fun k=>k=z8) w8 wr∧wr.heap[z8]? =some (.cells #[.int .i64 mv,.int .i64 a,.int .i64 b,.int .i64 c,.int .i64 d] 89 (0,0)))∨(kv=.int .i64 2∧iv=.int .i64 3∧Fr (fun k=>k=z8) w8 wr∧wr.heap[z8]? =some (.cells #[.int .i64 mv,.int .i64 a,.int .i64 b,.int .i64 c,.int .i64 d] 89 (0,0)))∨(kv=.int .i64 3∧iv=.int .i64 4∧Fr (fun k=>k=z8) w8 wr∧wr.heap[z8]? =some (.cells #[.int .i64 mv,.int .i64 a,.int .i64 b,.int .i64 c,.int .i64 d] 89 (0,0)))) (fun _ i _=>4-(intOf i).toNat)
  case atStart=>exact .inl (⟨rfl,rfl,Fr.one _ z8 1 _,set_in HX8.out 1 _⟩)
  case round=>
   obtain⟨rfl,rfl,hfr,hx⟩|⟨rfl,rfl,hfr,hx⟩|⟨rfl,rfl,hfr,hx⟩|⟨rfl,rfl,hfr,hx⟩|⟨rfl,rfl,hfr,hx⟩:=hrel
   ·have g0:=hfr.keep HB8.out.1 (fun e=>by omega)
    have g1:=hfr.keep HB8.out.2.1 (fun e=>by omega)
    have g2:=hfr.keep HB8.out.2.2 (fun e=>by omega)
    clear c0 c1 c2 c3 c4 y0 y3 t0 t1 t2 t3 t4 tf
    obtain⟨c0,c1,c2,c3,c4⟩:=cs5 g0 rfl rfl rfl rfl rfl
    have y0:=cell_in (i:=0) g1 rfl
    have y3:=cell_in (i:=3) g1 rfl
    obtain⟨t0,t1,t2,t3,t4,tf⟩:=cf5 hx rfl rfl rfl rfl rfl
    have HFR:=Hd hfr
    have HX:=Hd hx
    clear g0 g1 g2 hfr hx
    go_wp2_with fail
    go_roundw
    case rel=>exact .inr (.inl (⟨rfl,rfl,HFR.out,HX.out⟩))
    case measure=>first|(simp[intOf];done)|decide
   ·have g0:=hfr.keep HB8.out.1 (fun e=>by omega)
    have g1:=hfr.keep HB8.out.2.1 (fun e=>by omega)
    have g2:=hfr.keep HB8.out.2.2 (fun e=>by omega)
    clear c0 c1 c2 c3 c4 y0 y3 t0 t1 t2 t3 t4 tf
    obtain⟨c0,c1,c2,c3,c4⟩:=cs5 g0 rfl rfl rfl rfl rfl
    have y0:=cell_in (i:=0) g1 rfl
    have y3:=cell_in (i:=3) g1 rfl
    obtain⟨t0,t1,t2,t3,t4,tf⟩:=cf5 hx rfl rfl rfl rfl rfl
    have HFR:=Hd hfr
    have HX:=Hd hx
    clear g0 g1 g2 hfr hx
    go_wp2_with fail
    go_roundw
    case rel=>exact .inr (.inr (.inl (⟨rfl,rfl,HFR.out.trans (Fr.one _ z8 2 _),set_in HX.out 2 _⟩)))
    case measure=>first|(simp[intOf];done)|decide
   ·have g0:=hfr.keep HB8.out.1 (fun e=>by omega)
    have g1:=hfr.keep HB8.out.2.1 (fun e=>by omega)
    have g2:=hfr.keep HB8.out.2.2 (fun e=>by omega)
    clear c0 c1 c2 c3 c4 y0 y3 t0 t1 t2 t3 t4 tf
    obtain⟨c0,c1,c2,c3,c4⟩:=cs5 g0 rfl rfl rfl rfl rfl
    have y0:=cell_in (i:=0) g1 rfl
    have y3:=cell_in (i:=3) g1 rfl
    obtain⟨t0,t1,t2,t3,t4,tf⟩:=cf5 hx rfl rfl rfl rfl rfl
    have HFR:=Hd hfr
    have HX:=Hd hx
    clear g0 g1 g2 hfr hx
    go_wp2_with fail
    go_roundw
    case rel=>exact .inr (.inr (.inr (.inl (⟨rfl,rfl,HFR.out.trans (Fr.one _ z8 3 _),set_in HX.out 3 _⟩))))
    case measure=>first|(simp[intOf];done)|decide
   ·have g0:=hfr.keep HB8.out.1 (fun e=>by omega)
    have g1:=hfr.keep HB8.out.2.1 (fun e=>by omega)
    have g2:=hfr.keep HB8.out.2.2 (fun e=>by omega)
    clear c0 c1 c2 c3 c4 y0 y3 t0 t1 t2 t3 t4 tf
    obtain⟨c0,c1,c2,c3,c4⟩:=cs5 g0 rfl rfl rfl rfl rfl
    have y0:=cell_in (i:=0) g1 rfl
    have y3:=cell_in (i:=3) g1 rfl
    obtain⟨t0,t1,t2,t3,t4,tf⟩:=cf5 hx rfl rfl rfl rfl rfl
    have HFR:=Hd hfr
    have HX:=Hd hx
    clear g0 g1 g2 hfr hx
    go_wp2_with fail
    go_roundw
    case rel=>exact .inr (.inr (.inr (.inr (⟨rfl,rfl,HFR.out.trans (Fr.one _ z8 4 _),set_in HX.out 4 _⟩))))
    case measure=>first|(simp[intOf];done)|decide
   ·have g0:=hfr.keep HB8.out.1 (fun e=>by omega)
    have g1:=hfr.keep HB8.out.2.1 (fun e=>by omega)
    have g2:=hfr.keep HB8.out.2.2 (fun e=>by omega)
    clear c0 c1 c2 c3 c4 y0 y3 t0 t1 t2 t3 t4 tf
    obtain⟨c0,c1,c2,c3,c4⟩:=cs5 g0 rfl rfl rfl rfl rfl
    have y0:=cell_in (i:=0) g1 rfl
    have y3:=cell_in (i:=3) g1 rfl
    obtain⟨t0,t1,t2,t3,t4,tf⟩:=cf5 hx rfl rfl rfl rfl rfl
    have HFR:=Hd hfr
    have HX:=Hd hx
    obtain⟨r0,r1,r2,r3,r4,rf⟩:=cf5 g2 rfl rfl rfl rfl rfl
    clear g0 g1 g2 hfr hx
    go_wp2_with fail
    refine bodyPost_ret (v:=.tuple #[.agg #[.int .i64 mv,.int .i64 a,.int .i64 b,.int .i64 c,.int .i64 d],.int .i64 0]) (by simp[results,Tryz.results122,go_sem,r0,r1,r2,r3,r4]) rfl ?_
    exact⟨rfl,(HF8.out.trans' HFR.out (fun k hk e=>by have:=HZ.out;omega)).trans' (T:=fun k=>k=z+1+1) (((((Fr.one _ (z+1+1) 0 _).trans (Fr.one _ (z+1+1) 1 _)).trans (Fr.one _ (z+1+1) 2 _)).trans (Fr.one _ (z+1+1) 3 _)).trans (Fr.one _ (z+1+1) 4 _)) (fun k hk e=>by have:=HZ.out;omega)⟩
set_option maxRecDepth 100000 in
theorem rnext_rep1(n a b c d:Nat)(hs:(⟨n,a,b,c,d⟩:S).Ok)(byte:Nat)(len:Nat)(hb:byte<256)(hl:isL len)(w:World):Calls Tryz.prog 122 #[.agg #[.int .i64 n,.int .i64 a,.int .i64 b,.int .i64 c,.int .i64 d],.agg #[.int .i64 3,.int .u8 byte,.int .i64 len,.int .i64 1]] w fun e w'=>e=.returned (.tuple #[.agg #[.int .i64 (movedN n 3),.int .i64 b,.int .i64 a,.int .i64 c,.int .i64 d],.int .i64 0])∧Fr (fun _=>False) w w':=by
 have hy:(⟨3,byte,len,1⟩:Sy).Ok:=⟨.inr (.inr (.inl rfl)),(fun _=>show(1:Nat)≤3 by decide),hb⟩
 have HR:=fun W=>Hd (show Calls Tryz.prog 120 #[.agg #[.int .i64 n,.int .i64 a,.int .i64 b,.int .i64 c,.int .i64 d]] W (fun e w'=>e=.returned (.bool true)∧Fr (fun _=>False) W w') from rright_calls ⟨n,a,b,c,d⟩ hs W)
 have HFM:=fun W=>Hd (show Calls Tryz.prog 146 #[.agg #[.int .i64 3,.int .u8 byte,.int .i64 len,.int .i64 1]] W (fun e w'=>e=.returned (.int .i64 0)∧Fr (fun _=>False) W w') from(rformed_calls ⟨3,byte,len,1⟩ hy W).mono (fun e w' h=>by rw[show fe ⟨3,byte,len,1⟩=0 from by unfold fe;rw[if_neg (by simp),if_neg (by simp),if_pos hl]] at h;exact h))
 have HM:=fun W=>Hd (show Calls Tryz.prog 177 #[.int .i64 n,.int .i64 3] W (fun e w'=>e=.returned (.int .i64 (movedN n 3))∧W=w') from moved_calls n 3 hs.num (by decide) W)
 obtain⟨hf3,hsz,b0,b1,b2⟩:=Rc.three w (.cells #[.int .i64 n,.int .i64 a,.int .i64 b,.int .i64 c,.int .i64 d] 89) (.cells #[.int .i64 3,.int .u8 byte,.int .i64 len,.int .i64 1] 96) (.cells #[.int .i64 0,.int .i64 0,.int .i64 0,.int .i64 0,.int .i64 0] 89)
 have HF3:=Hd hf3
 have HS:=Hd (show∀w':World,Fr (fun _=>False) (((w.alloc (.cells #[.int .i64 n,.int .i64 a,.int .i64 b,.int .i64 c,.int .i64 d] 89)).alloc (.cells #[.int .i64 3,.int .u8 byte,.int .i64 len,.int .i64 1] 96)).alloc (.cells #[.int .i64 0,.int .i64 0,.int .i64 0,.int .i64 0,.int .i64 0] 89)) w'→_ from fun w' h=>And.intro (h.keep b0 (fun h=>h)) (And.intro (h.keep b1 (fun h=>h)) (h.keep b2 (fun h=>h))))
 clear hf3 hy
 obtain⟨q0,q1,q2,q3,q4⟩:=cs5 b0 rfl rfl rfl rfl rfl
 clear b0 b1 b2
 generalize movedN n 3=mv at*
 go_enter Tryz.func122,Tryz.ntmps122
 go_wp2_with fail
 generalize hz:w.heap.size=z at*
 have HZ:=Hd hz
 have HSZ:=Hd hsz
 clear hz hsz
 generalize World.alloc (World.alloc (World.alloc w _) _) _=W at*
 refine(HR _).out.mono ?_
 rintro e w1 ⟨rfl,hf1⟩
 clear q0 q1 q2 q3 q4
 obtain⟨b0,b1,b2⟩:=HS.out w1 hf1
 obtain⟨y0,y1,y2,y3⟩:=cs4 b1 rfl rfl rfl rfl
 have HF1:=Hd hf1
 clear b0 b1 b2 hf1
 go_wp2_with fail
 refine(HFM _).out.mono ?_
 rintro e w2 ⟨rfl,hf2⟩
 clear y0 y1 y2 y3
 have HF2:=Hd (HF1.out.trans hf2)
 clear hf2 HF1
 obtain⟨b0,b1,b2⟩:=HS.out w2 HF2.out
 have HB:=Hd (And.intro b0 (And.intro b1 b2))
 obtain⟨c0,c1,c2,c3,c4⟩:=cs5 b0 rfl rfl rfl rfl rfl
 have y0:=cell_in (i:=0) b1 rfl
 have y3:=cell_in (i:=3) b1 rfl
 obtain⟨r0,r1,r2,r3,r4,rf⟩:=cf5 b2 rfl rfl rfl rfl rfl
 clear b0 b1 b2
 have HSF:=Hd (show∀w':World,Fr (fun _=>False) w2 w'→w'.cell? ⟨z,0,none⟩=some (.int .i64 n)∧w'.cell? ⟨z,1,none⟩=some (.int .i64 a)∧w'.cell? ⟨z,2,none⟩=some (.int .i64 b)∧w'.cell? ⟨z,3,none⟩=some (.int .i64 c)∧w'.cell? ⟨z,4,none⟩=some (.int .i64 d)∧w'.cell? ⟨z+1,0,none⟩=some (.int .i64 3) from fun w' h=>⟨cell_in (i:=0) (h.keep HB.out.1 (fun h=>h)) rfl,cell_in (i:=1) (h.keep HB.out.1 (fun h=>h)) rfl,cell_in (i:=2) (h.keep HB.out.1 (fun h=>h)) rfl,cell_in (i:=3) (h.keep HB.out.1 (fun h=>h)) rfl,cell_in (i:=4) (h.keep HB.out.1 (fun h=>h)) rfl,cell_in (i:=0) (h.keep HB.out.2.1 (fun h=>h)) rfl⟩)
 have HSC:=Hd (HSF.out _ (Fr.refl _ w2).drew)
 go_wp2_with fail
 go_region_held3 (fun w'=>w'.cell? ⟨z,0,none⟩=some (.int .i64 n)∧w'.cell? ⟨z,1,none⟩=some (.int .i64 a)∧w'.cell? ⟨z,2,none⟩=some (.int .i64 b)∧w'.cell? ⟨z,3,none⟩=some (.int .i64 c)∧w'.cell? ⟨z,4,none⟩=some (.int .i64 d)∧w'.cell? ⟨z+1,0,none⟩=some (.int .i64 3)) (first|with_reducible exact HSC.out|with_reducible exact HSF.out _ ((Fr.refl _ w2).drew.alloc _)|(refine HSF.out _ ?_;(repeat refine Fr.setCell ?_ (.inr (Nat.le_refl _)) _);exact(Fr.refl _ w2).drew.alloc _)) ((first
  | (go_at_call 177
     with_reducible refine(HM _).out.mono ?_
     rintro e wc ⟨rfl,rfl⟩)))
 clear c0 c1 c2 c3 c4 y0 y3 r0 r1 r2 r3 r4 rf HSC HSF
 all_goals
  have hf8:=((Fr.refl (fun _=>False) w2).alloc (.cells #[.int .i64 mv,.int .i64 a,.int .i64 b,.int .i64 c,.int .i64 d] 89)).drew
  have hx8:((w2.alloc (.cells #[.int .i64 mv,.int .i64 a,.int .i64 b,.int .i64 c,.int .i64 d] 89)).drew).heap[w2.heap.size]? =some (.cells #[.int .i64 mv,.int .i64 a,.int .i64 b,.int .i64 c,.int .i64 d] 89 (0,0)):=heap_alloc_new w2 _
  have hz8:z+1+1<w2.heap.size:=by have:=HSZ.out;have:=HF2.out.size;omega
  obtain⟨b0,b1,b2⟩:=HS.out _ (HF2.out.trans hf8)
  have HB8:=Hd (And.intro b0 (And.intro b1 b2))
  have HF8:=Hd (HF3.out.trans (HF2.out.trans hf8))
  have HX8:=Hd hx8
  clear hf8 hx8 b0 b1 b2
  generalize(w2.alloc (.cells #[.int .i64 mv,.int .i64 a,.int .i64 b,.int .i64 c,.int .i64 d] 89)).drew=w8 at*
  generalize w2.heap.size=z8 at*
  obtain⟨c0,c1,c2,c3,c4⟩:=cs5 HB8.out.1 rfl rfl rfl rfl rfl
  have y0:=cell_in (i:=0) HB8.out.2.1 rfl
  have y3:=cell_in (i:=3) HB8.out.2.1 rfl
  obtain⟨t0,t1,t2,t3,t4,tf⟩:=cf5 HX8.out rfl rfl rfl rfl rfl
  go_wp2_with fail
  go_loopw [9,10] (fun kv iv wr=>(kv=.int .i64 0∧iv=.int .i64 0∧Fr (fun k=>k=z8) w8 wr∧wr.heap[z8]? =some (.cells #[.int .i64 mv,.int .i64 b,.int .i64 b,.int .i64 c,.int .i64 d] 89 (0,0)))∨(kv=.int .i64 1∧iv=.int .i64 1∧Fr (fun k=>k=z8) w8 wr∧wr.heap[z8]? =some (.cells #[.int .i64 mv,.int .i64 b,.int .i64 a,.int .i64 c,.int .i64 d] 89 (0,0)))∨(kv=.int .i64 1∧iv=.int .i64 2∧Fr (fun k=>k=z8) w8 wr∧wr.heap[z8]? =some (.cells #[.int .i64 mv,.int .i64 b,.int .i64 a,.int .i64 c,.int .i64 d] 89 (0,0)))∨(kv=.int .i64 2∧iv=.int .i64 3∧Fr (fun k=>k=z8) w8 wr∧wr.heap[z8]? =some (.cells #[.int .i64 mv,.int .i64 b,.int .i64 a,.int .i64 c,.int .i64 d] 89 (0,0)))∨(kv=.int .i64 3∧iv=.int .i64 4∧Fr (fun k=>k=z8) w8 wr∧wr.heap[z8]? =some (.cells #[.int .i64 mv,.int .i64 b,.int .i64 a,.int .i64 c,.int .i64 d] 89 (0,0)))) (fun _ i _=>4-(intOf i).toNat)
  case atStart=>exact .inl (⟨rfl,rfl,Fr.one _ z8 1 _,set_in HX8.out 1 _⟩)
  case round=>
   obtain⟨rfl,rfl,hfr,hx⟩|⟨rfl,rfl,hfr,hx⟩|⟨rfl,rfl,hfr,hx⟩|⟨rfl,rfl,hfr,hx⟩|⟨rfl,rfl,hfr,hx⟩:=hrel
   ·have g0:=hfr.keep HB8.out.1 (fun e=>by omega)
    have g1:=hfr.keep HB8.out.2.1 (fun e=>by omega)
    have g2:=hfr.keep HB8.out.2.2 (fun e=>by omega)
    clear c0 c1 c2 c3 c4 y0 y3 t0 t1 t2 t3 t4 tf
    obtain⟨c0,c1,c2,c3,c4⟩:=cs5 g0 rfl rfl rfl rfl rfl
    have y0:=cell_in (i:=0) g1 rfl
    have y3:=cell_in (i:=3) g1 rfl
    obtain⟨t0,t1,t2,t3,t4,tf⟩:=cf5 hx rfl rfl rfl rfl rfl
    have HFR:=Hd hfr
    have HX:=Hd hx
    clear g0 g1 g2 hfr hx
    go_wp2_with fail
    go_roundw
    case rel=>exact .inr (.inl (⟨rfl,rfl,HFR.out.trans (Fr.one _ z8 2 _),set_in HX.out 2 _⟩))
    case measure=>first|(simp[intOf];done)|decide
   ·have g0:=hfr.keep HB8.out.1 (fun e=>by omega)
    have g1:=hfr.keep HB8.out.2.1 (fun e=>by omega)
    have g2:=hfr.keep HB8.out.2.2 (fun e=>by omega)
    clear c0 c1 c2 c3 c4 y0 y3 t0 t1 t2 t3 t4 tf
    obtain⟨c0,c1,c2,c3,c4⟩:=cs5 g0 rfl rfl rfl rfl rfl
    have y0:=cell_in (i:=0) g1 rfl
    have y3:=cell_in (i:=3) g1 rfl
    obtain⟨t0,t1,t2,t3,t4,tf⟩:=cf5 hx rfl rfl rfl rfl rfl
    have HFR:=Hd hfr
    have HX:=Hd hx
    clear g0 g1 g2 hfr hx
    go_wp2_with fail
    go_roundw
    case rel=>exact .inr (.inr (.inl (⟨rfl,rfl,HFR.out,HX.out⟩)))
    case measure=>first|(simp[intOf];done)|decide
   ·have g0:=hfr.keep HB8.out.1 (fun e=>by omega)
    have g1:=hfr.keep HB8.out.2.1 (fun e=>by omega)
    have g2:=hfr.keep HB8.out.2.2 (fun e=>by omega)
    clear c0 c1 c2 c3 c4 y0 y3 t0 t1 t2 t3 t4 tf
    obtain⟨c0,c1,c2,c3,c4⟩:=cs5 g0 rfl rfl rfl rfl rfl
    have y0:=cell_in (i:=0) g1 rfl
    have y3:=cell_in (i:=3) g1 rfl
    obtain⟨t0,t1,t2,t3,t4,tf⟩:=cf5 hx rfl rfl rfl rfl rfl
    have HFR:=Hd hfr
    have HX:=Hd hx
    clear g0 g1 g2 hfr hx
    go_wp2_with fail
    go_roundw
    case rel=>exact .inr (.inr (.inr (.inl (⟨rfl,rfl,HFR.out.trans (Fr.one _ z8 3 _),set_in HX.out 3 _⟩))))
    case measure=>first|(simp[intOf];done)|decide
   ·have g0:=hfr.keep HB8.out.1 (fun e=>by omega)
    have g1:=hfr.keep HB8.out.2.1 (fun e=>by omega)
    have g2:=hfr.keep HB8.out.2.2 (fun e=>by omega)
    clear c0 c1 c2 c3 c4 y0 y3 t0 t1 t2 t3 t4 tf
    obtain⟨c0,c1,c2,c3,c4⟩:=cs5 g0 rfl rfl rfl rfl rfl
    have y0:=cell_in (i:=0) g1 rfl
    have y3:=cell_in (i:=3) g1 rfl
    obtain⟨t0,t1,t2,t3,t4,tf⟩:=cf5 hx rfl rfl rfl rfl rfl
    have HFR:=Hd hfr
    have HX:=Hd hx
    clear g0 g1 g2 hfr hx
    go_wp2_with fail
    go_roundw
    case rel=>exact .inr (.inr (.inr (.inr (⟨rfl,rfl,HFR.out.trans (Fr.one _ z8 4 _),set_in HX.out 4 _⟩))))
    case measure=>first|(simp[intOf];done)|decide
   ·have g0:=hfr.keep HB8.out.1 (fun e=>by omega)
    have g1:=hfr.keep HB8.out.2.1 (fun e=>by omega)
    have g2:=hfr.keep HB8.out.2.2 (fun e=>by omega)
    clear c0 c1 c2 c3 c4 y0 y3 t0 t1 t2 t3 t4 tf
    obtain⟨c0,c1,c2,c3,c4⟩:=cs5 g0 rfl rfl rfl rfl rfl
    have y0:=cell_in (i:=0) g1 rfl
    have y3:=cell_in (i:=3) g1 rfl
    obtain⟨t0,t1,t2,t3,t4,tf⟩:=cf5 hx rfl rfl rfl rfl rfl
    have HFR:=Hd hfr
    have HX:=Hd hx
    obtain⟨r0,r1,r2,r3,r4,rf⟩:=cf5 g2 rfl rfl rfl rfl rfl
    clear g0 g1 g2 hfr hx
    go_wp2_with fail
    refine bodyPost_ret (v:=.tuple #[.agg #[.int .i64 mv,.int .i64 b,.int .i64 a,.int .i64 c,.int .i64 d],.int .i64 0]) (by simp[results,Tryz.results122,go_sem,r0,r1,r2,r3,r4]) rfl ?_
    exact⟨rfl,(HF8.out.trans' HFR.out (fun k hk e=>by have:=HZ.out;omega)).trans' (T:=fun k=>k=z+1+1) (((((Fr.one _ (z+1+1) 0 _).trans (Fr.one _ (z+1+1) 1 _)).trans (Fr.one _ (z+1+1) 2 _)).trans (Fr.one _ (z+1+1) 3 _)).trans (Fr.one _ (z+1+1) 4 _)) (fun k hk e=>by have:=HZ.out;omega)⟩
set_option maxRecDepth 100000 in
theorem rnext_rep2(n a b c d:Nat)(hs:(⟨n,a,b,c,d⟩:S).Ok)(byte:Nat)(len:Nat)(hb:byte<256)(hl:isL len)(w:World):Calls Tryz.prog 122 #[.agg #[.int .i64 n,.int .i64 a,.int .i64 b,.int .i64 c,.int .i64 d],.agg #[.int .i64 3,.int .u8 byte,.int .i64 len,.int .i64 2]] w fun e w'=>e=.returned (.tuple #[.agg #[.int .i64 (movedN n 3),.int .i64 c,.int .i64 a,.int .i64 b,.int .i64 d],.int .i64 0])∧Fr (fun _=>False) w w':=by
 have hy:(⟨3,byte,len,2⟩:Sy).Ok:=⟨.inr (.inr (.inl rfl)),(fun _=>show(2:Nat)≤3 by decide),hb⟩
 have HR:=fun W=>Hd (show Calls Tryz.prog 120 #[.agg #[.int .i64 n,.int .i64 a,.int .i64 b,.int .i64 c,.int .i64 d]] W (fun e w'=>e=.returned (.bool true)∧Fr (fun _=>False) W w') from rright_calls ⟨n,a,b,c,d⟩ hs W)
 have HFM:=fun W=>Hd (show Calls Tryz.prog 146 #[.agg #[.int .i64 3,.int .u8 byte,.int .i64 len,.int .i64 2]] W (fun e w'=>e=.returned (.int .i64 0)∧Fr (fun _=>False) W w') from(rformed_calls ⟨3,byte,len,2⟩ hy W).mono (fun e w' h=>by rw[show fe ⟨3,byte,len,2⟩=0 from by unfold fe;rw[if_neg (by simp),if_neg (by simp),if_pos hl]] at h;exact h))
 have HM:=fun W=>Hd (show Calls Tryz.prog 177 #[.int .i64 n,.int .i64 3] W (fun e w'=>e=.returned (.int .i64 (movedN n 3))∧W=w') from moved_calls n 3 hs.num (by decide) W)
 obtain⟨hf3,hsz,b0,b1,b2⟩:=Rc.three w (.cells #[.int .i64 n,.int .i64 a,.int .i64 b,.int .i64 c,.int .i64 d] 89) (.cells #[.int .i64 3,.int .u8 byte,.int .i64 len,.int .i64 2] 96) (.cells #[.int .i64 0,.int .i64 0,.int .i64 0,.int .i64 0,.int .i64 0] 89)
 have HF3:=Hd hf3
 have HS:=Hd (show∀w':World,Fr (fun _=>False) (((w.alloc (.cells #[.int .i64 n,.int .i64 a,.int .i64 b,.int .i64 c,.int .i64 d] 89)).alloc (.cells #[.int .i64 3,.int .u8 byte,.int .i64 len,.int .i64 2] 96)).alloc (.cells #[.int .i64 0,.int .i64 0,.int .i64 0,.int .i64 0,.int .i64 0] 89)) w'→_ from fun w' h=>And.intro (h.keep b0 (fun h=>h)) (And.intro (h.keep b1 (fun h=>h)) (h.keep b2 (fun h=>h))))
 clear hf3 hy
 obtain⟨q0,q1,q2,q3,q4⟩:=cs5 b0 rfl rfl rfl rfl rfl
 clear b0 b1 b2
 generalize movedN n 3=mv at*
 go_enter Tryz.func122,Tryz.ntmps122
 go_wp2_with fail
 generalize hz:w.heap.size=z at*
 have HZ:=Hd hz
 have HSZ:=Hd hsz
 clear hz hsz
 generalize World.alloc (World.alloc (World.alloc w _) _) _=W at*
 refine(HR _).out.mono ?_
 rintro e w1 ⟨rfl,hf1⟩
 clear q0 q1 q2 q3 q4
 obtain⟨b0,b1,b2⟩:=HS.out w1 hf1
 obtain⟨y0,y1,y2,y3⟩:=cs4 b1 rfl rfl rfl rfl
 have HF1:=Hd hf1
 clear b0 b1 b2 hf1
 go_wp2_with fail
 refine(HFM _).out.mono ?_
 rintro e w2 ⟨rfl,hf2⟩
 clear y0 y1 y2 y3
 have HF2:=Hd (HF1.out.trans hf2)
 clear hf2 HF1
 obtain⟨b0,b1,b2⟩:=HS.out w2 HF2.out
 have HB:=Hd (And.intro b0 (And.intro b1 b2))
 obtain⟨c0,c1,c2,c3,c4⟩:=cs5 b0 rfl rfl rfl rfl rfl
 have y0:=cell_in (i:=0) b1 rfl
 have y3:=cell_in (i:=3) b1 rfl
 obtain⟨r0,r1,r2,r3,r4,rf⟩:=cf5 b2 rfl rfl rfl rfl rfl
 clear b0 b1 b2
 have HSF:=Hd (show∀w':World,Fr (fun _=>False) w2 w'→w'.cell? ⟨z,0,none⟩=some (.int .i64 n)∧w'.cell? ⟨z,1,none⟩=some (.int .i64 a)∧w'.cell? ⟨z,2,none⟩=some (.int .i64 b)∧w'.cell? ⟨z,3,none⟩=some (.int .i64 c)∧w'.cell? ⟨z,4,none⟩=some (.int .i64 d)∧w'.cell? ⟨z+1,0,none⟩=some (.int .i64 3) from fun w' h=>⟨cell_in (i:=0) (h.keep HB.out.1 (fun h=>h)) rfl,cell_in (i:=1) (h.keep HB.out.1 (fun h=>h)) rfl,cell_in (i:=2) (h.keep HB.out.1 (fun h=>h)) rfl,cell_in (i:=3) (h.keep HB.out.1 (fun h=>h)) rfl,cell_in (i:=4) (h.keep HB.out.1 (fun h=>h)) rfl,cell_in (i:=0) (h.keep HB.out.2.1 (fun h=>h)) rfl⟩)
 have HSC:=Hd (HSF.out _ (Fr.refl _ w2).drew)
 go_wp2_with fail
 go_region_held3 (fun w'=>w'.cell? ⟨z,0,none⟩=some (.int .i64 n)∧w'.cell? ⟨z,1,none⟩=some (.int .i64 a)∧w'.cell? ⟨z,2,none⟩=some (.int .i64 b)∧w'.cell? ⟨z,3,none⟩=some (.int .i64 c)∧w'.cell? ⟨z,4,none⟩=some (.int .i64 d)∧w'.cell? ⟨z+1,0,none⟩=some (.int .i64 3)) (first|with_reducible exact HSC.out|with_reducible exact HSF.out _ ((Fr.refl _ w2).drew.alloc _)|(refine HSF.out _ ?_;(repeat refine Fr.setCell ?_ (.inr (Nat.le_refl _)) _);exact(Fr.refl _ w2).drew.alloc _)) ((first
  | (go_at_call 177
     with_reducible refine(HM _).out.mono ?_
     rintro e wc ⟨rfl,rfl⟩)))
 clear c0 c1 c2 c3 c4 y0 y3 r0 r1 r2 r3 r4 rf HSC HSF
 all_goals
  have hf8:=((Fr.refl (fun _=>False) w2).alloc (.cells #[.int .i64 mv,.int .i64 a,.int .i64 b,.int .i64 c,.int .i64 d] 89)).drew
  have hx8:((w2.alloc (.cells #[.int .i64 mv,.int .i64 a,.int .i64 b,.int .i64 c,.int .i64 d] 89)).drew).heap[w2.heap.size]? =some (.cells #[.int .i64 mv,.int .i64 a,.int .i64 b,.int .i64 c,.int .i64 d] 89 (0,0)):=heap_alloc_new w2 _
  have hz8:z+1+1<w2.heap.size:=by have:=HSZ.out;have:=HF2.out.size;omega
  obtain⟨b0,b1,b2⟩:=HS.out _ (HF2.out.trans hf8)
  have HB8:=Hd (And.intro b0 (And.intro b1 b2))
  have HF8:=Hd (HF3.out.trans (HF2.out.trans hf8))
  have HX8:=Hd hx8
  clear hf8 hx8 b0 b1 b2
  generalize(w2.alloc (.cells #[.int .i64 mv,.int .i64 a,.int .i64 b,.int .i64 c,.int .i64 d] 89)).drew=w8 at*
  generalize w2.heap.size=z8 at*
  obtain⟨c0,c1,c2,c3,c4⟩:=cs5 HB8.out.1 rfl rfl rfl rfl rfl
  have y0:=cell_in (i:=0) HB8.out.2.1 rfl
  have y3:=cell_in (i:=3) HB8.out.2.1 rfl
  obtain⟨t0,t1,t2,t3,t4,tf⟩:=cf5 HX8.out rfl rfl rfl rfl rfl
  go_wp2_with fail
  go_loopw [9,10] (fun kv iv wr=>(kv=.int .i64 0∧iv=.int .i64 0∧Fr (fun k=>k=z8) w8 wr∧wr.heap[z8]? =some (.cells #[.int .i64 mv,.int .i64 c,.int .i64 b,.int .i64 c,.int .i64 d] 89 (0,0)))∨(kv=.int .i64 1∧iv=.int .i64 1∧Fr (fun k=>k=z8) w8 wr∧wr.heap[z8]? =some (.cells #[.int .i64 mv,.int .i64 c,.int .i64 a,.int .i64 c,.int .i64 d] 89 (0,0)))∨(kv=.int .i64 2∧iv=.int .i64 2∧Fr (fun k=>k=z8) w8 wr∧wr.heap[z8]? =some (.cells #[.int .i64 mv,.int .i64 c,.int .i64 a,.int .i64 b,.int .i64 d] 89 (0,0)))∨(kv=.int .i64 2∧iv=.int .i64 3∧Fr (fun k=>k=z8) w8 wr∧wr.heap[z8]? =some (.cells #[.int .i64 mv,.int .i64 c,.int .i64 a,.int .i64 b,.int .i64 d] 89 (0,0)))∨(kv=.int .i64 3∧iv=.int .i64 4∧Fr (fun k=>k=z8) w8 wr∧wr.heap[z8]? =some (.cells #[.int .i64 mv,.int .i64 c,.int .i64 a,.int .i64 b,.int .i64 d] 89 (0,0)))) (fun _ i _=>4-(intOf i).toNat)
  case atStart=>exact .inl (⟨rfl,rfl,Fr.one _ z8 1 _,set_in HX8.out 1 _⟩)
  case round=>
   obtain⟨rfl,rfl,hfr,hx⟩|⟨rfl,rfl,hfr,hx⟩|⟨rfl,rfl,hfr,hx⟩|⟨rfl,rfl,hfr,hx⟩|⟨rfl,rfl,hfr,hx⟩:=hrel
   ·have g0:=hfr.keep HB8.out.1 (fun e=>by omega)
    have g1:=hfr.keep HB8.out.2.1 (fun e=>by omega)
    have g2:=hfr.keep HB8.out.2.2 (fun e=>by omega)
    clear c0 c1 c2 c3 c4 y0 y3 t0 t1 t2 t3 t4 tf
    obtain⟨c0,c1,c2,c3,c4⟩:=cs5 g0 rfl rfl rfl rfl rfl
    have y0:=cell_in (i:=0) g1 rfl
    have y3:=cell_in (i:=3) g1 rfl
    obtain⟨t0,t1,t2,t3,t4,tf⟩:=cf5 hx rfl rfl rfl rfl rfl
    have HFR:=Hd hfr
    have HX:=Hd hx
    clear g0 g1 g2 hfr hx
    go_wp2_with fail
    go_roundw
    case rel=>exact .inr (.inl (⟨rfl,rfl,HFR.out.trans (Fr.one _ z8 2 _),set_in HX.out 2 _⟩))
    case measure=>first|(simp[intOf];done)|decide
   ·have g0:=hfr.keep HB8.out.1 (fun e=>by omega)
    have g1:=hfr.keep HB8.out.2.1 (fun e=>by omega)
    have g2:=hfr.keep HB8.out.2.2 (fun e=>by omega)
    clear c0 c1 c2 c3 c4 y0 y3 t0 t1 t2 t3 t4 tf
    obtain⟨c0,c1,c2,c3,c4⟩:=cs5 g0 rfl rfl rfl rfl rfl
    have y0:=cell_in (i:=0) g1 rfl
    have y3:=cell_in (i:=3) g1 rfl
    obtain⟨t0,t1,t2,t3,t4,tf⟩:=cf5 hx rfl rfl rfl rfl rfl
    have HFR:=Hd hfr
    have HX:=Hd hx
    clear g0 g1 g2 hfr hx
    go_wp2_with fail
    go_roundw
    case rel=>exact .inr (.inr (.inl (⟨rfl,rfl,HFR.out.trans (Fr.one _ z8 3 _),set_in HX.out 3 _⟩)))
    case measure=>first|(simp[intOf];done)|decide
   ·have g0:=hfr.keep HB8.out.1 (fun e=>by omega)
    have g1:=hfr.keep HB8.out.2.1 (fun e=>by omega)
    have g2:=hfr.keep HB8.out.2.2 (fun e=>by omega)
    clear c0 c1 c2 c3 c4 y0 y3 t0 t1 t2 t3 t4 tf
    obtain⟨c0,c1,c2,c3,c4⟩:=cs5 g0 rfl rfl rfl rfl rfl
    have y0:=cell_in (i:=0) g1 rfl
    have y3:=cell_in (i:=3) g1 rfl
    obtain⟨t0,t1,t2,t3,t4,tf⟩:=cf5 hx rfl rfl rfl rfl rfl
    have HFR:=Hd hfr
    have HX:=Hd hx
    clear g0 g1 g2 hfr hx
    go_wp2_with fail
    go_roundw
    case rel=>exact .inr (.inr (.inr (.inl (⟨rfl,rfl,HFR.out,HX.out⟩))))
    case measure=>first|(simp[intOf];done)|decide
   ·have g0:=hfr.keep HB8.out.1 (fun e=>by omega)
    have g1:=hfr.keep HB8.out.2.1 (fun e=>by omega)
    have g2:=hfr.keep HB8.out.2.2 (fun e=>by omega)
    clear c0 c1 c2 c3 c4 y0 y3 t0 t1 t2 t3 t4 tf
    obtain⟨c0,c1,c2,c3,c4⟩:=cs5 g0 rfl rfl rfl rfl rfl
    have y0:=cell_in (i:=0) g1 rfl
    have y3:=cell_in (i:=3) g1 rfl
    obtain⟨t0,t1,t2,t3,t4,tf⟩:=cf5 hx rfl rfl rfl rfl rfl
    have HFR:=Hd hfr
    have HX:=Hd hx
    clear g0 g1 g2 hfr hx
    go_wp2_with fail
    go_roundw
    case rel=>exact .inr (.inr (.inr (.inr (⟨rfl,rfl,HFR.out.trans (Fr.one _ z8 4 _),set_in HX.out 4 _⟩))))
    case measure=>first|(simp[intOf];done)|decide
   ·have g0:=hfr.keep HB8.out.1 (fun e=>by omega)
    have g1:=hfr.keep HB8.out.2.1 (fun e=>by omega)
    have g2:=hfr.keep HB8.out.2.2 (fun e=>by omega)
    clear c0 c1 c2 c3 c4 y0 y3 t0 t1 t2 t3 t4 tf
    obtain⟨c0,c1,c2,c3,c4⟩:=cs5 g0 rfl rfl rfl rfl rfl
    have y0:=cell_in (i:=0) g1 rfl
    have y3:=cell_in (i:=3) g1 rfl
    obtain⟨t0,t1,t2,t3,t4,tf⟩:=cf5 hx rfl rfl rfl rfl rfl
    have HFR:=Hd hfr
    have HX:=Hd hx
    obtain⟨r0,r1,r2,r3,r4,rf⟩:=cf5 g2 rfl rfl rfl rfl rfl
    clear g0 g1 g2 hfr hx
    go_wp2_with fail
    refine bodyPost_ret (v:=.tuple #[.agg #[.int .i64 mv,.int .i64 c,.int .i64 a,.int .i64 b,.int .i64 d],.int .i64 0]) (by simp[results,Tryz.results122,go_sem,r0,r1,r2,r3,r4]) rfl ?_
    exact⟨rfl,(HF8.out.trans' HFR.out (fun k hk e=>by have:=HZ.out;omega)).trans' (T:=fun k=>k=z+1+1) (((((Fr.one _ (z+1+1) 0 _).trans (Fr.one _ (z+1+1) 1 _)).trans (Fr.one _ (z+1+1) 2 _)).trans (Fr.one _ (z+1+1) 3 _)).trans (Fr.one _ (z+1+1) 4 _)) (fun k hk e=>by have:=HZ.out;omega)⟩
set_option maxRecDepth 100000 in
theorem rnext_rep3(n a b c d:Nat)(hs:(⟨n,a,b,c,d⟩:S).Ok)(byte:Nat)(len:Nat)(hb:byte<256)(hl:isL len)(w:World):Calls Tryz.prog 122 #[.agg #[.int .i64 n,.int .i64 a,.int .i64 b,.int .i64 c,.int .i64 d],.agg #[.int .i64 3,.int .u8 byte,.int .i64 len,.int .i64 3]] w fun e w'=>e=.returned (.tuple #[.agg #[.int .i64 (movedN n 3),.int .i64 d,.int .i64 a,.int .i64 b,.int .i64 c],.int .i64 0])∧Fr (fun _=>False) w w':=by
 have hy:(⟨3,byte,len,3⟩:Sy).Ok:=⟨.inr (.inr (.inl rfl)),(fun _=>show(3:Nat)≤3 by decide),hb⟩
 have HR:=fun W=>Hd (show Calls Tryz.prog 120 #[.agg #[.int .i64 n,.int .i64 a,.int .i64 b,.int .i64 c,.int .i64 d]] W (fun e w'=>e=.returned (.bool true)∧Fr (fun _=>False) W w') from rright_calls ⟨n,a,b,c,d⟩ hs W)
 have HFM:=fun W=>Hd (show Calls Tryz.prog 146 #[.agg #[.int .i64 3,.int .u8 byte,.int .i64 len,.int .i64 3]] W (fun e w'=>e=.returned (.int .i64 0)∧Fr (fun _=>False) W w') from(rformed_calls ⟨3,byte,len,3⟩ hy W).mono (fun e w' h=>by rw[show fe ⟨3,byte,len,3⟩=0 from by unfold fe;rw[if_neg (by simp),if_neg (by simp),if_pos hl]] at h;exact h))
 have HM:=fun W=>Hd (show Calls Tryz.prog 177 #[.int .i64 n,.int .i64 3] W (fun e w'=>e=.returned (.int .i64 (movedN n 3))∧W=w') from moved_calls n 3 hs.num (by decide) W)
 obtain⟨hf3,hsz,b0,b1,b2⟩:=Rc.three w (.cells #[.int .i64 n,.int .i64 a,.int .i64 b,.int .i64 c,.int .i64 d] 89) (.cells #[.int .i64 3,.int .u8 byte,.int .i64 len,.int .i64 3] 96) (.cells #[.int .i64 0,.int .i64 0,.int .i64 0,.int .i64 0,.int .i64 0] 89)
 have HF3:=Hd hf3
 have HS:=Hd (show∀w':World,Fr (fun _=>False) (((w.alloc (.cells #[.int .i64 n,.int .i64 a,.int .i64 b,.int .i64 c,.int .i64 d] 89)).alloc (.cells #[.int .i64 3,.int .u8 byte,.int .i64 len,.int .i64 3] 96)).alloc (.cells #[.int .i64 0,.int .i64 0,.int .i64 0,.int .i64 0,.int .i64 0] 89)) w'→_ from fun w' h=>And.intro (h.keep b0 (fun h=>h)) (And.intro (h.keep b1 (fun h=>h)) (h.keep b2 (fun h=>h))))
 clear hf3 hy
 obtain⟨q0,q1,q2,q3,q4⟩:=cs5 b0 rfl rfl rfl rfl rfl
 clear b0 b1 b2
 generalize movedN n 3=mv at*
 go_enter Tryz.func122,Tryz.ntmps122
 go_wp2_with fail
 generalize hz:w.heap.size=z at*
 have HZ:=Hd hz
 have HSZ:=Hd hsz
 clear hz hsz
 generalize World.alloc (World.alloc (World.alloc w _) _) _=W at*
 refine(HR _).out.mono ?_
 rintro e w1 ⟨rfl,hf1⟩
 clear q0 q1 q2 q3 q4
 obtain⟨b0,b1,b2⟩:=HS.out w1 hf1
 obtain⟨y0,y1,y2,y3⟩:=cs4 b1 rfl rfl rfl rfl
 have HF1:=Hd hf1
 clear b0 b1 b2 hf1
 go_wp2_with fail
 refine(HFM _).out.mono ?_
 rintro e w2 ⟨rfl,hf2⟩
 clear y0 y1 y2 y3
 have HF2:=Hd (HF1.out.trans hf2)
 clear hf2 HF1
 obtain⟨b0,b1,b2⟩:=HS.out w2 HF2.out
 have HB:=Hd (And.intro b0 (And.intro b1 b2))
 obtain⟨c0,c1,c2,c3,c4⟩:=cs5 b0 rfl rfl rfl rfl rfl
 have y0:=cell_in (i:=0) b1 rfl
 have y3:=cell_in (i:=3) b1 rfl
 obtain⟨r0,r1,r2,r3,r4,rf⟩:=cf5 b2 rfl rfl rfl rfl rfl
 clear b0 b1 b2
 have HSF:=Hd (show∀w':World,Fr (fun _=>False) w2 w'→w'.cell? ⟨z,0,none⟩=some (.int .i64 n)∧w'.cell? ⟨z,1,none⟩=some (.int .i64 a)∧w'.cell? ⟨z,2,none⟩=some (.int .i64 b)∧w'.cell? ⟨z,3,none⟩=some (.int .i64 c)∧w'.cell? ⟨z,4,none⟩=some (.int .i64 d)∧w'.cell? ⟨z+1,0,none⟩=some (.int .i64 3) from fun w' h=>⟨cell_in (i:=0) (h.keep HB.out.1 (fun h=>h)) rfl,cell_in (i:=1) (h.keep HB.out.1 (fun h=>h)) rfl,cell_in (i:=2) (h.keep HB.out.1 (fun h=>h)) rfl,cell_in (i:=3) (h.keep HB.out.1 (fun h=>h)) rfl,cell_in (i:=4) (h.keep HB.out.1 (fun h=>h)) rfl,cell_in (i:=0) (h.keep HB.out.2.1 (fun h=>h)) rfl⟩)
 have HSC:=Hd (HSF.out _ (Fr.refl _ w2).drew)
 go_wp2_with fail
 go_region_held3 (fun w'=>w'.cell? ⟨z,0,none⟩=some (.int .i64 n)∧w'.cell? ⟨z,1,none⟩=some (.int .i64 a)∧w'.cell? ⟨z,2,none⟩=some (.int .i64 b)∧w'.cell? ⟨z,3,none⟩=some (.int .i64 c)∧w'.cell? ⟨z,4,none⟩=some (.int .i64 d)∧w'.cell? ⟨z+1,0,none⟩=some (.int .i64 3)) (first|with_reducible exact HSC.out|with_reducible exact HSF.out _ ((Fr.refl _ w2).drew.alloc _)|(refine HSF.out _ ?_;(repeat refine Fr.setCell ?_ (.inr (Nat.le_refl _)) _);exact(Fr.refl _ w2).drew.alloc _)) ((first
  | (go_at_call 177
     with_reducible refine(HM _).out.mono ?_
     rintro e wc ⟨rfl,rfl⟩)))
 clear c0 c1 c2 c3 c4 y0 y3 r0 r1 r2 r3 r4 rf HSC HSF
 all_goals
  have hf8:=((Fr.refl (fun _=>False) w2).alloc (.cells #[.int .i64 mv,.int .i64 a,.int .i64 b,.int .i64 c,.int .i64 d] 89)).drew
  have hx8:((w2.alloc (.cells #[.int .i64 mv,.int .i64 a,.int .i64 b,.int .i64 c,.int .i64 d] 89)).drew).heap[w2.heap.size]? =some (.cells #[.int .i64 mv,.int .i64 a,.int .i64 b,.int .i64 c,.int .i64 d] 89 (0,0)):=heap_alloc_new w2 _
  have hz8:z+1+1<w2.heap.size:=by have:=HSZ.out;have:=HF2.out.size;omega
  obtain⟨b0,b1,b2⟩:=HS.out _ (HF2.out.trans hf8)
  have HB8:=Hd (And.intro b0 (And.intro b1 b2))
  have HF8:=Hd (HF3.out.trans (HF2.out.trans hf8))
  have HX8:=Hd hx8
  clear hf8 hx8 b0 b1 b2
  generalize(w2.alloc (.cells #[.int .i64 mv,.int .i64 a,.int .i64 b,.int .i64 c,.int .i64 d] 89)).drew=w8 at*
  generalize w2.heap.size=z8 at*
  obtain⟨c0,c1,c2,c3,c4⟩:=cs5 HB8.out.1 rfl rfl rfl rfl rfl
  have y0:=cell_in (i:=0) HB8.out.2.1 rfl
  have y3:=cell_in (i:=3) HB8.out.2.1 rfl
  obtain⟨t0,t1,t2,t3,t4,tf⟩:=cf5 HX8.out rfl rfl rfl rfl rfl
  go_wp2_with fail
  go_loopw [9,10] (fun kv iv wr=>(kv=.int .i64 0∧iv=.int .i64 0∧Fr (fun k=>k=z8) w8 wr∧wr.heap[z8]? =some (.cells #[.int .i64 mv,.int .i64 d,.int .i64 b,.int .i64 c,.int .i64 d] 89 (0,0)))∨(kv=.int .i64 1∧iv=.int .i64 1∧Fr (fun k=>k=z8) w8 wr∧wr.heap[z8]? =some (.cells #[.int .i64 mv,.int .i64 d,.int .i64 a,.int .i64 c,.int .i64 d] 89 (0,0)))∨(kv=.int .i64 2∧iv=.int .i64 2∧Fr (fun k=>k=z8) w8 wr∧wr.heap[z8]? =some (.cells #[.int .i64 mv,.int .i64 d,.int .i64 a,.int .i64 b,.int .i64 d] 89 (0,0)))∨(kv=.int .i64 3∧iv=.int .i64 3∧Fr (fun k=>k=z8) w8 wr∧wr.heap[z8]? =some (.cells #[.int .i64 mv,.int .i64 d,.int .i64 a,.int .i64 b,.int .i64 c] 89 (0,0)))∨(kv=.int .i64 3∧iv=.int .i64 4∧Fr (fun k=>k=z8) w8 wr∧wr.heap[z8]? =some (.cells #[.int .i64 mv,.int .i64 d,.int .i64 a,.int .i64 b,.int .i64 c] 89 (0,0)))) (fun _ i _=>4-(intOf i).toNat)
  case atStart=>exact .inl (⟨rfl,rfl,Fr.one _ z8 1 _,set_in HX8.out 1 _⟩)
  case round=>
   obtain⟨rfl,rfl,hfr,hx⟩|⟨rfl,rfl,hfr,hx⟩|⟨rfl,rfl,hfr,hx⟩|⟨rfl,rfl,hfr,hx⟩|⟨rfl,rfl,hfr,hx⟩:=hrel
   ·have g0:=hfr.keep HB8.out.1 (fun e=>by omega)
    have g1:=hfr.keep HB8.out.2.1 (fun e=>by omega)
    have g2:=hfr.keep HB8.out.2.2 (fun e=>by omega)
    clear c0 c1 c2 c3 c4 y0 y3 t0 t1 t2 t3 t4 tf
    obtain⟨c0,c1,c2,c3,c4⟩:=cs5 g0 rfl rfl rfl rfl rfl
    have y0:=cell_in (i:=0) g1 rfl
    have y3:=cell_in (i:=3) g1 rfl
    obtain⟨t0,t1,t2,t3,t4,tf⟩:=cf5 hx rfl rfl rfl rfl rfl
    have HFR:=Hd hfr
    have HX:=Hd hx
    clear g0 g1 g2 hfr hx
    go_wp2_with fail
    go_roundw
    case rel=>exact .inr (.inl (⟨rfl,rfl,HFR.out.trans (Fr.one _ z8 2 _),set_in HX.out 2 _⟩))
    case measure=>first|(simp[intOf];done)|decide
   ·have g0:=hfr.keep HB8.out.1 (fun e=>by omega)
    have g1:=hfr.keep HB8.out.2.1 (fun e=>by omega)
    have g2:=hfr.keep HB8.out.2.2 (fun e=>by omega)
    clear c0 c1 c2 c3 c4 y0 y3 t0 t1 t2 t3 t4 tf
    obtain⟨c0,c1,c2,c3,c4⟩:=cs5 g0 rfl rfl rfl rfl rfl
    have y0:=cell_in (i:=0) g1 rfl
    have y3:=cell_in (i:=3) g1 rfl
    obtain⟨t0,t1,t2,t3,t4,tf⟩:=cf5 hx rfl rfl rfl rfl rfl
    have HFR:=Hd hfr
    have HX:=Hd hx
    clear g0 g1 g2 hfr hx
    go_wp2_with fail
    go_roundw
    case rel=>exact .inr (.inr (.inl (⟨rfl,rfl,HFR.out.trans (Fr.one _ z8 3 _),set_in HX.out 3 _⟩)))
    case measure=>first|(simp[intOf];done)|decide
   ·have g0:=hfr.keep HB8.out.1 (fun e=>by omega)
    have g1:=hfr.keep HB8.out.2.1 (fun e=>by omega)
    have g2:=hfr.keep HB8.out.2.2 (fun e=>by omega)
    clear c0 c1 c2 c3 c4 y0 y3 t0 t1 t2 t3 t4 tf
    obtain⟨c0,c1,c2,c3,c4⟩:=cs5 g0 rfl rfl rfl rfl rfl
    have y0:=cell_in (i:=0) g1 rfl
    have y3:=cell_in (i:=3) g1 rfl
    obtain⟨t0,t1,t2,t3,t4,tf⟩:=cf5 hx rfl rfl rfl rfl rfl
    have HFR:=Hd hfr
    have HX:=Hd hx
    clear g0 g1 g2 hfr hx
    go_wp2_with fail
    go_roundw
    case rel=>exact .inr (.inr (.inr (.inl (⟨rfl,rfl,HFR.out.trans (Fr.one _ z8 4 _),set_in HX.out 4 _⟩))))
    case measure=>first|(simp[intOf];done)|decide
   ·have g0:=hfr.keep HB8.out.1 (fun e=>by omega)
    have g1:=hfr.keep HB8.out.2.1 (fun e=>by omega)
    have g2:=hfr.keep HB8.out.2.2 (fun e=>by omega)
    clear c0 c1 c2 c3 c4 y0 y3 t0 t1 t2 t3 t4 tf
    obtain⟨c0,c1,c2,c3,c4⟩:=cs5 g0 rfl rfl rfl rfl rfl
    have y0:=cell_in (i:=0) g1 rfl
    have y3:=cell_in (i:=3) g1 rfl
    obtain⟨t0,t1,t2,t3,t4,tf⟩:=cf5 hx rfl rfl rfl rfl rfl
    have HFR:=Hd hfr
    have HX:=Hd hx
    clear g0 g1 g2 hfr hx
    go_wp2_with fail
    go_roundw
    case rel=>exact .inr (.inr (.inr (.inr (⟨rfl,rfl,HFR.out,HX.out⟩))))
    case measure=>first|(simp[intOf];done)|decide
   ·have g0:=hfr.keep HB8.out.1 (fun e=>by omega)
    have g1:=hfr.keep HB8.out.2.1 (fun e=>by omega)
    have g2:=hfr.keep HB8.out.2.2 (fun e=>by omega)
    clear c0 c1 c2 c3 c4 y0 y3 t0 t1 t2 t3 t4 tf
    obtain⟨c0,c1,c2,c3,c4⟩:=cs5 g0 rfl rfl rfl rfl rfl
    have y0:=cell_in (i:=0) g1 rfl
    have y3:=cell_in (i:=3) g1 rfl
    obtain⟨t0,t1,t2,t3,t4,tf⟩:=cf5 hx rfl rfl rfl rfl rfl
    have HFR:=Hd hfr
    have HX:=Hd hx
    obtain⟨r0,r1,r2,r3,r4,rf⟩:=cf5 g2 rfl rfl rfl rfl rfl
    clear g0 g1 g2 hfr hx
    go_wp2_with fail
    refine bodyPost_ret (v:=.tuple #[.agg #[.int .i64 mv,.int .i64 d,.int .i64 a,.int .i64 b,.int .i64 c],.int .i64 0]) (by simp[results,Tryz.results122,go_sem,r0,r1,r2,r3,r4]) rfl ?_
    exact⟨rfl,(HF8.out.trans' HFR.out (fun k hk e=>by have:=HZ.out;omega)).trans' (T:=fun k=>k=z+1+1) (((((Fr.one _ (z+1+1) 0 _).trans (Fr.one _ (z+1+1) 1 _)).trans (Fr.one _ (z+1+1) 2 _)).trans (Fr.one _ (z+1+1) 3 _)).trans (Fr.one _ (z+1+1) 4 _)) (fun k hk e=>by have:=HZ.out;omega)⟩
set_option maxRecDepth 100000 in
theorem rnext_bad2(n a b c d:Nat)(hs:(⟨n,a,b,c,d⟩:S).Ok)(byte:Nat)(len dist:Nat)(hb:byte<256)(he:¬(isL len∧isD dist))(w:World):Calls Tryz.prog 122 #[.agg #[.int .i64 n,.int .i64 a,.int .i64 b,.int .i64 c,.int .i64 d],.agg #[.int .i64 2,.int .u8 byte,.int .i64 len,.int .i64 dist]] w fun e w'=>e=.returned (.tuple #[.agg #[.int .i64 0,.int .i64 0,.int .i64 0,.int .i64 0,.int .i64 0],.int .i64 7])∧Fr (fun _=>False) w w':=by
 have hy:(⟨2,byte,len,dist⟩:Sy).Ok:=⟨.inr (.inl rfl),(fun h=>by simp at h),hb⟩
 have HR:=fun W=>Hd (show Calls Tryz.prog 120 #[.agg #[.int .i64 n,.int .i64 a,.int .i64 b,.int .i64 c,.int .i64 d]] W (fun e w'=>e=.returned (.bool true)∧Fr (fun _=>False) W w') from rright_calls ⟨n,a,b,c,d⟩ hs W)
 have HFM:=fun W=>Hd (show Calls Tryz.prog 146 #[.agg #[.int .i64 2,.int .u8 byte,.int .i64 len,.int .i64 dist]] W (fun e w'=>e=.returned (.int .i64 7)∧Fr (fun _=>False) W w') from(rformed_calls ⟨2,byte,len,dist⟩ hy W).mono (fun e w' h=>by rw[show fe ⟨2,byte,len,dist⟩=7 from by unfold fe;rw[if_neg (by simp),if_pos rfl,if_neg he]] at h;exact h))
 have HM:=fun W=>Hd (show Calls Tryz.prog 177 #[.int .i64 n,.int .i64 2] W (fun e w'=>e=.returned (.int .i64 (movedN n 2))∧W=w') from moved_calls n 2 hs.num (by decide) W)
 obtain⟨hf3,hsz,b0,b1,b2⟩:=Rc.three w (.cells #[.int .i64 n,.int .i64 a,.int .i64 b,.int .i64 c,.int .i64 d] 89) (.cells #[.int .i64 2,.int .u8 byte,.int .i64 len,.int .i64 dist] 96) (.cells #[.int .i64 0,.int .i64 0,.int .i64 0,.int .i64 0,.int .i64 0] 89)
 have HF3:=Hd hf3
 have HS:=Hd (show∀w':World,Fr (fun _=>False) (((w.alloc (.cells #[.int .i64 n,.int .i64 a,.int .i64 b,.int .i64 c,.int .i64 d] 89)).alloc (.cells #[.int .i64 2,.int .u8 byte,.int .i64 len,.int .i64 dist] 96)).alloc (.cells #[.int .i64 0,.int .i64 0,.int .i64 0,.int .i64 0,.int .i64 0] 89)) w'→_ from fun w' h=>And.intro (h.keep b0 (fun h=>h)) (And.intro (h.keep b1 (fun h=>h)) (h.keep b2 (fun h=>h))))
 clear hf3 hy
 obtain⟨q0,q1,q2,q3,q4⟩:=cs5 b0 rfl rfl rfl rfl rfl
 clear b0 b1 b2
 generalize movedN n 2=mv at*
 go_enter Tryz.func122,Tryz.ntmps122
 go_wp2_with fail
 generalize hz:w.heap.size=z at*
 have HZ:=Hd hz
 have HSZ:=Hd hsz
 clear hz hsz
 generalize World.alloc (World.alloc (World.alloc w _) _) _=W at*
 refine(HR _).out.mono ?_
 rintro e w1 ⟨rfl,hf1⟩
 clear q0 q1 q2 q3 q4
 obtain⟨b0,b1,b2⟩:=HS.out w1 hf1
 obtain⟨y0,y1,y2,y3⟩:=cs4 b1 rfl rfl rfl rfl
 have HF1:=Hd hf1
 clear b0 b1 b2 hf1
 go_wp2_with fail
 refine(HFM _).out.mono ?_
 rintro e w2 ⟨rfl,hf2⟩
 clear y0 y1 y2 y3
 have HF2:=Hd (HF1.out.trans hf2)
 clear hf2 HF1
 obtain⟨b0,b1,b2⟩:=HS.out w2 HF2.out
 have HB:=Hd (And.intro b0 (And.intro b1 b2))
 obtain⟨c0,c1,c2,c3,c4⟩:=cs5 b0 rfl rfl rfl rfl rfl
 have y0:=cell_in (i:=0) b1 rfl
 have y3:=cell_in (i:=3) b1 rfl
 obtain⟨r0,r1,r2,r3,r4,rf⟩:=cf5 b2 rfl rfl rfl rfl rfl
 clear b0 b1 b2
 clear c0 c1 c2 c3 c4 y0 y3
 go_wp2_with fail
 refine bodyPost_ret (v:=.tuple #[.agg #[.int .i64 0,.int .i64 0,.int .i64 0,.int .i64 0,.int .i64 0],.int .i64 7]) (by simp[results,Tryz.results122,go_sem,r0,r1,r2,r3,r4]) rfl ?_
 exact⟨rfl,(HF3.out.trans HF2.out).trans' (T:=fun k=>k=z+1+1) (((((Fr.one _ (z+1+1) 0 _).trans (Fr.one _ (z+1+1) 1 _)).trans (Fr.one _ (z+1+1) 2 _)).trans (Fr.one _ (z+1+1) 3 _)).trans (Fr.one _ (z+1+1) 4 _)) (fun k hk e=>by have:=HZ.out;omega)⟩
set_option maxRecDepth 100000 in
theorem rnext_bad3(n a b c d:Nat)(hs:(⟨n,a,b,c,d⟩:S).Ok)(byte:Nat)(len dist:Nat)(hb:byte<256)(hl:¬isL len)(hd3:dist≤3)(w:World):Calls Tryz.prog 122 #[.agg #[.int .i64 n,.int .i64 a,.int .i64 b,.int .i64 c,.int .i64 d],.agg #[.int .i64 3,.int .u8 byte,.int .i64 len,.int .i64 dist]] w fun e w'=>e=.returned (.tuple #[.agg #[.int .i64 0,.int .i64 0,.int .i64 0,.int .i64 0,.int .i64 0],.int .i64 7])∧Fr (fun _=>False) w w':=by
 have hy:(⟨3,byte,len,dist⟩:Sy).Ok:=⟨.inr (.inr (.inl rfl)),(fun _=>hd3),hb⟩
 have HR:=fun W=>Hd (show Calls Tryz.prog 120 #[.agg #[.int .i64 n,.int .i64 a,.int .i64 b,.int .i64 c,.int .i64 d]] W (fun e w'=>e=.returned (.bool true)∧Fr (fun _=>False) W w') from rright_calls ⟨n,a,b,c,d⟩ hs W)
 have HFM:=fun W=>Hd (show Calls Tryz.prog 146 #[.agg #[.int .i64 3,.int .u8 byte,.int .i64 len,.int .i64 dist]] W (fun e w'=>e=.returned (.int .i64 7)∧Fr (fun _=>False) W w') from(rformed_calls ⟨3,byte,len,dist⟩ hy W).mono (fun e w' h=>by rw[show fe ⟨3,byte,len,dist⟩=7 from by unfold fe;rw[if_neg (by simp),if_neg (by simp),if_neg hl]] at h;exact h))
 have HM:=fun W=>Hd (show Calls Tryz.prog 177 #[.int .i64 n,.int .i64 3] W (fun e w'=>e=.returned (.int .i64 (movedN n 3))∧W=w') from moved_calls n 3 hs.num (by decide) W)
 obtain⟨hf3,hsz,b0,b1,b2⟩:=Rc.three w (.cells #[.int .i64 n,.int .i64 a,.int .i64 b,.int .i64 c,.int .i64 d] 89) (.cells #[.int .i64 3,.int .u8 byte,.int .i64 len,.int .i64 dist] 96) (.cells #[.int .i64 0,.int .i64 0,.int .i64 0,.int .i64 0,.int .i64 0] 89)
 have HF3:=Hd hf3
 have HS:=Hd (show∀w':World,Fr (fun _=>False) (((w.alloc (.cells #[.int .i64 n,.int .i64 a,.int .i64 b,.int .i64 c,.int .i64 d] 89)).alloc (.cells #[.int .i64 3,.int .u8 byte,.int .i64 len,.int .i64 dist] 96)).alloc (.cells #[.int .i64 0,.int .i64 0,.int .i64 0,.int .i64 0,.int .i64 0] 89)) w'→_ from fun w' h=>And.intro (h.keep b0 (fun h=>h)) (And.intro (h.keep b1 (fun h=>h)) (h.keep b2 (fun h=>h))))
 clear hf3 hy
 obtain⟨q0,q1,q2,q3,q4⟩:=cs5 b0 rfl rfl rfl rfl rfl
 clear b0 b1 b2
 generalize movedN n 3=mv at*
 go_enter Tryz.func122,Tryz.ntmps122
 go_wp2_with fail
 generalize hz:w.heap.size=z at*
 have HZ:=Hd hz
 have HSZ:=Hd hsz
 clear hz hsz
 generalize World.alloc (World.alloc (World.alloc w _) _) _=W at*
 refine(HR _).out.mono ?_
 rintro e w1 ⟨rfl,hf1⟩
 clear q0 q1 q2 q3 q4
 obtain⟨b0,b1,b2⟩:=HS.out w1 hf1
 obtain⟨y0,y1,y2,y3⟩:=cs4 b1 rfl rfl rfl rfl
 have HF1:=Hd hf1
 clear b0 b1 b2 hf1
 go_wp2_with fail
 refine(HFM _).out.mono ?_
 rintro e w2 ⟨rfl,hf2⟩
 clear y0 y1 y2 y3
 have HF2:=Hd (HF1.out.trans hf2)
 clear hf2 HF1
 obtain⟨b0,b1,b2⟩:=HS.out w2 HF2.out
 have HB:=Hd (And.intro b0 (And.intro b1 b2))
 obtain⟨c0,c1,c2,c3,c4⟩:=cs5 b0 rfl rfl rfl rfl rfl
 have y0:=cell_in (i:=0) b1 rfl
 have y3:=cell_in (i:=3) b1 rfl
 obtain⟨r0,r1,r2,r3,r4,rf⟩:=cf5 b2 rfl rfl rfl rfl rfl
 clear b0 b1 b2
 clear c0 c1 c2 c3 c4 y0 y3
 go_wp2_with fail
 refine bodyPost_ret (v:=.tuple #[.agg #[.int .i64 0,.int .i64 0,.int .i64 0,.int .i64 0,.int .i64 0],.int .i64 7]) (by simp[results,Tryz.results122,go_sem,r0,r1,r2,r3,r4]) rfl ?_
 exact⟨rfl,(HF3.out.trans HF2.out).trans' (T:=fun k=>k=z+1+1) (((((Fr.one _ (z+1+1) 0 _).trans (Fr.one _ (z+1+1) 1 _)).trans (Fr.one _ (z+1+1) 2 _)).trans (Fr.one _ (z+1+1) 3 _)).trans (Fr.one _ (z+1+1) 4 _)) (fun k hk e=>by have:=HZ.out;omega)⟩
theorem rnext_calls(s:S)(hs:s.Ok)(y:Sy)(hy:y.Ok)(w:World):
 Calls Tryz.prog 122 #[.agg s.cells,.agg y.cells] w fun e w'=>e=.returned (.tuple #[.agg (s.next y).2.cells,.int .i64 (s.next y).1])∧Fr (fun _=>False) w w':=by
 obtain⟨n,a,b,c,d⟩:=s
 obtain⟨kind,byte,len,dist⟩:=y
 obtain⟨hk,hd,hb⟩:=hy
 simp only at hk hd hb
 rcases hk with rfl|rfl|rfl|rfl
 ·exact rnext_lit n a b c d hs byte len dist hb w
 ·by_cases hg:isL len∧isD dist
  ·have e:(⟨n,a,b,c,d⟩:S).next ⟨2,byte,len,dist⟩=(0,(⟨n,a,b,c,d⟩:S).mat dist):=by
    unfold S.next
    simp only
    rw[if_neg (by decide),if_neg (by decide),if_pos trivial,if_pos hg.1,if_pos hg.2]
   rw[e]
   exact rnext_mat n a b c d hs byte len dist hb hg.1 hg.2 w
  ·have e:(⟨n,a,b,c,d⟩:S).next ⟨2,byte,len,dist⟩=(7,.zero):=by
    unfold S.next
    simp only
    rw[if_neg (by decide),if_neg (by decide),if_pos trivial]
    by_cases h1:isL len
    ·rw[if_pos h1,if_neg (fun h2=>hg ⟨h1,h2⟩)]
    ·rw[if_neg h1]
   rw[e]
   exact rnext_bad2 n a b c d hs byte len dist hb hg w
 ·by_cases hl:isL len
  ·have hd3:=hd rfl
   have e:(⟨n,a,b,c,d⟩:S).next ⟨3,byte,len,dist⟩=(0,(⟨n,a,b,c,d⟩:S).rep dist):=by
    unfold S.next
    simp only
    rw[if_neg (by decide),if_neg (by decide),if_neg (by decide),if_pos hl]
   rw[e]
   obtain rfl|rfl|rfl|rfl:dist=0∨dist=1∨dist=2∨dist=3:=by omega
   ·exact rnext_rep0 n a b c d hs byte len hb hl w
   ·exact rnext_rep1 n a b c d hs byte len hb hl w
   ·exact rnext_rep2 n a b c d hs byte len hb hl w
   ·exact rnext_rep3 n a b c d hs byte len hb hl w
  ·have e:(⟨n,a,b,c,d⟩:S).next ⟨3,byte,len,dist⟩=(7,.zero):=by
    unfold S.next
    simp only
    rw[if_neg (by decide),if_neg (by decide),if_neg (by decide),if_neg hl]
   rw[e]
   exact rnext_bad3 n a b c d hs byte len dist hb hl (hd rfl) w
 ·exact rnext_short n a b c d hs byte len dist hb w
end Rf
end Go.Proofs.YtlgccpjccopdmaaGreatDoor
