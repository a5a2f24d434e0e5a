/- Part 28 of 54: lemmas of the last part, each under the conditions that it names. -/
import Derived.Test.YtlgccpjccopdmaaGreatDoorP08
import Derived.Test.YtlgccpjccopdmaaGreatDoorP09
import Derived.Test.YtlgccpjccopdmaaGreatDoorP10
import Derived.Test.YtlgccpjccopdmaaGreatDoorP14
import Derived.Test.YtlgccpjccopdmaaGreatDoorP26
import Derived.Test.YtlgccpjccopdmaaGreatDoorP27
set_option linter.unusedVariables false
set_option linter.unusedSimpArgs false
set_option maxRecDepth 1500
set_option maxHeartbeats 4000000
namespace Go.Proofs.YtlgccpjccopdmaaGreatDoor
open Go.RowKit
namespace Rf
open Mem St
theorem rformed_any(kind:Int)(byte:Nat)(len dist:Int)(w:World):Calls Tryz.prog 146 #[.agg #[.int .i64 kind,.int .u8 byte,.int .i64 len,.int .i64 dist]] w fun e w'=>e=.returned (.int .i64 ((⟨kind,byte,len,dist⟩:Sz).bad:Nat))∧Fr (fun _=>False) w w':=by
 have HF:=Hd ((Fr.refl (fun _=>False) w).alloc (.cells #[.int .i64 kind,.int .u8 byte,.int .i64 len,.int .i64 dist] 96))
 have hx:=heap_alloc_new w (.cells #[.int .i64 kind,.int .u8 byte,.int .i64 len,.int .i64 dist] 96)
 have c0:=cell_in (i:=0) hx rfl
 have c2:=cell_in (i:=2) hx rfl
 have c3:=cell_in (i:=3) hx rfl
 clear hx
 obtain⟨bd,hbd⟩:∃bd,bd=(⟨kind,byte,len,dist⟩:Sz).bad:=⟨_,rfl⟩
 rw[←hbd]
 unfold Sz.bad at hbd
 simp only at hbd
 have HBD:=Hd hbd
 clear hbd
 obtain⟨q1,hq1⟩:∃q,q=decide (2≤len):=⟨_,rfl⟩
 obtain⟨q2,hq2⟩:∃q,q=decide (len≤273):=⟨_,rfl⟩
 obtain⟨q3,hq3⟩:∃q,q=decide (dist<1):=⟨_,rfl⟩
 obtain⟨q4,hq4⟩:∃q,q=decide (4294967295<dist):=⟨_,rfl⟩
 obtain⟨q5,hq5⟩:∃q,q=decide (dist<0):=⟨_,rfl⟩
 obtain⟨q6,hq6⟩:∃q,q=decide (3<dist):=⟨_,rfl⟩
 have a1:decide ((len:Int)≥2)=q1:=hq1.symm
 have a2:decide ((2:Int)≤len)=q1:=hq1.symm
 have a3:decide ((len:Int)≤273)=q2:=hq2.symm
 have a4:decide ((dist:Int)<1)=q3:=hq3.symm
 have a5:decide ((dist:Int)>4294967295)=q4:=hq4.symm
 have a6:decide ((4294967295:Int)<dist)=q4:=hq4.symm
 have a7:decide ((dist:Int)<0)=q5:=hq5.symm
 have a8:decide ((dist:Int)>3)=q6:=hq6.symm
 have a9:decide ((3:Int)<dist)=q6:=hq6.symm
 have HQ:=Hd (And.intro hq1 (And.intro hq2 (And.intro hq3 (And.intro hq4 (And.intro hq5 hq6)))))
 clear hq1 hq2 hq3 hq4 hq5 hq6
 by_cases k1:kind=1
 ·subst k1
  have hr:bd=0:=by rw[HBD.out,if_pos (.inl rfl)]
  subst hr
  clear HBD HQ
  cases q1<;>cases q2
  all_goals
   go_enter Tryz.func146,Tryz.ntmps146
   go_wp2_with fail
   go_ret
   exact⟨rfl,HF.out⟩
 by_cases k4:kind=4
 ·subst k4
  have hr:bd=0:=by rw[HBD.out,if_pos (.inr rfl)]
  subst hr
  clear HBD HQ k1
  cases q1<;>cases q2
  all_goals
   go_enter Tryz.func146,Tryz.ntmps146
   go_wp2_with fail
   go_ret
   exact⟨rfl,HF.out⟩
 by_cases k2:kind=2
 ·subst k2
  have hr:bd=if(2≤len∧len≤273)∧1≤dist∧dist≤4294967295 then 0 else 7:=by rw[HBD.out,if_neg (by decide),if_pos rfl]
  have HR:=Hd hr
  clear HBD k1 k4 hr
  cases q1<;>cases q2<;>cases q3<;>cases q4
  all_goals
   go_enter Tryz.func146,Tryz.ntmps146
   go_wp2_with fail
   go_ret
   refine⟨?_,HF.out⟩
   obtain⟨h1,h2,h3,h4,_,_⟩:=HQ.out
   have hr:=HR.out
   simp only[Bool.true_eq,Bool.false_eq,decide_eq_true_eq,decide_eq_false_iff_not] at h1 h2 h3 h4
   first
    |(rw[if_pos (by omega)] at hr;rw[hr];rfl)
    |(rw[if_neg (by omega)] at hr;rw[hr];rfl)
 by_cases k3:kind=3
 ·subst k3
  have hr:bd=if(2≤len∧len≤273)∧0≤dist∧dist≤3 then 0 else 7:=by rw[HBD.out,if_neg (by decide),if_neg (by decide),if_pos rfl]
  have HR:=Hd hr
  clear HBD k1 k4 k2 hr
  cases q1<;>cases q2<;>cases q5<;>cases q6
  all_goals
   go_enter Tryz.func146,Tryz.ntmps146
   go_wp2_with fail
   go_ret
   refine⟨?_,HF.out⟩
   obtain⟨h1,h2,_,_,h3,h4⟩:=HQ.out
   have hr:=HR.out
   simp only[Bool.true_eq,Bool.false_eq,decide_eq_true_eq,decide_eq_false_iff_not] at h1 h2 h3 h4
   first
    |(rw[if_pos (by omega)] at hr;rw[hr];rfl)
    |(rw[if_neg (by omega)] at hr;rw[hr];rfl)
 have hr:bd=6:=by rw[HBD.out,if_neg (by omega),if_neg k2,if_neg k3]
 subst hr
 have t1:(kind==1)=false:=by rw[beq_eq_false_iff_ne];exact k1
 have t2:(kind==2)=false:=by rw[beq_eq_false_iff_ne];exact k2
 have t3:(kind==3)=false:=by rw[beq_eq_false_iff_ne];exact k3
 have t4:(kind==4)=false:=by rw[beq_eq_false_iff_ne];exact k4
 clear HBD HQ k1 k2 k3 k4
 cases q1<;>cases q2
 all_goals
  go_enter Tryz.func146,Tryz.ntmps146
  go_wp2_with fail
  go_ret
  exact⟨rfl,HF.out⟩
set_option maxRecDepth 100000 in
theorem rnextz_lit(n a b c d:Nat)(hs:(⟨n,a,b,c,d⟩:S).Ok)(byte:Nat)(len dist:Int)(hb:byte<256)(w:World):Calls Tryz.prog 122 #[.agg #[.int .i64 n,.int .i64 a,.int .i64 b,.int .i64 c,.int .i64 d],.agg #[.int .i64 1,.int .u8 byte,.int .i64 len,.int .i64 dist]] w fun e w'=>e=.returned (.tuple #[.agg #[.int .i64 (movedN n 1),.int .i64 a,.int .i64 b,.int .i64 c,.int .i64 d],.int .i64 0])∧Fr (fun _=>False) w w':=by
 have HR:=fun W=>Hd (show Calls Tryz.prog 120 #[.agg #[.int .i64 n,.int .i64 a,.int .i64 b,.int .i64 c,.int .i64 d]] W (fun e w'=>e=.returned (.bool true)∧Fr (fun _=>False) W w') from rright_calls ⟨n,a,b,c,d⟩ hs W)
 have HFM:=fun W=>Hd (show Calls Tryz.prog 146 #[.agg #[.int .i64 1,.int .u8 byte,.int .i64 len,.int .i64 dist]] W (fun e w'=>e=.returned (.int .i64 0)∧Fr (fun _=>False) W w') from(rformed_any 1 byte len dist W).mono (fun e w' h=>by rw[show(⟨1,byte,len,dist⟩:Sz).bad=0 from by simp[Sz.bad]] at h;exact h))
 have HM:=fun W=>Hd (show Calls Tryz.prog 177 #[.int .i64 n,.int .i64 1] W (fun e w'=>e=.returned (.int .i64 (movedN n 1))∧W=w') from moved_calls n 1 hs.num (by decide) W)
 obtain⟨hf3,hsz,b0,b1,b2⟩:=Rc.three w (.cells #[.int .i64 n,.int .i64 a,.int .i64 b,.int .i64 c,.int .i64 d] 89) (.cells #[.int .i64 1,.int .u8 byte,.int .i64 len,.int .i64 dist] 96) (.cells #[.int .i64 0,.int .i64 0,.int .i64 0,.int .i64 0,.int .i64 0] 89)
 have HF3:=Hd hf3
 have HS:=Hd (show∀w':World,Fr (fun _=>False) (((w.alloc (.cells #[.int .i64 n,.int .i64 a,.int .i64 b,.int .i64 c,.int .i64 d] 89)).alloc (.cells #[.int .i64 1,.int .u8 byte,.int .i64 len,.int .i64 dist] 96)).alloc (.cells #[.int .i64 0,.int .i64 0,.int .i64 0,.int .i64 0,.int .i64 0] 89)) w'→_ from fun w' h=>And.intro (h.keep b0 (fun h=>h)) (And.intro (h.keep b1 (fun h=>h)) (h.keep b2 (fun h=>h))))
 clear hf3
 obtain⟨q0,q1,q2,q3,q4⟩:=cs5 b0 rfl rfl rfl rfl rfl
 clear b0 b1 b2
 generalize movedN n 1=mv at*
 go_enter Tryz.func122,Tryz.ntmps122
 go_wp2_with fail
 generalize hz:w.heap.size=z at*
 have HZ:=Hd hz
 have HSZ:=Hd hsz
 clear hz hsz
 generalize World.alloc (World.alloc (World.alloc w _) _) _=W at*
 refine(HR _).out.mono ?_
 rintro e w1 ⟨rfl,hf1⟩
 clear q0 q1 q2 q3 q4
 obtain⟨b0,b1,b2⟩:=HS.out w1 hf1
 obtain⟨y0,y1,y2,y3⟩:=cs4 b1 rfl rfl rfl rfl
 have HF1:=Hd hf1
 clear b0 b1 b2 hf1
 go_wp2_with fail
 refine(HFM _).out.mono ?_
 rintro e w2 ⟨rfl,hf2⟩
 clear y0 y1 y2 y3
 have HF2:=Hd (HF1.out.trans hf2)
 clear hf2 HF1
 obtain⟨b0,b1,b2⟩:=HS.out w2 HF2.out
 have HB:=Hd (And.intro b0 (And.intro b1 b2))
 obtain⟨c0,c1,c2,c3,c4⟩:=cs5 b0 rfl rfl rfl rfl rfl
 have y0:=cell_in (i:=0) b1 rfl
 have y3:=cell_in (i:=3) b1 rfl
 obtain⟨r0,r1,r2,r3,r4,rf⟩:=cf5 b2 rfl rfl rfl rfl rfl
 clear b0 b1 b2
 have HSF:=Hd (show∀w':World,Fr (fun _=>False) w2 w'→w'.cell? ⟨z,0,none⟩=some (.int .i64 n)∧w'.cell? ⟨z,1,none⟩=some (.int .i64 a)∧w'.cell? ⟨z,2,none⟩=some (.int .i64 b)∧w'.cell? ⟨z,3,none⟩=some (.int .i64 c)∧w'.cell? ⟨z,4,none⟩=some (.int .i64 d)∧w'.cell? ⟨z+1,0,none⟩=some (.int .i64 1) from fun w' h=>⟨cell_in (i:=0) (h.keep HB.out.1 (fun h=>h)) rfl,cell_in (i:=1) (h.keep HB.out.1 (fun h=>h)) rfl,cell_in (i:=2) (h.keep HB.out.1 (fun h=>h)) rfl,cell_in (i:=3) (h.keep HB.out.1 (fun h=>h)) rfl,cell_in (i:=4) (h.keep HB.out.1 (fun h=>h)) rfl,cell_in (i:=0) (h.keep HB.out.2.1 (fun h=>h)) rfl⟩)
 have HSC:=Hd (HSF.out _ (Fr.refl _ w2).drew)
 go_wp2_with fail
 go_region_held3 (fun w'=>w'.cell? ⟨z,0,none⟩=some (.int .i64 n)∧w'.cell? ⟨z,1,none⟩=some (.int .i64 a)∧w'.cell? ⟨z,2,none⟩=some (.int .i64 b)∧w'.cell? ⟨z,3,none⟩=some (.int .i64 c)∧w'.cell? ⟨z,4,none⟩=some (.int .i64 d)∧w'.cell? ⟨z+1,0,none⟩=some (.int .i64 1)) (first|with_reducible exact HSC.out|with_reducible exact HSF.out _ ((Fr.refl _ w2).drew.alloc _)|(refine HSF.out _ ?_;(repeat refine Fr.setCell ?_ (.inr (Nat.le_refl _)) _);exact(Fr.refl _ w2).drew.alloc _)) ((first
  | (go_at_call 177
     with_reducible refine(HM _).out.mono ?_
     rintro e wc ⟨rfl,rfl⟩)))
 clear c0 c1 c2 c3 c4 y0 y3 r0 r1 r2 r3 r4 rf HSC HSF
 all_goals
  have hf8:=((Fr.refl (fun _=>False) w2).alloc (.cells #[.int .i64 mv,.int .i64 a,.int .i64 b,.int .i64 c,.int .i64 d] 89)).drew
  have hx8:((w2.alloc (.cells #[.int .i64 mv,.int .i64 a,.int .i64 b,.int .i64 c,.int .i64 d] 89)).drew).heap[w2.heap.size]? =some (.cells #[.int .i64 mv,.int .i64 a,.int .i64 b,.int .i64 c,.int .i64 d] 89 (0,0)):=heap_alloc_new w2 _
  have hz8:z+1+1<w2.heap.size:=by have:=HSZ.out;have:=HF2.out.size;omega
  obtain⟨b0,b1,b2⟩:=HS.out _ (HF2.out.trans hf8)
  have HB8:=Hd (And.intro b0 (And.intro b1 b2))
  have HF8:=Hd (HF3.out.trans (HF2.out.trans hf8))
  have HX8:=Hd hx8
  clear hf8 hx8 b0 b1 b2
  generalize(w2.alloc (.cells #[.int .i64 mv,.int .i64 a,.int .i64 b,.int .i64 c,.int .i64 d] 89)).drew=w8 at*
  generalize w2.heap.size=z8 at*
  obtain⟨c0,c1,c2,c3,c4⟩:=cs5 HB8.out.1 rfl rfl rfl rfl rfl
  have y0:=cell_in (i:=0) HB8.out.2.1 rfl
  have y3:=cell_in (i:=3) HB8.out.2.1 rfl
  obtain⟨t0,t1,t2,t3,t4,tf⟩:=cf5 HX8.out rfl rfl rfl rfl rfl
  obtain⟨r0,r1,r2,r3,r4,rf⟩:=cf5 HB8.out.2.2 rfl rfl rfl rfl rfl
  go_wp2_with fail
  refine bodyPost_ret (v:=.tuple #[.agg #[.int .i64 mv,.int .i64 a,.int .i64 b,.int .i64 c,.int .i64 d],.int .i64 0]) (by simp[results,Tryz.results122,go_sem,r0,r1,r2,r3,r4]) rfl ?_
  exact⟨rfl,(HF8.out).trans' (T:=fun k=>k=z+1+1) (((((Fr.one _ (z+1+1) 0 _).trans (Fr.one _ (z+1+1) 1 _)).trans (Fr.one _ (z+1+1) 2 _)).trans (Fr.one _ (z+1+1) 3 _)).trans (Fr.one _ (z+1+1) 4 _)) (fun k hk e=>by have:=HZ.out;omega)⟩
set_option maxRecDepth 100000 in
theorem rnextz_short(n a b c d:Nat)(hs:(⟨n,a,b,c,d⟩:S).Ok)(byte:Nat)(len dist:Int)(hb:byte<256)(w:World):Calls Tryz.prog 122 #[.agg #[.int .i64 n,.int .i64 a,.int .i64 b,.int .i64 c,.int .i64 d],.agg #[.int .i64 4,.int .u8 byte,.int .i64 len,.int .i64 dist]] w fun e w'=>e=.returned (.tuple #[.agg #[.int .i64 (movedN n 4),.int .i64 a,.int .i64 b,.int .i64 c,.int .i64 d],.int .i64 0])∧Fr (fun _=>False) w w':=by
 have HR:=fun W=>Hd (show Calls Tryz.prog 120 #[.agg #[.int .i64 n,.int .i64 a,.int .i64 b,.int .i64 c,.int .i64 d]] W (fun e w'=>e=.returned (.bool true)∧Fr (fun _=>False) W w') from rright_calls ⟨n,a,b,c,d⟩ hs W)
 have HFM:=fun W=>Hd (show Calls Tryz.prog 146 #[.agg #[.int .i64 4,.int .u8 byte,.int .i64 len,.int .i64 dist]] W (fun e w'=>e=.returned (.int .i64 0)∧Fr (fun _=>False) W w') from(rformed_any 4 byte len dist W).mono (fun e w' h=>by rw[show(⟨4,byte,len,dist⟩:Sz).bad=0 from by simp[Sz.bad]] at h;exact h))
 have HM:=fun W=>Hd (show Calls Tryz.prog 177 #[.int .i64 n,.int .i64 4] W (fun e w'=>e=.returned (.int .i64 (movedN n 4))∧W=w') from moved_calls n 4 hs.num (by decide) W)
 obtain⟨hf3,hsz,b0,b1,b2⟩:=Rc.three w (.cells #[.int .i64 n,.int .i64 a,.int .i64 b,.int .i64 c,.int .i64 d] 89) (.cells #[.int .i64 4,.int .u8 byte,.int .i64 len,.int .i64 dist] 96) (.cells #[.int .i64 0,.int .i64 0,.int .i64 0,.int .i64 0,.int .i64 0] 89)
 have HF3:=Hd hf3
 have HS:=Hd (show∀w':World,Fr (fun _=>False) (((w.alloc (.cells #[.int .i64 n,.int .i64 a,.int .i64 b,.int .i64 c,.int .i64 d] 89)).alloc (.cells #[.int .i64 4,.int .u8 byte,.int .i64 len,.int .i64 dist] 96)).alloc (.cells #[.int .i64 0,.int .i64 0,.int .i64 0,.int .i64 0,.int .i64 0] 89)) w'→_ from fun w' h=>And.intro (h.keep b0 (fun h=>h)) (And.intro (h.keep b1 (fun h=>h)) (h.keep b2 (fun h=>h))))
 clear hf3
 obtain⟨q0,q1,q2,q3,q4⟩:=cs5 b0 rfl rfl rfl rfl rfl
 clear b0 b1 b2
 generalize movedN n 4=mv at*
 go_enter Tryz.func122,Tryz.ntmps122
 go_wp2_with fail
 generalize hz:w.heap.size=z at*
 have HZ:=Hd hz
 have HSZ:=Hd hsz
 clear hz hsz
 generalize World.alloc (World.alloc (World.alloc w _) _) _=W at*
 refine(HR _).out.mono ?_
 rintro e w1 ⟨rfl,hf1⟩
 clear q0 q1 q2 q3 q4
 obtain⟨b0,b1,b2⟩:=HS.out w1 hf1
 obtain⟨y0,y1,y2,y3⟩:=cs4 b1 rfl rfl rfl rfl
 have HF1:=Hd hf1
 clear b0 b1 b2 hf1
 go_wp2_with fail
 refine(HFM _).out.mono ?_
 rintro e w2 ⟨rfl,hf2⟩
 clear y0 y1 y2 y3
 have HF2:=Hd (HF1.out.trans hf2)
 clear hf2 HF1
 obtain⟨b0,b1,b2⟩:=HS.out w2 HF2.out
 have HB:=Hd (And.intro b0 (And.intro b1 b2))
 obtain⟨c0,c1,c2,c3,c4⟩:=cs5 b0 rfl rfl rfl rfl rfl
 have y0:=cell_in (i:=0) b1 rfl
 have y3:=cell_in (i:=3) b1 rfl
 obtain⟨r0,r1,r2,r3,r4,rf⟩:=cf5 b2 rfl rfl rfl rfl rfl
 clear b0 b1 b2
 have HSF:=Hd (show∀w':World,Fr (fun _=>False) w2 w'→w'.cell? ⟨z,0,none⟩=some (.int .i64 n)∧w'.cell? ⟨z,1,none⟩=some (.int .i64 a)∧w'.cell? ⟨z,2,none⟩=some (.int .i64 b)∧w'.cell? ⟨z,3,none⟩=some (.int .i64 c)∧w'.cell? ⟨z,4,none⟩=some (.int .i64 d)∧w'.cell? ⟨z+1,0,none⟩=some (.int .i64 4) from fun w' h=>⟨cell_in (i:=0) (h.keep HB.out.1 (fun h=>h)) rfl,cell_in (i:=1) (h.keep HB.out.1 (fun h=>h)) rfl,cell_in (i:=2) (h.keep HB.out.1 (fun h=>h)) rfl,cell_in (i:=3) (h.keep HB.out.1 (fun h=>h)) rfl,cell_in (i:=4) (h.keep HB.out.1 (fun h=>h)) rfl,cell_in (i:=0) (h.keep HB.out.2.1 (fun h=>h)) rfl⟩)
 have HSC:=Hd (HSF.out _ (Fr.refl _ w2).drew)
 go_wp2_with fail
 go_region_held3 (fun w'=>w'.cell? ⟨z,0,none⟩=some (.int .i64 n)∧w'.cell? ⟨z,1,none⟩=some (.int .i64 a)∧w'.cell? ⟨z,2,none⟩=some (.int .i64 b)∧w'.cell? ⟨z,3,none⟩=some (.int .i64 c)∧w'.cell? ⟨z,4,none⟩=some (.int .i64 d)∧w'.cell? ⟨z+1,0,none⟩=some (.int .i64 4)) (first|with_reducible exact HSC.out|with_reducible exact HSF.out _ ((Fr.refl _ w2).drew.alloc _)|(refine HSF.out _ ?_;(repeat refine Fr.setCell ?_ (.inr (Nat.le_refl _)) _);exact(Fr.refl _ w2).drew.alloc _)) ((first
  | (go_at_call 177
     with_reducible refine(HM _).out.mono ?_
     rintro e wc ⟨rfl,rfl⟩)))
 clear c0 c1 c2 c3 c4 y0 y3 r0 r1 r2 r3 r4 rf HSC HSF
 all_goals
  have hf8:=((Fr.refl (fun _=>False) w2).alloc (.cells #[.int .i64 mv,.int .i64 a,.int .i64 b,.int .i64 c,.int .i64 d] 89)).drew
  have hx8:((w2.alloc (.cells #[.int .i64 mv,.int .i64 a,.int .i64 b,.int .i64 c,.int .i64 d] 89)).drew).heap[w2.heap.size]? =some (.cells #[.int .i64 mv,.int .i64 a,.int .i64 b,.int .i64 c,.int .i64 d] 89 (0,0)):=heap_alloc_new w2 _
  have hz8:z+1+1<w2.heap.size:=by have:=HSZ.out;have:=HF2.out.size;omega
  obtain⟨b0,b1,b2⟩:=HS.out _ (HF2.out.trans hf8)
  have HB8:=Hd (And.intro b0 (And.intro b1 b2))
  have HF8:=Hd (HF3.out.trans (HF2.out.trans hf8))
  have HX8:=Hd hx8
  clear hf8 hx8 b0 b1 b2
  generalize(w2.alloc (.cells #[.int .i64 mv,.int .i64 a,.int .i64 b,.int .i64 c,.int .i64 d] 89)).drew=w8 at*
  generalize w2.heap.size=z8 at*
  obtain⟨c0,c1,c2,c3,c4⟩:=cs5 HB8.out.1 rfl rfl rfl rfl rfl
  have y0:=cell_in (i:=0) HB8.out.2.1 rfl
  have y3:=cell_in (i:=3) HB8.out.2.1 rfl
  obtain⟨t0,t1,t2,t3,t4,tf⟩:=cf5 HX8.out rfl rfl rfl rfl rfl
  obtain⟨r0,r1,r2,r3,r4,rf⟩:=cf5 HB8.out.2.2 rfl rfl rfl rfl rfl
  go_wp2_with fail
  refine bodyPost_ret (v:=.tuple #[.agg #[.int .i64 mv,.int .i64 a,.int .i64 b,.int .i64 c,.int .i64 d],.int .i64 0]) (by simp[results,Tryz.results122,go_sem,r0,r1,r2,r3,r4]) rfl ?_
  exact⟨rfl,(HF8.out).trans' (T:=fun k=>k=z+1+1) (((((Fr.one _ (z+1+1) 0 _).trans (Fr.one _ (z+1+1) 1 _)).trans (Fr.one _ (z+1+1) 2 _)).trans (Fr.one _ (z+1+1) 3 _)).trans (Fr.one _ (z+1+1) 4 _)) (fun k hk e=>by have:=HZ.out;omega)⟩
set_option maxRecDepth 100000 in
theorem rnextz_bad(n a b c d:Nat)(hs:(⟨n,a,b,c,d⟩:S).Ok)(kind:Int)(byte:Nat)(len dist:Int)(E:Nat)(hE:E≠0)(he:(⟨kind,byte,len,dist⟩:Sz).bad=E)(w:World):Calls Tryz.prog 122 #[.agg #[.int .i64 n,.int .i64 a,.int .i64 b,.int .i64 c,.int .i64 d],.agg #[.int .i64 kind,.int .u8 byte,.int .i64 len,.int .i64 dist]] w fun e w'=>e=.returned (.tuple #[.agg #[.int .i64 0,.int .i64 0,.int .i64 0,.int .i64 0,.int .i64 0],.int .i64 (E:Nat)])∧Fr (fun _=>False) w w':=by
 have t0:((E:Int) !=0)=true:=by simp[hE]
 have HR:=fun W=>Hd (show Calls Tryz.prog 120 #[.agg #[.int .i64 n,.int .i64 a,.int .i64 b,.int .i64 c,.int .i64 d]] W (fun e w'=>e=.returned (.bool true)∧Fr (fun _=>False) W w') from rright_calls ⟨n,a,b,c,d⟩ hs W)
 have HFM:=fun W=>Hd (show Calls Tryz.prog 146 #[.agg #[.int .i64 kind,.int .u8 byte,.int .i64 len,.int .i64 dist]] W (fun e w'=>e=.returned (.int .i64 (E:Nat))∧Fr (fun _=>False) W w') from(rformed_any kind byte len dist W).mono (fun e w' h=>by rw[he] at h;exact h))
 clear he
 obtain⟨hf3,hsz,b0,b1,b2⟩:=Rc.three w (.cells #[.int .i64 n,.int .i64 a,.int .i64 b,.int .i64 c,.int .i64 d] 89) (.cells #[.int .i64 kind,.int .u8 byte,.int .i64 len,.int .i64 dist] 96) (.cells #[.int .i64 0,.int .i64 0,.int .i64 0,.int .i64 0,.int .i64 0] 89)
 have HF3:=Hd hf3
 have HS:=Hd (show∀w':World,Fr (fun _=>False) (((w.alloc (.cells #[.int .i64 n,.int .i64 a,.int .i64 b,.int .i64 c,.int .i64 d] 89)).alloc (.cells #[.int .i64 kind,.int .u8 byte,.int .i64 len,.int .i64 dist] 96)).alloc (.cells #[.int .i64 0,.int .i64 0,.int .i64 0,.int .i64 0,.int .i64 0] 89)) w'→_ from fun w' h=>And.intro (h.keep b0 (fun h=>h)) (And.intro (h.keep b1 (fun h=>h)) (h.keep b2 (fun h=>h))))
 clear hf3 hE
 obtain⟨q0,q1,q2,q3,q4⟩:=cs5 b0 rfl rfl rfl rfl rfl
 clear b0 b1 b2
 go_enter Tryz.func122,Tryz.ntmps122
 go_wp2_with fail
 generalize hz:w.heap.size=z at*
 have HZ:=Hd hz
 have HSZ:=Hd hsz
 clear hz hsz
 generalize World.alloc (World.alloc (World.alloc w _) _) _=W at*
 refine(HR _).out.mono ?_
 rintro e w1 ⟨rfl,hf1⟩
 clear q0 q1 q2 q3 q4
 obtain⟨b0,b1,b2⟩:=HS.out w1 hf1
 obtain⟨y0,y1,y2,y3⟩:=cs4 b1 rfl rfl rfl rfl
 have HF1:=Hd hf1
 clear b0 b1 b2 hf1
 go_wp2_with fail
 refine(HFM _).out.mono ?_
 rintro e w2 ⟨rfl,hf2⟩
 clear y0 y1 y2 y3
 have HF2:=Hd (HF1.out.trans hf2)
 clear hf2 HF1
 obtain⟨b0,b1,b2⟩:=HS.out w2 HF2.out
 have HB:=Hd (And.intro b0 (And.intro b1 b2))
 obtain⟨c0,c1,c2,c3,c4⟩:=cs5 b0 rfl rfl rfl rfl rfl
 have y0:=cell_in (i:=0) b1 rfl
 have y3:=cell_in (i:=3) b1 rfl
 obtain⟨r0,r1,r2,r3,r4,rf⟩:=cf5 b2 rfl rfl rfl rfl rfl
 clear b0 b1 b2
 clear c0 c1 c2 c3 c4 y0 y3
 go_wp2_with fail
 refine bodyPost_ret (v:=.tuple #[.agg #[.int .i64 0,.int .i64 0,.int .i64 0,.int .i64 0,.int .i64 0],.int .i64 (E:Nat)]) (by simp[results,Tryz.results122,go_sem,r0,r1,r2,r3,r4]) rfl ?_
 exact⟨rfl,(HF3.out.trans HF2.out).trans' (T:=fun k=>k=z+1+1) (((((Fr.one _ (z+1+1) 0 _).trans (Fr.one _ (z+1+1) 1 _)).trans (Fr.one _ (z+1+1) 2 _)).trans (Fr.one _ (z+1+1) 3 _)).trans (Fr.one _ (z+1+1) 4 _)) (fun k hk e=>by have:=HZ.out;omega)⟩
theorem rnextz_calls(s:S)(hs:s.Ok)(z:Sz)(hb:z.byte<256)(w:World):
 Calls Tryz.prog 122 #[.agg s.cells,.agg z.cells] w fun e w'=>e=.returned (.tuple #[.agg (if z.bad=0 then(s.next z.sy).2 else .zero).cells,.int .i64 z.bad])∧Fr (fun _=>False) w w':=by
 by_cases h0:z.bad=0
 ·rw[h0,if_pos rfl]
  obtain⟨hy,hn⟩:=Sz.ok h0 hb
  have hsm:=Sz.same h0
  have hnx:=rnext_calls s hs z.sy hy w
  rw[hn s] at hnx
  obtain⟨k,b,n,d⟩:=z
  simp only at hsm
  by_cases hk:k=2∨k=3
  ·obtain⟨e1,e2,e3⟩:=hsm hk
   unfold Sy.cells at hnx
   rw[e1,e2,e3] at hnx
   exact hnx
  ·have hk2:k=1∨k=4:=by
    unfold Sz.bad at h0
    simp only at h0
    split at h0
    ·assumption
    ·rw[if_neg (by omega),if_neg (by omega)] at h0
     simp at h0
   obtain⟨n0,a,b',c,d'⟩:=s
   rcases hk2 with rfl|rfl
   ·exact rnextz_lit n0 a b' c d' hs b n d hb w
   ·exact rnextz_short n0 a b' c d' hs b n d hb w
 ·rw[if_neg h0]
  obtain⟨k,b,n,d⟩:=z
  obtain⟨n0,a,b',c,d'⟩:=s
  exact rnextz_bad n0 a b' c d' hs k b n d _ h0 rfl w
theorem rsizez_calls(z:Sz)(h0:z.bad=0)(hb:z.byte<256)(w:World):Calls Tryz.prog 96 #[.agg z.cells] w fun e w'=>e=.returned (.int .i64 (St.size z.sy))∧Fr (fun _=>False) w w':=by
 have HFM:=fun W=>Hd (rformed_any z.kind z.byte z.len z.dist W)
 obtain⟨hy,hn⟩:=Sz.ok h0 hb
 have hsm:=Sz.same h0
 have hsz:St.size z.sy=if z.kind=2∨z.kind=3 then z.len.toNat else 1:=by
  unfold St.size
  rw[hn,if_pos rfl]
  have h1:(z.sy.kind=2∨z.sy.kind=3)↔(z.kind=2∨z.kind=3):=by
   unfold Sz.sy
   simp only
   omega
  by_cases h2:z.kind=2∨z.kind=3
  ·rw[if_pos h2,if_pos (h1.2 h2)]
   rfl
  ·rw[if_neg h2,if_neg (fun h=>h2 (h1.1 h))]
 have hk:z.kind=1∨z.kind=2∨z.kind=3∨z.kind=4:=by
  have h3:=hy.kind
  unfold Sz.sy at h3
  simp only at h3
  omega
 generalize St.size z.sy=sz at*
 obtain⟨kind,byte,len,dist⟩:=z
 simp only at hk hsz hsm hb HFM
 rw[h0] at HFM
 unfold Sz.cells
 simp only[Sz.sy] at hsm ⊢
 have hx:=heap_alloc_new w (.cells #[.int .i64 kind,.int .u8 byte,.int .i64 len,.int .i64 dist] 96)
 have HF:=Hd ((Fr.refl (fun _=>False) w).alloc (.cells #[.int .i64 kind,.int .u8 byte,.int .i64 len,.int .i64 dist] 96))
 obtain⟨c0,c1,c2,c3⟩:=cs4 hx rfl rfl rfl rfl
 have HX:=Hd hx
 have HSZ:=Hd hsz
 have HSM:=Hd hsm
 clear hx hsz hy hn h0 hsm
 rcases hk with rfl|rfl|rfl|rfl
 all_goals
  go_enter Tryz.func96,Tryz.ntmps96
  go_wp2_with fail
  refine(HFM _).out.mono ?_
  rintro e w2 ⟨rfl,hf2⟩
  have hx2:=hf2.keep HX.out (fun h=>h)
  clear c0 c1 c2 c3
  have c0:=cell_in (i:=0) hx2 rfl
  have c2:=cell_in (i:=2) hx2 rfl
  have HF2:=Hd (HF.out.trans hf2)
  clear hf2 hx2
  go_wp2_with fail
  go_ret
  refine⟨?_,HF2.out⟩
  rw[HSZ.out]
  first
   |rfl
   |(rw[if_pos (by decide),(HSM.out (by decide)).1];rfl)
end Rf
namespace Rf
open Mem St
abbrev propV(lc lp pb:Nat):Value:=.agg #[.int .i64 lc,.int .i64 lp,.int .i64 pb]
theorem allowed_calls(lc lp pb:Nat)(h:lc+lp≤4)(hp:pb≤4)(w:World):Calls Tryz.prog 29 #[propV lc lp pb] w fun e w'=>e=.returned (.bool true)∧Fr (fun _=>False) w w':=by
 have HF:=Hd ((Fr.refl (fun _=>False) w).alloc (.cells #[.int .i64 lc,.int .i64 lp,.int .i64 pb] 24))
 have hx:=heap_alloc_new w (.cells #[.int .i64 lc,.int .i64 lp,.int .i64 pb] 24)
 obtain⟨c0,c1,c2⟩:=cs3 hx rfl rfl rfl
 clear hx
 have a0:decide ((lc:Int)≥0)=true:=by rw[decide_eq_true_eq];omega
 have a1:decide ((lp:Int)≥0)=true:=by rw[decide_eq_true_eq];omega
 have a2:decide ((pb:Int)≥0)=true:=by rw[decide_eq_true_eq];omega
 have b0:decide ((0:Int)≤lc)=true:=by rw[decide_eq_true_eq];omega
 have b1:decide ((0:Int)≤lp)=true:=by rw[decide_eq_true_eq];omega
 have b2:decide ((0:Int)≤pb)=true:=by rw[decide_eq_true_eq];omega
 have d0:decide ((lc:Int)≤4)=true:=by rw[decide_eq_true_eq];omega
 have d1:decide ((lp:Int)≤4)=true:=by rw[decide_eq_true_eq];omega
 have d2:decide ((pb:Int)≤4)=true:=by rw[decide_eq_true_eq];omega
 have d3:decide ((lc:Int)+(lp:Int)≤4)=true:=by rw[decide_eq_true_eq];omega
 go_enter Tryz.func29,Tryz.ntmps29
 go_wp2_with fail
 go_ret
 exact⟨rfl,HF.out⟩
theorem propsByte_calls(lc lp pb:Nat)(h:lc+lp≤4)(hp:pb≤4)(w:World):Calls Tryz.prog 69 #[propV lc lp pb] w fun e w'=>e=.returned (.tuple #[.int .i64 (((5*pb+lp)*9+lc:Nat):Int),.int .i64 0])∧Fr (fun _=>False) w w':=by
 have HF:=Hd ((Fr.refl (fun _=>False) w).alloc (.cells #[.int .i64 lc,.int .i64 lp,.int .i64 pb] 24))
 have hx:=heap_alloc_new w (.cells #[.int .i64 lc,.int .i64 lp,.int .i64 pb] 24)
 obtain⟨c0,c1,c2⟩:=cs3 hx rfl rfl rfl
 have HX:=Hd hx
 clear hx
 have HA:=fun W=>Hd (allowed_calls lc lp pb h hp W)
 go_enter Tryz.func69,Tryz.ntmps69
 go_wp2_with fail
 refine(HA _).out.mono ?_
 rintro e w2 ⟨rfl,hf2⟩
 have hx2:=hf2.keep HX.out (fun h=>h)
 clear c0 c1 c2
 obtain⟨c0,c1,c2⟩:=cs3 hx2 rfl rfl rfl
 have HF2:=Hd (HF.out.trans hf2)
 clear hf2 hx2
 go_wp2_with fail
 go_ret2
 refine⟨?_,HF2.out⟩
 have e:(((5*pb+lp)*9+lc:Nat):Int)=(5*(pb:Int)+lp)*9+lc:=by omega
 rw[e]
 rfl
end Rf
namespace En
open Mem Rc
theorem digs_front:∀(n a:Nat),digs (n+1) a=UInt8.ofNat (a/256^n%256)::digs n a
 |0,a=>by simp[digs]
 |n+1,a=>by
   rw[digs,digs_front n (a/256),Nat.div_div_eq_div_mul,show 256*256^n=256^(n+1) by rw[Nat.pow_succ,Nat.mul_comm]]
   rfl
def addL(n m a v:Nat):List UInt8:=digs (n-m) (a/256^m)++digs m (a+v)
def addC(m a v:Nat):Nat:=(a+v)/256^m-a/256^m
theorem addL_start(n a v:Nat):addL n 0 a v=digs n a:=by simp[addL,digs]
theorem addL_end(n a v:Nat):addL n n a v=digs n (a+v):=by simp[addL,digs]
theorem addC_start(a v:Nat):addC 0 a v=v:=by simp[addC]
theorem addC_le(m a v:Nat)(h:v≤4294967295):addC m a v≤4294967296:=by
 unfold addC
 have hp:=Nat.pow_pos (n:=m) (show 0<256 by decide)
 have h1:(a+v)/256^m≤a/256^m+v/256^m+1:=by
  have e1:=Nat.div_add_mod a (256^m)
  have e2:=Nat.div_add_mod v (256^m)
  have l1:=Nat.mod_lt a hp
  have l2:=Nat.mod_lt v hp
  generalize 256^m=P at*
  apply Nat.le_of_lt_succ
  rw[Nat.div_lt_iff_lt_mul hp]
  have e3:(a/P+v/P+1).succ*P=P*(a/P)+P*(v/P)+P+P:=by
   rw[Nat.succ_mul,Nat.add_mul,Nat.add_mul,Nat.one_mul,Nat.mul_comm (a/P),Nat.mul_comm (v/P)]
  omega
 have h2:=Nat.div_le_self v (256^m)
 omega
theorem addC_step(m a v:Nat):addC (m+1) a v=(addC m a v+a/256^m%256)/256∧(addC m a v+a/256^m%256)%256=(a+v)/256^m%256:=by
 unfold addC
 have h:a/256^m≤(a+v)/256^m:=Nat.div_le_div_right (Nat.le_add_right _ _)
 rw[Nat.pow_succ,←Nat.div_div_eq_div_mul,←Nat.div_div_eq_div_mul]
 omega
theorem addL_get{n m a v j:Nat}(h:n=m+j+1):(addL n m a v)[j]? =some (UInt8.ofNat (a/256^m%256)):=by
 unfold addL
 rw[show n-m=j+1 by omega,digs,List.append_assoc,List.getElem?_append_right (by rw[digs_len];exact Nat.le_refl _),digs_len]
 simp
theorem addL_set{n m a v j:Nat}(h:n=m+j+1):(addL n m a v).set j (UInt8.ofNat ((addC m a v+a/256^m%256)%256))=addL n (m+1) a v:=by
 rw[(addC_step m a v).2]
 unfold addL
 rw[show n-m=j+1 by omega,show n-(m+1)=j by omega,digs,digs_front,List.append_assoc,List.set_append_right _ _ (by rw[digs_len];exact Nat.le_refl _),digs_len,Nat.sub_self,Nat.div_div_eq_div_mul,←Nat.pow_succ]
 rfl
end En
namespace En
open Mem Rc Win Lz
theorem own_open{w:World}{T:TypeId}{v:Value}{n:Nat}{xs:List Value}(h:w.ownsRow 0 T 1 v n xs)(hn:0<n):∃g cap cur,v=.slice (some ⟨g,0,none⟩) n cap∧w.heap[g]? =some (.cells cur T (0,0))∧(∀(i:Nat)(x:Value),xs[i]? =some x→cur[i]? =some x)∧
 ∀(i:Nat)(u:Value),(w.setCell ⟨g,i,none⟩ u).ownsRow 0 T 1 v n (xs.set i u):=by
 obtain⟨h1,h2⟩:=h
 rcases h2 with⟨hnn,h0⟩|⟨g,cap,cur,hgv,h4,hg,hle,hm,hcs,ht⟩
 ·omega
 ·refine⟨g,cap,cur,hgv,hg,fun i x hx=> ?_,fun i u=>⟨by rw[List.length_set];exact h1,.inr ⟨g,cap,_,hgv,h4,set_in hg i u,hle,hm,by simp[hcs],?_⟩⟩⟩
  ·rw[←ht,List.getElem?_take] at hx
   split at hx
   ·rw[←Array.getElem?_toList]
    exact hx
   ·cases hx
  ·rw[Array.toList_setIfInBounds,List.take_set,ht]
theorem fr_row(w:World)(g i:Nat)(u:Value){p:Nat}{c:Nat}:Fr (fun k=>(Value.slice (some ⟨g,0,none⟩) p c).ownBlock=some k) w (w.setCell ⟨g,i,none⟩ u):=
 (Fr.one w g i u).mono (fun k _ e=>by rw[e];rfl)
structure QR(w:World)(E:Nat)(v:Value)(L:List UInt8)(r s:Nat):Prop where
 box:w.heap[E]? =some (.cells #[v,.int .u32 r,.int .i64 s] 215 (0,0))
 own:w.ownsRow 0 5 1 v L.length (bvs L)
theorem QR.off{w:World}{E:Nat}{v:Value}{L:List UInt8}{r s:Nat}(h:QR w E v L r s):∀k,v.ownBlock=some k→k≠E:=fun k hk=>off_box h.own h.box (by decide) k hk
theorem QR.keep{S:Nat→Prop}{w w':World}{E:Nat}{v:Value}{L:List UInt8}{r s:Nat}(h:QR w E v L r s)(hfr:Fr S w w')(hB:¬S E)(hv:∀k,v.ownBlock=some k→¬S k):QR w' E v L r s:=
 ⟨hfr.keep h.box hB,own_step h.own hfr hv⟩
def QPost(E:Nat)(v:Value)(w:World)(L:List UInt8)(r s:Nat)(w':World):Prop:=Fr (EF E v) w w'∧∃v',QR w' E v' L r s∧∀k,v'.ownBlock=some k→v.ownBlock=some k∨w.heap.size≤k
theorem QPost.trans{E:Nat}{v v1:Value}{w w1 w2:World}{L:List UInt8}{r s:Nat}(h1:Fr (EF E v) w w1)(hn:∀k,v1.ownBlock=some k→v.ownBlock=some k∨w.heap.size≤k)(h2:QPost E v1 w1 L r s w2):QPost E v w L r s w2:=by
 obtain⟨f,v2,a,n⟩:=h2
 refine⟨h1.trans' f (fun k hk e=> ?_),v2,a,fun k hk=> ?_⟩
 ·rcases e with e|e
  ·exact .inl e
  ·rcases hn k e with e|e
   ·exact .inr e
   ·omega
 ·rcases n k hk with e|e
  ·exact hn k e
  ·exact .inr (Nat.le_trans h1.size e)
theorem QR.same{w:World}{E:Nat}{v:Value}{L:List UInt8}{r s:Nat}(h:QR w E v L r s):QPost E v w L r s w:=⟨Fr.refl _ _,v,h,fun k hk=>.inl hk⟩
theorem bvs_set(L:List UInt8)(i:Nat)(x:UInt8):(bvs L).set i (bv x)=bvs (L.set i x):=by unfold bvs;rw[List.map_set]
set_option maxRecDepth 100000 in
theorem adds_calls{w:World}{E:Nat}{v:Value}{n a r s x:Nat}(h:QR w E v (digs n a) r s)(hx:x≤4294967295)(hn:n≤1099511627780)(h1:1≤n):
 Calls Tryz.prog 132 #[ptr E,.int .u32 x] w fun e w'=>e=.returned (.tuple #[])∧Fr (fun k=>v.ownBlock=some k) w w'∧QR w' E v (digs n (a+x)) r s:=by
 have hown:=h.own
 rw[digs_len] at hown
 obtain⟨g,cap,cur,rfl,hg,hget,hset⟩:=own_open hown (by omega)
 have hEg:g≠E:=h.off g rfl
 have HB:=Hd h.box
 have c0:w.cell? ⟨E,0,none⟩=some (.slice (some ⟨g,0,none⟩) n cap):=cell_in h.box rfl
 have H0:=Hd (show w.ownsRow 0 5 1 (.slice (some ⟨g,0,none⟩) n cap) n (bvs (addL n 0 a x)) by rw[addL_start];exact hown)
 have HC:=Hd (addC_start a x)
 clear h hg hget hset hown
 have ez:IntKind.u64.wrap (x:Int)=(x:Int):=by rw[IntKind.wrap_u64];omega
 go_enter Tryz.func132,Tryz.ntmps132
 go_wp2_with fail
 go_loopw [4,5] (fun c i wr=>∃(j m C:Nat)(z:Int),m+j=n∧z=(j:Int)-1∧i=.int .i64 z∧C=addC m a x∧c=.int .u64 C∧Fr (fun k=>(Value.slice (some ⟨g,0,none⟩) n cap).ownBlock=some k) w wr∧wr.ownsRow 0 5 1 (.slice (some ⟨g,0,none⟩) n cap) n (bvs (addL n m a x))) (fun _ i _=>(intOf i+1).toNat)
 case atStart=>exact⟨n,0,_,_,by omega,rfl,rfl,rfl,by rw[HC.out],Fr.refl _ _,H0.out⟩
 case round=>
  obtain⟨j,m,C,z,hj,hz,rfl,hC,rfl,hfr,how⟩:=hrel
  have hbx:=hfr.keep HB.out (fun e=>hEg (Option.some.inj e))
  have k0:wr.cell? ⟨E,0,none⟩=some (.slice (some ⟨g,0,none⟩) n cap):=cell_in hbx rfl
  have HFR:=Hd hfr
  have HBX:=Hd hbx
  have hCl:C≤4294967296:=by rw[hC];exact addC_le m a x hx
  have HCC:=Hd hC
  have HJ:=Hd hj
  cases j with
  |zero=>
    have HO:=Hd how
    obtain rfl:z=-1:=by omega
    clear hbx hfr how hC hj hz
    go_wp2_with fail
    go_end0
    have hm:m=n:=by have:=HJ.out;omega
    subst hm
    refine⟨rfl,HFR.out,HBX.out,?_⟩
    have:=HO.out
    rw[addL_end] at this
    rw[digs_len]
    exact this
  |succ j=>
    obtain rfl:z=(j:Int):=by omega
    have hnj:n=m+j+1:=by omega
    obtain⟨g',cap',cur,hge,hg,hget,hset⟩:=own_open how (by omega)
    obtain⟨rfl,rfl⟩:g=g'∧cap=cap':=by simpa using hge
    obtain⟨y,hy⟩:∃y,y=UInt8.ofNat (a/256^m%256):=⟨_,rfl⟩
    have hyn:y.toNat=a/256^m%256:=by rw[hy,UInt8.toNat_ofNat'];omega
    have hc:=hget j (bv y) (by rw[hy];exact bvs_at (addL_get hnj))
    have k6:wr.cell? ⟨g,j,none⟩=some (.int .u8 y.toNat):=cell_in hg hc
    have kf:=frozen_in hg j
    have hyl:=UInt8.toNat_lt y
    have HSET:=Hd hset
    have HYN:=Hd hyn
    have HNJ:=Hd hnj
    generalize y.toNat=yn at*
    have i0:(0:Int)≤(j:Int):=by omega
    have i1:(j:Int)<(n:Int):=by omega
    have d1:decide ((j:Int)≥0)=true:=decide_eq_true i0
    have d2:decide ((0:Int)≤(j:Int))=true:=decide_eq_true i0
    have e1:IntKind.u64.wrap (yn:Int)=(yn:Int):=by rw[IntKind.wrap_u64];omega
    have e2:IntKind.u64.wrap ((C:Int)+(yn:Int))=((C+yn:Nat):Int):=by rw[IntKind.wrap_u64];omega
    have e3:IntKind.u8.wrap (((C+yn:Nat):Int)%256)=(((C+yn)%256:Nat):Int):=by rw[IntKind.wrap_u8];omega
    have e4:IntKind.u64.wrap (((C+yn:Nat):Int)/256)=(((C+yn)/256:Nat):Int):=by rw[IntKind.wrap_u64];omega
    clear hbx hfr how hC hj hz hg hget hset hge hy hyn hnj hc
    generalize hQ:C+yn=Q at*
    go_wp2_with fail
    go_roundw
    case rel=>
     have hs:=addC_step m a x
     rw[←HCC.out,←HYN.out,hQ] at hs
     refine⟨j,m+1,Q/256,(j:Int)-1,by have:=HNJ.out;omega,rfl,by go_num,hs.1.symm,by go_num,HFR.out.trans (fr_row _ _ _ _),?_⟩
     have hso:=HSET.out j (.int .u8 ((Q%256:Nat):Int))
     have hls:=addL_set (n:=n) (m:=m) (a:=a) (v:=x) (j:=j) HNJ.out
     rw[←HCC.out,←HYN.out,hQ] at hls
     rw[←hls,←bvs_set]
     have hb:bv (UInt8.ofNat (Q%256))=.int .u8 ((Q%256:Nat):Int):=by
      show Value.int .u8 ((UInt8.ofNat (Q%256)).toNat:Int)=_
      rw[UInt8.toNat_ofNat']
      congr 1
     rw[hb]
     exact hso
    case measure=>simp[intOf]
end En
end Go.Proofs.YtlgccpjccopdmaaGreatDoor
