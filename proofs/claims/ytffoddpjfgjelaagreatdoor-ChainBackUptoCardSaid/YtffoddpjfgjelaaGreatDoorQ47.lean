/- Part 47 of 48: lemmas of the last part, each under the conditions that it names. -/
import Derived.Test.YtffoddpjfgjelaaGreatDoorQ24
import Derived.Test.YtffoddpjfgjelaaGreatDoorQ25
import Derived.Test.YtffoddpjfgjelaaGreatDoorQ29
import Derived.Test.YtffoddpjfgjelaaGreatDoorQ44
import Derived.Test.YtffoddpjfgjelaaGreatDoorQ46
set_option linter.unusedVariables false
set_option linter.unusedSimpArgs false
set_option maxRecDepth 1500
set_option maxHeartbeats 8000000
namespace Go.Proofs.YtffoddpjfgjelaaGreatDoor
open Go.RowKit
namespace Pk
open Mem Rc St Lz En Win Ck
def EncPost(cf:Cf)(data:List UInt8)(w:World)(e:Ending)(w':World):Prop:=
 Fr (fun _=>False) w w'∧∃(t:Pst)(v:Value),e=.returned (.tuple #[v,.int .i64 0])∧t.Whole data cf.dict cf.pr (decide (cf.mode=0))∧Mine w w' v (t.out cf.dict++[0])
theorem snewP_calls(w:World):Calls Tryz.prog 34 #[] w fun e w'=>e=.returned (.agg #[.int .i64 0,.int .i64 1,.int .i64 1,.int .i64 1,.int .i64 1])∧Fr (fun _=>False) w w':=St.new_calls w
structure ELoop(w0:World)(P:Nat)(cf:Cf)(dv:Value)(data:List UInt8)(i:Nat)(ov:Value)(l:XL)(t:Pst)(wr:World):Prop where
 at':PkAt w0 wr P cf dv ov data l t
 ok:t.Ok data cf.dict cf.pr (decide (cf.mode=0))
 len:t.pts.length=i
 each:∀j,j<i→65536*j<data.length
 fr:Fr (fun _=>False) w0 wr
theorem ELoop.outlen{w0 wr:World}{P i:Nat}{cf:Cf}{dv ov:Value}{data:List UInt8}{l:XL}{t:Pst}(h:ELoop w0 P cf dv data i ov l t wr)(hb:data.length≤1073741824):(t.out cf.dict).length≤4000000000∧65536*i<data.length+65536:=by
 have h1:=h.ok.len
 have h2:=upto_le data.length t.pts.length
 have h3:=h.len
 have h4:65536*i<data.length+65536:=by
  by_cases h0:i=0
  ·omega
  ·have:=h.each (i-1) (by omega)
   omega
 refine⟨?_,h4⟩
 show(rowB (t.row cf.dict)).length≤_
 omega
theorem goodC_of{cf:Cf}(hq:cf.lc+cf.lp≤4∧cf.pb≤4)(hd:4096≤cf.dict∧cf.dict≤67108864)(hm:cf.mode≤2):goodC cf.lc cf.lp cf.pb cf.dict cf.mode=true:=by
 unfold goodC propsBad
 simp
 omega
abbrev waysOf(P:Nat):Array Value:=#[.func (.func 36) #[ptr P] #[],.func (.func 37) #[ptr P] #[]]
set_option maxRecDepth 100000 in
theorem encodeX_calls(cf:Cf)(p:Option Addr)(cap:Nat)(data:List UInt8)(w:World)(hT:Tabs w)(hrd:Rd w (.slice p data.length cap) data)(hb:data.length≤1073741824)(hq:cf.lc+cf.lp≤4∧cf.pb≤4)(hd:4096≤cf.dict∧cf.dict≤67108864)(hm:cf.mode≤2):
 Calls Tryz.prog 9 #[.slice p data.length cap,.agg cf.cells] w (EncPost cf data w):=by
 have HX:=Hd (heap_alloc_new w (.cells cf.cells 26))
 have HF:=Hd ((R0 w).alloc (.cells cf.cells 26))
 have HRD:=Hd hrd
 have HT:=Hd hT
 have HG:=fun W=>Hd (goodX_calls cf.a cf.b cf.lc cf.lp cf.pb cf.dict cf.d cf.mode W (by omega) (by omega) (by omega))
 have HN:=fun W=>Hd (enewP_in cf.lc cf.lp cf.pb cf.dict hq.1 hq.2 W (by omega) (by omega))
 rw[goodC_of hq hd hm] at HG
 have hmf:∀(fn:Fn)(first cap:Array Value)(w:World),(Instr.makeFunc fn first cap).run Tryz.prog w=.ok (.func fn first cap) w:=fun _ _ _ _=>rfl
 have hdv:∀k,(Value.slice p data.length cap).ownBlock=some k→0<data.length→k<w.heap.size:=fun k hk h0=>Ps.rdlt hrd h0 k hk
 have HDV:=Hd hdv
 have t0:decide ((data.length:Int)>2147483648)=false:=decide_eq_false (by omega)
 have t1:decide ((2147483648:Int)<data.length)=false:=decide_eq_false (by omega)
 clear hT hrd hdv
 simp only[Cf.cells] at HX HF ⊢
 go_enter Tryz.func9,Tryz.ntmps9
 go_wp2_with fail
 refine(HG _).out.mono ?_
 rintro e w1 ⟨rfl,hfr⟩
 have hx1:=hfr.keep HX.out (fun h=>h)
 have c2:=cell_in (i:=2) hx1 rfl
 have c3:=cell_in (i:=3) hx1 rfl
 have c4:=cell_in (i:=4) hx1 rfl
 have c5:=cell_in (i:=5) hx1 rfl
 have HX1:=Hd hx1
 have HF1:=Hd (HF.out.trans hfr)
 clear hfr hx1
 go_wp2_with fail
 refine(HN _).out.mono ?_
 rintro e w2 ⟨hfr,l,rfl,hxa,hsep,hnew⟩
 have hx2:=hfr.keep HX1.out (fun h=>h)
 have HX2:=Hd hx2
 have HF2:=Hd (HF1.out.trans hfr)
 have hw5:=(HT.out.keep HF1.out).size
 have HXE:=Hd (show XE w2 l (startP (cf.lc,cf.lp,cf.pb) cf.dict) from⟨hxa,hsep,fun k hk=>Nat.le_trans hw5 (hnew k hk)⟩)
 have HS:=Hd (show∀w':World,Fr (fun _=>False) w2 w'→w'.cell? ⟨w.heap.size,0,none⟩=some (.int .i64 cf.a)∧w'.cell? ⟨w.heap.size,1,none⟩=some (.int .i64 cf.b)∧w'.cell? ⟨w.heap.size,2,none⟩=some (.int .i64 cf.lc)∧w'.cell? ⟨w.heap.size,3,none⟩=some (.int .i64 cf.lp)∧w'.cell? ⟨w.heap.size,4,none⟩=some (.int .i64 cf.pb)∧w'.cell? ⟨w.heap.size,5,none⟩=some (.int .i64 cf.dict)∧w'.cell? ⟨w.heap.size,6,none⟩=some (.int .i64 cf.d)∧w'.cell? ⟨w.heap.size,7,none⟩=some (.int .i64 cf.mode) from fun w' hf=>
  have h:=hf.keep hx2 (fun h=>h)
  ⟨cell_in (i:=0) h rfl,cell_in (i:=1) h rfl,cell_in (i:=2) h rfl,cell_in (i:=3) h rfl,cell_in (i:=4) h rfl,cell_in (i:=5) h rfl,cell_in (i:=6) h rfl,cell_in (i:=7) h rfl⟩)
 have HR:=Hd ((R0 w2).drew)
 have HSC:=Hd (HS.out w2.drew HR.out)
 obtain⟨s0,s1,s2,s3,s4,s5,s6,s7⟩:=HS.out w2 (Fr.refl _ _)
 have HNEW:=Hd hnew
 clear hfr hxa hsep hnew hx2 c2 c3 c4 c5
 go_wp2_with fail
 go_region_held3 (fun w'=>w'.cell? ⟨w.heap.size,0,none⟩=some (.int .i64 cf.a)∧w'.cell? ⟨w.heap.size,1,none⟩=some (.int .i64 cf.b)∧w'.cell? ⟨w.heap.size,2,none⟩=some (.int .i64 cf.lc)∧w'.cell? ⟨w.heap.size,3,none⟩=some (.int .i64 cf.lp)∧w'.cell? ⟨w.heap.size,4,none⟩=some (.int .i64 cf.pb)∧w'.cell? ⟨w.heap.size,5,none⟩=some (.int .i64 cf.dict)∧w'.cell? ⟨w.heap.size,6,none⟩=some (.int .i64 cf.d)∧w'.cell? ⟨w.heap.size,7,none⟩=some (.int .i64 cf.mode)) (first|with_reducible exact HSC.out|with_reducible exact HS.out _ HR.out|with_reducible exact HS.out _ (HR.out.alloc _)) ((first
  | (go_at_call 34
     with_reducible refine(snewP_calls _).mono ?_
     rintro e wc ⟨rfl,hfrc⟩
     have HR:=Hd (HR.out.trans hfrc)
     have HSC:=Hd (HS.out _ HR.out)
     obtain⟨s0,s1,s2,s3,s4,s5,s6,s7⟩:=HSC.out
     clear hfrc)))
 have hfa:=HR.out.alloc (.cells #[.int .i64 cf.a,.int .i64 cf.b,.int .i64 cf.lc,.int .i64 cf.lp,.int .i64 cf.pb,.int .i64 cf.dict,.int .i64 cf.d,.int .i64 cf.mode,.slice p data.length cap,ptr l.D,.int .i64 0,.int .i64 1,.int .i64 1,.int .i64 1,.int .i64 1,.slice none 0 0,.bool false,.bool false,.bool false] 87)
 have hst:=start_ok data (dict:=cf.dict) (pr:=cf.pr) hq (decide (cf.mode=0))
 have hPk:PkAt wc (wc.alloc (.cells #[.int .i64 cf.a,.int .i64 cf.b,.int .i64 cf.lc,.int .i64 cf.lp,.int .i64 cf.pb,.int .i64 cf.dict,.int .i64 cf.d,.int .i64 cf.mode,.slice p data.length cap,ptr l.D,.int .i64 0,.int .i64 1,.int .i64 1,.int .i64 1,.int .i64 1,.slice none 0 0,.bool false,.bool false,.bool false] 87)) wc.heap.size cf (.slice p data.length cap) (.slice none 0 0) data l (Pst.start cf.dict cf.pr):=
  ⟨heap_alloc_new _ _,HRD.out.keep (HF2.out.trans hfa),HXE.out.keep hfa,⟨World.ownsRow_nil _ _ _ _,fun k hk=>by simp[Value.ownBlock] at hk⟩⟩
 have HE0:=Hd (show ELoop wc wc.heap.size cf (.slice p data.length cap) data 0 (.slice none 0 0) l (Pst.start cf.dict cf.pr) (wc.alloc (.cells #[.int .i64 cf.a,.int .i64 cf.b,.int .i64 cf.lc,.int .i64 cf.lp,.int .i64 cf.pb,.int .i64 cf.dict,.int .i64 cf.d,.int .i64 cf.mode,.slice p data.length cap,ptr l.D,.int .i64 0,.int .i64 1,.int .i64 1,.int .i64 1,.int .i64 1,.slice none 0 0,.bool false,.bool false,.bool false] 87)) from⟨hPk,hst,rfl,fun j hj=>absurd hj (by omega),(Fr.refl _ _).alloc _⟩)
 have HFA:=Hd (HF2.out.trans HR.out)
 obtain⟨W1,hW1⟩:∃W1,wc.alloc (.cells #[.int .i64 cf.a,.int .i64 cf.b,.int .i64 cf.lc,.int .i64 cf.lp,.int .i64 cf.pb,.int .i64 cf.dict,.int .i64 cf.d,.int .i64 cf.mode,.slice p data.length cap,ptr l.D,.int .i64 0,.int .i64 1,.int .i64 1,.int .i64 1,.int .i64 1,.slice none 0 0,.bool false,.bool false,.bool false] 87)=W1:=⟨_,rfl⟩
 rw[hW1] at HE0 ⊢
 have HT1:=Hd (HT.out.keep HFA.out)
 have hPs:=HFA.out.size
 clear hfa hst hPk HSC HS s0 s1 s2 s3 s4 s5 s6 s7 HR HXE HX2 HF2 HX1 HF1 HNEW hW1 HF HX
 obtain⟨P,hP⟩:∃P,wc.heap.size=P:=⟨_,rfl⟩
 rw[hP] at HE0 ⊢
 go_wp2_with fail
 go_loopw [9] (fun i wr=>∃(k:Nat)(ov:Value)(l2:XL)(t:Pst),i=.int .i64 ((65536*k:Nat):Int)∧ELoop wc P cf (.slice p data.length cap) data k ov l2 t wr) (fun i _=>data.length+65536-(intOf i).toNat)
 case atStart=>exact⟨0,_,_,_,rfl,HE0.out⟩
 case round=>
  obtain⟨k,ov,l2,t,rfl,hE⟩:=hrel
  obtain⟨ho1,ho2⟩:=hE.outlen hb
  obtain⟨f,hf⟩:∃f,f=65536*k:=⟨_,rfl⟩
  rw[←hf]
  have HE:=Hd hE
  have HFK:=Hd hf
  by_cases hlt:f<data.length
  ·have hd1:decide ((f:Int)<(data.length:Int))=true:=decide_eq_true (by omega)
   have hfa:=(R0 wr).alloc (.cells (waysOf P) 152)
   have hlen:=hE.len
   have hu:upto data.length t.pts.length=f:=by unfold upto;rw[hlen];omega
   have hu2:((upto data.length (t.pts.length+1):Nat):Int)=min ((f:Int)+65536) (data.length:Int):=by unfold upto;rw [hlen];omega
   have hw:=write_calls P wr.heap.size cf (.slice p data.length cap) ov data l2 t wc (wr.alloc (.cells (waysOf P) 152)) (hE.at'.keep hfa) (HT1.out.keep (hE.fr.trans hfa)) hE.ok (by rw[hlen,←hf];exact hlt) (heap_alloc_new wr (.cells (waysOf P) 152))
    (fun k hk=>Nat.lt_of_lt_of_le (HDV.out k hk (by omega)) hPs) (hE.fr.trans hfa) (by omega) ho1 hb (by omega) (by omega) hq
   rw[hu,hu2] at hw
   have HW:=Hd hw
   have HA:=Hd hfa
   clear hE hf hfa hlen hu hu2 hw
   go_wp2_with fail
   refine HW.out.mono ?_
   rintro e w3 ⟨rfl,hf3,ov3,l3,t3,hat3,hok3,hlen3,hnew3⟩
   have HN:=Hd (show ELoop wc P cf (.slice p data.length cap) data (k+1) ov3 l3 t3 w3 from⟨hat3,hok3,by rw[hlen3,HE.out.len],fun j hj=>by
    by_cases hjk:j=k
    ·have:=HFK.out
     omega
    ·exact HE.out.each j (by omega),(HE.out.fr.trans HA.out).trans' hf3 (fun j h1 h2=>by
     rcases h2 with h2|h2
     ·omega
     ·have:=HE.out.at'.out.new j h2
      omega)⟩)
   clear hf3 hat3 hok3 hlen3 hnew3 HW
   go_wp2_with fail
   go_roundw
   case rel=>exact⟨k+1,_,_,_,by have:=HFK.out;go_num,HN.out⟩
   case measure=>simp[intOf];omega
  ·have hd1:decide ((f:Int)<(data.length:Int))=false:=decide_eq_false (by omega)
   have hwh:t.Whole data cf.dict cf.pr (decide (cf.mode=0)):=⟨hE.ok,by rw[hE.len];omega,fun j hj=>hE.each j (by rw[←hE.len];exact hj)⟩
   have hfa:=(R0 wr).alloc (.cells #[.int .u8 0] 5)
   have hrd:=rd_one wr wr.heap.size rfl 0 0 rfl
   obtain⟨po,co,rfl⟩:=hE.at'.out.slice
   have hbx:=hE.at'.box
   unfold pkCells at hbx
   have c15:=cell_in (i:=15) hbx rfl
   have HWH:=Hd hwh
   have HM:=Hd (hE.at'.out.keep hfa)
   have HA:=Hd hfa
   have HRD0:=Hd hrd
   have HS:=Hd (Nat.le_trans hE.fr.size hfa.size)
   obtain⟨os,hos⟩:∃os,t.out cf.dict=os:=⟨_,rfl⟩
   rw[hos] at c15 HM ho1
   have HOS:=Hd hos
   clear hE hf hwh hfa hrd hbx hos
   go_wp2_with (at_builtin;refine append_mine rfl _ _ rfl (w0:=wc) (.slice po os.length co) (.slice (some ⟨wr.heap.size,0,none⟩) 1 1) os [0] rfl rfl HM.out HS.out HRD0.out (by simp only[List.length_singleton];omega) ?_;intro p2 cap2 n2 w2 hn2 hM2 hfr2 hnew2;have HM2:=Hd hM2;have HF2:=Hd hfr2;clear hn2 hM2 hfr2 hnew2)
   go_ret2
   refine⟨?_,t,.slice p2 n2 cap2,rfl,HWH.out,?_⟩
   ·exact((HFA.out.trans HE.out.fr).trans HA.out).trans' HF2.out (fun k h1 h2=>by
     have:=HM.out.new k h2
     omega)
   ·rw[HOS.out]
    exact⟨HM2.out.own,fun k hk=>Nat.le_trans hPs (HM2.out.new k hk)⟩
end Pk
namespace Ch
open Mem Vi Ck Pk En Win
abbrev I64(n:Int):Prop:=-9223372036854775808≤n∧n≤9223372036854775807
theorem of_bad(ck dl lc lp pb di bl mo:Int)(w:World)(b0:I64 ck)(b1:I64 dl)(b2:I64 lc)(b3:I64 lp)(b4:I64 pb)(b5:I64 di)(b6:I64 bl)(b7:I64 mo)(hbad:legalBad ck dl lc lp pb di bl mo=true):
 Calls Tryz.prog 25 #[.agg #[.int .i64 ck,.int .i64 dl,.int .i64 lc,.int .i64 lp,.int .i64 pb,.int .i64 di,.int .i64 bl,.int .i64 mo]] w fun e w'=>e=.returned (.tuple #[.slice none 0 0,.int .i64 6])∧Fr (fun _=>False) w w':=by
 have HF:=Hd ((R0 w).alloc (.cells #[.int .i64 ck,.int .i64 dl,.int .i64 lc,.int .i64 lp,.int .i64 pb,.int .i64 di,.int .i64 bl,.int .i64 mo] 26))
 have HL:=Hd (fun W=>legal_calls ck dl lc lp pb di bl mo W b0 b1 b2 b3 b4 b5 b6 b7)
 rw[hbad] at HL
 clear b0 b1 b2 b3 b4 b5 b6 b7 hbad
 go_enter Tryz.func25,Tryz.ntmps25
 go_wp2_with fail
 refine(HL.out _).mono ?_
 rintro e w1 ⟨rfl,hf⟩
 have HF1:=Hd (HF.out.trans hf)
 clear hf
 go_wp2_with fail
 go_ret2
 exact⟨rfl,HF1.out⟩
theorem chEnc_bad(ck dl lc lp pb di bl mo:Int)(dv:Value)(w:World)(b0:I64 ck)(b1:I64 dl)(b2:I64 lc)(b3:I64 lp)(b4:I64 pb)(b5:I64 di)(b6:I64 bl)(b7:I64 mo)(hbad:legalBad ck dl lc lp pb di bl mo=true):
 Calls Tryz.prog 22 #[dv,.agg #[.int .i64 ck,.int .i64 dl,.int .i64 lc,.int .i64 lp,.int .i64 pb,.int .i64 di,.int .i64 bl,.int .i64 mo]] w fun e w'=>e=.returned (.tuple #[.slice none 0 0,.int .i64 6])∧Fr (fun _=>False) w w':=by
 have HF:=Hd ((R0 w).alloc (.cells #[.int .i64 ck,.int .i64 dl,.int .i64 lc,.int .i64 lp,.int .i64 pb,.int .i64 di,.int .i64 bl,.int .i64 mo] 26))
 have HL:=Hd (fun W=>legal_calls ck dl lc lp pb di bl mo W b0 b1 b2 b3 b4 b5 b6 b7)
 rw[hbad] at HL
 clear b0 b1 b2 b3 b4 b5 b6 b7 hbad
 go_enter Tryz.func22,Tryz.ntmps22
 go_wp2_with fail
 refine(HL.out _).mono ?_
 rintro e w1 ⟨rfl,hf⟩
 have HF1:=Hd (HF.out.trans hf)
 clear hf
 go_wp2_with fail
 go_ret2
 exact⟨rfl,HF1.out⟩
structure CfOk(cf:Cf)(dl:Nat):Prop where
 b:cf.b=dl
 dl:dl≤256
 q:cf.lc+cf.lp≤4∧cf.pb≤4
 d:4096≤cf.dict∧cf.dict≤67108864
 m:cf.mode≤2
 legal:legalBad cf.a cf.b cf.lc cf.lp cf.pb cf.dict cf.d cf.mode=false
 ia:I64 cf.a
 id:I64 cf.d
theorem cf_of{ck dl lc lp pb di bl mo:Int}(b0:I64 ck)(b6:I64 bl)(h:legalBad ck dl lc lp pb di bl mo=false):∃(cf:Cf)(d:Nat),cf.a=ck∧(d:Int)=dl∧cf.lc=lc∧cf.lp=lp∧cf.pb=pb∧cf.dict=di∧cf.d=bl∧cf.mode=mo∧CfOk cf d:=by
 have h':=h
 unfold legalBad propsBad at h
 simp only[decide_eq_false_iff_not,not_or,decide_eq_true_eq,Classical.not_not] at h
 obtain⟨h1,h2,h3,h4,h5,h6,h7,h8,h9,h10⟩:=h
 have hdl:((dl.toNat:Nat):Int)=dl:=by omega
 have hlc:((lc.toNat:Nat):Int)=lc:=by omega
 have hlp:((lp.toNat:Nat):Int)=lp:=by omega
 have hpb:((pb.toNat:Nat):Int)=pb:=by omega
 have hdi:((di.toNat:Nat):Int)=di:=by omega
 have hmo:((mo.toNat:Nat):Int)=mo:=by omega
 refine⟨⟨ck,dl,lc.toNat,lp.toNat,pb.toNat,di.toNat,bl,mo.toNat⟩,dl.toNat,rfl,hdl,hlc,hlp,hpb,hdi,rfl,hmo,?_⟩
 refine⟨hdl.symm,by omega,⟨by simp only;omega,by simp only;omega⟩,⟨by simp only;omega,by simp only;omega⟩,by simp only;omega,?_,b0,b6⟩
 simp only[hlc,hlp,hpb,hdi,hmo]
 exact h'
def ChEncPost(cf:Cf)(dl:Nat)(data:List UInt8)(w:World)(e:Ending)(w':World):Prop:=
 Fr (fun _=>False) w w'∧∃(t:Pst)(v:Value),e=.returned (.tuple #[v,.int .i64 0])∧t.Whole (done dl data) cf.dict cf.pr (decide (cf.mode=0))∧Mine w w' v (t.out cf.dict++[0])
set_option maxRecDepth 100000 in
theorem chEnc_good(cf:Cf)(dl:Nat)(p:Option Addr)(cap:Nat)(data:List UInt8)(w:World)(hc:CfOk cf dl)(hT:St.Tabs w)(hrd:Rd w (.slice p data.length cap) data)(hb:data.length≤1073741824):
 Calls Tryz.prog 22 #[.slice p data.length cap,.agg #[.int .i64 cf.a,.int .i64 dl,.int .i64 cf.lc,.int .i64 cf.lp,.int .i64 cf.pb,.int .i64 cf.dict,.int .i64 cf.d,.int .i64 cf.mode]] w (ChEncPost cf dl data w):=by
 have HF:=Hd ((R0 w).alloc (.cells #[.int .i64 cf.a,.int .i64 dl,.int .i64 cf.lc,.int .i64 cf.lp,.int .i64 cf.pb,.int .i64 cf.dict,.int .i64 cf.d,.int .i64 cf.mode] 26))
 have HX:=Hd (heap_alloc_new w (.cells #[.int .i64 cf.a,.int .i64 dl,.int .i64 cf.lc,.int .i64 cf.lp,.int .i64 cf.pb,.int .i64 cf.dict,.int .i64 cf.d,.int .i64 cf.mode] 26))
 have hdl:=hc.dl
 have hq:=hc.q
 have hd:=hc.d
 have hm:=hc.m
 have HL:=Hd (fun W=>legal_calls cf.a dl cf.lc cf.lp cf.pb cf.dict cf.d cf.mode W hc.ia ⟨by omega,by omega⟩ ⟨by omega,by omega⟩ ⟨by omega,by omega⟩ ⟨by omega,by omega⟩ ⟨by omega,by omega⟩ hc.id ⟨by omega,by omega⟩)
 have hlg:=hc.legal
 rw[hc.b] at hlg
 rw[hlg] at HL
 have HEN:=Hd (show∀(xs:List UInt8)(pj:Option Addr)(cj:Nat)(W:World),xs.length=data.length→Fr (fun _=>False) w W→Rd W (.slice pj data.length cj) xs→Calls Tryz.prog 9 #[.slice pj data.length cj,.agg #[.int .i64 cf.a,.int .i64 dl,.int .i64 cf.lc,.int .i64 cf.lp,.int .i64 cf.pb,.int .i64 cf.dict,.int .i64 cf.d,.int .i64 cf.mode]] W (EncPost cf xs W) from fun xs pj cj W hl hf hr=>by
  have h:=encodeX_calls cf pj cj xs W (hT.keep hf) (by rw[hl];exact hr) (by omega) hq hd hm
  unfold Cf.cells at h
  rw[hc.b,hl] at h
  exact h)
 have HRD:=Hd hrd
 have hI:=hc.b
 clear hc hlg hT hrd hq hd hm
 go_enter Tryz.func22,Tryz.ntmps22
 go_wp2_with fail
 refine(HL.out _).mono ?_
 rintro e w1 ⟨rfl,hf1⟩
 have hx1:=hf1.keep HX.out (fun h=>h)
 have HX1:=Hd hx1
 have HF1:=Hd (HF.out.trans hf1)
 clear hf1 hI
 by_cases h0:dl=0
 ·subst h0
  have c0:=cell_in (i:=0) hx1 rfl
  have c1:=cell_in (i:=1) hx1 rfl
  have c2:=cell_in (i:=2) hx1 rfl
  have c3:=cell_in (i:=3) hx1 rfl
  have c4:=cell_in (i:=4) hx1 rfl
  have c5:=cell_in (i:=5) hx1 rfl
  have c6:=cell_in (i:=6) hx1 rfl
  have c7:=cell_in (i:=7) hx1 rfl
  clear hx1
  go_wp2_with fail
  refine(HEN.out data p cap w1 rfl HF1.out (HRD.out.keep HF1.out)).mono ?_
  rintro e w2 ⟨hf2,t,v,rfl,hwh,hme⟩
  have HF2:=Hd (HF1.out.trans hf2)
  have HW:=Hd hwh
  have HME:=Hd hme
  obtain⟨B,hB⟩:∃B,t.out cf.dict++[0]=B:=⟨_,rfl⟩
  rw[hB] at hme
  obtain⟨p6,c6',rfl⟩:=hme.slice
  have HB:=Hd hB
  clear hf2 hwh hme hB
  go_wp2_with fail
  go_ret2
  exact⟨HF2.out,t,_,rfl,HW.out,HME.out.own,fun k hk=>Nat.le_trans HF1.out.size (HME.out.new k hk)⟩
 ·have hne:((dl:Int) !=0)=true:=by simp;omega
  have c1:=cell_in (i:=1) hx1 rfl
  have HDL:=Hd (Dl.enc_calls p cap data dl w1 (HRD.out.keep HF1.out) hb (by omega) hdl)
  have HDN:=Hd (show Dl.go false dl data []=done dl data by unfold done;rw[if_neg h0])
  clear hx1
  go_wp2_with fail
  refine HDL.out.mono ?_
  rintro e w2 ⟨hf2,v,rfl,hmv⟩
  rw[HDN.out] at hmv
  have hx2:=hf2.keep HX1.out (fun h=>h)
  have HF2:=Hd (HF1.out.trans hf2)
  obtain⟨pj,cj,rfl⟩:=hmv.slice
  have hlen:=done_len dl data
  have hrj:=hmv.rd
  rw[hlen] at hrj ⊢
  have HEJ:=Hd (HEN.out (done dl data) pj cj w2 hlen HF2.out hrj)
  have c0:=cell_in (i:=0) hx2 rfl
  clear c1
  have c1:=cell_in (i:=1) hx2 rfl
  have c2:=cell_in (i:=2) hx2 rfl
  have c3:=cell_in (i:=3) hx2 rfl
  have c4:=cell_in (i:=4) hx2 rfl
  have c5:=cell_in (i:=5) hx2 rfl
  have c6:=cell_in (i:=6) hx2 rfl
  have c7:=cell_in (i:=7) hx2 rfl
  clear hx2 hf2 hmv hlen hrj HDL
  go_wp2_with fail
  refine HEJ.out.mono ?_
  rintro e w3 ⟨hf3,t,v,rfl,hwh,hme⟩
  have HF3:=Hd (HF2.out.trans hf3)
  have HW:=Hd hwh
  have HME:=Hd hme
  obtain⟨B,hB⟩:∃B,t.out cf.dict++[0]=B:=⟨_,rfl⟩
  rw[hB] at hme
  obtain⟨p6,c6',rfl⟩:=hme.slice
  clear hf3 hwh hme hB
  go_wp2_with fail
  go_ret2
  exact⟨HF3.out,t,_,rfl,HW.out,HME.out.own,fun k hk=>Nat.le_trans HF2.out.size (HME.out.new k hk)⟩
end Ch
namespace Ch
open Mem Vi Ck Pk En Win
theorem tab_keep{w w':World}(h:Vi.Tab w)(hfr:Fr (fun _=>False) w w'):Vi.Tab w':=by
 obtain⟨T,fr,h⟩:=h
 exact⟨T,fr,hfr.keep h (fun h=>h)⟩
set_option maxRecDepth 100000 in
theorem cback_bad(ck dl lc lp pb di bl mo:Int)(p q:Option Addr)(n cap m qc:Nat)(w:World)(hV:Vi.Tab w)(b0:I64 ck)(b1:I64 dl)(b2:I64 lc)(b3:I64 lp)(b4:I64 pb)(b5:I64 di)(b6:I64 bl)(b7:I64 mo)(hbad:legalBad ck dl lc lp pb di bl mo=true):
 Calls Tryz.prog 6 #[.slice p n cap,.agg #[.int .i64 ck,.int .i64 dl,.int .i64 lc,.int .i64 lp,.int .i64 pb,.int .i64 di,.int .i64 bl,.int .i64 mo],.slice q m qc] w fun e w'=>e=.returned (.bool true)∧Fr (fun _=>False) w w':=by
 have hfa:=(R0 w).alloc (.cells #[.int .i64 ck,.int .i64 dl,.int .i64 lc,.int .i64 lp,.int .i64 pb,.int .i64 di,.int .i64 bl,.int .i64 mo] 26)
 have hcf:=heap_alloc_new w (.cells #[.int .i64 ck,.int .i64 dl,.int .i64 lc,.int .i64 lp,.int .i64 pb,.int .i64 di,.int .i64 bl,.int .i64 mo] 26)
 obtain⟨W0,hW0⟩:∃W0,w.alloc (.cells #[.int .i64 ck,.int .i64 dl,.int .i64 lc,.int .i64 lp,.int .i64 pb,.int .i64 di,.int .i64 bl,.int .i64 mo] 26)=W0:=⟨_,rfl⟩
 rw[hW0] at hfa hcf
 have HFA:=Hd hfa
 have HCF:=Hd hcf
 have HV:=Hd hV
 have HW0:=Hd hW0
 have HOF:=Hd (fun W=>of_bad ck dl lc lp pb di bl mo W b0 b1 b2 b3 b4 b5 b6 b7 hbad)
 have HEN:=Hd (fun dv W=>chEnc_bad ck dl lc lp pb di bl mo dv W b0 b1 b2 b3 b4 b5 b6 b7 hbad)
 have HLG:=Hd (fun W=>legal_calls ck dl lc lp pb di bl mo W b0 b1 b2 b3 b4 b5 b6 b7)
 rw[hbad] at HLG
 clear hfa hcf hV hW0 b0 b1 b2 b3 b4 b5 b6 b7 hbad
 have HS:=Hd (show∀w':World,Fr (fun _=>False) W0 w'→w'.cell? ⟨w.heap.size,0,none⟩=some (.int .i64 ck)∧w'.cell? ⟨w.heap.size,1,none⟩=some (.int .i64 dl)∧w'.cell? ⟨w.heap.size,2,none⟩=some (.int .i64 lc)∧w'.cell? ⟨w.heap.size,3,none⟩=some (.int .i64 lp)∧w'.cell? ⟨w.heap.size,4,none⟩=some (.int .i64 pb)∧w'.cell? ⟨w.heap.size,5,none⟩=some (.int .i64 di)∧w'.cell? ⟨w.heap.size,6,none⟩=some (.int .i64 bl)∧w'.cell? ⟨w.heap.size,7,none⟩=some (.int .i64 mo) from fun w' hf=>
  have h:=hf.keep HCF.out (fun h=>h)
  ⟨cell_in (i:=0) h rfl,cell_in (i:=1) h rfl,cell_in (i:=2) h rfl,cell_in (i:=3) h rfl,cell_in (i:=4) h rfl,cell_in (i:=5) h rfl,cell_in (i:=6) h rfl,cell_in (i:=7) h rfl⟩)
 go_enter Tryz.func6,Tryz.ntmps6
 go_wp2_with fail
 rw[HW0.out]
 refine(HOF.out W0).mono ?_
 rintro e w1 ⟨rfl,hf1⟩
 have F1:=Hd hf1
 obtain⟨e0,e1,e2,e3,e4,e5,e6,e7⟩:=HS.out _ hf1
 clear hf1
 go_wp2_with fail
 refine(HEN.out _ w1).mono ?_
 rintro e w2 ⟨rfl,hf2⟩
 have FE:=Hd (F1.out.trans hf2)
 clear hf2
 clear e0 e1 e2 e3 e4 e5 e6 e7
 go_upto_region 3 with fail
 go_cut [39] (fun s39 wx=>s39=.bool false∧Fr (fun _=>False) W0 wx)
 case first=>
  have FC:=Hd FE.out.drew
  have HSC:=Hd (HS.out _ FC.out)
  obtain⟨e0,e1,e2,e3,e4,e5,e6,e7⟩:=HSC.out
  go_region_held3 (fun w'=>w'.cell? ⟨w.heap.size,0,none⟩=some (.int .i64 ck)∧w'.cell? ⟨w.heap.size,1,none⟩=some (.int .i64 dl)∧w'.cell? ⟨w.heap.size,2,none⟩=some (.int .i64 lc)∧w'.cell? ⟨w.heap.size,3,none⟩=some (.int .i64 lp)∧w'.cell? ⟨w.heap.size,4,none⟩=some (.int .i64 pb)∧w'.cell? ⟨w.heap.size,5,none⟩=some (.int .i64 di)∧w'.cell? ⟨w.heap.size,6,none⟩=some (.int .i64 bl)∧w'.cell? ⟨w.heap.size,7,none⟩=some (.int .i64 mo)) (first|with_reducible exact HSC.out) ((first
   |(go_at_call 20;refine(num_calls _ _).mono ?_;rintro e w' ⟨rfl,rfl⟩)
   | (go_at_call 26
      refine(HLG.out _).mono ?_
      rintro e wc ⟨rfl,hfrc⟩
      have FC:=Hd (FC.out.trans hfrc)
      have HSC:=Hd (HS.out _ FC.out)
      obtain⟨e0,e1,e2,e3,e4,e5,e6,e7⟩:=HSC.out
      clear hfrc)))
  all_goals go_wp2_with fail
  all_goals go_meet
  all_goals exact⟨rfl,FC.out⟩
 case rest=>
  obtain⟨rfl,hfr⟩:=hcut
  have F3:=Hd hfr
  clear hfr
  go_wp2_with fail
  refine(num_calls _ _).mono ?_
  rintro e w' ⟨rfl,rfl⟩
  go_wp2_with fail
  refine(num_calls _ _).mono ?_
  rintro e w' ⟨rfl,rfl⟩
  go_wp2_with fail
  refine(fixed_calls _ (tab_keep HV.out (HFA.out.trans F3.out))).mono ?_
  rintro e w4 ⟨rfl,hf4⟩
  have F4:=Hd (F3.out.trans hf4)
  clear hf4
  go_wp2_with fail
  go_ret
  exact⟨rfl,HFA.out.trans F4.out⟩
end Ch
namespace Ch
open Mem Vi Ck Pk En Win
theorem of_any(cf:Cf)(dl k:Nat)(w:World)(hc:CfOk cf dl)(hk:IsByte cf.dict k):Calls Tryz.prog 25 #[.agg #[.int .i64 cf.a,.int .i64 dl,.int .i64 cf.lc,.int .i64 cf.lp,.int .i64 cf.pb,.int .i64 cf.dict,.int .i64 cf.d,.int .i64 cf.mode]] w (OfPost dl k w):=by
 have hl:=hc.legal
 rw[hc.b] at hl
 have hq:=hc.q
 have hd:=hc.d
 have hm:=hc.m
 by_cases h0:dl=0
 ·subst h0
  exact of_plain cf.a cf.lc cf.lp cf.pb cf.d cf.mode cf.dict k w hc.ia ⟨by omega,by omega⟩ ⟨by omega,by omega⟩ ⟨by omega,by omega⟩ hc.id ⟨by omega,by omega⟩ (by omega) hk hl
 ·exact of_delta cf.a cf.lc cf.lp cf.pb cf.d cf.mode dl cf.dict k w hc.ia ⟨by omega,by omega⟩ ⟨by omega,by omega⟩ ⟨by omega,by omega⟩ hc.id ⟨by omega,by omega⟩ (by omega) hc.dl (by omega) hk hl
set_option maxRecDepth 100000 in
theorem cback_good(cf:Cf)(dl:Nat)(p q:Option Addr)(cap qc:Nat)(data tail:List UInt8)(w:World)(hc:CfOk cf dl)(hV:Vi.Tab w)(hT:St.Tabs w)(hM:Moves w)(hrd:Rd w (.slice p data.length cap) data)(hrt:Rd w (.slice q tail.length qc) tail)(hb:data.length≤4194304)(hb2:tail.length≤4194304):
 Calls Tryz.prog 6 #[.slice p data.length cap,.agg #[.int .i64 cf.a,.int .i64 dl,.int .i64 cf.lc,.int .i64 cf.lp,.int .i64 cf.pb,.int .i64 cf.dict,.int .i64 cf.d,.int .i64 cf.mode],.slice q tail.length qc] w fun e w'=>e=.returned (.bool true)∧Fr (fun _=>False) w w':=by
 have hfa:=(R0 w).alloc (.cells #[.int .i64 cf.a,.int .i64 dl,.int .i64 cf.lc,.int .i64 cf.lp,.int .i64 cf.pb,.int .i64 cf.dict,.int .i64 cf.d,.int .i64 cf.mode] 26)
 have hcf:=heap_alloc_new w (.cells #[.int .i64 cf.a,.int .i64 dl,.int .i64 cf.lc,.int .i64 cf.lp,.int .i64 cf.pb,.int .i64 cf.dict,.int .i64 cf.d,.int .i64 cf.mode] 26)
 obtain⟨W0,hW0⟩:∃W0,w.alloc (.cells #[.int .i64 cf.a,.int .i64 dl,.int .i64 cf.lc,.int .i64 cf.lp,.int .i64 cf.pb,.int .i64 cf.dict,.int .i64 cf.d,.int .i64 cf.mode] 26)=W0:=⟨_,rfl⟩
 rw[hW0] at hfa hcf
 have HFA:=Hd hfa
 have HCF:=Hd hcf
 have HV:=Hd hV
 have HT:=Hd hT
 have HM:=Hd hM
 have HRD:=Hd hrd
 have HRT:=Hd hrt
 have HW0:=Hd hW0
 have HC:=Hd hc
 have hdl:=hc.dl
 have hd:=hc.d
 obtain⟨k,hk⟩:=isByte_ex cf.dict (by omega)
 obtain⟨n1,n2,n3⟩:=dict_near hk hd.1
 have hk40:=hk.1
 have hread:=read_of hdl hk40
 have hlg:=hc.legal
 rw[hc.b] at hlg
 have hq:=hc.q
 have hm:=hc.m
 have HLG:=Hd (fun W=>legal_calls cf.a dl cf.lc cf.lp cf.pb cf.dict cf.d cf.mode W hc.ia ⟨by omega,by omega⟩ ⟨by omega,by omega⟩ ⟨by omega,by omega⟩ ⟨by omega,by omega⟩ ⟨by omega,by omega⟩ hc.id ⟨by omega,by omega⟩)
 rw[hlg] at HLG
 have HK:=Hd hk
 obtain⟨D,hD⟩:∃D,dictOf k=D:=⟨_,rfl⟩
 rw[hD] at n1 n2 n3 hread
 have HRE:=Hd hread
 obtain⟨h2,hh2⟩:∃h2,h2=cf.dict/2:=⟨_,rfl⟩
 have HH2:=Hd hh2
 have n4:D≤cf.dict+h2+4096:=by omega
 clear hfa hcf hV hT hM hrd hrt hW0 hc hlg hq hm hk hk40 hread hD n2 hh2
 have HS:=Hd (show∀w':World,Fr (fun _=>False) W0 w'→w'.cell? ⟨w.heap.size,0,none⟩=some (.int .i64 cf.a)∧w'.cell? ⟨w.heap.size,1,none⟩=some (.int .i64 dl)∧w'.cell? ⟨w.heap.size,2,none⟩=some (.int .i64 cf.lc)∧w'.cell? ⟨w.heap.size,3,none⟩=some (.int .i64 cf.lp)∧w'.cell? ⟨w.heap.size,4,none⟩=some (.int .i64 cf.pb)∧w'.cell? ⟨w.heap.size,5,none⟩=some (.int .i64 cf.dict)∧w'.cell? ⟨w.heap.size,6,none⟩=some (.int .i64 cf.d)∧w'.cell? ⟨w.heap.size,7,none⟩=some (.int .i64 cf.mode) from fun w' hf=>
  have h:=hf.keep HCF.out (fun h=>h)
  ⟨cell_in (i:=0) h rfl,cell_in (i:=1) h rfl,cell_in (i:=2) h rfl,cell_in (i:=3) h rfl,cell_in (i:=4) h rfl,cell_in (i:=5) h rfl,cell_in (i:=6) h rfl,cell_in (i:=7) h rfl⟩)
 go_enter Tryz.func6,Tryz.ntmps6
 go_wp2_with fail
 rw[HW0.out]
 refine(of_any cf dl k W0 HC.out HK.out).mono ?_
 rintro e w1 ⟨lv,fl,rfl,hown,hff⟩
 obtain⟨lp',lc',rfl⟩:=hown.slice
 have hrf:=hown.rd
 rw[hff] at hrf
 have F1:=Hd hown.fr
 have HRF:=Hd hrf
 obtain⟨e0,e1,e2,e3,e4,e5,e6,e7⟩:=HS.out _ hown.fr
 clear hown hrf hff
 obtain⟨fn,hfn⟩:∃fn,fl.length=fn:=⟨_,rfl⟩
 rw[hfn] at HRF ⊢
 clear hfn
 go_wp2_with fail
 refine(chEnc_good cf dl p cap data w1 HC.out (HT.out.keep (HFA.out.trans F1.out)) (HRD.out.keep (HFA.out.trans F1.out)) (by omega)).mono ?_
 rintro e w2 ⟨hf2,t,v,rfl,hwh,hme⟩
 obtain⟨B,hB⟩:∃B,t.out cf.dict++[0]=B:=⟨_,rfl⟩
 rw[hB] at hme
 have hll:=chain_law hwh (g:=D) (by omega) n1 n3 tail hB
 obtain⟨p6,c6,rfl⟩:=hme.slice
 have FE:=Hd (F1.out.trans hf2)
 have HRF2:=Hd (HRF.out.keep hf2)
 have HMB:=Hd hme
 obtain⟨BB,hBB⟩:∃BB,B++tail=BB:=⟨_,rfl⟩
 have hBBl:BB.length=B.length+tail.length:=by rw[←hBB,List.length_append]
 rw[hBB] at hll
 obtain⟨l1,l2,l3,l4,l5,l6⟩:=hll
 have HL1:=Hd l1
 have HL2:=Hd l2
 have HL3:=Hd l3
 have HL4:=Hd l4
 have hBl:B.length≤8388608:=by omega
 have HBB:=Hd hBB
 have HBBL:=Hd hBBl
 clear hf2 hwh hme hB hBB hBBl l1 l2 l3 l4 l5
 clear e0 e1 e2 e3 e4 e5 e6 e7
 go_upto_region 3 with fail
 go_cut [39] (fun s39 wx=>s39=.bool false∧Fr (fun _=>False) w2 wx)
 case first=>
  have FC:=Hd FE.out.drew
  have FD:=Hd (R0 w2).drew
  have HSC:=Hd (HS.out _ FC.out)
  obtain⟨e0,e1,e2,e3,e4,e5,e6,e7⟩:=HSC.out
  go_region_held3 (fun w'=>w'.cell? ⟨w.heap.size,0,none⟩=some (.int .i64 cf.a)∧w'.cell? ⟨w.heap.size,1,none⟩=some (.int .i64 dl)∧w'.cell? ⟨w.heap.size,2,none⟩=some (.int .i64 cf.lc)∧w'.cell? ⟨w.heap.size,3,none⟩=some (.int .i64 cf.lp)∧w'.cell? ⟨w.heap.size,4,none⟩=some (.int .i64 cf.pb)∧w'.cell? ⟨w.heap.size,5,none⟩=some (.int .i64 cf.dict)∧w'.cell? ⟨w.heap.size,6,none⟩=some (.int .i64 cf.d)∧w'.cell? ⟨w.heap.size,7,none⟩=some (.int .i64 cf.mode)) (first|with_reducible exact HSC.out) ((first
   |(go_at_call 20;refine(num_calls _ _).mono ?_;rintro e w' ⟨rfl,rfl⟩)
   | (go_at_call 26
      refine(HLG.out _).mono ?_
      rintro e wc ⟨rfl,hfrc⟩
      have FC:=Hd (FC.out.trans hfrc)
      have FD:=Hd (FD.out.trans hfrc)
      have HSC:=Hd (HS.out _ FC.out)
      obtain⟨e0,e1,e2,e3,e4,e5,e6,e7⟩:=HSC.out
      clear hfrc)))
  all_goals go_wp2_with fail
  all_goals go_meet
  all_goals exact⟨rfl,FD.out⟩
 case rest=>
  obtain⟨rfl,hfr⟩:=hcut
  have F3:=Hd (FE.out.trans hfr)
  have HMB3:=Hd (HMB.out.keep hfr)
  have HRF3:=Hd (HRF2.out.keep hfr)
  clear hfr
  go_wp2_with fail
  refine(num_calls _ _).mono ?_
  rintro e w' ⟨rfl,rfl⟩
  have HRR:=Hd (read_calls (.slice lp' fn lc') (ofA dl k) _ HRF3.out)
  unfold ReadPost at HRR
  rw[HRE.out] at HRR
  go_wp2_with fail
  refine HRR.out.mono ?_
  rintro e w4 ⟨rfl,hf4⟩
  have F4:=Hd (F3.out.trans hf4)
  have HMB4:=Hd (HMB3.out.keep hf4)
  have HRF4:=Hd (HRF3.out.keep hf4)
  clear hf4 HRR
  go_wp2_with fail
  refine(num_calls _ _).mono ?_
  rintro e w' ⟨rfl,rfl⟩
  obtain⟨e0,e1,e2,e3,e4,e5,e6,e7⟩:=HS.out _ F4.out
  have d1:((dl:Int) !=(dl:Int))=false:=by simp
  have d2:decide ((D:Int)<(cf.dict:Int))=false:=decide_eq_false (by omega)
  have d3:decide ((D:Int)>(cf.dict:Int)+(h2:Int)+4096)=false:=decide_eq_false (by omega)
  have d4:decide ((cf.dict:Int)+(h2:Int)+4096<(D:Int))=false:=decide_eq_false (by omega)
  have d5:decide ((B.length:Int)<1)=false:=decide_eq_false (by omega)
  have z1:(cf.dict:Int).tdiv 2=(h2:Int):=by rw[HH2.out];rfl
  have hh2b:h2≤cf.dict:=by rw[HH2.out];exact Nat.div_le_self _ _
  have z2:wrap64 (h2:Int)=h2:=IntWalk.wrap64_in _ (by omega)
  have z3:wrap64 ((cf.dict:Int)+(h2:Int))=(cf.dict:Int)+(h2:Int):=IntWalk.wrap64_in _ (by omega)
  have z4:wrap64 ((cf.dict:Int)+(h2:Int)+4096)=(cf.dict:Int)+(h2:Int)+4096:=IntWalk.wrap64_in _ (by omega)
  have d6:decide ((D:Int)>wrap64 (wrap64 ((cf.dict:Int)+wrap64 (h2:Int))+4096))=false:=by rw[z2,z3,z4];exact d3
  have d7:decide (wrap64 (wrap64 ((cf.dict:Int)+wrap64 (h2:Int))+4096)<(D:Int))=false:=by rw[z2,z3,z4];exact d4
  clear z2 z3 z4 hh2b
  go_upto_region 10 with fail
  clear z1 d1 d2 d3 d4 d5 d6 d7 e0 e1 e2 e3 e4 e5 e6 e7
  have hA0:=(R0 w4).alloc (.cells #[] 5)
  have hm0:Mine w4 (w4.alloc (.cells #[] 5)) (.slice (some ⟨w4.heap.size,0,none⟩) 0 0) []:=by
   have h1:=World.ownsRow_made (base:=0) (e:=5) (size:=1) w4 #[] 0 (Nat.zero_le _) (by decide) rfl
   refine⟨h1,fun k hk=> ?_⟩
   simp only[Value.ownBlock,Option.some.injEq] at hk
   omega
  have HA:=Hd hA0
  have HM0:=Hd hm0
  have HBR:=Hd (HMB4.out.rd.keep hA0)
  have HTR:=Hd (HRT.out.keep (HFA.out.trans F4.out))
  clear hA0 hm0
  go_wp2_with (at_builtin;first
   | (refine append_mine rfl _ _ rfl (w0:=w4) (.slice (some ⟨w4.heap.size,0,none⟩) 0 0) (.slice p6 B.length c6) [] B rfl rfl HM0.out HA.out.size HBR.out (by simp only [List.length_nil]; omega) ?_; intro p2 cap2 n2 w5 hn2 hM2 hfr2 hnew2
      have HM2:=Hd hM2;have HF2:=Hd (HA.out.trans' hfr2 (fun k h1 h2=>by
       simp only[Value.ownBlock,Option.some.injEq] at h2
       omega));clear hn2 hM2 hfr2 hnew2)
   | (refine append_mine rfl _ _ rfl (w0:=w4) (.slice p2 n2 cap2) (.slice q tail.length qc) ([] ++ B) tail rfl rfl HM2.out HF2.out.size (HTR.out.keep HF2.out) (by simp only [List.nil_append]; omega) ?_; intro p3 cap3 n3 w6 hn3 hM3 hfr3 hnew3
      have HM3:=Hd hM3;have HF3:=Hd hfr3;have HN3:=Hd hn3;clear hn3 hM3 hfr3 hnew3))
  have hn6:n3=BB.length:=by rw[HN3.out,HBBL.out,List.length_append];simp
  have hm6:Mine w4 w6 (.slice p3 n3 cap3) BB:=by
   have:=HM3.out
   rw[List.nil_append,HBB.out] at this
   exact this
  rw[hn6] at hm6 ⊢
  have hbb:BB.length≤16777216:=by rw[HBBL.out];omega
  have hf6:Fr (fun _=>False) w4 w6:=HF2.out.trans' HF3.out (fun k h1 h2=>by have:=HM2.out.new k h2;omega)
  have F6:=Hd (F4.out.trans hf6)
  have HMB6:=Hd (HMB4.out.keep hf6)
  have HRF6:=Hd (HRF4.out.keep hf6)
  have HR6:=Hd hm6.rd
  have HBBB:=Hd hbb
  obtain⟨bl,hbl⟩:∃bl,B.length=bl:=⟨_,rfl⟩
  rw[hbl] at hBl l6 HL1 HL2 HL4 HMB6 ⊢
  clear hn6 hf6 hm6
  have HDC:=Hd (dec_calls (ofA dl k) dl D p3 cap3 BB (.slice lp' fn lc') (D:Int) (-1) (-1) w6 HRF6.out (HT.out.keep (HFA.out.trans F6.out)) (HM.out.step (HFA.out.trans F6.out) (fun _ h=>h.elim)) HR6.out hbb HRE.out (by omega) hdl (fun n xs h=>by rw [HL3.out n xs h];omega))
  rw[HL1.out] at HDC
  refine HDC.out.mono ?_
  rintro e w7 ⟨hf7,v7,rfl,hM7⟩
  obtain⟨p7,c7,rfl⟩:=hM7.slice
  have F7:=Hd (F6.out.trans hf7)
  have HRF7:=Hd (HRF6.out.keep hf7)
  have HR7:=Hd (HR6.out.keep hf7)
  have hcv1:(convert 22 9 (.slice p7 data.length c7)).run Tryz.prog w7=.ok (.string (str data)) w7:=conv_str hM7.rd
  have hcv2:(convert 22 9 (.slice p data.length cap)).run Tryz.prog w7=.ok (.string (str data)) w7:=conv_str (HRD.out.keep (HFA.out.trans F7.out))
  have hss:((str data).toList !=(str data).toList)=false:=by simp
  have hnn:((bl:Int) !=(bl:Int))=false:=by simp
  clear hf7 hM7 HDC
  go_wp2_with fail
  refine(num_calls _ _).mono ?_
  rintro e w' ⟨rfl,rfl⟩
  clear hcv1 hcv2
  have HDC:=Hd (dec_calls (ofA dl k) dl D p3 cap3 BB (.slice lp' fn lc') (D:Int) bl data.length w7 HRF7.out (HT.out.keep (HFA.out.trans F7.out)) (HM.out.step (HFA.out.trans F7.out) (fun _ h=>h.elim)) HR7.out hbb HRE.out (by omega) hdl (fun n xs h=>by rw [HL4.out n xs h];omega))
  rw[HL2.out] at HDC
  go_wp2_with fail
  refine HDC.out.mono ?_
  rintro e w8 ⟨hf8,v8,rfl,hM8⟩
  obtain⟨p8,c8,rfl⟩:=hM8.slice
  have F8:=Hd (F7.out.trans hf8)
  have HRF8:=Hd (HRF7.out.keep hf8)
  have hcv1:(convert 22 9 (.slice p8 data.length c8)).run Tryz.prog w8=.ok (.string (str data)) w8:=conv_str hM8.rd
  have hcv2:(convert 22 9 (.slice p data.length cap)).run Tryz.prog w8=.ok (.string (str data)) w8:=conv_str (HRD.out.keep (HFA.out.trans F8.out))
  clear hf8 hM8 HDC
  go_wp2_with fail
  refine(num_calls _ _).mono ?_
  rintro e w' ⟨rfl,rfl⟩
  clear hcv1 hcv2
  have HDM:=Hd (dec_mem (ofA dl k) dl D (.slice lp' fn lc') (.slice p3 BB.length cap3) ((D:Int)-1) (-1) (-1) w8 HRF8.out HRE.out (by omega))
  go_wp2_with fail
  refine HDM.out.mono ?_
  rintro e w9 ⟨hf9,rfl⟩
  have F9:=Hd (F8.out.trans hf9)
  clear hf9
  go_wp2_with fail
  refine(num_calls _ _).mono ?_
  rintro e w' ⟨rfl,rfl⟩
  go_wp2_with fail
  refine(fixed_calls _ (tab_keep HV.out (HFA.out.trans F9.out))).mono ?_
  rintro e w10 ⟨rfl,hf10⟩
  have F10:=Hd (F9.out.trans hf10)
  clear hf10
  go_wp2_with fail
  go_ret
  exact⟨rfl,HFA.out.trans F10.out⟩
end Ch
namespace Ch
open Mem Vi Ck Pk En Win
theorem cback_calls(ck dl lc lp pb di bl mo:Int)(dv tv:Value)(data tail:List UInt8)(w:World)(hV:Vi.Tab w)(hT:St.Tabs w)(hM:Moves w)(hrd:Rd w dv data)(hrt:Rd w tv tail)(hb:data.length≤4194304)(hb2:tail.length≤4194304)
 (b0:I64 ck)(b1:I64 dl)(b2:I64 lc)(b3:I64 lp)(b4:I64 pb)(b5:I64 di)(b6:I64 bl)(b7:I64 mo):
 Calls Tryz.prog 6 #[dv,.agg #[.int .i64 ck,.int .i64 dl,.int .i64 lc,.int .i64 lp,.int .i64 pb,.int .i64 di,.int .i64 bl,.int .i64 mo],tv] w fun e w'=>e=.returned (.bool true)∧Fr (fun _=>False) w w':=by
 obtain⟨p,cap,rfl,_⟩:=id hrd
 obtain⟨q,qc,rfl,_⟩:=id hrt
 cases hg:legalBad ck dl lc lp pb di bl mo with
 |true=>exact cback_bad ck dl lc lp pb di bl mo p q data.length cap tail.length qc w hV b0 b1 b2 b3 b4 b5 b6 b7 hg
 |false=>
   obtain⟨cf,d,rfl,rfl,rfl,rfl,rfl,rfl,rfl,rfl,hc⟩:=cf_of b0 b6 hg
   exact cback_good cf d p q cap qc data tail w hc hV hT hM hrd hrt hb hb2
end Ch
end Go.Proofs.YtffoddpjfgjelaaGreatDoor
