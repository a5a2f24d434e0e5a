/- Part 50 of 52: lemmas of the last part, each under the conditions that it names. -/
import Derived.Laws.BytesArg
import Derived.Lib.SlBytesConst
import Derived.Test.YtffoddpjfgjelaaGreatDoorP23
import Derived.Test.YtffoddpjfgjelaaGreatDoorP47
import Derived.Test.YtffoddpjfgjelaaGreatDoorP49
set_option linter.unusedVariables false
set_option linter.unusedSimpArgs false
set_option maxRecDepth 1500
set_option maxHeartbeats 4000000
namespace Go.Proofs.YtffoddpjfgjelaaGreatDoor
open Go.RowKit
namespace Pk
open Mem Rc St Lz En Win Ck
theorem encode_bad(a b lc lp pb dict d mode:Int)(dv:Value)(w:World)(b_lc:-9223372036854775808≤lc∧lc≤9223372036854775807)(b_lp:-9223372036854775808≤lp∧lp≤9223372036854775807)(b_pb:-9223372036854775808≤pb∧pb≤9223372036854775807)(hbad:goodC lc lp pb dict mode=false):
 Calls Tryz.prog 9 #[dv,.agg #[.int .i64 a,.int .i64 b,.int .i64 lc,.int .i64 lp,.int .i64 pb,.int .i64 dict,.int .i64 d,.int .i64 mode]] w fun e w'=>Fr (fun _=>False) w w'∧e=.returned (.tuple #[.slice none 0 0,.int .i64 6]):=by
 have HF:=Hd ((Fr.refl (fun _=>False) w).alloc (.cells #[.int .i64 a,.int .i64 b,.int .i64 lc,.int .i64 lp,.int .i64 pb,.int .i64 dict,.int .i64 d,.int .i64 mode] 26))
 have HG:=fun W=>Hd (goodX_calls a b lc lp pb dict d mode W b_lc b_lp b_pb)
 rw[hbad] at HG
 clear b_lc b_lp b_pb hbad
 go_enter Tryz.func9,Tryz.ntmps9
 go_wp2_with fail
 refine(HG _).out.mono ?_
 rintro e w1 ⟨rfl,hfr⟩
 have HF1:=Hd (HF.out.trans hfr)
 clear hfr
 go_wp2_with fail
 go_ret2
 exact⟨HF1.out,rfl⟩
def EncPost(cf:Cf)(data:List UInt8)(w:World)(e:Ending)(w':World):Prop:=
 Fr (fun _=>False) w w'∧∃(t:Pst)(v:Value),e=.returned (.tuple #[v,.int .i64 0])∧t.Whole data cf.dict cf.pr (decide (cf.mode=0))∧Mine w w' v (t.out cf.dict++[0])
theorem snewP_calls(w:World):Calls Tryz.prog 34 #[] w fun e w'=>e=.returned (.agg #[.int .i64 0,.int .i64 1,.int .i64 1,.int .i64 1,.int .i64 1])∧Fr (fun _=>False) w w':=St.new_calls w
structure ELoop(w0:World)(P:Nat)(cf:Cf)(dv:Value)(data:List UInt8)(i:Nat)(ov:Value)(l:XL)(t:Pst)(wr:World):Prop where
 at':PkAt w0 wr P cf dv ov data l t
 ok:t.Ok data cf.dict cf.pr (decide (cf.mode=0))
 len:t.pts.length=i
 each:∀j,j<i→65536*j<data.length
 fr:Fr (fun _=>False) w0 wr
theorem ELoop.outlen{w0 wr:World}{P i:Nat}{cf:Cf}{dv ov:Value}{data:List UInt8}{l:XL}{t:Pst}(h:ELoop w0 P cf dv data i ov l t wr)(hb:data.length≤1073741824):(t.out cf.dict).length≤4000000000∧65536*i<data.length+65536:=by
 have h1:=h.ok.len
 have h2:=upto_le data.length t.pts.length
 have h3:=h.len
 have h4:65536*i<data.length+65536:=by
  by_cases h0:i=0
  ·omega
  ·have:=h.each (i-1) (by omega)
   omega
 refine⟨?_,h4⟩
 show(rowB (t.row cf.dict)).length≤_
 omega
theorem goodC_of{cf:Cf}(hq:cf.lc+cf.lp≤4∧cf.pb≤4)(hd:4096≤cf.dict∧cf.dict≤67108864)(hm:cf.mode≤2):goodC cf.lc cf.lp cf.pb cf.dict cf.mode=true:=by
 unfold goodC propsBad
 simp
 omega
abbrev waysOf(P:Nat):Array Value:=#[.func (.func 36) #[ptr P] #[],.func (.func 37) #[ptr P] #[]]
set_option maxRecDepth 100000 in
theorem encodeX_calls(cf:Cf)(p:Option Addr)(cap:Nat)(data:List UInt8)(w:World)(hT:Tabs w)(hrd:Rd w (.slice p data.length cap) data)(hb:data.length≤1073741824)(hq:cf.lc+cf.lp≤4∧cf.pb≤4)(hd:4096≤cf.dict∧cf.dict≤67108864)(hm:cf.mode≤2):
 Calls Tryz.prog 9 #[.slice p data.length cap,.agg cf.cells] w (EncPost cf data w):=by
 have HX:=Hd (heap_alloc_new w (.cells cf.cells 26))
 have HF:=Hd ((Fr.refl (fun _=>False) w).alloc (.cells cf.cells 26))
 have HRD:=Hd hrd
 have HT:=Hd hT
 have HG:=fun W=>Hd (goodX_calls cf.a cf.b cf.lc cf.lp cf.pb cf.dict cf.d cf.mode W (by omega) (by omega) (by omega))
 have HN:=fun W=>Hd (enewP_in cf.lc cf.lp cf.pb cf.dict hq.1 hq.2 W (by omega) (by omega))
 rw[goodC_of hq hd hm] at HG
 have hmf:∀(fn:Fn)(first cap:Array Value)(w:World),(Instr.makeFunc fn first cap).run Tryz.prog w=.ok (.func fn first cap) w:=fun _ _ _ _=>rfl
 have hdv:∀k,(Value.slice p data.length cap).ownBlock=some k→0<data.length→k<w.heap.size:=fun k hk h0=>Ps.rdlt hrd h0 k hk
 have HDV:=Hd hdv
 have t0:decide ((data.length:Int)>2147483648)=false:=decide_eq_false (by omega)
 have t1:decide ((2147483648:Int)<data.length)=false:=decide_eq_false (by omega)
 clear hT hrd hdv
 simp only[Cf.cells] at HX HF ⊢
 go_enter Tryz.func9,Tryz.ntmps9
 go_wp2_with fail
 refine(HG _).out.mono ?_
 rintro e w1 ⟨rfl,hfr⟩
 have hx1:=hfr.keep HX.out (fun h=>h)
 have c2:=cell_in (i:=2) hx1 rfl
 have c3:=cell_in (i:=3) hx1 rfl
 have c4:=cell_in (i:=4) hx1 rfl
 have c5:=cell_in (i:=5) hx1 rfl
 have HX1:=Hd hx1
 have HF1:=Hd (HF.out.trans hfr)
 clear hfr hx1
 go_wp2_with fail
 refine(HN _).out.mono ?_
 rintro e w2 ⟨hfr,l,rfl,hxa,hsep,hnew⟩
 have hx2:=hfr.keep HX1.out (fun h=>h)
 have HX2:=Hd hx2
 have HF2:=Hd (HF1.out.trans hfr)
 have hw5:=(HT.out.keep HF1.out).size
 have HXE:=Hd (show XE w2 l (startP (cf.lc,cf.lp,cf.pb) cf.dict) from⟨hxa,hsep,fun k hk=>Nat.le_trans hw5 (hnew k hk)⟩)
 have HS:=Hd (show∀w':World,Fr (fun _=>False) w2 w'→w'.cell? ⟨w.heap.size,0,none⟩=some (.int .i64 cf.a)∧w'.cell? ⟨w.heap.size,1,none⟩=some (.int .i64 cf.b)∧w'.cell? ⟨w.heap.size,2,none⟩=some (.int .i64 cf.lc)∧w'.cell? ⟨w.heap.size,3,none⟩=some (.int .i64 cf.lp)∧w'.cell? ⟨w.heap.size,4,none⟩=some (.int .i64 cf.pb)∧w'.cell? ⟨w.heap.size,5,none⟩=some (.int .i64 cf.dict)∧w'.cell? ⟨w.heap.size,6,none⟩=some (.int .i64 cf.d)∧w'.cell? ⟨w.heap.size,7,none⟩=some (.int .i64 cf.mode) from fun w' hf=>
  have h:=hf.keep hx2 (fun h=>h)
  ⟨cell_in (i:=0) h rfl,cell_in (i:=1) h rfl,cell_in (i:=2) h rfl,cell_in (i:=3) h rfl,cell_in (i:=4) h rfl,cell_in (i:=5) h rfl,cell_in (i:=6) h rfl,cell_in (i:=7) h rfl⟩)
 have HR:=Hd ((Fr.refl (fun _=>False) w2).drew)
 have HSC:=Hd (HS.out w2.drew HR.out)
 obtain⟨s0,s1,s2,s3,s4,s5,s6,s7⟩:=HS.out w2 (Fr.refl _ _)
 have HNEW:=Hd hnew
 clear hfr hxa hsep hnew hx2 c2 c3 c4 c5
 go_wp2_with fail
 go_region_held3 (fun w'=>w'.cell? ⟨w.heap.size,0,none⟩=some (.int .i64 cf.a)∧w'.cell? ⟨w.heap.size,1,none⟩=some (.int .i64 cf.b)∧w'.cell? ⟨w.heap.size,2,none⟩=some (.int .i64 cf.lc)∧w'.cell? ⟨w.heap.size,3,none⟩=some (.int .i64 cf.lp)∧w'.cell? ⟨w.heap.size,4,none⟩=some (.int .i64 cf.pb)∧w'.cell? ⟨w.heap.size,5,none⟩=some (.int .i64 cf.dict)∧w'.cell? ⟨w.heap.size,6,none⟩=some (.int .i64 cf.d)∧w'.cell? ⟨w.heap.size,7,none⟩=some (.int .i64 cf.mode)) (first|with_reducible exact HSC.out|with_reducible exact HS.out _ HR.out|with_reducible exact HS.out _ (HR.out.alloc _)) ((first
  | (go_at_call 34
     with_reducible refine(snewP_calls _).mono ?_
     rintro e wc ⟨rfl,hfrc⟩
     have HR:=Hd (HR.out.trans hfrc)
     have HSC:=Hd (HS.out _ HR.out)
     obtain⟨s0,s1,s2,s3,s4,s5,s6,s7⟩:=HSC.out
     clear hfrc)))
 have hfa:=HR.out.alloc (.cells #[.int .i64 cf.a,.int .i64 cf.b,.int .i64 cf.lc,.int .i64 cf.lp,.int .i64 cf.pb,.int .i64 cf.dict,.int .i64 cf.d,.int .i64 cf.mode,.slice p data.length cap,ptr l.D,.int .i64 0,.int .i64 1,.int .i64 1,.int .i64 1,.int .i64 1,.slice none 0 0,.bool false,.bool false,.bool false] 87)
 have hst:=start_ok data (dict:=cf.dict) (pr:=cf.pr) hq (decide (cf.mode=0))
 have hPk:PkAt wc (wc.alloc (.cells #[.int .i64 cf.a,.int .i64 cf.b,.int .i64 cf.lc,.int .i64 cf.lp,.int .i64 cf.pb,.int .i64 cf.dict,.int .i64 cf.d,.int .i64 cf.mode,.slice p data.length cap,ptr l.D,.int .i64 0,.int .i64 1,.int .i64 1,.int .i64 1,.int .i64 1,.slice none 0 0,.bool false,.bool false,.bool false] 87)) wc.heap.size cf (.slice p data.length cap) (.slice none 0 0) data l (Pst.start cf.dict cf.pr):=
  ⟨heap_alloc_new _ _,HRD.out.keep (HF2.out.trans hfa),HXE.out.keep hfa,⟨World.ownsRow_nil _ _ _ _,fun k hk=>by simp[Value.ownBlock] at hk⟩⟩
 have HE0:=Hd (show ELoop wc wc.heap.size cf (.slice p data.length cap) data 0 (.slice none 0 0) l (Pst.start cf.dict cf.pr) (wc.alloc (.cells #[.int .i64 cf.a,.int .i64 cf.b,.int .i64 cf.lc,.int .i64 cf.lp,.int .i64 cf.pb,.int .i64 cf.dict,.int .i64 cf.d,.int .i64 cf.mode,.slice p data.length cap,ptr l.D,.int .i64 0,.int .i64 1,.int .i64 1,.int .i64 1,.int .i64 1,.slice none 0 0,.bool false,.bool false,.bool false] 87)) from⟨hPk,hst,rfl,fun j hj=>absurd hj (by omega),(Fr.refl _ _).alloc _⟩)
 have HFA:=Hd (HF2.out.trans HR.out)
 obtain⟨W1,hW1⟩:∃W1,wc.alloc (.cells #[.int .i64 cf.a,.int .i64 cf.b,.int .i64 cf.lc,.int .i64 cf.lp,.int .i64 cf.pb,.int .i64 cf.dict,.int .i64 cf.d,.int .i64 cf.mode,.slice p data.length cap,ptr l.D,.int .i64 0,.int .i64 1,.int .i64 1,.int .i64 1,.int .i64 1,.slice none 0 0,.bool false,.bool false,.bool false] 87)=W1:=⟨_,rfl⟩
 rw[hW1] at HE0 ⊢
 have HT1:=Hd (HT.out.keep HFA.out)
 have hPs:=HFA.out.size
 clear hfa hst hPk HSC HS s0 s1 s2 s3 s4 s5 s6 s7 HR HXE HX2 HF2 HX1 HF1 HNEW hW1 HF HX
 obtain⟨P,hP⟩:∃P,wc.heap.size=P:=⟨_,rfl⟩
 rw[hP] at HE0 ⊢
 go_wp2_with fail
 go_loopw [9] (fun i wr=>∃(k:Nat)(ov:Value)(l2:XL)(t:Pst),i=.int .i64 ((65536*k:Nat):Int)∧ELoop wc P cf (.slice p data.length cap) data k ov l2 t wr) (fun i _=>data.length+65536-(intOf i).toNat)
 case atStart=>exact⟨0,_,_,_,rfl,HE0.out⟩
 case round=>
  obtain⟨k,ov,l2,t,rfl,hE⟩:=hrel
  obtain⟨ho1,ho2⟩:=hE.outlen hb
  obtain⟨f,hf⟩:∃f,f=65536*k:=⟨_,rfl⟩
  rw[←hf]
  have HE:=Hd hE
  have HFK:=Hd hf
  by_cases hlt:f<data.length
  ·have hd1:decide ((f:Int)<(data.length:Int))=true:=decide_eq_true (by omega)
   have hfa:=(Fr.refl (fun _=>False) wr).alloc (.cells (waysOf P) 152)
   have hlen:=hE.len
   have hu:upto data.length t.pts.length=f:=by unfold upto;rw[hlen];omega
   have hu2:((upto data.length (t.pts.length+1):Nat):Int)=min ((f:Int)+65536) (data.length:Int):=by unfold upto;rw [hlen];omega
   have hw:=write_calls P wr.heap.size cf (.slice p data.length cap) ov data l2 t wc (wr.alloc (.cells (waysOf P) 152)) (hE.at'.keep hfa) (HT1.out.keep (hE.fr.trans hfa)) hE.ok (by rw[hlen,←hf];exact hlt) (heap_alloc_new wr (.cells (waysOf P) 152))
    (fun k hk=>Nat.lt_of_lt_of_le (HDV.out k hk (by omega)) hPs) (hE.fr.trans hfa) (by omega) ho1 hb (by omega) (by omega) hq
   rw[hu,hu2] at hw
   have HW:=Hd hw
   have HA:=Hd hfa
   clear hE hf hfa hlen hu hu2 hw
   go_wp2_with fail
   refine HW.out.mono ?_
   rintro e w3 ⟨rfl,hf3,ov3,l3,t3,hat3,hok3,hlen3,hnew3⟩
   have HN:=Hd (show ELoop wc P cf (.slice p data.length cap) data (k+1) ov3 l3 t3 w3 from⟨hat3,hok3,by rw[hlen3,HE.out.len],fun j hj=>by
    by_cases hjk:j=k
    ·have:=HFK.out
     omega
    ·exact HE.out.each j (by omega),(HE.out.fr.trans HA.out).trans' hf3 (fun j h1 h2=>by
     rcases h2 with h2|h2
     ·omega
     ·have:=HE.out.at'.out.new j h2
      omega)⟩)
   clear hf3 hat3 hok3 hlen3 hnew3 HW
   go_wp2_with fail
   go_roundw
   case rel=>exact⟨k+1,_,_,_,by have:=HFK.out;go_num,HN.out⟩
   case measure=>simp[intOf];omega
  ·have hd1:decide ((f:Int)<(data.length:Int))=false:=decide_eq_false (by omega)
   have hwh:t.Whole data cf.dict cf.pr (decide (cf.mode=0)):=⟨hE.ok,by rw[hE.len];omega,fun j hj=>hE.each j (by rw[←hE.len];exact hj)⟩
   have hfa:=(Fr.refl (fun _=>False) wr).alloc (.cells #[.int .u8 0] 5)
   have hrd:=rd_one wr wr.heap.size rfl 0 0 rfl
   obtain⟨po,co,rfl⟩:=hE.at'.out.slice
   have hbx:=hE.at'.box
   unfold pkCells at hbx
   have c15:=cell_in (i:=15) hbx rfl
   have HWH:=Hd hwh
   have HM:=Hd (hE.at'.out.keep hfa)
   have HA:=Hd hfa
   have HRD0:=Hd hrd
   have HS:=Hd (Nat.le_trans hE.fr.size hfa.size)
   obtain⟨os,hos⟩:∃os,t.out cf.dict=os:=⟨_,rfl⟩
   rw[hos] at c15 HM ho1
   have HOS:=Hd hos
   clear hE hf hwh hfa hrd hbx hos
   go_wp2_with (at_builtin;refine append_mine rfl _ _ rfl (w0:=wc) (.slice po os.length co) (.slice (some ⟨wr.heap.size,0,none⟩) 1 1) os [0] rfl rfl HM.out HS.out HRD0.out (by simp only[List.length_singleton];omega) ?_;intro p2 cap2 n2 w2 hn2 hM2 hfr2 hnew2;have HM2:=Hd hM2;have HF2:=Hd hfr2;clear hn2 hM2 hfr2 hnew2)
   go_ret2
   refine⟨?_,t,.slice p2 n2 cap2,rfl,HWH.out,?_⟩
   ·exact((HFA.out.trans HE.out.fr).trans HA.out).trans' HF2.out (fun k h1 h2=>by
     have:=HM.out.new k h2
     omega)
   ·rw[HOS.out]
    exact⟨HM2.out.own,fun k hk=>Nat.le_trans hPs (HM2.out.new k hk)⟩
end Pk
namespace Ck
open Mem Win
def str(xs:List UInt8):ByteArray:=⟨xs.toArray⟩
theorem str_eq(xs:List UInt8):strOfNums (xs.map fun x=>(x.toNat:Int))=str xs:=by
 unfold strOfNums str
 congr 2
 rw[List.map_map]
 conv=>rhs;rw[←List.map_id xs]
 apply List.map_congr_left
 intro x _
 simp
theorem conv_str{w:World}{v:Value}{xs:List UInt8}(h:Rd w v xs):(convert 22 9 v).run Tryz.prog w=.ok (.string (str xs)) w:=by
 obtain⟨p,cap,rfl,h1,h2,h3⟩:=h
 by_cases h0:0<xs.length
 ·obtain⟨b,o,rfl,hc⟩:=h3 h0
  rw[run_convert_bytes_arg (P:=Tryz.prog) w 22 5 Tryz.underlying22 Tryz.underlying5 b o xs.length cap (xs.map fun x=>(x.toNat:Int)) (by simp) (fun i hi=>by
   rw[hc i xs[i] (by simp[hi])]
   simp[bv,hi]) 9 Tryz.underlying9,str_eq]
 ·have hx:xs=[]:=List.eq_nil_of_length_eq_zero (by omega)
  subst hx
  cases p with
  |none=>exact run_convert_bytes_nil (P:=Tryz.prog) w 22 5 Tryz.underlying22 Tryz.underlying5 0 cap 9 Tryz.underlying9
  |some a=>
    show(convert 22 9 (.slice (some a) 0 cap)).run Tryz.prog w=_
    rw[run_convert_bytes_string w 22 9 5 (some a) 0 cap Tryz.underlying22 Tryz.underlying5 Tryz.underlying9]
    rw[run_bytesToString w a 0 cap [] (by simp[loadCells,loadCellsFrom])]
    rfl
theorem fix1:unpackP [1,0,2,97,98,99,0,255] 4096 7 3=.ok (7,[97,98,99]):=by kernel_rfl
theorem fix2:unpackP [1,0,2,97] 4096 (-1) (-1)=.error (3,1):=by kernel_rfl
def abc:List UInt8:=[97,98,99]
def cf3:Pk.Cf:=⟨0,0,3,0,2,4096,0,0⟩
theorem row_rd(w:World)(xs:List UInt8)(B:Nat)(hB:B=w.heap.size)(cs:Array Value)(hcs:cs=(bvs xs).toArray)(fr:Nat×Nat)(hl:xs.length≤1000):Rd (w.alloc (.cells cs 5 fr)) (.slice (some ⟨B,0,none⟩) xs.length xs.length) xs:=by
 subst hB hcs
 refine⟨_,_,rfl,Nat.le_refl _,by simp only[maxLen];omega,fun _=>⟨_,0,rfl,fun i x hx=> ?_⟩⟩
 rw[cell_of_row _ _ _ _ _ _ (heap_alloc_new w _),Nat.zero_add,List.getElem?_toArray]
 exact bvs_at hx
set_option maxRecDepth 100000 in
theorem fixed_calls(w:World)(hT:St.Tabs w)(hM:Moves w):Calls Tryz.prog 12 #[] w fun e w'=>e=.returned (.bool true)∧Fr (fun _=>False) w w':=by
 have hfa:=(Fr.refl (fun _=>False) w).alloc (.cells #[.int .u8 97,.int .u8 98,.int .u8 99] 5 (3,4))
 have kc:=fun(w:World)(C:Array Value)(n c:Nat)=>Lib.run_convert_bytes_const (P:=Tryz.prog) w 22 5 C n c Tryz.underlying22 Tryz.underlying5
 have hrd:=row_rd w [97,98,99] w.heap.size rfl #[.int .u8 97,.int .u8 98,.int .u8 99] rfl (3,4) (by decide)
 have HE:=Hd (Pk.encodeX_calls cf3 (some ⟨w.heap.size,0,none⟩) 3 abc _ (hT.keep hfa) hrd (by decide) (by decide) (by decide) (by decide))
 have HA:=Hd hfa
 have HT:=Hd hT
 have HM:=Hd hM
 clear hT hM hfa hrd
 go_enter Tryz.func12,Tryz.ntmps12
 go_wp2_with fail
 refine HE.out.mono ?_
 rintro e w1 ⟨hfr1,t,v,rfl,hwh,hM1⟩
 rw[show t.out cf3.dict++[0]=[1,0,2,97,98,99,0] by rw[Pk.Pst.Whole.one hwh (by decide) (by decide)];decide+kernel] at hM1
 obtain⟨p,cap,rfl⟩:=hM1.slice
 have hcv:(convert 22 9 (.slice p 7 cap)).run Tryz.prog w1=.ok (.string (str [1,0,2,97,98,99,0])) w1:=conv_str hM1.rd
 have hstr:((str [1,0,2,97,98,99,0]).toList !=[1,0,2,97,98,99,0])=false:=by decide+kernel
 have hstr2:((str [1,0,2,97,98,99,0]).toList==[1,0,2,97,98,99,0])=true:=by decide+kernel
 have HF1:=Hd (HA.out.trans hfr1)
 have HF0:=Hd hfr1
 have hfb:=(Fr.refl (fun _=>False) w1).alloc (.cells #[.int .u8 255] 5)
 have HB:=Hd hfb
 have HRD:=Hd (rd_one w1 w1.heap.size rfl 255 255 rfl)
 have HM1:=Hd (hM1.keep hfb)
 clear hfr1 hM1 hfb
 go_wp2_with (at_builtin;refine append_mine rfl _ _ rfl (w0:=w.alloc (.cells #[.int .u8 97,.int .u8 98,.int .u8 99] 5 (3,4))) (.slice p 7 cap) (.slice (some ⟨w1.heap.size,0,none⟩) 1 1) [1,0,2,97,98,99,0] [255] rfl rfl HM1.out (Nat.le_trans HF0.out.size HB.out.size) HRD.out (by decide) ?_;intro p2 cap2 n2 w2 hn2 hM2 hfr2 hnew2;obtain rfl:n2=8:=hn2;have HM2:=Hd hM2;have HF2:=Hd hfr2;clear hM2 hfr2 hnew2)
 have HF3:=Hd ((HF1.out.trans HB.out).trans' HF2.out (fun k h1 h2=>by
  have h3:=HM1.out.new k h2
  have h4:=HA.out.size
  omega))
 refine(decode_calls [1,0,2,97,98,99,0,255] 4096 7 3 w2 (.slice p2 8 cap2) (HT.out.keep HF3.out) HM2.out.rd (HM.out.step HF3.out (fun _ h=>h.elim)) (by decide)).mono ?_
 rintro e w3 hpost
 unfold DecodePost at hpost
 rw[fix1] at hpost
 obtain⟨hfr3,v3,rfl,hM3⟩:=hpost
 obtain⟨p3,cap3,rfl⟩:=hM3.slice
 have HF4:=Hd (HF3.out.trans hfr3)
 have HM3:=Hd hM3
 have hfc:=(Fr.refl (fun _=>False) w3).alloc (.cells #[.int .u8 1,.int .u8 0,.int .u8 2,.int .u8 97] 5)
 have HC:=Hd hfc
 have HRD4:=Hd (row_rd w3 [1,0,2,97] w3.heap.size rfl #[.int .u8 1,.int .u8 0,.int .u8 2,.int .u8 97] rfl (0,0) (by decide))
 clear hfr3 hM3 hfc
 go_wp2_with fail
 have HF5:=Hd (HF4.out.trans HC.out)
 refine(decode_calls [1,0,2,97] 4096 (-1) (-1) _ (.slice (some ⟨w3.heap.size,0,none⟩) 4 4) (HT.out.keep HF5.out) HRD4.out (HM.out.step HF5.out (fun _ h=>h.elim)) (by decide)).mono ?_
 rintro e w5 hpost
 unfold DecodePost at hpost
 rw[fix2] at hpost
 obtain⟨hfr5,_,rfl⟩:=hpost
 have hcv3:(convert 22 9 (.slice p3 3 cap3)).run Tryz.prog w5=.ok (.string (str [97,98,99])) w5:=conv_str ((HM3.out.rd.keep HC.out).keep hfr5)
 have hstr3:((str [97,98,99]).toList !=[97,98,99])=false:=by decide+kernel
 have hstr4:((str [97,98,99]).toList==[97,98,99])=true:=by decide+kernel
 have HF6:=Hd (HF5.out.trans hfr5)
 clear hfr5
 go_wp2_with fail
 go_ret
 exact⟨rfl,HF6.out⟩
end Ck
namespace Bk
open Mem Rc St Lz En Win Ck Pk
theorem right_calls(a b lc lp pb dict d mode:Int)(w:World)(b_lc:-9223372036854775808≤lc∧lc≤9223372036854775807)(b_lp:-9223372036854775808≤lp∧lp≤9223372036854775807)(b_pb:-9223372036854775808≤pb∧pb≤9223372036854775807):
 Calls Tryz.prog 14 #[.agg #[.int .i64 a,.int .i64 b,.int .i64 lc,.int .i64 lp,.int .i64 pb,.int .i64 dict,.int .i64 d,.int .i64 mode]] w fun e w'=>e=.returned (.bool (goodC lc lp pb dict mode))∧Fr (fun _=>False) w w':=by
 have HF:=Hd ((Fr.refl (fun _=>False) w).alloc (.cells #[.int .i64 a,.int .i64 b,.int .i64 lc,.int .i64 lp,.int .i64 pb,.int .i64 dict,.int .i64 d,.int .i64 mode] 26))
 have HX:=Hd (heap_alloc_new w (.cells #[.int .i64 a,.int .i64 b,.int .i64 lc,.int .i64 lp,.int .i64 pb,.int .i64 dict,.int .i64 d,.int .i64 mode] 26))
 have HP:=fun W=>Hd (props_calls lc lp pb W b_lc b_lp b_pb)
 clear b_lc b_lp b_pb
 unfold goodC
 cases hbad:propsBad lc lp pb with
 |true=>
   rw[hbad] at HP
   clear hbad
   go_enter Tryz.func14,Tryz.ntmps14
   go_wp2_with fail
   refine(HP _).out.mono ?_
   rintro e w1 ⟨⟨x,rfl⟩,hfr⟩
   have HF1:=Hd (HF.out.trans hfr)
   clear hfr
   go_wp2_with fail
   go_ret
   exact⟨by simp,HF1.out⟩
 |false=>
   rw[hbad] at HP
   clear hbad
   go_enter Tryz.func14,Tryz.ntmps14
   go_wp2_with fail
   refine(HP _).out.mono ?_
   rintro e w1 ⟨⟨x,rfl⟩,hfr⟩
   have hx1:=hfr.keep HX.out (fun h=>h)
   have c5:=cell_in (i:=5) hx1 rfl
   have c7:=cell_in (i:=7) hx1 rfl
   have HF1:=Hd (HF.out.trans hfr)
   clear hfr hx1
   by_cases h1:dict<4096
   ·have t1:decide (dict≥4096)=false:=decide_eq_false (by omega)
    have t2:decide (4096≤dict)=false:=decide_eq_false (by omega)
    go_wp2_with fail
    go_ret
    exact⟨by rw[decide_eq_false (by omega)];rfl,HF1.out⟩
   have t1:decide (dict≥4096)=true:=decide_eq_true (by omega)
   have t2:decide (4096≤dict)=true:=decide_eq_true (by omega)
   by_cases h2:67108864<dict
   ·have t3:decide (dict≤67108864)=false:=decide_eq_false (by omega)
    go_wp2_with fail
    go_ret
    exact⟨by rw[decide_eq_false (by omega)];rfl,HF1.out⟩
   have t3:decide (dict≤67108864)=true:=decide_eq_true (by omega)
   by_cases h3:mode<0
   ·have t4:decide (mode≥0)=false:=decide_eq_false (by omega)
    have t5:decide (0≤mode)=false:=decide_eq_false (by omega)
    go_wp2_with fail
    go_ret
    exact⟨by rw[decide_eq_false (by omega)];rfl,HF1.out⟩
   have t4:decide (mode≥0)=true:=decide_eq_true (by omega)
   have t5:decide (0≤mode)=true:=decide_eq_true (by omega)
   obtain⟨bb,hbb⟩:∃bb,decide (mode≤2)=bb:=⟨_,rfl⟩
   have HBB:=Hd hbb
   have HR:=Hd (show(!false&&decide (4096≤dict∧dict≤67108864∧0≤mode∧mode≤2))=bb from by
    rw[←hbb]
    simp only[Bool.not_false,Bool.true_and]
    exact decide_eq_decide.2 ⟨fun h=>h.2.2.2,fun h=>⟨by omega,by omega,by omega,h⟩⟩)
   go_wp2_with fail
   go_ret
   exact⟨by rw[HR.out];rfl,HF1.out⟩
end Bk
namespace Bk
theorem mod_of(n:Nat)(hn:0<n)(a:Int)(h:0≤a):∃A m:Nat,a=(A:Int)∧((A:Int).tmod (n:Int))=(m:Int)∧(A:Int)%(n:Int)=(m:Int)∧m<n:=
 ⟨a.toNat,a.toNat%n,(Int.toNat_of_nonneg h).symm,rfl,rfl,Nat.mod_lt _ hn⟩
theorem more_of(more:Int):∃A m:Nat,IntKind.u64.wrap more=(A:Int)∧((A:Int).tmod 2147483648)=(m:Int)∧(A:Int)%2147483648=(m:Int)∧m≤2147483647:=by
 obtain⟨A,m,h1,h2,h3,h4⟩:=mod_of 2147483648 (by decide) _ (wrap_u64_nonneg more)
 exact⟨A,m,h1,h2,h3,Nat.le_of_lt_succ h4⟩
theorem sum_of(d m:Nat)(hd:d≤67108864)(hm:m≤2147483647):wrap64 (m:Int)=m∧IntKind.i64.wrap (m:Int)=m∧IntKind.i64.wrap ((d:Int)+(m:Int))=(d:Int)+(m:Int)∧wrap64 ((d:Int)+(m:Int))=(d:Int)+(m:Int)∧d+m≤4294967295:=
 ⟨IntWalk.wrap64_in _ (by omega),IntWalk.i64_in _ (by omega),IntWalk.i64_in _ (by omega),IntWalk.wrap64_in _ (by omega),by omega⟩
end Bk
end Go.Proofs.YtffoddpjfgjelaaGreatDoor
