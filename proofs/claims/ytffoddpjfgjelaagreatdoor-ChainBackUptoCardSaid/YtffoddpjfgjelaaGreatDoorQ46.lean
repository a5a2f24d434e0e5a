/- Part 46 of 48: lemmas of the last part, each under the conditions that it names. -/
import Derived.Test.YtffoddpjfgjelaaGreatDoorQ45
set_option linter.unusedVariables false
set_option linter.unusedSimpArgs false
set_option maxRecDepth 1500
set_option maxHeartbeats 4000000
namespace Go.Proofs.YtffoddpjfgjelaaGreatDoor
open Go.RowKit
namespace Pk
open Mem Rc St Lz En Win Ck
def HeadOk(h:Head):Prop:=(1≤h.kind∧h.kind≤6)∧(h.kind≤2→h.packed=h.size)∧h.lc+h.lp≤4∧h.pb≤4∧Enc.okS h.kind h.size h.packed=true∧(h.kind<5→h.lc=0∧h.lp=0∧h.pb=0)
theorem HeadOk.put{h:Head}(hh:HeadOk h)(w:World):Calls Tryz.prog 67 #[.agg #[.int .i64 h.kind,.int .i64 h.size,.int .i64 h.packed,.int .i64 h.lc,.int .i64 h.lp,.int .i64 h.pb]] w fun e w'=>Fr (fun _=>False) w w'∧∃hv,e=.returned (.tuple #[hv,.int .i64 0])∧Mine w w' hv (headB h):=by
 obtain⟨h1,h2,h3,h4,h5,h6⟩:=hh
 refine(Enc.hput_any h.kind h.size h.packed h.lc h.lp h.pb h1 h2 h3 h4 w).mono ?_
 rintro e w' ⟨hf,hv,rfl,hm⟩
 rw[if_pos h5]
 refine⟨hf,hv,rfl,?_⟩
 have:=hm h5
 split at this
 ·rename_i h7
  obtain⟨e1,e2,e3⟩:=h6 h7
  obtain⟨a,b,c,d,e,f⟩:=h
  simp only at e1 e2 e3
  subst e1 e2 e3
  exact this
 ·exact this
theorem headP_ok(t:Pst)(cf:Cf)(n m:Nat)(hq:cf.lc+cf.lp≤4∧cf.pb≤4)(h1:1≤n)(h2:n≤65536)(h3:1≤m)(h4:m≤65536):HeadOk (t.headP cf.pr n m):=by
 have hkb:=kind_bd t
 have hok:Enc.okS t.kind n m=true:=by
  unfold Enc.okS sizedP
  rw[if_neg (by omega),decide_eq_true_eq]
  omega
 unfold Pst.headP
 split
 ·rename_i h7
  exact⟨⟨by simp only;omega,by simp only;omega⟩,fun h=>by simp only at h;omega,by simp,by simp,hok,fun _=>⟨rfl,rfl,rfl⟩⟩
 ·rename_i h7
  exact⟨⟨by simp only;omega,by simp only;omega⟩,fun h=>by simp only at h;omega,hq.1,hq.2,hok,fun h=>by simp only at h;omega⟩
theorem Chosen.head{t:Pst}{cf:Cf}{data:List UInt8}{fm tp:Nat}{h:Head}{b:List UInt8}{x':Xe}{s:S}(hc:Chosen t cf data fm tp h b x' s)(hq:cf.lc+cf.lp≤4∧cf.pb≤4)(hf:fm<tp)(ht:tp≤data.length)(h64:tp-fm≤65536):HeadOk h:=by
 rcases hc with⟨rfl,hb,_,_⟩|⟨_,ys,rfl,hb,_,_,_,_,h5,_⟩
 ·have hl:b.length=tp-fm:=by rw[hb,List.length_take,List.length_drop];omega
  have hk:(if t.begun=false then 1 else 2)=1∨(if t.begun=false then 1 else 2)=2:=by split<;>simp
  refine⟨⟨by simp only;omega,by simp only;omega⟩,fun _=>rfl,by simp,by simp,?_,fun _=>⟨rfl,rfl,rfl⟩⟩
  unfold Enc.okS
  rw[if_pos (by simp only;omega),decide_eq_true_eq]
  simp only
  omega
 ·rw[hb] at h5
  exact headP_ok t cf (tp-fm) _ hq (by omega) (by omega) (bytes_pos _) h5
theorem ResAt.aside{w w':World}{Z KB:Nat}{h:Head}{bv:Value}{b:List UInt8}{l:XL}{x:Xe}{s:S}{cs:Array Value}(hr:ResAt w Z h bv b l x s)(hK:w.heap[KB]? =some (.cells cs 87 (0,0)))(h2:∀k,bv.ownBlock=some k→k≠KB)(hf:Fr (fun k=>k=KB) w w'):ResAt w' Z h bv b l x s:=
 ⟨hf.keep hr.box (Ps.neOf hr.box hK (by decide)),hr.rd.step hf h2,xaside hr.xe hK hf (by decide) (by decide) (by decide) (by decide) (by decide) (by decide) (by decide)⟩
theorem step_bytesN{ops:Array Oper}{o:Oper}{a:Act}{K:Act→World→Prop}{Q:Exit→Act→World→Prop}{E:Prop}(hgd:o.guard=none)(s y:Operand)
 (ho:o.op=.call {callee:=.builtin .append,args:=#[s,y],argTypes:=#[22,22]}){w0 w:World}(v x:Value)(xs ys:List UInt8)(hv:a.eval s=v)(hx:a.eval y=x)(hacc:Acc w0 w v xs)(hrd:Rd w x ys)
 (hb:xs.length+ys.length≤70368744177664)
 (h:∀p cap n w',n=xs.length+ys.length→Acc w0 w' (.slice p n cap) (xs++ys)→Fr (fun k=>v.ownBlock=some k) w w'→(∀k,(Value.slice p n cap).ownBlock=some k→v.ownBlock=some k∨w.heap.size≤k)→K (a.put o.dst (.slice p n cap)) w'):
 if Region.wanted o (yielded ops a.tmps)=true then Oper.wp Tryz.prog o a w K Q else E:=by
 obtain⟨i0,hi,hz0,hz1,hz2⟩:=info_parts infoU8
 refine step_append_any w hgd s y 22 22 ho 5 i0 (.int .u8 0) 1 1 Tryz.underlying22 hi hz0 hz1 hz2 rfl (by decide) v xs.length (bvs xs) hv hacc.own x ys.length (bvs ys) hx (src_rd Tryz.underlying22 hrd) (by simp only[maxLen];omega) (by omega) ?_
 intro v' w' hown hfr hnew _
 obtain⟨p,cap,rfl,hA⟩:=append_post hacc hown hfr hnew
 exact h p cap _ w' List.length_append hA hfr hnew
theorem ResAt.beside{w w':World}{Z:Nat}{h:Head}{bv:Value}{b:List UInt8}{l:XL}{x:Xe}{s:S}(hr:ResAt w Z h bv b l x s){v:Value}{xs:List UInt8}{w0:World}(hm:Mine w0 w v xs)(h1:∀k,v.ownBlock=some k→¬XFoot l k)(h2:∀k,bv.ownBlock=some k→v.ownBlock≠some k)(hf:Fr (fun k=>v.ownBlock=some k) w w'):ResAt w' Z h bv b l x s:=
 ⟨hf.keep hr.box (fun e=>by
  obtain⟨cur,hc⟩:=Lz.own_block hm.own e
  exact Ps.neOf hr.box hc (by decide) rfl),hr.rd.step hf (fun k hk e=>h2 k hk e),xbeside hr.xe hm h1 hf⟩
def eightP(W:World)(P D':Nat)(s:S):World:=((((((W.setCell ⟨P,9,none⟩ (ptr D')).setCell ⟨P,10,none⟩ (.int .i64 s.num)).setCell ⟨P,11,none⟩ (.int .i64 s.r0)).setCell ⟨P,12,none⟩ (.int .i64 s.r1)).setCell ⟨P,13,none⟩ (.int .i64 s.r2)).setCell ⟨P,14,none⟩ (.int .i64 s.r3)).drew
theorem eightP_eq(W:World)(P D':Nat)(s:S):eightP W P D' s=((((((W.setCell ⟨P,9,none⟩ (ptr D')).setCell ⟨P,10,none⟩ (.int .i64 s.num)).setCell ⟨P,11,none⟩ (.int .i64 s.r0)).setCell ⟨P,12,none⟩ (.int .i64 s.r1)).setCell ⟨P,13,none⟩ (.int .i64 s.r2)).setCell ⟨P,14,none⟩ (.int .i64 s.r3)).drew:=rfl
theorem eightP_fr(W:World)(P D':Nat)(s:S):Fr (fun k=>k=P) W (eightP W P D' s):=((((((Fr.one W P 9 _).trans (Fr.one _ P 10 _)).trans (Fr.one _ P 11 _)).trans (Fr.one _ P 12 _)).trans (Fr.one _ P 13 _)).trans (Fr.one _ P 14 _)).drew
theorem eightP_in{W:World}{P D D':Nat}{s s0:S}{cf:Cf}{dv ov:Value}{b1 b2 b3:Bool}(h:W.heap[P]? =some (.cells (pkCells cf dv D s0 ov b1 b2 b3) 87 (0,0))):(eightP W P D' s).heap[P]? =some (.cells (pkCells cf dv D' s ov b1 b2 b3) 87 (0,0)):=by
 obtain⟨a0,a1,a2,a3,a4⟩:=s0
 obtain⟨n0,n1,n2,n3,n4⟩:=s
 have q0:(W.setCell ⟨P,9,none⟩ (ptr D')).heap[P]? =some (.cells (pkCells cf dv D' ⟨a0,a1,a2,a3,a4⟩ ov b1 b2 b3) 87 (0,0)):=(set_in h 9 (ptr D')).trans rfl
 have q1:((W.setCell ⟨P,9,none⟩ (ptr D')).setCell ⟨P,10,none⟩ (.int .i64 n0)).heap[P]? =some (.cells (pkCells cf dv D' ⟨n0,a1,a2,a3,a4⟩ ov b1 b2 b3) 87 (0,0)):=(set_in q0 10 _).trans rfl
 have q2:(((W.setCell ⟨P,9,none⟩ (ptr D')).setCell ⟨P,10,none⟩ (.int .i64 n0)).setCell ⟨P,11,none⟩ (.int .i64 n1)).heap[P]? =some (.cells (pkCells cf dv D' ⟨n0,n1,a2,a3,a4⟩ ov b1 b2 b3) 87 (0,0)):=(set_in q1 11 _).trans rfl
 have q3:((((W.setCell ⟨P,9,none⟩ (ptr D')).setCell ⟨P,10,none⟩ (.int .i64 n0)).setCell ⟨P,11,none⟩ (.int .i64 n1)).setCell ⟨P,12,none⟩ (.int .i64 n2)).heap[P]? =some (.cells (pkCells cf dv D' ⟨n0,n1,n2,a3,a4⟩ ov b1 b2 b3) 87 (0,0)):=(set_in q2 12 _).trans rfl
 have q4:(((((W.setCell ⟨P,9,none⟩ (ptr D')).setCell ⟨P,10,none⟩ (.int .i64 n0)).setCell ⟨P,11,none⟩ (.int .i64 n1)).setCell ⟨P,12,none⟩ (.int .i64 n2)).setCell ⟨P,13,none⟩ (.int .i64 n3)).heap[P]? =some (.cells (pkCells cf dv D' ⟨n0,n1,n2,n3,a4⟩ ov b1 b2 b3) 87 (0,0)):=(set_in q3 13 _).trans rfl
 have q5:((((((W.setCell ⟨P,9,none⟩ (ptr D')).setCell ⟨P,10,none⟩ (.int .i64 n0)).setCell ⟨P,11,none⟩ (.int .i64 n1)).setCell ⟨P,12,none⟩ (.int .i64 n2)).setCell ⟨P,13,none⟩ (.int .i64 n3)).setCell ⟨P,14,none⟩ (.int .i64 n4)).heap[P]? =some (.cells (pkCells cf dv D' ⟨n0,n1,n2,n3,n4⟩ ov b1 b2 b3) 87 (0,0)):=(set_in q4 14 _).trans rfl
 unfold eightP
 exact(R0 _).drew.keep q5 (fun h=>h)
theorem lastP_in{W:World}{P D:Nat}{s:S}{cf:Cf}{dv ov:Value}{b1 b2 b3:Bool}(c1 c2 c3:Bool)(h:W.heap[P]? =some (.cells (pkCells cf dv D s ov b1 b2 b3) 87 (0,0))):(((W.setCell ⟨P,16,none⟩ (.bool c1)).setCell ⟨P,17,none⟩ (.bool c2)).setCell ⟨P,18,none⟩ (.bool c3)).heap[P]? =some (.cells (pkCells cf dv D s ov c1 c2 c3) 87 (0,0)):=by
 have q0:(W.setCell ⟨P,16,none⟩ (.bool c1)).heap[P]? =some (.cells (pkCells cf dv D s ov c1 b2 b3) 87 (0,0)):=(set_in h 16 _).trans rfl
 have q1:((W.setCell ⟨P,16,none⟩ (.bool c1)).setCell ⟨P,17,none⟩ (.bool c2)).heap[P]? =some (.cells (pkCells cf dv D s ov c1 c2 b3) 87 (0,0)):=(set_in q0 17 _).trans rfl
 exact(set_in q1 18 _).trans rfl
theorem lastP_fr(W:World)(P:Nat)(a b c:Value):Fr (fun k=>k=P) W (((W.setCell ⟨P,16,none⟩ a).setCell ⟨P,17,none⟩ b).setCell ⟨P,18,none⟩ c):=((Fr.one W P 16 _).trans (Fr.one _ P 17 _)).trans (Fr.one _ P 18 _)
def Best(w:World)(t:Pst)(cf:Cf)(dv:Value)(data:List UInt8)(fm tp i:Nat)(s8 s9:Value)(wr:World):Prop:=
 ∃(Z n:Nat)(hd:Head)(bv:Value)(b:List UInt8)(l':XL)(x':Xe)(s':S),s8=ptr Z∧s9=.int .i64 n∧Chosen t cf data fm tp hd b x' s'∧ResAt wr Z hd bv b l' x' s'∧(∀j,XFoot l' j→w.heap.size≤j)∧(∀j,bv.ownBlock=some j→dv.ownBlock=some j∨w.heap.size≤j)∧(i=1→n=3+(tp-fm))
def WritePost(KB:Nat)(cf:Cf)(dv ov:Value)(data:List UInt8)(t:Pst)(w0 w:World)(e:Ending)(w':World):Prop:=
 e=.returned (.tuple #[])∧Fr (fun k=>k=KB∨ov.ownBlock=some k) w w'∧∃(ov':Value)(l':XL)(t':Pst),PkAt w0 w' KB cf dv ov' data l' t'∧t'.Ok data cf.dict cf.pr (decide (cf.mode=0))∧t'.pts.length=t.pts.length+1∧∀k,ov'.ownBlock=some k→ov.ownBlock=some k∨w.heap.size≤k
theorem write_fin{KB Z:Nat}{cf:Cf}{dv ov ov5 bv:Value}{data b:List UInt8}{t t2:Pst}{w0 w W8:World}{hd:Head}{l':XL}{x':Xe}{s':S}{b1 b2 b3:Bool}{kd:Nat}(c3:Bool)(hAF:After t t2 cf data hd b x' s')
 (hK8:W8.heap[KB]? =some (.cells (pkCells cf dv l'.D s' ov5 b1 b2 b3) 87 (0,0)))(hR:ResAt W8 Z hd bv b l' x' s')(hM:Mine w0 W8 ov5 (t.out cf.dict++headB hd++b))(hf:Fr (fun k=>k=KB∨ov.ownBlock=some k) w W8)(hrd:Rd w dv data)
 (hdv:∀k,dv.ownBlock=some k→k<w0.heap.size)(hKB:w0.heap.size≤KB)(hov:∀k,ov.ownBlock=some k→w0.heap.size≤k)(hN:∀k,ov5.ownBlock=some k→ov.ownBlock=some k∨w.heap.size≤k)(hkd:hd.kind=kd)(hc3:(t.props||decide (5≤kd))=c3):
 WritePost KB cf dv ov data t w0 w (.returned (.tuple #[])) (((W8.setCell ⟨KB,16,none⟩ (.bool true)).setCell ⟨KB,17,none⟩ (.bool (decide ((3:Int)≤(kd:Int))))).setCell ⟨KB,18,none⟩ (.bool c3)):=by
 have hl:=lastP_fr W8 KB (.bool true) (.bool (decide ((3:Int)≤(kd:Int)))) (.bool c3)
 have hfr:=hf.trans (hl.mono (T:=fun k=>k=KB∨ov.ownBlock=some k) (fun _ _ h=>.inl h))
 have hp:t2.packed=decide ((3:Int)≤(kd:Int)):=by
  rw[hAF.packed,hkd]
  exact decide_eq_decide.2 (by omega)
 have hq:t2.props=c3:=by rw[hAF.props,hkd,hc3]
 refine⟨rfl,hfr,ov5,l',t2,⟨?_,hrd.step hfr (fun k hk e=> ?_),?_,?_⟩,hAF.ok,hAF.len,hN⟩
 ·rw[hAF.s,hAF.begun,hp,hq]
  exact lastP_in _ _ _ hK8
 ·have h1:=hdv k hk
  rcases e with e|e
  ·omega
  ·have:=hov k e
   omega
 ·rw[hAF.x]
  exact xaside hR.xe hK8 hl (by decide) (by decide) (by decide) (by decide) (by decide) (by decide) (by decide)
 ·rw[hAF.out,←List.append_assoc]
  refine⟨own_step hM.own hl (fun k hk e=> ?_),hM.new⟩
  subst e
  obtain⟨cur,hc⟩:=Lz.own_block hM.own hk
  exact Ps.neOf hK8 hc (by decide) rfl
set_option maxRecDepth 100000 in
theorem write_calls(KB G:Nat)(cf:Cf)(dv ov:Value)(data:List UInt8)(l:XL)(t:Pst)(w0 w:World)(h:PkAt w0 w KB cf dv ov data l t)(hT:Tabs w)(hok:t.Ok data cf.dict cf.pr (decide (cf.mode=0)))(hi:65536*t.pts.length<data.length)
 (hG:w.heap[G]? =some (.cells #[.func (.func 36) #[ptr KB] #[],.func (.func 37) #[ptr KB] #[]] 152 (0,0)))(hdv:∀k,dv.ownBlock=some k→k<w0.heap.size)(hF0:Fr (fun _=>False) w0 w)(hKB:w0.heap.size≤KB)(hol:(t.out cf.dict).length≤4000000000)
 (hb:data.length≤1073741824)(hd1:1≤cf.dict)(hd2:cf.dict≤4294967295)(hq:cf.lc+cf.lp≤4∧cf.pb≤4):
 Calls Tryz.prog 35 #[ptr KB,.int .i64 (upto data.length t.pts.length),.int .i64 (upto data.length (t.pts.length+1)),.slice (some ⟨G,0,none⟩) 2 2] w (WritePost KB cf dv ov data t w0 w):=by
 obtain⟨u1,u2,u3,u4⟩:=upto_step hi
 have u5:=upto_le data.length (t.pts.length+1)
 have hCH:=fun(hc:Head)(b:List UInt8)(x':Xe)(s:S)(h:Chosen t cf data (upto data.length t.pts.length) (upto data.length (t.pts.length+1)) hc b x' s)=>h.after hok hi hq
 obtain⟨fm,hfm⟩:∃fm,upto data.length t.pts.length=fm:=⟨_,rfl⟩
 obtain⟨tp,htp⟩:∃tp,upto data.length (t.pts.length+1)=tp:=⟨_,rfl⟩
 have hall:=hok.all
 rw[hfm] at u1 u2 u3 hCH hall ⊢
 rw[htp] at u2 u3 u4 u5 hCH ⊢
 have HRAW:=Hd (show∀w':World,Fr (fun _=>False) w w'→Calls Tryz.prog 36 #[ptr KB,.int .i64 fm,.int .i64 tp] w' (RawPost w' dv t.x t.s (if t.begun=false then 1 else 2) ((data.drop fm).take (tp-fm))) from fun w' hf=>raw_calls KB fm tp cf dv ov data l t w0 w' (h.keep hf) u2 u5 hb (by rw[hok.k];decide) (by rw[hall,List.length_take];omega))
 have HTRY:=Hd (show∀w':World,Fr (fun _=>False) w w'→Calls Tryz.prog 37 #[ptr KB,.int .i64 fm,.int .i64 tp] w' (TriedPost w' t cf data fm tp) from fun w' hf=>tried_calls KB fm tp cf dv ov data l t w0 w' (h.keep hf) (hT.keep hf) u2 u5 u3 hb hok.k hall hok.ok hok.sok (fun hk=>by
  have hp:t.packed=true:=by
   unfold Pst.kind at hk
   cases hb':t.begun with
   |false=>rw[hb'] at hk;simp at hk
   |true=>
     cases hp:t.packed with
     |true=>rfl
     |false=>
       rw[hb',hp] at hk
       simp at hk
       split at hk<;>omega
  exact(hok.same hp).2.1) hd1 hd2 hq.1 hq.2)
 have HCH:=Hd hCH
 have HH:=Hd h
 have HGC:=Hd hG
 obtain⟨g0,g1⟩:=cs2 hG rfl rfl
 have HFM:=Hd hfm
 have HTP:=Hd htp
 clear hCH h hG hT u1 u4 hfm htp
 go_enter Tryz.func35,Tryz.ntmps35
 go_wp2_with fail
 go_loopw [8,9,20](fun s8 s9 s20 wr=>∃i:Nat,s20=.int .i64 i∧Fr (fun _=>False) w wr∧((i=0∧s8=.pointer none∧s9=.int .i64 0)∨(1≤i∧i≤2∧Best w t cf dv data fm tp i s8 s9 wr))) (fun _ _ s20 _=>2-(intOf s20).toNat)
 case atStart=>exact⟨0,rfl,Fr.refl _ _,.inl ⟨rfl,rfl,rfl⟩⟩
 case round=>
  obtain⟨i,rfl,hfr,hor⟩:=hrel
  have hgc:=hfr.keep HGC.out (fun h=>h)
  obtain⟨g0,g1⟩:=cs2 hgc rfl rfl
  have HFR:=Hd hfr
  clear hfr hgc
  rcases hor with⟨rfl,rfl,rfl⟩|⟨hi1,hi2,hbest⟩
  ·go_wp2_with fail
   refine(HRAW.out _ HFR.out).mono ?_
   rintro e w1 ⟨hf1,Z,bv,l',rfl,hres,hZ,hft,hbv⟩
   have hbl:((data.drop fm).take (tp-fm)).length=tp-fm:=by rw[List.length_take,List.length_drop];omega
   have hch:Chosen t cf data fm tp ⟨if t.begun=false then 1 else 2,((data.drop fm).take (tp-fm)).length,((data.drop fm).take (tp-fm)).length,0,0,0⟩ ((data.drop fm).take (tp-fm)) (t.x.raw ((data.drop fm).take (tp-fm))) t.s:=.inl ⟨rfl,rfl,rfl,rfl⟩
   have hhd:=hch.head hq u2 u5 u3
   have hhl:(headB ⟨if t.begun=false then 1 else 2,((data.drop fm).take (tp-fm)).length,((data.drop fm).take (tp-fm)).length,0,0,0⟩).length=3:=raw_headB (by split<;>simp)
   generalize hdd:(⟨if t.begun=false then 1 else 2,((data.drop fm).take (tp-fm)).length,((data.drop fm).take (tp-fm)).length,0,0,0⟩:Head)=hd at*
   generalize hbb:(data.drop fm).take (tp-fm)=b at*
   generalize t.x.raw b=x' at*
   have hbx:=hres.box
   unfold resCells at hbx
   obtain⟨r0,r1,r2,r3,r4,r5⟩:=cs6 hbx rfl rfl rfl rfl rfl rfl
   obtain⟨bp,bc,rfl,hbc⟩:=hres.rd
   have HRES:=Hd hres
   have HF1:=Hd (HFR.out.trans hf1)
   have HCO:=Hd hch
   have HHD:=Hd hhd
   have HFT:=Hd (show∀j,XFoot l' j→w.heap.size≤j from fun j hj=>Nat.le_trans HFR.out.size (hft j hj))
   have HBV:=Hd hbv
   have HHL:=Hd hhl
   have HBL:=Hd hbl
   clear hf1 hres hbx hch hhd hft hbv hhl hbl hdd hbb hbc
   go_wp2_with fail
   refine(HHD.out.put _).mono ?_
   rintro e w2 ⟨hf2,hv,rfl,hm2⟩
   obtain⟨hp,hc,rfl⟩:=hm2.slice
   have hbx:=hf2.keep HRES.out.box (fun h=>h)
   unfold resCells at hbx
   clear r0 r1 r2 r3 r4 r5
   have r6:=cell_in (i:=6) hbx rfl
   have hl3:(headB hd).length=3:=HHL.out
   rw[hl3]
   have hl4:b.length=tp-fm:=HBL.out
   rw[hl4] at r6
   have HF2:=Hd (HF1.out.trans hf2)
   have HRES2:=Hd (HRES.out.keep hf2)
   clear hf2 hm2 hbx hl3
   have HBV2:=Hd (show∀j,(Value.slice bp b.length bc).ownBlock=some j→dv.ownBlock=some j∨w.heap.size≤j from fun j hj=>.inl (HBV.out j hj))
   go_wp2_with fail
   exact⟨⟨1,rfl,HF2.out,.inr ⟨by omega,by omega,Z,3+(tp-fm),hd,_,b,l',x',t.s,rfl,rfl,HCO.out,HRES2.out,HFT.out,HBV2.out,fun _=>rfl⟩⟩,by simp[intOf]⟩
  ·obtain⟨Z,n,hd,bv,b,l',x',s',rfl,rfl,hch,hres,hft,hbv,hn1⟩:=hbest
   have HCO:=Hd hch
   have HRES:=Hd hres
   have HFT:=Hd hft
   have HBV:=Hd hbv
   clear hch hres hft hbv
   rcases(show i=1∨i=2 by omega) with rfl|rfl
   ·have HN:=Hd (hn1 rfl)
    have hnb:n≤65539:=by have:=hn1 rfl;omega
    clear hn1
    go_wp2_with fail
    refine(HTRY.out _ HFR.out).mono ?_
    rintro e w1 ⟨hf1,rfl|⟨hmode,Z2,bv2,l2,ys,rfl,hres2,hZ2,hft2,hmine,hleg,hst,h64⟩⟩
    ·have HF1:=Hd (HFR.out.trans hf1)
     have HRES1:=Hd (HRES.out.keep hf1)
     clear hf1
     go_wp2_with fail
     exact⟨⟨2,rfl,HF1.out,.inr ⟨by omega,by omega,Z,n,hd,bv,b,l',x',s',rfl,rfl,HCO.out,HRES1.out,HFT.out,HBV.out,fun h=>absurd h (by decide)⟩⟩,by simp[intOf]⟩
    ·have hhd:=headP_ok t cf (tp-fm) ((t.from' cf.pr).putAll ys).e.k.bytes.length hq (by omega) u3 (bytes_pos _) h64
     have hch2:=fun hle=>(show Chosen t cf data fm tp (t.headP cf.pr (tp-fm) ((t.from' cf.pr).putAll ys).e.k.bytes.length) ((t.from' cf.pr).putAll ys).e.k.bytes ((t.from' cf.pr).putAll ys).cut ((t.from' cf.pr).putAll ys).c.s from .inr ⟨hmode,ys,rfl,rfl,rfl,rfl,hleg,hst,h64,hle⟩)
     generalize hdd:t.headP cf.pr (tp-fm) ((t.from' cf.pr).putAll ys).e.k.bytes.length=hd2 at*
     generalize hbb:((t.from' cf.pr).putAll ys).e.k.bytes=b2 at*
     generalize((t.from' cf.pr).putAll ys).cut=x2 at*
     generalize((t.from' cf.pr).putAll ys).c.s=s2 at*
     have hbx:=hres2.box
     unfold resCells at hbx
     obtain⟨r0,r1,r2,r3,r4,r5⟩:=cs6 hbx rfl rfl rfl rfl rfl rfl
     obtain⟨bp,bc,rfl,_⟩:=hres2.rd
     have HF1:=Hd (HFR.out.trans hf1)
     have HR1:=Hd (HRES.out.keep hf1)
     have HR2:=Hd hres2
     have HC2:=Hd hch2
     have HHD:=Hd hhd
     have HFT2:=Hd (show∀j,XFoot l2 j→w.heap.size≤j from fun j hj=>Nat.le_trans HFR.out.size (hft2 j hj))
     have HBV2:=Hd (show∀j,(Value.slice bp b2.length bc).ownBlock=some j→dv.ownBlock=some j∨w.heap.size≤j from fun j hj=>.inr (Nat.le_trans HFR.out.size (hmine.new j hj)))
     clear hf1 hres2 hbx hch2 hhd hft2 hmine hleg hst hdd hbb
     go_wp2_with fail
     refine(HHD.out.put _).mono ?_
     rintro e w2 ⟨hf2,hv,rfl,hm2⟩
     obtain⟨hp,hc,rfl⟩:=hm2.slice
     have hbx:=hf2.keep HR2.out.box (fun h=>h)
     unfold resCells at hbx
     clear r0 r1 r2 r3 r4 r5
     have r6:=cell_in (i:=6) hbx rfl
     have hl6:=head_n hd2
     obtain⟨nh,hnh⟩:∃nh,(headB hd2).length=nh:=⟨_,rfl⟩
     obtain⟨m2,hm2e⟩:∃m2,b2.length=m2:=⟨_,rfl⟩
     rw[hnh] at hl6 ⊢
     rw[hm2e] at r6 h64 HBV2
     have HNH:=Hd hnh
     have HM2:=Hd hm2e
     have HF2:=Hd (HF1.out.trans hf2)
     have HRES1:=Hd (HR1.out.keep hf2)
     have HRES2:=Hd (HR2.out.keep hf2)
     rw[hm2e] at HRES2
     clear hf2 hm2 hbx hnh hm2e HR1 HR2
     by_cases hlt:(nh:Int)+(m2:Int)<(n:Int)
     ·go_wp2_with fail
      exact⟨⟨2,rfl,HF2.out,.inr ⟨by omega,by omega,Z2,nh+m2,hd2,_,b2,l2,x2,s2,rfl,rfl,HC2.out (by rw[HNH.out,HM2.out];have:=HN.out;omega),HRES2.out,HFT2.out,HBV2.out,fun h=>absurd h (by decide)⟩⟩,by simp[intOf]⟩
     ·go_wp2_with fail
      exact⟨⟨2,rfl,HF2.out,.inr ⟨by omega,by omega,Z,n,hd,bv,b,l',x',s',rfl,rfl,HCO.out,HRES1.out,HFT.out,HBV.out,fun h=>absurd h (by decide)⟩⟩,by simp[intOf]⟩
   ·clear hn1
    obtain⟨t2,haf⟩:=HCO.out|>HCH.out hd b x' s'
    have hhd:=(HCO.out.head hq u2 u5 u3)
    have hbx:=HRES.out.box
    unfold resCells at hbx
    obtain⟨r0,r1,r2,r3,r4,r5⟩:=cs6 hbx rfl rfl rfl rfl rfl rfl
    have HAF:=Hd haf
    have HHD:=Hd hhd
    clear haf hhd hbx g0 g1
    go_wp2_with fail
    refine(HHD.out.put _).mono ?_
    rintro e w2 ⟨hf2,hv,rfl,hm2⟩
    obtain⟨hp,hc,rfl⟩:=hm2.slice
    have HF2:=Hd (HFR.out.trans hf2)
    have HM2:=Hd hm2
    have HRES2:=Hd (HRES.out.keep hf2)
    have HH2:=Hd (HH.out.keep HF2.out)
    have hkb:=HH2.out.box
    unfold pkCells at hkb
    have c15:=cell_in (i:=15) hkb rfl
    have hbx:=HRES2.out.box
    unfold resCells at hbx
    have r6:=cell_in (i:=6) hbx rfl
    clear r0 r1 r2 r3 r4 r5 hf2 hm2 hkb hbx
    have hs2:=HF2.out.size
    have hov:∀k,ov.ownBlock=some k→k<w.heap.size:=HH.out.out.lt
    have hlb:b.length≤1099511627776:=by
     obtain⟨q1,q2,q3,q4,q5⟩:=HRES.out.rd
     rcases HCO.out with⟨_,e,_⟩|⟨_,_,_,_,_,_,_,_,e,_⟩
     ·rw[e,List.length_take];omega
     ·omega
    have hlh:=head_n hd
    have HOV:=Hd hov
    have HD:=Hd (R0 w2).drew
    have HA0:=Hd (show Acc w0 w2.drew ov (t.out cf.dict) from⟨(hF0.trans HF2.out).drew,HH2.out.out.own,HH2.out.out.new⟩)
    have HRD1:=Hd (HM2.out.rd.keep HD.out)
    have HR3:=Hd (HRES2.out.keep HD.out)
    have HK3:=Hd (HD.out.keep HH2.out.box (fun h=>h))
    have HOFF:=Hd (show∀k,ov.ownBlock=some k→¬XFoot l' k from fun k hk e=>by have:=HOV.out k hk;have:=HFT.out k e;omega)
    have HBL:=Hd (show∀k,bv.ownBlock=some k→k<w2.heap.size from fun k hk=>by
     have h0:0<b.length:=by
      rcases HCO.out with⟨_,e,_⟩|⟨_,ys,_,e,_⟩
      ·rw[e,List.length_take,List.length_drop];omega
      ·rw[e];exact bytes_pos _
     exact Ps.rdlt HRES2.out.rd h0 k hk)
    have HNB:=Hd (show∀k,bv.ownBlock=some k→ov.ownBlock≠some k from fun k hk e=>by
     rcases HBV.out k hk with h|h
     ·have:=hdv k h
      have:=HH.out.out.new k e
      omega
     ·have:=HOV.out k e
      omega)
    have HKW:=Hd (lt_of_block HH.out.box)
    go_upto_region 14 with fail
    go_cut [8] (fun s8 wx=>s8=ptr Z∧∃(p5:Option Addr)(n5 cap5:Nat),wx.heap[KB]? =some (.cells (pkCells cf dv l.D t.s (.slice p5 n5 cap5) t.begun t.packed t.props) 87 (0,0))∧ResAt wx Z hd bv b l' x' s'∧Mine w0 wx (.slice p5 n5 cap5) (t.out cf.dict++headB hd++b)∧Fr (fun k=>k=KB∨ov.ownBlock=some k) w wx∧∀k,(Value.slice p5 n5 cap5).ownBlock=some k→ov.ownBlock=some k∨w.heap.size≤k)
    case first=>
     go_region_law (first
      | (refine step_bytesN rfl _ _ rfl (w0:=w0) ov (.slice hp (headB hd).length hc) (t.out cf.dict) (headB hd) (by simp [Act.eval,Act.put]) (by simp [Act.eval,Act.put]) HA0.out HRD1.out (by omega) ?_
         intro p2 cap2 n2 w3 hn2 hA2 hfr2 hnw2
         have hR4:=HR3.out.beside (w0:=w0) ⟨HA0.out.own,HA0.out.new⟩ HOFF.out HNB.out hfr2
         have hK4:=hfr2.keep HK3.out (fun e=>by
          obtain⟨cur,hc⟩:=Lz.own_block HA0.out.own e
          exact Ps.neOf HK3.out hc (by decide) rfl)
         have hbx:=hR4.box
         unfold resCells at hbx
         have d6:=cell_in (i:=6) hbx rfl
         have HA2:=Hd hA2
         have HN2:=Hd hn2
         have HFR2:=Hd hfr2
         have HR4:=Hd hR4
         have HK4:=Hd hK4
         have hoff2:∀k,(Value.slice p2 n2 cap2).ownBlock=some k→¬XFoot l' k∧bv.ownBlock≠some k:=fun k hk=>by
          rcases hnw2 k hk with e|e
          ·exact⟨HOFF.out k e,fun h=>HNB.out k h e⟩
          ·refine⟨fun h=> ?_,fun h=> ?_⟩
           ·have:=xlt HR3.out.xe k h
            omega
           ·have:=HBL.out k h
            rw[World.size_drew] at e
            omega
         have HO2:=Hd hoff2
         have HW2:=Hd hnw2
         clear hR4 hK4 hbx hA2 hn2 hfr2 hoff2 hnw2)
      | (refine step_bytesN rfl _ _ rfl (w0:=w0) (.slice p2 n2 cap2) bv (t.out cf.dict ++ headB hd) b (by simp [Act.eval,Act.put]) (by simp [Act.eval,Act.put]) HA2.out HR4.out.rd (by rw [List.length_append]; omega) ?_
         intro p5 cap5 n5 w4 hn5 hA5 hfr5 hnw5
         have hR6:=HR4.out.beside (w0:=w0) ⟨HA2.out.own,HA2.out.new⟩ (fun k hk=>(HO2.out k hk).1) (fun k hk e=>(HO2.out k e).2 hk) hfr5
         have hK6:=hfr5.keep HK4.out (fun e=>by
          obtain⟨cur,hc⟩:=Lz.own_block HA2.out.own e
          exact Ps.neOf HK4.out hc (by decide) rfl)
         have hkb6:=hK6
         unfold pkCells at hkb6
         have q15:=cell_in (i:=15) hkb6 rfl
         have qf:=frozen_in hkb6 15
         have HA5:=Hd hA5
         have HFR5:=Hd hfr5
         have HR6:=Hd hR6
         have HK6:=Hd hK6
         have HW5:=Hd hnw5
         clear hR6 hK6 hkb6 hA5 hn5 hfr5 hnw5))
     all_goals go_wp2_with fail
     all_goals go_meet
     all_goals
      have hfk:=Fr.one w4 KB 15 (.slice p5 n5 cap5)
      refine⟨rfl,p5,n5,cap5,?_,HR6.out.aside HK6.out (fun k hk e=> ?_) hfk,⟨own_step HA5.out.own hfk (fun k hk e=> ?_),HA5.out.new⟩,?_,fun k hk=> ?_⟩
      ·rw[set_in HK6.out]
       rfl
      ·rcases HBV.out k hk with h|h
       ·have:=hdv k h
        omega
       ·have:=HKW.out
        omega
      ·subst e
       obtain⟨cur,hc⟩:=Lz.own_block HA5.out.own hk
       exact Ps.neOf HK6.out hc (by decide) rfl
      ·have f1:Fr (fun k=>k=KB∨ov.ownBlock=some k) w w2.drew:=HF2.out.drew.mono (fun _ _ h=>h.elim)
       have f2:=f1.trans (HFR2.out.mono (fun _ _ h=>.inr h))
       have f3:=f2.trans' HFR5.out (fun k hk e=>by
        rcases HW2.out k e with e|e
        ·exact .inr e
        ·exfalso
         rw[World.size_drew] at e
         omega)
       exact f3.trans (hfk.mono (fun _ _ h=>.inl h))
      ·rcases HW5.out k hk with e|e
       ·rcases HW2.out k e with e|e
        ·exact .inl e
        ·rw[World.size_drew] at e
         exact .inr (by omega)
       ·have:=HFR2.out.size
        rw[World.size_drew] at this
        exact .inr (by omega)
    case rest=>
     obtain⟨rfl,p5,n5,cap5,hkb,hres,hmine,hfr5,hnew5⟩:=hcut
     have HK7:=Hd hkb
     have HRES7:=Hd hres
     have HM7:=Hd hmine
     have HF7:=Hd hfr5
     have HN7:=Hd hnew5
     obtain⟨bp',bc',rfl,_⟩:=hres.rd
     have hne:¬Z=KB:=Ps.neOf hres.box hkb (by decide)
     have HS:=Hd (show∀w':World,Fr (fun k=>k=KB) wc w'→w'.heap[Z]? =some (.cells (resCells hd (.slice bp' b.length bc') l'.D s') 155 (0,0)) from fun w' hf=>hf.keep HRES7.out.box hne)
     have HSC:=Hd (show∀w':World,Fr (fun k=>k=KB) wc w'→w'.cell? ⟨Z,7,none⟩=some (ptr l'.D)∧w'.cell? ⟨Z,8,none⟩=some (.int .i64 s'.num)∧w'.cell? ⟨Z,9,none⟩=some (.int .i64 s'.r0)∧w'.cell? ⟨Z,10,none⟩=some (.int .i64 s'.r1)∧w'.cell? ⟨Z,11,none⟩=some (.int .i64 s'.r2)∧w'.cell? ⟨Z,12,none⟩=some (.int .i64 s'.r3) from fun w' hf=>
      have h:=HS.out w' hf
      ⟨cell_in (i:=7) h rfl,cell_in (i:=8) h rfl,cell_in (i:=9) h rfl,cell_in (i:=10) h rfl,cell_in (i:=11) h rfl,cell_in (i:=12) h rfl⟩)
     have HR:=Hd ((Fr.refl (fun k=>k=KB) wc).drew)
     obtain⟨e7,e8,e9,e10,e11,e12⟩:=HSC.out wc (Fr.refl _ _)
     obtain⟨s7,s8,s9,s10,s11,s12⟩:=HSC.out wc.drew HR.out
     unfold pkCells at hkb
     have y9:=cell_in (i:=9) hkb rfl
     have y10:=cell_in (i:=10) hkb rfl
     have y11:=cell_in (i:=11) hkb rfl
     have y12:=cell_in (i:=12) hkb rfl
     have y13:=cell_in (i:=13) hkb rfl
     have y14:=cell_in (i:=14) hkb rfl
     have yf:=fun i=>frozen_in hkb i
     clear hkb hres hmine hfr5 hnew5
     go_wp2_with fail
     clear HSC
     go_region
     have HF8:=Hd (eightP_fr wc KB l'.D s')
     have HK8:=Hd (eightP_in (D':=l'.D) (s:=s') HK7.out)
     clear e7 e8 e9 e10 e11 e12 s7 s8 s9 s10 s11 s12 y9 y10 y11 y12 y13 y14 yf HR
     rw[←eightP_eq]
     have HRES8:=Hd (HRES7.out.aside HK7.out (fun k hk e=>by
      rcases HBV.out k hk with h|h
      ·have:=hdv k h
       omega
      ·have:=HKW.out
       omega) HF8.out)
     have HM8:=Hd (show Mine w0 (eightP wc KB l'.D s') (.slice p5 n5 cap5) (t.out cf.dict++headB hd++b) from⟨own_step HM7.out.own HF8.out (fun k hk e=>by
      subst e
      obtain⟨cur,hc⟩:=Lz.own_block HM7.out.own hk
      exact Ps.neOf HK7.out hc (by decide) rfl),HM7.out.new⟩)
     generalize eightP wc KB l'.D s'=W8 at*
     have hK8:=HK8.out
     unfold pkCells at hK8
     have hrb:=HS.out W8 HF8.out
     unfold resCells at hrb
     have r0:=cell_in (i:=0) hrb rfl
     have k16:=cell_in (i:=16) hK8 rfl
     have k17:=cell_in (i:=17) hK8 rfl
     have k18:=cell_in (i:=18) hK8 rfl
     have kf:=fun i=>frozen_in hK8 i
     have hne2:¬KB=Z:=fun h=>hne h.symm
     clear hK8 hrb
     obtain⟨kd,hkd⟩:∃kd,hd.kind=kd:=⟨_,rfl⟩
     rw[hkd] at r0
     have HKD:=Hd hkd
     clear hkd
     obtain⟨tb,htb⟩:∃tb,t.props=tb:=⟨_,rfl⟩
     rw[htb] at k18
     have HTB:=Hd htb
     clear htb
     cases tb
     ·go_wp2_with fail
      go_end0
      exact write_fin _ HAF.out HK8.out HRES8.out HM8.out (HF7.out.trans (HF8.out.mono (fun _ _ h=>.inl h))) HH.out.rd hdv hKB HH.out.out.new HN7.out HKD.out (by rw[HTB.out,Bool.false_or];exact decide_eq_decide.2 (by omega))
     ·go_wp2_with fail
      go_end0
      exact write_fin _ HAF.out HK8.out HRES8.out HM8.out (HF7.out.trans (HF8.out.mono (fun _ _ h=>.inl h))) HH.out.rd hdv hKB HH.out.out.new HN7.out HKD.out (by rw[HTB.out,Bool.true_or])
end Pk
end Go.Proofs.YtffoddpjfgjelaaGreatDoor
