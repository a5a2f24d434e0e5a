/- Part 48 of 53: lemmas of the last part, each under the conditions that it names. -/
import Derived.Deep.LoopGhost
import Derived.Test.YtilegoadokmcdaaGreatDoorP31
import Derived.Test.YtilegoadokmcdaaGreatDoorP47
set_option linter.unusedVariables false
set_option linter.unusedSimpArgs false
set_option maxRecDepth 1500
set_option maxHeartbeats 8000000
namespace Go.Proofs.YtilegoadokmcdaaGreatDoor
open Go.RowKit
namespace Rf
open Mem Rc Prob St Win Ck Wire Lz Ga
def RowPost(w:World)(res:Except (Nat×Nat) (Nat×XS))(e:Ending)(w':World):Prop:=
 Fr (fun _=>False) w w'∧match res with
  |.error (p,er)=>er≠0∧e=.returned (.agg #[nilS,nilS,nilS,.int .i64 er,.int .i64 p])
  |.ok (n,x)=>∃hv sv dv,e=.returned (.agg #[hv,sv,dv,.int .i64 0,.int .i64 n])∧Cc.Heads w w' hv x.hs∧RowsY w w' sv x.sy∧Mine w w' dv x.u.out
def RowBare(w:World)(res:Except (Nat×Nat) (Nat×List Head))(e:Ending)(w':World):Prop:=
 Fr (fun _=>False) w w'∧match res with
  |.error (p,er)=>er≠0∧e=.returned (.agg #[nilS,nilS,nilS,.int .i64 er,.int .i64 p])
  |.ok (n,hs)=>∃hv sv dv,e=.returned (.agg #[hv,sv,dv,.int .i64 0,.int .i64 n])∧Cc.Heads w w' hv hs∧(∃p n c,sv=.slice p n c)∧∃p n c,dv=.slice p n c
theorem Rw.done{w wr w':World}{Tb Zb Rb:Nat}{l:RL}{hv sv dv fv:Value}{packed size:Int}{c:C}{ps:Nat→List Nat}{hs:List Head}{sy:List (List Sy)}{out:List UInt8}{bs:List Nat}(h:Rw w wr Tb Zb Rb l hv sv dv fv packed size c ps hs sy out bs)(hfr:Fr (fun k=>k=Zb∨k=Rb) wr w'):Cc.Heads w w' hv hs∧RowsY w w' sv sy∧Mine w w' dv out∧Fr (fun _=>False) w w':=by
 have hne:∀{k:Nat}{cs:Array Value}{t:TypeId}{fr:Nat×Nat},wr.heap[k]? =some (.cells cs t fr)→t≠56→¬(k=Zb∨k=Rb):=by
  rintro k cs t fr hk ht (he|he)
  ·exact blk_ne hk h.zb ht he
  ·exact blk_ne hk h.rb ht he
 refine⟨Own.step h.heads hfr (fun k hk=> ?_),h.rows.step hfr (fun k cs t fr hk ht=>hne hk (by rcases ht with⟨rfl,_⟩|rfl<;>decide)),h.data.step hfr (fun k hk=> ?_),h.fr.trans' hfr (fun k hk he=> ?_)⟩
 ·obtain⟨cur,hc⟩:=Own.block h.heads hk
  exact hne hc (by decide)
 ·obtain⟨cur,hc⟩:=own_block h.data.own hk
  exact hne hc (by decide)
 ·have:=h.lows
  omega
theorem Rw.zfr{w wr w':World}{Tb Zb Rb:Nat}{l:RL}{hv sv dv fv:Value}{packed size:Int}{c:C}{ps:Nat→List Nat}{hs:List Head}{sy:List (List Sy)}{out:List UInt8}{bs:List Nat}(h:Rw w wr Tb Zb Rb l hv sv dv fv packed size c ps hs sy out bs)(hfr:Fr (fun k=>k=Zb) wr w'):Fr (fun _=>False) w w':=(h.done (hfr.mono (fun _ _ e=>.inl e))).2.2.2
theorem heads_put{w w5 w6:World}{Tb Zb Rb:Nat}{l:RL}{hv sv dv fv v6:Value}{packed size:Int}{c:C}{ps:Nat→List Nat}{hs:List Head}{sy:List (List Sy)}{out:List UInt8}{bs:List Nat}{h:Head}{xs:List Value}(hM:Rw w w5 Tb Zb Rb l hv sv dv fv packed size c ps hs sy out bs)(hO:Own 52 6 w w6 v6 (hs.length+1) xs)(hx:Cc.hcs (hs++[h])=xs)(hf:Fr (fun k=>hv.ownBlock=some k) w5 w6):Rw w (w6.setCell ⟨Rb,0,none⟩ v6) Tb Zb Rb l v6 sv dv fv packed size c ps (hs++[h]) sy out bs:=
 hM.headed (by unfold Cc.Heads;rw[hx,List.length_append];exact hO) hf
theorem zc_put{w w5 w6:World}{Tb Zb Rb zc:Nat}{l:RL}{hv sv dv fv v6:Value}{packed size:Int}{c:C}{ps:Nat→List Nat}{hs:List Head}{sy:List (List Sy)}{out:List UInt8}{bs:List Nat}{cs:Array Value}(hM:Rw w w5 Tb Zb Rb l hv sv dv fv packed size c ps hs sy out bs)(hz:w5.heap[zc]? =some (.cells cs 52 (0,0)))(hl:∀k,hv.ownBlock=some k→k<zc)(hf:Fr (fun k=>hv.ownBlock=some k) w5 w6):(w6.setCell ⟨Rb,0,none⟩ v6).heap[zc]? =some (.cells cs 52 (0,0)):=by
 have h6:=hf.keep hz (fun e=>Nat.lt_irrefl _ (hl zc e))
 have hr6:=hf.keep hM.rb (Own.off hM.heads hM.rb (by decide))
 exact(Fr.one w6 Rb 0 v6).keep h6 (fun e=>blk_ne h6 hr6 (by decide) e)
theorem int_put(w6:World)(Rb:Nat)(v:Value)(kd:Nat):Fr (fun _=>False) (w6.setCell ⟨Rb,0,none⟩ v) ((w6.setCell ⟨Rb,0,none⟩ v).alloc (.cells #[.int .i64 (kd:Int)] 3))∧((w6.setCell ⟨Rb,0,none⟩ v).alloc (.cells #[.int .i64 (kd:Int)] 3)).heap[w6.heap.size]? =some (.cells #[.int .i64 (kd:Int)] 3 (0,0)):=by
 have h:=heap_alloc_new (w6.setCell ⟨Rb,0,none⟩ v) (.cells #[.int .i64 (kd:Int)] 3)
 have hs:(w6.setCell ⟨Rb,0,none⟩ v).heap.size=w6.heap.size:=by simp
 rw[hs] at h
 exact⟨(Fr.refl _ _).alloc _,h⟩
theorem int_one(kd:Nat):∀u ∈ (#[.int .i64 (kd:Int)]:Array Value).toList,u.oneCell'=true:=by
 intro u hu
 simp only[List.mem_cons,List.not_mem_nil,or_false] at hu
 rw[hu]
 rfl
theorem Rw.after{w wr w':World}{Tb Zb Rb:Nat}{l:RL}{hv sv dv fv:Value}{packed size:Int}{c:C}{ps:Nat→List Nat}{hs:List Head}{sy:List (List Sy)}{out:List UInt8}{bs:List Nat}(h:Rw w wr Tb Zb Rb l hv sv dv fv packed size c ps hs sy out bs)(hfr:Fr l.DF wr w'):w'.heap[Zb]? =some (.cells #[nilS,nilS,nilS,.int .i64 0,.int .i64 0] 56 (0,0))∧Fr (fun _=>False) w w'∧w.heap.size≤Zb:=
 ⟨hfr.keep h.zb (h.dcd.off h.zb (by decide)),h.fr.trans' hfr (fun k hk he=>by have:=h.low k he;omega),h.lows.2.1⟩
section
variable {w w5 w6:World}{Tb Zb Rb zc:Nat}{l:RL}{hv sv dv fv v:Value}{packed size:Int}{c:C}{ps:Nat→List Nat}{hs:List Head}{sy:List (List Sy)}{out:List UInt8}{bs:List Nat}{cs:Array Value}
theorem data_off(hM:Rw w w5 Tb Zb Rb l hv sv dv fv packed size c ps hs sy out bs){k:Nat}{cs:Array Value}{t:TypeId}{fr:Nat×Nat}(hk:w5.heap[k]? =some (.cells cs t fr))(ht:t≠5):¬dv.ownBlock=some k:=by
 intro he
 obtain⟨cur,hc⟩:=own_block hM.data.own he
 exact blk_ne hk hc ht rfl
theorem put_at(hr:w6.heap[Rb]? =some (.cells #[hv,sv,dv,.int .i64 0,.int .i64 0] 56 (0,0))){k i:Nat}{cs:Array Value}{t:TypeId}{fr:Nat×Nat}(hk:w6.heap[k]? =some (.cells cs t fr))(ht:t≠56):(w6.setCell ⟨Rb,i,none⟩ v).heap[k]? =some (.cells cs t fr):=
 (Fr.one w6 Rb i v).keep hk (fun e=>blk_ne hk hr ht e)
theorem data_zc(hM:Rw w w5 Tb Zb Rb l hv sv dv fv packed size c ps hs sy out bs)(hz:w5.heap[zc]? =some (.cells cs 52 (0,0)))(hf:Fr (fun k=>dv.ownBlock=some k) w5 w6):(w6.setCell ⟨Rb,2,none⟩ v).heap[zc]? =some (.cells cs 52 (0,0)):=
 put_at (hf.keep hM.rb (data_off hM hM.rb (by decide))) (hf.keep hz (data_off hM hz (by decide))) (by decide)
theorem data_rows{hi:Nat}(hM:Rw w w5 Tb Zb Rb l hv sv dv fv packed size c ps hs sy out bs)(hB:Cs.RowsB w w5 sv sy hi)(hf:Fr (fun k=>dv.ownBlock=some k) w5 w6):Cs.RowsB w (w6.setCell ⟨Rb,2,none⟩ v) sv sy hi:=
 (hB.step hf (fun k cs t fr hk ht=>data_off hM hk (by rcases ht with⟨rfl,_⟩|rfl<;>decide))).step (Fr.one w6 Rb 2 v) (fun k cs t fr hk ht e=>blk_ne hk (hf.keep hM.rb (data_off hM hM.rb (by decide))) (by rcases ht with⟨rfl,_⟩|rfl<;>decide) e)
theorem data_syms{lv:Value}{ls:List Sy}(hM:Rw w w5 Tb Zb Rb l hv sv dv fv packed size c ps hs sy out bs)(hB:Syms w w5 lv ls)(hf:Fr (fun k=>dv.ownBlock=some k) w5 w6):Syms w (w6.setCell ⟨Rb,2,none⟩ v) lv ls:=by
 have h1:=hB.step hf (fun k hk=>by obtain⟨cur,hc⟩:=own_block hB.own hk;exact data_off hM hc (by decide))
 exact h1.step (Fr.one w6 Rb 2 v) (fun k hk e=>by
  obtain⟨cur,hc⟩:=own_block h1.own hk
  exact blk_ne hc (hf.keep hM.rb (data_off hM hM.rb (by decide))) (by decide) e)
theorem row_off(hM:Rw w w5 Tb Zb Rb l hv sv dv fv packed size c ps hs sy out bs){k:Nat}{cs:Array Value}{t:TypeId}{fr:Nat×Nat}(hk:w5.heap[k]? =some (.cells cs t fr))(ht:t≠53):¬sv.ownBlock=some k:=by
 intro he
 obtain⟨cur,hc⟩:=hM.rows.block he
 exact blk_ne hk hc ht rfl
theorem row_zc(hM:Rw w w5 Tb Zb Rb l hv sv dv fv packed size c ps hs sy out bs)(hz:w5.heap[zc]? =some (.cells cs 52 (0,0)))(hf:Fr (fun k=>sv.ownBlock=some k) w5 w6):(w6.setCell ⟨Rb,1,none⟩ v).heap[zc]? =some (.cells cs 52 (0,0)):=
 put_at (hf.keep hM.rb (row_off hM hM.rb (by decide))) (hf.keep hz (row_off hM hz (by decide))) (by decide)
end
theorem row_one(p:Option Addr)(n cap:Nat):∀u ∈ (#[.slice p n cap]:Array Value).toList,u.oneCell'=true:=by
 intro u hu
 simp only[List.mem_cons,List.not_mem_nil,or_false] at hu
 rw[hu]
 rfl
theorem take_len'{c c2:C}{ps ps2:Nat→List Nat}{part outs:List UInt8}{ls:List Sy}{n:Nat}(h:takeAll c ps part n=some (ls,outs,c2,ps2))(hy:∀d,Rc.init part=.ok d→Y.Ok c.lc c.lp ⟨d,false,ps⟩):outs.length=n∧c2.all.length=c.all.length+n:=Ck.take_len h hy
theorem ints_put{w w8 w9:World}{Tb Zb Rb:Nat}{l:RL}{hv sv dv fv v9:Value}{packed size:Int}{c:C}{ps:Nat→List Nat}{hs:List Head}{sy:List (List Sy)}{out:List UInt8}{bs:List Nat}{kd:Nat}(hM:Rw w w8 Tb Zb Rb l hv sv dv fv packed size c ps hs sy out bs)(hO:Own 3 1 w w9 v9 (bs.length+1) (ints bs++(#[.int .i64 (kd:Int)]:Array Value).toList))(hf:Fr (fun k=>fv.ownBlock=some k) w8 w9)(hn:∀k,v9.ownBlock=some k→fv.ownBlock=some k∨w8.heap.size≤k):Rw w w9 Tb Zb Rb l hv sv dv v9 packed size c ps hs sy out (bs++[kd]):=
 hM.befd (by rw[List.length_append];unfold ints at*;rw[List.map_append];exact hO) hf hn
structure FwF(b:List UInt8)(packed size:Int)(w:World)(Tb Zb Rb X:Nat)(f0:Nat)(x0:XS)(f:Nat)(wr:World)(fv:Value)(s:Sr)(x:XS)(l:RL)(hv sv dv:Value)(bs:List Nat):Prop where
 go:readG XS.step b packed size f0 ⟨0,0,0⟩ x0=readG XS.step b packed size f s x
 fuel:b.length-s.at'<f
 le:s.at'≤b.length
 now:s.now<3
 scan:Rf.scan bs=(decide (s.now≠0),decide (s.now=2))
 bs6:∀y ∈ bs,1≤y∧y≤6
 bsl:bs.length≤s.at'
 mem:Rw w wr Tb Zb Rb l hv sv dv fv packed size x.u.c x.u.ps x.hs x.sy x.u.out bs
 lX:l.X=X
 pr:x.u.pr=(x.u.c.lc,x.u.c.lp,x.u.c.pb)
 bp:s.plain≤2097152*s.at'
 ba:x.u.c.all.length≤2097152*s.at'
 bo:x.u.out.length≤2097152*s.at'
 bh:x.hs.length≤s.at'
 bsy:x.sy.length≤s.at'
set_option maxRecDepth 100000 in
theorem rrow_full(b:List UInt8)(bv:Value)(dict:Nat)(packed size:Int)(w:World)(hr:Rd w bv b)(hb:b.length≤4194304)(hd1:1≤dict)(hd2:dict≤4294967295)(hp:packed≤9223372036854775807)(hs:size≤9223372036854775807):
    Calls Tryz.prog 18 #[bv,.int .i64 dict,.agg #[.int .i64 packed,.int .i64 size],.bool false] w (RowPost w (readG XS.step b packed size (b.length+2) ⟨0,0,0⟩ ⟨US.start dict,[],[]⟩)):=by
  obtain⟨bp,cap,rfl,hc1,hc2,hc3⟩:=hr
  have hr:Rd w (.slice bp b.length cap) b:=⟨bp,cap,rfl,hc1,hc2,hc3⟩
  clear hc2 hc3
  have HR:=Hd hr
  clear hr
  obtain⟨post,hpost⟩:∃post:Ending→World→Prop,post=RowPost w (readG XS.step b packed size (b.length+2) ⟨0,0,0⟩ ⟨US.start dict,[],[]⟩):=⟨_,rfl⟩
  have HERR:=Hd (show∀(p er:Nat)(pi:Int)(wk:World),readG XS.step b packed size (b.length+2) ⟨0,0,0⟩ ⟨US.start dict,[],[]⟩=.error (p,er)→er≠0→pi=p→Fr (fun _=>False) w wk→post (.returned (.agg #[nilS,nilS,nilS,.int .i64 er,.int .i64 pi])) wk from fun p er pi wk h1 h2 h3 h4=>by
    rw[hpost,h1,h3]
    exact⟨h4,h2,rfl⟩)
  have HOKK:=Hd (show∀(n:Nat)(ni:Int)(x:XS)(hv sv dv:Value)(wk:World),readG XS.step b packed size (b.length+2) ⟨0,0,0⟩ ⟨US.start dict,[],[]⟩=.ok (n,x)→ni=n→Cc.Heads w wk hv x.hs∧RowsY w wk sv x.sy∧Mine w wk dv x.u.out∧Fr (fun _=>False) w wk→post (.returned (.agg #[hv,sv,dv,.int .i64 0,.int .i64 ni])) wk from fun n ni x hv sv dv wk h1 h2 h3=>by
    rw[hpost,h1,h2]
    exact⟨h3.2.2.2,hv,sv,dv,rfl,h3.1,h3.2.1,h3.2.2.1⟩)
  rw[←hpost]
  clear hpost
  have HN:=fun W=>Hd (new15_calls dict hd1 hd2 W)
  unfold propV at HN
  have hf1:=((Fr.refl (fun _=>False) w).alloc (.cells #[.int .i64 packed,.int .i64 size] 59)).alloc (.cells #[nilS,nilS,nilS,.int .i64 0,.int .i64 0] 56)
  have ht:=heap_alloc_new w (.cells #[.int .i64 packed,.int .i64 size] 59)
  have ht:=((Fr.refl (fun _=>False) (w.alloc (.cells #[.int .i64 packed,.int .i64 size] 59))).alloc (.cells #[nilS,nilS,nilS,.int .i64 0,.int .i64 0] 56)).keep ht (fun h=>h)
  have hx:=heap_alloc_new (w.alloc (.cells #[.int .i64 packed,.int .i64 size] 59)) (.cells #[nilS,nilS,nilS,.int .i64 0,.int .i64 0] 56)
  rw[World.size_alloc] at hx
  have hsz:w.heap.size+2≤((w.alloc (.cells #[.int .i64 packed,.int .i64 size] 59)).alloc (.cells #[nilS,nilS,nilS,.int .i64 0,.int .i64 0] 56)).heap.size:=by simp
  have HT:=Hd ht
  have HX:=Hd hx
  have HF1:=Hd hf1
  have HSZ:=Hd hsz
  clear ht hx hf1 hsz
  go_enter Tryz.func18,Tryz.ntmps18
  go_wp2_with fail
  generalize World.alloc (World.alloc w _) _=W at*
  generalize hTb:w.heap.size=Tb at*
  have HTb:=Hd hTb
  clear hTb
  refine(HN _).out.mono ?_
  rintro e w2 ⟨l,rfl,hf2,hd2',hl2⟩
  have hf3:=(Fr.refl (fun _=>False) w2).alloc (.cells #[nilS,nilS,nilS,.int .i64 0,.int .i64 0] 56)
  have hx3:=heap_alloc_new w2 (.cells #[nilS,nilS,nilS,.int .i64 0,.int .i64 0] 56)
  have hsw:=HSZ.out
  have hs2:=hf2.size
  have htb:=HTb.out
  have HM0:=Hd (show Rw w (w2.alloc (.cells #[nilS,nilS,nilS,.int .i64 0,.int .i64 0] 56)) Tb (Tb+1) w2.heap.size l nilS nilS nilS nilS packed size ⟨0,0,0,S.new,dict,[]⟩ (Lz.fresh 0 0) [] [] [] [] from
    ⟨hf3.keep (hf2.keep HT.out (fun h=>h)) (fun h=>h),hf3.keep (hf2.keep HX.out (fun h=>h)) (fun h=>h),hx3,Own.nil _ _ _ _,RowsY.nil _ _,Mine.nil _ _,Own.nil _ _ _ _,hd2'.keep hf3,(HF1.out.trans hf2).trans hf3,fun k hk=>by have:=hl2 k hk;omega,⟨by omega,by omega,by omega⟩,by omega,fun k hk=>by simp[Value.ownBlock] at hk,fun k hk=>by simp[Value.ownBlock] at hk⟩)
  generalize hX:l.X=X at*
  have HXX:=Hd hX
  clear hf2 hd2' hl2 hf3 hx3 hX hsw hs2 htb
  go_wp2_with fail
  generalize hW3:w2.alloc (.cells #[nilS,nilS,nilS,.int .i64 0,.int .i64 0] 56)=W3 at*
  generalize w2.heap.size=Rb at*
  clear hW3
  go_loopg [12,13,14] (b.length+2) (fun f bf ati made wr=>∃s x l hv sv dv bs,ati=.int .i64 (s.at':Int)∧made=.int .i64 (s.plain:Int)∧FwF b packed size w Tb (Tb+1) Rb X (b.length+2) ⟨US.start dict,[],[]⟩ f wr bf s x l hv sv dv bs)
  case atStart=>exact⟨⟨0,0,0⟩,⟨US.start dict,[],[]⟩,l,nilS,nilS,nilS,[],rfl,rfl,⟨rfl,by simp only;omega,Nat.zero_le _,by decide,rfl,fun y hy=>by simp at hy,by simp,HM0.out,HXX.out,rfl,by simp,by simp[US.start],by simp[US.start],by simp,by simp⟩⟩
  case round=>
    obtain⟨s,x,l1,hv,sv,dv,bs,rfl,rfl,hL⟩:=hrel
    have HL:=Hd hL
    have hle:=hL.le
    have hfu:=hL.fuel
    have hnow:=hL.now
    have hbp:=hL.bp
    have hbh:=hL.bh
    have hbsl:=hL.bsl
    have hbsy:=hL.bsy
    obtain⟨psv,csv,hsv⟩:=hL.mem.rows.slice
    obtain⟨pdv,cdv,hdv⟩:=hL.mem.data.slice
    have HSV:=Hd (And.intro hsv hdv)
    clear hsv hdv
    have hba:=hL.ba
    have hbo:=hL.bo
    obtain⟨f,rfl⟩:∃f,gk=f+1:=⟨gk-1,by omega⟩
    have HGO:=Hd ((hL.go.trans (Cc.readG_succ XS.step b packed size f s x)).trans (if_neg (by omega)))
    have HHD:=Hd (rhead_calls (.slice bp b.length cap) u12 b bs packed size s w wr (HR.out.keep hL.mem.fr) hL.mem.bef hL.bs6 (by omega) hnow hL.scan hb hle (by omega) hp hs)
    have ht:=hL.mem.told
    have t0:wr.cell? ⟨Tb,0,none⟩=some (.int .i64 packed):=cell_in ht rfl
    have t1:wr.cell? ⟨Tb,1,none⟩=some (.int .i64 size):=cell_in ht rfl
    clear ht hL
    have hnxh:=nextP_head b packed size s
    cases hh:headP b packed size s with
    |error er=>
      have her:=headP_err hh
      rw[hh] at HHD hnxh
      simp only at hnxh
      rw[hnxh] at HGO
      simp only[headR,Head.none,Head.cells] at HHD HGO
      have hne:((er:Int) !=0)=true:=by simp[her]
      have HER:=Hd her
      have HFC:=fun W=>Hd (faulty_calls er s.at' W)
      clear hh hnxh her
      go_wp2_with fail
      refine HHD.out.mono ?_
      rintro e w3 ⟨rfl,hf3⟩
      have HF3:=Hd hf3
      clear hf3 t0 t1
      go_wp2_with fail
      refine(HFC _).out.mono ?_
      rintro e w4 ⟨rfl,hf4⟩
      have HM4:=Hd (HL.out.mem.keep ((HF3.out.alloc _).trans hf4))
      clear hf4
      have hzb:=HM4.out.zb
      obtain⟨r0,r1,r2,r3,r4,rf⟩:=cf5 hzb rfl rfl rfl rfl rfl
      clear hzb
      go_wp2_with fail
      refine bodyPost_ret (v:=.agg #[nilS,nilS,nilS,.int .i64 er,.int .i64 (s.at':Int)]) (by simp[results,Tryz.results18,go_sem,r0,r1,r2,r3,r4]) rfl ?_
      exact HERR.out _ _ _ _ (HGO.out) HER.out rfl (HM4.out.zfr (five_fr _ (Tb+1) _ _ _ _ _))
    |ok r=>
      obtain⟨⟨kd,sz,pk,lc,lp,pb⟩,n,now⟩:=r
      have hok:=headP_ok hle hh
      have hend:=headP_end hh
      rw[hh] at HHD hnxh
      simp only at hnxh hend
      have hmv:=move_end ⟨s.now,hnow⟩
      have hsm:=fun hk=>scan_move ⟨s.now,hnow⟩ ⟨kd,hk⟩
      simp only at hmv hsm
      obtain⟨hn6,hnl,hn1,hk6,hnw,hmok,hszl,hpkl⟩:=hok
      simp only at hk6 hnw hmok hszl hpkl
      simp only[headR,Head.cells] at HHD
      have HNX:=Hd hnxh
      have HSM:=Hd hsm
      have HMV:=Hd hmv
      have HEND:=Hd hend
      have HNW:=Hd hnw
      have HMOK:=Hd hmok
      have HHH:=Hd hh
      have HHCS:=Hd (Cc.hcs_snoc x.hs ⟨kd,sz,pk,lc,lp,pb⟩)
      have HONE:=Hd (Cc.head_one ⟨kd,sz,pk,lc,lp,pb⟩)
      unfold Head.cells at HHCS HONE
      simp only at HHCS HONE
      clear hh hnxh hmv hsm hnw hmok hend
      go_wp2_with fail
      refine HHD.out.mono ?_
      rintro e w3 ⟨rfl,hf3⟩
      have hM3:=HL.out.mem.keep hf3
      have hf4:=(Fr.refl (fun _=>False) w3).alloc (.cells #[.int .i64 kd,.int .i64 sz,.int .i64 pk,.int .i64 lc,.int .i64 lp,.int .i64 pb] 52)
      have hz4:=heap_alloc_new w3 (.cells #[.int .i64 kd,.int .i64 sz,.int .i64 pk,.int .i64 lc,.int .i64 lp,.int .i64 pb] 52)
      have hM4:=hM3.keep hf4
      have hhl:=fun k hk=>Own.lt hM3.heads k hk
      clear t0 t1 hf3
      go_upto_region 9 with fail
      generalize hzz:w3.heap.size=zc at*
      generalize hw4:w3.alloc (.cells #[.int .i64 kd,.int .i64 sz,.int .i64 pk,.int .i64 lc,.int .i64 lp,.int .i64 pb] 52)=w4 at*
      have hf5:=(Fr.refl (fun _=>False) w4).alloc (.cells #[.int .i64 kd,.int .i64 sz,.int .i64 pk,.int .i64 lc,.int .i64 lp,.int .i64 pb] 52)
      have hx5:=heap_alloc_new w4 (.cells #[.int .i64 kd,.int .i64 sz,.int .i64 pk,.int .i64 lc,.int .i64 lp,.int .i64 pb] 52)
      have HX5:=Hd hx5
      have HM5:=Hd (hM4.keep hf5)
      have HZ5:=Hd (hf5.keep hz4 (fun h=>h))
      have HHL:=Hd hhl
      obtain⟨x0,x1,x2,x3,x4,x5⟩:=cs6 hz4 rfl rfl rfl rfl rfl rfl
      have b0:w4.cell? ⟨Rb,0,none⟩=some hv:=cell_in hM4.rb rfl
      have hbs:=hM4.bef.slice
      clear hf4 hz4 hM4 hM3 hf5 hx5 hhl hw4 hzz hbs
      have tok1:True:=trivial
      go_upto_region 11 with(first
        | (at_builtin
           have _t:=tok1
           refine append_own rfl _ _ rfl Tryz.underlying33 infoChunk rfl (by decide) (by decide) (w0:=w) hv (Cc.hcs x.hs) _ _ rfl rfl HM5.out.heads HM5.out.fr.size HX5.out rfl HONE.out (by omega) ?_
           intro v6 w6 hO6 hf6 hn6'
           obtain⟨p6,cap6,rfl⟩:=hO6.slice
           have HM7:=Hd (heads_put HM5.out hO6 HHCS.out hf6)
           have HZ7:=Hd (zc_put (v6:=.slice p6 (x.hs.length+1) cap6) HM5.out HZ5.out HHL.out hf6)
           have hb7:=hf6.keep HM5.out.rb (Own.off HM5.out.heads HM5.out.rb (by decide))
           have hx6:=hf6.keep HZ5.out (fun e=>Nat.lt_irrefl _ (HHL.out zc e))
           have c0:=cell_in (i:=0) hb7 rfl
           have cf:=fun i=>frozen_in hb7 i
           have x0:=cell_in (i:=0) HZ7.out rfl
           have zne:zc≠Rb:=fun e=>blk_ne hx6 hb7 (by decide) e
           have HX8:=Hd (int_put w6 Rb (.slice p6 (x.hs.length+1) cap6) kd)
           clear hO6 hf6 hn6' hb7 hx6 b0 tok1
           have tok2:True:=trivial)
        | (at_builtin
           have _t:=tok2
           refine append_own rfl _ _ rfl Tryz.underlying79 Ga.infoInt rfl (by decide) (by decide) (w0:=w) u12 (ints bs) _ _ rfl rfl (HM7.out.keep HX8.out.1).bef (HM7.out.keep HX8.out.1).fr.size HX8.out.2 rfl (int_one kd) (by omega) ?_
           intro v9 w9 hO9 hf9 hn9
           have HM9:=Hd (ints_put (HM7.out.keep HX8.out.1) hO9 hf9 hn9)
           have HZ9:=Hd (hf9.keep (HX8.out.1.keep HZ7.out (fun h=>h)) ((HM7.out.keep HX8.out.1).bef.off (HX8.out.1.keep HZ7.out (fun h=>h)) (by decide)))
           clear hO9 hf9 hn9 tok2 HX8))
      have hHX9:=HZ9.out
      clear x0 x1 x2 x3 x4 x5
      obtain⟨x0,x1,x2,x3,x4,x5⟩:=cs6 hHX9 rfl rfl rfl rfl rfl rfl
      clear hHX9
      by_cases hk0:kd=0
      · obtain⟨hhn,hn1e⟩:=HEND.out hk0
        simp only[Head.none,Head.mk.injEq] at hhn
        obtain⟨-,hsz0,hpk0,hlc0,hlp0,hpb0⟩:=hhn
        subst hk0 hsz0 hpk0 hlc0 hlp0 hpb0 hn1e
        have hnx:=HNX.out
        rw[if_neg (by simp)] at hnx
        rw[hnx] at HGO
        simp only[List.take_zero] at HGO
        obtain⟨f,rfl⟩:∃f',f=f'+1:=⟨f-1,by omega⟩
        obtain⟨u2,hu2,ho2⟩:=step_end x.u ⟨0,0,0,0,0,0⟩ rfl
        have hst:XS.step x ⟨0,0,0,0,0,0⟩ []=some ⟨u2,x.hs++[⟨0,0,0,0,0,0⟩],x.sy⟩:=by unfold XS.step;rw[hu2];rfl
        rw[hst] at HGO
        simp only at HGO
        have hfin:=HGO.out.trans ((Cc.readG_succ XS.step b packed size f _ _).trans (if_pos (by simp only;rw[HNW.out];exact HMV.out)))
        have HFIN:=Hd hfin
        have HO2:=Hd ho2
        clear hnx hst hfin hu2 ho2
        have hzb:=HM9.out.zb
        obtain⟨r0,r1,r2,r3,r4,rf⟩:=cf5 hzb rfl rfl rfl rfl rfl
        clear hzb
        have hrb:=HM9.out.rb
        obtain⟨hsv,hdv⟩:=HSV.out
        rw[hsv,hdv] at hrb
        obtain⟨b0,b1,b2,b3,b4,bf⟩:=cf5 hrb rfl rfl rfl rfl rfl
        have zr:=HM9.out.zr
        have zr2:=Ne.symm zr
        clear hrb
        go_wp2_with fail
        refine bodyPost_ret (v:=.agg #[.slice p6 (x.hs.length+1) cap6,(.slice psv x.sy.length csv),(.slice pdv x.u.out.length cdv),.int .i64 0,.int .i64 ((s.at':Int)+1)]) (by simp[results,Tryz.results18,go_sem,r0,r1,r2,r3,r4]) rfl ?_
        refine HOKK.out _ _ _ _ _ _ _ HFIN.out (by simp) ?_
        have hd:=HM9.out.done (((Fr.one _ Rb 4 (.int .i64 ((s.at':Int)+1))).mono (fun _ _ e=>.inr e)).trans ((five_fr _ (Tb+1) (.slice p6 (x.hs.length+1) cap6) (.slice psv x.sy.length csv) (.slice pdv x.u.out.length cdv) (.int .i64 0) (.int .i64 ((s.at':Int)+1))).mono (fun _ _ e=>.inl e)))
        rw[hsv,hdv] at hd
        exact⟨hd.1,hd.2.1,by rw[HO2.out];exact hd.2.2.1,hd.2.2.2⟩
      have hk1:1≤kd:=by omega
      have hsm2:=HSM.out (by omega) hk0 HMOK.out
      obtain⟨hsc2,hnow2⟩:=hsm2
      have HSC2:=Hd hsc2
      have hnow3:now<3:=by rw[HNW.out];exact hnow2
      have HFC:=fun(er:Nat) W=>Hd (faulty_calls er (s.at'+n) W)
      have hcast:((s.at'+n:Nat):Int)=(s.at':Int)+n:=by omega
      rw[hcast] at HFC
      clear hsc2 hnow2 HHCS HONE HX5 HM5 HZ5 HHL HM7 HZ7 HMV HEND HHD
      by_cases htr:b.length-(s.at'+n)<pk
      · have hnx:=HNX.out
        rw[if_pos htr] at hnx
        rw[hnx] at HGO
        simp only at HGO
        clear hnx
        go_wp2_with fail
        refine(HFC 1 _).out.mono ?_
        rintro e w10 ⟨rfl,hf10⟩
        have HM10:=Hd (HM9.out.keep hf10)
        clear hf10 x0 x1 x2 x3 x4 x5
        have hzb:=HM10.out.zb
        obtain⟨r0,r1,r2,r3,r4,rf⟩:=cf5 hzb rfl rfl rfl rfl rfl
        clear hzb
        go_wp2_with fail
        refine bodyPost_ret (v:=.agg #[nilS,nilS,nilS,.int .i64 1,.int .i64 ((s.at':Int)+n)]) (by simp[results,Tryz.results18,go_sem,r0,r1,r2,r3,r4]) rfl ?_
        exact HERR.out _ _ _ _ (HGO.out) (by decide) hcast.symm (HM10.out.zfr (five_fr _ (Tb+1) _ _ _ _ _))
      have hnx:=HNX.out
      rw[if_neg htr] at hnx
      have HNK:=Hd (nextP_ok (by omega) hle hnx)
      rw[hnx] at HGO
      simp only at HGO
      clear hnx
      have hplen:=HNK.out.plen
      simp only at hplen
      obtain⟨part,hpart⟩:∃part,part=(b.drop (s.at'+n)).take pk:=⟨_,rfl⟩
      rw[←hpart] at HGO hplen
      have hsl:=slice_lhI bp b.length cap (s.at'+n) (s.at'+n+pk) ((s.at':Int)+n) ((s.at':Int)+n+pk) (by omega) (by omega) (by omega) (by omega)
      rw[show s.at'+n+pk-(s.at'+n)=pk by omega] at hsl
      have HRP:=Hd (show∀wk,Fr (fun _=>False) w wk→Rd wk (.slice (dropP bp cap (s.at'+n)) pk (cap-(s.at'+n))) part from fun wk hf=>by
        have h:=rd_mid (HR.out.keep hf) (a:=s.at'+n) (b:=s.at'+n+pk) (by omega) (by omega)
        rw[show s.at'+n+pk-(s.at'+n)=pk by omega] at h
        rw[hpart]
        exact h)
      clear hpart HNX
      generalize dropP bp cap (s.at'+n)=qp at*
      have HBG:=Hd (begin_calls HM9.out.dcd ⟨kd,sz,pk,lc,lp,pb⟩ hk6 HNK.out.props)
      rw[HL.out.lX] at HBG
      unfold BgPost Head.cells at HBG
      simp only at HBG
      have hba2:=begin_all x.u.c x.u.ps ⟨kd,sz,pk,lc,lp,pb⟩
      have HSR:=Hd (fun h=>step_raw x.u ⟨kd,sz,pk,lc,lp,pb⟩ part HL.out.pr hk1 h)
      have HST:=Hd (fun h=>step_take x.u ⟨kd,sz,pk,lc,lp,pb⟩ part HL.out.pr h hk6)
      generalize hbg:beginC x.u.c x.u.ps ⟨kd,sz,pk,lc,lp,pb⟩=bg at*
      obtain⟨cb,psb⟩:=bg
      clear hbg
      simp only at HBG hba2 HSR HST
      go_wp2_with fail
      refine HBG.out.mono ?_
      rintro e w10 ⟨rfl,hf10,l2,hn10,hd10⟩
      have HM10:=Hd (HM9.out.decd hf10 hn10 hd10)
      have hx10:=hf10.keep HZ9.out (HM9.out.dcd.off HZ9.out (by decide))
      have HX10:=Hd hx10
      have HLX:=Hd (hn10.X.trans HL.out.lX)
      clear x0 x1 x2 x3 x4 x5
      obtain⟨x0,x1,x2,x3,x4,x5⟩:=cs6 hx10 rfl rfl rfl rfl rfl rfl
      clear hf10 hn10 hd10 hx10 HBG
      by_cases hk2:kd≤2
      · obtain⟨⟨u2,hu2,hs2⟩,hsy2⟩:=HSR.out hk2
        have HU2:=Hd hu2
        have HS2:=Hd hs2
        have HSY2:=Hd hsy2
        clear hu2 hs2 hsy2 HSR HST
        have HRW:=Hd (raw15_calls HM10.out.dcd (.slice qp pk (cap-(s.at'+n))) part (HRP.out _ HM10.out.fr) (by omega))
        rw[HLX.out] at HRW
        go_wp2_with fail
        refine HRW.out.mono ?_
        rintro e w11 ⟨rfl,hf11,l3,hn11,hd11⟩
        have HM11:=Hd (HM10.out.decd hf11 hn11 hd11)
        have HX11:=Hd (hf11.keep HX10.out (HM10.out.dcd.off HX10.out (by decide)))
        have HLX3:=Hd (hn11.X.trans HLX.out)
        clear hf11 hn11 hd11 x0 x1 x2 x3 x4 x5
        have hdv:=HM11.out.data.slice
        obtain⟨pd,capd,hdve⟩:=hdv
        have hrb:=HM11.out.rb
        have b2:_=some dv:=cell_in (i:=2) hrb rfl
        have HRBX:=Hd hrb
        clear hrb
        subst hdve
        go_upto_region 29 with (at_builtin
                                refine append_mine rfl _ _ rfl (w0:=w) (.slice pd x.u.out.length capd) (.slice qp pk (cap-(s.at'+n))) x.u.out part rfl rfl HM11.out.data HM11.out.fr.size (HRP.out _ HM11.out.fr) (by omega) ?_
                                intro p13 cap13 n13 w13 hn13 hM13 hf13 hnew13
                                have HM14:=Hd (HM11.out.datad hM13 hf13 hnew13)
                                have HX14:=Hd (data_zc HM11.out HX11.out hf13 (v:=.slice p13 n13 cap13))
                                have hb13:=hf13.keep HRBX.out (data_off HM11.out HRBX.out (by decide))
                                have c2:=cell_in (i:=2) hb13 rfl
                                have cf:=fun i=>frozen_in hb13 i
                                have HN13:=Hd hn13
                                clear hM13 hf13 hnew13 hn13 hb13 b2)
        have HRB14:=Hd HM14.out.rows.toB
        have HLS14:=Hd (show Syms w (w13.setCell ⟨Rb,2,none⟩ (.slice p13 n13 cap13)) nilS [] from Cs.syms_nil _ _)
        obtain⟨vs,g1,g2,g3,g4,g5⟩:=HRB14.out.ex
        have HG2:=Hd (And.intro g1 (And.intro g2 (And.intro g3 (And.intro g4 g5))))
        clear g1 g2 g3 g4 g5
        have hrb:=HM14.out.rb
        have hzc:=HX14.out
        generalize World.setCell _ ⟨Rb,2,none⟩ _=w14 at*
        have d1:w14.cell? ⟨Rb,1,none⟩=some sv:=cell_in (i:=1) hrb rfl
        have hf15:=(Fr.refl (fun _=>False) w14).alloc (.cells #[nilS] 53)
        have hx15:=heap_alloc_new w14 (.cells #[nilS] 53)
        have HM15:=Hd (HM14.out.keep hf15)
        have HX15:=Hd hx15
        have HZ15:=Hd (hf15.keep hzc (fun h=>h))
        have HG15:=Hd (HG2.out.1.keep hf15)
        have HLS15:=Hd (HLS14.out.step hf15 (fun _ _ h=>h))
        have HG3:=Hd (show∀(i:Nat)(y:Value)(l:List Sy),vs[i]? =some y→x.sy[i]? =some l→Syms w _ y l from fun i y l hy hl=>(HG2.out.2.2.1 i y l hy hl).step hf15 (fun _ _ h=>h))
        have HONE2:=Hd (row_one none 0 0)
        clear hrb hzc hf15 hx15
        go_wp2_with (at_builtin
                     refine append_own rfl _ _ rfl Tryz.underlying39 infoRow rfl (by decide) (by decide) (w0:=w) sv vs _ _ rfl rfl HG15.out HM15.out.fr.size HX15.out rfl HONE2.out (by omega) ?_
                     intro v16 w16 hO16 hf16 hn16
                     obtain⟨p16,cap16,rfl⟩:=hO16.slice
                     have HM17:=Hd (HM15.out.rowed (RowsY.snoc HG15.out HG2.out.2.1 HG3.out HG2.out.2.2.2.1 HLS15.out (fun i y k hy hk he=>by simp[Value.ownBlock] at he) hO16 hf16) hf16)
                     have HZ17:=Hd (row_zc HM15.out HZ15.out hf16 (v:=.slice p16 (x.sy.length+1) cap16))
                     have hb17:=hf16.keep HM15.out.rb (row_off HM15.out HM15.out.rb (by decide))
                     have e1:=cell_in (i:=1) hb17 rfl
                     have ef:=fun i=>frozen_in hb17 i
                     have x1:=cell_in (i:=1) HZ17.out rfl
                     have x2:=cell_in (i:=2) HZ17.out rfl
                     clear hO16 hf16 hn16 hb17 d1)
        go_roundg f
        case rel=>
          have hst:XS.step x ⟨kd,sz,pk,lc,lp,pb⟩ part=some ⟨u2,x.hs++[⟨kd,sz,pk,lc,lp,pb⟩],x.sy++[[]]⟩:=by
            unfold XS.step
            rw[HU2.out,HSY2.out]
            simp only[Option.map_some,if_neg hk0]
          have hgo:=HGO.out
          rw[hst] at hgo
          simp only at hgo
          have hs2:=HS2.out
          have hmem:=HM17.out
          rw[←hs2.out,←hs2.c,←hs2.ps] at hmem
          refine⟨_,⟨u2,x.hs++[⟨kd,sz,pk,lc,lp,pb⟩],x.sy++[[]]⟩,l3,_,_,_,bs++[kd],?_,?_,⟨hgo,?_,?_,hnow3,?_,?_,?_,hmem,HLX3.out,hs2.pr,?_,?_,?_,?_,?_⟩⟩
          · simp only;congr 1<;>omega
          · simp only;congr 1<;>omega
          · simp only;omega
          · simp only;omega
          · rw[scan_snoc,HL.out.scan,HSC2.out,HNW.out]
          · intro y hy
            rcases List.mem_append.1 hy with h|h
            · exact HL.out.bs6 y h
            · simp at h
              omega
          · simp only[List.length_append,List.length_singleton];omega
          · simp only;omega
          · rw[hs2.c];simp only[C.on,List.length_append];omega
          · rw[hs2.out,List.length_append];simp only;omega
          · simp only[List.length_append,List.length_singleton];omega
          · simp only[List.length_append,List.length_singleton];omega
        case measure=>omega
      · have HTK:=Hd (rtake_calls HM10.out.dcd (.slice qp pk (cap-(s.at'+n))) part (HRP.out _ HM10.out.fr) (by omega) sz (HNK.out.one (by simp only;omega)) hszl (by omega))
        rw[HLX.out] at HTK
        have hst3:=HST.out (by omega)
        have htl:=fun(ls:List Sy)(outs:List UInt8)(c2:C)(ps2:Nat→List Nat)(h:takeAll cb psb part sz=some (ls,outs,c2,ps2))=>take_len' h (fun d hd=>⟨(Rc.init_ok hd (by omega)).1,HM10.out.dcd.cod.okp,HM10.out.dcd.cod.len⟩)
        unfold RTakePost at HTK
        clear HSR HST
        cases hta:takeAll cb psb part sz with
        |none=>
          rw[hta] at HTK hst3
          simp only at HTK hst3
          have hst:XS.step x ⟨kd,sz,pk,lc,lp,pb⟩ part=none:=by unfold XS.step;rw[hst3];rfl
          rw[hst] at HGO
          simp only at HGO
          clear hta hst hst3 htl
          go_wp2_with fail
          refine HTK.out.mono ?_
          rintro e w11 ⟨hf11,lv,pv,rfl⟩
          have HE11:=Hd (HM10.out.after hf11)
          clear hf11 x0 x1 x2 x3 x4 x5
          go_wp2_with fail
          refine(HFC 2 _).out.mono ?_
          rintro e w12 ⟨rfl,hf12⟩
          have hzb:=hf12.keep HE11.out.1 (fun h=>h)
          obtain⟨r0,r1,r2,r3,r4,rf⟩:=cf5 hzb rfl rfl rfl rfl rfl
          have HE12:=Hd (HE11.out.2.1.trans hf12)
          clear hzb hf12
          go_wp2_with fail
          refine bodyPost_ret (v:=.agg #[nilS,nilS,nilS,.int .i64 2,.int .i64 ((s.at':Int)+n)]) (by simp[results,Tryz.results18,go_sem,r0,r1,r2,r3,r4]) rfl ?_
          exact HERR.out _ _ _ _ HGO.out (by decide) hcast.symm (HE12.out.trans' (five_fr _ (Tb+1) _ _ _ _ _) (fun k hk(e:k=Tb+1)=>by have:=HE11.out.2.2;omega))
        |some r=>
          obtain⟨ls,outs,c2,ps2⟩:=r
          have htl:=htl ls outs c2 ps2 hta
          rw[hta] at HTK hst3
          simp only at HTK hst3
          obtain⟨⟨u2,hu2,hs2⟩,hsy2⟩:=hst3
          have HU2:=Hd hu2
          have HS2:=Hd hs2
          have HSY2:=Hd hsy2
          clear hu2 hs2 hsy2 hta
          go_wp2_with fail
          refine HTK.out.mono ?_
          rintro e w11 ⟨hf11,lv,pv,rfl,l3,hn11,hd11,hm11,hs11,hp11,hl11⟩
          have HM11:=Hd (HM10.out.decd hf11 hn11 hd11)
          have HX11:=Hd (hf11.keep HX10.out (HM10.out.dcd.off HX10.out (by decide)))
          have HLX3:=Hd (hn11.X.trans HLX.out)
          have HRB:=Hd (HM10.out.rows.toB.step hf11 (fun k cs t fr hk ht=>HM10.out.dcd.off hk (by rcases ht with⟨rfl,_⟩|rfl<;>decide)))
          have HLO:=Hd hs11.new
          have HLS:=Hd (show Syms w w11 lv ls from⟨hs11.own,fun k hk=>Nat.le_trans HM10.out.fr.size (hs11.new k hk)⟩)
          have HPM:=Hd hm11.rd
          have hml:=hm11.slice
          obtain⟨pl,capl,rfl⟩:=(Own.of_syms hs11).slice
          clear hf11 hn11 hd11 hm11 hs11 hp11 hl11 x0 x1 x2 x3 x4 x5
          have hdv:=HM11.out.data.slice
          obtain⟨pd,capd,hdve⟩:=hdv
          have hrb:=HM11.out.rb
          have b2:_=some dv:=cell_in (i:=2) hrb rfl
          have HRBX:=Hd hrb
          clear hrb
          subst hdve
          go_upto_region 29 with (at_builtin
                                  refine append_mine rfl _ _ rfl (w0:=w) (.slice pd x.u.out.length capd) pv x.u.out outs rfl rfl HM11.out.data HM11.out.fr.size HPM.out (by omega) ?_
                                  intro p13 cap13 n13 w13 hn13 hM13 hf13 hnew13
                                  have HM14:=Hd (HM11.out.datad hM13 hf13 hnew13)
                                  have HX14:=Hd (data_zc HM11.out HX11.out hf13 (v:=.slice p13 n13 cap13))
                                  have HRB14:=Hd (data_rows HM11.out HRB.out hf13 (v:=.slice p13 n13 cap13))
                                  have HLS14:=Hd (data_syms HM11.out HLS.out hf13 (v:=.slice p13 n13 cap13))
                                  have hb13:=hf13.keep HRBX.out (data_off HM11.out HRBX.out (by decide))
                                  have c2:=cell_in (i:=2) hb13 rfl
                                  have cf:=fun i=>frozen_in hb13 i
                                  have HN13:=Hd hn13
                                  clear hM13 hf13 hnew13 hn13 hb13 b2)
          obtain⟨vs,g1,g2,g3,g4,g5⟩:=HRB14.out.ex
          have HG2:=Hd (And.intro g1 (And.intro g2 (And.intro g3 (And.intro g4 g5))))
          clear g1 g2 g3 g4 g5
          have hrb:=HM14.out.rb
          have hzc:=HX14.out
          generalize World.setCell _ ⟨Rb,2,none⟩ _=w14 at*
          have d1:w14.cell? ⟨Rb,1,none⟩=some sv:=cell_in (i:=1) hrb rfl
          have hf15:=(Fr.refl (fun _=>False) w14).alloc (.cells #[(.slice pl ls.length capl)] 53)
          have hx15:=heap_alloc_new w14 (.cells #[(.slice pl ls.length capl)] 53)
          have HM15:=Hd (HM14.out.keep hf15)
          have HX15:=Hd hx15
          have HZ15:=Hd (hf15.keep hzc (fun h=>h))
          have HG15:=Hd (HG2.out.1.keep hf15)
          have HLS15:=Hd (HLS14.out.step hf15 (fun _ _ h=>h))
          have HG3:=Hd (show∀(i:Nat)(y:Value)(l:List Sy),vs[i]? =some y→x.sy[i]? =some l→Syms w _ y l from fun i y l hy hl=>(HG2.out.2.2.1 i y l hy hl).step hf15 (fun _ _ h=>h))
          have HONE2:=Hd (row_one pl ls.length capl)
          clear hrb hzc hf15 hx15
          go_wp2_with (at_builtin
                       refine append_own rfl _ _ rfl Tryz.underlying39 infoRow rfl (by decide) (by decide) (w0:=w) sv vs _ _ rfl rfl HG15.out HM15.out.fr.size HX15.out rfl HONE2.out (by omega) ?_
                       intro v16 w16 hO16 hf16 hn16
                       obtain⟨p16,cap16,rfl⟩:=hO16.slice
                       have HM17:=Hd (HM15.out.rowed (RowsY.snoc HG15.out HG2.out.2.1 HG3.out HG2.out.2.2.2.1 HLS15.out (fun i y k hy hk he=>by have h1:=HG2.out.2.2.2.2 i y k hy hk;have h2:=HLO.out k he;omega) hO16 hf16) hf16)
                       have HZ17:=Hd (row_zc HM15.out HZ15.out hf16 (v:=.slice p16 (x.sy.length+1) cap16))
                       have hb17:=hf16.keep HM15.out.rb (row_off HM15.out HM15.out.rb (by decide))
                       have e1:=cell_in (i:=1) hb17 rfl
                       have ef:=fun i=>frozen_in hb17 i
                       have x1:=cell_in (i:=1) HZ17.out rfl
                       have x2:=cell_in (i:=2) HZ17.out rfl
                       clear hO16 hf16 hn16 hb17 d1)
          go_roundg f
          case rel=>
            have hst:XS.step x ⟨kd,sz,pk,lc,lp,pb⟩ part=some ⟨u2,x.hs++[⟨kd,sz,pk,lc,lp,pb⟩],x.sy++[ls]⟩:=by
              unfold XS.step
              rw[HU2.out,HSY2.out]
              simp only[Option.map_some,if_neg hk0]
            have hgo:=HGO.out
            rw[hst] at hgo
            simp only at hgo
            have hs2:=HS2.out
            have hmem:=HM17.out
            rw[←hs2.out,←hs2.c,←hs2.ps] at hmem
            refine⟨_,⟨u2,x.hs++[⟨kd,sz,pk,lc,lp,pb⟩],x.sy++[ls]⟩,l3,_,_,_,bs++[kd],?_,?_,⟨hgo,?_,?_,hnow3,?_,?_,?_,hmem,HLX3.out,hs2.pr,?_,?_,?_,?_,?_⟩⟩
            · simp only;congr 1<;>omega
            · simp only;congr 1<;>omega
            · simp only;omega
            · simp only;omega
            · rw[scan_snoc,HL.out.scan,HSC2.out,HNW.out]
            · intro y hy
              rcases List.mem_append.1 hy with h|h
              · exact HL.out.bs6 y h
              · simp at h
                omega
            · simp only[List.length_append,List.length_singleton];omega
            · simp only;omega
            · rw[hs2.c];simp only;omega
            · rw[hs2.out,List.length_append];simp only;omega
            · simp only[List.length_append,List.length_singleton];omega
            · simp only[List.length_append,List.length_singleton];omega
          case measure=>omega
structure FwB(b:List UInt8)(packed size:Int)(w:World)(Tb Zb Rb X:Nat)(f0:Nat)(x0:List Head)(f:Nat)(wr:World)(fv:Value)(s:Sr)(x:List Head)(l:RL)(hv sv dv:Value)(bs:List Nat)(c:C)(ps:Nat→List Nat)(sy:List (List Sy)):Prop where
 go:readG hStep b packed size f0 ⟨0,0,0⟩ x0=readG hStep b packed size f s x
 fuel:b.length-s.at'<f
 le:s.at'≤b.length
 now:s.now<3
 scan:Rf.scan bs=(decide (s.now≠0),decide (s.now=2))
 bs6:∀y ∈ bs,1≤y∧y≤6
 bsl:bs.length≤s.at'
 mem:Rw w wr Tb Zb Rb l hv sv dv fv packed size c ps x sy [] bs
 bp:s.plain≤2097152*s.at'
 bh:x.length≤s.at'
 bsy:sy.length≤s.at'
set_option maxRecDepth 100000 in
theorem rrow_bare(b:List UInt8)(bv:Value)(dict:Nat)(packed size:Int)(w:World)(hr:Rd w bv b)(hb:b.length≤4194304)(hd1:1≤dict)(hd2:dict≤4294967295)(hp:packed≤9223372036854775807)(hs:size≤9223372036854775807):
    Calls Tryz.prog 18 #[bv,.int .i64 dict,.agg #[.int .i64 packed,.int .i64 size],.bool true] w (RowBare w (readG hStep b packed size (b.length+2) ⟨0,0,0⟩ [])):=by
  obtain⟨bp,cap,rfl,hc1,hc2,hc3⟩:=hr
  have hr:Rd w (.slice bp b.length cap) b:=⟨bp,cap,rfl,hc1,hc2,hc3⟩
  clear hc2 hc3
  have HR:=Hd hr
  clear hr
  obtain⟨post,hpost⟩:∃post:Ending→World→Prop,post=RowBare w (readG hStep b packed size (b.length+2) ⟨0,0,0⟩ []):=⟨_,rfl⟩
  have HERR:=Hd (show∀(p er:Nat)(pi:Int)(wk:World),readG hStep b packed size (b.length+2) ⟨0,0,0⟩ []=.error (p,er)→er≠0→pi=p→Fr (fun _=>False) w wk→post (.returned (.agg #[nilS,nilS,nilS,.int .i64 er,.int .i64 pi])) wk from fun p er pi wk h1 h2 h3 h4=>by
    rw[hpost,h1,h3]
    exact⟨h4,h2,rfl⟩)
  have HOKK:=Hd (show∀(n:Nat)(ni:Int)(x:List Head)(hv sv dv:Value)(wk:World),readG hStep b packed size (b.length+2) ⟨0,0,0⟩ []=.ok (n,x)→ni=n→(∃p n c,sv=.slice p n c)→(∃p n c,dv=.slice p n c)→Cc.Heads w wk hv x∧Fr (fun _=>False) w wk→post (.returned (.agg #[hv,sv,dv,.int .i64 0,.int .i64 ni])) wk from fun n ni x hv sv dv wk h1 h2 h4 h5 h3=>by
    rw[hpost,h1,h2]
    exact⟨h3.2,hv,sv,dv,rfl,h3.1,h4,h5⟩)
  rw[←hpost]
  clear hpost
  have HN:=fun W=>Hd (new15_calls dict hd1 hd2 W)
  unfold propV at HN
  have hf1:=((Fr.refl (fun _=>False) w).alloc (.cells #[.int .i64 packed,.int .i64 size] 59)).alloc (.cells #[nilS,nilS,nilS,.int .i64 0,.int .i64 0] 56)
  have ht:=heap_alloc_new w (.cells #[.int .i64 packed,.int .i64 size] 59)
  have ht:=((Fr.refl (fun _=>False) (w.alloc (.cells #[.int .i64 packed,.int .i64 size] 59))).alloc (.cells #[nilS,nilS,nilS,.int .i64 0,.int .i64 0] 56)).keep ht (fun h=>h)
  have hx:=heap_alloc_new (w.alloc (.cells #[.int .i64 packed,.int .i64 size] 59)) (.cells #[nilS,nilS,nilS,.int .i64 0,.int .i64 0] 56)
  rw[World.size_alloc] at hx
  have hsz:w.heap.size+2≤((w.alloc (.cells #[.int .i64 packed,.int .i64 size] 59)).alloc (.cells #[nilS,nilS,nilS,.int .i64 0,.int .i64 0] 56)).heap.size:=by simp
  have HT:=Hd ht
  have HX:=Hd hx
  have HF1:=Hd hf1
  have HSZ:=Hd hsz
  clear ht hx hf1 hsz
  go_enter Tryz.func18,Tryz.ntmps18
  go_wp2_with fail
  generalize World.alloc (World.alloc w _) _=W at*
  generalize hTb:w.heap.size=Tb at*
  have HTb:=Hd hTb
  clear hTb
  refine(HN _).out.mono ?_
  rintro e w2 ⟨l,rfl,hf2,hd2',hl2⟩
  have hf3:=(Fr.refl (fun _=>False) w2).alloc (.cells #[nilS,nilS,nilS,.int .i64 0,.int .i64 0] 56)
  have hx3:=heap_alloc_new w2 (.cells #[nilS,nilS,nilS,.int .i64 0,.int .i64 0] 56)
  have hsw:=HSZ.out
  have hs2:=hf2.size
  have htb:=HTb.out
  have HM0:=Hd (show Rw w (w2.alloc (.cells #[nilS,nilS,nilS,.int .i64 0,.int .i64 0] 56)) Tb (Tb+1) w2.heap.size l nilS nilS nilS nilS packed size ⟨0,0,0,S.new,dict,[]⟩ (Lz.fresh 0 0) [] [] [] [] from
    ⟨hf3.keep (hf2.keep HT.out (fun h=>h)) (fun h=>h),hf3.keep (hf2.keep HX.out (fun h=>h)) (fun h=>h),hx3,Own.nil _ _ _ _,RowsY.nil _ _,Mine.nil _ _,Own.nil _ _ _ _,hd2'.keep hf3,(HF1.out.trans hf2).trans hf3,fun k hk=>by have:=hl2 k hk;omega,⟨by omega,by omega,by omega⟩,by omega,fun k hk=>by simp[Value.ownBlock] at hk,fun k hk=>by simp[Value.ownBlock] at hk⟩)
  generalize hX:l.X=X at*
  have HXX:=Hd hX
  clear hf2 hd2' hl2 hf3 hx3 hX hsw hs2 htb
  go_wp2_with fail
  generalize hW3:w2.alloc (.cells #[nilS,nilS,nilS,.int .i64 0,.int .i64 0] 56)=W3 at*
  generalize w2.heap.size=Rb at*
  clear hW3
  go_loopg [12,13,14] (b.length+2) (fun f bf ati made wr=>∃s x l hv sv dv bs c ps sy,ati=.int .i64 (s.at':Int)∧made=.int .i64 (s.plain:Int)∧FwB b packed size w Tb (Tb+1) Rb X (b.length+2) [] f wr bf s x l hv sv dv bs c ps sy)
  case atStart=>exact⟨⟨0,0,0⟩,[],l,nilS,nilS,nilS,[],_,_,[],rfl,rfl,⟨rfl,by simp only;omega,Nat.zero_le _,by decide,rfl,fun y hy=>by simp at hy,by simp,HM0.out,by simp,by simp,by simp⟩⟩
  case round=>
    obtain⟨s,x,l1,hv,sv,dv,bs,c1,ps1,sy1,rfl,rfl,hL⟩:=hrel
    have HL:=Hd hL
    have hle:=hL.le
    have hfu:=hL.fuel
    have hnow:=hL.now
    have hbp:=hL.bp
    have hbh:=hL.bh
    have hbsl:=hL.bsl
    have hbsy:=hL.bsy
    obtain⟨psv,csv,hsv⟩:=hL.mem.rows.slice
    obtain⟨pdv,cdv,hdv⟩:=hL.mem.data.slice
    have HSV:=Hd (And.intro hsv hdv)
    clear hsv hdv
    obtain⟨f,rfl⟩:∃f,gk=f+1:=⟨gk-1,by omega⟩
    have HGO:=Hd ((hL.go.trans (Cc.readG_succ hStep b packed size f s x)).trans (if_neg (by omega)))
    have HHD:=Hd (rhead_calls (.slice bp b.length cap) u12 b bs packed size s w wr (HR.out.keep hL.mem.fr) hL.mem.bef hL.bs6 (by omega) hnow hL.scan hb hle (by omega) hp hs)
    have ht:=hL.mem.told
    have t0:wr.cell? ⟨Tb,0,none⟩=some (.int .i64 packed):=cell_in ht rfl
    have t1:wr.cell? ⟨Tb,1,none⟩=some (.int .i64 size):=cell_in ht rfl
    clear ht hL
    have hnxh:=nextP_head b packed size s
    cases hh:headP b packed size s with
    |error er=>
      have her:=headP_err hh
      rw[hh] at HHD hnxh
      simp only at hnxh
      rw[hnxh] at HGO
      simp only[headR,Head.none,Head.cells] at HHD HGO
      have hne:((er:Int) !=0)=true:=by simp[her]
      have HER:=Hd her
      have HFC:=fun W=>Hd (faulty_calls er s.at' W)
      clear hh hnxh her
      go_wp2_with fail
      refine HHD.out.mono ?_
      rintro e w3 ⟨rfl,hf3⟩
      have HF3:=Hd hf3
      clear hf3 t0 t1
      go_wp2_with fail
      refine(HFC _).out.mono ?_
      rintro e w4 ⟨rfl,hf4⟩
      have HM4:=Hd (HL.out.mem.keep ((HF3.out.alloc _).trans hf4))
      clear hf4
      have hzb:=HM4.out.zb
      obtain⟨r0,r1,r2,r3,r4,rf⟩:=cf5 hzb rfl rfl rfl rfl rfl
      clear hzb
      go_wp2_with fail
      refine bodyPost_ret (v:=.agg #[nilS,nilS,nilS,.int .i64 er,.int .i64 (s.at':Int)]) (by simp[results,Tryz.results18,go_sem,r0,r1,r2,r3,r4]) rfl ?_
      exact HERR.out _ _ _ _ (HGO.out) HER.out rfl (HM4.out.zfr (five_fr _ (Tb+1) _ _ _ _ _))
    |ok r=>
      obtain⟨⟨kd,sz,pk,lc,lp,pb⟩,n,now⟩:=r
      have hok:=headP_ok hle hh
      have hend:=headP_end hh
      rw[hh] at HHD hnxh
      simp only at hnxh hend
      have hmv:=move_end ⟨s.now,hnow⟩
      have hsm:=fun hk=>scan_move ⟨s.now,hnow⟩ ⟨kd,hk⟩
      simp only at hmv hsm
      obtain⟨hn6,hnl,hn1,hk6,hnw,hmok,hszl,hpkl⟩:=hok
      simp only at hk6 hnw hmok hszl hpkl
      simp only[headR,Head.cells] at HHD
      have HNX:=Hd hnxh
      have HSM:=Hd hsm
      have HMV:=Hd hmv
      have HEND:=Hd hend
      have HNW:=Hd hnw
      have HMOK:=Hd hmok
      have HHH:=Hd hh
      have HHCS:=Hd (Cc.hcs_snoc x ⟨kd,sz,pk,lc,lp,pb⟩)
      have HONE:=Hd (Cc.head_one ⟨kd,sz,pk,lc,lp,pb⟩)
      unfold Head.cells at HHCS HONE
      simp only at HHCS HONE
      clear hh hnxh hmv hsm hnw hmok hend
      go_wp2_with fail
      refine HHD.out.mono ?_
      rintro e w3 ⟨rfl,hf3⟩
      have hM3:=HL.out.mem.keep hf3
      have hf4:=(Fr.refl (fun _=>False) w3).alloc (.cells #[.int .i64 kd,.int .i64 sz,.int .i64 pk,.int .i64 lc,.int .i64 lp,.int .i64 pb] 52)
      have hz4:=heap_alloc_new w3 (.cells #[.int .i64 kd,.int .i64 sz,.int .i64 pk,.int .i64 lc,.int .i64 lp,.int .i64 pb] 52)
      have hM4:=hM3.keep hf4
      have hhl:=fun k hk=>Own.lt hM3.heads k hk
      clear t0 t1 hf3
      go_upto_region 9 with fail
      generalize hzz:w3.heap.size=zc at*
      generalize hw4:w3.alloc (.cells #[.int .i64 kd,.int .i64 sz,.int .i64 pk,.int .i64 lc,.int .i64 lp,.int .i64 pb] 52)=w4 at*
      have hf5:=(Fr.refl (fun _=>False) w4).alloc (.cells #[.int .i64 kd,.int .i64 sz,.int .i64 pk,.int .i64 lc,.int .i64 lp,.int .i64 pb] 52)
      have hx5:=heap_alloc_new w4 (.cells #[.int .i64 kd,.int .i64 sz,.int .i64 pk,.int .i64 lc,.int .i64 lp,.int .i64 pb] 52)
      have HX5:=Hd hx5
      have HM5:=Hd (hM4.keep hf5)
      have HZ5:=Hd (hf5.keep hz4 (fun h=>h))
      have HHL:=Hd hhl
      obtain⟨x0,x1,x2,x3,x4,x5⟩:=cs6 hz4 rfl rfl rfl rfl rfl rfl
      have b0:w4.cell? ⟨Rb,0,none⟩=some hv:=cell_in hM4.rb rfl
      have hbs:=hM4.bef.slice
      clear hf4 hz4 hM4 hM3 hf5 hx5 hhl hw4 hzz hbs
      have tok1:True:=trivial
      go_upto_region 11 with(first
        | (at_builtin
           have _t:=tok1
           refine append_own rfl _ _ rfl Tryz.underlying33 infoChunk rfl (by decide) (by decide) (w0:=w) hv (Cc.hcs x) _ _ rfl rfl HM5.out.heads HM5.out.fr.size HX5.out rfl HONE.out (by omega) ?_
           intro v6 w6 hO6 hf6 hn6'
           obtain⟨p6,cap6,rfl⟩:=hO6.slice
           have HM7:=Hd (heads_put HM5.out hO6 HHCS.out hf6)
           have HZ7:=Hd (zc_put (v6:=.slice p6 (x.length+1) cap6) HM5.out HZ5.out HHL.out hf6)
           have hb7:=hf6.keep HM5.out.rb (Own.off HM5.out.heads HM5.out.rb (by decide))
           have hx6:=hf6.keep HZ5.out (fun e=>Nat.lt_irrefl _ (HHL.out zc e))
           have c0:=cell_in (i:=0) hb7 rfl
           have cf:=fun i=>frozen_in hb7 i
           have x0:=cell_in (i:=0) HZ7.out rfl
           have zne:zc≠Rb:=fun e=>blk_ne hx6 hb7 (by decide) e
           have HX8:=Hd (int_put w6 Rb (.slice p6 (x.length+1) cap6) kd)
           clear hO6 hf6 hn6' hb7 hx6 b0 tok1
           have tok2:True:=trivial)
        | (at_builtin
           have _t:=tok2
           refine append_own rfl _ _ rfl Tryz.underlying79 Ga.infoInt rfl (by decide) (by decide) (w0:=w) u12 (ints bs) _ _ rfl rfl (HM7.out.keep HX8.out.1).bef (HM7.out.keep HX8.out.1).fr.size HX8.out.2 rfl (int_one kd) (by omega) ?_
           intro v9 w9 hO9 hf9 hn9
           have HM9:=Hd (ints_put (HM7.out.keep HX8.out.1) hO9 hf9 hn9)
           have HZ9:=Hd (hf9.keep (HX8.out.1.keep HZ7.out (fun h=>h)) ((HM7.out.keep HX8.out.1).bef.off (HX8.out.1.keep HZ7.out (fun h=>h)) (by decide)))
           clear hO9 hf9 hn9 tok2 HX8))
      have hHX9:=HZ9.out
      clear x0 x1 x2 x3 x4 x5
      obtain⟨x0,x1,x2,x3,x4,x5⟩:=cs6 hHX9 rfl rfl rfl rfl rfl rfl
      clear hHX9
      by_cases hk0:kd=0
      · obtain⟨hhn,hn1e⟩:=HEND.out hk0
        simp only[Head.none,Head.mk.injEq] at hhn
        obtain⟨-,hsz0,hpk0,hlc0,hlp0,hpb0⟩:=hhn
        subst hk0 hsz0 hpk0 hlc0 hlp0 hpb0 hn1e
        have hnx:=HNX.out
        rw[if_neg (by simp)] at hnx
        rw[hnx] at HGO
        simp only[List.take_zero] at HGO
        obtain⟨f,rfl⟩:∃f',f=f'+1:=⟨f-1,by omega⟩
        have hst:hStep x ⟨0,0,0,0,0,0⟩ []=some (x++[⟨0,0,0,0,0,0⟩]):=rfl
        rw[hst] at HGO
        simp only at HGO
        have hfin:=HGO.out.trans ((Cc.readG_succ hStep b packed size f _ _).trans (if_pos (by simp only;rw[HNW.out];exact HMV.out)))
        have HFIN:=Hd hfin
        clear hnx hst hfin
        have hzb:=HM9.out.zb
        obtain⟨r0,r1,r2,r3,r4,rf⟩:=cf5 hzb rfl rfl rfl rfl rfl
        clear hzb
        have hrb:=HM9.out.rb
        obtain⟨hsv,hdv⟩:=HSV.out
        rw[hsv,hdv] at hrb
        obtain⟨b0,b1,b2,b3,b4,bf⟩:=cf5 hrb rfl rfl rfl rfl rfl
        have zr:=HM9.out.zr
        have zr2:=Ne.symm zr
        clear hrb
        go_wp2_with fail
        refine bodyPost_ret (v:=.agg #[.slice p6 (x.length+1) cap6,(.slice psv sy1.length csv),(.slice pdv ([]:List UInt8).length cdv),.int .i64 0,.int .i64 ((s.at':Int)+1)]) (by simp[results,Tryz.results18,go_sem,r0,r1,r2,r3,r4]) rfl ?_
        refine HOKK.out _ _ _ _ _ _ _ HFIN.out (by simp) ⟨_,_,_,rfl⟩ ⟨_,_,_,rfl⟩ ?_
        have hd:=HM9.out.done (((Fr.one _ Rb 4 (.int .i64 ((s.at':Int)+1))).mono (fun _ _ e=>.inr e)).trans ((five_fr _ (Tb+1) (.slice p6 (x.length+1) cap6) (.slice psv sy1.length csv) (.slice pdv ([]:List UInt8).length cdv) (.int .i64 0) (.int .i64 ((s.at':Int)+1))).mono (fun _ _ e=>.inl e)))
        exact⟨hd.1,hd.2.2.2⟩
      have hk1:1≤kd:=by omega
      have hsm2:=HSM.out (by omega) hk0 HMOK.out
      obtain⟨hsc2,hnow2⟩:=hsm2
      have HSC2:=Hd hsc2
      have hnow3:now<3:=by rw[HNW.out];exact hnow2
      have HFC:=fun(er:Nat) W=>Hd (faulty_calls er (s.at'+n) W)
      have hcast:((s.at'+n:Nat):Int)=(s.at':Int)+n:=by omega
      rw[hcast] at HFC
      clear hsc2 hnow2 HHCS HONE HX5 HM5 HZ5 HHL HM7 HZ7 HMV HEND HHD
      by_cases htr:b.length-(s.at'+n)<pk
      · have hnx:=HNX.out
        rw[if_pos htr] at hnx
        rw[hnx] at HGO
        simp only at HGO
        clear hnx
        go_wp2_with fail
        refine(HFC 1 _).out.mono ?_
        rintro e w10 ⟨rfl,hf10⟩
        have HM10:=Hd (HM9.out.keep hf10)
        clear hf10 x0 x1 x2 x3 x4 x5
        have hzb:=HM10.out.zb
        obtain⟨r0,r1,r2,r3,r4,rf⟩:=cf5 hzb rfl rfl rfl rfl rfl
        clear hzb
        go_wp2_with fail
        refine bodyPost_ret (v:=.agg #[nilS,nilS,nilS,.int .i64 1,.int .i64 ((s.at':Int)+n)]) (by simp[results,Tryz.results18,go_sem,r0,r1,r2,r3,r4]) rfl ?_
        exact HERR.out _ _ _ _ (HGO.out) (by decide) hcast.symm (HM10.out.zfr (five_fr _ (Tb+1) _ _ _ _ _))
      have hnx:=HNX.out
      rw[if_neg htr] at hnx
      have HNK:=Hd (nextP_ok (by omega) hle hnx)
      rw[hnx] at HGO
      simp only at HGO
      clear hnx
      have hplen:=HNK.out.plen
      simp only at hplen
      obtain⟨part,hpart⟩:∃part,part=(b.drop (s.at'+n)).take pk:=⟨_,rfl⟩
      rw[←hpart] at HGO hplen
      have hsl:=slice_lhI bp b.length cap (s.at'+n) (s.at'+n+pk) ((s.at':Int)+n) ((s.at':Int)+n+pk) (by omega) (by omega) (by omega) (by omega)
      rw[show s.at'+n+pk-(s.at'+n)=pk by omega] at hsl
      have HRP:=Hd (show∀wk,Fr (fun _=>False) w wk→Rd wk (.slice (dropP bp cap (s.at'+n)) pk (cap-(s.at'+n))) part from fun wk hf=>by
        have h:=rd_mid (HR.out.keep hf) (a:=s.at'+n) (b:=s.at'+n+pk) (by omega) (by omega)
        rw[show s.at'+n+pk-(s.at'+n)=pk by omega] at h
        rw[hpart]
        exact h)
      clear hpart HNX
      generalize dropP bp cap (s.at'+n)=qp at*
      have HM11:=HM9
      have HX11:=HZ9
      have HRB14:=Hd HM9.out.rows.toB
      have HLS14:=Hd (show Syms w w9 nilS [] from Cs.syms_nil _ _)
      obtain⟨vs,g1,g2,g3,g4,g5⟩:=HRB14.out.ex
      have HG2:=Hd (And.intro g1 (And.intro g2 (And.intro g3 (And.intro g4 g5))))
      clear g1 g2 g3 g4 g5
      have hrb:=HM9.out.rb
      have hzc:=HZ9.out
      have d1:w9.cell? ⟨Rb,1,none⟩=some sv:=cell_in (i:=1) hrb rfl
      have hf15:=(Fr.refl (fun _=>False) w9).alloc (.cells #[nilS] 53)
      have hx15:=heap_alloc_new w9 (.cells #[nilS] 53)
      have HM15:=Hd (HM9.out.keep hf15)
      have HX15:=Hd hx15
      have HZ15:=Hd (hf15.keep hzc (fun h=>h))
      have HG15:=Hd (HG2.out.1.keep hf15)
      have HLS15:=Hd (HLS14.out.step hf15 (fun _ _ h=>h))
      have HG3:=Hd (show∀(i:Nat)(y:Value)(l:List Sy),vs[i]? =some y→sy1[i]? =some l→Syms w _ y l from fun i y l hy hl=>(HG2.out.2.2.1 i y l hy hl).step hf15 (fun _ _ h=>h))
      have HONE2:=Hd (row_one none 0 0)
      clear hrb hzc hf15 hx15
      go_wp2_with (at_builtin
                   refine append_own rfl _ _ rfl Tryz.underlying39 infoRow rfl (by decide) (by decide) (w0:=w) sv vs _ _ rfl rfl HG15.out HM15.out.fr.size HX15.out rfl HONE2.out (by omega) ?_
                   intro v16 w16 hO16 hf16 hn16
                   obtain⟨p16,cap16,rfl⟩:=hO16.slice
                   have HM17:=Hd (HM15.out.rowed (RowsY.snoc HG15.out HG2.out.2.1 HG3.out HG2.out.2.2.2.1 HLS15.out (fun i y k hy hk he=>by simp[Value.ownBlock] at he) hO16 hf16) hf16)
                   have HZ17:=Hd (row_zc HM15.out HZ15.out hf16 (v:=.slice p16 (sy1.length+1) cap16))
                   have hb17:=hf16.keep HM15.out.rb (row_off HM15.out HM15.out.rb (by decide))
                   have e1:=cell_in (i:=1) hb17 rfl
                   have ef:=fun i=>frozen_in hb17 i
                   have x1:=cell_in (i:=1) HZ17.out rfl
                   have x2:=cell_in (i:=2) HZ17.out rfl
                   clear hO16 hf16 hn16 hb17 d1)
      go_roundg f
      case rel=>
        have hst:hStep x ⟨kd,sz,pk,lc,lp,pb⟩ part=some (x++[⟨kd,sz,pk,lc,lp,pb⟩]):=rfl
        have hgo:=HGO.out
        rw[hst] at hgo
        simp only at hgo
        refine⟨_,x++[⟨kd,sz,pk,lc,lp,pb⟩],l1,_,_,_,bs++[kd],_,_,sy1++[[]],?_,?_,⟨hgo,?_,?_,hnow3,?_,?_,?_,HM17.out,?_,?_,?_⟩⟩
        · simp only;congr 1<;>omega
        · simp only;congr 1<;>omega
        · simp only;omega
        · simp only;omega
        · rw[scan_snoc,HL.out.scan,HSC2.out,HNW.out]
        · intro y hy
          rcases List.mem_append.1 hy with h|h
          · exact HL.out.bs6 y h
          · simp at h
            omega
        · simp only[List.length_append,List.length_singleton];omega
        · simp only;omega
        · simp only[List.length_append,List.length_singleton];omega
        · simp only[List.length_append,List.length_singleton];omega
      case measure=>omega
end Rf
end Go.Proofs.YtilegoadokmcdaaGreatDoor
