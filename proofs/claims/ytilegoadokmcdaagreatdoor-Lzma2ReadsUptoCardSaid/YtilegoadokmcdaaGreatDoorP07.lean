/- Part 7 of 53: lemmas of the last part, each under the conditions that it names. -/
import Derived.Test.YtilegoadokmcdaaGreatDoorRows
import Derived.BigRegion
import Derived.Deep.QuietTactic
import Derived.BigQuiet
import Derived.WalkLawsBesides
import Derived.Recover
import Derived.Orders
import Derived.WalkKit
import Derived.IntWalk
import Derived.WalkSpells
import Derived.Lib.Hide
import Derived.Deep.RegionWith
import Derived.Test.YtilegoadokmcdaaGreatDoorP01
import Derived.Test.YtilegoadokmcdaaGreatDoorP06
set_option linter.unusedVariables false
set_option linter.unusedSimpArgs false
set_option maxRecDepth 1500
set_option maxHeartbeats 4000000
namespace Go.Proofs.YtilegoadokmcdaaGreatDoor
open Go.RowKit
namespace Rc
open Mem
def decV(bv:Value)(d:D):Array Value:=#[bv,.int .i64 d.read,.int .u32 d.rng,.int .u32 d.now]
def At(w:World)(B:Nat)(bv:Value)(d:D):Prop:=w.heap[B]? =some (.cells (decV bv d) 234 (0,0))∧Rd w bv d.b
theorem At.cells{w:World}{B:Nat}{bv:Value}{d:D}(h:At w B bv d):w.cell? ⟨B,0,none⟩=some bv∧w.cell? ⟨B,1,none⟩=some (.int .i64 d.read)∧w.cell? ⟨B,2,none⟩=some (.int .u32 d.rng)∧w.cell? ⟨B,3,none⟩=some (.int .u32 d.now)∧(∀i,w.frozen? ⟨B,i,none⟩=false):=
 ⟨cell_in h.1 rfl,cell_in h.1 rfl,cell_in h.1 rfl,cell_in h.1 rfl,fun i=>frozen_in h.1 i⟩
theorem At.apart{w:World}{B:Nat}{bv:Value}{d:D}(h:At w B bv d)(h0:0<d.b.length):∀k,bv.ownBlock=some k→k≠B:=by
 obtain⟨h1,p,cap,rfl,_,_,h3⟩:=h
 obtain⟨b,o,rfl,hc⟩:=h3 h0
 intro k hk
 simp only[Value.ownBlock,Option.some.injEq] at hk
 subst hk
 rintro rfl
 have h4:=hc 0 d.b[0] (by simp[h0])
 rw[cell_of_row w _ _ _ _ _ h1] at h4
 simp only[decV,bv,Nat.add_zero] at h4
 match o,h4 with
 |0,h4=>simp at h4
 |1,h4=>simp at h4
 |2,h4=>simp at h4
 |3,h4=>simp at h4
 |o+4,h4=>simp at h4
theorem At.keep{S:Nat→Prop}{w w':World}{B:Nat}{bv:Value}{d:D}(h:At w B bv d)(hfr:Fr S w w')(hB:¬S B)(hb:∀k,bv.ownBlock=some k→¬S k):At w' B bv d:=
 ⟨hfr.keep h.1 hB,h.2.step hfr hb⟩
theorem At.new{w w':World}{B:Nat}{bv:Value}{d e:D}(h:At w B bv d)(hd:0<d.b.length)(hb:e.b=d.b)(hfr:Fr (fun k=>k=B) w w')(hc:w'.heap[B]? =some (.cells (decV bv e) 234 (0,0))):At w' B bv e:=
 ⟨hc,by rw[hb];exact h.2.step hfr (fun k hk=>h.apart hd k hk)⟩
theorem upper_calls(B:Nat)(bv:Value)(d:D)(cut:Nat)(w:World)(h:At w B bv d)(hok:d.ok)(hcut:cut<d.rng):
 Calls Tryz.prog 197 #[.pointer (some ⟨B,0,none⟩),.int .u32 cut] w fun e w'=>e=.returned (.bool (decide ((d.upper cut).1=1)))∧Fr (fun k=>k=B) w w'∧At w' B bv (d.upper cut).2:=by
 obtain⟨c0,c1,c2,c3,cf⟩:=h.cells
 obtain⟨h1,h2,h3,h4,h5⟩:=hok
 have f2:=cf 2
 have f3:=cf 3
 have HA:=Hd h
 obtain⟨b,rd,rng,now⟩:=d
 simp only at*
 by_cases hlt:now<cut
 ·have hd:decide ((now:Int)<(cut:Int))=true:=by simp;omega
  have hu:D.upper ⟨b,rd,rng,now⟩ cut=(0,⟨b,rd,cut,now⟩):=by unfold D.upper;simp[hlt]
  rw[hu]
  clear h cf hu
  go_enter Tryz.func197,Tryz.ntmps197
  go_wp2_with fail
  go_ret
  have hfr:=Fr.one w B 2 (.int .u32 cut)
  exact⟨rfl,hfr,HA.out.new (d:=⟨b,rd,rng,now⟩) h5 rfl hfr (set_in HA.out.1 2 _)⟩
 ·have hd:decide ((now:Int)<(cut:Int))=false:=by simp;omega
  have hu:D.upper ⟨b,rd,rng,now⟩ cut=(1,⟨b,rd,rng-cut,now-cut⟩):=by unfold D.upper;simp[hlt]
  rw[hu]
  clear h cf hu
  have hs1:=set_in HA.out.1 3 (.int .u32 ((now:Int)-cut))
  have g2:(w.setCell ⟨B,3,none⟩ (.int .u32 ((now:Int)-cut))).cell? ⟨B,2,none⟩=some (.int .u32 rng):=cell_in hs1 rfl
  have k2:=frozen_in hs1 2
  have HS:=Hd hs1
  clear hs1
  go_enter Tryz.func197,Tryz.ntmps197
  go_wp2_with fail
  go_ret
  have hfr:=(Fr.one w B 3 (.int .u32 ((now:Int)-cut))).trans (Fr.one _ B 2 (.int .u32 ((rng:Int)-cut)))
  refine⟨rfl,hfr,HA.out.new (d:=⟨b,rd,rng,now⟩) h5 rfl hfr ?_⟩
  rw[set_in HS.out 2 _]
  congr 3
  simp only[decV]
  rw[show((rng-cut:Nat):Int)=(rng:Int)-cut by omega,show((now-cut:Nat):Int)=(now:Int)-cut by omega]
  rfl
set_option maxRecDepth 100000 in
theorem widen_keep(B:Nat)(bv:Value)(d:D)(w:World)(h:At w B bv d)(hr:16777216≤d.rng):
 Calls Tryz.prog 199 #[.pointer (some ⟨B,0,none⟩)] w fun e w'=>e=.returned (.tuple #[])∧w'=w:=by
 obtain⟨c0,c1,c2,c3,cf⟩:=h.cells
 have hd:decide ((16777216:Int)≤(d.rng:Int))=true:=by simp;omega
 have hd2:decide ((d.rng:Int)≥16777216)=true:=by simp;omega
 generalize d.rng=rng at*
 clear h cf
 go_enter Tryz.func199,Tryz.ntmps199
 go_wp2_with fail
 refine bodyPost_ret (results_none rfl _ _ _) rfl ?_
 exact⟨rfl,rfl⟩
set_option maxRecDepth 100000 in
theorem widen_none(B:Nat)(bv:Value)(d:D)(w:World)(h:At w B bv d)(hok:d.ok)(hr:d.widen=none):
 Calls Tryz.prog 199 #[.pointer (some ⟨B,0,none⟩)] w fun e w'=>e=.panicked [{v:=.iface 333 (.int .i64 1),recovered:=false}]∧Fr (fun _=>False) w w':=by
 obtain⟨c0,c1,c2,c3,cf⟩:=h.cells
 obtain⟨pb,cb,rfl⟩:∃p c,bv=.slice p d.b.length c:=by obtain⟨p,c,h,_⟩:=h.2;exact⟨p,c,h⟩
 obtain⟨h1,h2,h3,h4,h5⟩:=hok
 have hq:d.rng<16777216∧d.read=d.b.length:=by
  unfold D.widen at hr
  split at hr
  ·cases hr
  ·split at hr
   ·rename_i hn
    have:=List.getElem?_eq_none_iff.1 hn
    omega
   ·cases hr
 have hd:decide ((16777216:Int)≤(d.rng:Int))=false:=by simp;omega
 have hd2:decide ((d.rng:Int)≥16777216)=false:=by simp;omega
 have he:((d.read:Int)==(d.b.length:Int))=true:=by simp;omega
 generalize d.rng=rng at*
 generalize d.read=rd at*
 generalize d.b.length=n at*
 clear h cf hr
 go_enter Tryz.func199,Tryz.ntmps199
 go_wp2_with fail
 go_quiet (fail)
 go_wp2_with fail
 exact⟨rfl,rfl,(Fr.refl _ _).drewN _⟩
set_option maxRecDepth 100000 in
theorem widen_step(B:Nat)(bv:Value)(d e:D)(w:World)(h:At w B bv d)(hok:d.ok)(hlt:d.rng<16777216)(hr:d.widen=some e):
 Calls Tryz.prog 199 #[.pointer (some ⟨B,0,none⟩)] w fun r w'=>r=.returned (.tuple #[])∧Fr (fun k=>k=B) w w'∧At w' B bv e:=by
 obtain⟨c0,c1,c2,c3,cf⟩:=h.cells
 obtain⟨pb,cb,rfl⟩:∃p c,bv=.slice p d.b.length c:=by obtain⟨p,c,h,_⟩:=h.2;exact⟨p,c,h⟩
 obtain⟨h1,h2,h3,h4,h5⟩:=hok
 have HA:=Hd h
 obtain⟨c,hc,rfl⟩:∃c,d.b[d.read]? =some c∧e=⟨d.b,d.read+1,d.rng*256,d.now*256+c.toNat⟩:=by
  unfold D.widen at hr
  rw[if_neg (by omega)] at hr
  split at hr
  ·cases hr
  ·rename_i c hc
   exact⟨c,hc,(Option.some.inj hr).symm⟩
 have hrl:d.read<d.b.length:=(List.getElem?_eq_some_iff.1 hc).1
 obtain⟨bb,bo,rfl,hbc⟩:∃b o,pb=some ⟨b,o,none⟩∧w.cell? ⟨b,o+d.read,none⟩=some (.int .u8 (c.toNat:Int)):=by
  obtain⟨p,cp,he,_,_,h6⟩:=h.2
  simp only[Value.slice.injEq] at he
  obtain⟨b,o,hp,hq⟩:=h6 h5
  exact⟨b,o,he.1.trans hp,hq _ _ hc⟩
 have hap:=h.apart h5 bb rfl
 have hcb:=UInt8.toNat_lt c
 have hor:=or_byte d.now c.toNat (by omega) hcb
 have HOR:=Hd hor
 have HOK:=Hd (show 0<d.b.length from h5)
 obtain⟨b,rd,rng,now⟩:=d
 simp only at*
 have hd:decide ((16777216:Int)≤(rng:Int))=false:=by simp;omega
 have hd2:decide ((rng:Int)≥16777216)=false:=by simp;omega
 have he:((rd:Int)==(b.length:Int))=false:=by simp;omega
 generalize hn:b.length=n at*
 have HN:=Hd hn
 clear hn
 generalize hy:c.toNat=y at*
 have HY:=Hd hy
 clear h cf hr hor hc hy
 go_enter Tryz.func199,Tryz.ntmps199
 go_wp2_with fail
 go_quiet (fail)
 have hAW:At (World.drewN w nq) B (.slice (some ⟨bb,bo,none⟩) n cb) ⟨b,rd,rng,now⟩:=HA.out.keep ((Fr.refl (fun _=>False) w).drewN nq) (fun h=>h) (fun _ _ h=>h)
 have hbW:(World.drewN w nq).cell? ⟨bb,bo+rd,none⟩=_:=hbc
 have hfW:=(Fr.refl (fun k=>k=B) w).drewN nq
 generalize World.drewN w nq=W at*
 obtain⟨d0,d1,d2,d3,df⟩:=hAW.cells
 have df2:=df 2
 have s1:=set_in hAW.1 2 (.int .u32 ((rng:Int)*256))
 have g0:(W.setCell ⟨B,2,none⟩ (.int .u32 ((rng:Int)*256))).cell? ⟨B,0,none⟩=some (.slice (some ⟨bb,bo,none⟩) n cb):=cell_in s1 rfl
 have g1:(W.setCell ⟨B,2,none⟩ (.int .u32 ((rng:Int)*256))).cell? ⟨B,1,none⟩=some (.int .i64 rd):=cell_in s1 rfl
 have g3:(W.setCell ⟨B,2,none⟩ (.int .u32 ((rng:Int)*256))).cell? ⟨B,3,none⟩=some (.int .u32 now):=cell_in s1 rfl
 have gf3:=frozen_in s1 3
 have gb:(W.setCell ⟨B,2,none⟩ (.int .u32 ((rng:Int)*256))).cell? ⟨bb,bo+rd,none⟩=some (.int .u8 (y:Int)):=by
  rw[World.cell?_of_block (w:=W) (heap_setCell_other W _ bb _ (fun e=>hap e))]
  exact hbW
 have s1':(W.setCell ⟨B,2,none⟩ (.int .u32 ((rng:Int)*256))).drew.heap[B]? =some (.cells #[.slice (some ⟨bb,bo,none⟩) n cb,.int .i64 rd,.int .u32 ((rng:Int)*256),.int .u32 now] 234 (0,0)):=s1
 have HFW:=Hd (hfW.trans (Fr.one W B 2 (.int .u32 ((rng:Int)*256))))
 have hw1:rd<9223372036854775807:=by omega
 have i1:(0:Int)≤(rd:Int):=by omega
 have i2:(rd:Int)<(n:Int):=by omega
 have hnow:now<16777216:=by omega
 have hpm:((now*256:Nat):Int)=(now:Int)*256:=by omega
 rw[hpm] at HOR
 have HS1:=Hd s1'
 clear c0 c1 c2 c3 hbc df s1 s1' hAW d0 d1 d3 hbW hfW hpm HY
 go_wp2_with fail
 generalize World.setCell W _ _=W1 at*
 have t1:=fun v=>set_in (w:=W1.drew) HS1.out 3 v
 have u1:∀v,(W1.setCell ⟨B,3,none⟩ v).drew.cell? ⟨B,1,none⟩=some (.int .i64 rd):=fun v=>cell_in (t1 v) rfl
 have u1':∀v,(W1.setCell ⟨B,3,none⟩ v).cell? ⟨B,1,none⟩=some (.int .i64 rd):=fun v=>cell_in (t1 v) rfl
 have uf1':∀v,(W1.setCell ⟨B,3,none⟩ v).frozen? ⟨B,1,none⟩=false:=fun v=>frozen_in (t1 v) 1
 have T1:=Hd t1
 clear t1
 go_region
 all_goals go_wp2_with fail
 go_end0
 have hv:=HOR.out
 have hfr:Fr (fun k=>k=B) w _:=((HFW.out.trans (Fr.one W1 B 3 (.int .u32 (bits BinOp.or IntKind.u32 ((now:Int)*256) (y:Int))))).trans (Fr.one _ B 1 (.int .i64 ((rd:Int)+1)))).drew
 refine⟨rfl,hfr,HA.out.new (d:=⟨b,rd,rng,now⟩) (by have:=HN.out;simp only;omega) rfl hfr ?_⟩
 have h1:=set_in (T1.out (.int .u32 (bits BinOp.or IntKind.u32 ((now:Int)*256) (y:Int)))) 1 (.int .i64 ((rd:Int)+1))
 rw[hv] at h1 ⊢
 have e1:((rng*256:Nat):Int)=(rng:Int)*256:=by omega
 have e2:((rd+1:Nat):Int)=(rd:Int)+1:=by omega
 show _=some (Obj.cells #[.slice (some ⟨bb,bo,none⟩) n cb,.int .i64 ((rd+1:Nat):Int),.int .u32 ((rng*256:Nat):Int),.int .u32 ((now*256+y:Nat):Int)] _ _)
 rw[e1,e2]
 exact h1
end Rc
namespace Mem
def allOrders(md:Region.Mode)(ops:Array Oper):Nat→Array Bool→List (List Nat)
 |0,_=>[[]]
 |fuel+1,listed=>if Region.ready md ops listed=[] then[[]] else(Region.ready md ops listed).flatMap fun i=>(allOrders md ops fuel (listed.setIfInBounds i true)).map (i::·)
theorem lin_mem(md:Region.Mode)(ops:Array Oper):∀(fuel t:Nat)(listed:Array Bool),Region.linearise.go md ops fuel t listed [] ∈ allOrders md ops fuel listed:=by
 intro fuel
 induction fuel with
 |zero=>intro t listed;simp[Region.linearise.go,allOrders]
 |succ fuel ih=>
   intro t listed
   simp only[Region.linearise.go]
   change (match (Region.ready md ops listed)[t%(Region.ready md ops listed).length]? with
    |some i=>Region.linearise.go md ops fuel (t/(Region.ready md ops listed).length) (listed.setIfInBounds i true) [i]
    |none=>[].reverse) ∈ _
   unfold allOrders
   cases hi:(Region.ready md ops listed)[t%(Region.ready md ops listed).length]? with
   |none=>
     have hnil:Region.ready md ops listed=[]:=by
      cases hr:Region.ready md ops listed with
      |nil=>rfl
      |cons x xs=>
        rw[hr] at hi
        have hlt:t%(x::xs).length<(x::xs).length:=Nat.mod_lt _ (by simp)
        simp at hi
        simp at hlt
        omega
     rw[if_pos hnil]
     simp
   |some i=>
     have hm:=List.mem_of_getElem? hi
     rw[if_neg (by rintro h;rw[h] at hm;cases hm)]
     simp only[]
     rw[linearise_go_acc,List.reverse_singleton,List.singleton_append]
     exact List.mem_flatMap.2 ⟨i,hm,List.mem_map.2 ⟨_,ih _ _,rfl⟩⟩
theorem wpS_region_draw{P:Program}{Q:Exit→Act→List Frame→World→Prop}{a:Act}{cs:List Frame}{w:World}{id:Nat}{ops:Array Oper}(hm:P.follows .mixedOrders=true)
 (h:∀l ∈ allOrders .any ops ops.size (Array.replicate ops.size false),wpOpsS P ops Q l a cs w.drew):(Code.region id ops true).wpS P Q a cs w:=by
 intro b k hb hr
 have hl:=lin_mem .any ops ops.size (w.tape w.drawn (.order b.fn id)) (Array.replicate ops.size false)
 have hs:Region.schedule (P.follows .mixedOrders) ops (w.tape w.drawn (.order b.fn id))=Region.linearise.go .any ops ops.size (w.tape w.drawn (.order b.fn id)) (Array.replicate ops.size false) []:=by
  simp only[Region.schedule,hm,Bool.true_or,if_true]
  rfl
 obtain⟨e,a',cs',w',q,r⟩:=wp_opsS _ a cs w.drew (h _ hl) b k hb hr
 refine⟨e,a',cs',w',q,.of_steps (.one ?_) r⟩
 rw[step_region_draw,hs]
 rfl
end Mem
end Go.Proofs.YtilegoadokmcdaaGreatDoor
namespace Go.Proofs.YtilegoadokmcdaaGreatDoor
namespace Prob
def taken(p:Int):Int:=if p<0 then 0 else if 2047<p then 2047 else p
def next(p bit:Int):Int:=if bit=0 then taken p+(2048-taken p)/32 else taken p-taken p/32
def bnd(r p:Int):Int:=(r/2048)*taken p
theorem taken_lo(p:Int):0≤taken p:=by unfold taken;split<;>(try split)<;>omega
theorem taken_hi(p:Int):taken p≤2047:=by unfold taken;split<;>(try split)<;>omega
theorem taken_id(p:Int)(h:0≤p)(h2:p≤2047):taken p=p:=by unfold taken;rw[if_neg (by omega),if_neg (by omega)]
end Prob
end Go.Proofs.YtilegoadokmcdaaGreatDoor
namespace Go.Proofs.YtilegoadokmcdaaGreatDoor
open Go.RowKit
namespace Prob
theorem bnd_in(r p:Int)(h0:0≤r)(h1:r≤4294967295):r/2048*taken p%4294967296=bnd r p:=by
 have h2:=taken_lo p
 have h3:=taken_hi p
 unfold bnd
 have hm:0≤r/2048*taken p:=Int.mul_nonneg (by omega) h2
 have hM:r/2048*taken p≤2097151*2047:=Int.mul_le_mul (by omega) h3 h2 (by omega)
 exact Int.emod_eq_of_lt hm (by omega)
theorem ret_int{k:IntKind}{a b:Int}(h:a=b):Ending.returned (.int k a)=.returned (.int k b):=by rw[h]
theorem taken_calls(p:Int)(w:World):
 Calls Tryz.prog 220 #[.int .i64 p] w fun e w'=>e=.returned (.int .i64 (taken p))∧w=w':=by
 go_enter Tryz.func220,Tryz.ntmps220
 go_wp2
 all_goals go_ret
 all_goals refine⟨ret_int ?_,rfl⟩
 all_goals(unfold taken;repeat' split)
 all_goals omega
theorem next_calls(p b:Int)(w:World):
 Calls Tryz.prog 219 #[.int .i64 p,.int .i64 b] w fun e w'=>e=.returned (.int .i64 (next p b))∧w=w':=by
 have h0:=taken_lo p
 have h1:=taken_hi p
 go_enter Tryz.func219,Tryz.ntmps219
 go_wp2_with ((with_reducible refine(taken_calls _ _).mono ?_);rintro e w' ⟨rfl,rfl⟩)
 all_goals go_ret
 all_goals refine⟨ret_int ?_,rfl⟩
 all_goals simp only[beq_iff_eq,beq_eq_false_iff_ne] at*
 all_goals(unfold next;first|rw[if_pos (by assumption)]|rw[if_neg (by assumption)])
theorem boundR_calls(r p:Int)(w:World)(h0:0≤r)(h1:r≤4294967295):
 Calls Tryz.prog 198 #[.int .u32 r,.int .i64 p] w fun e w'=>e=.returned (.int .u32 (bnd r p))∧w=w':=by
 have h2:=taken_lo p
 have h3:=taken_hi p
 go_enter Tryz.func198,Tryz.ntmps198
 go_wp2_with ((with_reducible refine(taken_calls _ _).mono ?_);rintro e w' ⟨rfl,rfl⟩)
 all_goals go_ret
 all_goals refine⟨ret_int ?_,rfl⟩
 all_goals exact bnd_in r p h0 h1
end Prob
namespace Prob
open Mem
theorem rep_at(cs:Array Value)(k:Nat)(h:k<cs.size)(v:Value):((List.replicate k v).toArray++cs.extract k cs.size)[k]? =cs[k]? :=by
 rw[Array.getElem?_append]
 simp[Array.getElem?_extract]
 omega
theorem rep_set(cs:Array Value)(k:Nat)(h:k<cs.size)(v:Value):
 ((List.replicate k v).toArray++cs.extract k cs.size).setIfInBounds k v=(List.replicate (k+1) v).toArray++cs.extract (k+1) cs.size:=by
 apply Array.ext_getElem?
 intro i
 rw[Array.getElem?_setIfInBounds,Array.getElem?_append,Array.getElem?_append]
 by_cases h1:k=i
 ·subst h1;simp[h];omega
 ·rw[if_neg h1]
  by_cases h2:i<k
  ·simp[h2,show i<k+1 by omega]
  ·simp[show¬i<k by omega,show¬i<k+1 by omega,Array.getElem?_extract]
   rw[show k+1+(i-(k+1))=k+(i-k) by omega]
   by_cases h3:i<cs.size
   ·rw[if_pos (by omega),if_pos (by omega)]
   ·rw[if_neg (by omega),if_neg (by omega)]
theorem len_calls(b g n cap:Nat)(w:World)(hb:w.cell? ⟨b,0,none⟩=some (.slice (some ⟨g,0,none⟩) n cap)):
 Calls Tryz.prog 239 #[.pointer (some ⟨b,0,none⟩)] w fun e w'=>e=.returned (.int .i64 n)∧w=w':=by
 go_enter Tryz.func239,Tryz.ntmps239
 go_wp2
 go_ret
 exact⟨rfl,rfl⟩
theorem has_calls(b:Nat)(p:Option Addr)(n cap:Nat)(i:Int)(w:World)(hb:w.cell? ⟨b,0,none⟩=some (.slice p n cap)):
 Calls Tryz.prog 218 #[.pointer (some ⟨b,0,none⟩),.int .i64 i] w fun e w'=>e=.returned (.int .i64 (if 0≤i∧i<n then 0 else 7))∧w=w':=by
 by_cases h0:i<0
 ·go_enter Tryz.func218,Tryz.ntmps218
  go_wp2
  go_ret
  exact⟨rfl,rfl⟩
 ·have h1:0≤i:=by omega
  have hd:decide (i<0)=false:=by simp;omega
  by_cases h2:(n:Int)≤i
  all_goals
   go_enter Tryz.func218,Tryz.ntmps218
   go_wp2
   go_ret
   exact⟨rfl,rfl⟩
theorem turn_in(b g n cap i:Nat)(cs:Array Value)(p bit:Int)(w:World)(hb:w.heap[b]? =some (.cells #[.slice (some ⟨g,0,none⟩) n cap] 285 (0,0)))
 (hg:w.heap[g]? =some (.cells cs 3 (0,0)))(hi:i<n)(hn:n≤maxLen)(hp:cs[i]? =some (.int .i64 p))(hbg:b≠g):
 Calls Tryz.prog 196 #[.pointer (some ⟨b,0,none⟩),.int .i64 i,.int .i64 bit] w fun e w'=>e=.returned (.int .i64 0)∧
  Fr (fun k=>k=g) w w'∧w'.heap[g]? =some (.cells (cs.setIfInBounds i (.int .i64 (next p bit))) 3 (0,0))∧w'.heap.size=w.heap.size:=by
 have hcb:=cell_in (i:=0) hb rfl
 have hcg:=cell_in hg hp
 have hf:=frozen_in hg i
 have Hb:=Hd hb
 have Hg:=Hd hg
 have Hp:=Hd hp
 clear hb hg hp
 unfold maxLen at hn
 go_enter Tryz.func196,Tryz.ntmps196
 go_wp2_with ((with_reducible refine(has_calls _ _ _ _ _ _ hcb).mono ?_);rintro e w' ⟨rfl,rfl⟩)
 go_region_with ((with_reducible refine(next_calls _ _ _).mono ?_);rintro e w' ⟨rfl,rfl⟩)
 all_goals go_wp2
 all_goals go_ret
 all_goals exact⟨rfl,(Fr.one _ _ _ _).drew,set_in Hg.out _ _,by simp⟩
theorem reset_calls(b g n cap:Nat)(cs:Array Value)(w:World)(hb:w.heap[b]? =some (.cells #[.slice (some ⟨g,0,none⟩) n cap] 285 (0,0)))
 (hg:w.heap[g]? =some (.cells cs 3 (0,0)))(hn:n≤maxLen)(hc:n≤cs.size)(hbg:b≠g):
 Calls Tryz.prog 161 #[.pointer (some ⟨b,0,none⟩)] w fun e w'=>e=.returned (.tuple #[])∧
  Fr (fun k=>k=g) w w'∧w'.heap[g]? =some (.cells ((List.replicate n (.int .i64 1024)).toArray++cs.extract n cs.size) 3 (0,0))∧w'.heap.size=w.heap.size:=by
 have hcb:=cell_in (i:=0) hb rfl
 have Hb:=Hd hb
 have Hg:=Hd hg
 clear hb hg
 unfold maxLen at hn
 go_enter Tryz.func161,Tryz.ntmps161
 go_wp2
 go_loopw [8](fun i wr=>∃k:Nat,k≤n∧i=.int .i64 k∧Fr (fun k=>k=g) w wr∧wr.heap.size=w.heap.size∧
  wr.heap[g]? =some (.cells ((List.replicate k (.int .i64 1024)).toArray++cs.extract k cs.size) 3 (0,0))) (fun i _=>n-(intOf i).toNat)
 case atStart=>exact⟨0,by omega,rfl,Fr.refl _ _,rfl,by rw[Hg.out];simp⟩
 case round=>
  obtain⟨k,hk,rfl,hfr,hsz,hgr⟩:=hrel
  have hcb1:=cell_in (i:=0) (hfr.keep Hb.out hbg) rfl
  have hf1:=frozen_in hgr k
  have Hgr:=Hd hgr
  clear hgr
  by_cases hlt:k<n
  ·have hcg1:wr.cell? ⟨g,k,none⟩=cs[k]? :=by
    rw[cell_of_row _ _ _ _ _ _ Hgr.out]
    exact rep_at cs k (by omega) _
   obtain⟨v,hv⟩:∃v,cs[k]? =some v:=⟨cs[k]'(by omega),by simp⟩
   rw[hv] at hcg1
   clear hv
   go_wp2
   go_roundw
   case rel=>exact⟨k+1,by omega,by go_num,hfr.trans (Fr.one _ _ _ _),by simpa using hsz,by rw[set_in Hgr.out,rep_set cs k (by omega)]⟩
   case measure=>simp[intOf];omega
  ·obtain rfl:k=n:=by omega
   go_wp2
   go_end0
   exact⟨rfl,hfr,Hgr.out,hsz⟩
theorem at_in(b g n cap i:Nat)(p:Int)(w:World)(hb:w.cell? ⟨b,0,none⟩=some (.slice (some ⟨g,0,none⟩) n cap))
 (hg:w.cell? ⟨g,i,none⟩=some (.int .i64 p))(hi:i<n)(hn:n≤maxLen):
 Calls Tryz.prog 193 #[.pointer (some ⟨b,0,none⟩),.int .i64 i] w fun e w'=>e=.returned (.tuple #[.int .i64 p,.int .i64 0])∧w=w':=by
 unfold maxLen at hn
 go_enter Tryz.func193,Tryz.ntmps193
 go_wp2_with ((with_reducible refine(has_calls _ _ _ _ _ _ hb).mono ?_);rintro e w' ⟨rfl,rfl⟩)
 go_ret2
 exact⟨rfl,rfl⟩
theorem at_out(b:Nat)(p:Option Addr)(n cap:Nat)(i:Int)(w:World)(hb:w.cell? ⟨b,0,none⟩=some (.slice p n cap))(hi:i<0∨n≤i):
 Calls Tryz.prog 193 #[.pointer (some ⟨b,0,none⟩),.int .i64 i] w fun e w'=>e=.returned (.tuple #[.int .i64 0,.int .i64 7])∧w=w':=by
 have h7:(if 0≤i∧i<(n:Int) then(0:Int) else 7)=7:=by rw[if_neg (by omega)]
 have H7:=Hd h7
 clear h7
 go_enter Tryz.func193,Tryz.ntmps193
 go_wp2_with ((with_reducible refine(has_calls _ _ _ _ _ _ hb).mono ?_);rw[H7.out];rintro e w' ⟨rfl,rfl⟩)
 go_ret2
 exact⟨rfl,rfl⟩
end Prob
namespace Rc
open Mem
theorem rd_off{w:World}{v:Value}{xs:List UInt8}(h:Rd w v xs)(h0:0<xs.length){g:Nat}{cs:Array Value}{T:TypeId}{fr:Nat×Nat}(hg:w.heap[g]? =some (.cells cs T fr))(hcs:∀(i:Nat)(n:Int),cs[i]? ≠some (Value.int .u8 n)):∀k,v.ownBlock=some k→k≠g:=by
 obtain⟨p,cap,rfl,_,_,h3⟩:=h
 obtain⟨b,o,rfl,hc⟩:=h3 h0
 intro k hk
 simp only[Value.ownBlock,Option.some.injEq] at hk
 subst hk
 rintro rfl
 have h4:=hc 0 xs[0] (by simp[h0])
 rw[cell_of_row w _ _ _ _ _ hg] at h4
 exact hcs (o+0) (xs[0].toNat:Int) h4
theorem no_byte1{v:Value}(h:∀n:Int,v≠Value.int .u8 n):∀(i:Nat)(n:Int),(#[v]:Array Value)[i]? ≠some (Value.int .u8 n)
 |0,n=>by simpa using h n
 |i+1,n=>by simp
def placeV(d:D):Value:=.agg #[.int .i64 d.read,.int .u32 d.rng,.int .u32 d.now]
def refusedV(err:Nat):Value:=.iface 333 (.int .i64 err)
theorem back_nil(B:Nat)(e:D)(w:World):
 Calls Tryz.prog 195 #[.pointer (some ⟨B,0,none⟩),placeV e,.nilIface] w fun r w'=>r=.returned (.int .i64 0)∧Fr (fun _=>False) w w':=by
 unfold placeV
 go_enter Tryz.func195,Tryz.ntmps195
 go_wp2_with fail
 go_ret
 exact⟨rfl,(Fr.refl _ _).alloc _⟩
theorem assert_refused(x:Value)(W:World):(Instr.typeAssert (.iface 333 x) 20 333 true).run Tryz.prog W=.ok (.tuple #[x,.bool true]) W:=by kernel_rfl
set_option maxRecDepth 100000 in
theorem back_some(B:Nat)(bv:Value)(d e:D)(err:Nat)(w:World)(h:At w B bv d)(h0:0<d.b.length)(he:e.b=d.b):
 Calls Tryz.prog 195 #[.pointer (some ⟨B,0,none⟩),placeV e,refusedV err] w fun r w'=>r=.returned (.int .i64 err)∧Fr (fun k=>k=B) w w'∧At w' B bv e:=by
 unfold placeV refusedV
 have hfa:=(Fr.refl (fun k=>k=B) w).alloc (.cells #[.int .i64 e.read,.int .u32 e.rng,.int .u32 e.now] 232)
 have hbn:=heap_alloc_new w (.cells #[.int .i64 e.read,.int .u32 e.rng,.int .u32 e.now] 232)
 have hB:=lt_of_block h.1
 have hAa:=h.keep ((Fr.refl (fun _=>False) w).alloc (.cells #[.int .i64 e.read,.int .u32 e.rng,.int .u32 e.now] 232)) (fun h=>h) (fun _ _ h=>h)
 obtain⟨c0,c1,c2,c3,cf⟩:=hAa.cells
 have f1:=cf 1
 have f2:=cf 2
 have f3:=cf 3
 have HA:=Hd hAa
 have HN:=Hd hbn
 have s1:=set_in h.1 1 (.int .i64 e.read)
 have s2:=set_in s1 2 (.int .u32 e.rng)
 have s3:=set_in s2 3 (.int .u32 e.now)
 have hal:=fun(W:World)=>(Fr.refl (fun _=>False) W).alloc (.cells #[.int .i64 e.read,.int .u32 e.rng,.int .u32 e.now] 232)
 have r1:=(hal _).keep s1 (fun h=>h)
 have r2:=(hal _).keep s2 (fun h=>h)
 have a2:=cell_in (v:=.int .u32 d.rng) r1 (i:=2) rfl
 have b2:=frozen_in r1 2
 have a3:=cell_in (v:=.int .u32 d.now) r2 (i:=3) rfl
 have b3:=frozen_in r2 3
 have HF3:=Hd ((((Fr.one w B 1 (.int .i64 e.read)).trans (Fr.one _ B 2 (.int .u32 e.rng))).trans (Fr.one _ B 3 (.int .u32 e.now))).alloc (.cells #[.int .i64 e.read,.int .u32 e.rng,.int .u32 e.now] 232))
 have HS3:=Hd ((hal _).keep s3 (fun h=>h))
 have H0:=Hd h
 clear s1 s2 s3 r1 r2 hal
 have hta:=assert_refused (.int .i64 err)
 clear cf h hAa hbn
 go_enter Tryz.func195,Tryz.ntmps195
 go_wp2_with fail
 go_ret
 exact⟨rfl,HF3.out,H0.out.new h0 he HF3.out HS3.out⟩
end Rc
namespace Prob
open Mem
theorem infoInt:(Tryz.prog.info? 3).map (fun i=>(i.zero,i.size,i.bytes))=some (some (.int .i64 0),1,8):=by kernel_rfl
theorem make_ints(n:Nat)(h:n≤35184372088832)(W:World):
 (Instr.makeSlice 79 (.int .i64 n) (.int .i64 n)).run Tryz.prog W=.ok (.slice (some ⟨W.heap.size,0,none⟩) n n) (W.alloc (.cells (Array.replicate n (.int .i64 0)) 3)):=by
 obtain⟨i,hi,hz,hs,hb⟩:=info_parts infoInt
 have:=run_make (P:=Tryz.prog) W 79 3 i (.int .i64 0) Tryz.underlying79 hi hz .i64 .i64 n n (by omega) (by omega) (by rw[hb];omega) (by omega)
 rw[this,hs,Int.toNat_natCast,Nat.mul_one]
 have e:madeCells (Value.int .i64 0).cells n=Array.replicate n (Value.int .i64 0):=by
  apply Array.ext
  ·simp[madeCells]
  ·intro k h1 h2
   simp[madeCells,Value.cells,Nat.mod_one]
 rw[e]
theorem new_in(n:Nat)(w:World)(hn:n≤1048576):
 Calls Tryz.prog 116 #[.int .i64 n] w fun e w'=>e=.returned (.tuple #[.pointer (some ⟨w.heap.size+1,0,none⟩),.int .i64 0])∧
  Fr (fun _=>False) w w'∧w'.heap[w.heap.size+1]? =some (.cells #[.slice (some ⟨w.heap.size,0,none⟩) n n] 285 (0,0))∧
  w'.heap[w.heap.size]? =some (.cells (List.replicate n (.int .i64 1024)).toArray 3 (0,0))∧w'.heap.size=w.heap.size+2:=by
 go_enter Tryz.func116,Tryz.ntmps116
 have hmk:=make_ints n (by omega)
 go_wp2_with fail
 refine(reset_calls (w.heap.size+1) w.heap.size n n (Array.replicate n (.int .i64 0)) _ (heap_alloc2_new w _ _) (heap_alloc2_old w _ _) (by simp only[maxLen];omega) (by simp) (by omega)).mono ?_
 rintro e w1 ⟨rfl,hfr,hg,hsz⟩
 have hfr0:Fr (fun _=>False) w w1:=(((Fr.refl (fun _=>False) w).alloc _).alloc _).trans' hfr (fun i hi(h:i=_)=>by omega)
 have hb:=hfr.keep (heap_alloc2_new w _ _) (by simp)
 simp only[World.size_alloc] at hsz
 have HG:=Hd hg
 have HB:=Hd hb
 have HS:=Hd hsz
 clear hg hb hfr hsz
 go_wp2
 go_ret2
 exact⟨rfl,hfr0,HB.out,by rw[HG.out];simp,HS.out⟩
end Prob
namespace Prob
open Mem
def nextN(p bit:Nat):Nat:=if bit=0 then p+(2048-p)/32 else p-p/32
theorem next_nat (p bit:Nat) (hp:p≤2047):next (p:Int) (bit:Int)=(nextN p bit:Int):=by
 unfold next nextN
 rw[taken_id _ (by omega) (by omega)]
 by_cases h:bit=0
 ·rw[if_pos (by omega),if_pos h];omega
 ·rw[if_neg (by omega),if_neg h];omega
theorem nextN_le(p bit:Nat)(hp:p≤2047):nextN p bit≤2047:=by unfold nextN;split<;>omega
def SetAt(w:World)(b g:Nat)(ps:List Nat):Prop:=
 ∃cap cs,w.heap[b]? =some (.cells #[.slice (some ⟨g,0,none⟩) ps.length cap] 285 (0,0))∧w.heap[g]? =some (.cells cs 3 (0,0))∧ps.length≤cap∧cap≤maxLen∧
  (∀(i:Nat)(p:Nat),ps[i]? =some p→cs[i]? =some (.int .i64 p)∧p≤2047)∧(∀(j:Nat)(x:Value),cs[j]? =some x→∃n:Int,x=.int .i64 n)
theorem SetAt.apart{w:World}{b g:Nat}{ps:List Nat}(h:SetAt w b g ps):b≠g:=by
 obtain⟨cap,cs,h1,h2,_⟩:=h
 rintro rfl
 rw[h1] at h2
 simp at h2
theorem SetAt.lt{w:World}{b g:Nat}{ps:List Nat}(h:SetAt w b g ps):b<w.heap.size∧g<w.heap.size:=by
 obtain⟨cap,cs,h1,h2,_⟩:=h
 exact⟨lt_of_block h1,lt_of_block h2⟩
theorem SetAt.step{S:Nat→Prop}{w w':World}{b g:Nat}{ps:List Nat}(h:SetAt w b g ps)(hfr:Fr S w w')(hb:¬S b)(hg:¬S g):SetAt w' b g ps:=by
 obtain⟨cap,cs,h1,h2,h3⟩:=h
 exact⟨cap,cs,hfr.keep h1 hb,hfr.keep h2 hg,h3⟩
theorem SetAt.keep{w w':World}{b g:Nat}{ps:List Nat}(h:SetAt w b g ps)(hfr:Fr (fun _=>False) w w'):SetAt w' b g ps:=h.step hfr (fun h=>h) (fun h=>h)
theorem at_set(b g i p:Nat)(ps:List Nat)(w:World)(h:SetAt w b g ps)(hp:ps[i]? =some p):
 Calls Tryz.prog 193 #[.pointer (some ⟨b,0,none⟩),.int .i64 i] w fun e w'=>e=.returned (.tuple #[.int .i64 p,.int .i64 0])∧w=w':=by
 obtain⟨cap,cs,h1,h2,h3,h4,h5,h6⟩:=h
 have hi:=(List.getElem?_eq_some_iff.1 hp).1
 exact at_in b g ps.length cap i p w (cell_in h1 rfl) (cell_in h2 (h5 i p hp).1) hi (by omega)
theorem at_none(b g i:Nat)(ps:List Nat)(w:World)(h:SetAt w b g ps)(hp:ps[i]? =none):
 Calls Tryz.prog 193 #[.pointer (some ⟨b,0,none⟩),.int .i64 i] w fun e w'=>e=.returned (.tuple #[.int .i64 0,.int .i64 7])∧w=w':=by
 obtain⟨cap,cs,h1,h2,h3,h4,h5,h6⟩:=h
 have hi:=List.getElem?_eq_none_iff.1 hp
 exact at_out b _ ps.length cap i w (cell_in h1 rfl) (.inr (by omega))
theorem turn_set(b g i p bit:Nat)(ps:List Nat)(w:World)(h:SetAt w b g ps)(hp:ps[i]? =some p):
 Calls Tryz.prog 196 #[.pointer (some ⟨b,0,none⟩),.int .i64 i,.int .i64 bit] w fun e w'=>e=.returned (.int .i64 0)∧Fr (fun k=>k=g) w w'∧SetAt w' b g (ps.set i (nextN p bit)):=by
 have hbg:=h.apart
 obtain⟨cap,cs,h1,h2,h3,h4,h5,h6⟩:=h
 have hi:=(List.getElem?_eq_some_iff.1 hp).1
 have hc:=h5 i p hp
 refine(turn_in b g ps.length cap i cs p bit w h1 h2 hi (by omega) hc.1 hbg).mono ?_
 rintro e w' ⟨rfl,hfr,hg,_⟩
 refine⟨rfl,hfr,cap,_,by rw[List.length_set];exact hfr.keep h1 hbg,hg,by rw[List.length_set];exact h3,h4,fun j q hq=> ?_,fun j x hx=> ?_⟩
 ·have hcs:=(Array.getElem?_eq_some_iff.1 hc.1).1
  rw[List.getElem?_set] at hq
  rw[Array.getElem?_setIfInBounds]
  by_cases hij:i=j
  ·rw[if_pos hij] at hq ⊢
   rw[if_pos (by omega)] at hq
   rw[if_pos (by omega)]
   obtain rfl:=Option.some.inj hq
   exact⟨by rw[next_nat p bit hc.2],nextN_le p bit hc.2⟩
  ·rw[if_neg hij] at hq ⊢
   exact h5 j q hq
 ·rw[Array.getElem?_setIfInBounds] at hx
  split at hx
  ·split at hx
   ·exact⟨_,(Option.some.inj hx).symm⟩
   ·cases hx
  ·exact h6 j x hx
theorem SetAt.off{w:World}{b g:Nat}{ps:List Nat}{v:Value}{xs:List UInt8}(h:SetAt w b g ps)(hr:Rd w v xs)(h0:0<xs.length):∀k,v.ownBlock=some k→k≠g:=by
 obtain⟨cap,cs,h1,h2,_,_,_,h6⟩:=h
 obtain⟨p,cp,rfl,_,_,h3⟩:=hr
 obtain⟨b',o,rfl,hc⟩:=h3 h0
 intro k hk
 simp only[Value.ownBlock,Option.some.injEq] at hk
 subst hk
 rintro rfl
 have h4:=hc 0 xs[0] (by simp[h0])
 rw[cell_of_row w _ _ _ _ _ h2] at h4
 obtain⟨n,hn⟩:=h6 _ _ h4
 simp[bv] at hn
end Prob
end Go.Proofs.YtilegoadokmcdaaGreatDoor
