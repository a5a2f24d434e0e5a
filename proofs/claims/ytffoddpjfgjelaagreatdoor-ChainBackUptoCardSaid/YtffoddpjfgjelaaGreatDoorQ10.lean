/- Part 10 of 48: lemmas of the last part, each under the conditions that it names. -/
import Derived.Test.YtffoddpjfgjelaaGreatDoorRows
import Derived.BigRegion
import Derived.Deep.QuietTactic
import Derived.BigQuiet
import Derived.WalkLawsBesides
import Derived.Recover
import Derived.Orders
import Derived.WalkKit
import Derived.Test.YtffoddpjfgjelaaGreatDoorQ07
import Derived.Test.YtffoddpjfgjelaaGreatDoorQ08
import Derived.Test.YtffoddpjfgjelaaGreatDoorQ09
set_option linter.unusedVariables false
set_option linter.unusedSimpArgs false
set_option maxRecDepth 1500
set_option maxHeartbeats 4000000
namespace Go.Proofs.YtffoddpjfgjelaaGreatDoor
open Go.RowKit
namespace Rc
open Mem
def decV(bv:Value)(d:D):Array Value:=#[bv,.int .i64 d.read,.int .u32 d.rng,.int .u32 d.now]
def At(w:World)(B:Nat)(bv:Value)(d:D):Prop:=w.heap[B]? =some (.cells (decV bv d) 381 (0,0))∧Rd w bv d.b
theorem At.cells{w:World}{B:Nat}{bv:Value}{d:D}(h:At w B bv d):w.cell? ⟨B,0,none⟩=some bv∧w.cell? ⟨B,1,none⟩=some (.int .i64 d.read)∧w.cell? ⟨B,2,none⟩=some (.int .u32 d.rng)∧w.cell? ⟨B,3,none⟩=some (.int .u32 d.now)∧(∀i,w.frozen? ⟨B,i,none⟩=false):=
 ⟨cell_in h.1 rfl,cell_in h.1 rfl,cell_in h.1 rfl,cell_in h.1 rfl,fun i=>frozen_in h.1 i⟩
theorem At.apart{w:World}{B:Nat}{bv:Value}{d:D}(h:At w B bv d)(h0:0<d.b.length):∀k,bv.ownBlock=some k→k≠B:=by
 obtain⟨h1,p,cap,rfl,_,_,h3⟩:=h
 obtain⟨b,o,rfl,hc⟩:=h3 h0
 intro k hk
 simp only[Value.ownBlock,Option.some.injEq] at hk
 subst hk
 rintro rfl
 have h4:=hc 0 d.b[0] (by simp[h0])
 rw[cell_of_row w _ _ _ _ _ h1] at h4
 simp only[decV,bv,Nat.add_zero] at h4
 match o,h4 with
 |0,h4=>simp at h4
 |1,h4=>simp at h4
 |2,h4=>simp at h4
 |3,h4=>simp at h4
 |o+4,h4=>simp at h4
theorem At.keep{S:Nat→Prop}{w w':World}{B:Nat}{bv:Value}{d:D}(h:At w B bv d)(hfr:Fr S w w')(hB:¬S B)(hb:∀k,bv.ownBlock=some k→¬S k):At w' B bv d:=
 ⟨hfr.keep h.1 hB,h.2.step hfr hb⟩
theorem At.new{w w':World}{B:Nat}{bv:Value}{d e:D}(h:At w B bv d)(hd:0<d.b.length)(hb:e.b=d.b)(hfr:Fr (fun k=>k=B) w w')(hc:w'.heap[B]? =some (.cells (decV bv e) 381 (0,0))):At w' B bv e:=
 ⟨hc,by rw[hb];exact h.2.step hfr (fun k hk=>h.apart hd k hk)⟩
theorem upper_calls(B:Nat)(bv:Value)(d:D)(cut:Nat)(w:World)(h:At w B bv d)(hok:d.ok)(hcut:cut<d.rng):
 Calls Tryz.prog 292 #[.pointer (some ⟨B,0,none⟩),.int .u32 cut] w fun e w'=>e=.returned (.bool (decide ((d.upper cut).1=1)))∧Fr (fun k=>k=B) w w'∧At w' B bv (d.upper cut).2:=by
 obtain⟨c0,c1,c2,c3,cf⟩:=h.cells
 obtain⟨h1,h2,h3,h4,h5⟩:=hok
 have f2:=cf 2
 have f3:=cf 3
 have HA:=Hd h
 obtain⟨b,rd,rng,now⟩:=d
 simp only at*
 by_cases hlt:now<cut
 ·have hd:decide ((now:Int)<(cut:Int))=true:=by simp;omega
  have hu:D.upper ⟨b,rd,rng,now⟩ cut=(0,⟨b,rd,cut,now⟩):=by unfold D.upper;simp[hlt]
  rw[hu]
  clear h cf hu
  go_enter Tryz.func292,Tryz.ntmps292
  go_wp2_with fail
  go_ret
  have hfr:=Fr.one w B 2 (.int .u32 cut)
  exact⟨rfl,hfr,HA.out.new (d:=⟨b,rd,rng,now⟩) h5 rfl hfr (set_in HA.out.1 2 _)⟩
 ·have hd:decide ((now:Int)<(cut:Int))=false:=by simp;omega
  have hu:D.upper ⟨b,rd,rng,now⟩ cut=(1,⟨b,rd,rng-cut,now-cut⟩):=by unfold D.upper;simp[hlt]
  rw[hu]
  clear h cf hu
  have hs1:=set_in HA.out.1 3 (.int .u32 ((now:Int)-cut))
  have g2:(w.setCell ⟨B,3,none⟩ (.int .u32 ((now:Int)-cut))).cell? ⟨B,2,none⟩=some (.int .u32 rng):=cell_in hs1 rfl
  have k2:=frozen_in hs1 2
  have HS:=Hd hs1
  clear hs1
  go_enter Tryz.func292,Tryz.ntmps292
  go_wp2_with fail
  go_ret
  have hfr:=(Fr.one w B 3 (.int .u32 ((now:Int)-cut))).trans (Fr.one _ B 2 (.int .u32 ((rng:Int)-cut)))
  refine⟨rfl,hfr,HA.out.new (d:=⟨b,rd,rng,now⟩) h5 rfl hfr ?_⟩
  rw[set_in HS.out 2 _]
  congr 3
  simp only[decV]
  rw[show((rng-cut:Nat):Int)=(rng:Int)-cut by omega,show((now-cut:Nat):Int)=(now:Int)-cut by omega]
  rfl
set_option maxRecDepth 100000 in
theorem widen_keep(B:Nat)(bv:Value)(d:D)(w:World)(h:At w B bv d)(hr:16777216≤d.rng):
 Calls Tryz.prog 294 #[.pointer (some ⟨B,0,none⟩)] w fun e w'=>e=.returned (.tuple #[])∧w'=w:=by
 obtain⟨c0,c1,c2,c3,cf⟩:=h.cells
 have hd:decide ((16777216:Int)≤(d.rng:Int))=true:=by simp;omega
 have hd2:decide ((d.rng:Int)≥16777216)=true:=by simp;omega
 generalize d.rng=rng at*
 clear h cf
 go_enter Tryz.func294,Tryz.ntmps294
 go_wp2_with fail
 refine bodyPost_ret (results_none rfl _ _ _) rfl ?_
 exact⟨rfl,rfl⟩
set_option maxRecDepth 100000 in
theorem widen_none(B:Nat)(bv:Value)(d:D)(w:World)(h:At w B bv d)(hok:d.ok)(hr:d.widen=none):
 Calls Tryz.prog 294 #[.pointer (some ⟨B,0,none⟩)] w fun e w'=>e=.panicked [{v:=.iface 419 (.int .i64 1),recovered:=false}]∧Fr (fun _=>False) w w':=by
 obtain⟨c0,c1,c2,c3,cf⟩:=h.cells
 obtain⟨pb,cb,rfl⟩:∃p c,bv=.slice p d.b.length c:=by obtain⟨p,c,h,_⟩:=h.2;exact⟨p,c,h⟩
 obtain⟨h1,h2,h3,h4,h5⟩:=hok
 have hq:d.rng<16777216∧d.read=d.b.length:=by
  unfold D.widen at hr
  split at hr
  ·cases hr
  ·split at hr
   ·rename_i hn
    have:=List.getElem?_eq_none_iff.1 hn
    omega
   ·cases hr
 have hd:decide ((16777216:Int)≤(d.rng:Int))=false:=by simp;omega
 have hd2:decide ((d.rng:Int)≥16777216)=false:=by simp;omega
 have he:((d.read:Int)==(d.b.length:Int))=true:=by simp;omega
 generalize d.rng=rng at*
 generalize d.read=rd at*
 generalize d.b.length=n at*
 clear h cf hr
 go_enter Tryz.func294,Tryz.ntmps294
 go_wp2_with fail
 go_quiet (fail)
 go_wp2_with fail
 exact⟨rfl,rfl,(Fr.refl _ _).drewN _⟩
set_option maxRecDepth 100000 in
theorem widen_step(B:Nat)(bv:Value)(d e:D)(w:World)(h:At w B bv d)(hok:d.ok)(hlt:d.rng<16777216)(hr:d.widen=some e):
 Calls Tryz.prog 294 #[.pointer (some ⟨B,0,none⟩)] w fun r w'=>r=.returned (.tuple #[])∧Fr (fun k=>k=B) w w'∧At w' B bv e:=by
 obtain⟨c0,c1,c2,c3,cf⟩:=h.cells
 obtain⟨pb,cb,rfl⟩:∃p c,bv=.slice p d.b.length c:=by obtain⟨p,c,h,_⟩:=h.2;exact⟨p,c,h⟩
 obtain⟨h1,h2,h3,h4,h5⟩:=hok
 have HA:=Hd h
 obtain⟨c,hc,rfl⟩:∃c,d.b[d.read]? =some c∧e=⟨d.b,d.read+1,d.rng*256,d.now*256+c.toNat⟩:=by
  unfold D.widen at hr
  rw[if_neg (by omega)] at hr
  split at hr
  ·cases hr
  ·rename_i c hc
   exact⟨c,hc,(Option.some.inj hr).symm⟩
 have hrl:d.read<d.b.length:=(List.getElem?_eq_some_iff.1 hc).1
 obtain⟨bb,bo,rfl,hbc⟩:∃b o,pb=some ⟨b,o,none⟩∧w.cell? ⟨b,o+d.read,none⟩=some (.int .u8 (c.toNat:Int)):=by
  obtain⟨p,cp,he,_,_,h6⟩:=h.2
  simp only[Value.slice.injEq] at he
  obtain⟨b,o,hp,hq⟩:=h6 h5
  exact⟨b,o,he.1.trans hp,hq _ _ hc⟩
 have hap:=h.apart h5 bb rfl
 have hcb:=UInt8.toNat_lt c
 have hor:=or_byte d.now c.toNat (by omega) hcb
 have HOR:=Hd hor
 have HOK:=Hd (show 0<d.b.length from h5)
 obtain⟨b,rd,rng,now⟩:=d
 simp only at*
 have hd:decide ((16777216:Int)≤(rng:Int))=false:=by simp;omega
 have hd2:decide ((rng:Int)≥16777216)=false:=by simp;omega
 have he:((rd:Int)==(b.length:Int))=false:=by simp;omega
 generalize hn:b.length=n at*
 have HN:=Hd hn
 clear hn
 generalize hy:c.toNat=y at*
 have HY:=Hd hy
 clear h cf hr hor hc hy
 go_enter Tryz.func294,Tryz.ntmps294
 go_wp2_with fail
 go_quiet (fail)
 have hAW:At (World.drewN w nq) B (.slice (some ⟨bb,bo,none⟩) n cb) ⟨b,rd,rng,now⟩:=HA.out.keep ((R0 w).drewN nq) (fun h=>h) (fun _ _ h=>h)
 have hbW:(World.drewN w nq).cell? ⟨bb,bo+rd,none⟩=_:=hbc
 have hfW:=(Fr.refl (fun k=>k=B) w).drewN nq
 generalize World.drewN w nq=W at*
 obtain⟨d0,d1,d2,d3,df⟩:=hAW.cells
 have df2:=df 2
 have s1:=set_in hAW.1 2 (.int .u32 ((rng:Int)*256))
 have g0:(W.setCell ⟨B,2,none⟩ (.int .u32 ((rng:Int)*256))).cell? ⟨B,0,none⟩=some (.slice (some ⟨bb,bo,none⟩) n cb):=cell_in s1 rfl
 have g1:(W.setCell ⟨B,2,none⟩ (.int .u32 ((rng:Int)*256))).cell? ⟨B,1,none⟩=some (.int .i64 rd):=cell_in s1 rfl
 have g3:(W.setCell ⟨B,2,none⟩ (.int .u32 ((rng:Int)*256))).cell? ⟨B,3,none⟩=some (.int .u32 now):=cell_in s1 rfl
 have gf3:=frozen_in s1 3
 have gb:(W.setCell ⟨B,2,none⟩ (.int .u32 ((rng:Int)*256))).cell? ⟨bb,bo+rd,none⟩=some (.int .u8 (y:Int)):=by
  rw[World.cell?_of_block (w:=W) (heap_setCell_other W _ bb _ (fun e=>hap e))]
  exact hbW
 have s1':(W.setCell ⟨B,2,none⟩ (.int .u32 ((rng:Int)*256))).drew.heap[B]? =some (.cells #[.slice (some ⟨bb,bo,none⟩) n cb,.int .i64 rd,.int .u32 ((rng:Int)*256),.int .u32 now] 381 (0,0)):=s1
 have HFW:=Hd (hfW.trans (Fr.one W B 2 (.int .u32 ((rng:Int)*256))))
 have hw1:rd<9223372036854775807:=by omega
 have i1:(0:Int)≤(rd:Int):=by omega
 have i2:(rd:Int)<(n:Int):=by omega
 have hnow:now<16777216:=by omega
 have hpm:((now*256:Nat):Int)=(now:Int)*256:=by omega
 rw[hpm] at HOR
 have HS1:=Hd s1'
 clear c0 c1 c2 c3 hbc df s1 s1' hAW d0 d1 d3 hbW hfW hpm HY
 go_wp2_with fail
 generalize World.setCell W _ _=W1 at*
 have t1:=fun v=>set_in (w:=W1.drew) HS1.out 3 v
 have u1:∀v,(W1.setCell ⟨B,3,none⟩ v).drew.cell? ⟨B,1,none⟩=some (.int .i64 rd):=fun v=>cell_in (t1 v) rfl
 have u1':∀v,(W1.setCell ⟨B,3,none⟩ v).cell? ⟨B,1,none⟩=some (.int .i64 rd):=fun v=>cell_in (t1 v) rfl
 have uf1':∀v,(W1.setCell ⟨B,3,none⟩ v).frozen? ⟨B,1,none⟩=false:=fun v=>frozen_in (t1 v) 1
 have T1:=Hd t1
 clear t1
 go_region
 all_goals go_wp2_with fail
 go_end0
 have hv:=HOR.out
 have hfr:Fr (fun k=>k=B) w _:=((HFW.out.trans (Fr.one W1 B 3 (.int .u32 (bits BinOp.or IntKind.u32 ((now:Int)*256) (y:Int))))).trans (Fr.one _ B 1 (.int .i64 ((rd:Int)+1)))).drew
 refine⟨rfl,hfr,HA.out.new (d:=⟨b,rd,rng,now⟩) (by have:=HN.out;simp only;omega) rfl hfr ?_⟩
 have h1:=set_in (T1.out (.int .u32 (bits BinOp.or IntKind.u32 ((now:Int)*256) (y:Int)))) 1 (.int .i64 ((rd:Int)+1))
 rw[hv] at h1 ⊢
 have e1:((rng*256:Nat):Int)=(rng:Int)*256:=by omega
 have e2:((rd+1:Nat):Int)=(rd:Int)+1:=by omega
 show _=some (Obj.cells #[.slice (some ⟨bb,bo,none⟩) n cb,.int .i64 ((rd+1:Nat):Int),.int .u32 ((rng*256:Nat):Int),.int .u32 ((now*256+y:Nat):Int)] _ _)
 rw[e1,e2]
 exact h1
end Rc
namespace Mem
def allOrders(md:Region.Mode)(ops:Array Oper):Nat→Array Bool→List (List Nat)
 |0,_=>[[]]
 |fuel+1,listed=>if Region.ready md ops listed=[] then[[]] else(Region.ready md ops listed).flatMap fun i=>(allOrders md ops fuel (listed.setIfInBounds i true)).map (i::·)
theorem lin_mem(md:Region.Mode)(ops:Array Oper):∀(fuel t:Nat)(listed:Array Bool),Region.linearise.go md ops fuel t listed [] ∈ allOrders md ops fuel listed:=by
 intro fuel
 induction fuel with
 |zero=>intro t listed;simp[Region.linearise.go,allOrders]
 |succ fuel ih=>
   intro t listed
   simp only[Region.linearise.go]
   change (match (Region.ready md ops listed)[t%(Region.ready md ops listed).length]? with
    |some i=>Region.linearise.go md ops fuel (t/(Region.ready md ops listed).length) (listed.setIfInBounds i true) [i]
    |none=>[].reverse) ∈ _
   unfold allOrders
   cases hi:(Region.ready md ops listed)[t%(Region.ready md ops listed).length]? with
   |none=>
     have hnil:Region.ready md ops listed=[]:=by
      cases hr:Region.ready md ops listed with
      |nil=>rfl
      |cons x xs=>
        rw[hr] at hi
        have hlt:t%(x::xs).length<(x::xs).length:=Nat.mod_lt _ (by simp)
        simp at hi
        simp at hlt
        omega
     rw[if_pos hnil]
     simp
   |some i=>
     have hm:=List.mem_of_getElem? hi
     rw[if_neg (by rintro h;rw[h] at hm;cases hm)]
     simp only[]
     rw[linearise_go_acc,List.reverse_singleton,List.singleton_append]
     exact List.mem_flatMap.2 ⟨i,hm,List.mem_map.2 ⟨_,ih _ _,rfl⟩⟩
theorem wpS_region_draw{P:Program}{Q:Exit→Act→List Frame→World→Prop}{a:Act}{cs:List Frame}{w:World}{id:Nat}{ops:Array Oper}(hm:P.follows .mixedOrders=true)
 (h:∀l ∈ allOrders .any ops ops.size (Array.replicate ops.size false),wpOpsS P ops Q l a cs w.drew):(Code.region id ops true).wpS P Q a cs w:=by
 intro b k hb hr
 have hl:=lin_mem .any ops ops.size (w.tape w.drawn (.order b.fn id)) (Array.replicate ops.size false)
 have hs:Region.schedule (P.follows .mixedOrders) ops (w.tape w.drawn (.order b.fn id))=Region.linearise.go .any ops ops.size (w.tape w.drawn (.order b.fn id)) (Array.replicate ops.size false) []:=by
  simp only[Region.schedule,hm,Bool.true_or,if_true]
  rfl
 obtain⟨e,a',cs',w',q,r⟩:=wp_opsS _ a cs w.drew (h _ hl) b k hb hr
 refine⟨e,a',cs',w',q,.of_steps (.one ?_) r⟩
 rw[step_region_draw,hs]
 rfl
end Mem
namespace Rc
open Mem
theorem rd_off{w:World}{v:Value}{xs:List UInt8}(h:Rd w v xs)(h0:0<xs.length){g:Nat}{cs:Array Value}{T:TypeId}{fr:Nat×Nat}(hg:w.heap[g]? =some (.cells cs T fr))(hcs:∀(i:Nat)(n:Int),cs[i]? ≠some (Value.int .u8 n)):∀k,v.ownBlock=some k→k≠g:=by
 obtain⟨p,cap,rfl,_,_,h3⟩:=h
 obtain⟨b,o,rfl,hc⟩:=h3 h0
 intro k hk
 simp only[Value.ownBlock,Option.some.injEq] at hk
 subst hk
 rintro rfl
 have h4:=hc 0 xs[0] (by simp[h0])
 rw[cell_of_row w _ _ _ _ _ hg] at h4
 exact hcs (o+0) (xs[0].toNat:Int) h4
theorem no_byte1{v:Value}(h:∀n:Int,v≠Value.int .u8 n):∀(i:Nat)(n:Int),(#[v]:Array Value)[i]? ≠some (Value.int .u8 n)
 |0,n=>by simpa using h n
 |i+1,n=>by simp
def placeV(d:D):Value:=.agg #[.int .i64 d.read,.int .u32 d.rng,.int .u32 d.now]
def refusedV(err:Nat):Value:=.iface 419 (.int .i64 err)
theorem back_nil(B:Nat)(e:D)(w:World):
 Calls Tryz.prog 290 #[.pointer (some ⟨B,0,none⟩),placeV e,.nilIface] w fun r w'=>r=.returned (.int .i64 0)∧Fr (fun _=>False) w w':=by
 unfold placeV
 go_enter Tryz.func290,Tryz.ntmps290
 go_wp2_with fail
 go_ret
 exact⟨rfl,(Fr.refl _ _).alloc _⟩
theorem assert_refused(x:Value)(W:World):(Instr.typeAssert (.iface 419 x) 20 419 true).run Tryz.prog W=.ok (.tuple #[x,.bool true]) W:=by kernel_rfl
set_option maxRecDepth 100000 in
theorem back_some(B:Nat)(bv:Value)(d e:D)(err:Nat)(w:World)(h:At w B bv d)(h0:0<d.b.length)(he:e.b=d.b):
 Calls Tryz.prog 290 #[.pointer (some ⟨B,0,none⟩),placeV e,refusedV err] w fun r w'=>r=.returned (.int .i64 err)∧Fr (fun k=>k=B) w w'∧At w' B bv e:=by
 unfold placeV refusedV
 have hfa:=(Fr.refl (fun k=>k=B) w).alloc (.cells #[.int .i64 e.read,.int .u32 e.rng,.int .u32 e.now] 379)
 have hbn:=heap_alloc_new w (.cells #[.int .i64 e.read,.int .u32 e.rng,.int .u32 e.now] 379)
 have hB:=lt_of_block h.1
 have hAa:=h.keep ((R0 w).alloc (.cells #[.int .i64 e.read,.int .u32 e.rng,.int .u32 e.now] 379)) (fun h=>h) (fun _ _ h=>h)
 obtain⟨c0,c1,c2,c3,cf⟩:=hAa.cells
 have f1:=cf 1
 have f2:=cf 2
 have f3:=cf 3
 have HA:=Hd hAa
 have HN:=Hd hbn
 have s1:=set_in h.1 1 (.int .i64 e.read)
 have s2:=set_in s1 2 (.int .u32 e.rng)
 have s3:=set_in s2 3 (.int .u32 e.now)
 have hal:=fun(W:World)=>(R0 W).alloc (.cells #[.int .i64 e.read,.int .u32 e.rng,.int .u32 e.now] 379)
 have r1:=(hal _).keep s1 (fun h=>h)
 have r2:=(hal _).keep s2 (fun h=>h)
 have a2:=cell_in (v:=.int .u32 d.rng) r1 (i:=2) rfl
 have b2:=frozen_in r1 2
 have a3:=cell_in (v:=.int .u32 d.now) r2 (i:=3) rfl
 have b3:=frozen_in r2 3
 have HF3:=Hd ((((Fr.one w B 1 (.int .i64 e.read)).trans (Fr.one _ B 2 (.int .u32 e.rng))).trans (Fr.one _ B 3 (.int .u32 e.now))).alloc (.cells #[.int .i64 e.read,.int .u32 e.rng,.int .u32 e.now] 379))
 have HS3:=Hd ((hal _).keep s3 (fun h=>h))
 have H0:=Hd h
 clear s1 s2 s3 r1 r2 hal
 have hta:=assert_refused (.int .i64 err)
 clear cf h hAa hbn
 go_enter Tryz.func290,Tryz.ntmps290
 go_wp2_with fail
 go_ret
 exact⟨rfl,HF3.out,H0.out.new h0 he HF3.out HS3.out⟩
end Rc
namespace Rc
open Mem
set_option maxRecDepth 100000 in
theorem catch_bad(B bd be bb bs bi:Nat)(bv:Value)(d e:D)(err:Nat)(v0 e0:Int)(older:List PanicEntry)(w:World)(h:At w B bv d)(h0:0<d.b.length)(heq:e.b=d.b)
 (hd:w.heap[bd]? =some (.cells #[.pointer (some ⟨B,0,none⟩)] 339 (0,0)))(he:w.heap[be]? =some (.cells #[.int .i64 e0] 28 (0,0)))(hb:w.heap[bb]? =some (.cells #[.int .i64 v0] 3 (0,0)))(herr:err≠0):
 CallsD Tryz.prog 289 #[placeV e,.pointer (some ⟨bd,0,none⟩),.pointer (some ⟨be,0,none⟩),.pointer (some ⟨bb,0,none⟩),.pointer (some ⟨bs,0,none⟩),.pointer (some ⟨bi,0,none⟩)]
  (.panicking ({v:=refusedV err,recovered:=false}::older)) w fun r u' w'=>r=.returned (.tuple #[])∧u'=.panicking ({v:=refusedV err,recovered:=true}::older)∧
    Fr (fun k=>k=B∨k=be∨k=bb) w w'∧At w' B bv e∧w'.heap[be]? =some (.cells #[.int .i64 err] 28 (0,0))∧w'.heap[bb]? =some (.cells #[.int .i64 0] 3 (0,0)):=by
 refine callsD_of_wpS Tryz.func289 rfl fun c₀ cs hu=> ?_
 apply wpS_seq
 apply wpS_region
 simp[wpOpsS,go_sem,recoverD,hu,Tryz.ntmps289,Exit.thenS,placeV]
 apply wpS_seq
 refine wpS_region_draw (by kernel_rfl) (fun l hl=> ?_)
 have hal:=(R0 w).alloc (.cells #[.int .i64 e.read,.int .u32 e.rng,.int .u32 e.now] 379)
 have hbx:=heap_alloc_new w (.cells #[.int .i64 e.read,.int .u32 e.rng,.int .u32 e.now] 379)
 have hA1:=h.keep hal (fun h=>h) (fun _ _ h=>h)
 have k1:=cell_in (i:=0) (hal.keep hd (fun h=>h)) rfl
 obtain⟨k2,k3,k4⟩:=cs3 hbx rfl rfl rfl
 replace hl:l ∈ ([[0,1,2,3,4],[0,2,1,3,4],[1,0,2,3,4],[1,2,0,3,4],[2,0,1,3,4],[2,1,0,3,4]]:List (List Nat)):=Eq.mp (congrArg (fun L=>l ∈ L) (by kernel_rfl)) hl
 simp only[List.mem_cons,List.not_mem_nil,or_false] at hl
 rcases hl with rfl|rfl|rfl|rfl|rfl|rfl
 all_goals simp[wpOpsS,go_sem,recoverD,hu,Exit.thenS,k1,k2,k3,k4]
 all_goals
  refine(back_some B bv d e err _ (hA1.keep ((R0 _).drew) (fun h=>h) (fun _ _ h=>h)) h0 heq).mono ?_
  rintro r w2 ⟨rfl,hfr2,hA2⟩
  have hne1:be≠B:=by rintro rfl;rw[h.1] at he;simp at he
  have hne2:bb≠B:=by rintro rfl;rw[h.1] at hb;simp at hb
  have hne3:bb≠be:=by rintro rfl;rw[he] at hb;simp at hb
  have hfr2':Fr (fun k=>k=B∨k=be∨k=bb) w w2:=(hal.mono (fun _ _ h=>h.elim)).trans ((Fr.refl _ _).drew.trans (hfr2.mono (fun _ _ h=>.inl h)))
  have he2:=hfr2.keep (hal.drew.keep he (fun h=>h)) hne1
  have hb2:=hfr2.keep (hal.drew.keep hb (fun h=>h)) hne2
  have c1:=cell_in (i:=0) he2 rfl
  have f1:=frozen_in he2 0
  simp[c1,f1,storeCells,go_sem]
  have he3:(w2.setCell ⟨be,0,none⟩ (.int .i64 err)).heap[be]? =some (.cells #[.int .i64 err] 28 (0,0)):=set_in he2 0 _
  have hb3:=set_out (i:=0) hb2 hne3 (.int .i64 err)
  have hA3:=hA2.keep (S:=fun k=>k=be) (Fr.one w2 be 0 (.int .i64 err)) (fun h=>hne1 h.symm) (fun k hk h=>rd_off hA2.2 (by rw[heq];exact h0) he2 (no_byte1 (by simp)) k hk h)
  have hfr3:=hfr2'.trans ((Fr.one w2 be 0 (.int .i64 err)).mono (fun k _ h=>.inr (.inl h)))
  generalize w2.setCell ⟨be,0,none⟩ (.int .i64 err)=w3 at*
  have c3:=cell_in (i:=0) he3 rfl
  have c4:=cell_in (i:=0) hb3 rfl
  have f4:=frozen_in hb3 0
  apply wpS_seq
  apply wpS_region
  have hen:((err:Int) !=0)=true:=by simp[herr]
  simp[wpOpsS,go_sem,Exit.thenS,c3,hen]
  refine wpS_cond (t:=true) (by simp[Act.eval,herr]) ?_
  simp only[if_true]
  apply wpS_region
  simp[wpOpsS,go_sem,c4,f4,bodyPostS,results,Tryz.results289]
  exact⟨hfr3.trans ((Fr.one w3 bb 0 (.int .i64 0)).mono (fun k _ h=>.inr (.inr h))),hA3.keep (S:=fun k=>k=bb) (Fr.one w3 bb 0 (.int .i64 0)) (fun h=>hne2 h.symm) (fun k hk h=>rd_off hA3.2 (by rw[heq];exact h0) hb3 (no_byte1 (by simp)) k hk h),set_out he3 (fun h=>hne3 h.symm) _,set_in hb3 0 _⟩
set_option maxRecDepth 100000 in
theorem catch_ok(B bd be bb bs bi b g i p v:Nat)(ps:List Nat)(e:D)(e0:Int)(w:World)(hs:Prob.SetAt w b g ps)(hp:ps[i]? =some p)
 (hd:w.heap[bd]? =some (.cells #[.pointer (some ⟨B,0,none⟩)] 339 (0,0)))(he:w.heap[be]? =some (.cells #[.int .i64 e0] 28 (0,0)))(hb:w.heap[bb]? =some (.cells #[.int .i64 v] 3 (0,0)))
 (hsb:w.heap[bs]? =some (.cells #[.pointer (some ⟨b,0,none⟩)] 211 (0,0)))(hib:w.heap[bi]? =some (.cells #[.int .i64 i] 3 (0,0))):
 CallsD Tryz.prog 289 #[placeV e,.pointer (some ⟨bd,0,none⟩),.pointer (some ⟨be,0,none⟩),.pointer (some ⟨bb,0,none⟩),.pointer (some ⟨bs,0,none⟩),.pointer (some ⟨bi,0,none⟩)]
  .returning w fun r u' w'=>r=.returned (.tuple #[])∧u'=.returning∧Fr (fun k=>k=g∨k=be) w w'∧Prob.SetAt w' b g (ps.set i (Prob.nextN p v))∧w'.heap[be]? =some (.cells #[.int .i64 0] 28 (0,0)):=by
 have hne1:be≠b:=by rintro rfl;obtain⟨_,_,h1,_⟩:=hs;rw[h1] at he;simp at he
 have hne2:be≠g:=by rintro rfl;obtain⟨_,_,_,h1,_⟩:=hs;rw[h1] at he;simp at he
 have hne3:be≠bb:=by rintro rfl;rw[he] at hb;simp at hb
 have hne4:be≠bs:=by rintro rfl;rw[he] at hsb;simp at hsb
 have hne5:be≠bi:=by rintro rfl;rw[he] at hib;simp at hib
 refine callsD_of_wpS Tryz.func289 rfl fun c₀ cs hu=> ?_
 apply wpS_seq
 apply wpS_region
 simp[wpOpsS,go_sem,recoverD,hu,Tryz.ntmps289,Exit.thenS,placeV]
 apply wpS_seq
 refine wpS_region_draw (by kernel_rfl) (fun l hl=> ?_)
 have hal:=(R0 w).alloc (.cells #[.int .i64 e.read,.int .u32 e.rng,.int .u32 e.now] 379)
 have hbx:=heap_alloc_new w (.cells #[.int .i64 e.read,.int .u32 e.rng,.int .u32 e.now] 379)
 have k1:=cell_in (i:=0) (hal.keep hd (fun h=>h)) rfl
 obtain⟨k2,k3,k4⟩:=cs3 hbx rfl rfl rfl
 replace hl:l ∈ ([[0,1,2,3,4],[0,2,1,3,4],[1,0,2,3,4],[1,2,0,3,4],[2,0,1,3,4],[2,1,0,3,4]]:List (List Nat)):=Eq.mp (congrArg (fun L=>l ∈ L) (by kernel_rfl)) hl
 simp only[List.mem_cons,List.not_mem_nil,or_false] at hl
 rcases hl with rfl|rfl|rfl|rfl|rfl|rfl
 all_goals simp[wpOpsS,go_sem,recoverD,hu,Exit.thenS,k1,k2,k3,k4]
 all_goals
  refine(back_nil B e _).mono ?_
  rintro r w2 ⟨rfl,hfr2⟩
  have hfr2':=hal.drew.trans hfr2
  have he2:=hfr2'.keep he (fun h=>h)
  have c1:=cell_in (i:=0) he2 rfl
  have f1:=frozen_in he2 0
  simp[c1,f1,storeCells,go_sem]
  have he3:(w2.setCell ⟨be,0,none⟩ (.int .i64 0)).heap[be]? =some (.cells #[.int .i64 0] 28 (0,0)):=set_in he2 0 _
  have hfr3:Fr (fun k=>k=be) w (w2.setCell ⟨be,0,none⟩ (.int .i64 0)):=(hfr2'.mono (fun _ _ h=>h.elim)).trans (Fr.one w2 be 0 (.int .i64 0))
  generalize w2.setCell ⟨be,0,none⟩ (.int .i64 0)=w3 at*
  have hs3:=hs.step hfr3 (fun h=>hne1 h.symm) (fun h=>hne2 h.symm)
  have c3:=cell_in (i:=0) he3 rfl
  have c4:=cell_in (i:=0) (hfr3.keep hb (fun h=>hne3 h.symm)) rfl
  have c5:=cell_in (i:=0) (hfr3.keep hsb (fun h=>hne4 h.symm)) rfl
  have c6:=cell_in (i:=0) (hfr3.keep hib (fun h=>hne5 h.symm)) rfl
  apply wpS_seq
  apply wpS_region
  simp[wpOpsS,go_sem,Exit.thenS,c3]
  refine wpS_cond (t:=false) (by simp[Act.eval]) ?_
  simp only[Bool.false_eq_true,if_false]
  apply wpS_region
  simp[wpOpsS,go_sem,c4,c5,c6,bodyPostS,results,Tryz.results289]
  refine(Prob.turn_set b g i p v ps w3 hs3 hp).mono ?_
  rintro r w4 ⟨rfl,hfr4,hs4⟩
  simp
  exact⟨.returning,by cases c₀;simp_all,rfl,(hfr3.mono (fun _ _ h=>.inr h)).trans (hfr4.mono (fun _ _ h=>.inl h)),hs4,hfr4.keep he3 hne2⟩
end Rc
end Go.Proofs.YtffoddpjfgjelaaGreatDoor
