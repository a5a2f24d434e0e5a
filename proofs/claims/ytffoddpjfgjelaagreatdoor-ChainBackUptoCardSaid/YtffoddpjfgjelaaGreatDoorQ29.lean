/- Part 29 of 48: lemmas of the last part, each under the conditions that it names. -/
import Derived.Test.YtffoddpjfgjelaaGreatDoorRows
import Derived.Maps.Own
import Derived.WideKeyEntry
import Derived.DeepKeys4
import Derived.Test.YtffoddpjfgjelaaGreatDoorQ01
import Derived.Test.YtffoddpjfgjelaaGreatDoorQ20
import Derived.Test.YtffoddpjfgjelaaGreatDoorQ24
import Derived.Test.YtffoddpjfgjelaaGreatDoorQ25
import Derived.Test.YtffoddpjfgjelaaGreatDoorQ26
import Derived.Test.YtffoddpjfgjelaaGreatDoorQ28
set_option linter.unusedVariables false
set_option linter.unusedSimpArgs false
set_option maxRecDepth 1500
namespace Go.Proofs.YtffoddpjfgjelaaGreatDoor
open Go.RowKit
namespace Pk
open Mem Rc St Lz En Win
theorem z_raw{now k:Nat}(v:Xe)(pr0:Pr)(b:List UInt8)(hk:k=1∨k=2)(hb:1≤b.length∧b.length≤65536)(hm:Ck.move now k<3):
 PtsOk [⟨k,(0,0,0),[],b⟩] now v pr0∧chunks [⟨k,(0,0,0),[],b⟩] v pr0=[(⟨k,b.length,b.length,0,0,0⟩,b)]∧plains [⟨k,(0,0,0),[],b⟩] v pr0=b∧
  fin [⟨k,(0,0,0),[],b⟩] now v pr0=(Ck.move now k,(if k=1 then v.clear else v).raw b,pr0):=by
 rcases hk with rfl|rfl
 ·exact⟨⟨raw_ok 1 b.length (by decide) hb,hm,fun h=>absurd h (by show¬3≤1;decide),trivial⟩,rfl,by simp[plains,Pt.plain],rfl⟩
 ·exact⟨⟨raw_ok 2 b.length (by decide) hb,hm,fun h=>absurd h (by show¬3≤2;decide),trivial⟩,rfl,by simp[plains,Pt.plain],rfl⟩
theorem moves_raw:Ck.move 0 1=1∧Ck.move 1 2=1∧Ck.move 2 2=2:=by decide
theorem moves_pack:Ck.move 0 6=2∧Ck.move 2 3=2∧Ck.move 2 4=2∧Ck.move 1 5=2:=by decide
theorem raw_headB{k n:Nat}(hk:k=1∨k=2):(headB ⟨k,n,n,0,0,0⟩).length=3:=by
 rcases hk with rfl|rfl<;>rfl
theorem piece_len{data:List UInt8}{i:Nat}(hi:65536*i<data.length){b:List UInt8}(hb:b=(data.drop (upto data.length i)).take (upto data.length (i+1)-upto data.length i)):
 b.length=upto data.length (i+1)-upto data.length i∧1≤b.length∧b.length≤65536:=by
 obtain⟨h1,h2,h3,h4⟩:=upto_step hi
 have h5:=upto_le data.length (i+1)
 have e:b.length=upto data.length (i+1)-upto data.length i:=by
  rw[hb,List.length_take,List.length_drop]
  omega
 exact⟨e,by omega,by omega⟩
theorem Pst.Ok.lay{t:Pst}{data:List UInt8}{dict:Nat}{pr:Pr}{raw:Bool}(h:t.Ok data dict pr raw)(hi:65536*t.pts.length<data.length){b:List UInt8}
 (hb:b=(data.drop (upto data.length t.pts.length)).take (upto data.length (t.pts.length+1)-upto data.length t.pts.length)):
 (t.lay b).Ok data dict pr raw∧(t.lay b).out dict=t.out dict++(headB ⟨if t.begun=false then 1 else 2,b.length,b.length,0,0,0⟩++b):=by
 obtain⟨l1,l2,l3⟩:=piece_len hi hb
 have hpt:=piece_take data t.pts.length
 rw[←hb] at hpt
 have hmono:=upto_mono data.length t.pts.length
 have hk:(if t.begun=false then 1 else 2)=1∨(if t.begun=false then 1 else 2)=2:=by
  split
  ·exact .inl rfl
  ·exact .inr rfl
 have hnow:Ck.move (t.end' dict).1 (if t.begun=false then 1 else 2)=if t.props=true then 2 else 1:=by
  rw[h.now]
  have hbp:=h.begun
  cases hb0:t.begun<;>cases hp:t.props
  ·simpa using moves_raw.1
  ·exact absurd (hbp hp) (by rw[hb0];decide)
  ·simpa using moves_raw.2.1
  ·simpa using moves_raw.2.2
 have hm3:Ck.move (t.end' dict).1 (if t.begun=false then 1 else 2)<3:=by
  rw[hnow]
  split<;>decide
 obtain⟨z1,z2,z3,z4⟩:=z_raw (now:=(t.end' dict).1) (t.end' dict).2.1 (t.end' dict).2.2 b hk ⟨l2,l3⟩ hm3
 have hfin:(t.lay b).end' dict=(Ck.move (t.end' dict).1 (if t.begun=false then 1 else 2),(if(if t.begun=false then 1 else 2)=1 then(t.end' dict).2.1.clear else(t.end' dict).2.1).raw b,(t.end' dict).2.2):=by
  unfold Pst.end' Pst.lay
  simp only
  rw[snoc_fin]
  exact z4
 have hrow:(t.lay b).row dict=t.row dict++[(⟨if t.begun=false then 1 else 2,b.length,b.length,0,0,0⟩,b)]:=by
  unfold Pst.row Pst.lay
  simp only
  rw[snoc_chunks _ _ 0,←z2]
 have hlen:(t.lay b).pts.length=t.pts.length+1:=by simp[Pst.lay]
 have hout:(t.lay b).out dict=t.out dict++(headB ⟨if t.begun=false then 1 else 2,b.length,b.length,0,0,0⟩++b):=by
  unfold Pst.out
  rw[hrow,rowB_append]
  simp[rowB]
 refine⟨⟨snoc_ok _ _ _ _ _ h.pts z1,?_,?_,?_,?_,?_,?_,?_,⟨⟨h.ok.c.l,h.ok.c.pb,h.ok.c.s⟩,h.ok.e⟩,h.size,?_,h.k,?_,fun _=>rfl,?_,h.sok,?_,?_,?_⟩,hout⟩
 ·rw[hlen]
  unfold Pst.lay
  simp only
  rw[snoc_plains _ _ 0,h.plain,z3,hpt]
 ·rw[hfin]
  simp only
  rw[hnow]
  rfl
 ·rw[hfin]
  simp only
  split
  ·exact h.vok.clear.raw _
  ·exact h.vok.raw _
 ·rw[hfin]
  simp only
  split
  ·exact h.vsize
  ·exact h.vsize
 ·rw[hfin,hlen]
  simp only
  split
  ·rename_i h1
   have hb0:t.begun=false:=by
    cases hb0:t.begun with
    |false=>rfl
    |true=>rw[hb0] at h1;simp at h1
   have he:=h.empty hb0
   rw[he] at hpt ⊢
   simp only[List.length_nil,upto_zero,List.take_zero,List.nil_append] at hpt ⊢
   rw[←hpt]
   rfl
  ·show(t.end' dict).2.1.c.all++b=_
   rw[h.vall,hpt]
 ·rw[hfin]
  simp only
  split
  ·rfl
  ·exact h.vk
 ·intro hp
  rw[hfin]
  exact h.vpr hp
 ·rw[hlen]
  show t.x.c.all++b=_
  rw[h.all,hpt]
 ·intro hp
  exact absurd hp (by simp[Pst.lay])
 ·intro hp
  exact absurd hp (by simp[Pst.lay])
 ·intro i c hc
  rw[hrow] at hc
  exact snoc_sizes (chunks_length _ _ _) h.sizes ⟨l1,by simp only;omega⟩ i c hc
 ·rw[hlen]
  show((t.lay b).out dict).length≤_
  have hl:=h.len
  rw[hout,List.length_append,List.length_append,raw_headB hk]
  unfold Pst.out
  omega
 ·intro hr p hp
  unfold Pst.lay at hp
  simp only[List.mem_append,List.mem_singleton] at hp
  rcases hp with hp|rfl
  ·exact h.raw hr p hp
  ·simp only
   omega
theorem z_pack{now:Nat}{v x1:Xe}{pr0 pr:Pr}{z:Pt}(hz:z.prep v pr0=(x1,pr))(hpr:z.pr=pr)(hq:pr.1+pr.2.1≤4∧pr.2.2≤4)(hk:3≤z.kind∧z.kind≤6)(hl:Legal z.ys x1)(hn:1≤(x1.made z.ys).length∧(x1.made z.ys).length≤2097152)
 (hb:1≤(x1.putAll z.ys).e.k.bytes.length∧(x1.putAll z.ys).e.k.bytes.length≤65536)(hm:Ck.move now z.kind<3):
 PtsOk [z] now v pr0∧chunks [z] v pr0=[(if z.kind<5 then⟨z.kind,(x1.made z.ys).length,(x1.putAll z.ys).e.k.bytes.length,0,0,0⟩ else⟨z.kind,(x1.made z.ys).length,(x1.putAll z.ys).e.k.bytes.length,pr.1,pr.2.1,pr.2.2⟩,(x1.putAll z.ys).e.k.bytes)]∧plains [z] v pr0=x1.made z.ys∧
  fin [z] now v pr0=(Ck.move now z.kind,(x1.putAll z.ys).cut,pr):=by
 have e1:z.head x1=if z.kind<5 then⟨z.kind,(x1.made z.ys).length,(x1.putAll z.ys).e.k.bytes.length,0,0,0⟩ else⟨z.kind,(x1.made z.ys).length,(x1.putAll z.ys).e.k.bytes.length,pr.1,pr.2.1,pr.2.2⟩:=by
  have n2:¬z.kind≤2:=by omega
  unfold Pt.head Pt.plain Pt.bytes
  simp only[if_neg n2,hpr]
 have e2:z.bytes x1=(x1.putAll z.ys).e.k.bytes:=by unfold Pt.bytes;rw[if_neg (by omega)]
 have e3:z.plain x1=x1.made z.ys:=by unfold Pt.plain;rw[if_neg (by omega)]
 have e4:z.after x1=(x1.putAll z.ys).cut:=by unfold Pt.after;rw[if_neg (by omega)]
 refine⟨⟨?_,hm,fun _=>by rw[hz];exact hl,trivial⟩,?_,?_,?_⟩
 ·rw[hz]
  simp only
  rw[e1]
  split
  ·exact⟨⟨by simp only;omega,by simp only;omega⟩,fun h=>absurd h (by simp only;omega),fun _=>⟨hn.1,hn.2,hb.1,hb.2⟩,by simp,fun _=>⟨rfl,rfl,rfl⟩⟩
  ·exact⟨⟨by simp only;omega,by simp only;omega⟩,fun h=>absurd h (by simp only;omega),fun _=>⟨hn.1,hn.2,hb.1,hb.2⟩,hq,fun h=>absurd h (by simp only;omega)⟩
 ·rw[chunks,hz]
  simp only
  rw[e1,e2]
  rfl
 ·rw[plains,hz]
  simp only
  rw[e3]
  simp[plains]
 ·rw[fin,hz]
  simp only
  rw[e4]
  rfl
theorem reset_same{x y:Xe}(pr:Pr)(h1:x.c.size=y.c.size)(h2:x.c.all=y.c.all):x.reset pr=y.reset pr:=by
 unfold Xe.reset C.fresh
 rw[h1,h2]
theorem Pst.Ok.prep{t:Pst}{data:List UInt8}{dict:Nat}{pr:Pr}{raw:Bool}(h:t.Ok data dict pr raw)(ys:List Sy):
 (Pt.prep ⟨t.kind,pr,ys,[]⟩ (t.end' dict).2.1 (t.end' dict).2.2)=(t.from' pr,pr)∧Ck.move (t.end' dict).1 t.kind=2:=by
 have hnow:=h.now
 have hrs:(t.end' dict).2.1.reset pr=t.x.reset pr:=reset_same pr (by rw[h.vsize,h.size]) (by rw[h.vall,h.all])
 unfold Pst.from' Pst.kind
 cases hb:t.begun with
 |false=>
   simp only[if_true]
   rw[hb,if_pos rfl] at hnow
   refine⟨?_,by rw[hnow];exact moves_pack.1⟩
   rw[if_neg (by decide)]
   unfold Pt.prep
   simp only
   rw[if_neg (by decide),if_neg (by decide),if_neg (by decide),if_neg (by decide)]
   rw[←hrs]
   have he:(t.end' dict).2.1.c.all=[]:=by rw[h.vall,h.empty hb];simp[upto_zero]
   rw[show(t.end' dict).2.1.clear.reset pr=(t.end' dict).2.1.reset pr from reset_same pr rfl (by rw[he];rfl)]
 |true=>
   rw[hb,if_neg (by decide)] at hnow
   simp only[Bool.true_eq_false,if_false]
   cases hp:t.packed with
   |true=>
     obtain⟨h1,h2,h3⟩:=h.same hp
     simp only[if_true]
     rw[h3,if_pos rfl] at hnow
     refine⟨?_,by rw[hnow];exact moves_pack.2.1⟩
     unfold Pt.prep
     simp only
     rw[if_neg (by decide),if_pos (by decide),h1,h.vpr h3]
   |false=>
     simp only[Bool.false_eq_true,if_false]
     cases hq:t.props with
     |true=>
       simp only[if_true]
       rw[hq,if_pos rfl] at hnow
       refine⟨?_,by rw[hnow];exact moves_pack.2.2.1⟩
       rw[if_neg (by decide)]
       unfold Pt.prep
       simp only
       rw[if_neg (by decide),if_neg (by decide),if_pos trivial,h.vpr hq,hrs]
     |false=>
       simp only[Bool.false_eq_true,if_false]
       rw[hq,if_neg (by decide)] at hnow
       refine⟨?_,by rw[hnow];exact moves_pack.2.2.2⟩
       rw[if_neg (by decide)]
       unfold Pt.prep
       simp only
       rw[if_neg (by decide),if_neg (by decide),if_neg (by decide),if_pos trivial,hrs]
theorem kind_bd(t:Pst):3≤t.kind∧t.kind≤6:=by
 unfold Pst.kind
 split
 ·exact⟨by decide,by decide⟩
 split
 ·exact⟨by decide,by decide⟩
 split
 ·exact⟨by decide,by decide⟩
 ·exact⟨by decide,by decide⟩
theorem Pst.Ok.from_ok{t:Pst}{data:List UInt8}{dict:Nat}{pr:Pr}{raw:Bool}(h:t.Ok data dict pr raw)(hq:pr.1+pr.2.1≤4∧pr.2.2≤4):
 (t.from' pr).Ok∧(t.from' pr).c.all=data.take (upto data.length t.pts.length)∧(t.from' pr).c.size=dict∧(t.from' pr).e.k=K.new:=by
 unfold Pst.from'
 split
 ·exact⟨h.ok,h.all,h.size,h.k⟩
 ·exact⟨h.ok.reset hq,h.all,h.size,rfl⟩
def Pst.headP(t:Pst)(pr:Pr)(n m:Nat):Ck.Head:=if t.kind<5 then⟨t.kind,n,m,0,0,0⟩ else⟨t.kind,n,m,pr.1,pr.2.1,pr.2.2⟩
theorem bytes_pos(k:K):1≤k.bytes.length:=by
 unfold K.bytes
 rw[digs_len]
 omega
theorem Pst.Ok.pack{t:Pst}{data:List UInt8}{dict:Nat}{pr:Pr}(h:t.Ok data dict pr false)(hi:65536*t.pts.length<data.length)(hq:pr.1+pr.2.1≤4∧pr.2.2≤4){ys:List Sy}(hl:Legal ys (t.from' pr))
 (hs:∃s',Steps data (upto data.length (t.pts.length+1)) ys (upto data.length t.pts.length) (t.from' pr).c.s (upto data.length (t.pts.length+1)) s')
 (hb:((t.from' pr).putAll ys).e.k.bytes.length≤65536)
 (hle:(headB (t.headP pr (upto data.length (t.pts.length+1)-upto data.length t.pts.length) ((t.from' pr).putAll ys).e.k.bytes.length)).length+((t.from' pr).putAll ys).e.k.bytes.length≤3+(upto data.length (t.pts.length+1)-upto data.length t.pts.length)):
 (t.pack pr ys).Ok data dict pr false∧(t.pack pr ys).out dict=t.out dict++(headB (t.headP pr (upto data.length (t.pts.length+1)-upto data.length t.pts.length) ((t.from' pr).putAll ys).e.k.bytes.length)++((t.from' pr).putAll ys).e.k.bytes):=by
 obtain⟨s',hs⟩:=hs
 obtain⟨p1,p2⟩:=h.prep ys
 obtain⟨f1,f2,f3,f4⟩:=h.from_ok hq
 have hup:=upto_step hi
 have htop:=upto_le data.length (t.pts.length+1)
 obtain⟨m1,m2,m3,m4,m5,m6⟩:=steps_made htop (by omega) f2 hs hl
 have hpt:=piece_take data t.pts.length
 rw[←m1] at hpt
 have hml:((t.from' pr).made ys).length=upto data.length (t.pts.length+1)-upto data.length t.pts.length:=by
  rw[m1,List.length_take,List.length_drop]
  omega
 have hb1:=bytes_pos ((t.from' pr).putAll ys).e.k
 obtain⟨g1,g2,g3,g4⟩:=f1.putAll hl
 obtain⟨z1,z2,z3,z4⟩:=z_pack (now:=(t.end' dict).1) (z:=⟨t.kind,pr,ys,[]⟩) p1 rfl hq (kind_bd t) hl (by rw[hml];omega) ⟨hb1,hb⟩ (by show Ck.move (t.end' dict).1 t.kind<3;rw[p2];decide)
 have hfin:(t.pack pr ys).end' dict=(2,((t.from' pr).putAll ys).cut,pr):=by
  unfold Pst.end' Pst.pack
  simp only
  rw[snoc_fin,z4]
  simp only
  rw[p2]
 have hrow:(t.pack pr ys).row dict=t.row dict++[(t.headP pr (upto data.length (t.pts.length+1)-upto data.length t.pts.length) ((t.from' pr).putAll ys).e.k.bytes.length,((t.from' pr).putAll ys).e.k.bytes)]:=by
  unfold Pst.row Pst.pack Pst.headP
  simp only
  rw[snoc_chunks _ _ 0,z2,hml]
 have hlen:(t.pack pr ys).pts.length=t.pts.length+1:=by simp[Pst.pack]
 have hout:(t.pack pr ys).out dict=t.out dict++(headB (t.headP pr (upto data.length (t.pts.length+1)-upto data.length t.pts.length) ((t.from' pr).putAll ys).e.k.bytes.length)++((t.from' pr).putAll ys).e.k.bytes):=by
  unfold Pst.out
  rw[hrow,rowB_append]
  simp[rowB]
 refine⟨⟨snoc_ok _ _ _ _ _ h.pts z1,?_,?_,?_,?_,?_,?_,?_,g1.cut,?_,?_,rfl,?_,fun _=>rfl,?_,?_,?_,?_,?_⟩,hout⟩
 ·rw[hlen]
  unfold Pst.pack
  simp only
  rw[snoc_plains _ _ 0,h.plain,z3,hpt]
 ·rw[hfin]
  rfl
 ·rw[hfin]
  exact g1.cut
 ·rw[hfin]
  exact m4.trans f3
 ·rw[hfin,hlen]
  exact m2
 ·rw[hfin]
  rfl
 ·intro _
  rw[hfin]
 ·exact m4.trans f3
 ·rw[hlen]
  exact m2
 ·intro _
  rw[hfin]
  exact⟨rfl,rfl,rfl⟩
 ·intro hp
  exact absurd hp (by simp[Pst.pack])
 ·exact g1.c.s
 ·intro i c hc
  rw[hrow] at hc
  refine snoc_sizes (chunks_length _ _ _) h.sizes ⟨?_,?_⟩ i c hc
  ·simp only[Pst.headP]
   split<;>rfl
  ·have:=kind_bd t
   simp only[Pst.headP]
   split
   ·simp only;omega
   ·simp only;omega
 ·rw[hlen]
  show((t.pack pr ys).out dict).length≤_
  have hl:=h.len
  rw[hout,List.length_append,List.length_append]
  unfold Pst.out
  omega
 ·intro hr
  exact absurd hr (by decide)
end Pk
namespace Ck
open Mem Wire Win
def readG{σ:Type}(step:σ→Head→List UInt8→Option σ)(b:List UInt8)(packed size:Int):Nat→Sr→σ→Except (Nat×Nat) (Nat×σ)
 |0,_,_=>.error (0,0)
 |f+1,s,u=>
   if s.now=3 then .ok (s.at',u)
   else match nextP b packed size s with
    |.error x=>.error x
    |.ok (h,part,fr,s2)=>match step u h part with
      |none=>.error (fr,2)
      |some u2=>readG step b packed size f s2 u2
def hStep(hs:List Head)(h:Head)(part:List UInt8):Option (List Head):=some (hs++[h])
end Ck
namespace Pk
open Mem Rc St Lz Ck En Win
structure Pst.Whole(t:Pst)(data:List UInt8)(dict:Nat)(pr:Pr)(raw:Bool):Prop where
 ok:t.Ok data dict pr raw
 all:data.length≤65536*t.pts.length
 each:∀i,i<t.pts.length→65536*i<data.length
theorem Pst.Whole.upto{t:Pst}{data:List UInt8}{dict:Nat}{pr:Pr}{raw:Bool}(h:t.Whole data dict pr raw):Pk.upto data.length t.pts.length=data.length:=by
 have:=h.all
 unfold Pk.upto
 omega
theorem Pst.Whole.pieces{t:Pst}{data:List UInt8}{dict:Nat}{pr:Pr}{raw:Bool}(h:t.Whole data dict pr raw):t.pts.length=(data.length+65535)/65536:=by
 have h1:=h.all
 by_cases h0:t.pts.length=0
 ·omega
 ·have h2:=h.each (t.pts.length-1) (by omega)
  omega
theorem readE_G{U:Type}(F:U→Head→List UInt8→Option U)(b:List UInt8)(packed size:Int):∀(f:Nat)(s:Sr)(u:U),readE F b packed size f s u=readG F b packed size f s u
 |0,s,u=>rfl
 |f+1,s,u=>by
   unfold readE readG
   by_cases h3:s.now=3
   ·rw[if_pos h3,if_pos h3]
   rw[if_neg h3,if_neg h3]
   cases nextP b packed size s with
   |error x=>rfl
   |ok r=>
     obtain⟨h,part,fr,s2⟩:=r
     simp only
     cases F u h part with
     |none=>rfl
     |some u2=>exact readE_G F b packed size f s2 u2
theorem fold_heads:∀(l:List Chk)(hs:List Head),fold hStep l hs=some (hs++l.map (·.1))
 |[],hs=>by simp[fold]
 |p::l,hs=>by
   rw[fold,hStep,Option.bind_some,fold_heads l]
   simp
theorem moves_of{dict g:Nat}{l:List Pt}(hd:1≤dict)(hg:dict≤g)(hl:PtsOk l 0 (Xe.start dict) (0,0,0)):moves (chunks l (Xe.start dict) (0,0,0)) 0:=by
 have hR:Rel g (Xe.start dict) (0,0,0) (Ck.US.start g) (Cs.US.start g):=
  ⟨rfl,rfl,rfl,rfl,rfl,rfl,⟨⟨show 0+0≤4 by decide,show 0≤4 by decide,S.new_ok⟩,fresh_ok 0 0⟩,rfl,⟨hd,fun h7=>absurd h7 (show¬7≤0 by decide)⟩,hg,by decide⟩
 exact(fold_ok hR hl).1
theorem Pst.Whole.law{t:Pst}{data:List UInt8}{dict:Nat}{pr:Pr}{raw:Bool}(h:t.Whole data dict pr raw){g:Nat}(hd:1≤dict)(hg:dict≤g)(hg2:g≤4294967295)(behind:List UInt8):
 Ck.unpackP (t.out dict++0::behind) g (-1) (-1)=.ok ((t.out dict).length+1,data)∧
 readG hStep (t.out dict++0::behind) (-1) (-1) ((t.out dict++0::behind).length+2) ⟨0,0,0⟩ []=.ok ((t.out dict).length+1,(t.row dict).map (·.1)++[Head.none])∧
 (t.out dict).length≤data.length+3*((data.length+65535)/65536):=by
 have hu:=h.upto
 obtain⟨a,_⟩:=build_read hd hg hg2 h.ok.pts behind
 rw[h.ok.plain,hu,List.take_length] at a
 refine⟨a,?_,?_⟩
 ·have hm:=moves_of hd hg h.ok.pts
  have hlen:=rowB_len hm
  have r1:=read_row hStep (t.out dict++0::behind) behind (t.row dict) ((t.out dict++0::behind).length+2) ⟨0,0,0⟩ [] _ _ hm (by decide) rfl (fold_heads _ _) rfl (by
   rw[List.length_append]
   unfold Pst.out Pst.row
   omega)
  rw[readE_G] at r1
  rw[r1]
  simp only[Nat.zero_add,List.nil_append]
  rfl
 ·have hl:=h.ok.len
  rw[hu,h.pieces] at hl
  exact hl
end Pk
namespace Ch
open Mem Vi Ck Pk En
def done(dl:Nat)(xs:List UInt8):List UInt8:=if dl=0 then xs else Dl.go false dl xs []
theorem done_len(dl:Nat)(xs:List UInt8):(done dl xs).length=xs.length:=by
 unfold done
 split
 ·rfl
 ·exact Dl.go_len _ _ _ _
theorem undone_done(dl:Nat)(xs:List UInt8):undone dl (done dl xs)=xs:=by
 unfold undone done
 by_cases h:dl=0
 ·rw[if_pos h,if_pos h]
 ·rw[if_neg h,if_neg h]
  exact Dl.back_go dl xs []
theorem dict_step:∀k:Fin 40,2*dictOf (k.val+1)≤3*dictOf k.val:=by decide+kernel
theorem dict_near{n k:Nat}(h:IsByte n k)(hn:4096≤n):n≤dictOf k∧dictOf k≤n+n/2+4096∧dictOf k≤4294967295:=by
 obtain⟨h1,h2,h3⟩:=h
 refine⟨h3,?_,dictOf_le k h1⟩
 by_cases h0:k=0
 ·subst h0
  have:dictOf 0=4096:=by decide
  omega
 ·have a:=dict_step ⟨k-1,by omega⟩
  simp only[show k-1+1=k by omega] at a
  have b:=h2 (k-1) (by omega)
  omega
theorem read_last{dist k:Nat}(hk:k≤40):readA dist 0 [(33,[UInt8.ofNat k])]=(dist,dictOf k,0):=by
 have hp:=dictOf_pos k
 have hne:dictOf k≠0:=by omega
 have hk2:(UInt8.ofNat k).toNat=k:=by rw[UInt8.toNat_ofNat'];omega
 have e:readA dist 0 [(33,[UInt8.ofNat k])]=if(UInt8.ofNat k).toNat≤40 then readA dist (dictOf (UInt8.ofNat k).toNat) [] else(0,0,4):=rfl
 rw[e,hk2,if_pos hk]
 show(if dictOf k=0 then(0,0,4) else(dist,dictOf k,0))=_
 rw[if_neg hne]
theorem read_of{d k:Nat}(hd:d≤256)(hk:k≤40):readA 0 0 (ofA d k)=(d,dictOf k,0):=by
 unfold ofA
 by_cases h:d=0
 ·subst h
  exact read_last hk
 ·rw[if_neg h]
  have hd2:(UInt8.ofNat (d-1)).toNat+1=d:=by rw[UInt8.toNat_ofNat'];omega
  have e:readA 0 0 [(3,[UInt8.ofNat (d-1)]),(33,[UInt8.ofNat k])]=readA ((UInt8.ofNat (d-1)).toNat+1) 0 [(33,[UInt8.ofNat k])]:=rfl
  show readA 0 0 [(3,[UInt8.ofNat (d-1)]),(33,[UInt8.ofNat k])]=_
  rw[e,hd2]
  exact read_last hk
theorem chain_law{t:Pst}{data:List UInt8}{dl dict:Nat}{pr:Pr}{raw:Bool}(h:t.Whole (done dl data) dict pr raw){g:Nat}(hd:1≤dict)(hg:dict≤g)(hg2:g≤4294967295)(tail:List UInt8){B:List UInt8}(hB:t.out dict++[0]=B):
 mapRes dl (unpackP (B++tail) g (-1) (-1))=.ok (B.length,data)∧mapRes dl (unpackP (B++tail) g B.length data.length)=.ok (B.length,data)∧
 (∀n xs,unpackP (B++tail) g (-1) (-1)=.ok (n,xs)→xs.length=data.length)∧(∀n xs,unpackP (B++tail) g B.length data.length=.ok (n,xs)→xs.length=data.length)∧B.length≤data.length+3*((data.length+65535)/65536)+1∧1≤B.length:=by
 obtain⟨a1,_,a3⟩:=h.law hd hg hg2 tail
 have e1:t.out dict++0::tail=B++tail:=by rw[←hB];simp
 have e2:(t.out dict).length+1=B.length:=by rw[←hB];simp
 rw[e1,e2] at a1
 rw[done_len] at a3
 have a4:=fit_law a1 B.length data.length (by omega) (by omega) ⟨.inr rfl,.inr (by rw[done_len])⟩
 refine⟨?_,?_,fun n xs h=> ?_,fun n xs h=> ?_,by omega,by omega⟩
 ·rw[a1]
  show Except.ok (B.length,undone dl (done dl data))=_
  rw[undone_done]
 ·rw[a4]
  show Except.ok (B.length,undone dl (done dl data))=_
  rw[undone_done]
 ·rw[a1] at h
  simp only[Except.ok.injEq,Prod.mk.injEq] at h
  rw[←h.2,done_len]
 ·rw[a4] at h
  simp only[Except.ok.injEq,Prod.mk.injEq] at h
  rw[←h.2,done_len]
end Ch
namespace Fi
open Mem
open Go.Maps (Keyed)
open Go.WideElems (Fit rd)
open Go.ChangeMaps (setBlock heap_setBlock_same heap_setBlock_other)
theorem laidOutT:laidOutB Tryz.prog=true:=by kernel_rfl
theorem wordLaw:WideMaps.KeyLaw Tryz.prog 363:=
 deep_law_laid laidOutT (m:=2) (by omega) (of_decide_eq_true (by kernel_rfl)) (by kernel_rfl) (by kernel_rfl)
theorem wordKeyed:Keyed Tryz.prog 363:=Keyed.of_law wordLaw
abbrev wordV(a b c:UInt8):Value:=.agg #[bv a,bv b,bv c]
theorem u8_wf(a:UInt8):(Lit.int .u8 (a.toNat:Int)).wf=true:=by
 have key:∀n:Fin 256,(Lit.int .u8 (n.val:Int)).wf=true:=by decide+kernel
 exact key ⟨a.toNat,a.toNat_lt⟩
theorem word_key(a b c:UInt8):∃kl,keyOf Tryz.prog 363 (wordV a b c)=some kl:=by
 obtain⟨m,hm⟩:∃m,Tryz.prog.types.size=m+1:=⟨Tryz.prog.types.size-1,by kernel_rfl⟩
 have c3:Tryz.prog.cellsOf 363=3:=by kernel_rfl
 have c1:Tryz.prog.cellsOf 5=1:=by kernel_rfl
 have h1:∀x:UInt8,Tryz.prog.keyLits (m+1) 5 [bv x]=some [.int .u8 (x.toNat:Int)]:=by
  intro x
  unfold Program.keyLits
  rw[Tryz.underlying5]
  simp only[bv]
  rw[if_pos ⟨trivial,u8_wf x⟩]
 have h2:Tryz.prog.keyLits (m+1+1) 363 [bv a,bv b,bv c]=some [.int .u8 (a.toNat:Int),.int .u8 (b.toNat:Int),.int .u8 (c.toNat:Int)]:=by
  unfold Program.keyLits
  rw[Tryz.underlying363]
  simp only[c3,c1]
  rw[if_pos (by rfl)]
  rw[show List.range 3=[0,1,2] from rfl]
  simp[h1]
 refine⟨.string (keyBytes [.int .u8 (a.toNat:Int),.int .u8 (b.toNat:Int),.int .u8 (c.toNat:Int)]),?_⟩
 unfold keyOf
 rw[Tryz.underlying363]
 simp only
 rw[show(Tryz.prog.keyType 363&&(wordV a b c).formed Tryz.prog 363)=true by kernel_rfl,if_pos rfl,hm,show(wordV a b c).cells.toList=[bv a,bv b,bv c] from rfl,h2]
 rfl
def Up(n:Nat)(zs:List Nat):Prop:=zs.Pairwise (·<·)∧∀z ∈ zs,z<n
theorem Up.snoc{n:Nat}{zs:List Nat}(h:Up n zs):Up (n+1) (zs++[n]):=by
 refine⟨List.pairwise_append.2 ⟨h.1,List.pairwise_singleton _ _,fun a ha b hb=> ?_⟩,fun z hz=> ?_⟩
 ·rw[List.mem_singleton.1 hb]
  exact h.2 a ha
 ·rcases List.mem_append.1 hz with hz|hz
  ·have:=h.2 z hz
   omega
  ·rw[List.mem_singleton.1 hz]
   omega
theorem Up.mono{n m:Nat}{zs:List Nat}(h:Up n zs)(hm:n≤m):Up m zs:=⟨h.1,fun z hz=>Nat.lt_of_lt_of_le (h.2 z hz) hm⟩
def ints(zs:List Nat):List Value:=zs.map fun(z:Nat)=>Value.int .i64 (z:Int)
def VRow(w:World)(v:Value)(zs:List Nat):Prop:=w.ownsRow 0 3 1 v zs.length (ints zs)
theorem VRow.nil(w:World):VRow w (.slice none 0 0) []:=World.ownsRow_nil _ _ _ _
theorem VRow.block{w:World}{v:Value}{zs:List Nat}(h:VRow w v zs){k:Nat}(hk:v.ownBlock=some k):∃cs,w.heap[k]? =some (.cells cs 3 (0,0)):=by
 rcases h.2 with⟨rfl,_⟩|⟨g,cap,cur,rfl,_,hg,_⟩
 ·simp[Value.ownBlock] at hk
 ·simp only[Value.ownBlock,Option.some.injEq] at hk
  subst hk
  exact⟨cur,hg⟩
theorem VRow.step{S:Nat→Prop}{w w':World}{v:Value}{zs:List Nat}(h:VRow w v zs)(hf:Fr S w w')(hS:∀k,v.ownBlock=some k→¬S k):VRow w' v zs:=own_step h hf hS
def Off(w:World)(S:Nat→Prop):Prop:=∀k,S k→k<w.heap.size→∃cs t fr,w.heap[k]? =some (.cells cs t fr)∧t≠3
abbrev noR:Value→Option (DataW Unit×List MemPlace):=fun _=>some (.nil,[])
structure MapIs(w:World)(M n B:Nat)(es:Array MapEntry)(clock:Nat):Prop where
 box:w.heap[M]? =some (.map es clock)
 fit:Fit Tryz.prog 363 noR es clock
 few:es.size≤n
 rows:∀x ∈ es.toList,∃zs,VRow w x.val zs∧Up n zs∧zs.length≤n
 apart:∀x ∈ es.toList,∀y ∈ es.toList,x.key≠y.key→x.val.ownBlock=none∨x.val.ownBlock≠y.val.ownBlock
 low:∀x ∈ es.toList,∀k,x.val.ownBlock=some k→B≤k
def MapAt(w:World)(M n B:Nat):Prop:=∃es clock,MapIs w M n B es clock
theorem MapAt.keep{S:Nat→Prop}{w w':World}{M n B:Nat}(h:MapAt w M n B)(hf:Fr S w w')(hS:Off w S):MapAt w' M n B:=by
 obtain⟨es,clock,h⟩:=h
 refine⟨es,clock,hf.keep h.box (fun hM=> ?_),h.fit,h.few,fun x hx=> ?_,h.apart,h.low⟩
 ·obtain⟨cs,t,fr,e,_⟩:=hS M hM (lt_of_block h.box)
  rw[h.box] at e
  cases e
 ·obtain⟨zs,h1,h2⟩:=h.rows x hx
  refine⟨zs,h1.step hf (fun k hk hs=> ?_),h2⟩
  obtain⟨cs,hc⟩:=h1.block hk
  obtain⟨cs',t,fr,e,ht⟩:=hS k hs (lt_of_block hc)
  rw[hc] at e
  simp only[Option.some.injEq,Obj.cells.injEq] at e
  exact ht e.2.1.symm
theorem off_none(w:World):Off w (fun _=>False):=fun _ h=>h.elim
theorem map_made{w:World}{M:Nat}(B:Nat)(h:w.heap[M]? =some (.map #[] 0)):MapAt w M 0 B:=
 ⟨#[],0,h,⟨by simp,MapKept.stamped_empty 0,by simp⟩,Nat.le_refl _,by simp,by simp,by simp⟩
theorem zeroInts(w:World):(zeroValue 94).run Tryz.prog w=.ok (.slice none 0 0) w:=by kernel_rfl
theorem nodup_eq{l:List MapEntry}(h:(l.map (·.key)).Nodup){a b:MapEntry}(ha:a ∈ l)(hb:b ∈ l)(e:a.key=b.key):a=b:=by
 induction l with
 |nil=>cases ha
 |cons x l ih=>
   rw[List.map_cons,List.nodup_cons] at h
   rcases List.mem_cons.1 ha with rfl|ha1<;>rcases List.mem_cons.1 hb with rfl|hb1
   ·rfl
   ·exact absurd (show a.key ∈ l.map (·.key) from List.mem_map.2 ⟨b,hb1,e.symm⟩) h.1
   ·exact absurd (show b.key ∈ l.map (·.key) from List.mem_map.2 ⟨a,ha1,e⟩) h.1
   ·exact ih h.2 ha1 hb1
theorem MapAt.look{w:World}{M n B:Nat}(h:MapAt w M n B){key:Value}{kl:Lit}(hk:keyOf Tryz.prog 363 key=some kl):
 ∃v zs,(∀w':World,w'.heap[M]? =w.heap[M]? →(Instr.lookup 313 (.map (some M)) key false).run Tryz.prog w'=.ok v w')∧VRow w v zs∧Up n zs∧zs.length≤n:=by
 obtain⟨es,clock,h⟩:=h
 have look:=fun(w':World)(hw:w'.heap[M]? =w.heap[M]?)=>Maps.fit_look (w:=w') false wordKeyed Tryz.underlying313 (zeroInts w') (hw.trans h.box) h.fit hk
 rcases look w rfl with⟨_,hno,_⟩|⟨e0,y,hm0,h3,_⟩
 ·refine⟨.slice none 0 0,[],fun w' hw=> ?_,VRow.nil w,⟨List.Pairwise.nil,by simp⟩,Nat.zero_le _⟩
  rcases look w' hw with⟨hrun,_⟩|⟨e1,_,hm1,h4,_⟩
  ·exact hrun
  ·exact absurd h4 (hno e1 hm1)
 ·obtain⟨zs,h1,h2,h4⟩:=h.rows e0 hm0
  refine⟨e0.val,zs,fun w' hw=> ?_,h1,h2,h4⟩
  rcases look w' hw with⟨_,hno,_⟩|⟨e1,_,hm1,h5,hrun,_⟩
  ·exact absurd h3 (hno e0 hm0)
  ·rw[nodup_eq h.fit.stamped.2.2 hm0 hm1 (h3.trans h5.symm)]
   exact hrun
theorem setBlock_fr(w:World)(M:Nat){es:Array MapEntry}{clock:Nat}(hb:w.heap[M]? =some (.map es clock))(o:Obj):Fr (fun k=>k=M) w (setBlock w M o)∧(setBlock w M o).heap.size=w.heap.size:=
 ⟨⟨rfl,rfl,rfl,by simp[setBlock],fun k _ hne=>heap_setBlock_other hb o hne⟩,by simp[setBlock]⟩
theorem MapAt.entry{w:World}{M n B:Nat}(h:MapAt w M n B)(hB:B≤w.heap.size)(hn:n<maxLen){key:Value}{kl:Lit}(hk:keyOf Tryz.prog 363 key=some kl):
 ∃v0 zs st w1,(Instr.mapEntry 313 (.map (some M)) key).run Tryz.prog w=.ok (.tuple #[v0,goInt st]) w1∧Fr (fun k=>k=M) w w1∧w1.heap.size=w.heap.size∧VRow w1 v0 zs∧Up n zs∧zs.length≤n∧(∀k,v0.ownBlock=some k→B≤k)∧
  ∀(S:Nat→Prop)(w2:World)(v':Value)(zs':List Nat),Fr S w1 w2→(∀k,S k→k<w1.heap.size→v0.ownBlock=some k)→VRow w2 v' zs'→Up (n+1) zs'→zs'.length≤n+1→(∀k,v'.ownBlock=some k→v0.ownBlock=some k∨w1.heap.size≤k)→
   ∃w3,(Instr.entryStore 313 (.map (some M)) (goInt st) v').run Tryz.prog w2=.ok () w3∧Fr (fun k=>k=M) w2 w3∧w3.heap.size=w2.heap.size∧MapAt w3 M (n+1) B:=by
 obtain⟨es,clock,h⟩:=h
 obtain⟨v0,st,es1,clock1,hrun,hv0,hst⟩:=WideElems.entry_then_store wordLaw Tryz.underlying313 zeroInts h.box h.fit hk
 obtain⟨f1,s1⟩:=setBlock_fr w M h.box (.map es1 clock1)
 have hrow:∃zs,VRow w v0 zs∧Up n zs∧zs.length≤n∧(∀k,v0.ownBlock=some k→B≤k):=by
  rcases hv0 with⟨e0,hm,_,rfl⟩|⟨_,rfl⟩
  ·obtain⟨zs,a,b,c⟩:=h.rows e0 hm
   exact⟨zs,a,b,c,h.low e0 hm⟩
  ·exact⟨[],VRow.nil w,⟨List.Pairwise.nil,by simp⟩,Nat.zero_le _,by simp[Value.ownBlock]⟩
 obtain⟨zs,r1,r2,r3,r4⟩:=hrow
 have offM:∀{v:Value}{ys:List Nat},VRow w v ys→∀k,v.ownBlock=some k→k≠M:=by
  intro v ys hv k hkv e
  obtain⟨cs,hc⟩:=hv.block hkv
  rw[e,h.box] at hc
  cases hc
 have hbox1:=heap_setBlock_same h.box (.map es1 clock1)
 refine⟨v0,zs,st,_,hrun,f1,s1,r1.step f1 (offM r1),r2,r3,r4,?_⟩
 intro S w2 v' zs' hf hS hv' hup' hlen' hnew'
 have hMS:¬S M:=fun hs=>by
  have h1:=hS M hs (by rw[s1];exact lt_of_block h.box)
  exact offM r1 M h1 rfl
 have hbox2:w2.heap[M]? =some (.map es1 clock1):=hf.keep hbox1 hMS
 obtain⟨es',clock',hst1,hup⟩:=hst w2 v' hbox2
 obtain⟨es2,clock2,hup2,hfit2,hput,_,_,hwho⟩:=Maps.fit_store (R':=noR) wordKeyed Tryz.underlying313 h.box h.fit (Nat.lt_of_le_of_lt h.few hn) (key:=key) (val:=v') (yv:=(.nil,[])) (fun x _ _ z hz=>hz) hk rfl
 have hee:es'=es2∧clock'=clock2:=by
  rw[hup] at hup2
  simp only[Result.ok.injEq,true_and] at hup2
  have e1:=heap_setBlock_same h.box (.map es' clock')
  rw[hup2,heap_setBlock_same h.box] at e1
  simp only[Option.some.injEq,Obj.map.injEq] at e1
  exact⟨e1.1.symm,e1.2.symm⟩
 obtain⟨rfl,rfl⟩:=hee
 obtain⟨f3,s3⟩:=setBlock_fr w2 M hbox2 (.map es' clock')
 have hlt1:∀{v:Value}{ys:List Nat},VRow w v ys→∀k,v.ownBlock=some k→k<w.heap.size:=fun{v ys} hv k hkv=>by
  obtain⟨cs,hc⟩:=hv.block hkv
  exact lt_of_block hc
 -- an old entry at another key, in w2
 have old:∀x ∈ es.toList,x.key≠key→(x.val.ownBlock=none∨x.val.ownBlock≠v0.ownBlock):=by
  intro x hx hne
  rcases hv0 with⟨e0,hm,he,rfl⟩|⟨_,rfl⟩
  ·exact h.apart x hx e0 hm (by rw[he];exact hne)
  ·cases hb:x.val.ownBlock with
   |none=>exact .inl rfl
   |some b=>exact .inr (by simp[Value.ownBlock])
 have oldrow:∀x ∈ es.toList,x.key≠key→∃ys,VRow (setBlock w2 M (.map es' clock')) x.val ys∧Up (n+1) ys∧ys.length≤n+1:=by
  intro x hx hne
  obtain⟨ys,y1,y2,y3⟩:=h.rows x hx
  have z1:=y1.step f1 (offM y1)
  have z2:=z1.step hf (fun k hkk hs=>by
   have h1:=hS k hs (by rw[s1];exact hlt1 y1 k hkk)
   rcases old x hx hne with h2|h2
   ·rw[h2] at hkk
    cases hkk
   ·exact h2 (hkk.trans h1.symm))
  exact⟨ys,z2.step f3 (fun k hkk e=>offM y1 k hkk e),y2.mono (Nat.le_succ _),Nat.le_succ_of_le y3⟩
 have newrow:VRow (setBlock w2 M (.map es' clock')) v' zs':=hv'.step f3 (fun k hkk e=>by
  obtain⟨cs,hc⟩:=hv'.block hkk
  rw[e,hbox2] at hc
  cases hc)
 have apart:∀x ∈ es.toList,x.key≠key→(x.val.ownBlock=none∨x.val.ownBlock≠v'.ownBlock):=by
  intro x hx hne
  cases hb:x.val.ownBlock with
  |none=>exact .inl rfl
  |some b=>
    refine .inr (fun e=> ?_)
    obtain⟨ys,y1,_⟩:=h.rows x hx
    have hlt:=hlt1 y1 b hb
    rcases hnew' b e.symm with h1|h1
    ·rcases old x hx hne with h2|h2
     ·rw[hb] at h2
      cases h2
     ·exact h2 (hb.trans h1.symm)
    ·rw[s1] at h1
     exact absurd h1 (Nat.not_le.2 hlt)
 refine⟨_,hst1,f3,s3,es',clock',heap_setBlock_same hbox2 _,hfit2,?_,?_,?_,?_⟩
 ·have e1:es'.size=((es'.toList.map (WideElems.rg Tryz.prog 363 noR)).foldr DataW.insert []).length:=by rw[Go.length_sorted];simp
  rw[e1,hput]
  unfold ChangeMaps.putKey
  rw[Go.length_insert]
  have e2:=List.length_filter_le (ChangeMaps.notKey kl) ((es.toList.map (WideElems.rg Tryz.prog 363 noR)).foldr DataW.insert [])
  rw[Go.length_sorted] at e2
  simp at e2
  have:=h.few
  omega
 ·intro x hx
  rcases hwho x hx with⟨hx0,hne⟩|⟨_,hval⟩
  ·exact oldrow x hx0 hne
  ·rw[hval]
   exact⟨zs',newrow,hup',hlen'⟩
 ·intro x hx y hy hne
  rcases hwho x hx with⟨hx0,hxk⟩|⟨hxk,hxv⟩<;>rcases hwho y hy with⟨hy0,hyk⟩|⟨hyk,hyv⟩
  ·exact h.apart x hx0 y hy0 hne
  ·rw[hyv]
   exact apart x hx0 hxk
  ·rw[hxv]
   cases hv:v'.ownBlock with
   |none=>exact .inl rfl
   |some g=>
     refine .inr (fun e=> ?_)
     rcases apart y hy0 hyk with h2|h2
     ·rw[h2] at e
      cases e
     ·exact h2 (by rw[hv,e])
  ·exact absurd (hxk.trans hyk.symm) hne
 ·intro x hx k hk
  rcases hwho x hx with⟨hx0,_⟩|⟨_,hval⟩
  ·exact h.low x hx0 k hk
  ·rw[hval] at hk
   rcases hnew' k hk with h1|h1
   ·exact r4 k h1
   ·rw[s1] at h1
    exact Nat.le_trans hB h1
end Fi
end Go.Proofs.YtffoddpjfgjelaaGreatDoor
