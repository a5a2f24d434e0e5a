/- Part 30 of 54: lemmas of the last part, each under the conditions that it names. -/
import Derived.Deep.Slices
import Derived.Deep.Fields
import Derived.ChangeSame
import Derived.Test.YtlgccpjccopdmaaGreatDoorP01
import Derived.Test.YtlgccpjccopdmaaGreatDoorP19
import Derived.Test.YtlgccpjccopdmaaGreatDoorP21
import Derived.Test.YtlgccpjccopdmaaGreatDoorP29
set_option linter.unusedVariables false
set_option linter.unusedSimpArgs false
set_option maxRecDepth 1500
namespace Go.Proofs.YtlgccpjccopdmaaGreatDoor
open Go.ChangeShapes Go.WideShapes Go.Deep Go.RowKit
namespace Opened
open Mem
section
variable {H:Type}{enc:TypeId×Value→H}{P:Program}{w:World}{base:Nat}{spare:Nat→Bool}{held:Bool}
theorem open_slice_fields{t e:TypeId}{fs:Array Field}{fuel:Nat}{cs:List Value}{x:DataW H×List MemPlace}(ht:P.underlying t=some (.slice e))(he:P.underlying e=some (.struct fs))
 (hone:oneCellFields P fs=true)(hC:P.cellsOf e=fs.size)(h:DataW.trod enc P w base spare held fuel t cs=some x):
 (cs=[.slice none 0 0]∧x=(.nil,[]))∨
 ∃(a:Addr)(len cap m:Nat)(D:Nat→DataW H)(Pl:Nat→List MemPlace),cs=[.slice (some a) len cap]∧base≤a.block∧len≤cap∧cap≤maxLen∧m=(if spare a.block then cap else len)∧
  x=(.slice ((List.range len).map D) ((List.range (m-len)).map fun j=>D (len+j)),MemPlace.row a (m*fs.size)++(List.range m).flatMap Pl)∧
  ∀i,i<m→∃(ys:List (DataW H×List MemPlace))(n:Nat),D i=.agg (ys.map (·.1))∧Pl i=ys.flatMap (·.2)∧ys.length=fs.size∧
   ∀(j:Nat)(f:Field),fs[j]? =some f→∃(v:Value)(y:DataW H×List MemPlace),w.cell? (a.add (i*fs.size+j))=some v∧ys[j]? =some y∧DataW.trod enc P w base spare held n f.type [v]=some y:=by
 rcases open_slice ht h with h0|⟨a,len,cap,m,n,D,Pl,hcs,hb,hl,hm,hmm,hx,hi⟩
 ·exact .inl h0
 ·refine .inr ⟨a,len,cap,m,D,Pl,hcs,hb,hl,hm,hmm,by rw[hC] at hx;exact hx,fun i him=> ?_⟩
  obtain⟨cs',hc,ht'⟩:=hi i him
  rw[hC] at hc
  obtain⟨ys,n',hn',hy,hlen,hyl,hf⟩:=DataW.trod_struct he ht'
  obtain⟨_,hcl,hat⟩:=World.cells?_some hc
  simp only[Prod.mk.injEq] at hy
  refine⟨ys,n',hy.1,hy.2,hyl,fun j f hj=> ?_⟩
  obtain⟨ho,hk⟩:=hone_of hone j f hj
  have hjl:j<fs.size:=(Array.getElem?_eq_some_iff.1 hj).1
  have hcell:=hat j hjl
  have hv:cs'[j]? =some (cs'[j]'(by omega)):=List.getElem?_eq_getElem (by omega)
  have h1:=hf j f hj
  rw[ho,hk] at h1
  have hone':(cs'.drop j).take 1=[cs'[j]'(by omega)]:=by
   rw[List.drop_eq_getElem_cons (by omega)]
   rfl
  rw[hone'] at h1
  have hys:ys[j]? =some (ys[j]'(by omega)):=List.getElem?_eq_getElem (by omega)
  refine⟨_,_,?_,hys,h1.trans hys⟩
  rw[←Go.Deep.add_add,hcell,hv]
theorem choose_lt2{α:Type} [Inhabited α]{p:Nat→α→Prop}{n:Nat}(h:∀i,i<n→∃x,p i x):∃f:Nat→α,∀i,i<n→p i (f i):=by
 refine⟨fun i=>if hi:i<n then Classical.choose (h i hi) else default,fun i hi=> ?_⟩
 simp only[hi,dif_pos]
 exact Classical.choose_spec (h i hi)
theorem trod_int_cell{fuel:Nat}{t:TypeId}{k:IntKind}{v:Value}{x:DataW H×List MemPlace}(ht:P.underlying t=some (.int k))(h:DataW.trod enc P w base spare held fuel t [v]=some x):
 ∃n:Int,v=.int k n∧(Lit.int k n).wf=true:=by
 obtain⟨n,h1,h2,h3⟩:=DataW.trod_int ht h
 exact⟨n,by simpa using h1,h3⟩
end
end Opened
namespace Opened
open Mem
section
variable {H:Type}{enc:TypeId×Value→H}{P:Program}{w:World}{base:Nat}{held:Bool}
theorem open_bytes{t e:TypeId}{fuel:Nat}{v:Value}{x:DataW H×List MemPlace}(ht:P.underlying t=some (.slice e))(he:P.underlying e=some (.int .u8))(hc:P.cellsOf e=1)
 (h:DataW.trod enc P w base (fun _=>true) held fuel t [v]=some x):∃xs:List UInt8,Rd w v xs∧xs.length<Rows.uptoBulk x.1:=by
 rcases open_ints ht he hc h with⟨h0,rfl⟩|⟨a,len,cap,zs,hcs,_,hl,hm,hz,rfl,hcell,hwf⟩
 ·simp only[List.cons.injEq,and_true] at h0
  subst h0
  exact⟨[],Rd.nil w,Bulk.one_le (H:=H) .nil⟩
 ·simp only[List.cons.injEq,and_true] at hcs
  subst hcs
  rw[if_pos rfl] at hz
  have hxl:((zs.take len).map fun z=>UInt8.ofNat z.toNat).length=len:=by rw[List.length_map,List.length_take];omega
  refine⟨(zs.take len).map fun z=>UInt8.ofNat z.toNat,⟨some a,cap,by rw[hxl],by omega,hm,fun h0=> ?_⟩,?_⟩
  ·rw[hxl] at h0
   have hpl:=row_plain (V:=fun i=>.int .u8 (zs.getD i 0)) hcell (by omega)
   refine⟨a.block,a.off,by rw[←hpl],fun i y hy=> ?_⟩
   have hi:i<len:=by have:=(List.getElem?_eq_some_iff.1 hy).1;omega
   have hcc:=hcell i (by omega)
   rw[hpl,add_mid] at hcc
   rw[hcc]
   have hzi:zs[i]? =some (zs[i]'(by omega)):=List.getElem?_eq_getElem (by omega)
   rw[List.getElem?_map,List.getElem?_take,if_pos hi,hzi] at hy
   simp only[Option.map_some,Option.some.injEq] at hy
   have hw:=hwf (zs[i]'(by omega)) (List.getElem_mem _)
   have hb:0≤zs[i]'(by omega)∧zs[i]'(by omega)≤255:=by simpa [Lit.wf,IntKind.min,IntKind.max,IntKind.signed,IntKind.bits] using hw
   subst hy
   simp only[bv,List.getD,hzi,Option.getD_some]
   congr 2
   rw[UInt8.toNat_ofNat']
   omega
  ·rw[hxl]
   have:=Bulk.slice_le (H:=H) (lits .u8 (zs.take len)) (lits .u8 (zs.drop len))
   have hll:(lits (H:=H) .u8 (zs.take len)).length=len:=by simp[lits];omega
   show len<Rows.uptoBulk (DataW.slice (lits (H:=H) .u8 (zs.take len)) (lits .u8 (zs.drop len)))
   omega
end
end Opened
namespace Opened
open Mem
section
variable {H:Type}{enc:TypeId×Value→H}{P:Program}{w:World}{base:Nat}{held:Bool}
theorem i64_of{n:Int}(h:(Lit.int .i64 n).wf=true):-9223372036854775808≤n∧n≤9223372036854775807:=by simpa [Lit.wf,IntKind.min,IntKind.max,IntKind.signed,IntKind.bits] using h
theorem bulk_sum(c d:Nat)(f:Nat→Nat)(D:Nat→DataW H):∀L:List Nat,(∀i ∈ L,c*f i≤d*Rows.uptoBulk (D i))→c*(L.map f).sum≤d*Rows.uptoBulkAll (L.map D)
 |[],_=>by simp
 |i::L,h=>by
   have h1:=h i (List.mem_cons_self ..)
   have h2:=bulk_sum c d f D L (fun j hj=>h j (List.mem_cons_of_mem _ hj))
   simp only[List.map_cons,List.sum_cons,Rows.uptoBulkAll,Nat.mul_add]
   omega
theorem costs_sum(F:Nat→En.Pz):∀L:List Nat,En.costs (L.map F)=(L.map fun i=>(F i).cost).sum
 |[]=>rfl
 |i::L=>by rw[List.map_cons,En.costs,costs_sum F L,List.map_cons,List.sum_cons]
theorem open_syms{t e:TypeId}{f0 f1 f2 f3:Field}{fuel:Nat}{v:Value}{x:DataW H×List MemPlace}(ht:P.underlying t=some (.slice e))(he:P.underlying e=some (.struct #[f0,f1,f2,f3]))
 (hone:oneCellFields P #[f0,f1,f2,f3]=true)(hC:P.cellsOf e=4)(h0:P.underlying f0.type=some (.int .i64))(h1:P.underlying f1.type=some (.int .u8))(h2:P.underlying f2.type=some (.int .i64))(h3:P.underlying f3.type=some (.int .i64))
 (h:DataW.trod enc P w base (fun _=>true) held fuel t [v]=some x):∃l:List St.Sz,En.RdZ w v l∧5*l.length<Rows.uptoBulk x.1∧∀z ∈ l,z.byte<256:=by
 rcases open_slice_fields ht he hone hC h with⟨h0,rfl⟩|⟨a,len,cap,m,D,Pl,hcs,hb,hl,hm,hmm,hx,hi⟩
 ·simp only[List.cons.injEq,and_true] at h0
  subst h0
  exact⟨[],⟨none,0,rfl,by simp,by simp[maxLen],by simp⟩,Bulk.one_le (H:=H) .nil,by simp⟩
 ·simp only[List.cons.injEq,and_true] at hcs
  simp only[if_true] at hmm
  subst hcs
  obtain⟨F,hF⟩:∃F:Nat→St.Sz,∀i,i<len→w.cell? (a.add (i*4+0))=some (.int .i64 (F i).kind)∧w.cell? (a.add (i*4+1))=some (.int .u8 (F i).byte)∧w.cell? (a.add (i*4+2))=some (.int .i64 (F i).len)∧w.cell? (a.add (i*4+3))=some (.int .i64 (F i).dist)∧(F i).byte<256∧5≤Rows.uptoBulk (D i):=by
   have:Inhabited St.Sz:=⟨⟨0,0,0,0⟩⟩
   refine choose_lt2 (p:=fun(i:Nat)(z:St.Sz)=>w.cell? (a.add (i*4+0))=some (.int .i64 z.kind)∧w.cell? (a.add (i*4+1))=some (.int .u8 z.byte)∧w.cell? (a.add (i*4+2))=some (.int .i64 z.len)∧w.cell? (a.add (i*4+3))=some (.int .i64 z.dist)∧z.byte<256∧5≤Rows.uptoBulk (D i)) (n:=len) (fun i hil=> ?_)
   obtain⟨ys,n,hD,_,hlen,hf⟩:=hi i (by omega)
   obtain⟨v0,y0,hc0,hy0,ht0⟩:=hf 0 f0 rfl
   obtain⟨v1,y1,hc1,hy1,ht1⟩:=hf 1 f1 rfl
   obtain⟨v2,y2,hc2,hy2,ht2⟩:=hf 2 f2 rfl
   obtain⟨v3,y3,hc3,hy3,ht3⟩:=hf 3 f3 rfl
   obtain⟨z0,rfl,_⟩:=trod_int_cell h0 ht0
   obtain⟨z1,rfl,hw⟩:=trod_int_cell h1 ht1
   obtain⟨z2,rfl,_⟩:=trod_int_cell h2 ht2
   obtain⟨z3,rfl,_⟩:=trod_int_cell h3 ht3
   have hb:0≤z1∧z1≤255:=by simpa [Lit.wf,IntKind.min,IntKind.max,IntKind.signed,IntKind.bits] using hw
   obtain⟨b,rfl⟩:=Int.eq_ofNat_of_zero_le hb.1
   have hbk:=Bulk.length_le (ys.map (·.1))
   rw[List.length_map,hlen] at hbk
   refine⟨⟨z0,b,z2,z3⟩,hc0,hc1,hc2,hc3,by simp only;omega,?_⟩
   rw[hD]
   simp only[Rows.uptoBulk]
   have:(#[f0,f1,f2,f3]:Array Field).size=4:=rfl
   omega
  have hlen:((List.range len).map F).length=len:=by simp
  refine⟨(List.range len).map F,⟨some a,cap,by rw[hlen],by omega,hm,fun h0=> ?_⟩,?_,fun z hz=> ?_⟩
  ·rw[hlen] at h0
   have hp:a=⟨a.block,a.off,none⟩:=by
    have:=(hF 0 h0).1
    rw[Nat.zero_mul,add_zero'] at this
    exact spot_none this
   refine⟨a.block,a.off,by rw[←hp],fun i z hz=> ?_⟩
   have hil:i<len:=by have:=(List.getElem?_eq_some_iff.1 hz).1;omega
   obtain rfl:F i=z:=by
    rw[List.getElem?_map,List.getElem?_range hil] at hz
    exact Option.some.inj hz
   obtain⟨g0,g1,g2,g3,_⟩:=hF i hil
   rw[hp,add_mid] at g0 g1 g2 g3
   refine⟨g0,?_,?_,?_⟩
   ·rw[Nat.add_assoc];exact g1
   ·rw[Nat.add_assoc];exact g2
   ·rw[Nat.add_assoc];exact g3
  ·rw[hlen,hx]
   have h2:=Bulk.slice_elems ((List.range len).map D) ((List.range (m-len)).map fun j=>D (len+j))
   have h3:=bulk_sum 1 1 (fun _=>5) D (List.range len) (fun i hi=>by have:=(hF i (List.mem_range.1 hi)).2.2.2.2.2;omega)
   have h4:((List.range len).map fun _=>5).sum=5*len:=by
    rw[List.map_const',List.sum_replicate_nat,List.length_range,Nat.mul_comm]
   simp only
   omega
  ·obtain⟨i,hir,rfl⟩:=List.mem_map.1 hz
   exact(hF i (List.mem_range.1 hir)).2.2.2.2.1
theorem open_parts{t e eb es:TypeId}{g0 g1 g2 g3 p0 p1 p2 f0 f1 f2 f3:Field}{fuel:Nat}{v:Value}{x:DataW H×List MemPlace}(ht:P.underlying t=some (.slice e))(he:P.underlying e=some (.struct #[g0,g1,g2,g3]))(hC:P.cellsOf e=6)
 (o0:g0.offset=0∧P.cellsOf g0.type=1)(o1:g1.offset=1∧P.cellsOf g1.type=3)(o2:g2.offset=4∧P.cellsOf g2.type=1)(o3:g3.offset=5∧P.cellsOf g3.type=1)
 (h0:P.underlying g0.type=some (.int .i64))(h1:P.underlying g1.type=some (.struct #[p0,p1,p2]))(q0:p0.offset=0∧P.cellsOf p0.type=1∧P.underlying p0.type=some (.int .i64))(q1:p1.offset=1∧P.cellsOf p1.type=1∧P.underlying p1.type=some (.int .i64))(q2:p2.offset=2∧P.cellsOf p2.type=1∧P.underlying p2.type=some (.int .i64))
 (h2:P.underlying g2.type=some (.slice es))(hes:P.underlying es=some (.struct #[f0,f1,f2,f3]))(hone:oneCellFields P #[f0,f1,f2,f3]=true)(hCs:P.cellsOf es=4)(k0:P.underlying f0.type=some (.int .i64))(k1:P.underlying f1.type=some (.int .u8))(k2:P.underlying f2.type=some (.int .i64))(k3:P.underlying f3.type=some (.int .i64))
 (h3:P.underlying g3.type=some (.slice eb))(heb:P.underlying eb=some (.int .u8))(hCb:P.cellsOf eb=1)
 (h:DataW.trod enc P w base (fun _=>true) held fuel t [v]=some x):∃l:List En.Pz,En.RdP w v l∧(∀p ∈ l,p.Wf)∧En.costs l<11*Rows.uptoBulk x.1:=by
 rcases open_slice ht h with⟨h0,rfl⟩|⟨a,len,cap,m,n,D,Pl,hcs,hb,hl,hm,hmm,hx,hi⟩
 ·simp only[List.cons.injEq,and_true] at h0
  subst h0
  exact⟨[],⟨none,0,rfl,by simp,by simp[maxLen],by simp⟩,by simp,by simp[En.costs,Rows.uptoBulk]⟩
 ·simp only[List.cons.injEq,and_true] at hcs
  simp only[if_true] at hmm
  subst hcs
  rw[hC] at hi
  obtain⟨F,hF⟩:∃F:Nat→En.Pz,∀i,i<len→(w.cell? (a.add (i*6+0))=some (.int .i64 (F i).kind)∧w.cell? (a.add (i*6+1))=some (.int .i64 (F i).lc)∧w.cell? (a.add (i*6+2))=some (.int .i64 (F i).lp)∧w.cell? (a.add (i*6+3))=some (.int .i64 (F i).pb)∧∃sv rv,w.cell? (a.add (i*6+4))=some sv∧w.cell? (a.add (i*6+5))=some rv∧En.RdZ w sv (F i).ys∧Rd w rv (F i).raw)∧(F i).Wf∧(F i).cost≤11*Rows.uptoBulk (D i):=by
   have:Inhabited En.Pz:=⟨⟨0,0,0,0,[],[]⟩⟩
   refine choose_lt2 (p:=fun(i:Nat)(q:En.Pz)=>(w.cell? (a.add (i*6+0))=some (.int .i64 q.kind)∧w.cell? (a.add (i*6+1))=some (.int .i64 q.lc)∧w.cell? (a.add (i*6+2))=some (.int .i64 q.lp)∧w.cell? (a.add (i*6+3))=some (.int .i64 q.pb)∧∃sv rv,w.cell? (a.add (i*6+4))=some sv∧w.cell? (a.add (i*6+5))=some rv∧En.RdZ w sv q.ys∧Rd w rv q.raw)∧q.Wf∧q.cost≤11*Rows.uptoBulk (D i)) (n:=len) (fun i hil=> ?_)
   obtain⟨cs',hc,ht'⟩:=hi i (by omega)
   obtain⟨_,hcl,hat⟩:=World.cells?_some hc
   obtain⟨c0,c1,c2,c3,c4,c5,rfl⟩:∃c0 c1 c2 c3 c4 c5,cs'=[c0,c1,c2,c3,c4,c5]:=by
    match cs',hcl with
    |[c0,c1,c2,c3,c4,c5],_=>exact⟨c0,c1,c2,c3,c4,c5,rfl⟩
   obtain⟨ys,n',_,hy,_,hyl,hf⟩:=DataW.trod_struct he ht'
   simp only[Prod.mk.injEq] at hy
   have e0:=hf 0 g0 rfl
   have e1:=hf 1 g1 rfl
   have e2:=hf 2 g2 rfl
   have e3:=hf 3 g3 rfl
   rw[o0.1,o0.2] at e0
   rw[o1.1,o1.2] at e1
   rw[o2.1,o2.2] at e2
   rw[o3.1,o3.2] at e3
   simp only[List.drop_zero,List.drop_succ_cons,List.take_succ_cons,List.take_zero] at e0 e1 e2 e3
   have hys:ys.length=4:=hyl
   obtain⟨y0,y1,y2,y3,rfl⟩:∃y0 y1 y2 y3,ys=[y0,y1,y2,y3]:=by
    match ys,hys with
    |[y0,y1,y2,y3],_=>exact⟨y0,y1,y2,y3,rfl⟩
   simp only[List.getElem?_cons_zero,List.getElem?_cons_succ] at e0 e1 e2 e3
   obtain⟨kind,rfl,hw0⟩:=trod_int_cell h0 e0
   obtain⟨zs,n2,_,hz,_,hzl,hg⟩:=DataW.trod_struct h1 e1
   have hzs:zs.length=3:=hzl
   obtain⟨z0,z1,z2,rfl⟩:∃z0 z1 z2,zs=[z0,z1,z2]:=by
    match zs,hzs with
    |[z0,z1,z2],_=>exact⟨z0,z1,z2,rfl⟩
   have d0:=hg 0 p0 rfl
   have d1:=hg 1 p1 rfl
   have d2:=hg 2 p2 rfl
   rw[q0.1,q0.2.1] at d0
   rw[q1.1,q1.2.1] at d1
   rw[q2.1,q2.2.1] at d2
   simp only[List.drop_zero,List.drop_succ_cons,List.take_succ_cons,List.take_zero,List.getElem?_cons_zero,List.getElem?_cons_succ] at d0 d1 d2
   obtain⟨lc,rfl,hw1⟩:=trod_int_cell q0.2.2 d0
   obtain⟨lp,rfl,hw2⟩:=trod_int_cell q1.2.2 d1
   obtain⟨pb,rfl,hw3⟩:=trod_int_cell q2.2.2 d2
   obtain⟨yy,r1,r2,r3⟩:=open_syms h2 hes hone hCs k0 k1 k2 k3 e2
   obtain⟨raw,r4,r5⟩:=open_bytes h3 heb hCb e3
   have a0:=hat 0 (by decide)
   have a1:=hat 1 (by decide)
   have a2:=hat 2 (by decide)
   have a3:=hat 3 (by decide)
   have a4:=hat 4 (by decide)
   have a5:=hat 5 (by decide)
   rw[add_add] at a0 a1 a2 a3 a4 a5
   refine⟨⟨kind,lc,lp,pb,raw,yy⟩,⟨a0,a1,a2,a3,_,_,a4,a5,r1,r4⟩,⟨i64_of hw1,i64_of hw2,i64_of hw3,i64_of hw0,r3⟩,?_⟩
   rw[hy.1]
   have hz1:y1.1=.agg [z0.1,z1.1,z2.1]:=by rw[hz];rfl
   have m0:=Bulk.one_le y0.1
   have m1:=Bulk.one_le z0.1
   have m2:=Bulk.one_le z1.1
   have m3:=Bulk.one_le z2.1
   simp only[List.map_cons,List.map_nil,Rows.uptoBulk,Rows.uptoBulkAll,hz1]
   unfold En.Pz.cost
   simp only
   omega
  have hlen:((List.range len).map F).length=len:=by simp
  refine⟨(List.range len).map F,⟨some a,cap,by rw[hlen],by omega,hm,fun h0=> ?_⟩,fun q hq=> ?_,?_⟩
  ·rw[hlen] at h0
   have hp:a=⟨a.block,a.off,none⟩:=by
    have:=(hF 0 h0).1.1
    rw[Nat.zero_mul,add_zero'] at this
    exact spot_none this
   refine⟨a.block,a.off,by rw[←hp],fun i z hz=> ?_⟩
   have hil:i<len:=by have:=(List.getElem?_eq_some_iff.1 hz).1;omega
   obtain rfl:F i=z:=by
    rw[List.getElem?_map,List.getElem?_range hil] at hz
    exact Option.some.inj hz
   obtain⟨⟨g0,g1,g2,g3,sv,rv,g4,g5,g6,g7⟩,_⟩:=hF i hil
   rw[hp,add_mid] at g0 g1 g2 g3 g4 g5
   rw[←Nat.add_assoc] at g1 g2 g3 g4 g5
   exact⟨g0,g1,g2,g3,sv,rv,g4,g5,g6,g7⟩
  ·obtain⟨i,hir,rfl⟩:=List.mem_map.1 hq
   exact(hF i (List.mem_range.1 hir)).2.1
  ·rw[hx]
   have h2:=Bulk.slice_elems ((List.range len).map D) ((List.range (m-len)).map fun j=>D (len+j))
   have h3:=bulk_sum 1 11 (fun i=>(F i).cost) D (List.range len) (fun i hi=>by have:=(hF i (List.mem_range.1 hi)).2.2;omega)
   rw[costs_sum]
   simp only
   omega
end
end Opened
end Go.Proofs.YtlgccpjccopdmaaGreatDoor
