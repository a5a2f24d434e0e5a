/- Part 36 of 54: lemmas of the last part, each under the conditions that it names. -/
import Derived.Test.YtffoddpjfgjelaaGreatDoorK35
set_option linter.unusedVariables false
set_option linter.unusedSimpArgs false
set_option maxRecDepth 1500
set_option maxHeartbeats 4000000
namespace Go.Proofs.YtffoddpjfgjelaaGreatDoor
open Go.RowKit
namespace En
open Mem Rc Win Lz St
def startP(pr:Pr)(n:Nat):Xe:=⟨⟨pr.1,pr.2.1,pr.2.2,S.new,n,[]⟩,⟨K.new,Lz.fresh pr.1 pr.2.1⟩⟩
theorem enewP_in(lc lp pb n:Nat)(E:lc+lp≤4)(L:pb≤4)(w:World)(h1:1≤n)(Y:n≤4294967295):
 Calls Tryz.prog 33 #[.agg #[.int .i64 lc,.int .i64 lp,.int .i64 pb],.int .i64 n] w fun e V=>Fr (fun _=>False) w V∧∃l:XL,e=.returned (.tuple #[ptr l.D,.int .i64 0])∧XAt V l (startP (lc,lp,pb) n)∧XSep l∧∀k,XFoot l k→w.heap.size≤k:=by
 have U:=heap_alloc_new w (.cells #[.int .i64 lc,.int .i64 lp,.int .i64 pb] 24);have B:=(R0 w).alloc (.cells #[.int .i64 lc,.int .i64 lp,.int .i64 pb] 24);have M:=fun W=>Hd (Lz.tables_calls lc lp pb W E);unfold Lz.NewPost at M;have I:=fun W=>Hd (St.props_ok lc lp pb E L W);have F:=Hd E;have H:=Hd L;clear E L;have HX:=Hd U;have X:=Hd B;clear U B;go_enter Tryz.func33,Tryz.ntmps33;go_wp2_with fail;refine(I _).out.mono ?_;rintro e t ⟨⟨x,rfl⟩,c⟩;have C:=c.keep HX.out (fun h=>h);have P:=Hd C;have y:=Hd (X.out.trans c);clear c C;go_wp2_with fail;refine(Win.new_in n _ (by omega) Y).mono ?_;rintro e w2 ⟨rfl,d,A⟩;have D:=d.keep P.out (fun h=>h);obtain⟨z0,z1,z2⟩:=cs3 D rfl rfl rfl;have z:=Hd d;have O:=Hd A;clear d A D;go_wp2_with fail;refine(M _).out.mono ?_;rintro e o ⟨T,b,g,rfl,m,i,q,R⟩;have p:=Hd m;have a:=Hd i;have J:=Hd q;have Z:=Hd R;clear m i q R;go_wp2_with fail;refine(En.new_calls o).mono ?_;rintro e u ⟨rfl,r,Q⟩;have N:=heap_alloc_new u (.cells #[ptr T,ptr t.heap.size,ptr o.heap.size] 149);have s:=(R0 u).alloc (.cells #[ptr T,ptr t.heap.size,ptr o.heap.size] 149);have v:=Hd (show Fr (fun _=>False) w (u.alloc (.cells #[ptr T,ptr t.heap.size,ptr o.heap.size] 149))∧XAt (u.alloc (.cells #[ptr T,ptr t.heap.size,ptr o.heap.size] 149)) ⟨u.heap.size,o.heap.size,T,t.heap.size,.slice none 0 0,.slice none 0 0,[],0,b,g⟩ (startP (lc,lp,pb) n)∧XSep ⟨u.heap.size,o.heap.size,T,t.heap.size,.slice none 0 0,.slice none 0 0,[],0,b,g⟩∧∀k,XFoot ⟨u.heap.size,o.heap.size,T,t.heap.size,.slice none 0 0,.slice none 0 0,[],0,b,g⟩ k→w.heap.size≤k from by
  have a0:=y.out.size;have a1:=z.out.size;have a2:=p.out.size;have a3:=r.size;have f:=r.trans s;have q:=J.out;refine⟨((y.out.trans z.out).trans p.out).trans f,⟨N,⟨f.keep a.out.box (fun h=>h),fun j K=>(a.out.set j K).keep f,a.out.inj⟩,(O.out.keep p.out (fun h=>h) (fun _ _ h=>h)).keep f (fun h=>h) (fun _ _ h=>h),⟨G.new,Q.keep s (fun h=>h) (fun _ _ h=>h),is_new⟩,⟨⟨F.out,H.out,S.new_ok⟩,fresh_ok _ _⟩⟩,⟨fun k _ e=>by simp[Value.ownBlock] at e⟩,fun k hk=> ?_⟩;rcases hk with e|((e|e)|⟨j,K,e⟩)|e|e|e
  ·simp only at e
   omega
  ·simp only at e
   omega
  ·simp[Value.ownBlock] at e
  ·have:=Z.out j K
   simp only at e;omega
  ·simp only at e
   omega
  ·simp[Value.ownBlock] at e
  ·simp only at e
   omega)
 clear r Q N s;go_wp2_with fail;go_ret2;exact⟨v.out.1,_,rfl,v.out.2⟩
end En
namespace Pk
open Mem Rc St Lz En Win Ck
def goodC(lc lp pb dict mode:Int):Bool:= !propsBad lc lp pb&&decide (4096≤dict∧dict≤67108864∧0≤mode∧mode≤2)
theorem goodX_calls(a b lc lp pb dict d c:Int)(w:World)(j:-9223372036854775808≤lc∧lc≤9223372036854775807)(k:-9223372036854775808≤lp∧lp≤9223372036854775807)(l:-9223372036854775808≤pb∧pb≤9223372036854775807):
 Calls Tryz.prog 32 #[.agg #[.int .i64 a,.int .i64 b,.int .i64 lc,.int .i64 lp,.int .i64 pb,.int .i64 dict,.int .i64 d,.int .i64 c]] w fun e B=>e=.returned (.bool (goodC lc lp pb dict c))∧Fr (fun _=>False) w B:=by
 have q:=Hd ((R0 w).alloc (.cells #[.int .i64 a,.int .i64 b,.int .i64 lc,.int .i64 lp,.int .i64 pb,.int .i64 dict,.int .i64 d,.int .i64 c] 26));have t:=Hd (heap_alloc_new w (.cells #[.int .i64 a,.int .i64 b,.int .i64 lc,.int .i64 lp,.int .i64 pb,.int .i64 dict,.int .i64 d,.int .i64 c] 26));have o:=fun W=>Hd (props_calls lc lp pb W j k l);clear j k l;unfold goodC;cases hbad:propsBad lc lp pb with
 |true=>
   rw[hbad] at o;clear hbad;go_enter Tryz.func32,Tryz.ntmps32;go_wp2_with fail;refine(o _).out.mono ?_;rintro e C ⟨⟨x,rfl⟩,g⟩;have f:=Hd (q.out.trans g);clear g;go_wp2_with fail;go_ret;exact⟨by simp,f.out⟩
 |false=>
   rw[hbad] at o;clear hbad;go_enter Tryz.func32,Tryz.ntmps32;go_wp2_with fail;refine(o _).out.mono ?_;rintro e C ⟨⟨x,rfl⟩,g⟩;have m:=g.keep t.out (fun h=>h);have D:=cell_in (i:=5) m rfl;have E:=cell_in (i:=7) m rfl;have f:=Hd (q.out.trans g);clear g m;by_cases F:dict<4096
   ·have u:decide (dict≥4096)=false:=decide_eq_false (by omega)
    have v:decide (4096≤dict)=false:=decide_eq_false (by omega);go_wp2_with fail;go_ret;exact⟨by rw[decide_eq_false (by omega)];rfl,f.out⟩
   have u:decide (dict≥4096)=true:=decide_eq_true (by omega);have v:decide (4096≤dict)=true:=decide_eq_true (by omega);by_cases G:67108864<dict
   ·have y:decide (dict≤67108864)=false:=decide_eq_false (by omega)
    go_wp2_with fail;go_ret;exact⟨by rw[decide_eq_false (by omega)];rfl,f.out⟩
   have y:decide (dict≤67108864)=true:=decide_eq_true (by omega);by_cases H:c<0
   ·have z:decide (c≥0)=false:=decide_eq_false (by omega)
    have A:decide (0≤c)=false:=decide_eq_false (by omega);go_wp2_with fail;go_ret;exact⟨by rw[decide_eq_false (by omega)];rfl,f.out⟩
   have z:decide (c≥0)=true:=decide_eq_true (by omega);have A:decide (0≤c)=true:=decide_eq_true (by omega);obtain⟨p,n⟩:∃p,decide (c≤2)=p:=⟨_,rfl⟩;have r:=Hd n;have s:=Hd (show(!false&&decide (4096≤dict∧dict≤67108864∧0≤c∧c≤2))=p from by
    rw[←n];simp only[Bool.not_false,Bool.true_and];exact decide_eq_decide.2 ⟨fun h=>h.2.2.2,fun h=>⟨by omega,by omega,by omega,h⟩⟩)
   go_wp2_with fail;go_ret;exact⟨by rw[s.out];rfl,f.out⟩
end Pk
namespace Pk
open Mem Rc St Lz En Win Ck
def Chosen(t:Pst)(cf:Cf)(data:List UInt8)(fm tp:Nat)(h:Head)(b:List UInt8)(x':Xe)(s:S):Prop:=
 (h=⟨if t.begun=false then 1 else 2,b.length,b.length,0,0,0⟩∧b=(data.drop fm).take (tp-fm)∧x'=t.x.raw b∧s=t.s)∨
 (cf.mode≠0∧∃ys:List Sy,h=t.headP cf.pr (tp-fm) ((t.from' cf.pr).putAll ys).e.k.bytes.length∧b=((t.from' cf.pr).putAll ys).e.k.bytes∧x'=((t.from' cf.pr).putAll ys).cut∧s=((t.from' cf.pr).putAll ys).c.s∧
   Legal ys (t.from' cf.pr)∧(∃s',Pk.Steps data tp ys fm (t.from' cf.pr).c.s tp s')∧b.length≤65536∧(headB h).length+b.length≤3+(tp-fm))
def Sure(t:Pst)(cf:Cf)(data:List UInt8)(fm tp:Nat)(h:Head)(b:List UInt8)(x':Xe)(s:S):Prop:=
 ((h=⟨if t.begun=false then 1 else 2,b.length,b.length,0,0,0⟩∧b=(data.drop fm).take (tp-fm)∧x'=t.x.raw b∧s=t.s)∧
   (cf.mode=0∨cf.mode≠0∧∃(ys:List Sy)(s':S),By cf.mode cf.dict data tp fm (t.from' cf.pr).c.s ys s'∧(65536<((t.from' cf.pr).putAll ys).e.k.bytes.length∨3+(tp-fm)≤(headB (t.headP cf.pr (tp-fm) ((t.from' cf.pr).putAll ys).e.k.bytes.length)).length+((t.from' cf.pr).putAll ys).e.k.bytes.length)))∨
 (cf.mode≠0∧∃(ys:List Sy)(s':S),By cf.mode cf.dict data tp fm (t.from' cf.pr).c.s ys s'∧h=t.headP cf.pr (tp-fm) ((t.from' cf.pr).putAll ys).e.k.bytes.length∧b=((t.from' cf.pr).putAll ys).e.k.bytes∧x'=((t.from' cf.pr).putAll ys).cut∧s=((t.from' cf.pr).putAll ys).c.s∧
   Legal ys (t.from' cf.pr)∧Pk.Steps data tp ys fm (t.from' cf.pr).c.s tp s'∧b.length≤65536∧(headB h).length+b.length<3+(tp-fm))
theorem Sure.chosen{t:Pst}{d:Cf}{data:List UInt8}{e tp:Nat}{h:Head}{b:List UInt8}{f:Xe}{s:S}(o:Sure t d data e tp h b f s):Chosen t d data e tp h b f s:=by
 rcases o with⟨a,_⟩|⟨a,q,p,r,g,i,j,k,l,m,n,c⟩
 ·exact .inl a
 ·exact .inr ⟨a,q,g,i,j,k,l,⟨p,m⟩,n,Nat.le_of_lt c⟩
def Nxt(cf:Cf)(data:List UInt8)(t t':Pst):Prop:=
 (t'=t.lay ((data.drop (upto data.length t.pts.length)).take (upto data.length (t.pts.length+1)-upto data.length t.pts.length))∧
   (cf.mode=0∨cf.mode≠0∧∃(ys:List Sy)(s':S),By cf.mode cf.dict data (upto data.length (t.pts.length+1)) (upto data.length t.pts.length) (t.from' cf.pr).c.s ys s'∧(65536<((t.from' cf.pr).putAll ys).e.k.bytes.length∨3+(upto data.length (t.pts.length+1)-upto data.length t.pts.length)≤(headB (t.headP cf.pr (upto data.length (t.pts.length+1)-upto data.length t.pts.length) ((t.from' cf.pr).putAll ys).e.k.bytes.length)).length+((t.from' cf.pr).putAll ys).e.k.bytes.length)))∨
 (cf.mode≠0∧∃(ys:List Sy)(s':S),By cf.mode cf.dict data (upto data.length (t.pts.length+1)) (upto data.length t.pts.length) (t.from' cf.pr).c.s ys s'∧((t.from' cf.pr).putAll ys).e.k.bytes.length≤65536∧
   (headB (t.headP cf.pr (upto data.length (t.pts.length+1)-upto data.length t.pts.length) ((t.from' cf.pr).putAll ys).e.k.bytes.length)).length+((t.from' cf.pr).putAll ys).e.k.bytes.length<3+(upto data.length (t.pts.length+1)-upto data.length t.pts.length)∧t'=t.pack cf.pr ys)
theorem Nxt.uniq{i:Cf}{data:List UInt8}{t a b:Pst}(p:Nxt i data t a)(l:Nxt i data t b):a=b:=by
 rcases p with⟨h,f⟩|⟨q,r,s,g,f,j,h⟩
 ·rcases l with⟨c,j⟩|⟨m,o,n,e,j,d,c⟩
  ·rw[h,c]
  ·exfalso
   rcases f with f|⟨_,r,u,g,k⟩
   ·exact m f
   ·obtain⟨rfl,_⟩:=g.uniq e
    omega
 ·rcases l with⟨c,d⟩|⟨m,o,n,e,d,k,c⟩
  ·exfalso
   rcases d with d|⟨_,o,n,e,k⟩
   ·exact q d
   ·obtain⟨rfl,_⟩:=g.uniq e
    omega
  ·obtain⟨rfl,_⟩:=g.uniq e
   rw[h,c]
def Runs(cf:Cf)(data:List UInt8):Nat→Pst→Prop
 |0,t=>t=Pst.start cf.dict cf.pr
 |i+1,t=>∃u,Runs cf data i u∧Nxt cf data u t
theorem Runs.uniq{c:Cf}{data:List UInt8}:∀{i:Nat}{t u:Pst},Runs c data i t→Runs c data i u→t=u
 |0,t,u,h1,h2=>h1.trans h2.symm
 |i+1,t,u,⟨a,h1,h2⟩,⟨b,h3,h4⟩=>by
   obtain rfl:=Runs.uniq h1 h3;exact h2.uniq h4
structure After(t t':Pst)(cf:Cf)(data:List UInt8)(h:Head)(b:List UInt8)(x':Xe)(s:S):Prop where
 ok:t'.Ok data cf.dict cf.pr (decide (cf.mode=0))
 out:t'.out cf.dict=t.out cf.dict++(headB h++b)
 x:t'.x=x'
 s:t'.s=s
 begun:t'.begun=true
 packed:t'.packed=decide (3≤h.kind)
 props:t'.props=(t.props||decide (5≤h.kind))
 len:t'.pts.length=t.pts.length+1
theorem Sure.after{t:Pst}{a:Cf}{data:List UInt8}{h:Head}{b:List UInt8}{w:Xe}{s:S}(g:t.Ok data a.dict a.pr (decide (a.mode=0)))(q:65536*t.pts.length<data.length)(z:a.lc+a.lp≤4∧a.pb≤4)
 (x:Sure t a data (upto data.length t.pts.length) (upto data.length (t.pts.length+1)) h b w s):∃t',After t t' a data h b w s∧Nxt a data t t':=by
 rcases x with⟨⟨rfl,e,rfl,rfl⟩,m⟩|⟨u,o,v,k,rfl,rfl,rfl,rfl,y,n,d,f⟩
 ·obtain⟨i,j⟩:=g.lay q e
  refine⟨t.lay b,⟨i,j,rfl,rfl,rfl,?_,?_,by simp[Pst.lay]⟩,.inl ⟨by rw[e],m⟩⟩
  ·simp only[Pst.lay]
   split<;>rfl
  ·simp only[Pst.lay]
   split<;>simp
 ·have p:decide (a.mode=0)=false:=by simpa using u
  rw[p] at g;obtain⟨i,j⟩:=g.pack q z y ⟨v,n⟩ d (Nat.le_of_lt f);have r:(t.headP a.pr (upto data.length (t.pts.length+1)-upto data.length t.pts.length) ((t.from' a.pr).putAll o).e.k.bytes.length).kind=t.kind:=by
   unfold Pst.headP;split<;>rfl
  have l:=kind_bd t;refine⟨t.pack a.pr o,⟨by rw[p];exact i,j,rfl,rfl,rfl,?_,?_,by simp[Pst.pack]⟩,.inr ⟨u,o,v,k,d,f,rfl⟩⟩
  ·rw[r]
   simp only[Pst.pack];symm;simpa using l.1
  ·rw[r]
   simp only[Pst.pack];symm;by_cases c:5≤t.kind
   ·simp[c]
   ·have:t.props=true:=by
     unfold Pst.kind at c;cases e:t.begun with
     |false=>rw[e] at c;simp at c
     |true=>
       cases hp:t.packed with
       |true=>exact(g.same hp).2.2
       |false=>
         cases hq':t.props with
         |true=>rfl
         |false=>
           rw[e,hp,hq'] at c;simp at c
    simp[this]
end Pk
namespace Pk
open Mem Rc St Lz En Win Ck
def HeadOk(h:Head):Prop:=(1≤h.kind∧h.kind≤6)∧(h.kind≤2→h.packed=h.size)∧h.lc+h.lp≤4∧h.pb≤4∧Enc.okS h.kind h.size h.packed=true∧(h.kind<5→h.lc=0∧h.lp=0∧h.pb=0)
theorem HeadOk.put{h:Head}(t:HeadOk h)(w:World):Calls Tryz.prog 67 #[.agg #[.int .i64 h.kind,.int .i64 h.size,.int .i64 h.packed,.int .i64 h.lc,.int .i64 h.lp,.int .i64 h.pb]] w fun e i=>Fr (fun _=>False) w i∧∃g,e=.returned (.tuple #[g,.int .i64 0])∧Mine w i g (headB h):=by
 obtain⟨n,o,p,q,m,r⟩:=t;refine(Enc.hput_any h.kind h.size h.packed h.lc h.lp h.pb n o p q w).mono ?_;rintro e i ⟨s,g,rfl,u⟩;rw[if_pos m];refine⟨s,g,rfl,?_⟩;have:=u m;split at this
 ·rename_i h7
  obtain⟨j,k,l⟩:=r h7;obtain⟨a,b,c,d,e,f⟩:=h;simp only at j k l;subst j k l;exact this
 ·exact this
theorem headP_ok(t:Pst)(b:Cf)(n m:Nat)(c:b.lc+b.lp≤4∧b.pb≤4)(e:1≤n)(f:n≤65536)(g:1≤m)(i:m≤65536):HeadOk (t.headP b.pr n m):=by
 have d:=kind_bd t;have a:Enc.okS t.kind n m=true:=by
  unfold Enc.okS sizedP;rw[if_neg (by omega),decide_eq_true_eq];omega
 unfold Pst.headP;split
 ·rename_i h7
  exact⟨⟨by simp only;omega,by simp only;omega⟩,fun h=>by simp only at h;omega,by simp,by simp,a,fun _=>⟨rfl,rfl,rfl⟩⟩
 ·rename_i h7
  exact⟨⟨by simp only;omega,by simp only;omega⟩,fun h=>by simp only at h;omega,c.1,c.2,a,fun h=>by simp only at h;omega⟩
theorem Chosen.head{t:Pst}{a:Cf}{data:List UInt8}{c tp:Nat}{h:Head}{b:List UInt8}{j:Xe}{s:S}(g:Chosen t a data c tp h b j s)(i:a.lc+a.lp≤4∧a.pb≤4)(k:c<tp)(n:tp≤data.length)(f:tp-c≤65536):HeadOk h:=by
 rcases g with⟨rfl,d,_,_⟩|⟨_,o,rfl,d,_,_,_,_,e,_⟩
 ·have m:b.length=tp-c:=by rw[d,List.length_take,List.length_drop];omega
  have l:(if t.begun=false then 1 else 2)=1∨(if t.begun=false then 1 else 2)=2:=by split<;>simp
  refine⟨⟨by simp only;omega,by simp only;omega⟩,fun _=>rfl,by simp,by simp,?_,fun _=>⟨rfl,rfl,rfl⟩⟩;unfold Enc.okS;rw[if_pos (by simp only;omega),decide_eq_true_eq];simp only;omega
 ·rw[d] at e
  exact headP_ok t a (tp-c) _ i (by omega) (by omega) (bytes_pos _) e
theorem ResAt.aside{w w':World}{Z c:Nat}{h:Head}{d:Value}{b:List UInt8}{l:XL}{x:Xe}{s:S}{g:Array Value}(a:ResAt w Z h d b l x s)(f:w.heap[c]? =some (.cells g 87 (0,0)))(i:∀k,d.ownBlock=some k→k≠c)(e:Fr (fun k=>k=c) w w'):ResAt w' Z h d b l x s:=
 ⟨e.keep a.box (Ps.neOf a.box f (by decide)),a.rd.step e i,xaside a.xe f e (by decide) (by decide) (by decide) (by decide) (by decide) (by decide) (by decide)⟩
theorem step_bytesN{m:Array Oper}{o:Oper}{a:Act}{K:Act→World→Prop}{Q:Exit→Act→World→Prop}{E:Prop}(g:o.guard=none)(s y:Operand)
 (t:o.op=.call {callee:=.builtin .append,args:=#[s,y],argTypes:=#[22,22]}){w0 w:World}(v x:Value)(xs ys:List UInt8)(hv:a.eval s=v)(hx:a.eval y=x)(hacc:Acc w0 w v xs)(hrd:Rd w x ys)
 (hb:xs.length+ys.length≤70368744177664)
 (h:∀p b n f,n=xs.length+ys.length→Acc w0 f (.slice p n b) (xs++ys)→Fr (fun k=>v.ownBlock=some k) w f→(∀k,(Value.slice p n b).ownBlock=some k→v.ownBlock=some k∨w.heap.size≤k)→K (a.put o.dst (.slice p n b)) f):
 if Region.wanted o (yielded m a.tmps)=true then Oper.wp Tryz.prog o a w K Q else E:=by
 obtain⟨u,r,i,j,l⟩:=info_parts infoU8;refine step_append_any w g s y 22 22 t 5 u (.int .u8 0) 1 1 Tryz.underlying22 r i j l rfl (by decide) v xs.length (bvs xs) hv hacc.own x ys.length (bvs ys) hx (src_rd Tryz.underlying22 hrd) (by simp only[maxLen];omega) (by omega) ?_;intro z f e d c _;obtain⟨p,b,rfl,q⟩:=append_post hacc e d c;exact h p b _ f List.length_append q d c
theorem ResAt.beside{w w':World}{Z:Nat}{h:Head}{c:Value}{b:List UInt8}{l:XL}{x:Xe}{s:S}(a:ResAt w Z h c b l x s){v:Value}{xs:List UInt8}{w0:World}(f:Mine w0 w v xs)(i:∀k,v.ownBlock=some k→¬XFoot l k)(j:∀k,c.ownBlock=some k→v.ownBlock≠some k)(d:Fr (fun k=>v.ownBlock=some k) w w'):ResAt w' Z h c b l x s:=
 ⟨d.keep a.box (fun e=>by
  obtain⟨g,m⟩:=Lz.own_block f.own e;exact Ps.neOf a.box m (by decide) rfl),a.rd.step d (fun k n e=>j k n e),xbeside a.xe f i d⟩
def eightP(W:World)(P D':Nat)(s:S):World:=((((((W.setCell ⟨P,9,none⟩ (ptr D')).setCell ⟨P,10,none⟩ (.int .i64 s.num)).setCell ⟨P,11,none⟩ (.int .i64 s.r0)).setCell ⟨P,12,none⟩ (.int .i64 s.r1)).setCell ⟨P,13,none⟩ (.int .i64 s.r2)).setCell ⟨P,14,none⟩ (.int .i64 s.r3)).drew
theorem eightP_eq(W:World)(P D':Nat)(s:S):eightP W P D' s=((((((W.setCell ⟨P,9,none⟩ (ptr D')).setCell ⟨P,10,none⟩ (.int .i64 s.num)).setCell ⟨P,11,none⟩ (.int .i64 s.r0)).setCell ⟨P,12,none⟩ (.int .i64 s.r1)).setCell ⟨P,13,none⟩ (.int .i64 s.r2)).setCell ⟨P,14,none⟩ (.int .i64 s.r3)).drew:=rfl
theorem eightP_fr(W:World)(P D':Nat)(s:S):Fr (fun k=>k=P) W (eightP W P D' s):=((((((Fr.one W P 9 _).trans (Fr.one _ P 10 _)).trans (Fr.one _ P 11 _)).trans (Fr.one _ P 12 _)).trans (Fr.one _ P 13 _)).trans (Fr.one _ P 14 _)).drew
theorem eightP_in{W:World}{P D D':Nat}{s q:S}{e:Cf}{f i:Value}{b c d:Bool}(h:W.heap[P]? =some (.cells (pkCells e f D q i b c d) 87 (0,0))):(eightP W P D' s).heap[P]? =some (.cells (pkCells e f D' s i b c d) 87 (0,0)):=by
 obtain⟨r,o,n,l,k⟩:=q;obtain⟨a,g,j,m,p⟩:=s;have t:(W.setCell ⟨P,9,none⟩ (ptr D')).heap[P]? =some (.cells (pkCells e f D' ⟨r,o,n,l,k⟩ i b c d) 87 (0,0)):=(set_in h 9 (ptr D')).trans rfl;have u:((W.setCell ⟨P,9,none⟩ (ptr D')).setCell ⟨P,10,none⟩ (.int .i64 a)).heap[P]? =some (.cells (pkCells e f D' ⟨a,o,n,l,k⟩ i b c d) 87 (0,0)):=(set_in t 10 _).trans rfl;have v:(((W.setCell ⟨P,9,none⟩ (ptr D')).setCell ⟨P,10,none⟩ (.int .i64 a)).setCell ⟨P,11,none⟩ (.int .i64 g)).heap[P]? =some (.cells (pkCells e f D' ⟨a,g,n,l,k⟩ i b c d) 87 (0,0)):=(set_in u 11 _).trans rfl;have w:((((W.setCell ⟨P,9,none⟩ (ptr D')).setCell ⟨P,10,none⟩ (.int .i64 a)).setCell ⟨P,11,none⟩ (.int .i64 g)).setCell ⟨P,12,none⟩ (.int .i64 j)).heap[P]? =some (.cells (pkCells e f D' ⟨a,g,j,l,k⟩ i b c d) 87 (0,0)):=(set_in v 12 _).trans rfl;have x:(((((W.setCell ⟨P,9,none⟩ (ptr D')).setCell ⟨P,10,none⟩ (.int .i64 a)).setCell ⟨P,11,none⟩ (.int .i64 g)).setCell ⟨P,12,none⟩ (.int .i64 j)).setCell ⟨P,13,none⟩ (.int .i64 m)).heap[P]? =some (.cells (pkCells e f D' ⟨a,g,j,m,k⟩ i b c d) 87 (0,0)):=(set_in w 13 _).trans rfl;have y:((((((W.setCell ⟨P,9,none⟩ (ptr D')).setCell ⟨P,10,none⟩ (.int .i64 a)).setCell ⟨P,11,none⟩ (.int .i64 g)).setCell ⟨P,12,none⟩ (.int .i64 j)).setCell ⟨P,13,none⟩ (.int .i64 m)).setCell ⟨P,14,none⟩ (.int .i64 p)).heap[P]? =some (.cells (pkCells e f D' ⟨a,g,j,m,p⟩ i b c d) 87 (0,0)):=(set_in x 14 _).trans rfl;unfold eightP;exact(R0 _).drew.keep y (fun h=>h)
theorem lastP_in{W:World}{P D:Nat}{s:S}{c:Cf}{d e:Value}{j g f:Bool}(a b i:Bool)(h:W.heap[P]? =some (.cells (pkCells c d D s e j g f) 87 (0,0))):(((W.setCell ⟨P,16,none⟩ (.bool a)).setCell ⟨P,17,none⟩ (.bool b)).setCell ⟨P,18,none⟩ (.bool i)).heap[P]? =some (.cells (pkCells c d D s e a b i) 87 (0,0)):=by
 have k:(W.setCell ⟨P,16,none⟩ (.bool a)).heap[P]? =some (.cells (pkCells c d D s e a g f) 87 (0,0)):=(set_in h 16 _).trans rfl;have l:((W.setCell ⟨P,16,none⟩ (.bool a)).setCell ⟨P,17,none⟩ (.bool b)).heap[P]? =some (.cells (pkCells c d D s e a b f) 87 (0,0)):=(set_in k 17 _).trans rfl;exact(set_in l 18 _).trans rfl
theorem lastP_fr(W:World)(P:Nat)(a b c:Value):Fr (fun k=>k=P) W (((W.setCell ⟨P,16,none⟩ a).setCell ⟨P,17,none⟩ b).setCell ⟨P,18,none⟩ c):=((Fr.one W P 16 _).trans (Fr.one _ P 17 _)).trans (Fr.one _ P 18 _)
def Best(w:World)(t:Pst)(cf:Cf)(dv:Value)(data:List UInt8)(fm tp i:Nat)(s8 s9:Value)(wr:World):Prop:=
 ∃(Z n:Nat)(hd:Head)(bv:Value)(b:List UInt8)(l':XL)(x':Xe)(s':S),s8=ptr Z∧s9=.int .i64 n∧Chosen t cf data fm tp hd b x' s'∧ResAt wr Z hd bv b l' x' s'∧(∀j,XFoot l' j→w.heap.size≤j)∧(∀j,bv.ownBlock=some j→dv.ownBlock=some j∨w.heap.size≤j)∧(i=1→n=3+(tp-fm))∧Hid (i=1→hd=⟨if t.begun=false then 1 else 2,b.length,b.length,0,0,0⟩∧b=(data.drop fm).take (tp-fm)∧x'=t.x.raw b∧s'=t.s)∧Hid (i=2→Sure t cf data fm tp hd b x' s')
def WritePost(KB:Nat)(cf:Cf)(dv ov:Value)(data:List UInt8)(t:Pst)(w0 w:World)(e:Ending)(w':World):Prop:=
 e=.returned (.tuple #[])∧Fr (fun k=>k=KB∨ov.ownBlock=some k) w w'∧∃(ov':Value)(l':XL)(t':Pst),PkAt w0 w' KB cf dv ov' data l' t'∧t'.Ok data cf.dict cf.pr (decide (cf.mode=0))∧t'.pts.length=t.pts.length+1∧(∀k,ov'.ownBlock=some k→ov.ownBlock=some k∨w.heap.size≤k)∧Hid (Nxt cf data t t')
theorem write_fin{c Z:Nat}{i:Cf}{q n d G:Value}{data b:List UInt8}{t o:Pst}{w0 w g:World}{r:Head}{l':XL}{B:Xe}{s':S}{C D F:Bool}{m:Nat}(p:Bool)(a:After t o i data r b B s')
 (f:g.heap[c]? =some (.cells (pkCells i q l'.D s' d C D F) 87 (0,0)))(O:ResAt g Z r G b l' B s')(s:Mine w0 g d (t.out i.dict++headB r++b))(P:Fr (fun k=>k=c∨n.ownBlock=some k) w g)(E:Rd w q data)
 (v:∀k,q.ownBlock=some k→k<w0.heap.size)(I:w0.heap.size≤c)(A:∀k,n.ownBlock=some k→w0.heap.size≤k)(J:∀k,d.ownBlock=some k→n.ownBlock=some k∨w.heap.size≤k)(l:r.kind=m)(u:(t.props||decide (5≤m))=p)(z:Nxt i data t o):
 WritePost c i q n data t w0 w (.returned (.tuple #[])) (((g.setCell ⟨c,16,none⟩ (.bool true)).setCell ⟨c,17,none⟩ (.bool (decide ((3:Int)≤(m:Int))))).setCell ⟨c,18,none⟩ (.bool p)):=by
 have y:=lastP_fr g c (.bool true) (.bool (decide ((3:Int)≤(m:Int)))) (.bool p);have j:=P.trans (y.mono (T:=fun k=>k=c∨n.ownBlock=some k) (fun _ _ h=>.inl h));have L:o.packed=decide ((3:Int)≤(m:Int)):=by
  rw[a.packed,l];exact decide_eq_decide.2 (by omega)
 have M:o.props=p:=by rw[a.props,l,u]
 refine⟨rfl,j,d,l',o,⟨?_,E.step j (fun k x e=> ?_),?_,?_⟩,a.ok,a.len,J,Hd z⟩
 ·rw[a.s,a.begun,L,M]
  exact lastP_in _ _ _ f
 ·have N:=v k x
  rcases e with e|e
  ·omega
  ·have:=A k e
   omega
 ·rw[a.x]
  exact xaside O.xe f y (by decide) (by decide) (by decide) (by decide) (by decide) (by decide) (by decide)
 ·rw[a.out,←List.append_assoc]
  refine⟨own_step s.own y (fun k x e=> ?_),s.new⟩;subst e;obtain⟨H,K⟩:=Lz.own_block s.own x;exact Ps.neOf f K (by decide) rfl
set_option maxRecDepth 100000 in
theorem write_calls(B G:Nat)(d:Cf)(dv ov:Value)(data:List UInt8)(l:XL)(t:Pst)(w0 w:World)(h:PkAt w0 w B d dv ov data l t)(hT:Tabs w)(T:t.Ok data d.dict d.pr (decide (d.mode=0)))(hi:65536*t.pts.length<data.length)
 (hG:w.heap[G]? =some (.cells #[.func (.func 36) #[ptr B] #[],.func (.func 37) #[ptr B] #[]] 152 (0,0)))(b5:∀k,dv.ownBlock=some k→k<w0.heap.size)(l7:Fr (fun _=>False) w0 w)(j4:w0.heap.size≤B)(p0:(t.out d.dict).length≤4000000000)
 (hb:data.length≤1073741824)(l9:1≤d.dict)(b4:d.dict≤4294967295)(hq:d.lc+d.lp≤4∧d.pb≤4):
 Calls Tryz.prog 35 #[ptr B,.int .i64 (upto data.length t.pts.length),.int .i64 (upto data.length (t.pts.length+1)),.slice (some ⟨G,0,none⟩) 2 2] w (WritePost B d dv ov data t w0 w):=by
 obtain⟨u1,u2,u3,u4⟩:=upto_step hi;have u5:=upto_le data.length (t.pts.length+1);have c4:=fun(N:Head)(b:List UInt8)(R:Xe)(s:S)(h:Sure t d data (upto data.length t.pts.length) (upto data.length (t.pts.length+1)) N b R s)=>h.after T hi hq;obtain⟨c,f7⟩:∃c,upto data.length t.pts.length=c:=⟨_,rfl⟩;obtain⟨p,g7⟩:∃p,upto data.length (t.pts.length+1)=p:=⟨_,rfl⟩;have b0:=T.all;rw[f7] at u1 u2 u3 c4 b0 ⊢;rw[g7] at u2 u3 u4 u5 c4 ⊢;have i6:=Hd (show∀x:World,Fr (fun _=>False) w x→Calls Tryz.prog 36 #[ptr B,.int .i64 c,.int .i64 p] x (RawPost x dv t.x t.s (if t.begun=false then 1 else 2) ((data.drop c).take (p-c))) from fun x hf=>raw_calls B c p d dv ov data l t w0 x (h.keep hf) u2 u5 hb (by rw[T.k];decide) (by rw[b0,List.length_take];omega));have i9:=Hd (show∀x:World,Fr (fun _=>False) w x→Calls Tryz.prog 37 #[ptr B,.int .i64 c,.int .i64 p] x (TriedPost x t d data c p) from fun x hf=>tried_calls B c p d dv ov data l t w0 x (h.keep hf) (hT.keep hf) u2 u5 u3 hb T.k b0 T.ok T.sok (fun hk=>by
  have hp:t.packed=true:=by
   unfold Pst.kind at hk;cases hb':t.begun with
   |false=>rw[hb'] at hk;simp at hk
   |true=>
     cases hp:t.packed with
     |true=>rfl
     |false=>
       rw[hb',hp] at hk;simp at hk;split at hk<;>omega
  exact(T.same hp).2.1) l9 b4 T.size hq.1 hq.2)
 have k5:=Hd c4;have HH:=Hd h;have k6:=Hd hG;obtain⟨g0,g1⟩:=cs2 hG rfl rfl;have n8:=Hd f7;have o0:=Hd g7;clear c4 h hG hT u1 u4 f7 g7;go_enter Tryz.func35,Tryz.ntmps35;go_wp2_with fail;go_loopw [8,9,20](fun s8 s9 s20 wr=>∃i:Nat,s20=.int .i64 i∧Fr (fun _=>False) w wr∧((i=0∧s8=.pointer none∧s9=.int .i64 0)∨(1≤i∧i≤2∧Best w t d dv data c p i s8 s9 wr))) (fun _ _ s20 _=>2-(intOf s20).toNat);case atStart=>exact⟨0,rfl,Fr.refl _ _,.inl ⟨rfl,rfl,rfl⟩⟩
 case round=>
  obtain⟨i,rfl,f8,m4⟩:=hrel;have j8:=f8.keep k6.out (fun h=>h);obtain⟨g0,g1⟩:=cs2 j8 rfl rfl;have E:=Hd f8;clear f8 j8;rcases m4 with⟨rfl,rfl,rfl⟩|⟨o4,o5,f5⟩
  ·go_wp2_with fail
   refine(i6.out _ E.out).mono ?_;rintro e w1 ⟨v,Z,bv,W,rfl,f,hZ,b6,b1⟩;have j7:((data.drop c).take (p-c)).length=p-c:=by rw[List.length_take,List.length_drop];omega
   have a3:Chosen t d data c p ⟨if t.begun=false then 1 else 2,((data.drop c).take (p-c)).length,((data.drop c).take (p-c)).length,0,0,0⟩ ((data.drop c).take (p-c)) (t.x.raw ((data.drop c).take (p-c))) t.s:=.inl ⟨rfl,rfl,rfl,rfl⟩;have C:=a3.head hq u2 u5 u3;have j9:(headB ⟨if t.begun=false then 1 else 2,((data.drop c).take (p-c)).length,((data.drop c).take (p-c)).length,0,0,0⟩).length=3:=raw_headB (by split<;>simp);generalize c6:(⟨if t.begun=false then 1 else 2,((data.drop c).take (p-c)).length,((data.drop c).take (p-c)).length,0,0,0⟩:Head)=F at*;generalize c5:(data.drop c).take (p-c)=b at*;generalize k4:t.x.raw b=R at*;have a5:=Hd (show F=⟨if t.begun=false then 1 else 2,b.length,b.length,0,0,0⟩∧b=(data.drop c).take (p-c)∧R=t.x.raw b∧t.s=t.s from⟨c6.symm,c5.symm,k4.symm,rfl⟩);have a:=f.box;unfold resCells at a;obtain⟨r0,r1,r2,r3,r4,r5⟩:=cs6 a rfl rfl rfl rfl rfl rfl;obtain⟨bp,bc,rfl,l8⟩:=f.rd;have q:=Hd f;have U:=Hd (E.out.trans v);have Q:=Hd a3;have a6:=Hd C;have a2:=Hd (show∀j,XFoot W j→w.heap.size≤j from fun j hj=>Nat.le_trans E.out.size (b6 j hj));have P:=Hd b1;have k7:=Hd j9;have d5:=Hd j7;clear v f a a3 C b6 b1 j9 j7 c6 c5 k4 l8;go_wp2_with fail;refine(a6.out.put _).mono ?_;rintro e w2 ⟨r,hv,rfl,I⟩;obtain⟨hp,N,rfl⟩:=I.slice;have a:=r.keep q.out.box (fun h=>h);unfold resCells at a;clear r0 r1 r2 r3 r4 r5;have r6:=cell_in (i:=6) a rfl;have k0:(headB F).length=3:=k7.out;rw[k0];have m0:b.length=p-c:=d5.out;rw[m0] at r6;have H:=Hd (U.out.trans r);have g:=Hd (q.out.keep r);clear r I a k0;have X:=Hd (show∀j,(Value.slice bp b.length bc).ownBlock=some j→dv.ownBlock=some j∨w.heap.size≤j from fun j hj=>.inl (P.out j hj));go_wp2_with fail;exact⟨⟨1,rfl,H.out,.inr ⟨by omega,by omega,Z,3+(p-c),F,_,b,W,R,t.s,rfl,rfl,Q.out,g.out,a2.out,X.out,fun _=>rfl,Hd fun _=>⟨a5.out.1,a5.out.2.1,a5.out.2.2.1,rfl⟩,Hd fun h=>absurd h (by decide)⟩⟩,by simp[intOf]⟩
  ·obtain⟨Z,n,F,bv,b,W,R,O,rfl,rfl,a3,f,b6,b1,c7,V,e5⟩:=f5
   have Q:=Hd a3;have q:=Hd f;have a2:=Hd b6;have P:=Hd b1;clear a3 f b6 b1;rcases(show i=1∨i=2 by omega) with rfl|rfl
   ·have HN:=Hd (c7 rfl)
    have o9:n≤65539:=by have:=c7 rfl;omega
    clear c7;go_wp2_with fail;refine(i9.out _ E.out).mono ?_;rintro e w1 ⟨v,⟨m,rfl⟩|⟨m,Y,s9,b3,b7,g5,⟨L,rfl⟩|⟨L,Z2,o1,l2,rfl,J,o3,d2,A⟩⟩⟩
    ·have U:=Hd (E.out.trans v)
     have y:=Hd (q.out.keep v);have e4:=Hd (show Sure t d data c p F b R O from .inl ⟨V.out trivial,.inl m⟩);clear v m;go_wp2_with fail;exact⟨⟨2,rfl,U.out,.inr ⟨by omega,by omega,Z,n,F,bv,b,W,R,O,rfl,rfl,Q.out,y.out,a2.out,P.out,fun h=>absurd h (by decide),Hd fun h=>absurd h (by decide),Hd fun _=>e4.out⟩⟩,by simp[intOf]⟩
    ·have U:=Hd (E.out.trans v)
     have y:=Hd (q.out.keep v);have e4:=Hd (show Sure t d data c p F b R O from .inl ⟨V.out trivial,.inr ⟨m,Y,s9,b3,.inl L⟩⟩);clear v m b3 b7 g5 L;go_wp2_with fail;exact⟨⟨2,rfl,U.out,.inr ⟨by omega,by omega,Z,n,F,bv,b,W,R,O,rfl,rfl,Q.out,y.out,a2.out,P.out,fun h=>absurd h (by decide),Hd fun h=>absurd h (by decide),Hd fun _=>e4.out⟩⟩,by simp[intOf]⟩
    ·have C:=headP_ok t d (p-c) ((t.from' d.pr).putAll Y).e.k.bytes.length hq (by omega) u3 (bytes_pos _) L
     have d1:=fun g2=>(show Sure t d data c p (t.headP d.pr (p-c) ((t.from' d.pr).putAll Y).e.k.bytes.length) ((t.from' d.pr).putAll Y).e.k.bytes ((t.from' d.pr).putAll Y).cut ((t.from' d.pr).putAll Y).c.s from .inr ⟨m,Y,s9,b3,rfl,rfl,rfl,rfl,b7,g5,L,g2⟩);have k3:=fun g2=>(show Sure t d data c p F b R O from .inl ⟨V.out trivial,.inr ⟨m,Y,s9,b3,.inr g2⟩⟩);generalize c6:t.headP d.pr (p-c) ((t.from' d.pr).putAll Y).e.k.bytes.length=b4 at*;generalize c5:((t.from' d.pr).putAll Y).e.k.bytes=b2 at*;generalize((t.from' d.pr).putAll Y).cut=x2 at*;generalize((t.from' d.pr).putAll Y).c.s=s2 at*;have a:=J.box;unfold resCells at a;obtain⟨r0,r1,r2,r3,r4,r5⟩:=cs6 a rfl rfl rfl rfl rfl rfl;obtain⟨bp,bc,rfl,_⟩:=J.rd;have U:=Hd (E.out.trans v);have i3:=Hd (q.out.keep v);have e2:=Hd J;have g9:=Hd d1;have k8:=Hd k3;have a6:=Hd C;have h3:=Hd (show∀j,XFoot l2 j→w.heap.size≤j from fun j hj=>Nat.le_trans E.out.size (d2 j hj));have X:=Hd (show∀j,(Value.slice bp b2.length bc).ownBlock=some j→dv.ownBlock=some j∨w.heap.size≤j from fun j hj=>.inr (Nat.le_trans E.out.size (A.new j hj)));clear v J a d1 k3 C d2 A b7 g5 c6 c5 b3 m;go_wp2_with fail;refine(a6.out.put _).mono ?_;rintro e w2 ⟨r,hv,rfl,I⟩;obtain⟨hp,N,rfl⟩:=I.slice;have a:=r.keep e2.out.box (fun h=>h);unfold resCells at a;clear r0 r1 r2 r3 r4 r5;have r6:=cell_in (i:=6) a rfl;have m1:=head_n b4;obtain⟨nh,g3⟩:∃nh,(headB b4).length=nh:=⟨_,rfl⟩;obtain⟨m2,K⟩:∃m2,b2.length=m2:=⟨_,rfl⟩;rw[g3] at m1 ⊢;rw[K] at r6 L X;have e1:=Hd g3;have a7:=Hd K;have H:=Hd (U.out.trans r);have y:=Hd (i3.out.keep r);have g:=Hd (e2.out.keep r);rw[K] at g;clear r I a g3 K i3 e2;by_cases o8:(nh:Int)+(m2:Int)<(n:Int)
     ·go_wp2_with fail
      exact⟨⟨2,rfl,H.out,.inr ⟨by omega,by omega,Z2,nh+m2,b4,_,b2,l2,x2,s2,rfl,rfl,(g9.out (by rw[e1.out,a7.out];have:=HN.out;omega)).chosen,g.out,h3.out,X.out,fun h=>absurd h (by decide),Hd fun h=>absurd h (by decide),Hd fun _=>g9.out (by rw[e1.out,a7.out];have:=HN.out;omega)⟩⟩,by simp[intOf]⟩
     ·go_wp2_with fail
      exact⟨⟨2,rfl,H.out,.inr ⟨by omega,by omega,Z,n,F,bv,b,W,R,O,rfl,rfl,Q.out,y.out,a2.out,P.out,fun h=>absurd h (by decide),Hd fun h=>absurd h (by decide),Hd fun _=>k8.out (by rw[e1.out,a7.out];have:=HN.out;omega)⟩⟩,by simp[intOf]⟩
   ·clear c7
    obtain⟨t2,j6,a0⟩:=e5.out rfl|>k5.out F b R O;have a0:=Hd a0;have C:=(Q.out.head hq u2 u5 u3);have a:=q.out.box;unfold resCells at a;obtain⟨r0,r1,r2,r3,r4,r5⟩:=cs6 a rfl rfl rfl rfl rfl rfl;have g8:=Hd j6;have a6:=Hd C;clear j6 C a g0 g1;go_wp2_with fail;refine(a6.out.put _).mono ?_;rintro e w2 ⟨r,hv,rfl,I⟩;obtain⟨hp,N,rfl⟩:=I.slice;have H:=Hd (E.out.trans r);have a7:=Hd I;have g:=Hd (q.out.keep r);have c3:=Hd (HH.out.keep H.out);have o:=c3.out.box;unfold pkCells at o;have o2:=cell_in (i:=15) o rfl;have a:=g.out.box;unfold resCells at a;have r6:=cell_in (i:=6) a rfl;clear r0 r1 r2 r3 r4 r5 r I o a;have p1:=H.out.size;have m5:∀k,ov.ownBlock=some k→k<w.heap.size:=HH.out.out.lt;have o6:b.length≤1099511627776:=by
     obtain⟨q1,q2,q3,q4,q5⟩:=q.out.rd;rcases Q.out with⟨_,e,_⟩|⟨_,_,_,_,_,_,_,_,e,_⟩
     ·rw[e,List.length_take];omega
     ·omega
    have o7:=head_n F;have i2:=Hd m5;have HD:=Hd (R0 w2).drew;have c1:=Hd (show Acc w0 w2.drew ov (t.out d.dict) from⟨(l7.trans H.out).drew,c3.out.out.own,c3.out.out.new⟩);have i7:=Hd (a7.out.rd.keep HD.out);have i4:=Hd (g.out.keep HD.out);have h4:=Hd (HD.out.keep c3.out.box (fun h=>h));have c9:=Hd (show∀k,ov.ownBlock=some k→¬XFoot W k from fun k hk e=>by have:=i2.out k hk;have:=a2.out k e;omega);have d5:=Hd (show∀k,bv.ownBlock=some k→k<w2.heap.size from fun k hk=>by
     have h0:0<b.length:=by
      rcases Q.out with⟨_,e,_⟩|⟨_,Y,_,e,_⟩
      ·rw[e,List.length_take,List.length_drop];omega
      ·rw[e];exact bytes_pos _
     exact Ps.rdlt g.out.rd h0 k hk)
    have i0:=Hd (show∀k,bv.ownBlock=some k→ov.ownBlock≠some k from fun k hk e=>by
     rcases P.out k hk with h|h
     ·have:=b5 k h
      have:=HH.out.out.new k e;omega
     ·have:=i2.out k e
      omega)
    have h7:=Hd (lt_of_block HH.out.box);go_upto_region 14 with fail;go_cut [8] (fun s8 wx=>s8=ptr Z∧∃(p5:Option Addr)(n5 u:Nat),wx.heap[B]? =some (.cells (pkCells d dv l.D t.s (.slice p5 n5 u) t.begun t.packed t.props) 87 (0,0))∧ResAt wx Z F bv b W R O∧Mine w0 wx (.slice p5 n5 u) (t.out d.dict++headB F++b)∧Fr (fun k=>k=B∨ov.ownBlock=some k) w wx∧∀k,(Value.slice p5 n5 u).ownBlock=some k→ov.ownBlock=some k∨w.heap.size≤k);case first=>
     go_region_law (first
      | (refine step_bytesN rfl _ _ rfl (w0:=w0) ov (.slice hp (headB F).length N) (t.out d.dict) (headB F) (by simp [Act.eval,Act.put]) (by simp [Act.eval,Act.put]) c1.out i7.out (by omega) ?_
         intro p2 d0 n2 w3 k1 j1 a1 b9;have f4:=i4.out.beside (w0:=w0) ⟨c1.out.own,c1.out.new⟩ c9.out i0.out a1;have j3:=a1.keep h4.out (fun e=>by
          obtain⟨e6,N⟩:=Lz.own_block c1.out.own e;exact Ps.neOf h4.out N (by decide) rfl)
         have a:=f4.box;unfold resCells at a;have d6:=cell_in (i:=6) a rfl;have c2:=Hd j1;have n9:=Hd k1;have c8:=Hd a1;have i5:=Hd f4;have h5:=Hd j3;have c0:∀k,(Value.slice p2 n2 d0).ownBlock=some k→¬XFoot W k∧bv.ownBlock≠some k:=fun k hk=>by
          rcases b9 k hk with e|e
          ·exact⟨c9.out k e,fun h=>i0.out k h e⟩
          ·refine⟨fun h=> ?_,fun h=> ?_⟩
           ·have:=xlt i4.out.xe k h
            omega
           ·have:=d5.out k h
            rw[World.size_drew] at e;omega
         have i1:=Hd c0;have j0:=Hd b9;clear f4 j3 a j1 k1 a1 c0 b9)
      | (refine step_bytesN rfl _ _ rfl (w0:=w0) (.slice p2 n2 d0) bv (t.out d.dict ++ headB F) b (by simp [Act.eval,Act.put]) (by simp [Act.eval,Act.put]) c2.out i5.out.rd (by rw [List.length_append]; omega) ?_
         intro p5 u n5 w4 m3 j2 z d3;have j5:=i5.out.beside (w0:=w0) ⟨c2.out.own,c2.out.new⟩ (fun k hk=>(i1.out k hk).1) (fun k hk e=>(i1.out k e).2 hk) z;have f0:=z.keep h5.out (fun e=>by
          obtain⟨e6,N⟩:=Lz.own_block c2.out.own e;exact Ps.neOf h5.out N (by decide) rfl)
         have D:=f0;unfold pkCells at D;have p6:=cell_in (i:=15) D rfl;have qf:=frozen_in D 15;have d4:=Hd j2;have h2:=Hd z;have k9:=Hd j5;have d7:=Hd f0;have l0:=Hd d3;clear j5 f0 D j2 m3 z d3))
     all_goals go_wp2_with fail
     all_goals go_meet
     all_goals
      have f6:=Fr.one w4 B 15 (.slice p5 n5 u);refine⟨rfl,p5,n5,u,?_,k9.out.aside d7.out (fun k hk e=> ?_) f6,⟨own_step d4.out.own f6 (fun k hk e=> ?_),d4.out.new⟩,?_,fun k hk=> ?_⟩
      ·rw[set_in d7.out]
       rfl
      ·rcases P.out k hk with h|h
       ·have:=b5 k h
        omega
       ·have:=h7.out
        omega
      ·subst e
       obtain⟨e6,N⟩:=Lz.own_block d4.out.own hk;exact Ps.neOf d7.out N (by decide) rfl
      ·have f1:Fr (fun k=>k=B∨ov.ownBlock=some k) w w2.drew:=H.out.drew.mono (fun _ _ h=>h.elim)
       have f2:=f1.trans (c8.out.mono (fun _ _ h=>.inr h));have f3:=f2.trans' h2.out (fun k hk e=>by
        rcases j0.out k e with e|e
        ·exact .inr e
        ·exfalso
         rw[World.size_drew] at e;omega)
       exact f3.trans (f6.mono (fun _ _ h=>.inl h))
      ·rcases l0.out k hk with e|e
       ·rcases j0.out k e with e|e
        ·exact .inl e
        ·rw[World.size_drew] at e
         exact .inr (by omega)
       ·have:=c8.out.size
        rw[World.size_drew] at this;exact .inr (by omega)
    case rest=>
     obtain⟨rfl,p5,n5,u,o,f,A,z,b8⟩:=hcut;have d8:=Hd o;have a8:=Hd f;have e0:=Hd A;have h1:=Hd z;have h9:=Hd b8;obtain⟨l3,l1,rfl,_⟩:=f.rd;have k2:¬Z=B:=Ps.neOf f.box o (by decide);have HS:=Hd (show∀x:World,Fr (fun k=>k=B) wc x→x.heap[Z]? =some (.cells (resCells F (.slice l3 b.length l1) W.D O) 155 (0,0)) from fun x hf=>hf.keep a8.out.box k2);have e3:=Hd (show∀x:World,Fr (fun k=>k=B) wc x→x.cell? ⟨Z,7,none⟩=some (ptr W.D)∧x.cell? ⟨Z,8,none⟩=some (.int .i64 O.num)∧x.cell? ⟨Z,9,none⟩=some (.int .i64 O.r0)∧x.cell? ⟨Z,10,none⟩=some (.int .i64 O.r1)∧x.cell? ⟨Z,11,none⟩=some (.int .i64 O.r2)∧x.cell? ⟨Z,12,none⟩=some (.int .i64 O.r3) from fun x hf=>
      have h:=HS.out x hf
      ⟨cell_in (i:=7) h rfl,cell_in (i:=8) h rfl,cell_in (i:=9) h rfl,cell_in (i:=10) h rfl,cell_in (i:=11) h rfl,cell_in (i:=12) h rfl⟩)
     have HR:=Hd ((Fr.refl (fun k=>k=B) wc).drew);obtain⟨e7,e8,e9,l4,l5,l6⟩:=e3.out wc (Fr.refl _ _);obtain⟨s7,s8,s9,m7,m8,m9⟩:=e3.out wc.drew HR.out;unfold pkCells at o;have y9:=cell_in (i:=9) o rfl;have n0:=cell_in (i:=10) o rfl;have n1:=cell_in (i:=11) o rfl;have n3:=cell_in (i:=12) o rfl;have n4:=cell_in (i:=13) o rfl;have n6:=cell_in (i:=14) o rfl;have yf:=fun i=>frozen_in o i;clear o f A z b8;go_wp2_with fail;clear e3;go_region;have a4:=Hd (eightP_fr wc B W.D O);have d9:=Hd (eightP_in (D':=W.D) (s:=O) d8.out);clear e7 e8 e9 l4 l5 l6 s7 s8 s9 m7 m8 m9 y9 n0 n1 n3 n4 n6 yf HR;rw[←eightP_eq];have a9:=Hd (a8.out.aside d8.out (fun k hk e=>by
      rcases P.out k hk with h|h
      ·have:=b5 k h
       omega
      ·have:=h7.out
       omega) a4.out)
     have h8:=Hd (show Mine w0 (eightP wc B W.D O) (.slice p5 n5 u) (t.out d.dict++headB F++b) from⟨own_step e0.out.own a4.out (fun k hk e=>by
      subst e;obtain⟨e6,N⟩:=Lz.own_block e0.out.own hk;exact Ps.neOf d8.out N (by decide) rfl),e0.out.new⟩)
     generalize eightP wc B W.D O=W8 at*;have M:=d9.out;unfold pkCells at M;have g4:=HS.out W8 a4.out;unfold resCells at g4;have r0:=cell_in (i:=0) g4 rfl;have p3:=cell_in (i:=16) M rfl;have p4:=cell_in (i:=17) M rfl;have m6:=cell_in (i:=18) M rfl;have kf:=fun i=>frozen_in M i;have n7:¬B=Z:=fun h=>k2 h.symm;clear M g4;obtain⟨kd,f9⟩:∃kd,F.kind=kd:=⟨_,rfl⟩;rw[f9] at r0;have h6:=Hd f9;clear f9;obtain⟨tb,g6⟩:∃tb,t.props=tb:=⟨_,rfl⟩;rw[g6] at m6;have i8:=Hd g6;clear g6;cases tb
     ·go_wp2_with fail
      go_end0;exact write_fin _ g8.out d9.out a9.out h8.out (h1.out.trans (a4.out.mono (fun _ _ h=>.inl h))) HH.out.rd b5 j4 HH.out.out.new h9.out h6.out (by rw[i8.out,Bool.false_or];exact decide_eq_decide.2 (by omega)) a0.out
     ·go_wp2_with fail
      go_end0;exact write_fin _ g8.out d9.out a9.out h8.out (h1.out.trans (a4.out.mono (fun _ _ h=>.inl h))) HH.out.rd b5 j4 HH.out.out.new h9.out h6.out (by rw[i8.out,Bool.true_or]) a0.out
end Pk
namespace Pk
open Mem Rc St Lz En Win Ck
theorem encode_bad(a b lc lp pb dict d c:Int)(n:Value)(w:World)(f:-9223372036854775808≤lc∧lc≤9223372036854775807)(g:-9223372036854775808≤lp∧lp≤9223372036854775807)(h:-9223372036854775808≤pb∧pb≤9223372036854775807)(i:goodC lc lp pb dict c=false):
 Calls Tryz.prog 9 #[n,.agg #[.int .i64 a,.int .i64 b,.int .i64 lc,.int .i64 lp,.int .i64 pb,.int .i64 dict,.int .i64 d,.int .i64 c]] w fun e o=>Fr (fun _=>False) w o∧e=.returned (.tuple #[.slice none 0 0,.int .i64 6]):=by
 have m:=Hd ((R0 w).alloc (.cells #[.int .i64 a,.int .i64 b,.int .i64 lc,.int .i64 lp,.int .i64 pb,.int .i64 dict,.int .i64 d,.int .i64 c] 26));have l:=fun W=>Hd (goodX_calls a b lc lp pb dict d c W f g h);rw[i] at l;clear f g h i;go_enter Tryz.func9,Tryz.ntmps9;go_wp2_with fail;refine(l _).out.mono ?_;rintro e p ⟨rfl,j⟩;have k:=Hd (m.out.trans j);clear j;go_wp2_with fail;go_ret2;exact⟨k.out,rfl⟩
def EncPost(cf:Cf)(data:List UInt8)(w:World)(e:Ending)(w':World):Prop:=
 Fr (fun _=>False) w w'∧∃(t:Pst)(v:Value),e=.returned (.tuple #[v,.int .i64 0])∧t.Whole data cf.dict cf.pr (decide (cf.mode=0))∧Mine w w' v (t.out cf.dict++[0])∧Hid (Runs cf data t.pts.length t)
theorem snewP_calls(w:World):Calls Tryz.prog 34 #[] w fun e a=>e=.returned (.agg #[.int .i64 0,.int .i64 1,.int .i64 1,.int .i64 1,.int .i64 1])∧Fr (fun _=>False) w a:=St.new_calls w
structure ELoop(w0:World)(P:Nat)(cf:Cf)(dv:Value)(data:List UInt8)(i:Nat)(ov:Value)(l:XL)(t:Pst)(wr:World):Prop where
 at':PkAt w0 wr P cf dv ov data l t
 ok:t.Ok data cf.dict cf.pr (decide (cf.mode=0))
 len:t.pts.length=i
 each:∀j,j<i→65536*j<data.length
 fr:Fr (fun _=>False) w0 wr
 run:Runs cf data i t
theorem ELoop.outlen{w0 wr:World}{P i:Nat}{a:Cf}{b d:Value}{data:List UInt8}{l:XL}{t:Pst}(h:ELoop w0 P a b data i d l t wr)(k:data.length≤1073741824):(t.out a.dict).length≤4000000000∧65536*i<data.length+65536:=by
 have f:=h.ok.len;have g:=upto_le data.length t.pts.length;have j:=h.len;have c:65536*i<data.length+65536:=by
  by_cases e:i=0
  ·omega
  ·have:=h.each (i-1) (by omega)
   omega
 refine⟨?_,c⟩;show(rowB (t.row a.dict)).length≤_;omega
theorem goodC_of{a:Cf}(d:a.lc+a.lp≤4∧a.pb≤4)(b:4096≤a.dict∧a.dict≤67108864)(c:a.mode≤2):goodC a.lc a.lp a.pb a.dict a.mode=true:=by
 unfold goodC propsBad;simp;omega
abbrev waysOf(P:Nat):Array Value:=#[.func (.func 36) #[ptr P] #[],.func (.func 37) #[ptr P] #[]]
set_option maxRecDepth 100000 in
theorem encodeX_calls(a:Cf)(p:Option Addr)(b:Nat)(data:List UInt8)(w:World)(hT:Tabs w)(n:Rd w (.slice p data.length b) data)(hb:data.length≤1073741824)(hq:a.lc+a.lp≤4∧a.pb≤4)(hd:4096≤a.dict∧a.dict≤67108864)(hm:a.mode≤2):
 Calls Tryz.prog 9 #[.slice p data.length b,.agg a.cells] w (EncPost a data w):=by
 have HX:=Hd (heap_alloc_new w (.cells a.cells 26));have HF:=Hd ((R0 w).alloc (.cells a.cells 26));have b3:=Hd n;have HT:=Hd hT;have HG:=fun W=>Hd (goodX_calls a.a a.b a.lc a.lp a.pb a.dict a.d a.mode W (by omega) (by omega) (by omega));have HN:=fun W=>Hd (enewP_in a.lc a.lp a.pb a.dict hq.1 hq.2 W (by omega) (by omega));rw[goodC_of hq hd hm] at HG;have c8:∀(fn:Fn)(first b:Array Value)(w:World),(Instr.makeFunc fn first b).run Tryz.prog w=.ok (.func fn first b) w:=fun _ _ _ _=>rfl;have a3:∀k,(Value.slice p data.length b).ownBlock=some k→0<data.length→k<w.heap.size:=fun k x h0=>Ps.rdlt n h0 k x;have b0:=Hd a3;have t0:decide ((data.length:Int)>2147483648)=false:=decide_eq_false (by omega);have t1:decide ((2147483648:Int)<data.length)=false:=decide_eq_false (by omega);clear hT n a3;simp only[Cf.cells] at HX HF ⊢;go_enter Tryz.func9,Tryz.ntmps9;go_wp2_with fail;refine(HG _).out.mono ?_;rintro e w1 ⟨rfl,g⟩;have o:=g.keep HX.out (fun h=>h);have c2:=cell_in (i:=2) o rfl;have c3:=cell_in (i:=3) o rfl;have c4:=cell_in (i:=4) o rfl;have c5:=cell_in (i:=5) o rfl;have X:=Hd o;have H:=Hd (HF.out.trans g);clear g o;go_wp2_with fail;refine(HN _).out.mono ?_;rintro e Q ⟨g,l,rfl,a9,E,s⟩;have N:=g.keep X.out (fun h=>h);have b6:=Hd N;have q:=Hd (H.out.trans g);have c1:=(HT.out.keep H.out).size;have Z:=Hd (show XE Q l (startP (a.lc,a.lp,a.pb) a.dict) from⟨a9,E,fun k x=>Nat.le_trans c1 (s k x)⟩);have z:=Hd (show∀w':World,Fr (fun _=>False) Q w'→w'.cell? ⟨w.heap.size,0,none⟩=some (.int .i64 a.a)∧w'.cell? ⟨w.heap.size,1,none⟩=some (.int .i64 a.b)∧w'.cell? ⟨w.heap.size,2,none⟩=some (.int .i64 a.lc)∧w'.cell? ⟨w.heap.size,3,none⟩=some (.int .i64 a.lp)∧w'.cell? ⟨w.heap.size,4,none⟩=some (.int .i64 a.pb)∧w'.cell? ⟨w.heap.size,5,none⟩=some (.int .i64 a.dict)∧w'.cell? ⟨w.heap.size,6,none⟩=some (.int .i64 a.d)∧w'.cell? ⟨w.heap.size,7,none⟩=some (.int .i64 a.mode) from fun w' J=>
  have h:=J.keep N (fun h=>h)
  ⟨cell_in (i:=0) h rfl,cell_in (i:=1) h rfl,cell_in (i:=2) h rfl,cell_in (i:=3) h rfl,cell_in (i:=4) h rfl,cell_in (i:=5) h rfl,cell_in (i:=6) h rfl,cell_in (i:=7) h rfl⟩)
 have u:=Hd ((R0 Q).drew);have v:=Hd (z.out Q.drew u.out);obtain⟨s0,s1,s2,s3,s4,s5,s6,s7⟩:=z.out Q (Fr.refl _ _);have R:=Hd s;clear g a9 E s N c2 c3 c4 c5;go_wp2_with fail;go_region_held3 (fun w'=>w'.cell? ⟨w.heap.size,0,none⟩=some (.int .i64 a.a)∧w'.cell? ⟨w.heap.size,1,none⟩=some (.int .i64 a.b)∧w'.cell? ⟨w.heap.size,2,none⟩=some (.int .i64 a.lc)∧w'.cell? ⟨w.heap.size,3,none⟩=some (.int .i64 a.lp)∧w'.cell? ⟨w.heap.size,4,none⟩=some (.int .i64 a.pb)∧w'.cell? ⟨w.heap.size,5,none⟩=some (.int .i64 a.dict)∧w'.cell? ⟨w.heap.size,6,none⟩=some (.int .i64 a.d)∧w'.cell? ⟨w.heap.size,7,none⟩=some (.int .i64 a.mode)) (first|with_reducible exact v.out|with_reducible exact z.out _ u.out|with_reducible exact z.out _ (u.out.alloc _)) ((first
  | (go_at_call 34
     with_reducible refine(snewP_calls _).mono ?_
     rintro e wc ⟨rfl,C⟩;have u:=Hd (u.out.trans C);have v:=Hd (z.out _ u.out);obtain⟨s0,s1,s2,s3,s4,s5,s6,s7⟩:=v.out;clear C)))
 have c:=u.out.alloc (.cells #[.int .i64 a.a,.int .i64 a.b,.int .i64 a.lc,.int .i64 a.lp,.int .i64 a.pb,.int .i64 a.dict,.int .i64 a.d,.int .i64 a.mode,.slice p data.length b,ptr l.D,.int .i64 0,.int .i64 1,.int .i64 1,.int .i64 1,.int .i64 1,.slice none 0 0,.bool false,.bool false,.bool false] 87);have a6:=start_ok data (dict:=a.dict) (pr:=a.pr) hq (decide (a.mode=0));have a0:PkAt wc (wc.alloc (.cells #[.int .i64 a.a,.int .i64 a.b,.int .i64 a.lc,.int .i64 a.lp,.int .i64 a.pb,.int .i64 a.dict,.int .i64 a.d,.int .i64 a.mode,.slice p data.length b,ptr l.D,.int .i64 0,.int .i64 1,.int .i64 1,.int .i64 1,.int .i64 1,.slice none 0 0,.bool false,.bool false,.bool false] 87)) wc.heap.size a (.slice p data.length b) (.slice none 0 0) data l (Pst.start a.dict a.pr):=
  ⟨heap_alloc_new _ _,b3.out.keep (q.out.trans c),Z.out.keep c,⟨World.ownsRow_nil _ _ _ _,fun k x=>by simp[Value.ownBlock] at x⟩⟩
 have F:=Hd (show ELoop wc wc.heap.size a (.slice p data.length b) data 0 (.slice none 0 0) l (Pst.start a.dict a.pr) (wc.alloc (.cells #[.int .i64 a.a,.int .i64 a.b,.int .i64 a.lc,.int .i64 a.lp,.int .i64 a.pb,.int .i64 a.dict,.int .i64 a.d,.int .i64 a.mode,.slice p data.length b,ptr l.D,.int .i64 0,.int .i64 1,.int .i64 1,.int .i64 1,.int .i64 1,.slice none 0 0,.bool false,.bool false,.bool false] 87)) from⟨a0,a6,rfl,fun j hj=>absurd hj (by omega),(Fr.refl _ _).alloc _,rfl⟩);have I:=Hd (q.out.trans u.out);obtain⟨W1,a2⟩:∃W1,wc.alloc (.cells #[.int .i64 a.a,.int .i64 a.b,.int .i64 a.lc,.int .i64 a.lp,.int .i64 a.pb,.int .i64 a.dict,.int .i64 a.d,.int .i64 a.mode,.slice p data.length b,ptr l.D,.int .i64 0,.int .i64 1,.int .i64 1,.int .i64 1,.int .i64 1,.slice none 0 0,.bool false,.bool false,.bool false] 87)=W1:=⟨_,rfl⟩;rw[a2] at F ⊢;have b4:=Hd (HT.out.keep I.out);have a1:=I.out.size;clear c a6 a0 v z s0 s1 s2 s3 s4 s5 s6 s7 u Z b6 q X H R a2 HF HX;obtain⟨P,hP⟩:∃P,wc.heap.size=P:=⟨_,rfl⟩;rw[hP] at F ⊢;go_wp2_with fail;go_loopw [9] (fun i wr=>∃(k:Nat)(ov:Value)(l2:XL)(t:Pst),i=.int .i64 ((65536*k:Nat):Int)∧ELoop wc P a (.slice p data.length b) data k ov l2 t wr) (fun i _=>data.length+65536-(intOf i).toNat);case atStart=>exact⟨0,_,_,_,rfl,F.out⟩
 case round=>
  obtain⟨k,ov,l2,t,rfl,d⟩:=hrel;obtain⟨a5,c9⟩:=d.outlen hb;obtain⟨f,J⟩:∃f,f=65536*k:=⟨_,rfl⟩;rw[←J];have y:=Hd d;have T:=Hd J;by_cases b9:f<data.length
  ·have b8:decide ((f:Int)<(data.length:Int))=true:=decide_eq_true (by omega)
   have c:=(R0 wr).alloc (.cells (waysOf P) 152);have m:=d.len;have hu:upto data.length t.pts.length=f:=by unfold upto;rw[m];omega
   have a7:((upto data.length (t.pts.length+1):Nat):Int)=min ((f:Int)+65536) (data.length:Int):=by unfold upto;rw [m];omega
   have hw:=write_calls P wr.heap.size a (.slice p data.length b) ov data l2 t wc (wr.alloc (.cells (waysOf P) 152)) (d.at'.keep c) (b4.out.keep (d.fr.trans c)) d.ok (by rw[m,←J];exact b9) (heap_alloc_new wr (.cells (waysOf P) 152))
    (fun k x=>Nat.lt_of_lt_of_le (b0.out k x (by omega)) a1) (d.fr.trans c) (by omega) a5 hb (by omega) (by omega) hq
   rw[hu,a7] at hw;have HW:=Hd hw;have HA:=Hd c;clear d J c m hu a7 hw;go_wp2_with fail;refine HW.out.mono ?_;rintro e w3 ⟨rfl,a4,c6,l3,t3,A,D,r,L,b1⟩;have HN:=Hd (show ELoop wc P a (.slice p data.length b) data (k+1) c6 l3 t3 w3 from⟨A,D,by rw[r,y.out.len],fun j hj=>by
    by_cases c7:j=k
    ·have:=T.out
     omega
    ·exact y.out.each j (by omega),(y.out.fr.trans HA.out).trans' a4 (fun j h1 O=>by
     rcases O with O|O
     ·omega
     ·have:=y.out.at'.out.new j O
      omega),⟨t,y.out.run,b1.out⟩⟩)
   clear a4 A D r L HW;go_wp2_with fail;go_roundw;case rel=>exact⟨k+1,_,_,_,by have:=T.out;go_num,HN.out⟩
   case measure=>simp[intOf];omega
  ·have b8:decide ((f:Int)<(data.length:Int))=false:=decide_eq_false (by omega)
   have a8:t.Whole data a.dict a.pr (decide (a.mode=0)):=⟨d.ok,by rw[d.len];omega,fun j hj=>d.each j (by rw[←d.len];exact hj)⟩;have c:=(R0 wr).alloc (.cells #[.int .u8 0] 5);have n:=rd_one wr wr.heap.size rfl 0 0 rfl;obtain⟨po,co,rfl⟩:=d.at'.out.slice;have G:=d.at'.box;unfold pkCells at G;have b7:=cell_in (i:=15) G rfl;have b5:=Hd a8;have HM:=Hd (d.at'.out.keep c);have HA:=Hd c;have V:=Hd n;have z:=Hd (Nat.le_trans d.fr.size c.size);obtain⟨os,M⟩:∃os,t.out a.dict=os:=⟨_,rfl⟩;rw[M] at b7 HM a5;have b2:=Hd M;clear d J a8 c n G M;go_wp2_with (at_builtin;refine append_mine rfl _ _ rfl (w0:=wc) (.slice po os.length co) (.slice (some ⟨wr.heap.size,0,none⟩) 1 1) os [0] rfl rfl HM.out z.out V.out (by simp only[List.length_singleton];omega) ?_;intro p2 S n2 Q c0 Y B K;have U:=Hd Y;have q:=Hd B;clear c0 Y B K);go_ret2;refine⟨?_,t,.slice p2 n2 S,rfl,b5.out,?_⟩
   ·exact((I.out.trans y.out.fr).trans HA.out).trans' q.out (fun k h1 O=>by
     have:=HM.out.new k O;omega)
   ·rw[b2.out]
    exact⟨⟨U.out.own,fun k x=>Nat.le_trans a1 (U.out.new k x)⟩,Hd (by rw[y.out.len];exact y.out.run)⟩
end Pk
end Go.Proofs.YtffoddpjfgjelaaGreatDoor
