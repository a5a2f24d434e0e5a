/- Part 37 of 54: lemmas of the last part, each under the conditions that it names. -/
import Derived.Laws.BytesArg
import Derived.Lib.SlBytesConst
import Derived.Test.YtffoddpjfgjelaaGreatDoorK07
import Derived.Test.YtffoddpjfgjelaaGreatDoorK36
set_option linter.unusedVariables false
set_option linter.unusedSimpArgs false
set_option maxRecDepth 1500
set_option maxHeartbeats 2000000
namespace Go.Proofs.YtffoddpjfgjelaaGreatDoor
open Go.RowKit
namespace Ck
open Mem Win
def str(xs:List UInt8):ByteArray:=⟨xs.toArray⟩
theorem str_eq(xs:List UInt8):strOfNums (xs.map fun x=>(x.toNat:Int))=str xs:=by
 unfold strOfNums str;congr 2;rw[List.map_map];conv=>rhs;rw[←List.map_id xs]
 apply List.map_congr_left;intro x _;simp
theorem conv_str{w:World}{v:Value}{xs:List UInt8}(h:Rd w v xs):(convert 22 9 v).run Tryz.prog w=.ok (.string (str xs)) w:=by
 obtain⟨p,c,rfl,j,k,e⟩:=h;by_cases d:0<xs.length
 ·obtain⟨b,o,rfl,f⟩:=e d
  rw[run_convert_bytes_arg (P:=Tryz.prog) w 22 5 Tryz.underlying22 Tryz.underlying5 b o xs.length c (xs.map fun x=>(x.toNat:Int)) (by simp) (fun i hi=>by
   rw[f i xs[i] (by simp[hi])];simp[bv,hi]) 9 Tryz.underlying9,str_eq]
 ·have g:xs=[]:=List.eq_nil_of_length_eq_zero (by omega)
  subst g;cases p with
  |none=>exact run_convert_bytes_nil (P:=Tryz.prog) w 22 5 Tryz.underlying22 Tryz.underlying5 0 c 9 Tryz.underlying9
  |some a=>
    show(convert 22 9 (.slice (some a) 0 c)).run Tryz.prog w=_;rw[run_convert_bytes_string w 22 9 5 (some a) 0 c Tryz.underlying22 Tryz.underlying5 Tryz.underlying9];rw[run_bytesToString w a 0 c [] (by simp[loadCells,loadCellsFrom])];rfl
theorem fix1:unpackP [1,0,2,97,98,99,0,255] 4096 7 3=.ok (7,[97,98,99]):=by kernel_rfl
theorem fix2:unpackP [1,0,2,97] 4096 (-1) (-1)=.error (3,1):=by kernel_rfl
theorem raw_at{b:List UInt8}{packed size:Int}{s:Sr}(k:Nat)(c:beyond packed (s.at'+1)=false)(d:¬s.at'=b.length)(a:kindOf (b.getD s.at' 0).toNat=some k)(l:¬move s.now k=4)(j:k=0→ends packed size s.at' s.plain=true)(f:(((b.drop s.at').take 6).getD 0 0).toNat≤2)
 (g:(get ((b.drop s.at').take 6)).2.2=0)(h:beyond packed (s.at'+(get ((b.drop s.at').take 6)).2.1+(get ((b.drop s.at').take 6)).1.packed)=false)(i:beyond size (s.plain+(get ((b.drop s.at').take 6)).1.size)=false):Raw b packed size s:=
 ⟨c,d,by rw[a];simp,fun m e=>by obtain rfl:=Option.some.inj (a.symm.trans e);exact⟨l,j⟩,f,g,h,i⟩
theorem raw1:RawRun [1,0,2,97,98,99,0,255] 7 3 10 ⟨0,0,0⟩:=by
 refine .inr ⟨raw_at 1 (by kernel_rfl) (by decide) (by kernel_rfl) (by decide) (fun h=>by cases h) (by decide+kernel) (by kernel_rfl) (by kernel_rfl) (by kernel_rfl),fun h a b c e=> ?_⟩;rw[show nextP [1,0,2,97,98,99,0,255] 7 3 ⟨0,0,0⟩=.ok (⟨1,3,3,0,0,0⟩,[97,98,99],3,⟨6,3,1⟩) by kernel_rfl] at e;simp only[Except.ok.injEq,Prod.mk.injEq] at e;obtain⟨rfl,rfl,rfl,rfl⟩:=e;refine⟨by decide,.inr ⟨raw_at 0 (by kernel_rfl) (by decide) (by kernel_rfl) (by decide) (fun _=>by kernel_rfl) (by decide+kernel) (by kernel_rfl) (by kernel_rfl) (by kernel_rfl),fun h a b c e=> ?_⟩⟩;rw[show nextP [1,0,2,97,98,99,0,255] 7 3 ⟨6,3,1⟩=.ok (⟨0,0,0,0,0,0⟩,[],7,⟨7,3,3⟩) by kernel_rfl] at e;simp only[Except.ok.injEq,Prod.mk.injEq] at e;obtain⟨rfl,rfl,rfl,rfl⟩:=e;exact⟨by decide,.inl rfl⟩
theorem raw2:RawRun [1,0,2,97] (-1) (-1) 6 ⟨0,0,0⟩:=by
 refine .inr ⟨raw_at 1 (by kernel_rfl) (by decide) (by kernel_rfl) (by decide) (fun h=>by cases h) (by decide+kernel) (by kernel_rfl) (by kernel_rfl) (by kernel_rfl),fun h a b c e=> ?_⟩;rw[show nextP [1,0,2,97] (-1) (-1) ⟨0,0,0⟩=.error (3,1) by kernel_rfl] at e;cases e
def abc:List UInt8:=[97,98,99]
def cf3:Pk.Cf:=⟨0,0,3,0,2,4096,0,0⟩
theorem row_rd(w:World)(xs:List UInt8)(B:Nat)(c:B=w.heap.size)(b:Array Value)(a:b=(bvs xs).toArray)(fr:Nat×Nat)(e:xs.length≤1000):Rd (w.alloc (.cells b 5 fr)) (.slice (some ⟨B,0,none⟩) xs.length xs.length) xs:=by
 subst c a;refine⟨_,_,rfl,Nat.le_refl _,by simp only[maxLen];omega,fun _=>⟨_,0,rfl,fun i x d=> ?_⟩⟩;rw[cell_of_row _ _ _ _ _ _ (heap_alloc_new w _),Nat.zero_add,List.getElem?_toArray];exact bvs_at d
set_option maxRecDepth 100000 in
theorem fixed_calls(w:World)(W:St.Tabs w)(R:Moves w):Calls Tryz.prog 12 #[] w fun e w'=>e=.returned (.bool true)∧Fr (fun _=>False) w w':=by
 have o:=(R0 w).alloc (.cells #[.int .u8 97,.int .u8 98,.int .u8 99] 5 (3,4));have kc:=fun(w:World)(C:Array Value)(n c:Nat)=>Lib.run_convert_bytes_const (P:=Tryz.prog) w 22 5 C n c Tryz.underlying22 Tryz.underlying5;have E:=row_rd w [97,98,99] w.heap.size rfl #[.int .u8 97,.int .u8 98,.int .u8 99] rfl (3,4) (by decide);have HE:=Hd (Pk.encodeX_calls cf3 (some ⟨w.heap.size,0,none⟩) 3 abc _ (W.keep o) E (by decide) (by decide) (by decide) (by decide));have X:=Hd o;have HT:=Hd W;have HM:=Hd R;clear W R o E;go_enter Tryz.func12,Tryz.ntmps12;go_wp2_with fail;refine HE.out.mono ?_;rintro e s ⟨d,t,v,rfl,N,b,_⟩;rw[show t.out cf3.dict++[0]=[1,0,2,97,98,99,0] by rw[Pk.Pst.Whole.one N (by decide) (by decide)];decide+kernel] at b;obtain⟨p,y,rfl⟩:=b.slice;have a0:(convert 22 9 (.slice p 7 y)).run Tryz.prog s=.ok (.string (str [1,0,2,97,98,99,0])) s:=conv_str b.rd;have Y:((str [1,0,2,97,98,99,0]).toList !=[1,0,2,97,98,99,0])=false:=by decide+kernel
 have K:((str [1,0,2,97,98,99,0]).toList==[1,0,2,97,98,99,0])=true:=by decide+kernel
 have I:=Hd (X.out.trans d);have H:=Hd d;have q:=(R0 s).alloc (.cells #[.int .u8 255] 5);have Z:=Hd q;have V:=Hd (rd_one s s.heap.size rfl 255 255 rfl);have u:=Hd (b.keep q);clear d b q;go_wp2_with (at_builtin;refine append_mine rfl _ _ rfl (w0:=w.alloc (.cells #[.int .u8 97,.int .u8 98,.int .u8 99] 5 (3,4))) (.slice p 7 y) (.slice (some ⟨s.heap.size,0,none⟩) 1 1) [1,0,2,97,98,99,0] [255] rfl rfl u.out (Nat.le_trans H.out.size Z.out.size) V.out (by decide) ?_;intro p2 z n2 w2 G B g r;obtain rfl:n2=8:=G;have T:=Hd B;have J:=Hd g;clear B g r);have j:=Hd ((I.out.trans Z.out).trans' J.out (fun k h1 h2=>by
  have h3:=u.out.new k h2;have h4:=X.out.size;omega))
 refine(decode_raw [1,0,2,97,98,99,0,255] 4096 7 3 w2 (.slice p2 8 z) (HT.out.keep j.out) T.out.rd (HM.out.step j.out (fun _ h=>h.elim)) (by decide) raw1).mono ?_;rintro e F a;unfold DecodePost at a;rw[fix1] at a;obtain⟨i,v3,rfl,m⟩:=a;obtain⟨p3,A,rfl⟩:=m.slice;have O:=Hd (j.out.trans i);have U:=Hd m;have D:=(R0 F).alloc (.cells #[.int .u8 1,.int .u8 0,.int .u8 2,.int .u8 97] 5);have HC:=Hd D;have x:=Hd (row_rd F [1,0,2,97] F.heap.size rfl #[.int .u8 1,.int .u8 0,.int .u8 2,.int .u8 97] rfl (0,0) (by decide));clear i m D;go_wp2_with fail;have l:=Hd (O.out.trans HC.out);refine(decode_raw [1,0,2,97] 4096 (-1) (-1) _ (.slice (some ⟨F.heap.size,0,none⟩) 4 4) (HT.out.keep l.out) x.out (HM.out.step l.out (fun _ h=>h.elim)) (by decide) raw2).mono ?_;rintro e w5 a;unfold DecodePost at a;rw[fix2] at a;obtain⟨f,_,rfl⟩:=a;have S:(convert 22 9 (.slice p3 3 A)).run Tryz.prog w5=.ok (.string (str [97,98,99])) w5:=conv_str ((U.out.rd.keep HC.out).keep f);have L:((str [97,98,99]).toList !=[97,98,99])=false:=by decide+kernel
 have M:((str [97,98,99]).toList==[97,98,99])=true:=by decide+kernel
 have Q:=Hd (l.out.trans f);clear f;go_wp2_with fail;go_ret;exact⟨rfl,Q.out⟩
end Ck
end Go.Proofs.YtffoddpjfgjelaaGreatDoor
