/- Part 9 of 48: lemmas of the last part, each under the conditions that it names. -/
import Derived.Deep.RegionHeld3
import Derived.Deep.DeepCutAuto
import Derived.Deep.CutBlock
import Derived.Test.YtffoddpjfgjelaaGreatDoorQ01
import Derived.Test.YtffoddpjfgjelaaGreatDoorQ08
set_option linter.unusedVariables false
set_option linter.unusedSimpArgs false
set_option maxRecDepth 1500
set_option maxHeartbeats 4000000
namespace Go.Proofs.YtffoddpjfgjelaaGreatDoor
open Go.RowKit
namespace St
open Mem
structure Sy where
 kind:Nat
 byte:Nat
 len:Nat
 dist:Nat
def Sy.cells(y:Sy):Array Value:=#[.int .i64 y.kind,.int .u8 y.byte,.int .i64 y.len,.int .i64 y.dist]
structure Sy.Ok(y:Sy):Prop where
 kind:y.kind=1∨y.kind=2∨y.kind=3∨y.kind=4
 dist:y.kind=3→y.dist≤3
 byte:y.byte<256
abbrev isL(n:Nat):Prop:=2≤n∧n≤273
def S.zero:S:=⟨0,0,0,0,0⟩
def S.next(s:S)(y:Sy):Nat×S:=
 if y.kind=1 then(0,s.lit) else if y.kind=4 then(0,s.short) else if y.kind=2 then(if isL y.len then(if isD y.dist then(0,s.mat y.dist) else(7,.zero)) else(7,.zero))
 else if isL y.len then(0,s.rep y.dist) else(7,.zero)
theorem S.next_ok{s:S}(hs:s.Ok){y:Sy}(h0:(s.next y).1=0):(s.next y).2.Ok:=by
 unfold S.next at*
 split
 ·exact hs.lit
 ·rename_i h1
  rw[if_neg h1] at h0
  split
  ·exact hs.short
  ·rename_i h2
   rw[if_neg h2] at h0
   split
   ·rename_i h3
    rw[if_pos h3] at h0
    split
    ·rename_i h4
     rw[if_pos h4] at h0
     split
     ·rename_i h5
      exact hs.mat h5
     ·rename_i h5
      rw[if_neg h5] at h0
      simp at h0
    ·rename_i h4
     rw[if_neg h4] at h0
     simp at h0
   ·rename_i h3
    rw[if_neg h3] at h0
    split
    ·exact hs.rep
    ·rename_i h4
     rw[if_neg h4] at h0
     simp at h0
theorem S.next_err(s:S)(y:Sy):(s.next y).1=0∨(s.next y).1=7:=by
 unfold S.next
 repeat' split
 all_goals first|exact .inl rfl|exact .inr rfl
theorem next_calls(s:S)(hs:s.Ok)(y:Sy)(hy:y.Ok)(w:World)(hT:Tabs w):
 Calls Tryz.prog 126 #[.agg s.cells,.agg y.cells] w fun e w'=>e=.returned (.tuple #[.agg (s.next y).2.cells,.int .i64 (s.next y).1])∧Fr (fun _=>False) w w':=by
 obtain⟨kind,byte,len,dist⟩:=y
 obtain⟨hk,hd,hb⟩:=hy
 simp only at hk hd hb
 simp only[Sy.cells,S.next]
 rcases hk with rfl|rfl|rfl|rfl
 ·exact next_lit s hs _ _ _ w hT
 ·rw[if_neg (by decide),if_neg (by decide),if_pos rfl]
  by_cases hl:isL len
  ·rw[if_pos hl]
   by_cases hdd:isD dist
   ·rw[if_pos hdd]
    exact next_mat s hs _ _ _ w hT hl hdd
   ·rw[if_neg hdd]
    exact next_mat_dist s hs _ _ _ w hT hl hdd
  ·rw[if_neg hl]
   exact next_mat_len s hs _ _ _ w hT hl
 ·rw[if_neg (by decide),if_neg (by decide),if_neg (by decide)]
  by_cases hl:isL len
  ·rw[if_pos hl]
   have hd3:=hd rfl
   obtain rfl|rfl|rfl|rfl:dist=0∨dist=1∨dist=2∨dist=3:=by omega
   ·exact next_rep0 s hs _ _ w hT hl
   ·exact next_rep1 s hs _ _ w hT hl
   ·exact next_rep2 s hs _ _ w hT hl
   ·exact next_rep3 s hs _ _ w hT hl
  ·rw[if_neg hl]
   exact next_rep_len s hs _ _ _ w hT hl
 ·rw[if_neg (by decide),if_pos rfl]
  exact next_short s hs _ _ _ w hT
theorem new_at(w0 w:World)(h:Fr (fun _=>False) w0 w):Calls Tryz.prog 34 #[] w fun e w'=>e=.returned (.agg S.new.cells)∧Fr (fun _=>False) w w':=new_calls w
def size(y:Sy):Nat:=if(S.new.next y).1=0 then(if y.kind=2∨y.kind=3 then y.len else 1) else 0
set_option maxRecDepth 100000 in
theorem size_calls(y:Sy)(hy:y.Ok)(w:World)(hT:Tabs w):
    Calls Tryz.prog 221 #[.agg y.cells] w fun e w'=>e=.returned (.int .i64 (size y))∧Fr (fun _=>False) w w':=by
  have herr:=S.next_err S.new y
  generalize hsz:size y=sz
  unfold size at hsz
  have HN:=fun W(h:Tabs W)=>Hd (next_calls S.new S.new_ok y hy W h)
  obtain⟨kind,byte,len,dist⟩:=y
  have hk:=hy.kind
  simp only at hk hsz
  clear hy
  unfold Sy.cells at*
  simp only at HN ⊢
  generalize S.new.next ⟨kind,byte,len,dist⟩=r at*
  obtain⟨er,rn,ra,rb,rc,rd⟩:=r
  simp only at herr hsz HN
  have HN2:∀W,Tabs W→Hid (Calls Tryz.prog 126 #[.agg S.new.cells,.agg #[.int .i64 kind,.int .u8 byte,.int .i64 len,.int .i64 dist]] W fun e w'=>e=.returned (.tuple #[.agg #[.int .i64 rn,.int .i64 ra,.int .i64 rb,.int .i64 rc,.int .i64 rd],.int .i64 er])∧Fr (fun _=>False) W w'):=HN
  clear HN
  have HN:=HN2
  clear HN2
  have HSZ:=Hd hsz
  have hbx:=heap_alloc_new w (.cells #[.int .i64 kind,.int .u8 byte,.int .i64 len,.int .i64 dist] 110)
  have hf0:=(R0 w).alloc (.cells #[.int .i64 kind,.int .u8 byte,.int .i64 len,.int .i64 dist] 110)
  have HT:=Hd (hT.keep hf0)
  have HF0:=Hd hf0
  have hS:∀w':World,Fr (fun _=>False) (w.alloc (.cells #[.int .i64 kind,.int .u8 byte,.int .i64 len,.int .i64 dist] 110)) w'→w'.cell? ⟨w.heap.size,0,none⟩=some (.int .i64 kind)∧w'.cell? ⟨w.heap.size,1,none⟩=some (.int .u8 byte)∧w'.cell? ⟨w.heap.size,2,none⟩=some (.int .i64 len)∧w'.cell? ⟨w.heap.size,3,none⟩=some (.int .i64 dist):=fun w' h=>
    ⟨cell_in (i:=0) (h.keep hbx (fun h=>h)) rfl,cell_in (i:=1) (h.keep hbx (fun h=>h)) rfl,cell_in (i:=2) (h.keep hbx (fun h=>h)) rfl,cell_in (i:=3) (h.keep hbx (fun h=>h)) rfl⟩
  clear hT hsz hf0 hbx
  go_enter Tryz.func221,Tryz.ntmps221
  go_wp2_with fail
  generalize hb:w.alloc (.cells #[.int .i64 kind,.int .u8 byte,.int .i64 len,.int .i64 dist] 110)=wb at*
  have HS:=Hd hS
  have FC:=Hd (R0 wb).drew
  have HSC:=Hd (hS wb.drew FC.out)
  obtain⟨e0,e1,e2,e3⟩:=HSC.out
  have HB:=Hd hb
  clear hS hb
  go_region_held3 (fun w'=>w'.cell? ⟨w.heap.size,0,none⟩=some (.int .i64 kind)∧w'.cell? ⟨w.heap.size,1,none⟩=some (.int .u8 byte)∧w'.cell? ⟨w.heap.size,2,none⟩=some (.int .i64 len)∧w'.cell? ⟨w.heap.size,3,none⟩=some (.int .i64 dist)) (first|with_reducible exact HSC.out|(refine HS.out _ ?_;(repeat refine Fr.setCell ?_ (.inr (by first|exact FC.out.size|exact HY.out)) _);first|exact FC.out|exact FC.out.alloc _)) ((first
    | (go_at_call 34
       first
         | (refine (new_at wb _ FC.out).mono ?_
            rintro e wc ⟨rfl,hfrc⟩
            have FC:=Hd (FC.out.trans hfrc)
            have HSC:=Hd (HS.out _ FC.out)
            obtain⟨e0,e1,e2,e3⟩:=HSC.out
            try (have hz:=hfrc.keep HZ.out (fun h=>h)
                 obtain⟨z0,z1,z2,z3,z4,zf⟩:=cf5 hz rfl rfl rfl rfl rfl
                 have HZ:=Hd hz
                 clear hz)
            clear hfrc)
         | (refine (new_at wb _ (FC.out.alloc _)).mono ?_
            rintro e wc ⟨rfl,hfrc⟩
            have HY:=Hd FC.out.size
            have FC:=Hd ((FC.out.alloc _).trans hfrc)
            have HSC:=Hd (HS.out _ FC.out)
            obtain⟨e0,e1,e2,e3⟩:=HSC.out
            have hz:=hfrc.keep (heap_alloc_new _ _) (fun h=>h)
            try simp only[World.size_drew] at hz
            obtain⟨z0,z1,z2,z3,z4,zf⟩:=cf5 hz rfl rfl rfl rfl rfl
            have HZ:=Hd hz
            clear hz
            clear hfrc))
    | (go_at_call 126
       first
         | (refine (HN _ (HT.out.keep FC.out)).out.mono ?_
            rintro e wc ⟨rfl,hfrc⟩
            have FC:=Hd (FC.out.trans hfrc)
            have HSC:=Hd (HS.out _ FC.out)
            obtain⟨e0,e1,e2,e3⟩:=HSC.out
            try (have hz:=hfrc.keep HZ.out (fun h=>h)
                 obtain⟨z0,z1,z2,z3,z4,zf⟩:=cf5 hz rfl rfl rfl rfl rfl
                 have HZ:=Hd hz
                 clear hz)
            clear hfrc)
         | (refine (HN _ (HT.out.keep (FC.out.alloc _))).out.mono ?_
            rintro e wc ⟨rfl,hfrc⟩
            have HY:=Hd FC.out.size
            have FC:=Hd ((FC.out.alloc _).trans hfrc)
            have HSC:=Hd (HS.out _ FC.out)
            obtain⟨e0,e1,e2,e3⟩:=HSC.out
            have hz:=hfrc.keep (heap_alloc_new _ _) (fun h=>h)
            try simp only[World.size_drew] at hz
            obtain⟨z0,z1,z2,z3,z4,zf⟩:=cf5 hz rfl rfl rfl rfl rfl
            have HZ:=Hd hz
            clear hz
            clear hfrc))))
  all_goals
    rcases herr with rfl|rfl
    · rcases hk with rfl|rfl|rfl|rfl
      all_goals
        go_wp2_with fail
        go_ret
        refine⟨?_,HF0.out.trans ?_⟩
        · have h:=HSZ.out
          simp at h
          subst h
          rfl
        · (repeat refine Fr.setCell ?_ (.inr (by first|exact FC.out.size|exact HY.out)) _)
          first|exact FC.out|exact FC.out.alloc _
    · go_wp2_with fail
      go_ret
      refine⟨?_,HF0.out.trans ?_⟩
      · have h:=HSZ.out
        simp at h
        subst h
        rfl
      · (repeat refine Fr.setCell ?_ (.inr (by first|exact FC.out.size|exact HY.out)) _)
        first|exact FC.out|exact FC.out.alloc _
end St
namespace St
open Mem Win
def distOf(s:S)(y:Sy):Nat:=if y.kind=2 then y.dist else if y.kind=3 then repAt s y.dist else s.r0
def lenOfSy(y:Sy):Nat:=if y.kind=4 then 1 else y.len
def apply(size:Nat)(all:List UInt8)(s:S)(y:Sy):Nat×List UInt8×S:=
 if(s.next y).1=0 then
  if y.kind=1 then(0,[UInt8.ofNat y.byte],(s.next y).2)
  else if 1≤distOf s y∧distOf s y≤min size all.length then(0,copied all (distOf s y) (lenOfSy y),(s.next y).2)
  else(7,[],.zero)
 else((s.next y).1,[],.zero)
structure Done(w:World)(B size:Nat)(rv:Value)(all bytes:List UInt8)(v:Value)(w':World):Prop where
 fr:Fr (fun k=>k=B∨rv.ownBlock=some k) w w'
 mine:Mine w w' v bytes
 win:∃rv' ring' t',Win.At w' B rv' size (all++bytes) ring' t'∧(∀k,rv'.ownBlock=some k→rv.ownBlock=some k∨w.heap.size≤k)∧(∀k,v.ownBlock=some k→rv'.ownBlock≠some k)
theorem Done.fin{w W2 wx wy:World}{B size g:Nat}{rv v:Value}{all bytes:List UInt8}(hF:Fr (fun _=>False) w W2)(h:Done W2 B size rv all bytes v wx)(hch:Fr (fun k=>k=g) wx wy)(hg0:w.heap.size≤g)(hg1:g<W2.heap.size)(hB:B<w.heap.size)(hrv:∀k,rv.ownBlock=some k→k<w.heap.size):Done w B size rv all bytes v wy:=by
 obtain⟨h1,h2,rv',ring',t',h3,h4,h5⟩:=h
 have hs:=hF.size
 refine⟨((hF.mono (fun _ _ h=>h.elim)).trans h1).trans' hch (fun i hi(e:i=g)=>by omega),⟨(h2.step hch (fun k hk(e:k=g)=>by have:=h2.new k hk;omega)).own,fun k hk=>Nat.le_trans hs (h2.new k hk)⟩,rv',ring',t',h3.keep hch (fun(e:B=g)=>by omega) (fun k hk(e:k=g)=> ?_),fun k hk=>(h4 k hk).imp id (Nat.le_trans hs),h5⟩
 rcases h4 k hk with h|h
 ·have:=hrv k h
  omega
 ·omega
theorem next_len(s:S)(y:Sy)(h0:(s.next y).1=0)(hk:y.kind=2∨y.kind=3):y.len≤273:=by
 by_cases hl:isL y.len
 ·exact hl.2
 ·exfalso
  unfold S.next at h0
  rcases hk with hk|hk
  ·rw[if_neg (by omega),if_neg (by omega),if_pos hk,if_neg hl] at h0
   simp at h0
  ·rw[if_neg (by omega),if_neg (by omega),if_neg (by omega),if_neg hl] at h0
   simp at h0
theorem copy_all(B size t d n:Nat)(rv:Value)(all ring:List UInt8)(w:World)(h:Win.At w B rv size all ring t)(hn:n≤273)(hmuch:all.length≤1152921504606846000):
 Calls Tryz.prog 197 #[.pointer (some ⟨B,0,none⟩),.int .i64 d,.int .i64 n] w fun e w'=>∃(e2:Nat)(bytes:List UInt8)(v:Value),e=.returned (.tuple #[v,.int .i64 (e2:Int)])∧
  ((1≤d∧d≤min size all.length)∧e2=0∧bytes=copied all d n∨¬(1≤d∧d≤min size all.length)∧e2=7∧bytes=[])∧Done w B size rv all bytes v w':=by
 have hl:=h.of.len
 by_cases hin:1≤d∧d≤ring.length
 ·refine(copy_in B size t d n rv all ring w h hin hn hmuch).mono ?_
  rintro e w' ⟨v,rfl,rv2,ring2,t2,hA,hF,hN,hM,hP⟩
  exact⟨0,_,v,rfl,.inl ⟨⟨hin.1,by omega⟩,rfl,rfl⟩,hF,hM,rv2,ring2,t2,by rw[←grown_eq];exact hA,hN,hP⟩
 ·refine(copy_out B size t d n rv all ring w h (.inl hin)).mono ?_
  rintro e w' ⟨rfl,rfl⟩
  exact⟨7,[],_,rfl,.inr ⟨by rw[←hl];exact hin,rfl,rfl⟩,Fr.refl _ _,Mine.nil _ _,rv,ring,t,by rw[List.append_nil];exact h,fun k hk=>.inl hk,fun k hk=>by simp[Value.ownBlock] at hk⟩
set_option maxRecDepth 100000 in
theorem apply_calls(B size t:Nat)(rv:Value)(all ring:List UInt8)(s:S)(hs:s.Ok)(y:Sy)(hy:y.Ok)(w:World)(hT:Tabs w)(h:Win.At w B rv size all ring t)(hmuch:all.length≤1152921504606846000):
 Calls Tryz.prog 133 #[.pointer (some ⟨B,0,none⟩),.agg s.cells,.agg y.cells] w fun e w'=>∃v,e=.returned (.tuple #[v,.agg (apply size all s y).2.2.cells,.int .i64 (apply size all s y).1])∧Done w B size rv all (apply size all s y).2.1 v w':=by
 have herr:=S.next_err s y
 have hlen:=next_len s y
 have HN:=fun W(h:Tabs W)=>Hd (next_calls s hs y hy W h)
 generalize hap:apply size all s y=ap
 unfold apply at hap
 obtain⟨kind,byte,len,dist⟩:=y
 obtain⟨n,r0,r1,r2,r3⟩:=s
 have hk:=hy.kind
 have hbyte:=hy.byte
 have hd3:=hy.dist
 simp only at hk hap hbyte hd3
 clear hy
 obtain⟨c,rfl⟩:∃c:UInt8,byte=c.toNat:=⟨UInt8.ofNat byte,by simp;omega⟩
 clear hbyte
 unfold Sy.cells at*
 simp only[S.cells] at HN ⊢
 generalize S.next ⟨n,r0,r1,r2,r3⟩ ⟨kind,c.toNat,len,dist⟩=r at*
 obtain⟨er,rn,ra,rb,rc,rd⟩:=r
 simp only at herr hap HN hlen
 have HLEN:=Hd hlen
 clear hlen
 have HAP:=Hd hap
 have HW:=Hd h
 have HT:=Hd hT
 have hB:B<w.heap.size:=lt_of_block h.box
 have hrvl:∀k,rv.ownBlock=some k→k<w.heap.size:=fun k hk=>(World.ownsRow.lt h.own k hk).2
 have HRV:=Hd hrvl
 clear hap h hT hrvl
 have hf0:Fr (fun _=>False) w (((w.alloc (.cells #[.int .i64 n,.int .i64 r0,.int .i64 r1,.int .i64 r2,.int .i64 r3] 84)).alloc (.cells #[.int .i64 kind,.int .u8 c.toNat,.int .i64 len,.int .i64 dist] 110)).alloc (.cells #[.int .i64 0,.int .i64 0,.int .i64 0,.int .i64 0,.int .i64 0] 84)):=(((Fr.refl _ w).alloc _).alloc _).alloc _
 have hx0:=(((R0 (w.alloc (.cells #[.int .i64 n,.int .i64 r0,.int .i64 r1,.int .i64 r2,.int .i64 r3] 84))).alloc (.cells #[.int .i64 kind,.int .u8 c.toNat,.int .i64 len,.int .i64 dist] 110)).alloc (.cells #[.int .i64 0,.int .i64 0,.int .i64 0,.int .i64 0,.int .i64 0] 84)).keep (heap_alloc_new w (.cells #[.int .i64 n,.int .i64 r0,.int .i64 r1,.int .i64 r2,.int .i64 r3] 84)) (fun h=>h)
 have hx1:=((R0 ((w.alloc (.cells #[.int .i64 n,.int .i64 r0,.int .i64 r1,.int .i64 r2,.int .i64 r3] 84)).alloc (.cells #[.int .i64 kind,.int .u8 c.toNat,.int .i64 len,.int .i64 dist] 110))).alloc (.cells #[.int .i64 0,.int .i64 0,.int .i64 0,.int .i64 0,.int .i64 0] 84)).keep (heap_alloc_new (w.alloc (.cells #[.int .i64 n,.int .i64 r0,.int .i64 r1,.int .i64 r2,.int .i64 r3] 84)) (.cells #[.int .i64 kind,.int .u8 c.toNat,.int .i64 len,.int .i64 dist] 110)) (fun h=>h)
 have hx2:=heap_alloc_new ((w.alloc (.cells #[.int .i64 n,.int .i64 r0,.int .i64 r1,.int .i64 r2,.int .i64 r3] 84)).alloc (.cells #[.int .i64 kind,.int .u8 c.toNat,.int .i64 len,.int .i64 dist] 110)) (.cells #[.int .i64 0,.int .i64 0,.int .i64 0,.int .i64 0,.int .i64 0] 84)
 simp only[World.size_alloc] at hx1 hx2
 have HX0:=Hd hx0
 have HX1:=Hd hx1
 have HX2:=Hd hx2
 have HF0:=Hd hf0
 clear hf0 hx0 hx1 hx2
 go_enter Tryz.func133,Tryz.ntmps133
 go_wp2_with fail
 refine(HN _ (HT.out.keep HF0.out)).out.mono ?_
 rintro e w1 ⟨rfl,hfr⟩
 have hf1:=HF0.out.trans hfr
 have hfa:=(R0 w1).alloc (.cells #[.int .i64 rn,.int .i64 ra,.int .i64 rb,.int .i64 rc,.int .i64 rd] 84)
 have hx0:=hfa.keep (hfr.keep HX0.out (fun h=>h)) (fun h=>h)
 have hx1:=hfa.keep (hfr.keep HX1.out (fun h=>h)) (fun h=>h)
 have hx2:=hfa.keep (hfr.keep HX2.out (fun h=>h)) (fun h=>h)
 have hx3:=heap_alloc_new w1 (.cells #[.int .i64 rn,.int .i64 ra,.int .i64 rb,.int .i64 rc,.int .i64 rd] 84)
 have HF2:=Hd (hf1.trans hfa)
 have hlt:=lt_of_block (hfr.keep HX2.out (fun h=>h))
 have hW2:Win.At (w1.alloc (.cells #[.int .i64 rn,.int .i64 ra,.int .i64 rb,.int .i64 rc,.int .i64 rd] 84)) B rv size all ring t:=HW.out.keep HF2.out (fun h=>h) (fun _ _ h=>h)
 have HW2:=Hd hW2
 have hsz3:=hfr.size
 simp only[World.size_alloc] at hsz3
 clear HX0 HX1 HX2 HF0 hfr hf1 hfa hW2 HN HT HW
 go_upto_if 19 with fail
 generalize hb0:w.heap.size=b0 at*
 generalize hb3:w1.heap.size=b3 at*
 generalize w1.alloc (.cells #[.int .i64 rn,.int .i64 ra,.int .i64 rb,.int .i64 rc,.int .i64 rd] 84)=W2 at*
 have HB0:=Hd hb0
 have HX0:=Hd hx0
 have HX1:=Hd hx1
 have HX2:=Hd hx2
 have HX3:=Hd hx3
 obtain⟨s0,s1,s2,s3,s4⟩:=cs5 hx0 rfl rfl rfl rfl rfl
 obtain⟨y0,y1,y2,y3⟩:=cs4 hx1 rfl rfl rfl rfl
 clear hb0 hb3 hx0 hx1 hx2 hx3
 have KEY:=Hd (show∀wx,Fr (fun k=>b0≤k) W2 wx→Done w B size rv all [] (.slice none 0 0) wx from fun wx hch=>by
  have hb0:=HB0.out
  refine⟨(HF2.out.trans' hch (fun i hi h=>by omega)).mono (fun _ _ h=>h.elim),Mine.nil _ _,rv,ring,t,?_,fun k hk=>.inl hk,fun k hk=>by simp[Value.ownBlock] at hk⟩
  rw[List.append_nil]
  exact HW2.out.keep hch (by omega) (fun k hk=>by have:=HRV.out k hk;omega))
 rcases herr with rfl|rfl
 ·go_upto_block 0 with fail
  go_cut [10,11] (fun s10 s11 wx=>∃(e2:Nat)(bytes:List UInt8),s10=.int .i64 (e2:Int)∧((e2=0∧ap=(0,bytes,⟨rn,ra,rb,rc,rd⟩))∨(e2=7∧bytes=[]∧ap=(7,[],.zero)))∧Done W2 B size rv all bytes s11 wx)
  case first=>
   have hw2s:=lt_of_block HX3.out
   rcases hk with rfl|rfl|rfl|rfl
   ·have y1':=alloc_keep y1 (.cells #[.int .u8 (c.toNat:Int)] 5)
    have ha1:=(R0 W2).alloc (.cells #[.int .u8 (c.toNat:Int)] 5)
    have ha2:=ha1.alloc (.cells #[.int .u8 (c.toNat:Int)] 5)
    have hone:=rd_one (W2.alloc (.cells #[.int .u8 (c.toNat:Int)] 5)) (W2.heap.size+1) (by simp) c _ rfl
    have hown:Mine W2 (W2.alloc (.cells #[.int .u8 (c.toNat:Int)] 5)) (.slice (some ⟨W2.heap.size,0,none⟩) 1 1) [c]:=⟨⟨rfl,.inr ⟨W2.heap.size,1,_,rfl,Nat.zero_le _,heap_alloc_new W2 _,by simp,by simp[maxLen],by simp,by simp[bvs,bv]⟩⟩,fun k hk=>by simp only[Value.ownBlock,Option.some.injEq] at hk;omega⟩
    have HOWN:=Hd (hown.keep ((R0 _).alloc (.cells #[.int .u8 (c.toNat:Int)] 5)))
    have HA2:=Hd ha2
    have HONE:=Hd hone
    clear ha1 ha2 hone hown
    go_wp2_with fail
    refine(put_calls B size t rv (.slice (some ⟨W2.heap.size+1,0,none⟩) 1 1) all ring [c] _ (HW2.out.keep HA2.out (fun h=>h) (fun _ _ h=>h)) HONE.out (fun _ k hk he=> ?_) (by simp only[List.length_singleton];omega)).mono ?_
    ·simp only[Value.ownBlock,Option.some.injEq] at hk
     have:=HRV.out k he
     omega
    rintro e w5 ⟨rfl,rv3,ring3,t3,hfr3,hA3,hN3⟩
    have HM3:=Hd (HOWN.out.step hfr3 (fun k hk h=>by
     simp only[Value.ownBlock,Option.some.injEq] at hk
     rcases h with h|h
     ·omega
     ·have:=HRV.out k h
      omega))
    have HA3:=Hd hA3
    have HN3:=Hd hN3
    have HF3:=Hd hfr3
    clear hA3 hN3 hfr3
    go_wp2_with fail
    go_meet
    have hap:=HAP.out
    rw[if_pos trivial,if_pos trivial] at hap
    refine⟨0,[c],rfl,.inl ⟨rfl,by rw[←hap];simp⟩,(HA2.out.mono (fun _ _ h=>h.elim)).trans HF3.out,HM3.out,rv3,ring3,t3,HA3.out,fun k hk=> ?_,fun k hk he=> ?_⟩
    ·rcases HN3.out k hk with h|h
     ·exact .inl h
     ·simp at h
      exact .inr (by omega)
    ·simp only[Value.ownBlock,Option.some.injEq] at hk
     rcases HN3.out k he with h|h
     ·have:=HRV.out k h
      omega
     ·simp at h
      omega
   ·have hl9:len≤273:=HLEN.out rfl (.inl rfl)
    go_wp2_with fail
    refine(copy_all B size t dist len rv all ring _ HW2.out (by first|exact hl9|decide) hmuch).mono ?_
    rintro e w5 ⟨e2,bytes,v,rfl,hor,hdone⟩
    have HOR:=Hd hor
    have HDO:=Hd hdone
    clear hor hdone
    go_wp2_with fail
    go_meet
    have hap:=HAP.out
    rw[if_pos trivial,if_neg (by decide)] at hap
    simp only[distOf,lenOfSy,if_true,if_false] at hap
    rcases HOR.out with⟨h1,rfl,rfl⟩|⟨h1,rfl,rfl⟩
    ·rw[if_pos (by simpa using h1)] at hap
     exact⟨0,_,rfl,.inl ⟨rfl,by rw[←hap];simp⟩,HDO.out⟩
    ·rw[if_neg (by simpa using h1)] at hap
     exact⟨7,[],rfl,.inr ⟨rfl,rfl,hap.symm⟩,HDO.out⟩
   ·have hl9:len≤273:=HLEN.out rfl (.inr rfl)
    have hd9:=hd3 rfl
    have HWD:=Hd (HW2.out.keep (R0 W2).drew (fun h=>h) (fun _ _ h=>h))
    have HFD:=Hd (R0 W2).drew
    obtain rfl|rfl|rfl|rfl:dist=0∨dist=1∨dist=2∨dist=3:=by omega
    all_goals
     go_wp2_with fail
     go_region_with ((refine(copy_all B size t _ len rv all ring _ HWD.out hl9 hmuch).mono ?_);rintro e w5 ⟨e2,bytes,v,rfl,hor,hdone⟩;have HOR:=Hd hor;have HDO:=Hd hdone;clear hor hdone)
     all_goals
      go_wp2_with fail
      go_meet
      have hap:=HAP.out
      rw[if_pos trivial,if_neg (by decide)] at hap
      simp only[distOf,lenOfSy,repAt,if_true,if_false] at hap
      have hdd:Done W2 B size rv all bytes v w5:=⟨(HFD.out.mono (fun _ _ h=>h.elim)).trans HDO.out.fr,⟨HDO.out.mine.own,fun k hk=>by have:=HDO.out.mine.new k hk;simpa using this⟩,by
       obtain⟨rv',ring',t',g1,g2,g3⟩:=HDO.out.win
       exact⟨rv',ring',t',g1,fun k hk=>by have:=g2 k hk;simpa using this,g3⟩⟩
      rcases HOR.out with⟨h1,rfl,rfl⟩|⟨h1,rfl,rfl⟩
      ·rw[if_pos (by simpa using h1)] at hap
       exact⟨0,_,rfl,.inl ⟨rfl,by rw[←hap];simp⟩,hdd⟩
      ·rw[if_neg (by simpa using h1)] at hap
       exact⟨7,[],rfl,.inr ⟨rfl,rfl,hap.symm⟩,hdd⟩
   ·have hl9:1≤273:=by decide
    go_wp2_with fail
    refine(copy_all B size t r0 1 rv all ring _ HW2.out (by first|exact hl9|decide) hmuch).mono ?_
    rintro e w5 ⟨e2,bytes,v,rfl,hor,hdone⟩
    have HOR:=Hd hor
    have HDO:=Hd hdone
    clear hor hdone
    go_wp2_with fail
    go_meet
    have hap:=HAP.out
    rw[if_pos trivial,if_neg (by decide)] at hap
    simp only[distOf,lenOfSy,if_true,if_false] at hap
    rcases HOR.out with⟨h1,rfl,rfl⟩|⟨h1,rfl,rfl⟩
    ·rw[if_pos (by simpa using h1)] at hap
     exact⟨0,_,rfl,.inl ⟨rfl,by rw[←hap];simp⟩,HDO.out⟩
    ·rw[if_neg (by simpa using h1)] at hap
     exact⟨7,[],rfl,.inr ⟨rfl,rfl,hap.symm⟩,HDO.out⟩
  case rest=>
  obtain⟨e2,bytes,rfl,hor,hdone⟩:=hcut
  have hx2:=hdone.fr.keep HX2.out (fun h=>by
   rcases h with h|h
   ·omega
   ·have:=HRV.out _ h
    omega)
  have hx3:=hdone.fr.keep HX3.out (fun h=>by
   rcases h with h|h
   ·omega
   ·have:=HRV.out _ h
    omega)
  have HDONE:=Hd hdone
  have HY2:=Hd hx2
  have HY3:=Hd hx3
  obtain⟨z0,z1,z2,z3,z4,zf⟩:=cf5 hx2 rfl rfl rfl rfl rfl
  have FIN:=Hd (show∀wy,Fr (fun k=>k=b0+1+1) wc wy→Done w B size rv all bytes u11 wy from fun wy hch=>by
   have hb0:=HB0.out
   exact HDONE.out.fin HF2.out hch (by omega) (Nat.lt_trans hlt (lt_of_block HX3.out)) (by omega) (fun k hk=>by have:=HRV.out k hk;omega))
  rcases hor with⟨rfl,hap⟩|⟨rfl,rfl,hap⟩
  ·subst hap
   clear hx2 hx3 hdone s0 s1 s2 s3 s4 y0 y1 y2 y3
   obtain⟨q0,q1,q2,q3,q4⟩:=cs5 HY3.out rfl rfl rfl rfl rfl
   go_wp2_with fail
   go_region
   all_goals go_wp2_with fail
   all_goals
    refine bodyPost_ret (v:=.tuple #[u11,.agg #[.int .i64 rn,.int .i64 ra,.int .i64 rb,.int .i64 rc,.int .i64 rd],.int .i64 0]) (by simp[results,Tryz.results133,go_sem,z0,z1,z2,z3,z4]) rfl ?_
    refine⟨_,rfl,FIN.out _ ?_⟩
    try refine Fr.drew ?_
    repeat refine Fr.setCell ?_ (.inl (by simp)) _
    first|exact Fr.refl _ _|exact(Fr.refl _ _).drew
  ·subst hap
   clear hx2 hx3 hdone s0 s1 s2 s3 s4 y0 y1 y2 y3
   go_wp2_with fail
   refine bodyPost_ret (v:=.tuple #[.slice none 0 0,.agg #[.int .i64 0,.int .i64 0,.int .i64 0,.int .i64 0,.int .i64 0],.int .i64 7]) (by simp[results,Tryz.results133,go_sem,z0,z1,z2,z3,z4]) rfl ?_
   have hfin:=fun wy(hch:Fr (fun k=>k=b0+1+1) wc wy)=>FIN.out wy hch
   have NIL:=Hd (show∀wy,Fr (fun k=>k=b0+1+1) wc wy→Done w B size rv all [] (.slice none 0 0) wy from fun wy hch=>by
    obtain⟨h1,h2,rv',ring',t',h3,h4,h5⟩:=FIN.out wy hch
    exact⟨h1,Mine.nil _ _,rv',ring',t',h3,h4,fun k hk=>by simp[Value.ownBlock] at hk⟩)
   refine⟨_,rfl,NIL.out _ ?_⟩
   repeat refine Fr.setCell ?_ (.inl (by simp)) _
   exact Fr.refl _ _
 ·obtain⟨z0,z1,z2,z3,z4,zf⟩:=cf5 HX2.out rfl rfl rfl rfl rfl
  go_wp2_with fail
  refine bodyPost_ret (v:=.tuple #[.slice none 0 0,.agg #[.int .i64 0,.int .i64 0,.int .i64 0,.int .i64 0,.int .i64 0],.int .i64 7]) (by simp[results,Tryz.results133,go_sem,z0,z1,z2,z3,z4]) rfl ?_
  have hap:=HAP.out
  rw[if_neg (by decide)] at hap
  subst hap
  refine⟨_,rfl,KEY.out _ ?_⟩
  repeat refine Fr.setCell ?_ (.inl (by simp;try omega)) _
  exact Fr.refl _ _
end St
namespace Rc
open Mem
structure D where
 b:List UInt8
 read:Nat
 rng:Nat
 now:Nat
def D.ok(d:D):Prop:=d.now<d.rng∧d.rng<4294967296∧d.read≤d.b.length∧d.b.length≤1099511627776∧0<d.b.length
def D.widen(d:D):Option D:=
 if 16777216≤d.rng then some d else match d.b[d.read]? with
  |none=>none
  |some c=>some ⟨d.b,d.read+1,d.rng*256,d.now*256+c.toNat⟩
def D.upper(d:D)(cut:Nat):Nat×D:=if d.now<cut then(0,⟨d.b,d.read,cut,d.now⟩) else(1,⟨d.b,d.read,d.rng-cut,d.now-cut⟩)
def cutAt(r p:Nat):Nat:=r/2048*p
def D.bit(d:D)(p:Nat):Option (Nat×D):=(d.upper (cutAt d.rng p)).2.widen.map fun e=>((d.upper (cutAt d.rng p)).1,e)
theorem cutAt_lt{r p:Nat}(hr:0<r)(hp:p≤2047):cutAt r p<r:=by
 unfold cutAt
 have h1:r/2048*p≤r/2048*2047:=Nat.mul_le_mul_left _ hp
 omega
theorem D.widen_ok{d e:D}(h:d.ok)(hw:d.widen=some e):e.ok∧e.b=d.b:=by
 obtain⟨h1,h2,h3,h4,h5⟩:=h
 unfold D.widen at hw
 split at hw
 ·obtain rfl:=Option.some.inj hw
  exact⟨⟨h1,h2,h3,h4,h5⟩,rfl⟩
 ·split at hw
  ·cases hw
  ·rename_i hlt c hc
   obtain rfl:=Option.some.inj hw
   have hcb:=UInt8.toNat_lt c
   have hl:=(List.getElem?_eq_some_iff.1 hc).1
   exact⟨⟨by simp only;omega,by simp only;omega,by simp only;omega,h4,h5⟩,rfl⟩
theorem D.upper_ok{d:D}{cut:Nat}(h:d.ok)(hc:cut<d.rng):(d.upper cut).2.ok∧(d.upper cut).2.b=d.b∧(d.upper cut).1≤1:=by
 obtain⟨h1,h2,h3,h4,h5⟩:=h
 unfold D.upper
 split
 ·exact⟨⟨by assumption,by simp only;omega,h3,h4,h5⟩,rfl,by simp⟩
 ·exact⟨⟨by simp only;omega,by simp only;omega,h3,h4,h5⟩,rfl,by simp⟩
theorem D.bit_ok{d e:D}{p v:Nat}(h:d.ok)(hp:p≤2047)(hb:d.bit p=some (v,e)):e.ok∧e.b=d.b∧v≤1:=by
 unfold D.bit at hb
 have hu:=D.upper_ok h (cutAt_lt (by have:=h.1;omega) hp:cutAt d.rng p<d.rng)
 cases hw:(d.upper (cutAt d.rng p)).2.widen with
 |none=>rw[hw] at hb;cases hb
 |some x=>
   rw[hw] at hb
   simp only[Option.map_some,Option.some.injEq,Prod.mk.injEq] at hb
   obtain⟨rfl,rfl⟩:=hb
   have:=D.widen_ok hu.1 hw
   exact⟨this.1,this.2.trans hu.2.1,hu.2.2⟩
def D.direct:Nat→Nat→D→Except Nat (Nat×D)
 |0,v,d=>.ok (v,d)
 |n+1,v,d=>
   if(if d.rng/2≤d.now then d.now-d.rng/2 else d.now)=d.rng/2 then .error 2 else
   match (⟨d.b,d.read,d.rng/2,if d.rng/2≤d.now then d.now-d.rng/2 else d.now⟩:D).widen with
   |none=>.error 1
   |some e=>D.direct n (if d.rng/2≤d.now then 2*v+1 else 2*v) e
theorem D.half_ok{d:D}(h:d.ok)(hne:(if d.rng/2≤d.now then d.now-d.rng/2 else d.now)≠d.rng/2):(⟨d.b,d.read,d.rng/2,if d.rng/2≤d.now then d.now-d.rng/2 else d.now⟩:D).ok:=by
 obtain⟨h1,h2,h3,h4,h5⟩:=h
 refine⟨?_,by simp only;omega,h3,h4,h5⟩
 simp only
 split
 ·rename_i hc
  rw[if_pos hc] at hne
  omega
 ·omega
theorem bits_or_u32_nat (a b:Nat) (ha:a<4294967296) (hb:b<4294967296):bits .or .u32 (a:Int) (b:Int)=((a|||b:Nat):Int):=by
 have hx:a|||b<2^32:=Nat.or_lt_two_pow (by omega) (by omega)
 have h1:(BitVec.ofInt 32 (a:Int)).toNat=a:=by
  rw[BitVec.ofInt_natCast,BitVec.toNat_ofNat];exact Nat.mod_eq_of_lt (by omega)
 have h2:(BitVec.ofInt 32 (b:Int)).toNat=b:=by
  rw[BitVec.ofInt_natCast,BitVec.toNat_ofNat];exact Nat.mod_eq_of_lt (by omega)
 show IntKind.u32.wrap ((BitVec.ofInt 32 (a:Int)|||BitVec.ofInt 32 (b:Int)).toNat:Int)=_
 rw[BitVec.toNat_or,h1,h2,IntKind.wrap_u32]
 omega
theorem or_byte (a:Nat) (c:Nat) (ha:a<16777216) (hc:c<256):bits BinOp.or IntKind.u32 ((a*256:Nat):Int) (c:Int)=((a*256+c:Nat):Int):=by
 rw[bits_or_u32_nat _ _ (by omega) (by omega)]
 congr 1
 rw[Nat.mul_comm,show(256:Nat)=2^8 by rfl,Nat.two_pow_add_eq_or_of_lt (by simpa using hc)]
end Rc
end Go.Proofs.YtffoddpjfgjelaaGreatDoor
