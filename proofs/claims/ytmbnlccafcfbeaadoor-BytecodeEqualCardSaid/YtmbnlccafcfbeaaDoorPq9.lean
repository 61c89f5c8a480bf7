/- Parts of the proof: Boxs, RSame3. -/
import Derived.Lib.QuietBelow
import Derived.Test.YtmbnlccafcfbeaaDoorPqA
import Derived.Test.YtmbnlccafcfbeaaDoorPq4
import Derived.Test.YtmbnlccafcfbeaaDoorPq8
set_option linter.unusedVariables false
set_option linter.unusedSimpArgs false
set_option linter.unusedSectionVars false
set_option maxRecDepth 100000
namespace Go.Proofs.YtmbnlccafcfbeaaDoor
section
open Go.RowKit
/-- a box: who lays it, who fills it, of what type, with what at first and then -/
structure Bx where
 a:Nat
 s:Nat
 t:TypeId
 z:Array Value
 u:Array Value
def bxB (bs:List Bx) (ds:Nat→List Nat) (N:Nat):Bool :=
 decide (bs.flatMap fun b=>[b.a,b.s]).Nodup && bs.all fun b=>decide (b.a < N) && decide (b.s < N) && (ds b.s).contains b.a
def isBx (bs:List Bx) (i:Nat):Prop:=∃ b∈bs,i=b.a ∨ i=b.s
theorem bx_of {bs:List Bx} {i:Nat} (h:(bs.flatMap fun b=>[b.a,b.s]).contains i=true):isBx bs i:=by
 rw[List.contains_iff_mem,List.mem_flatMap] at h
 obtain⟨b,hb,h⟩:=h
 exact⟨b,hb,by simpa using h⟩
theorem not_bx {bs:List Bx} {i:Nat} (h:(bs.flatMap fun b=>[b.a,b.s]).contains i=false):¬ isBx bs i:=fun⟨b,hb,hi⟩=>by
 have:(bs.flatMap fun b=>[b.a,b.s]).contains i=true:=by
  rw[List.contains_iff_mem,List.mem_flatMap]
  exact⟨b,hb,by simpa using hi⟩
 rw[h] at this
 cases this
structure BxI (W:World) (N:Nat) (bs:List Bx) (vals:Nat→Value) (L:Array Bool) (vs:Nat→Value) (w:World):Prop where
 k:Below W.heap.size W w
 v:∀ i,i < N→¬ isBx bs i→L.getD i false=true→vs i=vals i
 o:∀ b∈bs,L.getD b.s false=true→L.getD b.a false=true
 b:∀ b∈bs,L.getD b.a false=true→∃ g,vs b.a=.pointer (some ⟨g,0,none⟩)∧W.heap.size≤g∧Bk w g b.t (if L.getD b.s false=true then b.u else b.z)
 d:∀ b∈bs,∀ b'∈bs,b.a≠b'.a→L.getD b.a false=true→L.getD b'.a false=true→vs b.a≠vs b'.a
theorem nodup_bx:∀ {bs:List Bx},(bs.flatMap fun b=>[b.a,b.s]).Nodup→(∀ b∈bs,b.a≠b.s)∧(∀ b∈bs,∀ b'∈bs,b.a=b'.a→b=b')∧(∀ b∈bs,∀ b'∈bs,b.s=b'.s→b=b')∧(∀ b∈bs,∀ b'∈bs,b.a≠b'.s)
 | [],_=>⟨(by simp),(by simp),(by simp),(by simp)⟩
 | x::bs,h=>by
  rw[List.flatMap_cons,List.nodup_append] at h
  obtain⟨h1,h2,h3⟩:=h
  obtain⟨i1,i2,i3,i4⟩:=nodup_bx h2
  have hx:x.a≠x.s:=by simpa using h1
  have mem:∀ b∈bs,b.a∈bs.flatMap (fun b=>[b.a,b.s])∧b.s∈bs.flatMap (fun b=>[b.a,b.s]):=fun b hb=>⟨List.mem_flatMap.2 ⟨b,hb,by simp⟩,List.mem_flatMap.2 ⟨b,hb,by simp⟩⟩
  have ha:∀ b∈bs,x.a≠b.a∧x.a≠b.s∧x.s≠b.a∧x.s≠b.s:=fun b hb=>⟨h3 _ (by simp) _ (mem b hb).1,h3 _ (by simp) _ (mem b hb).2,h3 _ (by simp) _ (mem b hb).1,h3 _ (by simp) _ (mem b hb).2⟩
  refine⟨fun b hb=>?_,fun b hb b' hb' e=>?_,fun b hb b' hb' e=>?_,fun b hb b' hb'=>?_⟩
  ·rcases List.mem_cons.1 hb with rfl | kb
   ·exact hx
   ·exact i1 b kb
  ·rcases List.mem_cons.1 hb with rfl | kb <;> rcases List.mem_cons.1 hb' with rfl | kb'
   ·rfl
   ·exact absurd e (ha b' kb').1
   ·exact absurd e.symm (ha b kb).1
   ·exact i2 b kb b' kb' e
  ·rcases List.mem_cons.1 hb with rfl | kb <;> rcases List.mem_cons.1 hb' with rfl | kb'
   ·rfl
   ·exact absurd e (ha b' kb').2.2.2
   ·exact absurd e.symm (ha b kb).2.2.2
   ·exact i3 b kb b' kb' e
  ·rcases List.mem_cons.1 hb with rfl | kb <;> rcases List.mem_cons.1 hb' with rfl | kb'
   ·exact hx
   ·exact(ha b' kb').2.1
   ·exact fun e=>(ha b kb).2.2.1 e.symm
   ·exact i4 b kb b' kb'
theorem wp_boxes {P:Program} {id:Nat} {a0:Act} {W:World} {l:List Oper} {Q:Exit→Act→World→Prop} (N:Nat) (ds:Nat→List Nat) (bs:List Bx) (vals:Nat→Value) (hm:P.follows .mixedOrders=true) (hBB:sepJ l.toArray N ds=true)
  (hN:(List.range N).all (fun i=>match dstOf l.toArray i with | some d=>decide (d < a0.tmps.size) | none=>true)=true) (hC:bxB bs ds N=true)
  (hpure:∀ i,i < N→∀ o,l[i]?=some o→¬ isBx bs i→∀ vs w,Below W.heap.size W w→(∀ j∈ds i,¬ isBx bs j→vs j=vals j)→(execOp (frm l.toArray a0 vs (ds i)).eval o).run P w=.ok (.value (vals i)) w)
  (halloc:∀ b∈bs,∀ o,l[b.a]?=some o→∀ vs w,(execOp (frm l.toArray a0 vs (ds b.a)).eval o).run P w=.ok (.value (.pointer (some ⟨w.heap.size,0,none⟩))) (w.alloc (.cells b.z b.t)))
  (hstore:∀ b∈bs,∀ o,l[b.s]?=some o→∀ vs w g,(∀ j∈ds b.s,¬ isBx bs j→vs j=vals j)→vs b.a=.pointer (some ⟨g,0,none⟩)→Bk w g b.t b.z →
   Made P (fun _ w'=>Bk w' g b.t b.u∧Kp (fun k=>k=g) w w') ((execOp (frm l.toArray a0 vs (ds b.s)).eval o).run P w))
  (hend:∀ vs w,Below W.heap.size W w→(∀ i,i < N→¬ isBx bs i→vs i=vals i)→(∀ b∈bs,∃ g,vs b.a=.pointer (some ⟨g,0,none⟩)∧W.heap.size≤g∧Bk w g b.t b.u)→(∀ b∈bs,∀ b'∈bs,b.a≠b'.a→vs b.a≠vs b'.a)→wpList P l.toArray Q [] (frm l.toArray a0 vs (List.range N)) w) :
  (Code.region id l.toArray true).wp P Q a0 W:=by
 have hs:=SepJ.of hBB
 unfold bxB at hC
 simp only[Bool.and_eq_true,List.all_eq_true,decide_eq_true_eq,List.contains_iff_mem] at hC
 obtain⟨hnd,hcl⟩:=hC
 obtain⟨n1,n2,n3,n4⟩:=nodup_bx hnd
 have hdN:∀ i,i < N→∀ j∈ds i,j < N:=fun i hi j hj=>by
  have hw:=hs.dep i hi j hj
  have hoi:∃ o,l.toArray[i]?=some o:=⟨l.toArray[i]'(by rw[hs.size];exact hi),Array.getElem?_eq_getElem _⟩
  obtain⟨o,ho⟩:=hoi
  unfold waits at hw
  rw[ho] at hw
  obtain⟨e,he,hb⟩:=Array.any_eq_true'.1 hw
  simp only[Bool.and_eq_true,beq_iff_eq] at hb
  have:=hs.back i hi o ho e he hb.1
  omega
 refine wp_region_invD N ds (BxI W N bs vals) hm hBB hN (fun vs=>?_) ?_ ?_
 ·exact⟨⟨rfl,rfl,rfl,Nat.le_refl _,fun _ _=>rfl⟩,(fun i _ _ h=>by rw[getD_replicate_false] at h;cases h),(fun b _ h=>by rw[getD_replicate_false] at h;cases h),(fun b _ h=>by rw[getD_replicate_false] at h;cases h),fun b _ b' _ _ h=>by rw[getD_replicate_false] at h;cases h⟩
 ·intro i hi o ho L vs w hls hun hwt hclo hI
  have hun':=und' hun
  have hvd:∀ j∈ds i,¬ isBx bs j→vs j=vals j:=fun j hj hr=>hI.v j (hdN i hi j hj) hr (hwt j (hs.dep i hi j hj))
  have hgD:∀ j,j≠i→(L.setIfInBounds i true).getD j false=L.getD j false:=fun j hj=>getD_set_ne false (fun e=>hj e.symm)
  by_cases hx:isBx bs i
  ·obtain⟨b,hb,rfl | rfl⟩:=hx
   ·rw[halloc b hb o ho vs w]
    have hba:Below w.heap.size w (w.alloc (.cells b.z b.t)):=(Below.refl _ _).alloc (Nat.le_refl _) _
    have hns:L.getD b.s false=false:=by
     cases h:L.getD b.s false with
     | false=>rfl
     | true=>rw[hI.o b hb h] at hun';cases hun'
    have hlt:∀ c∈bs,L.getD c.a false=true→vs c.a≠.pointer (some ⟨w.heap.size,0,none⟩):=fun c hc h e=>by
     obtain⟨g,h1,h2,h3⟩:=hI.b c hc h
     rw[h1] at e
     cases e
     exact absurd h3.lt (Nat.lt_irrefl _)
    refine made_ok ⟨hI.k.trans (hba.mono hI.k.size),fun j hj hr hl=>?_,fun c hc hl=>?_,fun c hc hl=>?_,fun c hc c' hc' hne hl hl'=>?_⟩
    ·have hne:j≠b.a:=fun e=>hr ⟨b,hb,.inl e⟩
     rw[hgD j hne] at hl
     show(if j=b.a then _ else vs j)=_
     rw[if_neg hne]
     exact hI.v j hj hr hl
    ·have hne:c.s≠b.a:=fun e=>n4 b hb c hc e.symm
     rw[hgD _ hne] at hl
     by_cases e:c.a=b.a
     ·rw[e];exact getD_setN hls hi
     ·rw[hgD _ e];exact hI.o c hc hl
    ·have hne:c.s≠b.a:=fun e=>n4 b hb c hc e.symm
     rw[hgD _ hne]
     by_cases e:c.a=b.a
     ·obtain rfl:=n2 c hc b hb e
      rw[if_pos rfl,hns]
      exact⟨_,rfl,hI.k.size,by simpa using Bk.new w c.t c.z⟩
     ·rw[hgD _ e] at hl
      rw[if_neg e]
      obtain⟨g,h1,h2,h3⟩:=hI.b c hc hl
      exact⟨g,h1,h2,h3.below hba h3.lt⟩
    ·by_cases e:c.a=b.a
     ·have e':c'.a≠b.a:=fun h=>hne (e.trans h.symm)
      rw[if_pos e,if_neg e']
      rw[hgD _ e'] at hl'
      exact fun h=>hlt c' hc' hl' h.symm
     ·rw[if_neg e]
      rw[hgD _ e] at hl
      by_cases e':c'.a=b.a
      ·rw[if_pos e']
       exact hlt c hc hl
      ·rw[if_neg e']
       rw[hgD _ e'] at hl'
       exact hI.d c hc c' hc' hne hl hl'
   ·have hla:L.getD b.a false=true:=hwt _ (hs.dep b.s hi b.a (hcl b hb).2)
    obtain⟨g,h1,h2,h3⟩:=hI.b b hb hla
    rw[hun'] at h3
    refine(hstore b hb o ho vs w g hvd h1 (by simpa using h3)).mono fun v w' ⟨hk1,hk2⟩=>?_
    have hneA:∀ c∈bs,c.a≠b.s:=fun c hc=>n4 c hc b hb
    refine⟨hk2.toBelow hI.k hI.k.size (fun k e=>by omega),fun j hj hr hl=>?_,fun c hc hl=>?_,fun c hc hl=>?_,fun c hc c' hc' hne hl hl'=>?_⟩
    ·have hne:j≠b.s:=fun e=>hr ⟨b,hb,.inr e⟩
     rw[hgD j hne] at hl
     show(if j=b.s then _ else vs j)=_
     rw[if_neg hne]
     exact hI.v j hj hr hl
    ·rw[hgD _ (hneA c hc)]
     by_cases e:c.s=b.s
     ·obtain rfl:=n3 c hc b hb e
      exact hla
     ·rw[hgD _ e] at hl;exact hI.o c hc hl
    ·rw[hgD _ (hneA c hc)] at hl
     rw[if_neg (hneA c hc)]
     by_cases e:c.s=b.s
     ·obtain rfl:=n3 c hc b hb e
      rw[getD_setN hls hi]
      exact⟨g,h1,h2,by simpa using hk1⟩
     ·rw[hgD _ e]
      obtain⟨g',h1',h2',h3'⟩:=hI.b c hc hl
      have hne:c.a≠b.a:=fun h=>e (by rw[n2 c hc b hb h])
      have hgg:g'≠g:=fun h=>hI.d c hc b hb hne hl hla (by rw[h1',h1,h])
      exact⟨g',h1',h2',h3'.kp hk2 hgg⟩
    ·rw[hgD _ (hneA c hc)] at hl
     rw[hgD _ (hneA c' hc')] at hl'
     rw[if_neg (hneA c hc),if_neg (hneA c' hc')]
     exact hI.d c hc c' hc' hne hl hl'
  ·rw[hpure i hi o ho hx vs w hI.k hvd]
   have hna:∀ c∈bs,c.a≠i∧c.s≠i:=fun c hc=>⟨fun e=>hx ⟨c,hc,.inl e.symm⟩,fun e=>hx ⟨c,hc,.inr e.symm⟩⟩
   refine made_ok ⟨hI.k,fun j hj hr hl=>?_,fun c hc hl=>?_,fun c hc hl=>?_,fun c hc c' hc' hne hl hl'=>?_⟩
   ·show(if j=i then _ else vs j)=_
    by_cases e:j=i
    ·subst e;rw[if_pos rfl]
    ·rw[if_neg e]
     rw[hgD _ e] at hl
     exact hI.v j hj hr hl
   ·rw[hgD _ (hna c hc).2] at hl
    rw[hgD _ (hna c hc).1]
    exact hI.o c hc hl
   ·rw[hgD _ (hna c hc).1] at hl
    rw[if_neg (hna c hc).1,hgD _ (hna c hc).2]
    exact hI.b c hc hl
   ·rw[hgD _ (hna c hc).1] at hl
    rw[hgD _ (hna c' hc').1] at hl'
    rw[if_neg (hna c hc).1,if_neg (hna c' hc').1]
    exact hI.d c hc c' hc' hne hl hl'
 ·intro L vs w hls hall hI
  refine hend vs w hI.k (fun i hi hn=>hI.v i hi hn (hall i hi)) (fun b hb=>?_) fun b hb b' hb' hne=>hI.d b hb b' hb' hne (hall _ (by have:=(hcl b hb).1.1;exact this)) (hall _ (by have:=(hcl b' hb').1.1;exact this))
  obtain⟨g,h1,h2,h3⟩:=hI.b b hb (hall _ (hcl b hb).1.1)
  rw[hall _ (hcl b hb).1.2] at h3
  exact⟨g,h1,h2,by simpa using h3⟩
end
section
open Go.RowKit Go.Sort
attribute [local go_sem] Oper.semAt_some
section
variable {w:World} {cs ds:List Cls} {A B:Option Addr} {n m c d:Nat}
set_option maxHeartbeats 8000000 in
theorem RSameC_any (hC:CodeR w cs A n c) (hD:CodeR w ds B m d):Calls Tryd.prog 9 #[.agg #[.slice A n c],.agg #[.slice B m d]] w (YesP w (decide (cs=ds))):=by
 obtain⟨rfl,hc,hn,hs⟩:=hC
 obtain⟨rfl,hd,hm,hs2⟩:=hD
 obtain⟨W,hW⟩:∃ W,W=(w.alloc (.cells #[.slice A cs.length c] 24)).alloc (.cells #[.slice B ds.length d] 24):=⟨_,rfl⟩
 obtain⟨g1,hg1⟩:∃ g1,g1=w.heap.size:=⟨_,rfl⟩
 have hb0:Below w.heap.size w W:=by rw[hW];exact((Below.refl _ _).alloc (Nat.le_refl _) _).alloc (by simp) _
 have hk1:Bk W g1 24 #[.slice A cs.length c]:=by rw[hW,hg1];exact(Bk.new _ _ _).alloc _
 have hk2:Bk W (g1+1) 24 #[.slice B ds.length d]:=by rw[hW,hg1];have:=Bk.new (w.alloc (.cells #[.slice A cs.length c] 24)) 24 #[.slice B ds.length d];simpa using this
 have HB0:=lh hb0
 have HS:=lh (And.intro (hs.clss hb0) (hs2.clss hb0))
 have HCB:Hid (∀ wr,Below W.heap.size W wr→wr.cell? ⟨g1,0,none⟩=some (.slice A cs.length c)∧wr.cell? ⟨g1+1,0,none⟩=some (.slice B ds.length d)):=lh fun wr h=>⟨((bcell h).1 _ _ hk1.lt).trans (hk1.cell 0),((bcell h).1 _ _ hk2.lt).trans (hk2.cell 0)⟩
 have a0:W.cell? ⟨g1,0,none⟩=some (.slice A cs.length c):=hk1.cell 0
 have b0:W.cell? ⟨g1+1,0,none⟩=some (.slice B ds.length d):=hk2.cell 0
 have HLM:=lh (And.intro hc (And.intro hd (And.intro hn hm)))
 clear hs hs2 hb0 hk1 hk2 hm hd
 go_enter Tryd.func9,Tryd.ntmps9
 go_upto_region 1 with fail
 rw[← hW,← hg1]
 clear hW hg1
 by_cases hl:cs.length=ds.length
 ·have q0:((cs.length:Int) != (ds.length:Int))=false:=by rw[hl];simp
  have HL:=lh hl
  clear hl
  go_wp2_with fail
  clear a0 b0
  go_loopw [5] (fun ix wr=>∃ j:Nat,ix=.int .i64 (j:Int)∧j≤cs.length∧cs.take j=ds.take j∧Below W.heap.size W wr) (fun ix _=>cs.length - (intOf ix).toNat)
  case atStart=>exact⟨0,rfl,Nat.zero_le _,rfl,Below.refl _ _⟩
  case round =>
   obtain⟨j,rfl,hj,ht,hbl⟩:=hrel
   have HT:=lh (And.intro ht hbl)
   obtain⟨a0,b0⟩:=HCB.out wr hbl
   clear ht hbl
   by_cases hlt:j < cs.length
   ·obtain⟨ba,oa,x,r,hA,hba,hx,hr,hrx,hca⟩:=HS.out.1.get hlt
    obtain⟨bc,ob,y,q,hB,hbb,hy,hq,hqy,hcb⟩:=HS.out.2.get (k:=j) (by rw[← HL.out];exact hlt)
    have hxy:x=y→cs.take (j+1)=ds.take (j+1):=fun h=>by rw[List.take_add_one,List.take_add_one,hx,hy,HT.out.1,h]
    have HXY:=lh hxy
    have HXN:Hid (x≠y→decide (cs=ds)=false):=lh fun h=>decide_eq_false fun e=>h (by have h1:=hx;rw[e,hy] at h1;injection h1 with h1;exact h1.symm)
    have HBW:=lh HT.out.2
    obtain⟨hok1,A1,c1,B1,d1,rfl,hc1,hf1,hd1,hm1⟩:=hrx
    obtain⟨hok2,A2,c2,B2,d2,rfl,hc2,hf2,hd2,hm2⟩:=hqy
    have hef:∀ w1,Below wr.heap.size wr w1→(w1.cell? ⟨ba,oa+j*4,none⟩=some (.string x.nm)∧w1.cell? ⟨ba,oa+j*4+1,none⟩=some (.bool x.actor)∧w1.cell? ⟨ba,oa+j*4+2,none⟩=some (.slice A1 x.fields.length c1)∧w1.cell? ⟨ba,oa+j*4+3,none⟩=some (.slice B1 x.ms.length d1))∧(w1.cell? ⟨bc,ob+j*4,none⟩=some (.string y.nm)∧w1.cell? ⟨bc,ob+j*4+1,none⟩=some (.bool y.actor)∧w1.cell? ⟨bc,ob+j*4+2,none⟩=some (.slice A2 y.fields.length c2)∧w1.cell? ⟨bc,ob+j*4+3,none⟩=some (.slice B2 y.ms.length d2)):=fun w1 h=>by
     have hb:=HBW.out.trans (h.mono HBW.out.size)
     exact⟨⟨((bcell hb).1 _ _ hba).trans (hca 0 _ rfl),((bcell hb).1 _ _ hba).trans (hca 1 _ rfl),((bcell hb).1 _ _ hba).trans (hca 2 _ rfl),((bcell hb).1 _ _ hba).trans (hca 3 _ rfl)⟩,((bcell hb).1 _ _ hbb).trans (hcb 0 _ rfl),((bcell hb).1 _ _ hbb).trans (hcb 1 _ rfl),((bcell hb).1 _ _ hbb).trans (hcb 2 _ rfl),((bcell hb).1 _ _ hbb).trans (hcb 3 _ rfl)⟩
    subst hA hB
    have hcr:∀ w1,Below wr.heap.size wr w1→w1.cell? ⟨g1,0,none⟩=some (.slice (some ⟨ba,oa,none⟩) cs.length c)∧w1.cell? ⟨g1+1,0,none⟩=some (.slice (some ⟨bc,ob,none⟩) ds.length d):=fun w1 h=>HCB.out w1 (HBW.out.trans (h.mono HBW.out.size))
    have HCR:=lh hcr
    have HEF:=lh hef
    have hjc:j < c:=by omega
    have hjd:j < d:=by have:=HL.out;have:=HLM.out.2.1;omega
    have hjl:j < ds.length:=by have:=HL.out;omega
    have HLC:=lh (And.intro hok1 (And.intro hok2 (And.intro hc1 (And.intro hc2 (And.intro hd1 hd2)))))
    have HCO:=lh (And.intro hf1 (And.intro hf2 (And.intro hm1 hm2)))
    clear hxy hx hy hr hq hca hcb hba hbb hok1 hok2 hc1 hc2 hd1 hd2 hf1 hf2 hm1 hm2 hcr hef
    go_upto_region 6 with fail
    clear a0 b0
    refine wp_boxes 14 (fun i=>([[],[0],[],[1,2],[3],[],[5],[],[6,7],[8],[],[],[4,10],[9,11]]:List (List Nat)).getD i []) [⟨10,12,48,#[.string ⟨#[]⟩,.bool false,.slice none 0 0,.slice none 0 0],#[.string x.nm,.bool x.actor,.slice A1 x.fields.length c1,.slice B1 x.ms.length d1]⟩,⟨11,13,48,#[.string ⟨#[]⟩,.bool false,.slice none 0 0,.slice none 0 0],#[.string y.nm,.bool y.actor,.slice A2 y.fields.length c2,.slice B2 y.ms.length d2]⟩] (fun i=>([.pointer (some ⟨g1,0,none⟩),.slice (some ⟨ba,oa,none⟩) cs.length c,.int .i64 (j:Int),.pointer (some ⟨ba,oa+j*4,none⟩),.agg #[.string x.nm,.bool x.actor,.slice A1 x.fields.length c1,.slice B1 x.ms.length d1],.pointer (some ⟨(g1+1),0,none⟩),.slice (some ⟨bc,ob,none⟩) ds.length d,.int .i64 (j:Int),.pointer (some ⟨bc,ob+j*4,none⟩),.agg #[.string y.nm,.bool y.actor,.slice A2 y.fields.length c2,.slice B2 y.ms.length d2],undef,undef,undef,undef]:List Value).getD i undef) rfl (by kernel_rfl) (by rfl) (by kernel_rfl) ?_ ?_ ?_ ?_
    ·intro i hi o ho hn vs w1 hb1 hvs
     rcases (show i=0 ∨ i=1 ∨ i=2 ∨ i=3 ∨ i=4 ∨ i=5 ∨ i=6 ∨ i=7 ∨ i=8 ∨ i=9 ∨ i=10 ∨ i=11 ∨ i=12 ∨ i=13 by omega) with rfl | rfl | rfl | rfl | rfl | rfl | rfl | rfl | rfl | rfl | rfl | rfl | rfl | rfl <;> cases ho
     ·clear hn
      change Sem.run _ (execOp (Act.eval (frm _ _ _ [])) _) _=_
      simp only[frm]
      clear hvs hb1
      go_simp
     ·have h0:vs 0=.pointer (some ⟨g1,0,none⟩):=hvs 0 (by decide) (not_bx rfl)
      clear hn
      change Sem.run _ (execOp (Act.eval (Act.put (frm _ _ _ []) (some 23) (vs 0))) _) _=_
      simp only[frm,h0]
      obtain⟨c0,c1⟩:=HCR.out w1 hb1
      clear hvs hb1
      go_simp
     ·clear hn
      change Sem.run _ (execOp (Act.eval (frm _ _ _ [])) _) _=_
      simp only[frm]
      clear hvs hb1
      go_simp
     ·have h1:vs 1=.slice (some ⟨ba,oa,none⟩) cs.length c:=hvs 1 (by decide) (not_bx rfl)
      have h2:vs 2=.int .i64 (j:Int):=hvs 2 (by decide) (not_bx rfl)
      clear hn
      change Sem.run _ (execOp (Act.eval (Act.put (Act.put (frm _ _ _ []) (some 25) (vs 2)) (some 24) (vs 1))) _) _=_
      simp only[frm,h1,h2]
      clear hvs hb1
      go_simp
     ·have h3:vs 3=.pointer (some ⟨ba,oa+j*4,none⟩):=hvs 3 (by decide) (not_bx rfl)
      clear hn
      change Sem.run _ (execOp (Act.eval (Act.put (frm _ _ _ []) (some 26) (vs 3))) _) _=_
      simp only[frm,h3]
      obtain⟨⟨e0,e1,e2,e3⟩,_⟩:=HEF.out w1 hb1
      clear hvs hb1
      go_simp
     ·clear hn
      change Sem.run _ (execOp (Act.eval (frm _ _ _ [])) _) _=_
      simp only[frm]
      clear hvs hb1
      go_simp
     ·have h5:vs 5=.pointer (some ⟨(g1+1),0,none⟩):=hvs 5 (by decide) (not_bx rfl)
      clear hn
      change Sem.run _ (execOp (Act.eval (Act.put (frm _ _ _ []) (some 28) (vs 5))) _) _=_
      simp only[frm,h5]
      obtain⟨c0,c1⟩:=HCR.out w1 hb1
      clear hvs hb1
      go_simp
     ·clear hn
      change Sem.run _ (execOp (Act.eval (frm _ _ _ [])) _) _=_
      simp only[frm]
      clear hvs hb1
      go_simp
     ·have h6:vs 6=.slice (some ⟨bc,ob,none⟩) ds.length d:=hvs 6 (by decide) (not_bx rfl)
      have h7:vs 7=.int .i64 (j:Int):=hvs 7 (by decide) (not_bx rfl)
      clear hn
      change Sem.run _ (execOp (Act.eval (Act.put (Act.put (frm _ _ _ []) (some 30) (vs 7)) (some 29) (vs 6))) _) _=_
      simp only[frm,h6,h7]
      clear hvs hb1
      go_simp
     ·have h8:vs 8=.pointer (some ⟨bc,ob+j*4,none⟩):=hvs 8 (by decide) (not_bx rfl)
      clear hn
      change Sem.run _ (execOp (Act.eval (Act.put (frm _ _ _ []) (some 31) (vs 8))) _) _=_
      simp only[frm,h8]
      obtain⟨_,f0,f1,f2,f3⟩:=HEF.out w1 hb1
      clear hvs hb1
      go_simp
     ·exact absurd (bx_of rfl) hn
     ·exact absurd (bx_of rfl) hn
     ·exact absurd (bx_of rfl) hn
     ·exact absurd (bx_of rfl) hn
    ·intro b hb o ho vs w1
     simp only[List.mem_cons,List.not_mem_nil,or_false] at hb
     rcases hb with rfl | rfl <;> cases ho
     ·change Sem.run _ (execOp (Act.eval (frm _ _ _ [])) _) _=_
      simp only[frm]
      go_simp
     ·change Sem.run _ (execOp (Act.eval (frm _ _ _ [])) _) _=_
      simp only[frm]
      go_simp
    ·intro b hb o ho vs w1 g hvs ha hk
     simp only[List.mem_cons,List.not_mem_nil,or_false] at hb
     rcases hb with rfl | rfl <;> cases ho
     ·have h4:vs 4=.agg #[.string x.nm,.bool x.actor,.slice A1 x.fields.length c1,.slice B1 x.ms.length d1]:=hvs 4 (show 4∈([4,10]:List Nat) by decide) (not_bx rfl)
      replace ha:vs 10=.pointer (some ⟨g,0,none⟩):=ha
      replace hk:Bk w1 g 48 #[.string ⟨#[]⟩,.bool false,.slice none 0 0,.slice none 0 0]:=hk
      have z0:w1.cell? ⟨g,0,none⟩=some (.string ⟨#[]⟩):=hk.cell 0
      have f0:w1.frozen? ⟨g,0,none⟩=false:=hk.free 0
      have z1:w1.cell? ⟨g,1,none⟩=some (.bool false):=hk.cell 1
      have f1:w1.frozen? ⟨g,1,none⟩=false:=hk.free 1
      have z2:w1.cell? ⟨g,2,none⟩=some (.slice none 0 0):=hk.cell 2
      have f2:w1.frozen? ⟨g,2,none⟩=false:=hk.free 2
      have z3:w1.cell? ⟨g,3,none⟩=some (.slice none 0 0):=hk.cell 3
      have f3:w1.frozen? ⟨g,3,none⟩=false:=hk.free 3
      have HK:=lh hk
      change Made _ _ (Sem.run _ (execOp (Act.eval (Act.put (Act.put (frm _ _ _ []) (some 6) (vs 10)) (some 27) (vs 4))) _) _)
      simp only[frm,ha,h4]
      clear hvs ha hk h4
      go_simp
      exact made_skip ⟨by simpa using ((((HK.out.set 0 (.string x.nm)).set 1 (.bool x.actor)).set 2 (.slice A1 x.fields.length c1)).set 3 (.slice B1 x.ms.length d1)),((((Kp.refl _ _).trans (Kp.setCell (S:=fun k=>k=g) _ ⟨g,0,none⟩ (.string x.nm) rfl) (fun _ _ h=>h)).trans (Kp.setCell (S:=fun k=>k=g) _ ⟨g,1,none⟩ (.bool x.actor) rfl) (fun _ _ h=>h)).trans (Kp.setCell (S:=fun k=>k=g) _ ⟨g,2,none⟩ (.slice A1 x.fields.length c1) rfl) (fun _ _ h=>h)).trans (Kp.setCell (S:=fun k=>k=g) _ ⟨g,3,none⟩ (.slice B1 x.ms.length d1) rfl) (fun _ _ h=>h)⟩
     ·have h9:vs 9=.agg #[.string y.nm,.bool y.actor,.slice A2 y.fields.length c2,.slice B2 y.ms.length d2]:=hvs 9 (show 9∈([9,11]:List Nat) by decide) (not_bx rfl)
      replace ha:vs 11=.pointer (some ⟨g,0,none⟩):=ha
      replace hk:Bk w1 g 48 #[.string ⟨#[]⟩,.bool false,.slice none 0 0,.slice none 0 0]:=hk
      have z0:w1.cell? ⟨g,0,none⟩=some (.string ⟨#[]⟩):=hk.cell 0
      have f0:w1.frozen? ⟨g,0,none⟩=false:=hk.free 0
      have z1:w1.cell? ⟨g,1,none⟩=some (.bool false):=hk.cell 1
      have f1:w1.frozen? ⟨g,1,none⟩=false:=hk.free 1
      have z2:w1.cell? ⟨g,2,none⟩=some (.slice none 0 0):=hk.cell 2
      have f2:w1.frozen? ⟨g,2,none⟩=false:=hk.free 2
      have z3:w1.cell? ⟨g,3,none⟩=some (.slice none 0 0):=hk.cell 3
      have f3:w1.frozen? ⟨g,3,none⟩=false:=hk.free 3
      have HK:=lh hk
      change Made _ _ (Sem.run _ (execOp (Act.eval (Act.put (Act.put (frm _ _ _ []) (some 7) (vs 11)) (some 32) (vs 9))) _) _)
      simp only[frm,ha,h9]
      clear hvs ha hk h9
      go_simp
      exact made_skip ⟨by simpa using ((((HK.out.set 0 (.string y.nm)).set 1 (.bool y.actor)).set 2 (.slice A2 y.fields.length c2)).set 3 (.slice B2 y.ms.length d2)),((((Kp.refl _ _).trans (Kp.setCell (S:=fun k=>k=g) _ ⟨g,0,none⟩ (.string y.nm) rfl) (fun _ _ h=>h)).trans (Kp.setCell (S:=fun k=>k=g) _ ⟨g,1,none⟩ (.bool y.actor) rfl) (fun _ _ h=>h)).trans (Kp.setCell (S:=fun k=>k=g) _ ⟨g,2,none⟩ (.slice A2 y.fields.length c2) rfl) (fun _ _ h=>h)).trans (Kp.setCell (S:=fun k=>k=g) _ ⟨g,3,none⟩ (.slice B2 y.ms.length d2) rfl) (fun _ _ h=>h)⟩
    ·intro vs w5 hb5 hvs hbx hdi
     have h0:vs 0=.pointer (some ⟨g1,0,none⟩):=hvs 0 (by decide) (not_bx rfl)
     have h1:vs 1=.slice (some ⟨ba,oa,none⟩) cs.length c:=hvs 1 (by decide) (not_bx rfl)
     have h2:vs 2=.int .i64 (j:Int):=hvs 2 (by decide) (not_bx rfl)
     have h3:vs 3=.pointer (some ⟨ba,oa+j*4,none⟩):=hvs 3 (by decide) (not_bx rfl)
     have h4:vs 4=.agg #[.string x.nm,.bool x.actor,.slice A1 x.fields.length c1,.slice B1 x.ms.length d1]:=hvs 4 (by decide) (not_bx rfl)
     have h5:vs 5=.pointer (some ⟨(g1+1),0,none⟩):=hvs 5 (by decide) (not_bx rfl)
     have h6:vs 6=.slice (some ⟨bc,ob,none⟩) ds.length d:=hvs 6 (by decide) (not_bx rfl)
     have h7:vs 7=.int .i64 (j:Int):=hvs 7 (by decide) (not_bx rfl)
     have h8:vs 8=.pointer (some ⟨bc,ob+j*4,none⟩):=hvs 8 (by decide) (not_bx rfl)
     have h9:vs 9=.agg #[.string y.nm,.bool y.actor,.slice A2 y.fields.length c2,.slice B2 y.ms.length d2]:=hvs 9 (by decide) (not_bx rfl)
     obtain⟨gx,h10,hgx,kgx⟩:∃ g,vs 10=.pointer (some ⟨g,0,none⟩)∧wr.heap.size≤g∧Bk w5 g 48 #[.string x.nm,.bool x.actor,.slice A1 x.fields.length c1,.slice B1 x.ms.length d1]:=hbx ⟨10,12,48,#[.string ⟨#[]⟩,.bool false,.slice none 0 0,.slice none 0 0],#[.string x.nm,.bool x.actor,.slice A1 x.fields.length c1,.slice B1 x.ms.length d1]⟩ (by simp)
     obtain⟨gy,h11,hgy,kgy⟩:∃ g,vs 11=.pointer (some ⟨g,0,none⟩)∧wr.heap.size≤g∧Bk w5 g 48 #[.string y.nm,.bool y.actor,.slice A2 y.fields.length c2,.slice B2 y.ms.length d2]:=hbx ⟨11,13,48,#[.string ⟨#[]⟩,.bool false,.slice none 0 0,.slice none 0 0],#[.string y.nm,.bool y.actor,.slice A2 y.fields.length c2,.slice B2 y.ms.length d2]⟩ (by simp)
     change wpList _ _ _ [] (Act.put (Act.put (Act.put (Act.put (Act.put (Act.put (Act.put (Act.put (Act.put (Act.put (Act.put (Act.put (Act.put (Act.put (frm _ _ _ []) none (vs 13)) none (vs 12)) (some 7) (vs 11)) (some 6) (vs 10)) (some 32) (vs 9)) (some 31) (vs 8)) (some 30) (vs 7)) (some 29) (vs 6)) (some 28) (vs 5)) (some 27) (vs 4)) (some 26) (vs 3)) (some 25) (vs 2)) (some 24) (vs 1)) (some 23) (vs 0)) _
     simp only[frm,h0,h1,h2,h3,h4,h5,h6,h7,h8,h9,h10,h11]
     generalize vs 12=vq12
     generalize vs 13=vq13
     clear hbx hdi hvs h0 h1 h2 h3 h4 h5 h6 h7 h8 h9 h10 h11
     have HK:=lh (And.intro kgx kgy)
     have HB5:=lh (HBW.out.trans (hb5.mono HBW.out.size))
     have x0:w5.cell? ⟨gx,0,none⟩=some (.string x.nm):=kgx.cell 0
     have y0:w5.cell? ⟨gy,0,none⟩=some (.string y.nm):=kgy.cell 0
     have x1:w5.cell? ⟨gx,1,none⟩=some (.bool x.actor):=kgx.cell 1
     have y1:w5.cell? ⟨gy,1,none⟩=some (.bool y.actor):=kgy.cell 1
     have x2:w5.cell? ⟨gx,2,none⟩=some (.slice A1 x.fields.length c1):=kgx.cell 2
     have y2:w5.cell? ⟨gy,2,none⟩=some (.slice A2 y.fields.length c2):=kgy.cell 2
     have x3:w5.cell? ⟨gx,3,none⟩=some (.slice B1 x.ms.length d1):=kgx.cell 3
     have y3:w5.cell? ⟨gy,3,none⟩=some (.slice B2 y.ms.length d2):=kgy.cell 3
     clear hgx hgy kgx kgy hb5
     by_cases h:x.nm=y.nm
     ·have p0:(!(x.nm.toList == y.nm.toList))=false:=by rw[bts_eqB h];rfl
      have H0:=lh h
      clear h
      by_cases h:x.actor=y.actor
      ·have p1:(x.actor != y.actor)=false:=by rw[h];simp
       have H1:=lh h
       clear h
       have cF:=sameTexts_any (c:=c1) (d:=c2) (HCO.out.1.below HB5.out) (HCO.out.2.1.below HB5.out) HLC.out.2.2.1 HLC.out.2.2.2.1 HLC.out.1.lf HLC.out.2.1.lf
       by_cases h:x.fields=y.fields
       ·rw[decide_eq_true h] at cF
        have H2:=lh h
        clear h
        go_wp2_with fail
        refine cF.mono ?_
        rintro e w6 ⟨rfl,hb6⟩
        have k1:=HK.out.1.below hb6 HK.out.1.lt
        have k2:=HK.out.2.below hb6 HK.out.2.lt
        have HK6:=lh (And.intro k1 k2)
        have HB6:=lh (HB5.out.trans (hb6.mono HB5.out.size))
        have x3:w6.cell? ⟨gx,3,none⟩=some (.slice B1 x.ms.length d1):=k1.cell 3
        have y3:w6.cell? ⟨gy,3,none⟩=some (.slice B2 y.ms.length d2):=k2.cell 3
        clear cF hb6 k1 k2 x0 x1 x2 y0 y1 y2
        by_cases h:x.ms.length=y.ms.length
        ·have p3:((x.ms.length:Int) != (y.ms.length:Int))=false:=by rw[h];simp
         have H3:=lh h
         clear h
         go_wp2_with fail
         have hlm:=HLC.out.1.lm
         clear x3 y3
         go_loopw [8] (fun ix wr=>∃ i:Nat,ix=.int .i64 (i:Int)∧i≤x.ms.length∧x.ms.take i=y.ms.take i∧Below w6.heap.size w6 wr) (fun ix _=>x.ms.length - (intOf ix).toNat)
         case atStart=>exact⟨0,rfl,Nat.zero_le _,rfl,Below.refl _ _⟩
         case round =>
          obtain⟨i,rfl,hi,ht2,hbl2⟩:=hrel
          have HT2:=lh (And.intro ht2 hbl2)
          have k1:=HK6.out.1.below hbl2 HK6.out.1.lt
          have k2:=HK6.out.2.below hbl2 HK6.out.2.lt
          have x3:wr.cell? ⟨gx,3,none⟩=some (.slice B1 x.ms.length d1):=k1.cell 3
          have y3:wr.cell? ⟨gy,3,none⟩=some (.slice B2 y.ms.length d2):=k2.cell 3
          have HBR:=lh (HB6.out.trans (hbl2.mono HB6.out.size))
          clear ht2 hbl2 k1 k2
          by_cases hlt2:i < x.ms.length
          ·obtain⟨b2,o2,mx,r2,hA2,hb2,hmx,hr2,hrx2,hca2⟩:=HCO.out.2.2.1.get hlt2
           obtain⟨b4,o4,my,q2,hB2,hb4,hmy,hq2,hqy2,hcb2⟩:=HCO.out.2.2.2.get (k:=i) (by rw[← H3.out];exact hlt2)
           have HMY:Hid (mx=my→x.ms.take (i+1)=y.ms.take (i+1)):=lh fun h=>by rw[List.take_add_one,List.take_add_one,hmx,hmy,HT2.out.1,h]
           have HMN:Hid (mx≠my→decide (cs=ds)=false):=lh fun h=>HXN.out fun e=>h (by have h1:=hmx;rw[e,hmy] at h1;injection h1 with h1;exact h1.symm)
           have HR2:=lh (And.intro (hrx2.below HBR.out) (hqy2.below HBR.out))
           obtain⟨_,A3,c3,B3,d3,rfl,_,_,_,_⟩:=hrx2
           obtain⟨_,A4,c4,B4,d4,rfl,_,_,_,_⟩:=hqy2
           have e0:=cell_regrown (show wr.cell? ⟨b2,o2+i*5,none⟩=some (.string mx.nm) from ((bcell HBR.out).1 _ _ hb2).trans (hca2 0 _ rfl))
           have f0:=cell_regrown (show wr.cell? ⟨b4,o4+i*5,none⟩=some (.string my.nm) from ((bcell HBR.out).1 _ _ hb4).trans (hcb2 0 _ rfl))
           have e1:=cell_regrown (show wr.cell? ⟨b2,o2+i*5+1,none⟩=some (.int .i64 mx.p) from ((bcell HBR.out).1 _ _ hb2).trans (hca2 1 _ rfl))
           have f1:=cell_regrown (show wr.cell? ⟨b4,o4+i*5+1,none⟩=some (.int .i64 my.p) from ((bcell HBR.out).1 _ _ hb4).trans (hcb2 1 _ rfl))
           have e2:=cell_regrown (show wr.cell? ⟨b2,o2+i*5+2,none⟩=some (.int .i64 mx.l) from ((bcell HBR.out).1 _ _ hb2).trans (hca2 2 _ rfl))
           have f2:=cell_regrown (show wr.cell? ⟨b4,o4+i*5+2,none⟩=some (.int .i64 my.l) from ((bcell HBR.out).1 _ _ hb4).trans (hcb2 2 _ rfl))
           have e3:=cell_regrown (show wr.cell? ⟨b2,o2+i*5+3,none⟩=some (.slice A3 mx.code.length c3) from ((bcell HBR.out).1 _ _ hb2).trans (hca2 3 _ rfl))
           have f3:=cell_regrown (show wr.cell? ⟨b4,o4+i*5+3,none⟩=some (.slice A4 my.code.length c4) from ((bcell HBR.out).1 _ _ hb4).trans (hcb2 3 _ rfl))
           have e4:=cell_regrown (show wr.cell? ⟨b2,o2+i*5+4,none⟩=some (.slice B3 mx.names.length d3) from ((bcell HBR.out).1 _ _ hb2).trans (hca2 4 _ rfl))
           have f4:=cell_regrown (show wr.cell? ⟨b4,o4+i*5+4,none⟩=some (.slice B4 my.names.length d4) from ((bcell HBR.out).1 _ _ hb4).trans (hcb2 4 _ rfl))
           subst hA2 hB2
           have r3:=cell_regrown x3
           have s3:=cell_regrown y3
           have hid1:i < d1:=by have:=HLC.out.2.2.2.2.1;omega
           have hid2:i < d2:=by have:=HLC.out.2.2.2.2.2;have:=H3.out;omega
           have hiy:i < y.ms.length:=by have:=H3.out;omega
           have cO:=fun dd os=>Calls.regrown_of (w:=wr) (SameMth_any (HR2.out.1.below (below_regrown wr dd os)) (HR2.out.2.below (below_regrown wr dd os)))
           clear hmx hmy hr2 hq2 hca2 hcb2 hb2 hb4
           by_cases he:mx=my
           ·rw[decide_eq_true he] at cO
            have HQ:=lh (HMY.out he)
            clear he
            go_upto_region 12 with fail
            refine wp_region_quiet_below (by kernel_rfl) (by kernel_rfl) ?_
            repeat (quiet_step (first | exact cO _ _))
            refine wpQuiet_nil ?_
            intro w3 hw'
            have hb3:Below wr.heap.size wr w3:=by obtain⟨pp,rfl⟩:=hw';exact below_regrown _ _ _
            have HB3:=lh (HT2.out.2.trans (hb3.mono HT2.out.2.size))
            clear hw' hb3 cO r3 s3 e0 e1 e2 e3 e4 f0 f1 f2 f3 f4 x3 y3
            go_wp2_with fail
            go_roundw
            case rel=>exact⟨i+1,by go_num,hlt2,HQ.out,HB3.out⟩
            case measure=>simp[intOf];omega
           ·rw[decide_eq_false he] at cO
            have HE:=lh (HMN.out he)
            clear he
            go_upto_region 12 with fail
            refine wp_region_quiet_below (by kernel_rfl) (by kernel_rfl) ?_
            repeat (quiet_step (first | exact cO _ _))
            refine wpQuiet_nil ?_
            intro w3 hw'
            have hb3:Below wr.heap.size wr w3:=by obtain⟨pp,rfl⟩:=hw';exact below_regrown _ _ _
            have HB3:=lh (HBR.out.trans (hb3.mono HBR.out.size))
            clear hw' hb3 cO r3 s3 e0 e1 e2 e3 e4 f0 f1 f2 f3 f4 x3 y3
            go_wp2_with fail
            go_ret
            rw[HE.out]
            exact⟨rfl,HB0.out.trans (HB3.out.mono HB0.out.size)⟩
          ·obtain rfl:i=x.ms.length:=by omega
           have hms:x.ms=y.ms:=by have:=HT2.out.1;rw[List.take_length,H3.out,List.take_length] at this;exact this
           have HQ:=lh (HXY.out (by cases x;cases y;simp only at H0 H1 H2 hms;simp[H0.out,H1.out,H2.out,hms]))
           clear hlt2 hi hms
           go_wp2_with fail
           go_roundw
           case rel=>exact⟨j+1,by go_num,hlt,HQ.out,HBR.out⟩
           case measure=>simp[intOf];omega
        ·have p3:((x.ms.length:Int) != (y.ms.length:Int))=true:=by simpa using (show ¬ (x.ms.length:Int)=y.ms.length by omega)
         have HE:=lh (HXN.out fun e=>h (by rw[e]))
         clear h
         go_wp2_with fail
         go_ret
         rw[HE.out]
         exact⟨rfl,HB0.out.trans (HB6.out.mono HB0.out.size)⟩
       ·rw[decide_eq_false h] at cF
        have HE:=lh (HXN.out fun e=>h (by rw[e]))
        clear h
        go_wp2_with fail
        refine cF.mono ?_
        rintro e w6 ⟨rfl,hb6⟩
        have HB6:=lh (HB5.out.trans (hb6.mono HB5.out.size))
        clear cF hb6
        go_wp2_with fail
        go_ret
        rw[HE.out]
        exact⟨rfl,HB0.out.trans (HB6.out.mono HB0.out.size)⟩
      ·have hxa:(x.actor=true∧y.actor=false) ∨ (x.actor=false∧y.actor=true):=by cases hx:x.actor <;> cases hy:y.actor <;> simp_all
       have HE:=lh (HXN.out fun e=>h (by rw[e]))
       clear h
       rcases hxa with ⟨u,v⟩ | ⟨u,v⟩
       ·rw[u] at x1
        rw[v] at y1
        clear u v
        go_wp2_with fail
        go_ret
        rw[HE.out]
        exact⟨rfl,HB0.out.trans (HB5.out.mono HB0.out.size)⟩
       ·rw[u] at x1
        rw[v] at y1
        clear u v
        go_wp2_with fail
        go_ret
        rw[HE.out]
        exact⟨rfl,HB0.out.trans (HB5.out.mono HB0.out.size)⟩
     ·have p0:(!(x.nm.toList == y.nm.toList))=true:=by rw[bts_neB h];rfl
      have HE:=lh (HXN.out fun e=>h (by rw[e]))
      clear h
      go_wp2_with fail
      go_ret
      rw[HE.out]
      exact⟨rfl,HB0.out.trans (HB5.out.mono HB0.out.size)⟩
   ·obtain rfl:j=cs.length:=by omega
    have he:cs=ds:=by have:=HT.out.1;rw[List.take_length,HL.out,List.take_length] at this;exact this
    have HE:Hid (decide (cs=ds)=true):=lh (decide_eq_true he)
    clear hlt hj he
    go_wp2_with fail
    go_ret
    rw[HE.out]
    exact⟨rfl,HB0.out.trans (HT.out.2.mono HB0.out.size)⟩
 ·have q0:((cs.length:Int) != (ds.length:Int))=true:=by simpa using (show ¬ (cs.length:Int)=ds.length by omega)
  have HE:Hid (decide (cs=ds)=false):=lh (decide_eq_false fun e=>hl (by rw[e]))
  clear hl
  go_wp2_with fail
  go_ret
  rw[HE.out]
  exact⟨rfl,HB0.out⟩
end
end
end Go.Proofs.YtmbnlccafcfbeaaDoor
