/- Parts of the proof: Eql, Ref02e, PreE, Dec4, RSame2. -/
import Derived.Lib.SliceRun
import Derived.Test.YtmbnlccafcfbeaaDoorPqA
import Derived.Test.YtmbnlccafcfbeaaDoorPq4
import Derived.Test.YtmbnlccafcfbeaaDoorPq7
import Derived.Test.YtmbnlccafcfbeaaDoorPqShelf
set_option linter.unusedVariables false
set_option linter.unusedSimpArgs false
set_option linter.unusedSectionVars false
set_option maxRecDepth 100000
namespace Go.Proofs.YtmbnlccafcfbeaaDoor
section
open Go.RowKit
attribute [local go_sem] Oper.semAt_some
instance mthDec:DecidableEq Mth:=fun a b=>decidable_of_iff (a.nm=b.nm∧a.p=b.p∧a.l=b.l∧a.code=b.code∧a.names=b.names) (by cases a;cases b;simp)
instance clsDec:DecidableEq Cls:=fun a b=>decidable_of_iff (a.nm=b.nm∧a.actor=b.actor∧a.fields=b.fields∧a.ms=b.ms) (by cases a;cases b;simp)
def YesP (w:World) (b:Bool) (e:Ending) (w':World):Prop:=e=.returned (.bool b)∧Below w.heap.size w w'
theorem bts_eqB {a b:ByteArray} (h:a=b):(a.toList == b.toList)=true:=by rw[h];simp
theorem bts_neB {a b:ByteArray} (h:a≠b):(a.toList == b.toList)=false:=by
 simp only[beq_eq_false_iff_ne,ne_eq]
 intro e
 rw[Go.ByteArray.toList_eq,Go.ByteArray.toList_eq] at e
 exact h (Go.WideShapes.bytes_inj e)
section
variable {w:World} {A B:Option Addr} {c d:Nat} {a b:List ByteArray}
theorem txt_at {w:World} {bb oo n:Nat} {a:List ByteArray} (h:∀ j x,(txtCells a)[j]?=some x→w.cell? ⟨bb,oo+j,none⟩=some x):∀ j,j < a.length→w.cell? ⟨bb,oo+j,none⟩=some (.string (a.getD j ByteArray.empty)):=fun j hj =>
 h j _ (by unfold txtCells;rw[List.getElem?_map,List.getD_eq_getElem?_getD,List.getElem?_eq_getElem hj];rfl)
theorem EqStr_any (ha:Sl w 1 A a.length (txtCells a)) (hb:Sl w 1 B b.length (txtCells b)) (hl:a.length≤140737488351232) (hm:b.length≤140737488351232):Calls Tryd.prog 20 #[.slice A a.length c,.slice B b.length d] w (YesP w (decide (a=b))):=by
 by_cases hn:a.length=b.length
 ·by_cases h0:a.length=0
  ·have e1:a=[]:=List.length_eq_zero_iff.1 h0
   have e2:b=[]:=List.length_eq_zero_iff.1 (by omega)
   subst e1 e2
   refine(Tryd.slices_Equal_string_empty A B c 0 d w (by omega)).mono ?_
   rintro e w' ⟨rfl,rfl⟩
   exact⟨by simp,Below.refl _ _⟩
  ·obtain⟨b1,o1,rfl,_,h1⟩:=ha.2.resolve_left h0
   obtain⟨b2,o2,rfl,_,h2⟩:=hb.2.resolve_left (by omega)
   refine(Tryd.slices_Equal_string b1 o1 a.length c b2 o2 b.length d a b w (Nat.le_refl _) (Nat.le_refl _) (by omega) (by omega) (txt_at (n:=0) h1) (txt_at (n:=0) h2)).mono ?_
   rintro e w' ⟨rfl,q,rfl⟩
   rw[List.take_length,List.take_length]
   exact⟨rfl,below_drewN (Below.refl _ _) q⟩
 ·refine(Tryd.slices_Equal_string_lens A B a.length c b.length d w hn).mono ?_
  rintro e w' ⟨rfl,rfl⟩
  exact⟨by rw[decide_eq_false fun e=>hn (by rw[e])],Below.refl _ _⟩
end
section
variable {w:World} {m n:Mth} {rm rn:List Value}
set_option maxHeartbeats 4000000 in
theorem EqMth_any (hm:MthR w m rm) (hn:MthR w n rn):Calls Tryd.prog 22 #[.agg rm.toArray,.agg rn.toArray] w (YesP w (decide (m=n))):=by
 obtain⟨hok,A,c,B,d,rfl,hc,hcode,hd,hs⟩:=hm
 obtain⟨hok2,A2,c2,B2,d2,rfl,hc2,hcode2,hd2,hs2⟩:=hn
 obtain⟨W,hW⟩:∃ W,W=(w.alloc (.cells #[.string m.nm,.int .i64 m.p,.int .i64 m.l,.slice A m.code.length c,.slice B m.names.length d] 43)).alloc (.cells #[.string n.nm,.int .i64 n.p,.int .i64 n.l,.slice A2 n.code.length c2,.slice B2 n.names.length d2] 43):=⟨_,rfl⟩
 obtain⟨g1,hg1⟩:∃ g1,g1=w.heap.size:=⟨_,rfl⟩
 have hb0:Below w.heap.size w W:=by rw[hW];exact((Below.refl _ _).alloc (Nat.le_refl _) _).alloc (by simp) _
 have hk1:Bk W g1 43 #[.string m.nm,.int .i64 m.p,.int .i64 m.l,.slice A m.code.length c,.slice B m.names.length d]:=by rw[hW,hg1];exact(Bk.new _ _ _).alloc _
 have hk2:Bk W (g1+1) 43 #[.string n.nm,.int .i64 n.p,.int .i64 n.l,.slice A2 n.code.length c2,.slice B2 n.names.length d2]:=by rw[hW,hg1];have:=Bk.new (w.alloc (.cells #[.string m.nm,.int .i64 m.p,.int .i64 m.l,.slice A m.code.length c,.slice B m.names.length d] 43)) 43 #[.string n.nm,.int .i64 n.p,.int .i64 n.l,.slice A2 n.code.length c2,.slice B2 n.names.length d2];simpa using this
 have HB0:=lh hb0
 have HLC:=lh (And.intro hok (And.intro hok2 (And.intro hc (And.intro hc2 (And.intro hd hd2)))))
 have HCO:=lh (And.intro (hcode.below hb0) (And.intro (hcode2.below hb0) (And.intro (hs.below hb0) (hs2.below hb0))))
 have HK:=lh (And.intro hk1 hk2)
 have a0:W.cell? ⟨g1,0,none⟩=some (.string m.nm):=hk1.cell 0
 have a1:W.cell? ⟨g1,1,none⟩=some (.int .i64 m.p):=hk1.cell 1
 have a2:W.cell? ⟨g1,2,none⟩=some (.int .i64 m.l):=hk1.cell 2
 have a3:W.cell? ⟨g1,3,none⟩=some (.slice A m.code.length c):=hk1.cell 3
 have a4:W.cell? ⟨g1,4,none⟩=some (.slice B m.names.length d):=hk1.cell 4
 have b0:W.cell? ⟨g1+1,0,none⟩=some (.string n.nm):=hk2.cell 0
 have b1:W.cell? ⟨g1+1,1,none⟩=some (.int .i64 n.p):=hk2.cell 1
 have b2:W.cell? ⟨g1+1,2,none⟩=some (.int .i64 n.l):=hk2.cell 2
 have b3:W.cell? ⟨g1+1,3,none⟩=some (.slice A2 n.code.length c2):=hk2.cell 3
 have b4:W.cell? ⟨g1+1,4,none⟩=some (.slice B2 n.names.length d2):=hk2.cell 4
 clear hok hc hcode hd hs hok2 hc2 hcode2 hd2 hs2 hb0 hk1 hk2
 go_enter Tryd.func22,Tryd.ntmps22
 go_upto_region 1 with fail
 rw[← hW,← hg1]
 clear hW hg1
 by_cases h:m.nm=n.nm
 ·have q0:=bts_eqB h
  have H0:=lh h
  clear h
  by_cases h:m.p=n.p
  ·have q1:(m.p == n.p)=true:=by rw[h];simp
   have H1:=lh h
   clear h
   by_cases h:m.l=n.l
   ·have q2:(m.l == n.l)=true:=by rw[h];simp
    have H2:=lh h
    clear h
    have cI:=EqIns_any HCO.out.1 HCO.out.2.1 HLC.out.2.2.1 HLC.out.2.2.2.1 HLC.out.1.lc HLC.out.2.1.lc
    by_cases h:m.code=n.code
    ·rw[decide_eq_true h] at cI
     have H3:=lh h
     clear h
     go_wp2_with fail
     refine cI.mono ?_
     rintro e w3 ⟨rfl,hb3⟩
     have k1:=HK.out.1.below hb3 HK.out.1.lt
     have k2:=HK.out.2.below hb3 HK.out.2.lt
     have a4:w3.cell? ⟨g1,4,none⟩=some (.slice B m.names.length d):=k1.cell 4
     have b4:w3.cell? ⟨g1+1,4,none⟩=some (.slice B2 n.names.length d2):=k2.cell 4
     have cS:=EqStr_any (c:=d) (d:=d2) (HCO.out.2.2.1.below hb3) (HCO.out.2.2.2.below hb3) HLC.out.1.ln HLC.out.2.1.ln
     have HB3:=lh (HB0.out.trans (hb3.mono HB0.out.size))
     clear cI hb3 k1 k2
     obtain⟨y,hy⟩:∃ y,y=decide (m.names=n.names):=⟨_,rfl⟩
     rw[← hy] at cS
     have HE:Hid (decide (m=n)=y):=lh (by rw[hy];cases m;cases n;simp only at H0 H1 H2 H3;rw[decide_eq_decide];simp[H0.out,H1.out,H2.out,H3.out])
     clear hy
     go_wp2_with fail
     refine cS.mono ?_
     rintro e w4 ⟨rfl,hb4⟩
     have HB4:=lh (HB3.out.trans (hb4.mono HB3.out.size))
     clear cS hb4 a4 b4
     cases y with
     | true =>
      go_wp2_with fail
      go_ret
      rw[HE.out];exact⟨rfl,HB4.out⟩
     | false =>
      go_wp2_with fail
      go_ret
      rw[HE.out];exact⟨rfl,HB4.out⟩
    ·rw[decide_eq_false h] at cI
     have HE:Hid (decide (m=n)=false):=lh (decide_eq_false fun e=>h (by rw[e]))
     clear h
     go_wp2_with fail
     refine cI.mono ?_
     rintro e w3 ⟨rfl,hb3⟩
     have HB3:=lh (HB0.out.trans (hb3.mono HB0.out.size))
     clear cI hb3
     go_wp2_with fail
     go_ret
     rw[HE.out]
     exact⟨rfl,HB3.out⟩
   ·have q2:(m.l == n.l)=false:=by simpa using h
    have HE:Hid (decide (m=n)=false):=lh (decide_eq_false fun e=>h (by rw[e]))
    clear h
    go_wp2_with fail
    go_ret
    rw[HE.out]
    exact⟨rfl,HB0.out⟩
  ·have q1:(m.p == n.p)=false:=by simpa using h
   have HE:Hid (decide (m=n)=false):=lh (decide_eq_false fun e=>h (by rw[e]))
   clear h
   go_wp2_with fail
   go_ret
   rw[HE.out]
   exact⟨rfl,HB0.out⟩
 ·have q0:=bts_neB h
  have HE:Hid (decide (m=n)=false):=lh (decide_eq_false fun e=>h (by rw[e]))
  clear h
  go_wp2_with fail
  go_ret
  rw[HE.out]
  exact⟨rfl,HB0.out⟩
end
section
variable {w:World} {A B:Option Addr} {c d:Nat} {a b:List Mth}
set_option maxHeartbeats 4000000 in
theorem EqMths_any (ha:SlR MthR w 5 A a.length a) (hb:SlR MthR w 5 B b.length b) (hc:a.length≤c) (hd:b.length≤d) (hl:a.length≤140737488351232) (hm:b.length≤140737488351232):Calls Tryd.prog 21 #[.slice A a.length c,.slice B b.length d,.func (.func 22) #[] #[]] w (YesP w (decide (a=b))):=by
 by_cases hn:a.length=b.length
 ·have HA:=lh (And.intro ha hb)
  have HN:=lh hn
  rw[← hn] at hd ⊢
  have HB0:Hid (Below w.heap.size w w):=lh (Below.refl _ _)
  clear ha hb hm hn
  go_enter Tryd.func21,Tryd.ntmps21
  go_wp2_with fail
  go_loopw [17] (fun ix wr=>∃ j:Nat,ix=.int .i64 (j:Int)∧j≤a.length∧a.take j=b.take j∧Below w.heap.size w wr) (fun ix _=>a.length - (intOf ix).toNat)
  case atStart=>exact⟨0,rfl,Nat.zero_le _,rfl,HB0.out⟩
  case round =>
   obtain⟨j,rfl,hj,ht,hbl⟩:=hrel
   have HT:=lh (And.intro ht hbl)
   clear ht hbl
   by_cases hlt:j < a.length
   ·obtain⟨ba,oa,x,r,hA,hba,hx,hr,hrx,hca⟩:=HA.out.1.get hlt
    obtain⟨bc,ob,y,q,hB,hbb,hy,hq,hqy,hcb⟩:=HA.out.2.get (k:=j) (by rw[← HN.out];exact hlt)
    have hrx:=hrx.below HT.out.2
    have hqy:=hqy.below HT.out.2
    have hca':∀ j' v,r[j']?=some v→wr.cell? ⟨ba,oa+j*5+j',none⟩=some v:=fun j' v hv=>((bcell HT.out.2).1 _ _ hba).trans (hca j' v hv)
    have hcb':∀ j' v,q[j']?=some v→wr.cell? ⟨bc,ob+j*5+j',none⟩=some v:=fun j' v hv=>((bcell HT.out.2).1 _ _ hbb).trans (hcb j' v hv)
    subst hA hB
    have hjc:j < c:=by omega
    have hjd:j < d:=by omega
    have hxy:x=y↔a.take (j+1)=b.take (j+1):=by
     rw[List.take_add_one,List.take_add_one,hx,hy,HT.out.1]
     simp
    have HXY:=lh hxy
    have HXN:Hid (x≠y→decide (a=b)=false):=lh fun h=>decide_eq_false fun e=>h (by have h1:=hx;rw[e,hy] at h1;injection h1 with h1;exact h1.symm)
    have HBW:=lh HT.out.2
    have HRX:=lh hrx
    have HQY:=lh hqy
    obtain⟨_,A1,c1,B1,d1,rfl,_,_,_,_⟩:=hrx
    obtain⟨_,A2,c2,B2,d2,rfl,_,_,_,_⟩:=hqy
    have a0:wr.cell? ⟨ba,oa+j*5,none⟩=some (.string x.nm):=hca' 0 _ rfl
    have a1:wr.cell? ⟨ba,oa+j*5+1,none⟩=some (.int .i64 x.p):=hca' 1 _ rfl
    have a2:wr.cell? ⟨ba,oa+j*5+2,none⟩=some (.int .i64 x.l):=hca' 2 _ rfl
    have a3:wr.cell? ⟨ba,oa+j*5+3,none⟩=some (.slice A1 x.code.length c1):=hca' 3 _ rfl
    have a4:wr.cell? ⟨ba,oa+j*5+4,none⟩=some (.slice B1 x.names.length d1):=hca' 4 _ rfl
    have b0:wr.cell? ⟨bc,ob+j*5,none⟩=some (.string y.nm):=hcb' 0 _ rfl
    have b1:wr.cell? ⟨bc,ob+j*5+1,none⟩=some (.int .i64 y.p):=hcb' 1 _ rfl
    have b2:wr.cell? ⟨bc,ob+j*5+2,none⟩=some (.int .i64 y.l):=hcb' 2 _ rfl
    have b3:wr.cell? ⟨bc,ob+j*5+3,none⟩=some (.slice A2 y.code.length c2):=hcb' 3 _ rfl
    have b4:wr.cell? ⟨bc,ob+j*5+4,none⟩=some (.slice B2 y.names.length d2):=hcb' 4 _ rfl
    have hbl2:bc < wr.heap.size:=Nat.lt_of_lt_of_le hbb HT.out.2.size
    have hbn2:¬ bc=wr.heap.size:=by omega
    clear hca hcb hca' hcb' hxy hx hy hr hq hba hbb
    obtain⟨W,hW⟩:∃ W,W=(wr.alloc (.cells #[.string x.nm,.int .i64 x.p,.int .i64 x.l,.slice A1 x.code.length c1,.slice B1 x.names.length d1] 43)).alloc (.cells #[.string y.nm,.int .i64 y.p,.int .i64 y.l,.slice A2 y.code.length c2,.slice B2 y.names.length d2] 43):=⟨_,rfl⟩
    have hbW:Below wr.heap.size wr W:=by rw[hW];exact((Below.refl _ _).alloc (Nat.le_refl _) _).alloc (by simp) _
    have HBR:=lh (HT.out.2.trans (hbW.mono HT.out.2.size))
    have cE:=EqMth_any (HRX.out.below hbW) (HQY.out.below hbW)
    have k1:W.cell? ⟨wr.heap.size,0,none⟩=some (.string x.nm):=by rw[hW];exact((Bk.new _ _ _).alloc _).cell 0
    clear hbW k1
    rw[hW] at cE
    have HWW:=lh hW
    clear hW
    by_cases he:x=y
    ·rw[decide_eq_true he] at cE
     have HEQ:=lh (HXY.out.1 he)
     clear he
     go_wp2_with fail
     refine cE.mono ?_
     rintro e w3 ⟨rfl,hb3⟩
     rw[← HWW.out] at hb3
     have HB3:=lh (HBR.out.trans (hb3.mono HBR.out.size))
     clear cE hb3
     go_wp2_with fail
     go_roundw
     case rel=>exact⟨j+1,by go_num,hlt,HEQ.out,HB3.out⟩
     case measure=>simp[intOf];omega
    ·rw[decide_eq_false he] at cE
     have HEQ:=lh (HXN.out he)
     clear he
     go_wp2_with fail
     refine cE.mono ?_
     rintro e w3 ⟨rfl,hb3⟩
     rw[← HWW.out] at hb3
     have HB3:=lh (HBR.out.trans (hb3.mono HBR.out.size))
     clear cE hb3
     go_wp2_with fail
     go_ret
     rw[HEQ.out];exact⟨rfl,HB3.out⟩
   ·obtain rfl:j=a.length:=by omega
    have he:a=b:=by have:=HT.out.1;rw[List.take_length,HN.out,List.take_length] at this;exact this
    have HE:Hid (decide (a=b)=true):=lh (decide_eq_true he)
    clear hlt hj he
    go_wp2_with fail
    go_ret
    rw[HE.out];exact⟨rfl,HT.out.2⟩
 ·have d0:((a.length:Int) != (b.length:Int))=true:=by simpa using (show ¬ (a.length:Int)=b.length by omega)
  have HE:Hid (decide (a=b)=false):=lh (decide_eq_false fun e=>hn (by rw[e]))
  clear ha hb hn
  go_enter Tryd.func21,Tryd.ntmps21
  go_wp2_with fail
  go_ret
  rw[HE.out];exact⟨rfl,Below.refl _ _⟩
end
section
variable {w:World} {m n:Cls} {rm rn:List Value}
set_option maxHeartbeats 4000000 in
theorem EqCls_any (hm:ClsR w m rm) (hn:ClsR w n rn):Calls Tryd.prog 19 #[.agg rm.toArray,.agg rn.toArray] w (YesP w (decide (m=n))):=by
 obtain⟨hok,A,c,B,d,rfl,hc,hf,hd,hs⟩:=hm
 obtain⟨hok2,A2,c2,B2,d2,rfl,hc2,hf2,hd2,hs2⟩:=hn
 obtain⟨W,hW⟩:∃ W,W=(w.alloc (.cells #[.string m.nm,.bool m.actor,.slice A m.fields.length c,.slice B m.ms.length d] 48)).alloc (.cells #[.string n.nm,.bool n.actor,.slice A2 n.fields.length c2,.slice B2 n.ms.length d2] 48):=⟨_,rfl⟩
 obtain⟨g1,hg1⟩:∃ g1,g1=w.heap.size:=⟨_,rfl⟩
 have hb0:Below w.heap.size w W:=by rw[hW];exact((Below.refl _ _).alloc (Nat.le_refl _) _).alloc (by simp) _
 have hk1:Bk W g1 48 #[.string m.nm,.bool m.actor,.slice A m.fields.length c,.slice B m.ms.length d]:=by rw[hW,hg1];exact(Bk.new _ _ _).alloc _
 have hk2:Bk W (g1+1) 48 #[.string n.nm,.bool n.actor,.slice A2 n.fields.length c2,.slice B2 n.ms.length d2]:=by rw[hW,hg1];have:=Bk.new (w.alloc (.cells #[.string m.nm,.bool m.actor,.slice A m.fields.length c,.slice B m.ms.length d] 48)) 48 #[.string n.nm,.bool n.actor,.slice A2 n.fields.length c2,.slice B2 n.ms.length d2];simpa using this
 have HB0:=lh hb0
 have HLC:=lh (And.intro hok (And.intro hok2 (And.intro hc (And.intro hc2 (And.intro hd hd2)))))
 have HCO:=lh (And.intro (hf.below hb0) (And.intro (hf2.below hb0) (And.intro (hs.mths hb0) (hs2.mths hb0))))
 have HK:=lh (And.intro hk1 hk2)
 have a0:W.cell? ⟨g1,0,none⟩=some (.string m.nm):=hk1.cell 0
 have a1:W.cell? ⟨g1,1,none⟩=some (.bool m.actor):=hk1.cell 1
 have a2:W.cell? ⟨g1,2,none⟩=some (.slice A m.fields.length c):=hk1.cell 2
 have a3:W.cell? ⟨g1,3,none⟩=some (.slice B m.ms.length d):=hk1.cell 3
 have b0:W.cell? ⟨g1+1,0,none⟩=some (.string n.nm):=hk2.cell 0
 have b1:W.cell? ⟨g1+1,1,none⟩=some (.bool n.actor):=hk2.cell 1
 have b2:W.cell? ⟨g1+1,2,none⟩=some (.slice A2 n.fields.length c2):=hk2.cell 2
 have b3:W.cell? ⟨g1+1,3,none⟩=some (.slice B2 n.ms.length d2):=hk2.cell 3
 clear hok hc hf hd hs hok2 hc2 hf2 hd2 hs2 hb0 hk1 hk2
 go_enter Tryd.func19,Tryd.ntmps19
 go_upto_region 1 with fail
 rw[← hW,← hg1]
 clear hW hg1
 by_cases h:m.nm=n.nm
 ·have q0:=bts_eqB h
  have H0:=lh h
  clear h
  by_cases h:m.actor=n.actor
  ·have q1:(m.actor == n.actor)=true:=by rw[h];simp
   have H1:=lh h
   clear h
   have cI:=EqStr_any (c:=c) (d:=c2) HCO.out.1 HCO.out.2.1 HLC.out.1.lf HLC.out.2.1.lf
   by_cases h:m.fields=n.fields
   ·rw[decide_eq_true h] at cI
    have H3:=lh h
    clear h
    go_wp2_with fail
    refine cI.mono ?_
    rintro e w3 ⟨rfl,hb3⟩
    have k1:=HK.out.1.below hb3 HK.out.1.lt
    have k2:=HK.out.2.below hb3 HK.out.2.lt
    have a3:w3.cell? ⟨g1,3,none⟩=some (.slice B m.ms.length d):=k1.cell 3
    have b3:w3.cell? ⟨g1+1,3,none⟩=some (.slice B2 n.ms.length d2):=k2.cell 3
    have cS:=EqMths_any (c:=d) (d:=d2) (HCO.out.2.2.1.mths hb3) (HCO.out.2.2.2.mths hb3) HLC.out.2.2.2.2.1 HLC.out.2.2.2.2.2 HLC.out.1.lm HLC.out.2.1.lm
    have HB3:=lh (HB0.out.trans (hb3.mono HB0.out.size))
    clear cI hb3 k1 k2
    obtain⟨y,hy⟩:∃ y,y=decide (m.ms=n.ms):=⟨_,rfl⟩
    rw[← hy] at cS
    have HE:Hid (decide (m=n)=y):=lh (by rw[hy];cases m;cases n;simp only at H0 H1 H3;rw[decide_eq_decide];simp[H0.out,H1.out,H3.out])
    clear hy
    go_wp2_with fail
    refine cS.mono ?_
    rintro e w4 ⟨rfl,hb4⟩
    have HB4:=lh (HB3.out.trans (hb4.mono HB3.out.size))
    clear cS hb4 a3 b3
    cases y with
    | true =>
     go_wp2_with fail
     go_ret
     rw[HE.out];exact⟨rfl,HB4.out⟩
    | false =>
     go_wp2_with fail
     go_ret
     rw[HE.out];exact⟨rfl,HB4.out⟩
   ·rw[decide_eq_false h] at cI
    have HE:Hid (decide (m=n)=false):=lh (decide_eq_false fun e=>h (by rw[e]))
    clear h
    go_wp2_with fail
    refine cI.mono ?_
    rintro e w3 ⟨rfl,hb3⟩
    have HB3:=lh (HB0.out.trans (hb3.mono HB0.out.size))
    clear cI hb3
    go_wp2_with fail
    go_ret
    rw[HE.out]
    exact⟨rfl,HB3.out⟩
  ·have q1:(m.actor == n.actor)=false:=by simpa using h
   have HE:Hid (decide (m=n)=false):=lh (decide_eq_false fun e=>h (by rw[e]))
   clear h
   go_wp2_with fail
   go_ret
   rw[HE.out]
   exact⟨rfl,HB0.out⟩
 ·have q0:=bts_neB h
  have HE:Hid (decide (m=n)=false):=lh (decide_eq_false fun e=>h (by rw[e]))
  clear h
  go_wp2_with fail
  go_ret
  rw[HE.out]
  exact⟨rfl,HB0.out⟩
end
section
variable {w:World} {A B:Option Addr} {c d:Nat} {a b:List Cls}
set_option maxHeartbeats 4000000 in
theorem EqClss_any (ha:SlR ClsR w 4 A a.length a) (hb:SlR ClsR w 4 B b.length b) (hc:a.length≤c) (hd:b.length≤d) (hl:a.length≤140737488351232) (hm:b.length≤140737488351232):Calls Tryd.prog 18 #[.slice A a.length c,.slice B b.length d,.func (.func 19) #[] #[]] w (YesP w (decide (a=b))):=by
 by_cases hn:a.length=b.length
 ·have HA:=lh (And.intro ha hb)
  have HN:=lh hn
  rw[← hn] at hd ⊢
  have HB0:Hid (Below w.heap.size w w):=lh (Below.refl _ _)
  clear ha hb hm hn
  go_enter Tryd.func18,Tryd.ntmps18
  go_wp2_with fail
  go_loopw [17] (fun ix wr=>∃ j:Nat,ix=.int .i64 (j:Int)∧j≤a.length∧a.take j=b.take j∧Below w.heap.size w wr) (fun ix _=>a.length - (intOf ix).toNat)
  case atStart=>exact⟨0,rfl,Nat.zero_le _,rfl,HB0.out⟩
  case round =>
   obtain⟨j,rfl,hj,ht,hbl⟩:=hrel
   have HT:=lh (And.intro ht hbl)
   clear ht hbl
   by_cases hlt:j < a.length
   ·obtain⟨ba,oa,x,r,hA,hba,hx,hr,hrx,hca⟩:=HA.out.1.get hlt
    obtain⟨bc,ob,y,q,hB,hbb,hy,hq,hqy,hcb⟩:=HA.out.2.get (k:=j) (by rw[← HN.out];exact hlt)
    have hrx:=hrx.below HT.out.2
    have hqy:=hqy.below HT.out.2
    have hca':∀ j' v,r[j']?=some v→wr.cell? ⟨ba,oa+j*4+j',none⟩=some v:=fun j' v hv=>((bcell HT.out.2).1 _ _ hba).trans (hca j' v hv)
    have hcb':∀ j' v,q[j']?=some v→wr.cell? ⟨bc,ob+j*4+j',none⟩=some v:=fun j' v hv=>((bcell HT.out.2).1 _ _ hbb).trans (hcb j' v hv)
    subst hA hB
    have hjc:j < c:=by omega
    have hjd:j < d:=by omega
    have hxy:x=y↔a.take (j+1)=b.take (j+1):=by
     rw[List.take_add_one,List.take_add_one,hx,hy,HT.out.1]
     simp
    have HXY:=lh hxy
    have HXN:Hid (x≠y→decide (a=b)=false):=lh fun h=>decide_eq_false fun e=>h (by have h1:=hx;rw[e,hy] at h1;injection h1 with h1;exact h1.symm)
    have HBW:=lh HT.out.2
    have HRX:=lh hrx
    have HQY:=lh hqy
    obtain⟨_,A1,c1,B1,d1,rfl,_,_,_,_⟩:=hrx
    obtain⟨_,A2,c2,B2,d2,rfl,_,_,_,_⟩:=hqy
    have a0:wr.cell? ⟨ba,oa+j*4,none⟩=some (.string x.nm):=hca' 0 _ rfl
    have a1:wr.cell? ⟨ba,oa+j*4+1,none⟩=some (.bool x.actor):=hca' 1 _ rfl
    have a2:wr.cell? ⟨ba,oa+j*4+2,none⟩=some (.slice A1 x.fields.length c1):=hca' 2 _ rfl
    have a3:wr.cell? ⟨ba,oa+j*4+3,none⟩=some (.slice B1 x.ms.length d1):=hca' 3 _ rfl
    have b0:wr.cell? ⟨bc,ob+j*4,none⟩=some (.string y.nm):=hcb' 0 _ rfl
    have b1:wr.cell? ⟨bc,ob+j*4+1,none⟩=some (.bool y.actor):=hcb' 1 _ rfl
    have b2:wr.cell? ⟨bc,ob+j*4+2,none⟩=some (.slice A2 y.fields.length c2):=hcb' 2 _ rfl
    have b3:wr.cell? ⟨bc,ob+j*4+3,none⟩=some (.slice B2 y.ms.length d2):=hcb' 3 _ rfl
    have hbl2:bc < wr.heap.size:=Nat.lt_of_lt_of_le hbb HT.out.2.size
    have hbn2:¬ bc=wr.heap.size:=by omega
    clear hca hcb hca' hcb' hxy hx hy hr hq hba hbb
    obtain⟨W,hW⟩:∃ W,W=(wr.alloc (.cells #[.string x.nm,.bool x.actor,.slice A1 x.fields.length c1,.slice B1 x.ms.length d1] 48)).alloc (.cells #[.string y.nm,.bool y.actor,.slice A2 y.fields.length c2,.slice B2 y.ms.length d2] 48):=⟨_,rfl⟩
    have hbW:Below wr.heap.size wr W:=by rw[hW];exact((Below.refl _ _).alloc (Nat.le_refl _) _).alloc (by simp) _
    have HBR:=lh (HT.out.2.trans (hbW.mono HT.out.2.size))
    have cE:=EqCls_any (HRX.out.below hbW) (HQY.out.below hbW)
    have k1:W.cell? ⟨wr.heap.size,0,none⟩=some (.string x.nm):=by rw[hW];exact((Bk.new _ _ _).alloc _).cell 0
    clear hbW k1
    rw[hW] at cE
    have HWW:=lh hW
    clear hW
    by_cases he:x=y
    ·rw[decide_eq_true he] at cE
     have HEQ:=lh (HXY.out.1 he)
     clear he
     go_wp2_with fail
     refine cE.mono ?_
     rintro e w3 ⟨rfl,hb3⟩
     rw[← HWW.out] at hb3
     have HB3:=lh (HBR.out.trans (hb3.mono HBR.out.size))
     clear cE hb3
     go_wp2_with fail
     go_roundw
     case rel=>exact⟨j+1,by go_num,hlt,HEQ.out,HB3.out⟩
     case measure=>simp[intOf];omega
    ·rw[decide_eq_false he] at cE
     have HEQ:=lh (HXN.out he)
     clear he
     go_wp2_with fail
     refine cE.mono ?_
     rintro e w3 ⟨rfl,hb3⟩
     rw[← HWW.out] at hb3
     have HB3:=lh (HBR.out.trans (hb3.mono HBR.out.size))
     clear cE hb3
     go_wp2_with fail
     go_ret
     rw[HEQ.out];exact⟨rfl,HB3.out⟩
   ·obtain rfl:j=a.length:=by omega
    have he:a=b:=by have:=HT.out.1;rw[List.take_length,HN.out,List.take_length] at this;exact this
    have HE:Hid (decide (a=b)=true):=lh (decide_eq_true he)
    clear hlt hj he
    go_wp2_with fail
    go_ret
    rw[HE.out];exact⟨rfl,HT.out.2⟩
 ·have d0:((a.length:Int) != (b.length:Int))=true:=by simpa using (show ¬ (a.length:Int)=b.length by omega)
  have HE:Hid (decide (a=b)=false):=lh (decide_eq_false fun e=>hn (by rw[e]))
  clear ha hb hn
  go_enter Tryd.func18,Tryd.ntmps18
  go_wp2_with fail
  go_ret
  rw[HE.out];exact⟨rfl,Below.refl _ _⟩
end
section
variable {w:World} {cs ds:List Cls} {A B:Option Addr} {n m c d:Nat}
set_option maxHeartbeats 2000000 in
theorem Equal_any (hC:CodeR w cs A n c) (hD:CodeR w ds B m d):Calls Tryd.prog 8 #[.agg #[.slice A n c],.agg #[.slice B m d]] w (YesP w (decide (cs=ds))):=by
 obtain⟨rfl,hc,hn,hs⟩:=hC
 obtain⟨rfl,hd,hm,hs2⟩:=hD
 obtain⟨W,hW⟩:∃ W,W=(w.alloc (.cells #[.slice A cs.length c] 24)).alloc (.cells #[.slice B ds.length d] 24):=⟨_,rfl⟩
 have hb0:Below w.heap.size w W:=by rw[hW];exact((Below.refl _ _).alloc (Nat.le_refl _) _).alloc (by simp) _
 have cE:=EqClss_any (hs.clss hb0) (hs2.clss hb0) hc hd hn hm
 have HB0:=lh hb0
 rw[hW] at cE
 have HW:=lh hW
 clear hs hs2 hc hd hn hm hb0 hW
 go_enter Tryd.func8,Tryd.ntmps8
 go_wp2_with fail
 refine cE.mono ?_
 rintro e w3 ⟨rfl,hb3⟩
 rw[← HW.out] at hb3
 have HB3:=lh (HB0.out.trans (hb3.mono HB0.out.size))
 clear cE hb3
 go_wp2_with fail
 go_ret
 exact⟨rfl,HB3.out⟩
end
end
section
open Go.RowKit
attribute [local go_sem] Oper.semAt_some
theorem txt_inj {a b:List Int} (ha:B8 a) (hb:B8 b) (h:txt a=txt b):a=b:=by rw[← bts_txt ha,← bts_txt hb,h]
theorem own_spot {w:World} {base n size c:Nat} {e:TypeId} {A:Option Addr} {xs:List Value} (h:w.ownsRow base e size (.slice A n c) n xs):∀ x,A=some x→x.spot=none:=fun x hx=>by
 subst hx
 obtain⟨_,⟨h1,_⟩ | ⟨g,cap,cur,h1,_⟩⟩:=h
 ·cases h1
 ·injection h1 with h1
  injection h1 with h1
  rw[h1]
section
variable {w:World} {A B:Option Addr} {c d:Nat} {a b:List Int}
set_option maxHeartbeats 1000000 in
theorem RSame_any (ha:Sl w 1 A a.length (byts a)) (hA:∀ x,A=some x→x.spot=none) (hb:Sl w 1 B b.length (byts b)) (hB:∀ x,B=some x→x.spot=none) (h8a:B8 a) (h8b:B8 b):Calls Tryd.prog 10 #[.slice A a.length c,.slice B b.length d] w fun e w'=>e=.returned (.bool (decide (a=b)))∧w=w':=by
 have c1:(convert 29 9 (.slice A a.length c)).run Tryd.prog w=.ok (.string (txt a)) w:=by
  have:=conv_txt (c:=c) ha hA (Nat.le_refl _)
  rw[List.take_length] at this
  exact this
 have c2:(convert 29 9 (.slice B b.length d)).run Tryd.prog w=.ok (.string (txt b)) w:=by
  have:=conv_txt (c:=d) hb hB (Nat.le_refl _)
  rw[List.take_length] at this
  exact this
 obtain⟨x,hx⟩:∃ x,x=decide (a=b):=⟨_,rfl⟩
 have hxx:((txt a).toList == (txt b).toList)=x:=by
  rw[hx]
  by_cases h:a=b
  ·subst h
   simp
  ·rw[decide_eq_false h]
   simp only[beq_eq_false_iff_ne,ne_eq]
   intro e
   rw[Go.ByteArray.toList_eq,Go.ByteArray.toList_eq] at e
   refine h (txt_inj h8a h8b ?_)
   unfold txt at e ⊢
   simp only[List.toList_toArray] at e
   rw[e]
 rw[← hx]
 generalize txt a=sa at c1 hxx
 generalize txt b=sb at c2 hxx
 clear ha hA hb hB h8a h8b hx
 go_enter Tryd.func10,Tryd.ntmps10
 go_wp2_with fail
 go_ret
 exact⟨rfl,rfl⟩
end
end
section
open Go.RowKit
def Pre {α:Type} (enc:α→List Int) (P:α→Prop):Prop:=∀ x y s t,P x→P y→enc x++s=enc y++t→x=y∧s=t
theorem Cod.pre {α:Type} {enc:α→List Int} {dec:Rd→α × Rd} {P:α→Prop} (h:Cod enc dec P):Pre enc P:=fun x y s t hx hy e=>by
 have h1:=h.fw x s hx
 rw[e,h.fw y t hy] at h1
 injection h1 with h1 h2
 injection h2 with h2 h3
 exact⟨h1.symm,h2.symm⟩
theorem preU:Pre encU P64:=codU.pre
theorem preI:Pre encI I64:=codI.pre
theorem preB:Pre encB fun _=>True:=codB.pre
theorem preS:Pre encS fun s=>s.size < 18446744073709551616:=fun x y s t hx hy e=>(codS 18446744073709551615 (by decide)).pre x y s t (by omega) (by omega) e
theorem preL {α:Type} {enc:α→List Int} {P:α→Prop} (h:Pre enc P):Pre (encL enc) fun l=>l.length < 18446744073709551616∧∀ x∈l,P x:=fun x y s t hx hy e=>by
 unfold encL at e
 rw[List.append_assoc,List.append_assoc] at e
 obtain⟨e0,e2⟩:=preU _ _ _ _ ⟨by omega,by omega⟩ ⟨by omega,by omega⟩ e
 have e1:x.length=y.length:=by omega
 clear e e0
 replace hx:=hx.2
 replace hy:=hy.2
 induction x generalizing y with
 | nil =>
  have:y=[]:=List.length_eq_zero_iff.1 e1.symm
  subst this
  exact⟨rfl,e2⟩
 | cons a x ih =>
  cases y with
  | nil=>cases e1
  | cons b y =>
   rw[List.flatMap_cons,List.flatMap_cons,List.append_assoc,List.append_assoc] at e2
   obtain⟨h1,h2⟩:=h a b _ _ (hx a (by simp)) (hy b (by simp)) e2
   obtain⟨h3,h4⟩:=ih y h2 (by simpa using e1) (fun z hz=>hx z (by simp[hz])) (fun z hz=>hy z (by simp[hz]))
   exact⟨by rw[h1,h3],h4⟩
def insOk (x:Ins):Prop:=I64 x.1∧I64 x.2.1∧I64 x.2.2
theorem preIns:Pre encIns insOk:=codIns.pre
def mthOk (m:Mth):Prop:=m.nm.size < 18446744073709551616∧I64 m.p∧I64 m.l∧(m.code.length < 18446744073709551616∧∀ x∈m.code,insOk x)∧(m.names.length < 18446744073709551616∧∀ s∈m.names,s.size < 18446744073709551616)
theorem preMth:Pre encMth mthOk:=fun x y s t hx hy e=>by
 unfold encMth at e
 simp only[List.append_assoc] at e
 obtain⟨h1,e⟩:=preS _ _ _ _ hx.1 hy.1 e
 obtain⟨h2,e⟩:=preI _ _ _ _ hx.2.1 hy.2.1 e
 obtain⟨h3,e⟩:=preI _ _ _ _ hx.2.2.1 hy.2.2.1 e
 obtain⟨h4,e⟩:=preL preIns _ _ _ _ hx.2.2.2.1 hy.2.2.2.1 e
 obtain⟨h5,e⟩:=preL preS _ _ _ _ hx.2.2.2.2 hy.2.2.2.2 e
 refine⟨?_,e⟩
 cases x;cases y
 simp only at h1 h2 h3 h4 h5
 rw[h1,h2,h3,h4,h5]
def clsOk (k:Cls):Prop:=k.nm.size < 18446744073709551616∧(k.fields.length < 18446744073709551616∧∀ s∈k.fields,s.size < 18446744073709551616)∧(k.ms.length < 18446744073709551616∧∀ m∈k.ms,mthOk m)
theorem preCls:Pre encCls clsOk:=fun x y s t hx hy e=>by
 unfold encCls at e
 simp only[List.append_assoc] at e
 obtain⟨h1,e⟩:=preS _ _ _ _ hx.1 hy.1 e
 obtain⟨h2,e⟩:=preB _ _ _ _ trivial trivial e
 obtain⟨h3,e⟩:=preL preS _ _ _ _ hx.2.1 hy.2.1 e
 obtain⟨h4,e⟩:=preL preMth _ _ _ _ hx.2.2 hy.2.2 e
 refine⟨?_,e⟩
 cases x;cases y
 simp only at h1 h2 h3 h4
 rw[h1,h2,h3,h4]
def codeOk (cs:List Cls):Prop:=cs.length < 18446744073709551616∧∀ k∈cs,clsOk k
theorem enc_inj {cs ds:List Cls} (hc:codeOk cs) (hd:codeOk ds):encCode cs=encCode ds↔cs=ds :=
 ⟨fun e=>(preL preCls cs ds [] [] hc hd (by rw[List.append_nil,List.append_nil];exact e)).1,fun e=>by rw[e]⟩
/-- what a program in memory is -/
def okP (cs:List Cls):Prop:=cs.length≤140737488351232∧∀ k∈cs,k.ok∧∀ m∈k.ms,m.ok
theorem CodeR.okP {w:World} {cs:List Cls} {A:Option Addr} {n c:Nat} (h:CodeR w cs A n c):okP cs:=by
 obtain⟨rfl,_,hn,hs⟩:=h
 refine⟨hn,hs.all fun k r hk=>⟨hk.1,?_⟩⟩
 obtain⟨_,F,c,M,d,_,_,_,_,hm⟩:=hk
 exact hm.all fun m r hm=>hm.1
theorem ins_ok {c:List Ins} (h:insWf c):∀ x∈c,insOk x:=fun x hx=>⟨i64_wf (h x hx).1,i64_wf (h x hx).2.1,i64_wf (h x hx).2.2⟩
theorem Mth.ok.mthOk {m:Mth} (h:m.ok):mthOk m:=⟨by have:=h.nm;omega,i64_wf h.p,i64_wf h.l,⟨by have:=h.lc;omega,ins_ok h.code⟩,⟨by have:=h.ln;omega,fun s hs=>by have:=h.names s hs;omega⟩⟩
theorem okP.codeOk {cs:List Cls} (h:okP cs):codeOk cs:=⟨by have:=h.1;omega,fun k hk=>⟨by have:=(h.2 k hk).1.nm;omega,⟨by have:=(h.2 k hk).1.lf;omega,fun s hs=>by have:=(h.2 k hk).1.fields s hs;omega⟩,⟨by have:=(h.2 k hk).1.lm;omega,fun m hm=>((h.2 k hk).2 m hm).mthOk⟩⟩⟩
theorem encL_bound {α:Type} {enc:α→List Int} {B N:Nat} {l:List α} (h:∀ x∈l,(enc x).length≤B) (hl:l.length≤N) (hN:N < 18446744073709551616):(encL enc l).length≤9+N*B:=by
 have h1:(l.flatMap enc).length≤l.length*B:=by
  clear hl
  induction l with
  | nil=>exact Nat.zero_le _
  | cons x l ih =>
   have:=h x (by simp)
   have:=ih fun y hy=>h y (by simp[hy])
   rw[List.flatMap_cons,List.length_append,List.length_cons,Nat.add_mul,Nat.one_mul]
   omega
 have h2:=encU_len (n:=(l.length:Int)) (by omega)
 have h3:l.length*B≤N*B:=Nat.mul_le_mul_right B hl
 unfold encL
 rw[List.length_append]
 omega
theorem encI_len {n:Int} (h:I64 n):(encI n).length≤9:=encU_len (zz_rg h).2
theorem encS_bound {s:ByteArray} (h:s.size < 200):(encS s).length≤209:=by
 have:=encU_len (n:=(s.size:Int)) (by omega)
 unfold encS
 rw[List.length_append,bts_len]
 omega
theorem encIns_bound {x:Ins} (h:insOk x):(encIns x).length≤27:=by
 have:=encI_len h.1
 have:=encI_len h.2.1
 have:=encI_len h.2.2
 unfold encIns
 simp only[List.length_append]
 omega
theorem encMth_bound {m:Mth} (h:mthOk m) (hf:m.few 80):(encMth m).length≤20000:=by
 have h1:=encS_bound hf.nm
 have h2:=encI_len h.2.1
 have h3:=encI_len h.2.2.1
 have h4:=encL_bound (enc:=encIns) (B:=27) (fun x hx=>encIns_bound (h.2.2.2.1.2 x hx)) hf.code (by decide)
 have h5:=encL_bound (enc:=encS) (B:=209) (fun x hx=>encS_bound (hf.each x hx)) hf.names (by decide)
 unfold encMth
 simp only[List.length_append]
 omega
theorem encCls_bound {k:Cls} (h:clsOk k) (hf:k.few 80):(encCls k).length≤1700000:=by
 have h1:=encS_bound hf.nm
 have h2:(encB k.actor).length=1:=by cases k.actor <;> rfl
 have h3:=encL_bound (enc:=encS) (B:=209) (fun x hx=>encS_bound (hf.each x hx)) hf.fields (by decide)
 have h4:=encL_bound (enc:=encMth) (B:=20000) (fun x hx=>encMth_bound (h.2.2.2 x hx) (hf.mths x hx)) hf.ms (by decide)
 unfold encCls
 simp only[List.length_append]
 omega
theorem encCode_bound {cs:List Cls} (h:codeOk cs) (hf:fewP cs 80):(encCode cs).length≤2147483648:=by
 have:=encL_bound (enc:=encCls) (B:=1700000) (fun x hx=>encCls_bound (h.2 x hx) (hf.2 x hx)) hf.1 (by decide)
 unfold encCode
 omega
theorem encL_b8 {α:Type} {enc:α→List Int} {l:List α} (h:∀ x∈l,B8 (enc x)) (hl:l.length < 18446744073709551616):B8 (encL enc l):=by
 refine(encU_b8 (by omega)).app ?_
 clear hl
 induction l with
 | nil=>exact B8.nil
 | cons x l ih=>rw[List.flatMap_cons];exact(h x (by simp)).app (ih fun y hy=>h y (by simp[hy]))
theorem encI_b8 {n:Int} (h:I64 n):B8 (encI n):=encU_b8 (zz_rg h).2
theorem encS_b8 {s:ByteArray} (h:s.size < 18446744073709551616):B8 (encS s):=(encU_b8 (by omega)).app (bts_b8 s)
theorem encB_b8 (x:Bool):B8 (encB x):=by cases x <;> exact B8.one (by decide) (by decide)
theorem encMth_b8 {m:Mth} (h:mthOk m):B8 (encMth m) :=
 ((((encS_b8 h.1).app (encI_b8 h.2.1)).app (encI_b8 h.2.2.1)).app (encL_b8 (fun x hx=>((encI_b8 (h.2.2.2.1.2 x hx).1).app (encI_b8 (h.2.2.2.1.2 x hx).2.1)).app (encI_b8 (h.2.2.2.1.2 x hx).2.2)) h.2.2.2.1.1)).app (encL_b8 (fun x hx=>encS_b8 (h.2.2.2.2.2 x hx)) h.2.2.2.2.1)
theorem encCls_b8 {k:Cls} (h:clsOk k):B8 (encCls k) :=
 (((encS_b8 h.1).app (encB_b8 _)).app (encL_b8 (fun x hx=>encS_b8 (h.2.1.2 x hx)) h.2.1.1)).app (encL_b8 (fun x hx=>encMth_b8 (h.2.2.2 x hx)) h.2.2.1)
theorem encCode_b8 {cs:List Cls} (h:codeOk cs):B8 (encCode cs):=encL_b8 (fun x hx=>encCls_b8 (h.2 x hx)) h.1
def withinP (cs:List Cls):Prop:=cs.length≤60∧∀ k∈cs,k.fields.length≤30∧k.ms.length≤30
theorem few_mthP {m:Mth} (h:m.ok) (hf:m.few 80):mthP m :=
 ⟨by have:=hf.nm;omega,i64_wf h.p,i64_wf h.l,⟨by have:=hf.code;omega,ins_ok h.code⟩,⟨by have:=hf.names;omega,fun s hs=>by have:=hf.each s hs;omega⟩⟩
theorem withinP.code {cs:List Cls} (h:withinP cs) (ho:okP cs) (hf:fewP cs 80):codeP cs :=
 ⟨by have:=h.1;omega,fun k hk=>⟨by have:=(hf.2 k hk).nm;omega,trivial,⟨by have:=(h.2 k hk).1;omega,fun s hs=>by have:=(hf.2 k hk).each s hs;omega⟩,⟨by have:=(h.2 k hk).2;omega,fun m hm=>few_mthP ((ho.2 k hk).2 m hm) ((hf.2 k hk).mths m hm)⟩⟩⟩
end
section
open Go.RowKit
attribute [local go_sem] Oper.semAt_some
/-- the state in the innermost loop -/
def DS (g bb m B:Nat) (W7:World) (cells:Array Value) (V:Value) (n:Nat) (cs:List Value) (r:Rd) (w:World):Prop:=RdX w g bb r∧Bk w m 43 cells∧w.ownsRow B 37 3 V n cs∧Kp (fun k=>k=g ∨ k=m) W7 w
theorem DS.read {g bb m B n:Nat} {W7 w w':World} {cells:Array Value} {V:Value} {cs:List Value} {r r':Rd} (h:DS g bb m B W7 cells V n cs r w) (hx:RdX w' g bb r') (hk:Kp (fun k=>k=g) w w') (hm:m≠g):DS g bb m B W7 cells V n cs r' w' :=
 ⟨hx,h.2.1.kp hk hm,own_kpT h.2.2.1 hk fun k e=>(by subst e;obtain⟨c,hc⟩:=h.1.bkx;exact⟨_,c,hc,by decide⟩),h.2.2.2.trans hk fun k _ h=>.inl h⟩
section
variable {w:World} {A:Option Addr} {c:Nat} {b:List Int}
end
end
section
open Go.RowKit
attribute [local go_sem] Oper.semAt_some
section
variable {w:World} {m n:Mth} {rm rn:List Value}
set_option maxHeartbeats 4000000 in
theorem SameMth_any (hm:MthR w m rm) (hn:MthR w n rn):Calls Tryd.prog 25 #[.agg rm.toArray,.agg rn.toArray] w (YesP w (decide (m=n))):=by
 obtain⟨hok,A,c,B,d,rfl,hc,hcode,hd,hs⟩:=hm
 obtain⟨hok2,A2,c2,B2,d2,rfl,hc2,hcode2,hd2,hs2⟩:=hn
 obtain⟨W,hW⟩:∃ W,W=(w.alloc (.cells #[.string m.nm,.int .i64 m.p,.int .i64 m.l,.slice A m.code.length c,.slice B m.names.length d] 43)).alloc (.cells #[.string n.nm,.int .i64 n.p,.int .i64 n.l,.slice A2 n.code.length c2,.slice B2 n.names.length d2] 43):=⟨_,rfl⟩
 obtain⟨g1,hg1⟩:∃ g1,g1=w.heap.size:=⟨_,rfl⟩
 have hb0:Below w.heap.size w W:=by rw[hW];exact((Below.refl _ _).alloc (Nat.le_refl _) _).alloc (by simp) _
 have hk1:Bk W g1 43 #[.string m.nm,.int .i64 m.p,.int .i64 m.l,.slice A m.code.length c,.slice B m.names.length d]:=by rw[hW,hg1];exact(Bk.new _ _ _).alloc _
 have hk2:Bk W (g1+1) 43 #[.string n.nm,.int .i64 n.p,.int .i64 n.l,.slice A2 n.code.length c2,.slice B2 n.names.length d2]:=by rw[hW,hg1];have:=Bk.new (w.alloc (.cells #[.string m.nm,.int .i64 m.p,.int .i64 m.l,.slice A m.code.length c,.slice B m.names.length d] 43)) 43 #[.string n.nm,.int .i64 n.p,.int .i64 n.l,.slice A2 n.code.length c2,.slice B2 n.names.length d2];simpa using this
 have HB0:=lh hb0
 have HLC:=lh (And.intro hok (And.intro hok2 (And.intro hc (And.intro hc2 (And.intro hd hd2)))))
 have HCO:=lh (And.intro (hcode.below hb0) (And.intro (hcode2.below hb0) (And.intro (hs.below hb0) (hs2.below hb0))))
 have HK:=lh (And.intro hk1 hk2)
 have a0:W.cell? ⟨g1,0,none⟩=some (.string m.nm):=hk1.cell 0
 have a1:W.cell? ⟨g1,1,none⟩=some (.int .i64 m.p):=hk1.cell 1
 have a2:W.cell? ⟨g1,2,none⟩=some (.int .i64 m.l):=hk1.cell 2
 have a3:W.cell? ⟨g1,3,none⟩=some (.slice A m.code.length c):=hk1.cell 3
 have a4:W.cell? ⟨g1,4,none⟩=some (.slice B m.names.length d):=hk1.cell 4
 have b0:W.cell? ⟨g1+1,0,none⟩=some (.string n.nm):=hk2.cell 0
 have b1:W.cell? ⟨g1+1,1,none⟩=some (.int .i64 n.p):=hk2.cell 1
 have b2:W.cell? ⟨g1+1,2,none⟩=some (.int .i64 n.l):=hk2.cell 2
 have b3:W.cell? ⟨g1+1,3,none⟩=some (.slice A2 n.code.length c2):=hk2.cell 3
 have b4:W.cell? ⟨g1+1,4,none⟩=some (.slice B2 n.names.length d2):=hk2.cell 4
 clear hok hc hcode hd hs hok2 hc2 hcode2 hd2 hs2 hb0 hk1 hk2
 go_enter Tryd.func25,Tryd.ntmps25
 go_upto_region 1 with fail
 rw[← hW,← hg1]
 clear hW hg1
 by_cases h:m.nm=n.nm
 ·have q0:(!(m.nm.toList == n.nm.toList))=false:=by rw[bts_eqB h];rfl
  have H0:=lh h
  clear h
  by_cases h:m.p=n.p
  ·have q1:(m.p != n.p)=false:=by rw[h];simp
   have H1:=lh h
   clear h
   by_cases h:m.l=n.l
   ·have q2:(m.l != n.l)=false:=by rw[h];simp
    have H2:=lh h
    clear h
    by_cases h:m.code.length=n.code.length
    ·have q3:((m.code.length:Int) != (n.code.length:Int))=false:=by rw[h];simp
     have H3:=lh h
     clear h
     have cS:=sameTexts_any HCO.out.2.2.1 HCO.out.2.2.2 HLC.out.2.2.2.2.1 HLC.out.2.2.2.2.2 HLC.out.1.ln HLC.out.2.1.ln
     by_cases h:m.names=n.names
     ·rw[decide_eq_true h] at cS
      have H4:=lh h
      clear h
      go_wp2_with fail
      refine cS.mono ?_
      rintro e w3 ⟨rfl,hb3⟩
      have k1:=HK.out.1.below hb3 HK.out.1.lt
      have k2:=HK.out.2.below hb3 HK.out.2.lt
      have HK3:=lh (And.intro k1 k2)
      have HC3:=lh (And.intro (HCO.out.1.below hb3) (HCO.out.2.1.below hb3))
      have HS3:Hid (w.heap.size≤w3.heap.size):=lh (Nat.le_trans HB0.out.size hb3.size)
      have HB3:=lh (HB0.out.trans (hb3.mono HB0.out.size))
      clear cS hb3 k1 k2
      clear a0 a1 a2 a3 a4 b0 b1 b2 b3 b4
      have hcc:=HLC.out.2.2.1
      have hcc2:=HLC.out.2.2.2.1
      have hlc:=HLC.out.1.lc
      go_wp2_with fail
      go_loopw [5] (fun ix wr=>∃ j:Nat,ix=.int .i64 (j:Int)∧j≤m.code.length∧m.code.take j=n.code.take j∧Below w3.heap.size w3 wr) (fun ix _=>m.code.length - (intOf ix).toNat)
      case atStart=>exact⟨0,rfl,Nat.zero_le _,rfl,Below.refl _ _⟩
      case round =>
       obtain⟨j,rfl,hj,ht,hbl⟩:=hrel
       have HT:=lh (And.intro ht hbl)
       have k1:=HK3.out.1.below hbl HK3.out.1.lt
       have k2:=HK3.out.2.below hbl HK3.out.2.lt
       have a3:wr.cell? ⟨g1,3,none⟩=some (.slice A m.code.length c):=k1.cell 3
       have b3:wr.cell? ⟨g1+1,3,none⟩=some (.slice A2 n.code.length c2):=k2.cell 3
       clear ht hbl k1 k2
       by_cases hlt:j < m.code.length
       ·have hlt2:j < n.code.length:=by rw[← H3.out];exact hlt
        have hx:m.code[j]?=some m.code[j]:=List.getElem?_eq_getElem hlt
        have hy:n.code[j]?=some n.code[j]:=List.getElem?_eq_getElem hlt2
        obtain⟨ba,oa,hA,hba,hca⟩:=HC3.out.1.2.resolve_left (by omega)
        obtain⟨bc,ob,hB,hbb,hcb⟩:=HC3.out.2.2.resolve_left (by omega)
        obtain⟨x0,x1,x2⟩:=codeCells_get m.code j m.code[j] hx
        obtain⟨y0,y1,y2⟩:=codeCells_get n.code j n.code[j] hy
        have e0:wr.cell? ⟨ba,oa+j*3,none⟩=some (.int .i64 m.code[j].1):=(HT.out.2.cell (p:=⟨ba,oa+j*3,none⟩) hba).trans (hca _ _ x0)
        have e1:wr.cell? ⟨ba,oa+j*3+1,none⟩=some (.int .i64 m.code[j].2.1):=(HT.out.2.cell (p:=⟨ba,oa+j*3+1,none⟩) hba).trans (hca _ _ x1)
        have e2:wr.cell? ⟨ba,oa+j*3+2,none⟩=some (.int .i64 m.code[j].2.2):=(HT.out.2.cell (p:=⟨ba,oa+j*3+2,none⟩) hba).trans (hca _ _ x2)
        have f0:wr.cell? ⟨bc,ob+j*3,none⟩=some (.int .i64 n.code[j].1):=(HT.out.2.cell (p:=⟨bc,ob+j*3,none⟩) hbb).trans (hcb _ _ y0)
        have f1:wr.cell? ⟨bc,ob+j*3+1,none⟩=some (.int .i64 n.code[j].2.1):=(HT.out.2.cell (p:=⟨bc,ob+j*3+1,none⟩) hbb).trans (hcb _ _ y1)
        have f2:wr.cell? ⟨bc,ob+j*3+2,none⟩=some (.int .i64 n.code[j].2.2):=(HT.out.2.cell (p:=⟨bc,ob+j*3+2,none⟩) hbb).trans (hcb _ _ y2)
        clear x0 x1 x2 y0 y1 y2
        subst hA hB
        have hjc:j < c:=by omega
        have hjd:j < c2:=by omega
        have HXY:=lh (And.intro hx hy)
        obtain⟨x,hxx⟩:∃ x,x=m.code[j]:=⟨_,rfl⟩
        obtain⟨y,hyy⟩:∃ y,y=n.code[j]:=⟨_,rfl⟩
        rw[← hxx] at e0 e1 e2 HXY
        rw[← hyy] at f0 f1 f2 HXY
        have HBD:Hid (∀ k,Below w3.heap.size w3 (wr.drewN k)):=lh fun k=>below_drewN HT.out.2 k
        have HBE:Hid (∀ k,Below w.heap.size w (wr.drewN k)):=lh fun k=>below_drewN (HB3.out.trans (HT.out.2.mono HS3.out)) k
        clear hx hy hca hcb hba hbb hxx hyy
        obtain⟨xo,xa,xb⟩:=x
        obtain⟨yo,ya,yb⟩:=y
        dsimp only at e0 e1 e2 f0 f1 f2
        by_cases he:((xo,xa,xb):Ins)=(yo,ya,yb)
        ·injection he with h1 h2
         injection h2 with h2 h3
         subst h1 h2 h3
         go_upto_region 6 with fail
         go_quiet (fail)
         go_wp2_with fail
         go_roundw
         case rel=>exact⟨j+1,by go_num,hlt,by rw[List.take_add_one,List.take_add_one,HXY.out.1,HXY.out.2,HT.out.1],HBD.out _⟩
         case measure=>simp[intOf];omega
        ·have HE:Hid (decide (m=n)=false):=lh (decide_eq_false fun e=>he (by have h1:=HXY.out.1;rw[e,HXY.out.2] at h1;injection h1 with h1;exact h1.symm))
         by_cases h1:xo=yo
         ·subst h1
          by_cases h2:xa=ya
          ·subst h2
           have d1:(xb == yb)=false:=by simpa using fun h3:xb=yb=>he (by rw[h3])
           clear he
           go_upto_region 6 with fail
           go_quiet (fail)
           go_wp2_with fail
           go_ret
           rw[HE.out]
           exact⟨rfl,HBE.out _⟩
          ·have d1:(xa == ya)=false:=by simpa using h2
           clear he h2
           go_upto_region 6 with fail
           go_quiet (fail)
           go_wp2_with fail
           go_ret
           rw[HE.out]
           exact⟨rfl,HBE.out _⟩
         ·have d1:(xo == yo)=false:=by simpa using h1
          clear he h1
          go_upto_region 6 with fail
          go_quiet (fail)
          go_wp2_with fail
          go_ret
          rw[HE.out]
          exact⟨rfl,HBE.out _⟩
       ·obtain rfl:j=m.code.length:=by omega
        have he:m.code=n.code:=by have:=HT.out.1;rw[List.take_length,H3.out,List.take_length] at this;exact this
        have HE:Hid (decide (m=n)=true):=lh (decide_eq_true (by cases m;cases n;simp only at H0 H1 H2 H4 he;simp[H0.out,H1.out,H2.out,H4.out,he]))
        clear hlt hj he
        go_wp2_with fail
        go_ret
        rw[HE.out]
        exact⟨rfl,HB3.out.trans (HT.out.2.mono HS3.out)⟩
     ·rw[decide_eq_false h] at cS
      have HE:Hid (decide (m=n)=false):=lh (decide_eq_false fun e=>h (by rw[e]))
      clear h
      go_wp2_with fail
      refine cS.mono ?_
      rintro e w3 ⟨rfl,hb3⟩
      have HB3:=lh (HB0.out.trans (hb3.mono HB0.out.size))
      clear cS hb3
      go_wp2_with fail
      go_ret
      rw[HE.out]
      exact⟨rfl,HB3.out⟩
    ·have q3:((m.code.length:Int) != (n.code.length:Int))=true:=by simpa using (show ¬ (m.code.length:Int)=n.code.length by omega)
     have HE:Hid (decide (m=n)=false):=lh (decide_eq_false fun e=>h (by rw[e]))
     clear h
     go_wp2_with fail
     go_ret
     rw[HE.out]
     exact⟨rfl,HB0.out⟩
   ·have q2:(m.l != n.l)=true:=by simpa using h
    have HE:Hid (decide (m=n)=false):=lh (decide_eq_false fun e=>h (by rw[e]))
    clear h
    go_wp2_with fail
    go_ret
    rw[HE.out]
    exact⟨rfl,HB0.out⟩
  ·have q1:(m.p != n.p)=true:=by simpa using h
   have HE:Hid (decide (m=n)=false):=lh (decide_eq_false fun e=>h (by rw[e]))
   clear h
   go_wp2_with fail
   go_ret
   rw[HE.out]
   exact⟨rfl,HB0.out⟩
 ·have q0:(!(m.nm.toList == n.nm.toList))=true:=by rw[bts_neB h];rfl
  have HE:Hid (decide (m=n)=false):=lh (decide_eq_false fun e=>h (by rw[e]))
  clear h
  go_wp2_with fail
  go_ret
  rw[HE.out]
  exact⟨rfl,HB0.out⟩
end
end
end Go.Proofs.YtmbnlccafcfbeaaDoor
