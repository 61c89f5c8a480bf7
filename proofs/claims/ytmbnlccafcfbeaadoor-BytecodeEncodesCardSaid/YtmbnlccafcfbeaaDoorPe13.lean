/- Parts of the proof: Eql, Ref02, Ref02b, Ref02c, Ref02d, Ref02e. -/
import Derived.Test.YtmbnlccafcfbeaaDoorPeA
import Derived.Test.YtmbnlccafcfbeaaDoorPe11
import Derived.Test.YtmbnlccafcfbeaaDoorPe12
import Derived.Test.YtmbnlccafcfbeaaDoorPe8
import Derived.Test.YtmbnlccafcfbeaaDoorPeShelf
set_option linter.unusedVariables false
set_option linter.unusedSimpArgs false
set_option linter.unusedSectionVars false
set_option maxRecDepth 100000
namespace Go.Proofs.YtmbnlccafcfbeaaDoor
section
open Go.RowKit
attribute [local go_sem] Oper.semAt_some
instance mthDec:DecidableEq Mth:=fun a b=>decidable_of_iff (a.nm=b.nm∧a.p=b.p∧a.l=b.l∧a.code=b.code∧a.names=b.names) (by cases a;cases b;simp)
instance clsDec:DecidableEq Cls:=fun a b=>decidable_of_iff (a.nm=b.nm∧a.actor=b.actor∧a.fields=b.fields∧a.ms=b.ms) (by cases a;cases b;simp)
def YesP (w:World) (b:Bool) (e:Ending) (w':World):Prop:=e=.returned (.bool b)∧Below w.heap.size w w'
theorem bts_eqB {a b:ByteArray} (h:a=b):(a.toList == b.toList)=true:=by rw[h];simp
theorem bts_neB {a b:ByteArray} (h:a≠b):(a.toList == b.toList)=false:=by
 simp only[beq_eq_false_iff_ne,ne_eq]
 intro e
 rw[Go.ByteArray.toList_eq,Go.ByteArray.toList_eq] at e
 exact h (Go.WideShapes.bytes_inj e)
section
variable {w:World} {A B:Option Addr} {c d:Nat} {a b:List ByteArray}
theorem txt_at {w:World} {bb oo n:Nat} {a:List ByteArray} (h:∀ j x,(txtCells a)[j]?=some x→w.cell? ⟨bb,oo+j,none⟩=some x):∀ j,j < a.length→w.cell? ⟨bb,oo+j,none⟩=some (.string (a.getD j ByteArray.empty)):=fun j hj =>
 h j _ (by unfold txtCells;rw[List.getElem?_map,List.getD_eq_getElem?_getD,List.getElem?_eq_getElem hj];rfl)
theorem EqStr_any (ha:Sl w 1 A a.length (txtCells a)) (hb:Sl w 1 B b.length (txtCells b)) (hl:a.length≤140737488351232) (hm:b.length≤140737488351232):Calls Tryd.prog 20 #[.slice A a.length c,.slice B b.length d] w (YesP w (decide (a=b))):=by
 by_cases hn:a.length=b.length
 ·by_cases h0:a.length=0
  ·have e1:a=[]:=List.length_eq_zero_iff.1 h0
   have e2:b=[]:=List.length_eq_zero_iff.1 (by omega)
   subst e1 e2
   refine(Tryd.slices_Equal_string_empty A B c 0 d w (by omega)).mono ?_
   rintro e w' ⟨rfl,rfl⟩
   exact⟨by simp,Below.refl _ _⟩
  ·obtain⟨b1,o1,rfl,_,h1⟩:=ha.2.resolve_left h0
   obtain⟨b2,o2,rfl,_,h2⟩:=hb.2.resolve_left (by omega)
   refine(Tryd.slices_Equal_string b1 o1 a.length c b2 o2 b.length d a b w (Nat.le_refl _) (Nat.le_refl _) (by omega) (by omega) (txt_at (n:=0) h1) (txt_at (n:=0) h2)).mono ?_
   rintro e w' ⟨rfl,q,rfl⟩
   rw[List.take_length,List.take_length]
   exact⟨rfl,below_drewN (Below.refl _ _) q⟩
 ·refine(Tryd.slices_Equal_string_lens A B a.length c b.length d w hn).mono ?_
  rintro e w' ⟨rfl,rfl⟩
  exact⟨by rw[decide_eq_false fun e=>hn (by rw[e])],Below.refl _ _⟩
end
section
variable {w:World} {m n:Mth} {rm rn:List Value}
set_option maxHeartbeats 4000000 in
theorem EqMth_any (hm:MthR w m rm) (hn:MthR w n rn):Calls Tryd.prog 22 #[.agg rm.toArray,.agg rn.toArray] w (YesP w (decide (m=n))):=by
 obtain⟨hok,A,c,B,d,rfl,hc,hcode,hd,hs⟩:=hm
 obtain⟨hok2,A2,c2,B2,d2,rfl,hc2,hcode2,hd2,hs2⟩:=hn
 obtain⟨W,hW⟩:∃ W,W=(w.alloc (.cells #[.string m.nm,.int .i64 m.p,.int .i64 m.l,.slice A m.code.length c,.slice B m.names.length d] 43)).alloc (.cells #[.string n.nm,.int .i64 n.p,.int .i64 n.l,.slice A2 n.code.length c2,.slice B2 n.names.length d2] 43):=⟨_,rfl⟩
 obtain⟨g1,hg1⟩:∃ g1,g1=w.heap.size:=⟨_,rfl⟩
 have hb0:Below w.heap.size w W:=by rw[hW];exact((Below.refl _ _).alloc (Nat.le_refl _) _).alloc (by simp) _
 have hk1:Bk W g1 43 #[.string m.nm,.int .i64 m.p,.int .i64 m.l,.slice A m.code.length c,.slice B m.names.length d]:=by rw[hW,hg1];exact(Bk.new _ _ _).alloc _
 have hk2:Bk W (g1+1) 43 #[.string n.nm,.int .i64 n.p,.int .i64 n.l,.slice A2 n.code.length c2,.slice B2 n.names.length d2]:=by rw[hW,hg1];have:=Bk.new (w.alloc (.cells #[.string m.nm,.int .i64 m.p,.int .i64 m.l,.slice A m.code.length c,.slice B m.names.length d] 43)) 43 #[.string n.nm,.int .i64 n.p,.int .i64 n.l,.slice A2 n.code.length c2,.slice B2 n.names.length d2];simpa using this
 have HB0:=lh hb0
 have HLC:=lh (And.intro hok (And.intro hok2 (And.intro hc (And.intro hc2 (And.intro hd hd2)))))
 have HCO:=lh (And.intro (hcode.below hb0) (And.intro (hcode2.below hb0) (And.intro (hs.below hb0) (hs2.below hb0))))
 have HK:=lh (And.intro hk1 hk2)
 have a0:W.cell? ⟨g1,0,none⟩=some (.string m.nm):=hk1.cell 0
 have a1:W.cell? ⟨g1,1,none⟩=some (.int .i64 m.p):=hk1.cell 1
 have a2:W.cell? ⟨g1,2,none⟩=some (.int .i64 m.l):=hk1.cell 2
 have a3:W.cell? ⟨g1,3,none⟩=some (.slice A m.code.length c):=hk1.cell 3
 have a4:W.cell? ⟨g1,4,none⟩=some (.slice B m.names.length d):=hk1.cell 4
 have b0:W.cell? ⟨g1+1,0,none⟩=some (.string n.nm):=hk2.cell 0
 have b1:W.cell? ⟨g1+1,1,none⟩=some (.int .i64 n.p):=hk2.cell 1
 have b2:W.cell? ⟨g1+1,2,none⟩=some (.int .i64 n.l):=hk2.cell 2
 have b3:W.cell? ⟨g1+1,3,none⟩=some (.slice A2 n.code.length c2):=hk2.cell 3
 have b4:W.cell? ⟨g1+1,4,none⟩=some (.slice B2 n.names.length d2):=hk2.cell 4
 clear hok hc hcode hd hs hok2 hc2 hcode2 hd2 hs2 hb0 hk1 hk2
 go_enter Tryd.func22,Tryd.ntmps22
 go_upto_region 1 with fail
 rw[← hW,← hg1]
 clear hW hg1
 by_cases h:m.nm=n.nm
 ·have q0:=bts_eqB h
  have H0:=lh h
  clear h
  by_cases h:m.p=n.p
  ·have q1:(m.p == n.p)=true:=by rw[h];simp
   have H1:=lh h
   clear h
   by_cases h:m.l=n.l
   ·have q2:(m.l == n.l)=true:=by rw[h];simp
    have H2:=lh h
    clear h
    have cI:=EqIns_any HCO.out.1 HCO.out.2.1 HLC.out.2.2.1 HLC.out.2.2.2.1 HLC.out.1.lc HLC.out.2.1.lc
    by_cases h:m.code=n.code
    ·rw[decide_eq_true h] at cI
     have H3:=lh h
     clear h
     go_wp2_with fail
     refine cI.mono ?_
     rintro e w3 ⟨rfl,hb3⟩
     have k1:=HK.out.1.below hb3 HK.out.1.lt
     have k2:=HK.out.2.below hb3 HK.out.2.lt
     have a4:w3.cell? ⟨g1,4,none⟩=some (.slice B m.names.length d):=k1.cell 4
     have b4:w3.cell? ⟨g1+1,4,none⟩=some (.slice B2 n.names.length d2):=k2.cell 4
     have cS:=EqStr_any (c:=d) (d:=d2) (HCO.out.2.2.1.below hb3) (HCO.out.2.2.2.below hb3) HLC.out.1.ln HLC.out.2.1.ln
     have HB3:=lh (HB0.out.trans (hb3.mono HB0.out.size))
     clear cI hb3 k1 k2
     obtain⟨y,hy⟩:∃ y,y=decide (m.names=n.names):=⟨_,rfl⟩
     rw[← hy] at cS
     have HE:Hid (decide (m=n)=y):=lh (by rw[hy];cases m;cases n;simp only at H0 H1 H2 H3;rw[decide_eq_decide];simp[H0.out,H1.out,H2.out,H3.out])
     clear hy
     go_wp2_with fail
     refine cS.mono ?_
     rintro e w4 ⟨rfl,hb4⟩
     have HB4:=lh (HB3.out.trans (hb4.mono HB3.out.size))
     clear cS hb4 a4 b4
     cases y with
     | true =>
      go_wp2_with fail
      go_ret
      rw[HE.out];exact⟨rfl,HB4.out⟩
     | false =>
      go_wp2_with fail
      go_ret
      rw[HE.out];exact⟨rfl,HB4.out⟩
    ·rw[decide_eq_false h] at cI
     have HE:Hid (decide (m=n)=false):=lh (decide_eq_false fun e=>h (by rw[e]))
     clear h
     go_wp2_with fail
     refine cI.mono ?_
     rintro e w3 ⟨rfl,hb3⟩
     have HB3:=lh (HB0.out.trans (hb3.mono HB0.out.size))
     clear cI hb3
     go_wp2_with fail
     go_ret
     rw[HE.out]
     exact⟨rfl,HB3.out⟩
   ·have q2:(m.l == n.l)=false:=by simpa using h
    have HE:Hid (decide (m=n)=false):=lh (decide_eq_false fun e=>h (by rw[e]))
    clear h
    go_wp2_with fail
    go_ret
    rw[HE.out]
    exact⟨rfl,HB0.out⟩
  ·have q1:(m.p == n.p)=false:=by simpa using h
   have HE:Hid (decide (m=n)=false):=lh (decide_eq_false fun e=>h (by rw[e]))
   clear h
   go_wp2_with fail
   go_ret
   rw[HE.out]
   exact⟨rfl,HB0.out⟩
 ·have q0:=bts_neB h
  have HE:Hid (decide (m=n)=false):=lh (decide_eq_false fun e=>h (by rw[e]))
  clear h
  go_wp2_with fail
  go_ret
  rw[HE.out]
  exact⟨rfl,HB0.out⟩
end
section
variable {w:World} {A B:Option Addr} {c d:Nat} {a b:List Mth}
set_option maxHeartbeats 4000000 in
theorem EqMths_any (ha:SlR MthR w 5 A a.length a) (hb:SlR MthR w 5 B b.length b) (hc:a.length≤c) (hd:b.length≤d) (hl:a.length≤140737488351232) (hm:b.length≤140737488351232):Calls Tryd.prog 21 #[.slice A a.length c,.slice B b.length d,.func (.func 22) #[] #[]] w (YesP w (decide (a=b))):=by
 by_cases hn:a.length=b.length
 ·have HA:=lh (And.intro ha hb)
  have HN:=lh hn
  rw[← hn] at hd ⊢
  have HB0:Hid (Below w.heap.size w w):=lh (Below.refl _ _)
  clear ha hb hm hn
  go_enter Tryd.func21,Tryd.ntmps21
  go_wp2_with fail
  go_loopw [17] (fun ix wr=>∃ j:Nat,ix=.int .i64 (j:Int)∧j≤a.length∧a.take j=b.take j∧Below w.heap.size w wr) (fun ix _=>a.length - (intOf ix).toNat)
  case atStart=>exact⟨0,rfl,Nat.zero_le _,rfl,HB0.out⟩
  case round =>
   obtain⟨j,rfl,hj,ht,hbl⟩:=hrel
   have HT:=lh (And.intro ht hbl)
   clear ht hbl
   by_cases hlt:j < a.length
   ·obtain⟨ba,oa,x,r,hA,hba,hx,hr,hrx,hca⟩:=HA.out.1.get hlt
    obtain⟨bc,ob,y,q,hB,hbb,hy,hq,hqy,hcb⟩:=HA.out.2.get (k:=j) (by rw[← HN.out];exact hlt)
    have hrx:=hrx.below HT.out.2
    have hqy:=hqy.below HT.out.2
    have hca':∀ j' v,r[j']?=some v→wr.cell? ⟨ba,oa+j*5+j',none⟩=some v:=fun j' v hv=>((bcell HT.out.2).1 _ _ hba).trans (hca j' v hv)
    have hcb':∀ j' v,q[j']?=some v→wr.cell? ⟨bc,ob+j*5+j',none⟩=some v:=fun j' v hv=>((bcell HT.out.2).1 _ _ hbb).trans (hcb j' v hv)
    subst hA hB
    have hjc:j < c:=by omega
    have hjd:j < d:=by omega
    have hxy:x=y↔a.take (j+1)=b.take (j+1):=by
     rw[List.take_add_one,List.take_add_one,hx,hy,HT.out.1]
     simp
    have HXY:=lh hxy
    have HXN:Hid (x≠y→decide (a=b)=false):=lh fun h=>decide_eq_false fun e=>h (by have h1:=hx;rw[e,hy] at h1;injection h1 with h1;exact h1.symm)
    have HBW:=lh HT.out.2
    have HRX:=lh hrx
    have HQY:=lh hqy
    obtain⟨_,A1,c1,B1,d1,rfl,_,_,_,_⟩:=hrx
    obtain⟨_,A2,c2,B2,d2,rfl,_,_,_,_⟩:=hqy
    have a0:wr.cell? ⟨ba,oa+j*5,none⟩=some (.string x.nm):=hca' 0 _ rfl
    have a1:wr.cell? ⟨ba,oa+j*5+1,none⟩=some (.int .i64 x.p):=hca' 1 _ rfl
    have a2:wr.cell? ⟨ba,oa+j*5+2,none⟩=some (.int .i64 x.l):=hca' 2 _ rfl
    have a3:wr.cell? ⟨ba,oa+j*5+3,none⟩=some (.slice A1 x.code.length c1):=hca' 3 _ rfl
    have a4:wr.cell? ⟨ba,oa+j*5+4,none⟩=some (.slice B1 x.names.length d1):=hca' 4 _ rfl
    have b0:wr.cell? ⟨bc,ob+j*5,none⟩=some (.string y.nm):=hcb' 0 _ rfl
    have b1:wr.cell? ⟨bc,ob+j*5+1,none⟩=some (.int .i64 y.p):=hcb' 1 _ rfl
    have b2:wr.cell? ⟨bc,ob+j*5+2,none⟩=some (.int .i64 y.l):=hcb' 2 _ rfl
    have b3:wr.cell? ⟨bc,ob+j*5+3,none⟩=some (.slice A2 y.code.length c2):=hcb' 3 _ rfl
    have b4:wr.cell? ⟨bc,ob+j*5+4,none⟩=some (.slice B2 y.names.length d2):=hcb' 4 _ rfl
    have hbl2:bc < wr.heap.size:=Nat.lt_of_lt_of_le hbb HT.out.2.size
    have hbn2:¬ bc=wr.heap.size:=by omega
    clear hca hcb hca' hcb' hxy hx hy hr hq hba hbb
    obtain⟨W,hW⟩:∃ W,W=(wr.alloc (.cells #[.string x.nm,.int .i64 x.p,.int .i64 x.l,.slice A1 x.code.length c1,.slice B1 x.names.length d1] 43)).alloc (.cells #[.string y.nm,.int .i64 y.p,.int .i64 y.l,.slice A2 y.code.length c2,.slice B2 y.names.length d2] 43):=⟨_,rfl⟩
    have hbW:Below wr.heap.size wr W:=by rw[hW];exact((Below.refl _ _).alloc (Nat.le_refl _) _).alloc (by simp) _
    have HBR:=lh (HT.out.2.trans (hbW.mono HT.out.2.size))
    have cE:=EqMth_any (HRX.out.below hbW) (HQY.out.below hbW)
    have k1:W.cell? ⟨wr.heap.size,0,none⟩=some (.string x.nm):=by rw[hW];exact((Bk.new _ _ _).alloc _).cell 0
    clear hbW k1
    rw[hW] at cE
    have HWW:=lh hW
    clear hW
    by_cases he:x=y
    ·rw[decide_eq_true he] at cE
     have HEQ:=lh (HXY.out.1 he)
     clear he
     go_wp2_with fail
     refine cE.mono ?_
     rintro e w3 ⟨rfl,hb3⟩
     rw[← HWW.out] at hb3
     have HB3:=lh (HBR.out.trans (hb3.mono HBR.out.size))
     clear cE hb3
     go_wp2_with fail
     go_roundw
     case rel=>exact⟨j+1,by go_num,hlt,HEQ.out,HB3.out⟩
     case measure=>simp[intOf];omega
    ·rw[decide_eq_false he] at cE
     have HEQ:=lh (HXN.out he)
     clear he
     go_wp2_with fail
     refine cE.mono ?_
     rintro e w3 ⟨rfl,hb3⟩
     rw[← HWW.out] at hb3
     have HB3:=lh (HBR.out.trans (hb3.mono HBR.out.size))
     clear cE hb3
     go_wp2_with fail
     go_ret
     rw[HEQ.out];exact⟨rfl,HB3.out⟩
   ·obtain rfl:j=a.length:=by omega
    have he:a=b:=by have:=HT.out.1;rw[List.take_length,HN.out,List.take_length] at this;exact this
    have HE:Hid (decide (a=b)=true):=lh (decide_eq_true he)
    clear hlt hj he
    go_wp2_with fail
    go_ret
    rw[HE.out];exact⟨rfl,HT.out.2⟩
 ·have d0:((a.length:Int) != (b.length:Int))=true:=by simpa using (show ¬ (a.length:Int)=b.length by omega)
  have HE:Hid (decide (a=b)=false):=lh (decide_eq_false fun e=>hn (by rw[e]))
  clear ha hb hn
  go_enter Tryd.func21,Tryd.ntmps21
  go_wp2_with fail
  go_ret
  rw[HE.out];exact⟨rfl,Below.refl _ _⟩
end
section
variable {w:World} {m n:Cls} {rm rn:List Value}
set_option maxHeartbeats 4000000 in
theorem EqCls_any (hm:ClsR w m rm) (hn:ClsR w n rn):Calls Tryd.prog 19 #[.agg rm.toArray,.agg rn.toArray] w (YesP w (decide (m=n))):=by
 obtain⟨hok,A,c,B,d,rfl,hc,hf,hd,hs⟩:=hm
 obtain⟨hok2,A2,c2,B2,d2,rfl,hc2,hf2,hd2,hs2⟩:=hn
 obtain⟨W,hW⟩:∃ W,W=(w.alloc (.cells #[.string m.nm,.bool m.actor,.slice A m.fields.length c,.slice B m.ms.length d] 48)).alloc (.cells #[.string n.nm,.bool n.actor,.slice A2 n.fields.length c2,.slice B2 n.ms.length d2] 48):=⟨_,rfl⟩
 obtain⟨g1,hg1⟩:∃ g1,g1=w.heap.size:=⟨_,rfl⟩
 have hb0:Below w.heap.size w W:=by rw[hW];exact((Below.refl _ _).alloc (Nat.le_refl _) _).alloc (by simp) _
 have hk1:Bk W g1 48 #[.string m.nm,.bool m.actor,.slice A m.fields.length c,.slice B m.ms.length d]:=by rw[hW,hg1];exact(Bk.new _ _ _).alloc _
 have hk2:Bk W (g1+1) 48 #[.string n.nm,.bool n.actor,.slice A2 n.fields.length c2,.slice B2 n.ms.length d2]:=by rw[hW,hg1];have:=Bk.new (w.alloc (.cells #[.string m.nm,.bool m.actor,.slice A m.fields.length c,.slice B m.ms.length d] 48)) 48 #[.string n.nm,.bool n.actor,.slice A2 n.fields.length c2,.slice B2 n.ms.length d2];simpa using this
 have HB0:=lh hb0
 have HLC:=lh (And.intro hok (And.intro hok2 (And.intro hc (And.intro hc2 (And.intro hd hd2)))))
 have HCO:=lh (And.intro (hf.below hb0) (And.intro (hf2.below hb0) (And.intro (hs.mths hb0) (hs2.mths hb0))))
 have HK:=lh (And.intro hk1 hk2)
 have a0:W.cell? ⟨g1,0,none⟩=some (.string m.nm):=hk1.cell 0
 have a1:W.cell? ⟨g1,1,none⟩=some (.bool m.actor):=hk1.cell 1
 have a2:W.cell? ⟨g1,2,none⟩=some (.slice A m.fields.length c):=hk1.cell 2
 have a3:W.cell? ⟨g1,3,none⟩=some (.slice B m.ms.length d):=hk1.cell 3
 have b0:W.cell? ⟨g1+1,0,none⟩=some (.string n.nm):=hk2.cell 0
 have b1:W.cell? ⟨g1+1,1,none⟩=some (.bool n.actor):=hk2.cell 1
 have b2:W.cell? ⟨g1+1,2,none⟩=some (.slice A2 n.fields.length c2):=hk2.cell 2
 have b3:W.cell? ⟨g1+1,3,none⟩=some (.slice B2 n.ms.length d2):=hk2.cell 3
 clear hok hc hf hd hs hok2 hc2 hf2 hd2 hs2 hb0 hk1 hk2
 go_enter Tryd.func19,Tryd.ntmps19
 go_upto_region 1 with fail
 rw[← hW,← hg1]
 clear hW hg1
 by_cases h:m.nm=n.nm
 ·have q0:=bts_eqB h
  have H0:=lh h
  clear h
  by_cases h:m.actor=n.actor
  ·have q1:(m.actor == n.actor)=true:=by rw[h];simp
   have H1:=lh h
   clear h
   have cI:=EqStr_any (c:=c) (d:=c2) HCO.out.1 HCO.out.2.1 HLC.out.1.lf HLC.out.2.1.lf
   by_cases h:m.fields=n.fields
   ·rw[decide_eq_true h] at cI
    have H3:=lh h
    clear h
    go_wp2_with fail
    refine cI.mono ?_
    rintro e w3 ⟨rfl,hb3⟩
    have k1:=HK.out.1.below hb3 HK.out.1.lt
    have k2:=HK.out.2.below hb3 HK.out.2.lt
    have a3:w3.cell? ⟨g1,3,none⟩=some (.slice B m.ms.length d):=k1.cell 3
    have b3:w3.cell? ⟨g1+1,3,none⟩=some (.slice B2 n.ms.length d2):=k2.cell 3
    have cS:=EqMths_any (c:=d) (d:=d2) (HCO.out.2.2.1.mths hb3) (HCO.out.2.2.2.mths hb3) HLC.out.2.2.2.2.1 HLC.out.2.2.2.2.2 HLC.out.1.lm HLC.out.2.1.lm
    have HB3:=lh (HB0.out.trans (hb3.mono HB0.out.size))
    clear cI hb3 k1 k2
    obtain⟨y,hy⟩:∃ y,y=decide (m.ms=n.ms):=⟨_,rfl⟩
    rw[← hy] at cS
    have HE:Hid (decide (m=n)=y):=lh (by rw[hy];cases m;cases n;simp only at H0 H1 H3;rw[decide_eq_decide];simp[H0.out,H1.out,H3.out])
    clear hy
    go_wp2_with fail
    refine cS.mono ?_
    rintro e w4 ⟨rfl,hb4⟩
    have HB4:=lh (HB3.out.trans (hb4.mono HB3.out.size))
    clear cS hb4 a3 b3
    cases y with
    | true =>
     go_wp2_with fail
     go_ret
     rw[HE.out];exact⟨rfl,HB4.out⟩
    | false =>
     go_wp2_with fail
     go_ret
     rw[HE.out];exact⟨rfl,HB4.out⟩
   ·rw[decide_eq_false h] at cI
    have HE:Hid (decide (m=n)=false):=lh (decide_eq_false fun e=>h (by rw[e]))
    clear h
    go_wp2_with fail
    refine cI.mono ?_
    rintro e w3 ⟨rfl,hb3⟩
    have HB3:=lh (HB0.out.trans (hb3.mono HB0.out.size))
    clear cI hb3
    go_wp2_with fail
    go_ret
    rw[HE.out]
    exact⟨rfl,HB3.out⟩
  ·have q1:(m.actor == n.actor)=false:=by simpa using h
   have HE:Hid (decide (m=n)=false):=lh (decide_eq_false fun e=>h (by rw[e]))
   clear h
   go_wp2_with fail
   go_ret
   rw[HE.out]
   exact⟨rfl,HB0.out⟩
 ·have q0:=bts_neB h
  have HE:Hid (decide (m=n)=false):=lh (decide_eq_false fun e=>h (by rw[e]))
  clear h
  go_wp2_with fail
  go_ret
  rw[HE.out]
  exact⟨rfl,HB0.out⟩
end
section
variable {w:World} {A B:Option Addr} {c d:Nat} {a b:List Cls}
set_option maxHeartbeats 4000000 in
theorem EqClss_any (ha:SlR ClsR w 4 A a.length a) (hb:SlR ClsR w 4 B b.length b) (hc:a.length≤c) (hd:b.length≤d) (hl:a.length≤140737488351232) (hm:b.length≤140737488351232):Calls Tryd.prog 18 #[.slice A a.length c,.slice B b.length d,.func (.func 19) #[] #[]] w (YesP w (decide (a=b))):=by
 by_cases hn:a.length=b.length
 ·have HA:=lh (And.intro ha hb)
  have HN:=lh hn
  rw[← hn] at hd ⊢
  have HB0:Hid (Below w.heap.size w w):=lh (Below.refl _ _)
  clear ha hb hm hn
  go_enter Tryd.func18,Tryd.ntmps18
  go_wp2_with fail
  go_loopw [17] (fun ix wr=>∃ j:Nat,ix=.int .i64 (j:Int)∧j≤a.length∧a.take j=b.take j∧Below w.heap.size w wr) (fun ix _=>a.length - (intOf ix).toNat)
  case atStart=>exact⟨0,rfl,Nat.zero_le _,rfl,HB0.out⟩
  case round =>
   obtain⟨j,rfl,hj,ht,hbl⟩:=hrel
   have HT:=lh (And.intro ht hbl)
   clear ht hbl
   by_cases hlt:j < a.length
   ·obtain⟨ba,oa,x,r,hA,hba,hx,hr,hrx,hca⟩:=HA.out.1.get hlt
    obtain⟨bc,ob,y,q,hB,hbb,hy,hq,hqy,hcb⟩:=HA.out.2.get (k:=j) (by rw[← HN.out];exact hlt)
    have hrx:=hrx.below HT.out.2
    have hqy:=hqy.below HT.out.2
    have hca':∀ j' v,r[j']?=some v→wr.cell? ⟨ba,oa+j*4+j',none⟩=some v:=fun j' v hv=>((bcell HT.out.2).1 _ _ hba).trans (hca j' v hv)
    have hcb':∀ j' v,q[j']?=some v→wr.cell? ⟨bc,ob+j*4+j',none⟩=some v:=fun j' v hv=>((bcell HT.out.2).1 _ _ hbb).trans (hcb j' v hv)
    subst hA hB
    have hjc:j < c:=by omega
    have hjd:j < d:=by omega
    have hxy:x=y↔a.take (j+1)=b.take (j+1):=by
     rw[List.take_add_one,List.take_add_one,hx,hy,HT.out.1]
     simp
    have HXY:=lh hxy
    have HXN:Hid (x≠y→decide (a=b)=false):=lh fun h=>decide_eq_false fun e=>h (by have h1:=hx;rw[e,hy] at h1;injection h1 with h1;exact h1.symm)
    have HBW:=lh HT.out.2
    have HRX:=lh hrx
    have HQY:=lh hqy
    obtain⟨_,A1,c1,B1,d1,rfl,_,_,_,_⟩:=hrx
    obtain⟨_,A2,c2,B2,d2,rfl,_,_,_,_⟩:=hqy
    have a0:wr.cell? ⟨ba,oa+j*4,none⟩=some (.string x.nm):=hca' 0 _ rfl
    have a1:wr.cell? ⟨ba,oa+j*4+1,none⟩=some (.bool x.actor):=hca' 1 _ rfl
    have a2:wr.cell? ⟨ba,oa+j*4+2,none⟩=some (.slice A1 x.fields.length c1):=hca' 2 _ rfl
    have a3:wr.cell? ⟨ba,oa+j*4+3,none⟩=some (.slice B1 x.ms.length d1):=hca' 3 _ rfl
    have b0:wr.cell? ⟨bc,ob+j*4,none⟩=some (.string y.nm):=hcb' 0 _ rfl
    have b1:wr.cell? ⟨bc,ob+j*4+1,none⟩=some (.bool y.actor):=hcb' 1 _ rfl
    have b2:wr.cell? ⟨bc,ob+j*4+2,none⟩=some (.slice A2 y.fields.length c2):=hcb' 2 _ rfl
    have b3:wr.cell? ⟨bc,ob+j*4+3,none⟩=some (.slice B2 y.ms.length d2):=hcb' 3 _ rfl
    have hbl2:bc < wr.heap.size:=Nat.lt_of_lt_of_le hbb HT.out.2.size
    have hbn2:¬ bc=wr.heap.size:=by omega
    clear hca hcb hca' hcb' hxy hx hy hr hq hba hbb
    obtain⟨W,hW⟩:∃ W,W=(wr.alloc (.cells #[.string x.nm,.bool x.actor,.slice A1 x.fields.length c1,.slice B1 x.ms.length d1] 48)).alloc (.cells #[.string y.nm,.bool y.actor,.slice A2 y.fields.length c2,.slice B2 y.ms.length d2] 48):=⟨_,rfl⟩
    have hbW:Below wr.heap.size wr W:=by rw[hW];exact((Below.refl _ _).alloc (Nat.le_refl _) _).alloc (by simp) _
    have HBR:=lh (HT.out.2.trans (hbW.mono HT.out.2.size))
    have cE:=EqCls_any (HRX.out.below hbW) (HQY.out.below hbW)
    have k1:W.cell? ⟨wr.heap.size,0,none⟩=some (.string x.nm):=by rw[hW];exact((Bk.new _ _ _).alloc _).cell 0
    clear hbW k1
    rw[hW] at cE
    have HWW:=lh hW
    clear hW
    by_cases he:x=y
    ·rw[decide_eq_true he] at cE
     have HEQ:=lh (HXY.out.1 he)
     clear he
     go_wp2_with fail
     refine cE.mono ?_
     rintro e w3 ⟨rfl,hb3⟩
     rw[← HWW.out] at hb3
     have HB3:=lh (HBR.out.trans (hb3.mono HBR.out.size))
     clear cE hb3
     go_wp2_with fail
     go_roundw
     case rel=>exact⟨j+1,by go_num,hlt,HEQ.out,HB3.out⟩
     case measure=>simp[intOf];omega
    ·rw[decide_eq_false he] at cE
     have HEQ:=lh (HXN.out he)
     clear he
     go_wp2_with fail
     refine cE.mono ?_
     rintro e w3 ⟨rfl,hb3⟩
     rw[← HWW.out] at hb3
     have HB3:=lh (HBR.out.trans (hb3.mono HBR.out.size))
     clear cE hb3
     go_wp2_with fail
     go_ret
     rw[HEQ.out];exact⟨rfl,HB3.out⟩
   ·obtain rfl:j=a.length:=by omega
    have he:a=b:=by have:=HT.out.1;rw[List.take_length,HN.out,List.take_length] at this;exact this
    have HE:Hid (decide (a=b)=true):=lh (decide_eq_true he)
    clear hlt hj he
    go_wp2_with fail
    go_ret
    rw[HE.out];exact⟨rfl,HT.out.2⟩
 ·have d0:((a.length:Int) != (b.length:Int))=true:=by simpa using (show ¬ (a.length:Int)=b.length by omega)
  have HE:Hid (decide (a=b)=false):=lh (decide_eq_false fun e=>hn (by rw[e]))
  clear ha hb hn
  go_enter Tryd.func18,Tryd.ntmps18
  go_wp2_with fail
  go_ret
  rw[HE.out];exact⟨rfl,Below.refl _ _⟩
end
section
variable {w:World} {cs ds:List Cls} {A B:Option Addr} {n m c d:Nat}
set_option maxHeartbeats 2000000 in
theorem Equal_any (hC:CodeR w cs A n c) (hD:CodeR w ds B m d):Calls Tryd.prog 8 #[.agg #[.slice A n c],.agg #[.slice B m d]] w (YesP w (decide (cs=ds))):=by
 obtain⟨rfl,hc,hn,hs⟩:=hC
 obtain⟨rfl,hd,hm,hs2⟩:=hD
 obtain⟨W,hW⟩:∃ W,W=(w.alloc (.cells #[.slice A cs.length c] 24)).alloc (.cells #[.slice B ds.length d] 24):=⟨_,rfl⟩
 have hb0:Below w.heap.size w W:=by rw[hW];exact((Below.refl _ _).alloc (Nat.le_refl _) _).alloc (by simp) _
 have cE:=EqClss_any (hs.clss hb0) (hs2.clss hb0) hc hd hn hm
 have HB0:=lh hb0
 rw[hW] at cE
 have HW:=lh hW
 clear hs hs2 hc hd hn hm hb0 hW
 go_enter Tryd.func8,Tryd.ntmps8
 go_wp2_with fail
 refine cE.mono ?_
 rintro e w3 ⟨rfl,hb3⟩
 rw[← HW.out] at hb3
 have HB3:=lh (HB0.out.trans (hb3.mono HB0.out.size))
 clear cE hb3
 go_wp2_with fail
 go_ret
 exact⟨rfl,HB3.out⟩
end
end
section
open Go.RowKit
attribute [local go_sem] Oper.semAt_some
theorem ownOne (w:World) (x:Value) {B:Nat} (hB:B≤w.heap.size):(w.alloc (.cells #[x] 5)).ownsRow B 5 1 (.slice (some ⟨w.heap.size,0,none⟩) 1 1) 1 [x] :=
 ⟨rfl,.inr ⟨w.heap.size,1,#[x],rfl,hB,Bk.new _ _ _,Nat.le_refl _,by unfold maxLen;omega,rfl,rfl⟩⟩
section
variable {w:World} {A:Option Addr} {c:Nat} {l:List Int} {N:Nat}
set_option maxHeartbeats 4000000 in
theorem RUint_any (h:Sl w 1 A l.length (byts l)) (hn:N < 18446744073709551616) (hl:l.length≤4294967296):Calls Tryd.prog 38 #[.slice A l.length c,.int .u64 (N:Int)] w (EncP w (l++encU N)):=by
 have HS:=lh h
 have HB0:Hid (Below w.heap.size w (w.alloc (.cells #[] 5))):=lh ((Below.refl _ _).alloc (Nat.le_refl _) _)
 have HE0:Hid ((w.alloc (.cells #[] 5)).ownsRow w.heap.size 5 1 (.slice (some ⟨w.heap.size,0,none⟩) 0 0) 0 []):=lh (ownEmpty 1 (Bk.new _ _ _) (Nat.le_refl _))
 obtain⟨i0,hi,hz0,hz1,hz2⟩:=info_parts i_u8
 have HI:=lh (And.intro hi (And.intro hz0 (And.intro hz1 hz2)))
 clear h hi hz0 hz1 hz2
 go_enter Tryd.func38,Tryd.ntmps38
 go_wp2_with fail
 go_loopw [1,5] (fun kx v wr=>∃ (k:Nat) (ds:List Int),kx=.int .u64 (k:Int)∧k < 18446744073709551616∧digs N=digs k++ds∧wr.ownsRow w.heap.size 5 1 v ds.length (byts ds)∧Below w.heap.size w wr) (fun kx _ _=>(intOf kx).toNat)
 case atStart=>exact⟨N,[],rfl,hn,by rw[List.append_nil],HE0.out,HB0.out⟩
 case round =>
  obtain⟨k,ds,rfl,hk,hd,ho,hb⟩:=hrel
  obtain⟨A5,c5,rfl,_⟩:=own_shape ho
  have hds:ds.length≤8:=by
   have:=digs_len 8 N (by omega)
   rw[hd,List.length_append] at this
   omega
  have HO:=lh (And.intro ho (And.intro hb hd))
  have hbz:=hb.size
  clear ho hb hd
  by_cases hz:0 < k
  ·obtain⟨X,hX⟩:∃ X,X=(k:Int) % 256:=⟨_,rfl⟩
   have hw:IntKind.u8.wrap ((k:Int) % 256)=X:=by rw[IntKind.wrap_u8,hX];omega
   have hb1:Below wr.heap.size wr (wr.alloc (.cells #[.int .u8 X] 5)):=(Below.refl _ _).alloc (Nat.le_refl _) _
   have HO1:=lh (ownOne wr (.int .u8 X) hbz)
   have HS1:=lh ((own_sl HO.out.1).below hb1)
   have HB1:=lh hb1
   have HX:=lh hX
   have hz1:w.heap.size≤(wr.alloc (.cells #[.int .u8 X] 5)).heap.size:=Nat.le_trans hbz hb1.size
   clear hb1 hX
   go_wp2_with (at_builtin;refine wpList_app rfl (.tmp 12) (.tmp 13) 29 rfl Tryd.underlying29 HI.out.1 HI.out.2.1 HI.out.2.2.1 HI.out.2.2.2 rfl (by decide) (n:=1) (xs:=[.int .u8 X]) rfl HO1.out (A:=A5) (m:=ds.length) (c:=c5) (news:=byts ds) rfl HS1.out (byts_one _) (by unfold maxLen;omega) (by omega) hz1 ?_;intro v2 w2 ho2 hg2 h42;have HO2:=lh ho2;have HB2:Hid (Below w.heap.size w w2):=lh ((HO.out.2.1.alloc hbz _).grown hg2 hz1 (fun q hq=>by cases hq;exact hbz));clear ho2 hg2 h42)
   go_roundw
   case rel =>
    refine⟨k / 256,X::ds,by go_num,by omega,?_,?_,HB2.out⟩
    ·rw[HO.out.2.2,digs_pos (by omega),HX.out]
     simp
    ·have e:(X::ds).length=1+ds.length:=by simp;omega
     rw[e]
     exact HO2.out
   case measure=>simp[intOf];omega
  ·obtain rfl:k=0:=by omega
   rw[digs_zero,List.nil_append] at HO
   have hw:IntKind.u8.wrap (ds.length:Int)=(ds.length:Int):=by rw[IntKind.wrap_u8];omega
   have hbe:Below wr.heap.size wr (wr.alloc (.cells #[] 5)):=(Below.refl _ _).alloc (Nat.le_refl _) _
   have HWE:Hid ((wr.alloc (.cells #[] 5)).ownsRow wr.heap.size 5 1 (.slice (some ⟨wr.heap.size,0,none⟩) 0 0) 0 []):=lh (ownEmpty 1 (Bk.new _ _ _) (Nat.le_refl _))
   have HL:=lh ((HS.out.below HO.out.2.1).below hbe)
   have HZE:=lh hbe.size
   have HBE:=lh hbe
   clear hbe
   go_wp2_with (at_builtin;first
    | (refine wpList_app rfl (.tmp 17) (.tmp 18) 29 rfl Tryd.underlying29 HI.out.1 HI.out.2.1 HI.out.2.2.1 HI.out.2.2.2 rfl (by decide) (n:=0) (xs:=[]) rfl HWE.out (A:=A) (m:=l.length) (c:=c) (news:=byts l) rfl HL.out (byts_one _) (by unfold maxLen;omega) (by omega) HZE.out ?_;intro v2 w2 ho2 hg2 h42;rw[Nat.zero_add,List.nil_append] at ho2;obtain⟨A2,c2,rfl,_⟩:=own_shape ho2;have HB2:Hid (Below wr.heap.size wr w2):=lh (HBE.out.grown hg2 HZE.out (fun q hq=>by cases hq;exact Nat.le_refl _));have hb3:Below w2.heap.size w2 (w2.alloc (.cells #[.int .u8 (ds.length:Int)] 5)):=(Below.refl _ _).alloc (Nat.le_refl _) _;have HO3:=lh (own_below ho2 hb3);have HS3:=lh (Sl.one (w:=w2) 5 #[.int .u8 (ds.length:Int)] (by simp));have HB3:=lh (HB2.out.alloc HB2.out.size (.cells #[.int .u8 (ds.length:Int)] 5));clear ho2 hg2 h42 hb3)
    | (refine wpList_app rfl (.tmp 19) (.tmp 23) 29 rfl Tryd.underlying29 HI.out.1 HI.out.2.1 HI.out.2.2.1 HI.out.2.2.2 rfl (by decide) (n:=l.length) (xs:=byts l) rfl HO3.out (m:=1) (c:=1) (news:=[.int .u8 (ds.length:Int)]) rfl HS3.out (fun u hu=>by cases hu with | head=>rfl | tail _ h=>cases h) (by unfold maxLen;omega) (by omega) HB3.out.size ?_;intro v4 w4 ho4 hg4 h44;obtain⟨A4,c4,rfl,_⟩:=own_shape ho4;have HB4:Hid (Below wr.heap.size wr w4):=lh (HB3.out.grown hg4 HB3.out.size (fun q hq=>(HO3.out.lt q hq).1));have HO4:=lh ho4;have HS4:=lh ((own_sl HO.out.1).below HB4.out);clear ho4 hg4 h44)
    | (refine wpList_app rfl (.tmp 24) (.tmp 25) 29 rfl Tryd.underlying29 HI.out.1 HI.out.2.1 HI.out.2.2.1 HI.out.2.2.2 rfl (by decide) (n:=l.length+1) rfl HO4.out (A:=A5) (m:=ds.length) (c:=c5) (news:=byts ds) rfl HS4.out (byts_one _) (by unfold maxLen;omega) (by omega) HB4.out.size ?_;intro v6 w6 ho6 hg6 h46;have HO6:=lh ho6;have HB6:Hid (Below wr.heap.size wr w6):=lh (HB4.out.grown hg6 HB4.out.size (fun q hq=>(HO4.out.lt q hq).1));clear ho6 hg6 h46))
   go_ret
   have e:byts (l++encU N)=byts l++[.int .u8 (ds.length:Int)]++byts ds:=by
    unfold encU
    rw[Int.toNat_natCast,HO.out.2.2,byts_app]
    simp[byts]
   have el:(l++encU N).length=l.length+1+ds.length:=by
    unfold encU
    rw[Int.toNat_natCast,HO.out.2.2]
    simp
    omega
   exact⟨_,rfl,by rw[e,el];exact own_base HO6.out hbz,HO.out.2.1.trans (HB6.out.mono hbz)⟩
end
end
section
open Go.RowKit
attribute [local go_sem] Oper.semAt_some
section
variable {w:World} {A:Option Addr} {c:Nat} {l:List Int} {n:Int}
theorem RUintZ_any (h:Sl w 1 A l.length (byts l)) (hn:P64 n) (hl:l.length≤4294967296):Calls Tryd.prog 38 #[.slice A l.length c,.int .u64 n] w (EncP w (l++encU n)):=by
 obtain⟨N,rfl⟩:=Int.eq_ofNat_of_zero_le hn.1
 exact RUint_any h (by unfold P64 at hn;omega) hl
set_option maxHeartbeats 2000000 in
theorem RInt_any (h:Sl w 1 A l.length (byts l)) (hn:I64 n) (hl:l.length≤4294967296):Calls Tryd.prog 42 #[.slice A l.length c,.int .i64 n] w (EncP w (l++encI n)):=by
 have cU:=RUintZ_any (c:=c) h (zz_rg hn) hl
 obtain⟨Z,hZ⟩:∃ Z,Z=zz n:=⟨_,rfl⟩
 have he:encI n=encU Z:=by rw[hZ];rfl
 rw[← hZ] at cU
 rw[he]
 unfold zz at hZ
 unfold I64 at hn
 by_cases h0:0≤n
 ·have hw1:IntKind.u64.wrap n=n:=by rw[IntKind.wrap_u64];omega
  have hw2:IntKind.u64.wrap (2*n)=Z:=by rw[IntKind.wrap_u64,hZ];omega
  have d0:decide (n ≥ 0)=true:=decide_eq_true h0
  clear h hn hl he hZ
  go_enter Tryd.func42,Tryd.ntmps42
  go_wp2_with fail
  refine cU.mono ?_
  rintro e w1 ⟨v,rfl,ho,hb⟩
  go_wp2_with fail
  go_ret
  exact⟨_,rfl,ho,hb⟩
 ·have hw0:IntKind.i64.wrap (n+1)=n+1:=by rw[IntKind.wrap_i64];omega
  have hwn:IntKind.i64.wrap (-(n+1))=-(n+1):=by rw[IntKind.wrap_i64];omega
  have hw1:IntKind.u64.wrap (-(n+1))=-(n+1):=by rw[IntKind.wrap_u64];omega
  have hw2:IntKind.u64.wrap (2*-(n+1))=2*-(n+1):=by rw[IntKind.wrap_u64];omega
  have hw3:IntKind.u64.wrap (2*-(n+1)+1)=Z:=by rw[IntKind.wrap_u64,hZ];omega
  have d0:decide (n ≥ 0)=false:=decide_eq_false h0
  clear h hn hl he hZ
  go_enter Tryd.func42,Tryd.ntmps42
  go_wp2_with fail
  refine cU.mono ?_
  rintro e w1 ⟨v,rfl,ho,hb⟩
  go_wp2_with fail
  go_ret
  exact⟨_,rfl,ho,hb⟩
end
end
section
open Go.RowKit
attribute [local go_sem] Oper.semAt_some
section
variable {w:World} {A:Option Addr} {c:Nat} {l:List Int} {x:Bool} {s:ByteArray}
set_option maxHeartbeats 4000000 in
theorem RBool_any (h:Sl w 1 A l.length (byts l)) (hl:l.length≤4294967296):Calls Tryd.prog 39 #[.slice A l.length c,.bool x] w (EncP w (l++encB x)):=by
 have hbe:Below w.heap.size w (w.alloc (.cells #[] 5)):=(Below.refl _ _).alloc (Nat.le_refl _) _
 have HWE:Hid ((w.alloc (.cells #[] 5)).ownsRow w.heap.size 5 1 (.slice (some ⟨w.heap.size,0,none⟩) 0 0) 0 []):=lh (ownEmpty 1 (Bk.new _ _ _) (Nat.le_refl _))
 have HL:=lh (h.below hbe)
 have HBE:=lh hbe
 obtain⟨i0,hi,hz0,hz1,hz2⟩:=info_parts i_u8
 have HI:=lh (And.intro hi (And.intro hz0 (And.intro hz1 hz2)))
 clear h hi hz0 hz1 hz2 hbe
 cases x with
 | true =>
  go_enter Tryd.func39,Tryd.ntmps39
  go_wp2_with (at_builtin;first
   | (refine wpList_app rfl (.tmp 6) (.tmp 7) 29 rfl Tryd.underlying29 HI.out.1 HI.out.2.1 HI.out.2.2.1 HI.out.2.2.2 rfl (by decide) (n:=0) (xs:=[]) rfl HWE.out (A:=A) (m:=l.length) (c:=c) (news:=byts l) rfl HL.out (byts_one _) (by unfold maxLen;omega) (by omega) HBE.out.size ?_;intro v2 w2 ho2 hg2 h42;rw[Nat.zero_add,List.nil_append] at ho2;obtain⟨A2,c2,rfl,_⟩:=own_shape ho2;have HB2:Hid (Below w.heap.size w w2):=lh (HBE.out.grown hg2 HBE.out.size (fun q hq=>by cases hq;exact Nat.le_refl _));have hb3:Below w2.heap.size w2 (w2.alloc (.cells #[.int .u8 1] 5)):=(Below.refl _ _).alloc (Nat.le_refl _) _;have HO3:=lh (own_below ho2 hb3);have HS3:=lh (Sl.one (w:=w2) 5 #[.int .u8 1] (by simp));have HB3:=lh (HB2.out.alloc HB2.out.size (.cells #[.int .u8 1] 5));clear ho2 hg2 h42 hb3)
   | (refine wpList_app rfl (.tmp 8) (.tmp 9) 29 rfl Tryd.underlying29 HI.out.1 HI.out.2.1 HI.out.2.2.1 HI.out.2.2.2 rfl (by decide) (n:=l.length) (xs:=byts l) rfl HO3.out (m:=1) (c:=1) (news:=[.int .u8 1]) rfl HS3.out (fun u hu=>by cases hu with | head=>rfl | tail _ h=>cases h) (by unfold maxLen;omega) (by omega) HB3.out.size ?_;intro v4 w4 ho4 hg4 h44;have HB4:Hid (Below w.heap.size w w4):=lh (HB3.out.grown hg4 HB3.out.size (fun q hq=>(HO3.out.lt q hq).1));have HO4:=lh ho4;clear ho4 hg4 h44))
  go_ret
  have e:byts (l++encB true)=byts l++[.int .u8 1]:=by rw[byts_app];rfl
  have el:(l++encB true).length=l.length+1:=by rw[List.length_append];rfl
  exact⟨_,rfl,by rw[e,el];exact HO4.out,HB4.out⟩
 | false =>
  go_enter Tryd.func39,Tryd.ntmps39
  go_wp2_with (at_builtin;first
   | (refine wpList_app rfl (.tmp 11) (.tmp 12) 29 rfl Tryd.underlying29 HI.out.1 HI.out.2.1 HI.out.2.2.1 HI.out.2.2.2 rfl (by decide) (n:=0) (xs:=[]) rfl HWE.out (A:=A) (m:=l.length) (c:=c) (news:=byts l) rfl HL.out (byts_one _) (by unfold maxLen;omega) (by omega) HBE.out.size ?_;intro v2 w2 ho2 hg2 h42;rw[Nat.zero_add,List.nil_append] at ho2;obtain⟨A2,c2,rfl,_⟩:=own_shape ho2;have HB2:Hid (Below w.heap.size w w2):=lh (HBE.out.grown hg2 HBE.out.size (fun q hq=>by cases hq;exact Nat.le_refl _));have hb3:Below w2.heap.size w2 (w2.alloc (.cells #[.int .u8 0] 5)):=(Below.refl _ _).alloc (Nat.le_refl _) _;have HO3:=lh (own_below ho2 hb3);have HS3:=lh (Sl.one (w:=w2) 5 #[.int .u8 0] (by simp));have HB3:=lh (HB2.out.alloc HB2.out.size (.cells #[.int .u8 0] 5));clear ho2 hg2 h42 hb3)
   | (refine wpList_app rfl (.tmp 13) (.tmp 14) 29 rfl Tryd.underlying29 HI.out.1 HI.out.2.1 HI.out.2.2.1 HI.out.2.2.2 rfl (by decide) (n:=l.length) (xs:=byts l) rfl HO3.out (m:=1) (c:=1) (news:=[.int .u8 0]) rfl HS3.out (fun u hu=>by cases hu with | head=>rfl | tail _ h=>cases h) (by unfold maxLen;omega) (by omega) HB3.out.size ?_;intro v4 w4 ho4 hg4 h44;have HB4:Hid (Below w.heap.size w w4):=lh (HB3.out.grown hg4 HB3.out.size (fun q hq=>(HO3.out.lt q hq).1));have HO4:=lh ho4;clear ho4 hg4 h44))
  go_ret
  have e:byts (l++encB false)=byts l++[.int .u8 0]:=by rw[byts_app];rfl
  have el:(l++encB false).length=l.length+1:=by rw[List.length_append];rfl
  exact⟨_,rfl,by rw[e,el];exact HO4.out,HB4.out⟩
end
end
section
open Go.RowKit
attribute [local go_sem] Oper.semAt_some
section
variable {w:World} {A:Option Addr} {c:Nat} {l:List Int} {s:ByteArray}
set_option maxHeartbeats 4000000 in
theorem RString_any (h:Sl w 1 A l.length (byts l)) (hs:s.size≤4294967296) (hl:l.length≤4294967296):Calls Tryd.prog 40 #[.slice A l.length c,.string s] w (EncP w (l++encS s)):=by
 have cU:=RUintZ_any (c:=c) h (show P64 (s.size:Int) from ⟨by omega,by omega⟩) hl
 have hw:IntKind.u64.wrap (s.size:Int)=(s.size:Int):=by rw[IntKind.wrap_u64];omega
 obtain⟨i0,hi,hz0,hz1,hz2⟩:=info_parts i_u8
 have HI:=lh (And.intro hi (And.intro hz0 (And.intro hz1 hz2)))
 have HUL:Hid ((encU (s.size:Int)).length≤9):=lh (encU_len (by omega))
 clear h hi hz0 hz1 hz2
 go_enter Tryd.func40,Tryd.ntmps40
 go_wp2_with fail
 refine cU.mono ?_
 rintro e w1 ⟨v1,rfl,ho1,hb1⟩
 have H1:=lh (And.intro ho1 hb1)
 clear cU ho1 hb1
 go_wp2_with fail
 go_loopw [5,6] (fun v ix wr=>∃ (i:Nat) (l1:List Int),ix=.int .i64 (i:Int)∧i≤s.size∧l1=l++encU s.size++(bts s).take i∧wr.ownsRow w.heap.size 5 1 v l1.length (byts l1)∧Below w.heap.size w wr) (fun _ ix _=>s.size - (intOf ix).toNat)
 case atStart=>exact⟨0,l++encU s.size,rfl,Nat.zero_le _,by simp,H1.out.1,H1.out.2⟩
 case round =>
  clear H1
  obtain⟨i,l1,rfl,hi,hl1,ho,hb⟩:=hrel
  obtain⟨A1,c1,rfl,_⟩:=own_shape ho
  have HO:=lh (And.intro ho (And.intro hb hl1))
  have hbz:=hb.size
  have hll:l1.length≤8589934700:=by
   have:=HUL.out
   rw[hl1,List.length_append,List.length_append,List.length_take]
   omega
  clear ho hb hl1
  by_cases hlt:i < s.size
  ·obtain⟨X,hX⟩:∃ X,((s[i]'hlt).toNat:Int)=X:=⟨_,rfl⟩
   have hget:(bts s)[i]?=some X:=by
    unfold bts
    rw[List.getElem?_map,Array.getElem?_toList,Array.getElem?_eq_getElem (show i < s.data.size from hlt),← hX]
    rfl
   have htk:(bts s).take (i+1)=(bts s).take i++[X]:=by rw[List.take_add_one,hget];rfl
   have hb1:Below wr.heap.size wr (wr.alloc (.cells #[.int .u8 X] 5)):=(Below.refl _ _).alloc (Nat.le_refl _) _
   have HO1:=lh (own_below HO.out.1 hb1)
   have HS1:=lh (Sl.one (w:=wr) 5 #[.int .u8 X] (by simp))
   have HB1:=lh (HO.out.2.1.alloc hbz (.cells #[.int .u8 X] 5))
   have HTK:=lh htk
   clear hb1 hget htk
   go_wp2_with (at_builtin;refine wpList_app rfl (.tmp 18) (.tmp 22) 29 rfl Tryd.underlying29 HI.out.1 HI.out.2.1 HI.out.2.2.1 HI.out.2.2.2 rfl (by decide) (n:=l1.length) (xs:=byts l1) rfl HO1.out (m:=1) (c:=1) (news:=[.int .u8 X]) rfl HS1.out (fun u hu=>by cases hu with | head=>rfl | tail _ h=>cases h) (by unfold maxLen;omega) (by omega) HB1.out.size ?_;intro v2 w2 ho2 hg2 h42;have HO2:=lh ho2;have HB2:Hid (Below w.heap.size w w2):=lh (HB1.out.grown hg2 HB1.out.size (fun q hq=>(HO1.out.lt q hq).1));clear ho2 hg2 h42)
   go_roundw
   case rel =>
    refine⟨i+1,l1++[X],by go_num,hlt,by rw[HO.out.2.2,HTK.out];simp only[List.append_assoc],?_,HB2.out⟩
    have e:byts (l1++[X])=byts l1++[.int .u8 X]:=by rw[byts_app];rfl
    have el:(l1++[X]).length=l1.length+1:=by rw[List.length_append];rfl
    rw[e,el]
    exact HO2.out
   case measure=>simp[intOf];omega
  ·obtain rfl:i=s.size:=by omega
   have HE:Hid (l++encS s=l1):=lh (by rw[HO.out.2.2];unfold encS;rw[← bts_len,List.take_length,bts_len,List.append_assoc])
   clear hlt hi
   go_wp2_with fail
   go_ret
   exact⟨_,rfl,by rw[HE.out];exact HO.out.1,HO.out.2.1⟩
end
end
section
open Go.RowKit
attribute [local go_sem] Oper.semAt_some
theorem txt_inj {a b:List Int} (ha:B8 a) (hb:B8 b) (h:txt a=txt b):a=b:=by rw[← bts_txt ha,← bts_txt hb,h]
theorem own_spot {w:World} {base n size c:Nat} {e:TypeId} {A:Option Addr} {xs:List Value} (h:w.ownsRow base e size (.slice A n c) n xs):∀ x,A=some x→x.spot=none:=fun x hx=>by
 subst hx
 obtain⟨_,⟨h1,_⟩ | ⟨g,cap,cur,h1,_⟩⟩:=h
 ·cases h1
 ·injection h1 with h1
  injection h1 with h1
  rw[h1]
section
variable {w:World} {A B:Option Addr} {c d:Nat} {a b:List Int}
set_option maxHeartbeats 1000000 in
theorem RSame_any (ha:Sl w 1 A a.length (byts a)) (hA:∀ x,A=some x→x.spot=none) (hb:Sl w 1 B b.length (byts b)) (hB:∀ x,B=some x→x.spot=none) (h8a:B8 a) (h8b:B8 b):Calls Tryd.prog 10 #[.slice A a.length c,.slice B b.length d] w fun e w'=>e=.returned (.bool (decide (a=b)))∧w=w':=by
 have c1:(convert 29 9 (.slice A a.length c)).run Tryd.prog w=.ok (.string (txt a)) w:=by
  have:=conv_txt (c:=c) ha hA (Nat.le_refl _)
  rw[List.take_length] at this
  exact this
 have c2:(convert 29 9 (.slice B b.length d)).run Tryd.prog w=.ok (.string (txt b)) w:=by
  have:=conv_txt (c:=d) hb hB (Nat.le_refl _)
  rw[List.take_length] at this
  exact this
 obtain⟨x,hx⟩:∃ x,x=decide (a=b):=⟨_,rfl⟩
 have hxx:((txt a).toList == (txt b).toList)=x:=by
  rw[hx]
  by_cases h:a=b
  ·subst h
   simp
  ·rw[decide_eq_false h]
   simp only[beq_eq_false_iff_ne,ne_eq]
   intro e
   rw[Go.ByteArray.toList_eq,Go.ByteArray.toList_eq] at e
   refine h (txt_inj h8a h8b ?_)
   unfold txt at e ⊢
   simp only[List.toList_toArray] at e
   rw[e]
 rw[← hx]
 generalize txt a=sa at c1 hxx
 generalize txt b=sb at c2 hxx
 clear ha hA hb hB h8a h8b hx
 go_enter Tryd.func10,Tryd.ntmps10
 go_wp2_with fail
 go_ret
 exact⟨rfl,rfl⟩
end
end
end Go.Proofs.YtmbnlccafcfbeaaDoor
