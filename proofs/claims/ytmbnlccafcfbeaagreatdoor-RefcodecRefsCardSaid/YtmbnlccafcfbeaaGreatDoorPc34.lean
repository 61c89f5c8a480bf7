/- Parts of the proof: LwA, LwC, OpenK. -/
import Derived.Deep.Fields
import Derived.Deep.Slices
import Derived.OpenShut
import Derived.ProofKit
import Derived.SizedLaws
import Derived.Test.YtmbnlccafcfbeaaGreatDoorChecked
import Derived.Test.YtmbnlccafcfbeaaGreatDoorPcA
import Derived.Test.YtmbnlccafcfbeaaGreatDoorPc18
import Derived.Test.YtmbnlccafcfbeaaGreatDoorPc33
set_option linter.unusedVariables false
set_option linter.unusedSimpArgs false
set_option linter.unusedSectionVars false
set_option maxRecDepth 100000
namespace Go.Proofs.YtmbnlccafcfbeaaGreatDoor
section
open Go.RowKit Go.Sort
attribute [local go_sem] Oper.semAt_some
/-- a value that reads as a row of bytes, old or new -/
def RowC (l:List Int) (v:Value) (w:World):Prop:=∃ A c,v=.slice A l.length c∧Sl w 1 A l.length (byts l)∧l.length≤c∧∀ x,A=some x→x.spot=none
theorem RowC.bl (l:List Int):∀ v w w',RowC l v w→Below w.heap.size w w'→RowC l v w':=fun v w w' ⟨A,c,h1,h2,h3,h4⟩ hb=>⟨A,c,h1,h2.below hb,h3,h4⟩
theorem own_rowC {w:World} {base:Nat} {l:List Int} {v:Value} (h:w.ownsRow base 5 1 v l.length (byts l)):RowC l v w:=by
 obtain⟨A,c,rfl,_⟩:=own_shape h
 exact⟨A,c,rfl,own_sl h,own_le h,own_spot h⟩
theorem conv_all {w:World} {A:Option Addr} {c:Nat} {l:List Int} (hs:Sl w 1 A l.length (byts l)) (hA:∀ x,A=some x→x.spot=none):(convert 45 9 (.slice A l.length c)).run Tryz.prog w=.ok (.string (txt l)) w:=by
 have:=conv_txt (c:=c) hs hA (Nat.le_refl _)
 rw[List.take_length] at this
 exact this
theorem adds_row {P:Program} {W:World} {vs:Nat→Value} {w:World} {f:FuncId} {args:Array Value} {l:List Int} (h:Calls P f args w (EncP w l)):Made P (Adds (Ent.of (W:=W) (RowC l) (RowC.bl l)) vs w) (.ok (.enter f args) w) :=
 adds_call (hT:=RowC.bl _) (ob:=fun _=>none) h fun e w2 ⟨v,he,ho,hb⟩=>⟨_,he,own_rowC ho,hb,(fun k hk=>nomatch hk)⟩
section
variable {w:World} {l:List Int} {A:Option Addr} {c:Nat}
end
end
section
open Go.RowKit Go.Sort
attribute [local go_sem] Oper.semAt_some
theorem encRf_inj {x y:Rf} (hx:rfP x) (hy:rfP y) (h:encRf x=encRf y):x=y:=by
 have a:=codRf.fw x [] hx
 have b:=codRf.fw y [] hy
 rw[h] at a
 rw[a] at b
 exact congrArg Prod.fst b
theorem drf_enc {x:Rf} (h:rfP x) (hv:rfV x=true):drf (encRf x)=(x,0):=by
 have:=codRf.fw x [] h
 rw[List.append_nil] at this
 unfold drf
 rw[this]
 simp[hv]
theorem txt_dec {a b:List Int} (ha:B8 a) (hb:B8 b):((txt a).toList == (txt b).toList)=decide (a=b):=by
 rw[bytes_eq]
 exact decide_eq_decide.2 ⟨txt_inj ha hb,fun h=>by rw[h]⟩
section
variable {w:World} {a b:Rf}
set_option maxHeartbeats 8000000 in
theorem LRefs_any (ha:rfP a) (hb:rfP b) (ht:Tb w):Calls Tryz.prog 7 #[.agg #[.int .i64 a.kind,.int .i64 a.int,.int .i64 a.owner,.int .u64 a.number,.int .i64 a.idm,.int .i64 a.ids,.int .i64 a.cls,.bool a.weak],.agg #[.int .i64 b.kind,.int .i64 b.int,.int .i64 b.owner,.int .u64 b.number,.int .i64 b.idm,.int .i64 b.ids,.int .i64 b.cls,.bool b.weak]] w (YesP w true):=by
 obtain⟨W,hW⟩:∃ W,W=(w.alloc (.cells #[.int .i64 a.kind,.int .i64 a.int,.int .i64 a.owner,.int .u64 a.number,.int .i64 a.idm,.int .i64 a.ids,.int .i64 a.cls,.bool a.weak] 26)).alloc (.cells #[.int .i64 b.kind,.int .i64 b.int,.int .i64 b.owner,.int .u64 b.number,.int .i64 b.idm,.int .i64 b.ids,.int .i64 b.cls,.bool b.weak] 26):=⟨_,rfl⟩
 obtain⟨g,hg⟩:∃ g,g=w.heap.size:=⟨_,rfl⟩
 have hb0:Below w.heap.size w W:=by rw[hW];exact((Below.refl _ _).alloc (Nat.le_refl _) _).alloc (by simp) _
 have hk0:Bk W g 26 #[.int .i64 a.kind,.int .i64 a.int,.int .i64 a.owner,.int .u64 a.number,.int .i64 a.idm,.int .i64 a.ids,.int .i64 a.cls,.bool a.weak]:=by rw[hW,hg];exact(Bk.new _ _ _).alloc _
 have hj0:Bk W (g+1) 26 #[.int .i64 b.kind,.int .i64 b.int,.int .i64 b.owner,.int .u64 b.number,.int .i64 b.idm,.int .i64 b.ids,.int .i64 b.cls,.bool b.weak]:=by rw[hW,hg];have:=Bk.new (w.alloc (.cells #[.int .i64 a.kind,.int .i64 a.int,.int .i64 a.owner,.int .u64 a.number,.int .i64 a.idm,.int .i64 a.ids,.int .i64 a.cls,.bool a.weak] 26)) 26 #[.int .i64 b.kind,.int .i64 b.int,.int .i64 b.owner,.int .u64 b.number,.int .i64 b.idm,.int .i64 b.ids,.int .i64 b.cls,.bool b.weak];simpa using this
 have HB0:=lh hb0
 have HK0:=lh hk0
 have HJ0:=lh hj0
 have HT:=lh (ht.below hb0)
 have HP:=lh (And.intro ha hb)
 obtain⟨la,hla⟩:∃ la,la=(if rfV a=true then encRf a else []):=⟨_,rfl⟩
 obtain⟨lb,hlb⟩:∃ lb,lb=(if rfV b=true then encRf b else []):=⟨_,rfl⟩
 have HL:=lh (And.intro hla hlb)
 have hll:la.length≤64∧lb.length≤64:=by
  rw[hla,hlb]
  refine⟨?_,?_⟩
  ·split
   ·exact encRf_len ha
   ·simp
  ·split
   ·exact encRf_len hb
   ·simp
 have H8:Hid (B8 la∧B8 lb):=lh (by
  rw[hla,hlb]
  refine⟨?_,?_⟩
  ·split
   ·exact encRf_b8 ha
   ·exact B8.nil
  ·split
   ·exact encRf_b8 hb
   ·exact B8.nil)
 have HLL:=lh hll
 clear hb0 hk0 hj0 ht ha hb hla hlb hll
 go_enter Tryz.func7,Tryz.ntmps7
 go_upto_region 1 with fail
 rw[← hW,← hg]
 clear hW hg
 go_wp2_with fail
 refine(awake27 _ HT.out).mono ?_
 rintro e w1 ⟨rfl,hb1⟩
 have HB1:=lh (HB0.out.trans (hb1.mono HB0.out.size))
 have HK1:=lh (HK0.out.below hb1 HK0.out.lt)
 have HJ1:=lh (HJ0.out.below hb1 HJ0.out.lt)
 clear hb1
 go_upto_region 3 with fail
 refine wp_region_adds0 4 (fun i=>([[],[0],[],[2]]:List (List Nat)).getD i []) (EL [Ent.val (.agg #[.int .i64 a.kind,.int .i64 a.int,.int .i64 a.owner,.int .u64 a.number,.int .i64 a.idm,.int .i64 a.ids,.int .i64 a.cls,.bool a.weak]),Ent.of (RowC la) (RowC.bl _),Ent.val (.agg #[.int .i64 b.kind,.int .i64 b.int,.int .i64 b.owner,.int .u64 b.number,.int .i64 b.idm,.int .i64 b.ids,.int .i64 b.cls,.bool b.weak]),Ent.of (RowC lb) (RowC.bl _)]) (by kernel_rfl) (by kernel_rfl) (by kernel_rfl) (by kernel_rfl) (by rfl) ?_ ?_
 ·intro i hi o ho vs wq hb1 hgr
  rcases (show i=0 ∨ i=1 ∨ i=2 ∨ i=3 by omega) with rfl | rfl | rfl | rfl <;> cases ho
  ·clear hgr
   change Made _ (Adds _ _ _) (Sem.run _ (execOp (Act.eval (frm _ _ _ [])) _) _)
   simp only[frm]
   have hbk:=HK1.out.below hb1 HK1.out.lt
   have c0:wq.cell? ⟨g,0,none⟩=some (.int .i64 a.kind):=hbk.cell 0
   have c1:wq.cell? ⟨g,1,none⟩=some (.int .i64 a.int):=hbk.cell 1
   have c2:wq.cell? ⟨g,2,none⟩=some (.int .i64 a.owner):=hbk.cell 2
   have c3:wq.cell? ⟨g,3,none⟩=some (.int .u64 a.number):=hbk.cell 3
   have c4:wq.cell? ⟨g,4,none⟩=some (.int .i64 a.idm):=hbk.cell 4
   have c5:wq.cell? ⟨g,5,none⟩=some (.int .i64 a.ids):=hbk.cell 5
   have c6:wq.cell? ⟨g,6,none⟩=some (.int .i64 a.cls):=hbk.cell 6
   have c7:wq.cell? ⟨g,7,none⟩=some (.bool a.weak):=hbk.cell 7
   clear hbk
   go_simp
   exact adds_val rfl
  ·have h0:vs 0=_:=hgr 0 (by decide)
   clear hgr
   change Made _ (Adds _ _ _) (Sem.run _ (execOp (Act.eval (Act.put (frm _ _ _ []) (some 11) (vs 0))) _) _)
   simp only[frm,h0]
   have cM:=EncodeRef_any (w:=wq) (x:=a) HP.out.1
   rw[← HL.out.1] at cM
   go_simp
   exact adds_row cM
  ·clear hgr
   change Made _ (Adds _ _ _) (Sem.run _ (execOp (Act.eval (frm _ _ _ [])) _) _)
   simp only[frm]
   have hbk:=HJ1.out.below hb1 HJ1.out.lt
   have c0:wq.cell? ⟨(g+1),0,none⟩=some (.int .i64 b.kind):=hbk.cell 0
   have c1:wq.cell? ⟨(g+1),1,none⟩=some (.int .i64 b.int):=hbk.cell 1
   have c2:wq.cell? ⟨(g+1),2,none⟩=some (.int .i64 b.owner):=hbk.cell 2
   have c3:wq.cell? ⟨(g+1),3,none⟩=some (.int .u64 b.number):=hbk.cell 3
   have c4:wq.cell? ⟨(g+1),4,none⟩=some (.int .i64 b.idm):=hbk.cell 4
   have c5:wq.cell? ⟨(g+1),5,none⟩=some (.int .i64 b.ids):=hbk.cell 5
   have c6:wq.cell? ⟨(g+1),6,none⟩=some (.int .i64 b.cls):=hbk.cell 6
   have c7:wq.cell? ⟨(g+1),7,none⟩=some (.bool b.weak):=hbk.cell 7
   clear hbk
   go_simp
   exact adds_val rfl
  ·have h2:vs 2=_:=hgr 2 (by decide)
   clear hgr
   change Made _ (Adds _ _ _) (Sem.run _ (execOp (Act.eval (Act.put (frm _ _ _ []) (some 13) (vs 2))) _) _)
   simp only[frm,h2]
   have cM:=EncodeRef_any (w:=wq) (x:=b) HP.out.2
   rw[← HL.out.2] at cM
   go_simp
   exact adds_row cM
 intro vs wq hb1 hall hap
 have HR1:=lh (hall 1 (by omega)).1
 have HR3:=lh (hall 3 (by omega)).1
 clear hall hap
 change wpList _ _ _ [_,_] (Act.put (Act.put (Act.put (Act.put (frm _ _ _ []) (some 14) (vs 3)) (some 13) (vs 2)) (some 12) (vs 1)) (some 11) (vs 0)) _
 simp only[frm,frm,frm]
 obtain⟨Aa,ca,ha,sa,pa,qa⟩:=(show RowC la (vs 1) wq from HR1.out)
 obtain⟨Ab,cb,hb,sb,pb,qb⟩:=(show RowC lb (vs 3) wq from HR3.out)
 rw[ha,hb]
 have HSA:=lh (And.intro sa (And.intro pa qa))
 have HSB:=lh (And.intro sb (And.intro pb qb))
 clear ha hb sa pa qa sb pb qb HR1 HR3
 have HB2:=lh (HB1.out.trans (hb1.mono HB1.out.size))
 have hk2:=HK1.out.below hb1 HK1.out.lt
 have hj2:=HJ1.out.below hb1 HJ1.out.lt
 have HK2:=lh hk2
 have HJ2:=lh hj2
 have a0:wq.cell? ⟨g,0,none⟩=some (.int .i64 a.kind):=hk2.cell 0
 have a1:wq.cell? ⟨g,1,none⟩=some (.int .i64 a.int):=hk2.cell 1
 have a2:wq.cell? ⟨g,2,none⟩=some (.int .i64 a.owner):=hk2.cell 2
 have a3:wq.cell? ⟨g,3,none⟩=some (.int .u64 a.number):=hk2.cell 3
 have a4:wq.cell? ⟨g,4,none⟩=some (.int .i64 a.idm):=hk2.cell 4
 have a5:wq.cell? ⟨g,5,none⟩=some (.int .i64 a.ids):=hk2.cell 5
 have a6:wq.cell? ⟨g,6,none⟩=some (.int .i64 a.cls):=hk2.cell 6
 have a7:wq.cell? ⟨g,7,none⟩=some (.bool a.weak):=hk2.cell 7
 have cV:=RVref_any wq a
 clear hb1 hk2 hj2
 cases hva:rfV a with
 | false =>
  rw[hva] at cV
  have hl0:la=[]:=by rw[HL.out.1,hva];rfl
  subst hl0
  clear hva
  go_wp2_with fail
  refine cV.mono ?_
  rintro e w3 ⟨rfl,hb3⟩
  have HB3:=lh (HB2.out.trans (hb3.mono HB2.out.size))
  clear hb3 cV
  go_wp2_with fail
  go_ret
  exact⟨rfl,HB3.out⟩
 | true =>
  rw[hva] at cV
  have hl0:la=encRf a:=by rw[HL.out.1,hva,if_pos rfl]
  have HLA:=lh (And.intro hl0 hva)
  have hlp:¬ (la.length:Int)=0:=by rw[hl0];have:=encRf_one a;omega
  have hlq:((la.length:Int) == 0)=false:=by simpa using hlp
  clear hva hl0 hlp
  go_wp2_with fail
  refine cV.mono ?_
  rintro e w3 ⟨rfl,hb3⟩
  have HB3:=lh (HB2.out.trans (hb3.mono HB2.out.size))
  have HK3:=lh (HK2.out.below hb3 HK2.out.lt)
  have HJ3:=lh (HJ2.out.below hb3 HJ2.out.lt)
  have HSA3:=lh (HSA.out.1.below hb3)
  have HSB3:=lh (HSB.out.1.below hb3)
  have cD:=DecodeRef_any (c:=ca) HSA3.out HSA.out.2.1 H8.out.1 (by have:=HLL.out;omega)
  have hdd:drf la=(a,0):=by rw[HLA.out.1];exact drf_enc HP.out.1 HLA.out.2
  rw[hdd] at cD
  simp only[rfC] at cD
  clear cV hb3 hdd a0 a1 a2 a3 a4 a5 a6 a7
  go_upto_region 7 with (go_at_call 22;refine cD.mono ?_;rintro e w4 ⟨rfl,hb4⟩)
  have HB4:=lh (HB3.out.trans (hb4.mono HB3.out.size))
  obtain⟨w5,hw5⟩:∃ w5,w5=w4.alloc (.cells #[.int .i64 a.kind,.int .i64 a.int,.int .i64 a.owner,.int .u64 a.number,.int .i64 a.idm,.int .i64 a.ids,.int .i64 a.cls,.bool a.weak] 26):=⟨_,rfl⟩
  obtain⟨g5,hg5⟩:∃ g5,g5=w4.heap.size:=⟨_,rfl⟩
  have hb5:Below w4.heap.size w4 w5:=by rw[hw5];exact below_one _ _
  have hk5:Bk w5 g5 26 #[.int .i64 a.kind,.int .i64 a.int,.int .i64 a.owner,.int .u64 a.number,.int .i64 a.idm,.int .i64 a.ids,.int .i64 a.cls,.bool a.weak]:=by rw[hw5,hg5];exact Bk.new _ _ _
  have hb45:=hb4.trans (hb5.mono hb4.size)
  have HB5:=lh (HB4.out.trans (hb5.mono HB4.out.size))
  have hka:=HK3.out.below hb45 HK3.out.lt
  have hjb:=HJ3.out.below hb45 HJ3.out.lt
  have HK5:=lh hka
  have HJ5:=lh hjb
  have HSA5:=lh (HSA3.out.below hb45)
  have HSB5:=lh (HSB3.out.below hb45)
  have m0:w5.cell? ⟨g,0,none⟩=some (.int .i64 a.kind):=hka.cell 0
  have m1:w5.cell? ⟨g,1,none⟩=some (.int .i64 a.int):=hka.cell 1
  have m2:w5.cell? ⟨g,2,none⟩=some (.int .i64 a.owner):=hka.cell 2
  have m3:w5.cell? ⟨g,3,none⟩=some (.int .u64 a.number):=hka.cell 3
  have m4:w5.cell? ⟨g,4,none⟩=some (.int .i64 a.idm):=hka.cell 4
  have m5:w5.cell? ⟨g,5,none⟩=some (.int .i64 a.ids):=hka.cell 5
  have m6:w5.cell? ⟨g,6,none⟩=some (.int .i64 a.cls):=hka.cell 6
  have m7:w5.cell? ⟨g,7,none⟩=some (.bool a.weak):=hka.cell 7
  have n0:w5.cell? ⟨g5,0,none⟩=some (.int .i64 a.kind):=hk5.cell 0
  have n1:w5.cell? ⟨g5,1,none⟩=some (.int .i64 a.int):=hk5.cell 1
  have n2:w5.cell? ⟨g5,2,none⟩=some (.int .i64 a.owner):=hk5.cell 2
  have n3:w5.cell? ⟨g5,3,none⟩=some (.int .u64 a.number):=hk5.cell 3
  have n4:w5.cell? ⟨g5,4,none⟩=some (.int .i64 a.idm):=hk5.cell 4
  have n5:w5.cell? ⟨g5,5,none⟩=some (.int .i64 a.ids):=hk5.cell 5
  have n6:w5.cell? ⟨g5,6,none⟩=some (.int .i64 a.cls):=hk5.cell 6
  have n7:w5.cell? ⟨g5,7,none⟩=some (.bool a.weak):=hk5.cell 7
  have hee:=fun WW=>neq_rf WW a a
  rw[show decide (a≠a)=false by simp] at hee
  rw[← hw5,← hg5]
  clear hw5 hg5 hb5 hk5 hb45 hka hjb hb4 cD
  go_upto_region 9 with fail
  clear m0 n0 m1 n1 m2 n2 m3 n3 m4 n4 m5 n5 m6 n6 m7 n7 hee
  cases hvb:rfV b with
  | false =>
   have kb0:=cell_regrown (show w5.cell? ⟨g+1,0,none⟩=some (.int .i64 b.kind) from HJ5.out.cell 0)
   have kb1:=cell_regrown (show w5.cell? ⟨g+1,1,none⟩=some (.int .i64 b.int) from HJ5.out.cell 1)
   have kb2:=cell_regrown (show w5.cell? ⟨g+1,2,none⟩=some (.int .i64 b.owner) from HJ5.out.cell 2)
   have kb3:=cell_regrown (show w5.cell? ⟨g+1,3,none⟩=some (.int .u64 b.number) from HJ5.out.cell 3)
   have kb4:=cell_regrown (show w5.cell? ⟨g+1,4,none⟩=some (.int .i64 b.idm) from HJ5.out.cell 4)
   have kb5:=cell_regrown (show w5.cell? ⟨g+1,5,none⟩=some (.int .i64 b.ids) from HJ5.out.cell 5)
   have kb6:=cell_regrown (show w5.cell? ⟨g+1,6,none⟩=some (.int .i64 b.cls) from HJ5.out.cell 6)
   have kb7:=cell_regrown (show w5.cell? ⟨g+1,7,none⟩=some (.bool b.weak) from HJ5.out.cell 7)
   have cB:=fun dd os=>Calls.regrown_of (w:=w5) (d:=dd) (os:=os) (RVref_any (grow (redrawn w5 dd) os) b)
   rw[hvb] at cB
   clear hvb
   refine wp_region_quiet_below (by kernel_rfl) (by kernel_rfl) ?_
   repeat (first | go_big_quiet_step ((exact cB _ _)) | quiet_step ((exact cB _ _)))
   refine wpQuiet_nil ?_
   intro w6 hw'
   have HB6:=lh (HB5.out.trans ((quiet_one hw').mono HB5.out.size))
   clear hw' cB
   go_wp2_with fail
   go_ret
   exact⟨rfl,HB6.out⟩
  | true =>
   have HVB:=lh hvb
   have hlb0:lb=encRf b:=by rw[HL.out.2,hvb,if_pos rfl]
   have hde:decide (la=lb)=decide (a=b):=by rw[HLA.out.1,hlb0];exact decide_eq_decide.2 ⟨encRf_inj HP.out.1 HP.out.2,fun h=>by rw[h]⟩
   obtain⟨z,hz⟩:∃ z,z=decide (a=b):=⟨_,rfl⟩
   have HZ:Hid (((txt la).toList == (txt lb).toList)=z):=lh (by rw[txt_dec H8.out.1 H8.out.2,hde,hz])
   have hqq:=fun WW=>eql_rfs WW a b
   rw[← hz] at hqq
   have HQ:=lh hqq
   clear hvb hlb0 hde hz hqq
   refine wp_region_addsG 14 (fun i=>([[],[0],[1],[2],[3],[3],[3,4,5],[3],[3,7],[3],[3,9],[3,8,10],[3,6,11],[3,12]]:List (List Nat)).getD i []) (EL [Ent.val (.agg #[.int .i64 b.kind,.int .i64 b.int,.int .i64 b.owner,.int .u64 b.number,.int .i64 b.idm,.int .i64 b.ids,.int .i64 b.cls,.bool b.weak]),Ent.val (.bool true),Ent.val (.bool false),Ent.val (.bool false),Ent.val (.agg #[.int .i64 a.kind,.int .i64 a.int,.int .i64 a.owner,.int .u64 a.number,.int .i64 a.idm,.int .i64 a.ids,.int .i64 a.cls,.bool a.weak]),Ent.val (.agg #[.int .i64 b.kind,.int .i64 b.int,.int .i64 b.owner,.int .u64 b.number,.int .i64 b.idm,.int .i64 b.ids,.int .i64 b.cls,.bool b.weak]),Ent.val (.bool z),Ent.val (.slice Aa la.length ca),Ent.val (.string (txt la)),Ent.val (.slice Ab lb.length cb),Ent.val (.string (txt lb)),Ent.val (.bool z),Ent.val (.bool true),Ent.val (.bool true)]) (by kernel_rfl) (by kernel_rfl) (by kernel_rfl) (by rfl) ?_ ?_ ?_
   ·intro i hi o ho g b hgb vs v w6 hR
    rcases (show i=0 ∨ i=1 ∨ i=2 ∨ i=3 ∨ i=4 ∨ i=5 ∨ i=6 ∨ i=7 ∨ i=8 ∨ i=9 ∨ i=10 ∨ i=11 ∨ i=12 ∨ i=13 by omega) with rfl | rfl | rfl | rfl | rfl | rfl | rfl | rfl | rfl | rfl | rfl | rfl | rfl | rfl <;> cases ho <;> first | (cases hgb;exact hR) | cases hgb
   ·intro i hi o ho vs w6 hb1 hgr
    rcases (show i=0 ∨ i=1 ∨ i=2 ∨ i=3 ∨ i=4 ∨ i=5 ∨ i=6 ∨ i=7 ∨ i=8 ∨ i=9 ∨ i=10 ∨ i=11 ∨ i=12 ∨ i=13 by omega) with rfl | rfl | rfl | rfl | rfl | rfl | rfl | rfl | rfl | rfl | rfl | rfl | rfl | rfl <;> cases ho
    ·clear hgr
     change Made _ (Adds _ _ _) (Sem.run _ (execOp (Act.eval (frm _ _ _ [])) _) _)
     simp only[frm]
     have hbk:=HJ5.out.below hb1 HJ5.out.lt
     have c0:w6.cell? ⟨(g+1),0,none⟩=some (.int .i64 b.kind):=hbk.cell 0
     have c1:w6.cell? ⟨(g+1),1,none⟩=some (.int .i64 b.int):=hbk.cell 1
     have c2:w6.cell? ⟨(g+1),2,none⟩=some (.int .i64 b.owner):=hbk.cell 2
     have c3:w6.cell? ⟨(g+1),3,none⟩=some (.int .u64 b.number):=hbk.cell 3
     have c4:w6.cell? ⟨(g+1),4,none⟩=some (.int .i64 b.idm):=hbk.cell 4
     have c5:w6.cell? ⟨(g+1),5,none⟩=some (.int .i64 b.ids):=hbk.cell 5
     have c6:w6.cell? ⟨(g+1),6,none⟩=some (.int .i64 b.cls):=hbk.cell 6
     have c7:w6.cell? ⟨(g+1),7,none⟩=some (.bool b.weak):=hbk.cell 7
     clear hbk
     go_simp
     exact adds_val rfl
    ·have h0:vs 0=_:=hgr 0 (by decide)
     clear hgr
     change Made _ (Adds _ _ _) (Sem.run _ (execOp (Act.eval (Act.put (frm _ _ _ []) (some 38) (vs 0))) _) _)
     simp only[frm,h0]
     have cM:=RVref_any w6 b
     rw[HVB.out] at cM
     go_simp
     exact adds_below cM
    ·have h1:vs 1=_:=hgr 1 (by decide)
     clear hgr
     change Made _ (Adds _ _ _) (Sem.run _ (execOp (Act.eval (Act.put (frm _ _ _ []) (some 39) (vs 1))) _) _)
     simp only[frm,h1]
     go_simp
     exact adds_val rfl
    ·have h2:vs 2=_:=hgr 2 (by decide)
     clear hgr
     change Made _ (Adds _ _ _) (Sem.run _ (execOp (Act.eval (Act.put (frm _ _ _ []) (some 40) (vs 2))) _) _)
     simp only[frm,h2]
     go_simp
     exact adds_val rfl
    ·have h3:vs 3=_:=hgr 3 (by decide)
     clear hgr
     change Made _ (Adds _ _ _) (Sem.run _ (execOp (Act.eval (Act.put (frm _ _ _ []) (some 41) (vs 3))) _) _)
     simp only[frm,h3]
     have hbk:=HK5.out.below hb1 HK5.out.lt
     have c0:w6.cell? ⟨g,0,none⟩=some (.int .i64 a.kind):=hbk.cell 0
     have c1:w6.cell? ⟨g,1,none⟩=some (.int .i64 a.int):=hbk.cell 1
     have c2:w6.cell? ⟨g,2,none⟩=some (.int .i64 a.owner):=hbk.cell 2
     have c3:w6.cell? ⟨g,3,none⟩=some (.int .u64 a.number):=hbk.cell 3
     have c4:w6.cell? ⟨g,4,none⟩=some (.int .i64 a.idm):=hbk.cell 4
     have c5:w6.cell? ⟨g,5,none⟩=some (.int .i64 a.ids):=hbk.cell 5
     have c6:w6.cell? ⟨g,6,none⟩=some (.int .i64 a.cls):=hbk.cell 6
     have c7:w6.cell? ⟨g,7,none⟩=some (.bool a.weak):=hbk.cell 7
     clear hbk
     go_simp
     exact adds_val rfl
    ·have h3:vs 3=_:=hgr 3 (by decide)
     clear hgr
     change Made _ (Adds _ _ _) (Sem.run _ (execOp (Act.eval (Act.put (frm _ _ _ []) (some 41) (vs 3))) _) _)
     simp only[frm,h3]
     have hbk:=HJ5.out.below hb1 HJ5.out.lt
     have c0:w6.cell? ⟨(g+1),0,none⟩=some (.int .i64 b.kind):=hbk.cell 0
     have c1:w6.cell? ⟨(g+1),1,none⟩=some (.int .i64 b.int):=hbk.cell 1
     have c2:w6.cell? ⟨(g+1),2,none⟩=some (.int .i64 b.owner):=hbk.cell 2
     have c3:w6.cell? ⟨(g+1),3,none⟩=some (.int .u64 b.number):=hbk.cell 3
     have c4:w6.cell? ⟨(g+1),4,none⟩=some (.int .i64 b.idm):=hbk.cell 4
     have c5:w6.cell? ⟨(g+1),5,none⟩=some (.int .i64 b.ids):=hbk.cell 5
     have c6:w6.cell? ⟨(g+1),6,none⟩=some (.int .i64 b.cls):=hbk.cell 6
     have c7:w6.cell? ⟨(g+1),7,none⟩=some (.bool b.weak):=hbk.cell 7
     clear hbk
     go_simp
     exact adds_val rfl
    ·have h3:vs 3=_:=hgr 3 (by decide)
     have h4:vs 4=_:=hgr 4 (by decide)
     have h5:vs 5=_:=hgr 5 (by decide)
     clear hgr
     change Made _ (Adds _ _ _) (Sem.run _ (execOp (Act.eval (Act.put (Act.put (Act.put (frm _ _ _ []) (some 43) (vs 5)) (some 42) (vs 4)) (some 41) (vs 3))) _) _)
     simp only[frm,h3,h4,h5]
     have hqq:=HQ.out
     go_simp
     exact adds_val rfl
    ·have h3:vs 3=_:=hgr 3 (by decide)
     clear hgr
     change Made _ (Adds _ _ _) (Sem.run _ (execOp (Act.eval (Act.put (frm _ _ _ []) (some 41) (vs 3))) _) _)
     simp only[frm,h3]
     go_simp
     exact adds_val rfl
    ·have h3:vs 3=_:=hgr 3 (by decide)
     have h7:vs 7=_:=hgr 7 (by decide)
     clear hgr
     change Made _ (Adds _ _ _) (Sem.run _ (execOp (Act.eval (Act.put (Act.put (frm _ _ _ []) (some 45) (vs 7)) (some 41) (vs 3))) _) _)
     simp only[frm,h3,h7]
     have hcv:=conv_all (c:=ca) (HSA5.out.below hb1) HSA.out.2.2
     go_simp
     exact adds_val rfl
    ·have h3:vs 3=_:=hgr 3 (by decide)
     clear hgr
     change Made _ (Adds _ _ _) (Sem.run _ (execOp (Act.eval (Act.put (frm _ _ _ []) (some 41) (vs 3))) _) _)
     simp only[frm,h3]
     go_simp
     exact adds_val rfl
    ·have h3:vs 3=_:=hgr 3 (by decide)
     have h9:vs 9=_:=hgr 9 (by decide)
     clear hgr
     change Made _ (Adds _ _ _) (Sem.run _ (execOp (Act.eval (Act.put (Act.put (frm _ _ _ []) (some 47) (vs 9)) (some 41) (vs 3))) _) _)
     simp only[frm,h3,h9]
     have hcv:=conv_all (c:=cb) (HSB5.out.below hb1) HSB.out.2.2
     go_simp
     exact adds_val rfl
    ·have h3:vs 3=_:=hgr 3 (by decide)
     have h8:vs 8=_:=hgr 8 (by decide)
     have h10:vs 10=_:=hgr 10 (by decide)
     clear hgr
     change Made _ (Adds _ _ _) (Sem.run _ (execOp (Act.eval (Act.put (Act.put (Act.put (frm _ _ _ []) (some 48) (vs 10)) (some 46) (vs 8)) (some 41) (vs 3))) _) _)
     simp only[frm,h3,h8,h10]
     have hqq:=HZ.out
     go_simp
     exact adds_val rfl
    ·have h3:vs 3=_:=hgr 3 (by decide)
     have h6:vs 6=_:=hgr 6 (by decide)
     have h11:vs 11=_:=hgr 11 (by decide)
     clear hgr
     change Made _ (Adds _ _ _) (Sem.run _ (execOp (Act.eval (Act.put (Act.put (Act.put (frm _ _ _ []) (some 49) (vs 11)) (some 44) (vs 6)) (some 41) (vs 3))) _) _)
     simp only[frm,h3,h6,h11]
     go_simp
     exact adds_val rfl
    ·have h3:vs 3=_:=hgr 3 (by decide)
     have h12:vs 12=_:=hgr 12 (by decide)
     clear hgr
     change Made _ (Adds _ _ _) (Sem.run _ (execOp (Act.eval (Act.put (Act.put (frm _ _ _ []) (some 50) (vs 12)) (some 41) (vs 3))) _) _)
     simp only[frm,h3,h12]
     go_simp
     exact adds_val rfl
   intro vs w6 hb1 hall hap
   have h13:vs 13=_:=(hall 13 (by omega)).1
   clear hall hap
   change wpList _ _ _ [_] (Act.put (Act.put (Act.put (Act.put (Act.put (Act.put (Act.put (Act.put (Act.put (Act.put (Act.put (Act.put (Act.put (Act.put (frm _ _ _ []) (some 51) (vs 13)) (some 50) (vs 12)) (some 49) (vs 11)) (some 48) (vs 10)) (some 47) (vs 9)) (some 46) (vs 8)) (some 45) (vs 7)) (some 44) (vs 6)) (some 43) (vs 5)) (some 42) (vs 4)) (some 41) (vs 3)) (some 40) (vs 2)) (some 39) (vs 1)) (some 38) (vs 0)) _
   simp only[frm,h13]
   go_wp2_with fail
   go_ret
   exact⟨rfl,HB5.out.trans (hb1.mono HB5.out.size)⟩
end
end
section
open Go.ChangeShapes Go.WideShapes Go.ChangeAt Go.RowKit Go.Deep
def SlR {α:Type} (R:World→α→List Value→Prop) (w:World) (s:Nat) (A:Option Addr) (n:Nat) (xs:List α):Prop :=
 xs.length=n∧(n=0 ∨ ∃ b o,A=some ⟨b,o,none⟩∧b < w.heap.size∧∀ i x,xs[i]?=some x→∃ r:List Value,r.length=s∧R w x r∧∀ j v,r[j]?=some v→w.cell? ⟨b,o+i*s+j,none⟩=some v)
theorem SlR.nil {α:Type} (R:World→α→List Value→Prop) (w:World) (s:Nat) (A:Option Addr):SlR R w s A 0 []:=⟨rfl,.inl rfl⟩
theorem SlR.get {α:Type} {R:World→α→List Value→Prop} {w:World} {s n:Nat} {A:Option Addr} {xs:List α} (h:SlR R w s A n xs) {k:Nat} (hk:k < n) :
  ∃ b o x r,A=some ⟨b,o,none⟩∧b < w.heap.size∧xs[k]?=some x∧r.length=s∧R w x r∧∀ j v,r[j]?=some v→w.cell? ⟨b,o+k*s+j,none⟩=some v:=by
 rcases h.2 with h0 | ⟨b,o,hA,hb,hc⟩
 ·omega
 ·obtain⟨x,hx⟩:∃ x,xs[k]?=some x:=⟨_,List.getElem?_eq_getElem (by rw[h.1];exact hk)⟩
  obtain⟨r,h1,h2,h3⟩:=hc k x hx
  exact⟨b,o,x,r,hA,hb,hx,h1,h2,h3⟩
def Wgt {H:Type} (P:Program) (t:TypeId) (d:DataW H):Prop:=∀ n∈d.weights P t,n≤reachBytes
theorem wgt_of {H:Type} {P:Program} {ts:List TypeId} {ds:List (DataW H)} (h:(DataW.weightsEach P ts ds).all (·≤reachBytes)=true) {j:Nat} {t:TypeId} {d:DataW H} (ht:ts[j]?=some t) (hd:ds[j]?=some d):Wgt P t d :=
 fun n hn=>by simpa using List.all_eq_true.1 h n (DataW.weights_mem_each ht hd n hn)
section
variable {H:Type} {enc:TypeId × Value→H} {w:World} {base:Nat} {spare:Nat→Bool} {held:Bool}
theorem SlR.all {α:Type} {R:World→α→List Value→Prop} {s n:Nat} {A:Option Addr} {xs:List α} (h:SlR R w s A n xs) {P:α→Prop} (hP:∀ x r,R w x r→P x):∀ x∈xs,P x:=fun x hx=>by
 obtain⟨i,hi⟩:=List.mem_iff_getElem?.1 hx
 have hil:=(List.getElem?_eq_some_iff.1 hi).1
 obtain⟨b,o,y,r,_,_,hy,_,hR,_⟩:=h.get (k:=i) (by rw[← h.1];exact hil)
 rw[hi] at hy
 cases hy
 exact hP _ _ hR
/-- one reference -/
def RfR (w:World) (x:Rf) (r:List Value):Prop:=r=rfC x∧rfP x
theorem cellsRef:Tryz.prog.cellsOf 26=8:=by kernel_rfl
theorem cellsI:Tryz.prog.cellsOf 3=1:=by kernel_rfl
theorem cellsI64:Tryz.prog.cellsOf 2=1:=by kernel_rfl
theorem cellsU64:Tryz.prog.cellsOf 22=1:=by kernel_rfl
theorem cellsB:Tryz.prog.cellsOf 4=1:=by kernel_rfl
theorem cellsID:Tryz.prog.cellsOf 24=2:=by kernel_rfl
theorem wfI {x:Int} (h:(Lit.int .i64 x).wf=true):I64 x:=by
 simp only[Lit.wf,Bool.and_eq_true,decide_eq_true_eq] at h
 have e1:IntKind.i64.min=-9223372036854775808:=rfl
 have e2:IntKind.i64.max=9223372036854775807:=rfl
 rw[e1,e2] at h
 exact⟨h.1,h.2⟩
theorem wfU {x:Int} (h:(Lit.int .u64 x).wf=true):P64 x:=by
 simp only[Lit.wf,Bool.and_eq_true,decide_eq_true_eq] at h
 have e1:IntKind.u64.min=0:=rfl
 have e2:IntKind.u64.max=18446744073709551615:=rfl
 rw[e1,e2] at h
 unfold P64
 omega
theorem open_idR {n:Nat} {cs:List Value} {x:DataW H × List MemPlace} (hlen:cs.length=2) (h:DataW.trod enc Tryz.prog w base spare held n 24 cs=some x):∃ a b,cs=[.int .i64 a,.int .i64 b]∧I64 a∧I64 b:=by
 obtain⟨xs,n,_,rfl,_,hxl,hg⟩:=DataW.trod_struct Tryz.underlying24 h
 match cs,hlen with
 | [u0,u1],_ =>
  match xs,hxl with
  | [y0,y1],_ =>
   have h0:DataW.trod enc Tryz.prog w base spare held n 3 (([u0,u1].drop 0).take (Tryz.prog.cellsOf 3))=some y0:=hg 0 _ rfl
   have h1:DataW.trod enc Tryz.prog w base spare held n 3 (([u0,u1].drop 1).take (Tryz.prog.cellsOf 3))=some y1:=hg 1 _ rfl
   rw[cellsI] at h0 h1
   obtain⟨a,e0,_,w0⟩:=DataW.trod_int Tryz.underlying3 (show DataW.trod enc Tryz.prog w base spare held n 3 [u0]=some y0 from h0)
   obtain⟨b,e1,_,w1⟩:=DataW.trod_int Tryz.underlying3 (show DataW.trod enc Tryz.prog w base spare held n 3 [u1]=some y1 from h1)
   simp only[List.cons.injEq,and_true] at e0 e1
   subst e0 e1
   exact⟨a,b,rfl,wfI w0,wfI w1⟩
theorem open_refR (fuel:Nat) (cs:List Value) (x:DataW H × List MemPlace) (hlen:cs.length=8) (h:DataW.trod enc Tryz.prog w base spare held fuel 26 cs=some x) (_:Wgt Tryz.prog 26 x.1):∃ y,RfR w y cs:=by
 obtain⟨xs,n,_,rfl,_,hxl,hg⟩:=DataW.trod_struct Tryz.underlying26 h
 match cs,hlen with
 | [u0,u1,u2,u3,u4,u5,u6,u7],_ =>
  match xs,hxl with
  | [y0,y1,y2,y3,y4,y5,y6],_ =>
   have h0:DataW.trod enc Tryz.prog w base spare held n 3 (([u0,u1,u2,u3,u4,u5,u6,u7].drop 0).take (Tryz.prog.cellsOf 3))=some y0:=hg 0 _ rfl
   have h1:DataW.trod enc Tryz.prog w base spare held n 2 (([u0,u1,u2,u3,u4,u5,u6,u7].drop 1).take (Tryz.prog.cellsOf 2))=some y1:=hg 1 _ rfl
   have h2:DataW.trod enc Tryz.prog w base spare held n 3 (([u0,u1,u2,u3,u4,u5,u6,u7].drop 2).take (Tryz.prog.cellsOf 3))=some y2:=hg 2 _ rfl
   have h3:DataW.trod enc Tryz.prog w base spare held n 22 (([u0,u1,u2,u3,u4,u5,u6,u7].drop 3).take (Tryz.prog.cellsOf 22))=some y3:=hg 3 _ rfl
   have h4:DataW.trod enc Tryz.prog w base spare held n 24 (([u0,u1,u2,u3,u4,u5,u6,u7].drop 4).take (Tryz.prog.cellsOf 24))=some y4:=hg 4 _ rfl
   have h5:DataW.trod enc Tryz.prog w base spare held n 3 (([u0,u1,u2,u3,u4,u5,u6,u7].drop 6).take (Tryz.prog.cellsOf 3))=some y5:=hg 5 _ rfl
   have h6:DataW.trod enc Tryz.prog w base spare held n 4 (([u0,u1,u2,u3,u4,u5,u6,u7].drop 7).take (Tryz.prog.cellsOf 4))=some y6:=hg 6 _ rfl
   rw[cellsI] at h0 h2 h5
   rw[cellsI64] at h1
   rw[cellsU64] at h3
   rw[cellsID] at h4
   rw[cellsB] at h6
   obtain⟨a0,e0,_,w0⟩:=DataW.trod_int Tryz.underlying3 (show DataW.trod enc Tryz.prog w base spare held n 3 [u0]=some y0 from h0)
   obtain⟨a1,e1,_,w1⟩:=DataW.trod_int Tryz.underlying2 (show DataW.trod enc Tryz.prog w base spare held n 2 [u1]=some y1 from h1)
   obtain⟨a2,e2,_,w2⟩:=DataW.trod_int Tryz.underlying3 (show DataW.trod enc Tryz.prog w base spare held n 3 [u2]=some y2 from h2)
   obtain⟨a3,e3,_,w3⟩:=DataW.trod_int Tryz.underlying22 (show DataW.trod enc Tryz.prog w base spare held n 22 [u3]=some y3 from h3)
   obtain⟨a4,b4,e4,w4,v4⟩:=open_idR (by rfl) (show DataW.trod enc Tryz.prog w base spare held n 24 [u4,u5]=some y4 from h4)
   obtain⟨a5,e5,_,w5⟩:=DataW.trod_int Tryz.underlying3 (show DataW.trod enc Tryz.prog w base spare held n 3 [u6]=some y5 from h5)
   obtain⟨a6,e6,_⟩:=DataW.trod_bool Tryz.underlying4 (show DataW.trod enc Tryz.prog w base spare held n 4 [u7]=some y6 from h6)
   simp only[List.cons.injEq,and_true] at e0 e1 e2 e3 e4 e5 e6
   obtain⟨e4,e4'⟩:=e4
   subst e0 e1 e2 e3 e4 e4' e5 e6
   exact⟨⟨a0,a1,a2,a3,a4,b4,a5,a6⟩,rfl,wfI w0,wfI w2,wfI w5,wfI w1,wfU w3,w4,v4⟩
theorem open_refV {r:_root_.Go.Reach} {b0:Nat} {v:Value} {d:DataW H} {p:List MemPlace} (hv:Value.okWide Tryz.prog w r b0 26 v) (h:DataW.Trod enc Tryz.prog w base spare held 26 v d p) (hw:Wgt Tryz.prog 26 d) :
  ∃ x,v=.agg (rfC x).toArray∧rfP x:=by
 obtain⟨cs,rfl,hsz⟩:=okWide_struct Tryz.underlying26 hv
 rw[cellsRef] at hsz
 obtain⟨fuel,hf⟩:=h
 obtain⟨m,hm,hp⟩:=open_refR fuel cs.toList _ (by simpa using hsz) hf hw
 exact⟨m,by rw[← hm],hp⟩
end
end
end Go.Proofs.YtmbnlccafcfbeaaGreatDoor
