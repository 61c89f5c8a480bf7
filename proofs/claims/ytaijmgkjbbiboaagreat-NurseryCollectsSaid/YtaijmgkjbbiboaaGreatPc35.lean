/- Parts of the proof: Eq10, Wds10, Cov10, RNurC. -/
import Derived.Test.YtaijmgkjbbiboaaGreatPcA
import Derived.Test.YtaijmgkjbbiboaaGreatPc14
import Derived.Test.YtaijmgkjbbiboaaGreatPc15
import Derived.Test.YtaijmgkjbbiboaaGreatPc16
import Derived.Test.YtaijmgkjbbiboaaGreatPc23
import Derived.Test.YtaijmgkjbbiboaaGreatPc26
import Derived.Test.YtaijmgkjbbiboaaGreatPc29
import Derived.Test.YtaijmgkjbbiboaaGreatPc33
import Derived.Test.YtaijmgkjbbiboaaGreatPc34
set_option linter.unusedVariables false
set_option linter.unusedSimpArgs false
set_option linter.unusedSectionVars false
set_option maxRecDepth 100000
namespace Go.Proofs.YtaijmgkjbbiboaaGreat
section
open Go.RowKit Go.Sort
attribute [local go_sem] Oper.semAt_some onlyN_normal
theorem CsI.hit {cs:List Int} {n:Nat} (h:CsI cs n) {j:Nat} {c:Int} (hc:cs[j]?=some c):cardIn cs (16*c)=true:=by
 have hm:=List.mem_of_getElem? hc
 have h1:=h.rg c hm
 unfold cardIn oldB
 rw[show 16*c / 16=c by omega]
 simp[hm]
 omega
section
variable {w:World} {B g1 g2:Nat} {V1 V2:Value} {m:Mm} {s:Spc} {A:Option Addr} {c:Nat}
set_option maxHeartbeats 8000000 in
theorem Equal10_any (h:MR w B g1 g2 V1 V2 m) (hs:RS w s A c) (hat:∀ (j:Nat) (x:Int),s.ws[j]?=some x→m.at_ (s.base+(j:Int))=some x):Calls Tryz.prog 77 #[.agg #[.pointer (some ⟨g1,0,none⟩),.pointer (some ⟨g2,0,none⟩)],.agg #[.int .i64 s.base,.int .i64 s.limit,.slice A s.ws.length c],.int .i64 s.top] w fun e w'=>e=.returned (.bool true)∧Below w.heap.size w w':=by
 have hb1:Below w.heap.size w ((w.alloc (.cells #[.pointer (some ⟨g1,0,none⟩),.pointer (some ⟨g2,0,none⟩)] 29)).alloc (.cells #[.int .i64 s.base,.int .i64 s.limit,.slice A s.ws.length c] 33)):=((Below.refl _ w).alloc (Nat.le_refl _) _).alloc (by simp) _
 have HBM:Hid (Bk ((w.alloc (.cells #[.pointer (some ⟨g1,0,none⟩),.pointer (some ⟨g2,0,none⟩)] 29)).alloc (.cells #[.int .i64 s.base,.int .i64 s.limit,.slice A s.ws.length c] 33)) w.heap.size 29 #[.pointer (some ⟨g1,0,none⟩),.pointer (some ⟨g2,0,none⟩)]):=lh (Bk.alloc (Bk.new _ _ _) _)
 have HBR:Hid (Bk ((w.alloc (.cells #[.pointer (some ⟨g1,0,none⟩),.pointer (some ⟨g2,0,none⟩)] 29)).alloc (.cells #[.int .i64 s.base,.int .i64 s.limit,.slice A s.ws.length c] 33)) (w.heap.size+1) 33 #[.int .i64 s.base,.int .i64 s.limit,.slice A s.ws.length c]):=lh (Bk.here _ _ _ (by simp))
 have H:=lh (h.below hb1)
 have HS:=lh (hs.below hb1)
 have HB:=lh hb1
 have HAT:=lh hat
 have HLIM:Hid (0≤s.base∧s.base+(s.ws.length:Int)≤4294967296):=lh ⟨hs.b0,by have:=hs.lim;have:=hs.l0;omega⟩
 clear h hs hb1 hat
 go_enter Tryz.func77,Tryz.ntmps77
 go_upto_region 1 with fail
 generalize ((w.alloc (.cells #[.pointer (some ⟨g1,0,none⟩),.pointer (some ⟨g2,0,none⟩)] 29)).alloc (.cells #[.int .i64 s.base,.int .i64 s.limit,.slice A s.ws.length c] 33))=w0 at *
 obtain⟨bm,hbm⟩:∃ bm,bm=w.heap.size:=⟨_,rfl⟩
 obtain⟨br,hbr⟩:∃ br,br=w.heap.size+1:=⟨_,rfl⟩
 rw[← hbr] at HBR
 rw[← hbm] at HBM
 rw[← hbr,← hbm]
 clear hbr hbm
 have cT:=RTop_any HS.out
 unfold rsV at cT
 have r0:w0.cell? ⟨br,0,none⟩=some (.int .i64 s.base):=HBR.out.cell 0
 have r1:w0.cell? ⟨br,1,none⟩=some (.int .i64 s.limit):=HBR.out.cell 1
 have r2:w0.cell? ⟨br,2,none⟩=some (.slice A s.ws.length c):=HBR.out.cell 2
 go_wp2_with fail
 refine cT.mono ?_
 rintro e w1 ⟨rfl,hb1⟩
 have H1:=lh (H.out.below hb1)
 have HS1:=lh (HS.out.below hb1)
 have HB1:=lh (HB.out.trans (hb1.mono HB.out.size))
 have HBM1:=lh (HBM.out.below hb1 HBM.out.lt)
 have HBR1:=lh (HBR.out.below hb1 HBR.out.lt)
 clear hb1 H HS HB HBM HBR cT r0 r1 r2
 go_wp2_with fail
 go_loopw [7,8,9] (fun i _ _ wr=>∃ j:Nat,i=.int .i64 (j:Int)∧j≤s.ws.length∧Below w1.heap.size w1 wr) (fun i _ _ _=>s.ws.length - (intOf i).toNat)
 case atStart=>exact⟨0,rfl,Nat.zero_le _,Below.refl _ _⟩
 case round =>
  obtain⟨j,rfl,hj,hb⟩:=hrel
  have HB2:=lh hb
  have hbm:=HBM1.out.below hb HBM1.out.lt
  have hbr:=HBR1.out.below hb HBR1.out.lt
  have HBM2:=lh hbm
  have HBR2:=lh hbr
  have m0:wr.cell? ⟨bm,0,none⟩=some (.pointer (some ⟨g1,0,none⟩)):=hbm.cell 0
  have m1:wr.cell? ⟨bm,1,none⟩=some (.pointer (some ⟨g2,0,none⟩)):=hbm.cell 1
  have r0:wr.cell? ⟨br,0,none⟩=some (.int .i64 s.base):=hbr.cell 0
  have r2:wr.cell? ⟨br,2,none⟩=some (.slice A s.ws.length c):=hbr.cell 2
  have HSR:=lh (HS1.out.below hb)
  clear hbm hbr
  have hlb:s.ws.length≤4294967296:=by have:=HLIM.out;omega
  by_cases hlt:j < s.ws.length
  ·have hx:s.ws[j]?=some s.ws[j]:=List.getElem?_eq_getElem hlt
   have hux:=HS1.out.u _ (List.mem_of_getElem? hx)
   have cL:=MLoad_of (H1.out.below hb) (s.base+(j:Int))
   unfold atV at cL
   rw[HAT.out j _ hx] at cL
   dsimp only at cL
   obtain⟨bb,oo,hA,hbl,hc⟩:=HSR.out.sl.2.resolve_left (by omega)
   have hcj:=hc j _ (wds_get hx)
   have hcap:=HSR.out.cap
   have HCJ:=lh hcj
   have HCB:=lh hbl
   subst hA
   generalize s.ws[j]=x at *
   have hadd:IntKind.i64.wrap (s.base+(j:Int))=s.base+(j:Int):=IntWalk.i64_in _ (by have:=HLIM.out;omega)
   clear hb hx hc hcj hbl
   go_wp2_with fail
   refine cL.mono ?_
   rintro e w3 ⟨rfl,hb3⟩
   have HB3:=lh (HB2.out.trans (hb3.mono HB2.out.size))
   have hbr:=HBR2.out.below hb3 HBR2.out.lt
   have r2:w3.cell? ⟨br,2,none⟩=some (.slice (some ⟨bb,oo,none⟩) s.ws.length c):=hbr.cell 2
   have e1:w3.cell? ⟨bb,oo+j,none⟩=some (.int .u64 x):=((bcell hb3).1 _ _ HCB.out).trans HCJ.out
   clear cL hb3 hbr m0 m1 r0
   go_wp2_with fail
   go_roundw
   case rel=>exact⟨j+1,by go_num,by omega,HB3.out⟩
   case measure=>simp[intOf];omega
  ·go_wp2_with fail
   go_ret
   exact⟨rfl,HB1.out.trans (HB2.out.mono HB1.out.size)⟩
end
section
variable {w:World} {B g1 g2 B2 gt bt k n:Nat} {V1 V2:Value} {m:Mm} {cs:List Int} {A1 A2 A:Option Addr} {u1 u2 u:Nat}
set_option maxHeartbeats 8000000 in
theorem Same10_any (h:MR w B g1 g2 V1 V2 m) (hc:CR w B2 gt bt k cs) (hr:RM w m A1 u1 A2 u2) (hrc:RC w cs A u) (hci:CsI cs n) (hn:n≤1000000):Calls Tryz.prog 33 #[.agg #[.pointer (some ⟨g1,0,none⟩),.pointer (some ⟨g2,0,none⟩)],.pointer (some ⟨gt,0,none⟩),.agg #[.int .i64 m.old.base,.int .i64 m.old.limit,.slice A1 m.old.ws.length u1,.int .i64 m.yng.base,.int .i64 m.yng.limit,.slice A2 m.yng.ws.length u2],.agg #[.slice A cs.length u]] w fun e w'=>e=.returned (.bool true)∧Below w.heap.size w w':=by
 have hb1:Below w.heap.size w (((w.alloc (.cells #[.pointer (some ⟨g1,0,none⟩),.pointer (some ⟨g2,0,none⟩)] 29)).alloc (.cells #[.int .i64 m.old.base,.int .i64 m.old.limit,.slice A1 m.old.ws.length u1,.int .i64 m.yng.base,.int .i64 m.yng.limit,.slice A2 m.yng.ws.length u2] 35)).alloc (.cells #[.slice A cs.length u] 37)):=(((Below.refl _ w).alloc (Nat.le_refl _) _).alloc (by simp) _).alloc (by simp;omega) _
 have HBM:Hid (Bk (((w.alloc (.cells #[.pointer (some ⟨g1,0,none⟩),.pointer (some ⟨g2,0,none⟩)] 29)).alloc (.cells #[.int .i64 m.old.base,.int .i64 m.old.limit,.slice A1 m.old.ws.length u1,.int .i64 m.yng.base,.int .i64 m.yng.limit,.slice A2 m.yng.ws.length u2] 35)).alloc (.cells #[.slice A cs.length u] 37)) w.heap.size 29 #[.pointer (some ⟨g1,0,none⟩),.pointer (some ⟨g2,0,none⟩)]):=lh (Bk.alloc (Bk.alloc (Bk.new _ _ _) _) _)
 have HBR:Hid (Bk (((w.alloc (.cells #[.pointer (some ⟨g1,0,none⟩),.pointer (some ⟨g2,0,none⟩)] 29)).alloc (.cells #[.int .i64 m.old.base,.int .i64 m.old.limit,.slice A1 m.old.ws.length u1,.int .i64 m.yng.base,.int .i64 m.yng.limit,.slice A2 m.yng.ws.length u2] 35)).alloc (.cells #[.slice A cs.length u] 37)) (w.heap.size+1) 35 #[.int .i64 m.old.base,.int .i64 m.old.limit,.slice A1 m.old.ws.length u1,.int .i64 m.yng.base,.int .i64 m.yng.limit,.slice A2 m.yng.ws.length u2]):=lh (Bk.alloc (Bk.here _ _ _ (by simp)) _)
 have HBT:Hid (Bk (((w.alloc (.cells #[.pointer (some ⟨g1,0,none⟩),.pointer (some ⟨g2,0,none⟩)] 29)).alloc (.cells #[.int .i64 m.old.base,.int .i64 m.old.limit,.slice A1 m.old.ws.length u1,.int .i64 m.yng.base,.int .i64 m.yng.limit,.slice A2 m.yng.ws.length u2] 35)).alloc (.cells #[.slice A cs.length u] 37)) (w.heap.size+1+1) 37 #[.slice A cs.length u]):=lh (Bk.here _ _ _ (by simp))
 have H:=lh (h.below hb1)
 have HR:=lh (hr.below hb1)
 have HC:=lh (hc.below hb1)
 have HRC:=lh (hrc.below hb1)
 have HB:=lh hb1
 have HCI:=lh hci
 have HWF:Hid (∀ x∈cs,(Lit.int .i64 x).wf=true):=lh (fun x hx=>WalkArith.wf_i64 (by have:=hci.rg x hx;omega))
 have HAO:Hid (∀ (j:Nat) (x:Int),m.old.ws[j]?=some x→m.at_ (m.old.base+(j:Int))=some x):=lh (fun j x hx=>by
  have hl:=(List.getElem?_eq_some_iff.1 hx).1
  have hh:m.old.has (m.old.base+(j:Int))=true:=Spc.has_iff.2 ⟨by omega,by omega⟩
  unfold Mm.at_ Mm.sp
  rw[if_pos hh]
  unfold Spc.at_
  rw[if_pos hh,← hx]
  congr 1
  omega)
 have HAY:Hid (∀ (j:Nat) (x:Int),m.yng.ws[j]?=some x→m.at_ (m.yng.base+(j:Int))=some x):=lh (fun j x hx=>by
  have hl:=(List.getElem?_eq_some_iff.1 hx).1
  have hh:m.yng.has (m.yng.base+(j:Int))=true:=Spc.has_iff.2 ⟨by omega,by omega⟩
  have hg:=h.ok.yng_ge hh
  have hno:¬ m.old.has (m.yng.base+(j:Int))=true:=fun e=>by have:=h.ok.old_lt e;omega
  unfold Mm.at_ Mm.sp
  rw[if_neg hno]
  unfold Spc.at_
  rw[if_pos hh,← hx]
  congr 1
  omega)
 have hcl:cs.length≤1000000:=Nat.le_trans hci.len hn
 clear h hr hc hrc hb1 hci
 go_enter Tryz.func33,Tryz.ntmps33
 go_upto_region 1 with fail
 generalize (((w.alloc (.cells #[.pointer (some ⟨g1,0,none⟩),.pointer (some ⟨g2,0,none⟩)] 29)).alloc (.cells #[.int .i64 m.old.base,.int .i64 m.old.limit,.slice A1 m.old.ws.length u1,.int .i64 m.yng.base,.int .i64 m.yng.limit,.slice A2 m.yng.ws.length u2] 35)).alloc (.cells #[.slice A cs.length u] 37))=w0 at *
 obtain⟨bm,hbm⟩:∃ bm,bm=w.heap.size:=⟨_,rfl⟩
 obtain⟨br,hbr⟩:∃ br,br=w.heap.size+1:=⟨_,rfl⟩
 obtain⟨bt_,hbt⟩:∃ bt_,bt_=w.heap.size+1+1:=⟨_,rfl⟩
 rw[← hbt] at HBT
 rw[← hbr] at HBR
 rw[← hbm] at HBM
 rw[← hbt,← hbr,← hbm]
 clear hbt hbr hbm
 refine wp_region_addsG 26 (fun i=>([[],[],[1],[],[3],[4],[0,2,5],[6],[7],[8],[8],[8,10],[8],[8,12],[8,13],[8,9,11,14],[8,15],[8,16],[17],[18],[18,19],[18,20],[18],[18,22],[18,23],[18,21,24]]:List (List Nat)).getD i []) (EL [Ent.val (.agg #[.pointer (some ⟨g1,0,none⟩),.pointer (some ⟨g2,0,none⟩)]),Ent.val (.pointer (some ⟨br,0,none⟩)),Ent.val (.agg #[.int .i64 m.old.base,.int .i64 m.old.limit,.slice A1 m.old.ws.length u1]),Ent.val (.pointer (some ⟨bm,0,none⟩)),Ent.val (.pointer (some ⟨g1,0,none⟩)),Ent.val (.int .i64 m.old.top),Ent.val (.bool true),Ent.val (.bool false),Ent.val (.bool false),Ent.val (.agg #[.pointer (some ⟨g1,0,none⟩),.pointer (some ⟨g2,0,none⟩)]),Ent.val (.pointer (some ⟨br,3,none⟩)),Ent.val (.agg #[.int .i64 m.yng.base,.int .i64 m.yng.limit,.slice A2 m.yng.ws.length u2]),Ent.val (.pointer (some ⟨bm,1,none⟩)),Ent.val (.pointer (some ⟨g2,0,none⟩)),Ent.val (.int .i64 m.yng.top),Ent.val (.bool true),Ent.val (.bool false),Ent.val (.bool false),Ent.val (.bool false),Ent.val (.pointer (some ⟨gt,0,none⟩)),Ent.of (IsT w0.heap.size cs) IsT.bl,Ent.val (.int .i64 (cs.length:Int)),Ent.val (.pointer (some ⟨bt_,0,none⟩)),Ent.val (.slice A cs.length u),Ent.val (.int .i64 (cs.length:Int)),Ent.val (.bool false)]) (by kernel_rfl) (by kernel_rfl) (by kernel_rfl) (by rfl) ?_ ?_ ?_
 ·intro i hi o ho g b hgb vs v w1 hR
  rcases (show i=0 ∨ i=1 ∨ i=2 ∨ i=3 ∨ i=4 ∨ i=5 ∨ i=6 ∨ i=7 ∨ i=8 ∨ i=9 ∨ i=10 ∨ i=11 ∨ i=12 ∨ i=13 ∨ i=14 ∨ i=15 ∨ i=16 ∨ i=17 ∨ i=18 ∨ i=19 ∨ i=20 ∨ i=21 ∨ i=22 ∨ i=23 ∨ i=24 ∨ i=25 by omega) with rfl | rfl | rfl | rfl | rfl | rfl | rfl | rfl | rfl | rfl | rfl | rfl | rfl | rfl | rfl | rfl | rfl | rfl | rfl | rfl | rfl | rfl | rfl | rfl | rfl | rfl <;> cases ho <;> first | (cases hgb;exact hR) | cases hgb
 ·intro i hi o ho vs w1 hb1 hgr
  rcases (show i=0 ∨ i=1 ∨ i=2 ∨ i=3 ∨ i=4 ∨ i=5 ∨ i=6 ∨ i=7 ∨ i=8 ∨ i=9 ∨ i=10 ∨ i=11 ∨ i=12 ∨ i=13 ∨ i=14 ∨ i=15 ∨ i=16 ∨ i=17 ∨ i=18 ∨ i=19 ∨ i=20 ∨ i=21 ∨ i=22 ∨ i=23 ∨ i=24 ∨ i=25 by omega) with rfl | rfl | rfl | rfl | rfl | rfl | rfl | rfl | rfl | rfl | rfl | rfl | rfl | rfl | rfl | rfl | rfl | rfl | rfl | rfl | rfl | rfl | rfl | rfl | rfl | rfl <;> cases ho
  ·clear hgr
   change Made _ (Adds _ _ _) (Sem.run _ (execOp (Act.eval (frm _ _ _ [])) _) _)
   simp only[frm]
   have hbk:=HBM.out.below hb1 HBM.out.lt
   have c0:w1.cell? ⟨bm,0,none⟩=some (.pointer (some ⟨g1,0,none⟩)):=hbk.cell 0
   have c1:w1.cell? ⟨bm,1,none⟩=some (.pointer (some ⟨g2,0,none⟩)):=hbk.cell 1
   clear hbk
   go_simp
   exact adds_val rfl
  ·clear hgr
   change Made _ (Adds _ _ _) (Sem.run _ (execOp (Act.eval (frm _ _ _ [])) _) _)
   simp only[frm]
   go_simp
   exact adds_val rfl
  ·have h1:vs 1=_:=hgr 1 (by decide)
   clear hgr
   change Made _ (Adds _ _ _) (Sem.run _ (execOp (Act.eval (Act.put (frm _ _ _ []) (some 11) (vs 1))) _) _)
   simp only[frm,h1]
   have hbk:=HBR.out.below hb1 HBR.out.lt
   have c0:w1.cell? ⟨br,0,none⟩=some (.int .i64 m.old.base):=hbk.cell 0
   have c1:w1.cell? ⟨br,1,none⟩=some (.int .i64 m.old.limit):=hbk.cell 1
   have c2:w1.cell? ⟨br,2,none⟩=some (.slice A1 m.old.ws.length u1):=hbk.cell 2
   clear hbk
   go_simp
   exact adds_val rfl
  ·clear hgr
   change Made _ (Adds _ _ _) (Sem.run _ (execOp (Act.eval (frm _ _ _ [])) _) _)
   simp only[frm]
   go_simp
   exact adds_val rfl
  ·have h3:vs 3=_:=hgr 3 (by decide)
   clear hgr
   change Made _ (Adds _ _ _) (Sem.run _ (execOp (Act.eval (Act.put (frm _ _ _ []) (some 13) (vs 3))) _) _)
   simp only[frm,h3]
   have hbk:=HBM.out.below hb1 HBM.out.lt
   have c0:w1.cell? ⟨bm,0,none⟩=some (.pointer (some ⟨g1,0,none⟩)):=hbk.cell 0
   clear hbk
   go_simp
   exact adds_val rfl
  ·have h4:vs 4=_:=hgr 4 (by decide)
   clear hgr
   change Made _ (Adds _ _ _) (Sem.run _ (execOp (Act.eval (Act.put (frm _ _ _ []) (some 14) (vs 4))) _) _)
   simp only[frm,h4]
   have cM:=Top_any (H.out.below hb1).o
   go_simp
   exact adds_below cM
  ·have h0:vs 0=_:=hgr 0 (by decide)
   have h2:vs 2=_:=hgr 2 (by decide)
   have h5:vs 5=_:=hgr 5 (by decide)
   clear hgr
   change Made _ (Adds _ _ _) (Sem.run _ (execOp (Act.eval (Act.put (Act.put (Act.put (frm _ _ _ []) (some 15) (vs 5)) (some 12) (vs 2)) (some 10) (vs 0))) _) _)
   simp only[frm,h0,h2,h5]
   have cM:=Equal10_any (H.out.below hb1) (HR.out.below hb1).o HAO.out
   go_simp
   exact adds_below cM
  ·have h6:vs 6=_:=hgr 6 (by decide)
   clear hgr
   change Made _ (Adds _ _ _) (Sem.run _ (execOp (Act.eval (Act.put (frm _ _ _ []) (some 16) (vs 6))) _) _)
   simp only[frm,h6]
   go_simp
   exact adds_val rfl
  ·have h7:vs 7=_:=hgr 7 (by decide)
   clear hgr
   change Made _ (Adds _ _ _) (Sem.run _ (execOp (Act.eval (Act.put (frm _ _ _ []) (some 17) (vs 7))) _) _)
   simp only[frm,h7]
   go_simp
   exact adds_val rfl
  ·have h8:vs 8=_:=hgr 8 (by decide)
   clear hgr
   change Made _ (Adds _ _ _) (Sem.run _ (execOp (Act.eval (Act.put (frm _ _ _ []) (some 18) (vs 8))) _) _)
   simp only[frm,h8]
   have hbk:=HBM.out.below hb1 HBM.out.lt
   have c0:w1.cell? ⟨bm,0,none⟩=some (.pointer (some ⟨g1,0,none⟩)):=hbk.cell 0
   have c1:w1.cell? ⟨bm,1,none⟩=some (.pointer (some ⟨g2,0,none⟩)):=hbk.cell 1
   clear hbk
   go_simp
   exact adds_val rfl
  ·have h8:vs 8=_:=hgr 8 (by decide)
   clear hgr
   change Made _ (Adds _ _ _) (Sem.run _ (execOp (Act.eval (Act.put (frm _ _ _ []) (some 18) (vs 8))) _) _)
   simp only[frm,h8]
   go_simp
   exact adds_val rfl
  ·have h8:vs 8=_:=hgr 8 (by decide)
   have h10:vs 10=_:=hgr 10 (by decide)
   clear hgr
   change Made _ (Adds _ _ _) (Sem.run _ (execOp (Act.eval (Act.put (Act.put (frm _ _ _ []) (some 20) (vs 10)) (some 18) (vs 8))) _) _)
   simp only[frm,h8,h10]
   have hbk:=HBR.out.below hb1 HBR.out.lt
   have c0:w1.cell? ⟨br,3,none⟩=some (.int .i64 m.yng.base):=hbk.cell 3
   have c1:w1.cell? ⟨br,4,none⟩=some (.int .i64 m.yng.limit):=hbk.cell 4
   have c2:w1.cell? ⟨br,5,none⟩=some (.slice A2 m.yng.ws.length u2):=hbk.cell 5
   clear hbk
   go_simp
   exact adds_val rfl
  ·have h8:vs 8=_:=hgr 8 (by decide)
   clear hgr
   change Made _ (Adds _ _ _) (Sem.run _ (execOp (Act.eval (Act.put (frm _ _ _ []) (some 18) (vs 8))) _) _)
   simp only[frm,h8]
   go_simp
   exact adds_val rfl
  ·have h8:vs 8=_:=hgr 8 (by decide)
   have h12:vs 12=_:=hgr 12 (by decide)
   clear hgr
   change Made _ (Adds _ _ _) (Sem.run _ (execOp (Act.eval (Act.put (Act.put (frm _ _ _ []) (some 22) (vs 12)) (some 18) (vs 8))) _) _)
   simp only[frm,h8,h12]
   have hbk:=HBM.out.below hb1 HBM.out.lt
   have c0:w1.cell? ⟨bm,1,none⟩=some (.pointer (some ⟨g2,0,none⟩)):=hbk.cell 1
   clear hbk
   go_simp
   exact adds_val rfl
  ·have h8:vs 8=_:=hgr 8 (by decide)
   have h13:vs 13=_:=hgr 13 (by decide)
   clear hgr
   change Made _ (Adds _ _ _) (Sem.run _ (execOp (Act.eval (Act.put (Act.put (frm _ _ _ []) (some 23) (vs 13)) (some 18) (vs 8))) _) _)
   simp only[frm,h8,h13]
   have cM:=Top_any (H.out.below hb1).y
   go_simp
   exact adds_below cM
  ·have h8:vs 8=_:=hgr 8 (by decide)
   have h9:vs 9=_:=hgr 9 (by decide)
   have h11:vs 11=_:=hgr 11 (by decide)
   have h14:vs 14=_:=hgr 14 (by decide)
   clear hgr
   change Made _ (Adds _ _ _) (Sem.run _ (execOp (Act.eval (Act.put (Act.put (Act.put (Act.put (frm _ _ _ []) (some 24) (vs 14)) (some 21) (vs 11)) (some 19) (vs 9)) (some 18) (vs 8))) _) _)
   simp only[frm,h8,h9,h11,h14]
   have cM:=Equal10_any (H.out.below hb1) (HR.out.below hb1).y HAY.out
   go_simp
   exact adds_below cM
  ·have h8:vs 8=_:=hgr 8 (by decide)
   have h15:vs 15=_:=hgr 15 (by decide)
   clear hgr
   change Made _ (Adds _ _ _) (Sem.run _ (execOp (Act.eval (Act.put (Act.put (frm _ _ _ []) (some 25) (vs 15)) (some 18) (vs 8))) _) _)
   simp only[frm,h8,h15]
   go_simp
   exact adds_val rfl
  ·have h8:vs 8=_:=hgr 8 (by decide)
   have h16:vs 16=_:=hgr 16 (by decide)
   clear hgr
   change Made _ (Adds _ _ _) (Sem.run _ (execOp (Act.eval (Act.put (Act.put (frm _ _ _ []) (some 26) (vs 16)) (some 18) (vs 8))) _) _)
   simp only[frm,h8,h16]
   go_simp
   exact adds_val rfl
  ·have h17:vs 17=_:=hgr 17 (by decide)
   clear hgr
   change Made _ (Adds _ _ _) (Sem.run _ (execOp (Act.eval (Act.put (frm _ _ _ []) (some 27) (vs 17))) _) _)
   simp only[frm,h17]
   go_simp
   exact adds_val rfl
  ·have h18:vs 18=_:=hgr 18 (by decide)
   clear hgr
   change Made _ (Adds _ _ _) (Sem.run _ (execOp (Act.eval (Act.put (frm _ _ _ []) (some 28) (vs 18))) _) _)
   simp only[frm,h18]
   go_simp
   exact adds_val rfl
  ·have h18:vs 18=_:=hgr 18 (by decide)
   have h19:vs 19=_:=hgr 19 (by decide)
   clear hgr
   change Made _ (Adds _ _ _) (Sem.run _ (execOp (Act.eval (Act.put (Act.put (frm _ _ _ []) (some 29) (vs 19)) (some 28) (vs 18))) _) _)
   simp only[frm,h18,h19]
   have cM:=Cards_any (HC.out.below hb1) HCI.out.inc HWF.out (by have:=HCI.out.len;omega)
   go_simp
   exact adds_call (T:=IsT w0.heap.size cs) (hT:=IsT.bl) (ob:=fun _=>none) cM fun e w2 ⟨v,he,ho,hb⟩=>⟨v,he,IsT.of ho hb1.size,hb,(fun k hk=>nomatch hk)⟩
  ·have h18:vs 18=_:=hgr 18 (by decide)
   obtain⟨Ar,cr,h20,hsr,hcr,hgr20⟩:=hgr 20 (by decide)
   clear hgr
   change Made _ (Adds _ _ _) (Sem.run _ (execOp (Act.eval (Act.put (Act.put (frm _ _ _ []) (some 30) (vs 20)) (some 28) (vs 18))) _) _)
   simp only[frm,h18,h20]
   go_simp
   exact adds_val rfl
  ·have h18:vs 18=_:=hgr 18 (by decide)
   clear hgr
   change Made _ (Adds _ _ _) (Sem.run _ (execOp (Act.eval (Act.put (frm _ _ _ []) (some 28) (vs 18))) _) _)
   simp only[frm,h18]
   go_simp
   exact adds_val rfl
  ·have h18:vs 18=_:=hgr 18 (by decide)
   have h22:vs 22=_:=hgr 22 (by decide)
   clear hgr
   change Made _ (Adds _ _ _) (Sem.run _ (execOp (Act.eval (Act.put (Act.put (frm _ _ _ []) (some 32) (vs 22)) (some 28) (vs 18))) _) _)
   simp only[frm,h18,h22]
   have hbk:=HBT.out.below hb1 HBT.out.lt
   have c0:w1.cell? ⟨bt_,0,none⟩=some (.slice A cs.length u):=hbk.cell 0
   clear hbk
   go_simp
   exact adds_val rfl
  ·have h18:vs 18=_:=hgr 18 (by decide)
   have h23:vs 23=_:=hgr 23 (by decide)
   clear hgr
   change Made _ (Adds _ _ _) (Sem.run _ (execOp (Act.eval (Act.put (Act.put (frm _ _ _ []) (some 33) (vs 23)) (some 28) (vs 18))) _) _)
   simp only[frm,h18,h23]
   go_simp
   exact adds_val rfl
  ·have h18:vs 18=_:=hgr 18 (by decide)
   have h21:vs 21=_:=hgr 21 (by decide)
   have h24:vs 24=_:=hgr 24 (by decide)
   clear hgr
   change Made _ (Adds _ _ _) (Sem.run _ (execOp (Act.eval (Act.put (Act.put (Act.put (frm _ _ _ []) (some 34) (vs 24)) (some 31) (vs 21)) (some 28) (vs 18))) _) _)
   simp only[frm,h18,h21,h24]
   go_simp
   exact adds_val rfl
 ·intro vs w1 hb1 hall hap
  have h18:vs 18=_:=(hall 18 (by omega)).1
  have h25:vs 25=_:=(hall 25 (by omega)).1
  clear hall hap
  change wpList _ _ _ [_] (Act.put (Act.put (Act.put (Act.put (Act.put (Act.put (Act.put (Act.put (Act.put (Act.put (Act.put (Act.put (Act.put (Act.put (Act.put (Act.put (Act.put (Act.put (Act.put (Act.put (Act.put (Act.put (Act.put (Act.put (Act.put (Act.put (frm _ _ _ []) (some 35) (vs 25)) (some 34) (vs 24)) (some 33) (vs 23)) (some 32) (vs 22)) (some 31) (vs 21)) (some 30) (vs 20)) (some 29) (vs 19)) (some 28) (vs 18)) (some 27) (vs 17)) (some 26) (vs 16)) (some 25) (vs 15)) (some 24) (vs 14)) (some 23) (vs 13)) (some 22) (vs 12)) (some 21) (vs 11)) (some 20) (vs 10)) (some 19) (vs 9)) (some 18) (vs 8)) (some 17) (vs 7)) (some 16) (vs 6)) (some 15) (vs 5)) (some 14) (vs 4)) (some 13) (vs 3)) (some 12) (vs 2)) (some 11) (vs 1)) (some 10) (vs 0)) _
  simp only[frm,h18,h25]
  have H1:=lh (H.out.below hb1)
  have HC1:=lh (HC.out.below hb1)
  have HRC1:=lh (HRC.out.below hb1)
  have HB1:=lh (HB.out.trans (hb1.mono HB.out.size))
  have HBT1:=lh (HBT.out.below hb1 HBT.out.lt)
  clear hb1 H HC HRC HB HBM HBR HBT HAO HAY HWF HR
  go_wp2_with fail
  go_loopw [9] (fun i wr=>∃ j:Nat,i=.int .i64 (j:Int)∧j≤cs.length∧Below w1.heap.size w1 wr) (fun i _=>cs.length - (intOf i).toNat)
  case atStart=>exact⟨0,rfl,Nat.zero_le _,Below.refl _ _⟩
  case round =>
   obtain⟨j,rfl,hj,hb⟩:=hrel
   have HB2:=lh hb
   have hbt:=HBT1.out.below hb HBT1.out.lt
   have r0:wr.cell? ⟨bt_,0,none⟩=some (.slice A cs.length u):=hbt.cell 0
   clear hbt
   by_cases hlt:j < cs.length
   ·have hx:cs[j]?=some cs[j]:=List.getElem?_eq_getElem hlt
    have hrg:=HCI.out.rg _ (List.mem_of_getElem? hx)
    have cM:=Marked_any (HC1.out.below hb) (16*cs[j])
    have hin:cardIn cs (16*cs[j])=true:=HCI.out.hit hx
    rw[hin] at cM
    obtain⟨bb,oo,hA,hbl,hc⟩:=(HRC1.out.below hb).s.sl.2.resolve_left (by omega)
    have hcj:wr.cell? ⟨bb,oo+j,none⟩=some (.int .i64 cs[j]):=hc j _ (ints_get hx)
    have hcap:=HRC1.out.s.cap
    subst hA
    generalize cs[j]=x at *
    have hmul:IntKind.i64.wrap (16*x)=16*x:=IntWalk.i64_in _ (by omega)
    clear hb hx hc hin hbl
    go_wp2_with fail
    refine cM.mono ?_
    rintro e w3 ⟨rfl,rfl⟩
    go_wp2_with fail
    go_roundw
    case rel=>exact⟨j+1,by go_num,by omega,HB2.out⟩
    case measure=>simp[intOf];omega
   ·go_wp2_with fail
    go_ret
    exact⟨rfl,HB1.out.trans (HB2.out.mono HB1.out.size)⟩
end
end
section
open Go.RowKit Go.Sort
set_option maxHeartbeats 1000000 in
theorem Words6_any (l m:List Int) (A B:Option Addr) (c d:Nat) (w:World) (hl:l.length≤140737488355328) (hc:l.length≤c) (hd:m.length≤d) (h1:Sl w 1 A l.length (wds l)) (h2:Sl w 1 B m.length (wds m)) :
  Calls Tryz.prog 32 #[.slice A l.length c,.slice B m.length d] w fun e w'=>e=.returned (.bool (eqL l m))∧∃ n,w'=w.drewN n:=by
 by_cases hlen:l.length=m.length
 ·have hb:((l.length:Int) != (m.length:Int))=false:=by rw[hlen];simp
  go_enter Tryz.func32,Tryz.ntmps32
  have HL:=lh hlen
  clear hlen
  go_wp2
  go_loopw [5] (fun i wr=>∃ k n:Nat,i=.int .i64 (k:Int)∧k≤l.length∧wr=w.drewN n∧l.take k=m.take k) (fun i _=>l.length - (intOf i).toNat)
  case atStart=>exact⟨0,0,rfl,Nat.zero_le _,rfl,rfl⟩
  case round =>
   obtain⟨k,n,rfl,hk,rfl,htk⟩:=hrel
   by_cases hlt:k < l.length
   ·obtain⟨b,o,rfl,hb1,hc1⟩:=h1.get hlt
    obtain⟨b',o',rfl,hb2,hc2⟩:=h2.get (HL.out ▸ hlt)
    have hlt2:k < m.length:=HL.out ▸ hlt
    have e1:w.cell? ⟨b,o+k,none⟩=some (.int .u64 l[k]):=hc1 k _ (by simp[wds,hlt])
    have e2:w.cell? ⟨b',o'+k,none⟩=some (.int .u64 m[k]):=hc2 k _ (by simp[wds,hlt2])
    have t1:l[k]?=some l[k]:=List.getElem?_eq_getElem hlt
    have t2:m[k]?=some m[k]:=List.getElem?_eq_getElem hlt2
    generalize l[k]=x at e1 t1
    generalize m[k]=y at e2 t2
    have HT:=lh (And.intro t1 t2)
    have HK:=lh htk
    have hcc:k < c:=by omega
    have hdd:k < d:=by omega
    clear t1 t2 htk hc1 hc2 h1 h2
    by_cases hxy:x=y
    ·have hb3:(x != y)=false:=by simp[hxy]
     have HX:=lh hxy
     clear hxy
     go_wp2
     go_quiet (fail)
     go_wp2
     go_roundw
     case rel =>
      refine⟨k+1,_,by go_num,by omega,rfl,?_⟩
      rw[List.take_add_one,List.take_add_one,HT.out.1,HT.out.2,HK.out,HX.out]
     case measure=>simp[intOf];omega
    ·have hb3:(x != y)=true:=by simp[hxy]
     have HX:=lh hxy
     clear hxy
     go_wp2
     go_quiet (fail)
     go_wp2
     go_ret
     exact⟨ret_bool (decide_eq_false (list_ne_of_get HT.out.1 HT.out.2 HX.out)).symm,_,World.drewN_drewN _ _ _⟩
   ·obtain rfl:k=l.length:=by omega
    have HK:=lh htk
    clear htk
    go_wp2
    go_ret
    refine⟨ret_bool (decide_eq_true ?_).symm,_,rfl⟩
    have:=HK.out
    rwa [List.take_length,HL.out,List.take_length] at this
 ·have hb:((l.length:Int) != (m.length:Int))=true:=by simp;omega
  have HL:=lh hlen
  clear hlen
  go_enter Tryz.func32,Tryz.ntmps32
  go_wp2
  go_ret
  exact⟨ret_bool (decide_eq_false (fun h=>HL.out (by rw[h]))).symm,0,rfl⟩
theorem Words_b {w:World} {l:List Int} {A B:Option Addr} {c d:Nat} (hl:l.length≤100000000) (hc:l.length≤c) (hd:l.length≤d) (h1:Sl w 1 A l.length (wds l)) (h2:Sl w 1 B l.length (wds l)):Calls Tryz.prog 32 #[.slice A l.length c,.slice B l.length d] w fun e w'=>e=.returned (.bool true)∧Below w.heap.size w w' :=
 (Words6_any l l A B c d w (by omega) hc hd h1 h2).mono fun e w' h=>by
  obtain⟨rfl,n,rfl⟩:=h
  rw[show eqL l l=true from decide_eq_true rfl]
  exact⟨rfl,below_drewN (Below.refl _ _) n⟩
end
section
open Go.RowKit Go.Sort
attribute [local go_sem] Oper.semAt_some onlyN_normal
section
variable {w:World} {B g:Nat} {s:Spc} {V:Value} {A:Option Addr} {c:Nat}
theorem RChk_any (h:RS w s A c):Calls Tryz.prog 16 #[.agg #[.int .i64 s.base,.int .i64 s.limit,.slice A s.ws.length c]] w fun e w'=>e=.returned (.int .i64 s.chk)∧Below w.heap.size w w':=by
 have hb0:Below w.heap.size w (w.alloc (.cells #[.int .i64 s.base,.int .i64 s.limit,.slice A s.ws.length c] 33)):=(Below.refl _ _).alloc (Nat.le_refl _) _
 have HQ:Hid (Bk (w.alloc (.cells #[.int .i64 s.base,.int .i64 s.limit,.slice A s.ws.length c] 33)) w.heap.size 33 #[.int .i64 s.base,.int .i64 s.limit,.slice A s.ws.length c]):=lh (Bk.new _ _ _)
 have HS:=lh (h.below hb0)
 have HB:=lh hb0
 have hlim:=h.lim
 have hl0:=h.l0
 have hbb:=h.b0
 have HW:Hid (0≤s.walk.2∧s.walk.2≤s.ws.length):=lh ⟨by omega,by
  have h1:=(s.walkFrom_mem s.ws.length 0 (by omega)).2.1
  rw[← Spc.walk_eq] at h1
  omega⟩
 clear h hb0
 by_cases hc:s.walk.2=s.ws.length
 ·have hk:s.chk=0:=by unfold Spc.chk;rw[if_pos hc]
  have hwe:s.wend=s.top:=by unfold Spc.wend Spc.top;rw[hc]
  have cW:=RWalk_any HS.out
  unfold rsV at cW
  rw[hwe] at cW
  rw[hk]
  clear hc hk hwe
  go_enter Tryz.func16,Tryz.ntmps16
  go_upto_region 1 with fail
  generalize w.alloc (.cells #[.int .i64 s.base,.int .i64 s.limit,.slice A s.ws.length c] 33)=w0 at *
  have q0:w0.cell? ⟨w.heap.size,0,none⟩=some (.int .i64 s.base):=HQ.out.cell 0
  have q1:w0.cell? ⟨w.heap.size,1,none⟩=some (.int .i64 s.limit):=HQ.out.cell 1
  have q2:w0.cell? ⟨w.heap.size,2,none⟩=some (.slice A s.ws.length c):=HQ.out.cell 2
  go_wp2_with fail
  refine cW.mono ?_
  rintro e w1 ⟨v,rfl,_,hb1⟩
  have HQ1:=HQ.out.below hb1 HQ.out.lt
  have cT:=RTop_any (HS.out.below hb1)
  unfold rsV at cT
  have HB1:=lh (HB.out.trans (hb1.mono HB.out.size))
  clear q0 q1 q2 cW hb1
  have q0:w1.cell? ⟨w.heap.size,0,none⟩=some (.int .i64 s.base):=HQ1.cell 0
  have q1:w1.cell? ⟨w.heap.size,1,none⟩=some (.int .i64 s.limit):=HQ1.cell 1
  have q2:w1.cell? ⟨w.heap.size,2,none⟩=some (.slice A s.ws.length c):=HQ1.cell 2
  clear HQ1
  go_wp2_with fail
  refine cT.mono ?_
  rintro e w2 ⟨rfl,hb2⟩
  have HB2:=lh (HB1.out.trans (hb2.mono HB1.out.size))
  clear q0 q1 q2 cT hb2
  go_wp2_with fail
  go_ret
  exact⟨rfl,HB2.out⟩
 ·have hk:s.chk=11:=by unfold Spc.chk;rw[if_neg hc]
  have hne:s.wend≠s.top:=by unfold Spc.wend Spc.top;omega
  have cW:=RWalk_any HS.out
  unfold rsV at cW
  have de:decide (s.wend≠s.top)=true:=decide_eq_true hne
  have de2:(s.wend == s.top)=false:=by simpa using hne
  have de3:(s.wend != s.top)=true:=by simpa using hne
  rw[hk]
  clear hc hk hne
  go_enter Tryz.func16,Tryz.ntmps16
  go_upto_region 1 with fail
  generalize w.alloc (.cells #[.int .i64 s.base,.int .i64 s.limit,.slice A s.ws.length c] 33)=w0 at *
  have q0:w0.cell? ⟨w.heap.size,0,none⟩=some (.int .i64 s.base):=HQ.out.cell 0
  have q1:w0.cell? ⟨w.heap.size,1,none⟩=some (.int .i64 s.limit):=HQ.out.cell 1
  have q2:w0.cell? ⟨w.heap.size,2,none⟩=some (.slice A s.ws.length c):=HQ.out.cell 2
  go_wp2_with fail
  refine cW.mono ?_
  rintro e w1 ⟨v,rfl,_,hb1⟩
  have HQ1:=HQ.out.below hb1 HQ.out.lt
  have cT:=RTop_any (HS.out.below hb1)
  unfold rsV at cT
  have HB1:=lh (HB.out.trans (hb1.mono HB.out.size))
  clear q0 q1 q2 cW hb1
  have q0:w1.cell? ⟨w.heap.size,0,none⟩=some (.int .i64 s.base):=HQ1.cell 0
  have q1:w1.cell? ⟨w.heap.size,1,none⟩=some (.int .i64 s.limit):=HQ1.cell 1
  have q2:w1.cell? ⟨w.heap.size,2,none⟩=some (.slice A s.ws.length c):=HQ1.cell 2
  clear HQ1
  go_wp2_with fail
  refine cT.mono ?_
  rintro e w2 ⟨rfl,hb2⟩
  have HB2:=lh (HB1.out.trans (hb2.mono HB1.out.size))
  clear q0 q1 q2 cT hb2
  go_wp2_with fail
  go_ret
  exact⟨rfl,HB2.out⟩
end
section
variable {w:World} {s:W10} {A1:Option Addr} {u1:Nat} {A2:Option Addr} {u2:Nat} {A:Option Addr} {u:Nat} {Ax:Option Addr} {cx:Nat} {Ah:Option Addr} {ch:Nat}
end
end
section
open Go.RowKit Go.Sort
attribute [local go_sem] Oper.semAt_some onlyN_normal
section
variable {w:World} {m:Mm} {A1 A2 Al At:Option Addr} {u1 u2 cl ct:Nat} {l ts:List Int}
set_option maxHeartbeats 4000000 in
theorem Rmoved_any (h:RM w m A1 u1 A2 u2) (ok:m.Ok) (hl:IS w l Al cl) (ht:IS w ts At ct) (hlt:ts.length=l.length) (hll:l.length≤100000000) {x:Int} (hx:U64 x) :
  Calls Tryz.prog 76 #[.agg (rmC m A1 u1 A2 u2),.slice Al l.length cl,.slice At ts.length ct,.int .u64 x] w fun e w'=>e=.returned (.int .u64 (m.mvd l ts x))∧Below w.heap.size w w':=by
 have HB:=lh (boxR w m A1 u1 A2 u2)
 have HQ:=lh (Bk.new w 35 (rmC m A1 u1 A2 u2))
 have cL:=Rleads_any (h.below HB.out) ok hx
 have HL:=lh (hl.below HB.out)
 have HT:=lh (ht.below HB.out)
 have hlc:=hl.cap
 have htc:=ht.cap
 obtain⟨R,hR⟩:∃ R,R=m.mvd l ts x:=⟨_,rfl⟩
 rw[← hR]
 unfold Mm.mvd at hR
 have q0:(w.alloc (.cells (rmC m A1 u1 A2 u2) 35)).cell? ⟨w.heap.size,0,none⟩=some (.int .i64 m.old.base):=HQ.out.cell 0
 have q1:(w.alloc (.cells (rmC m A1 u1 A2 u2) 35)).cell? ⟨w.heap.size,1,none⟩=some (.int .i64 m.old.limit):=HQ.out.cell 1
 have q2:(w.alloc (.cells (rmC m A1 u1 A2 u2) 35)).cell? ⟨w.heap.size,2,none⟩=some (.slice A1 m.old.ws.length u1):=HQ.out.cell 2
 have q3:(w.alloc (.cells (rmC m A1 u1 A2 u2) 35)).cell? ⟨w.heap.size,3,none⟩=some (.int .i64 m.yng.base):=HQ.out.cell 3
 have q4:(w.alloc (.cells (rmC m A1 u1 A2 u2) 35)).cell? ⟨w.heap.size,4,none⟩=some (.int .i64 m.yng.limit):=HQ.out.cell 4
 have q5:(w.alloc (.cells (rmC m A1 u1 A2 u2) 35)).cell? ⟨w.heap.size,5,none⟩=some (.slice A2 m.yng.ws.length u2):=HQ.out.cell 5
 have hrl:rldP (m.ld x)=match m.ld x with
  | some none=>.tuple #[.int .i64 0,.bool false,.bool false]
  | none=>.tuple #[.int .i64 0,.bool false,.bool true]
  | some (some r)=>.tuple #[.int .i64 r,.bool true,.bool false]:=rfl
 rw[hrl] at cL
 cases ho:m.ld x with
 | none =>
  rw[ho] at cL hR
  dsimp only at cL hR
  subst hR
  clear h hl ht ho hrl
  go_enter Tryz.func76,Tryz.ntmps76
  go_wp2_with fail
  refine cL.mono ?_
  rintro e w1 ⟨rfl,hb⟩
  have HB1:=lh (HB.out.trans (hb.mono HB.out.size))
  clear hb cL q0 q1 q2 q3 q4 q5
  go_wp2_with fail
  go_ret
  exact⟨rfl,HB1.out⟩
 | some o =>
  cases o with
  | none =>
   rw[ho] at cL hR
   dsimp only at cL hR
   subst hR
   clear h hl ht ho hrl
   go_enter Tryz.func76,Tryz.ntmps76
   go_wp2_with fail
   refine cL.mono ?_
   rintro e w1 ⟨rfl,hb⟩
   have HB1:=lh (HB.out.trans (hb.mono HB.out.size))
   clear hb cL q0 q1 q2 q3 q4 q5
   go_wp2_with fail
   go_ret
   exact⟨rfl,HB1.out⟩
  | some a =>
   rw[ho] at cL hR
   dsimp only at cL hR
   have HR:=lh hR
   clear h hl ht ho hrl hR
   go_enter Tryz.func76,Tryz.ntmps76
   go_wp2_with fail
   refine cL.mono ?_
   rintro e w1 ⟨rfl,hb⟩
   have HB1:=lh (HB.out.trans (hb.mono HB.out.size))
   have HL1:=lh (HL.out.below hb)
   have HT1:=lh (HT.out.below hb)
   clear hb cL q0 q1 q2 q3 q4 q5 HL HT
   go_wp2_with fail
   go_loop [9,12] (fun v i=>∃ j:Nat,v=.int .i64 a∧i=.int .i64 (j:Int)∧j≤l.length∧R=frW (newAt (l.drop j) (ts.drop j) a)) (fun _ i=>l.length - (intOf i).toNat)
   case atStart=>exact⟨0,rfl,rfl,Nat.zero_le _,by rw[List.drop_zero,List.drop_zero];exact HR.out⟩
   case round =>
    obtain⟨j,rfl,rfl,hj,hrj⟩:=hrel
    have HRJ:=lh hrj
    clear hrj HR
    by_cases hlt2:j < l.length
    ·obtain⟨b1,o1,rfl,hb1,hc1⟩:=HL1.out.sl.get hlt2
     obtain⟨b2,o2,rfl,hb2,hc2⟩:=HT1.out.sl.get (by omega:j < ts.length)
     have t1:l[j]?=some l[j]:=List.getElem?_eq_getElem hlt2
     have t2:ts[j]?=some ts[j]:=List.getElem?_eq_getElem (by omega)
     have e1:w1.cell? ⟨b1,o1+j,none⟩=some (.int .i64 l[j]):=hc1 j _ (ints_get t1)
     have e2:w1.cell? ⟨b2,o2+j,none⟩=some (.int .i64 ts[j]):=hc2 j _ (ints_get t2)
     have hd1:l.drop j=l[j]::l.drop (j+1):=List.drop_eq_getElem_cons hlt2
     have hd2:ts.drop j=ts[j]::ts.drop (j+1):=List.drop_eq_getElem_cons (by omega)
     have hn:newAt (l.drop j) (ts.drop j) a=if l[j]=a then ts[j] else newAt (l.drop (j+1)) (ts.drop (j+1)) a:=by rw[hd1,hd2];rfl
     have HN:=lh hn
     generalize l[j]=y at e1 HN t1
     generalize ts[j]=t at e2 HN t2
     have hcj:j < cl:=by omega
     have hctj:j < ct:=by omega
     clear t1 t2 hd1 hd2 hn hc1 hc2
     by_cases hxy:y=a
     ·have hb:(y == a)=true:=by simp[hxy]
      have HX:=lh (HRJ.out.trans (by rw[HN.out,if_pos hxy]))
      have cF:=fun w=>RFromAddress_any t w
      unfold frA at cF
      have HFR:Hid (frW t=if inA t=true then adW t else 0):=lh rfl
      clear hxy
      cases hin:inA t with
      | true =>
       rw[hin,if_pos rfl] at cF HFR
       clear hin
       go_wp2_with fail
       refine(cF _).mono ?_
       rintro e w3 ⟨rfl,rfl⟩
       go_wp2_with fail
       go_ret
       rw[HX.out,HFR.out]
       exact⟨rfl,HB1.out⟩
      | false =>
       rw[hin,if_neg (by decide)] at cF HFR
       clear hin
       go_wp2_with fail
       refine(cF _).mono ?_
       rintro e w3 ⟨rfl,rfl⟩
       go_wp2_with fail
       go_ret
       rw[HX.out,HFR.out]
       exact⟨rfl,HB1.out⟩
     ·have hb:(y == a)=false:=by simp[hxy]
      have HX:=lh (HRJ.out.trans (by rw[HN.out,if_neg hxy]))
      clear hxy
      go_wp2_with fail
      go_round
      case rel=>exact⟨j+1,rfl,by go_num,by omega,HX.out⟩
      case measure=>simp[intOf];omega
    ·have HX:=lh (show R=frW a from by
      rw[HRJ.out,List.drop_eq_nil_of_le (by omega)]
      unfold newAt
      rfl)
     have cF:=fun w=>RFromAddress_any a w
     unfold frA at cF
     have HFR:Hid (frW a=if inA a=true then adW a else 0):=lh rfl
     cases hin:inA a with
     | true =>
      rw[hin,if_pos rfl] at cF HFR
      clear hin
      go_wp2_with fail
      refine(cF _).mono ?_
      rintro e w3 ⟨rfl,rfl⟩
      go_wp2_with fail
      go_ret
      rw[HX.out,HFR.out]
      exact⟨rfl,HB1.out⟩
     | false =>
      rw[hin,if_neg (by decide)] at cF HFR
      clear hin
      go_wp2_with fail
      refine(cF _).mono ?_
      rintro e w3 ⟨rfl,rfl⟩
      go_wp2_with fail
      go_ret
      rw[HX.out,HFR.out]
      exact⟨rfl,HB1.out⟩
end
end
end Go.Proofs.YtaijmgkjbbiboaaGreat
