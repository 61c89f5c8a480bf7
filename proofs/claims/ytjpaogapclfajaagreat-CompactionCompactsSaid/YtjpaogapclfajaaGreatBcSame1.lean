/- Parts of the proof: Same1. -/
import Derived.Test.YtjpaogapclfajaaGreatBcA
import Derived.Test.YtjpaogapclfajaaGreatBc14
import Derived.Test.YtjpaogapclfajaaGreatBc19
set_option linter.unusedVariables false
set_option linter.unusedSimpArgs false
set_option linter.unusedSectionVars false
namespace Go.Proofs.YtjpaogapclfajaaGreat
open Go.RowKit Go.Sort
attribute [local go_sem] Oper.semAt_some onlyN_normal
set_option maxRecDepth 100000
section
variable {w : World} {B g1 g2 : Nat} {V1 V2 : Value} {m : Mm} {A1 A2 : Option Addr} {e1 e2 : Nat}
set_option maxHeartbeats 4000000 in
theorem Same11_any (h : MR w B g1 g2 V1 V2 m) (h2 : RM w m A1 e1 A2 e2) : Calls Tryz.prog 31 #[.agg #[.pointer (some ⟨g1, 0, none⟩), .pointer (some ⟨g2, 0, none⟩)], .agg #[.int .i64 m.old.base, .int .i64 m.old.limit, .slice A1 m.old.ws.length e1, .int .i64 m.yng.base, .int .i64 m.yng.limit, .slice A2 m.yng.ws.length e2]] w fun e w' => e = .returned (.bool true) ∧ Below w.heap.size w w' := by
 have hb1 : Below w.heap.size w ((w.alloc (.cells #[.pointer (some ⟨g1, 0, none⟩), .pointer (some ⟨g2, 0, none⟩)] 27)).alloc (.cells #[.int .i64 m.old.base, .int .i64 m.old.limit, .slice A1 m.old.ws.length e1, .int .i64 m.yng.base, .int .i64 m.yng.limit, .slice A2 m.yng.ws.length e2] 32)) := ((Below.refl _ w).alloc (Nat.le_refl _) _).alloc (by simp) _
 have HBM : Hid (Bk ((w.alloc (.cells #[.pointer (some ⟨g1, 0, none⟩), .pointer (some ⟨g2, 0, none⟩)] 27)).alloc (.cells #[.int .i64 m.old.base, .int .i64 m.old.limit, .slice A1 m.old.ws.length e1, .int .i64 m.yng.base, .int .i64 m.yng.limit, .slice A2 m.yng.ws.length e2] 32)) w.heap.size 27 #[.pointer (some ⟨g1, 0, none⟩), .pointer (some ⟨g2, 0, none⟩)]) := lh (Bk.alloc (Bk.new _ _ _) _)
 have HBR : Hid (Bk ((w.alloc (.cells #[.pointer (some ⟨g1, 0, none⟩), .pointer (some ⟨g2, 0, none⟩)] 27)).alloc (.cells #[.int .i64 m.old.base, .int .i64 m.old.limit, .slice A1 m.old.ws.length e1, .int .i64 m.yng.base, .int .i64 m.yng.limit, .slice A2 m.yng.ws.length e2] 32)) (w.heap.size + 1) 32 #[.int .i64 m.old.base, .int .i64 m.old.limit, .slice A1 m.old.ws.length e1, .int .i64 m.yng.base, .int .i64 m.yng.limit, .slice A2 m.yng.ws.length e2]) := lh (Bk.here _ _ _ (by simp))
 have H := lh (h.below hb1)
 have H2 := lh (h2.below hb1)
 have HB := lh hb1
 obtain ⟨T, hT⟩ : ∃ T : Nat, m.old.top = (T : Int) := ⟨m.old.ws.length, by unfold Spc.top; rw [h.ok.ob]; omega⟩
 have HT := lh hT
 have hTb : T ≤ 16777216 := by
  have h1 := h.ok.o.lim
  have h2 := h.ok.ol
  unfold Spc.top at hT
  omega
 have HRG : Hid (∀ j : Nat, j < T → ∃ x, m.old.at_ (j : Int) = some x) := lh (fun j hj => by
  obtain ⟨_, _, _, x, _, hx⟩ := Spc.at_some (s := m.old) (a := (j : Int)) (Spc.has_iff.2 ⟨by rw [h.ok.ob]; omega, by unfold Spc.top at hT; omega⟩)
  exact ⟨x, hx⟩)
 clear h h2 hb1 hT
 go_enter Tryz.func31, Tryz.ntmps31
 go_upto_region 1 with fail
 generalize (w.alloc (.cells #[.pointer (some ⟨g1, 0, none⟩), .pointer (some ⟨g2, 0, none⟩)] 27)).alloc (.cells #[.int .i64 m.old.base, .int .i64 m.old.limit, .slice A1 m.old.ws.length e1, .int .i64 m.yng.base, .int .i64 m.yng.limit, .slice A2 m.yng.ws.length e2] 32) = w0 at *
 obtain ⟨bm, hbm⟩ : ∃ bm, bm = w.heap.size := ⟨_, rfl⟩
 obtain ⟨br, hbr⟩ : ∃ br, br = w.heap.size + 1 := ⟨_, rfl⟩
 rw [← hbr] at HBR
 rw [← hbm] at HBM
 rw [← hbr, ← hbm]
 clear hbr hbm
 have cT := fun {w1 : World} (hb : Below w0.heap.size w0 w1) => Top_any (H.out.below hb).o
 have cRT := fun {w1 : World} (hb : Below w0.heap.size w0 w1) => RTop_any (H2.out.below hb).o
 unfold rsV at cRT
 simp only [HT.out] at cT cRT
 refine wp_region_all 7 (fun i => ([[], [0], [1], [], [3], [4], [2, 5]] : List (List Nat)).getD i []) (EL [Ent.val (.pointer (some ⟨bm, 0, none⟩)), Ent.val (.pointer (some ⟨g1, 0, none⟩)), Ent.val (.int .i64 (T : Int)), Ent.val (.pointer (some ⟨br, 0, none⟩)), Ent.val (.agg #[.int .i64 m.old.base, .int .i64 m.old.limit, .slice A1 m.old.ws.length e1]), Ent.val (.int .i64 (T : Int)), Ent.val (.bool false)]) rfl (by kernel_rfl) (by rfl) (by kernel_rfl) (by kernel_rfl) (by rfl) ?_ ?_
 ·intro i hi o ho vs w1 hb1 hgr
  rcases (show i = 0 ∨ i = 1 ∨ i = 2 ∨ i = 3 ∨ i = 4 ∨ i = 5 ∨ i = 6 by omega) with rfl | rfl | rfl | rfl | rfl | rfl | rfl <;> cases ho
  ·clear hgr
   change Made _ (Adds _ _ _) (Sem.run _ (execOp (Act.eval (frm _ _ _ [])) _) _)
   simp only [frm]
   go_simp
   exact adds_val rfl
  ·have h0 : vs 0 = _ := hgr 0 (by decide)
   clear hgr
   change Made _ (Adds _ _ _) (Sem.run _ (execOp (Act.eval (Act.put (frm _ _ _ []) (some 10) (vs 0))) _) _)
   simp only [frm, h0]
   have hbk := HBM.out.below hb1 HBM.out.lt
   have c0 : w1.cell? ⟨bm, 0, none⟩ = some (.pointer (some ⟨g1, 0, none⟩)) := hbk.cell 0
   clear hbk
   go_simp
   exact adds_val rfl
  ·have h1 : vs 1 = _ := hgr 1 (by decide)
   clear hgr
   change Made _ (Adds _ _ _) (Sem.run _ (execOp (Act.eval (Act.put (frm _ _ _ []) (some 11) (vs 1))) _) _)
   simp only [frm, h1]
   go_simp
   exact adds_below (cT hb1)
  ·clear hgr
   change Made _ (Adds _ _ _) (Sem.run _ (execOp (Act.eval (frm _ _ _ [])) _) _)
   simp only [frm]
   go_simp
   exact adds_val rfl
  ·have h3 : vs 3 = _ := hgr 3 (by decide)
   clear hgr
   change Made _ (Adds _ _ _) (Sem.run _ (execOp (Act.eval (Act.put (frm _ _ _ []) (some 13) (vs 3))) _) _)
   simp only [frm, h3]
   have hbk := HBR.out.below hb1 HBR.out.lt
   have c0 : w1.cell? ⟨br, 0, none⟩ = some (.int .i64 m.old.base) := hbk.cell 0
   have c1 : w1.cell? ⟨br, 1, none⟩ = some (.int .i64 m.old.limit) := hbk.cell 1
   have c2 : w1.cell? ⟨br, 2, none⟩ = some (.slice A1 m.old.ws.length e1) := hbk.cell 2
   clear hbk
   go_simp
   exact adds_val rfl
  ·have h4 : vs 4 = _ := hgr 4 (by decide)
   clear hgr
   change Made _ (Adds _ _ _) (Sem.run _ (execOp (Act.eval (Act.put (frm _ _ _ []) (some 14) (vs 4))) _) _)
   simp only [frm, h4]
   go_simp
   exact adds_below (cRT hb1)
  ·have h2 : vs 2 = _ := hgr 2 (by decide)
   have h5 : vs 5 = _ := hgr 5 (by decide)
   clear hgr
   change Made _ (Adds _ _ _) (Sem.run _ (execOp (Act.eval (Act.put (Act.put (frm _ _ _ []) (some 15) (vs 5)) (some 12) (vs 2))) _) _)
   simp only [frm, h2, h5]
   go_simp
   exact adds_val rfl
 ·intro vs w1 hb1 hall hap
  have h0 : vs 0 = _ := (hall 0 (by omega)).1
  have h1 : vs 1 = _ := (hall 1 (by omega)).1
  have h2 : vs 2 = _ := (hall 2 (by omega)).1
  have h3 : vs 3 = _ := (hall 3 (by omega)).1
  have h4 : vs 4 = _ := (hall 4 (by omega)).1
  have h5 : vs 5 = _ := (hall 5 (by omega)).1
  have h6 : vs 6 = _ := (hall 6 (by omega)).1
  clear hall hap
  change wpList _ _ _ [] (Act.put (Act.put (Act.put (Act.put (Act.put (Act.put (Act.put (frm _ _ _ []) (some 16) (vs 6)) (some 15) (vs 5)) (some 14) (vs 4)) (some 13) (vs 3)) (some 12) (vs 2)) (some 11) (vs 1)) (some 10) (vs 0)) _
  simp only [frm, h0, h1, h2, h3, h4, h5, h6]
  have H1 := lh (H.out.below hb1)
  have H21 := lh (H2.out.below hb1)
  have HB1 := lh (HB.out.trans (hb1.mono HB.out.size))
  have HBM1 := lh (HBM.out.below hb1 HBM.out.lt)
  have HBR1 := lh (HBR.out.below hb1 HBR.out.lt)
  clear hb1 H H2 HB HBM HBR cT cRT h0 h1 h2 h3 h4 h5 h6
  go_wp2_with fail
  go_loopw [5] (fun i wr => ∃ j : Nat, i = .int .i64 (j : Int) ∧ j ≤ T ∧ Below w1.heap.size w1 wr) (fun i _ => T - (intOf i).toNat)
  case atStart => exact ⟨0, rfl, Nat.zero_le _, Below.refl _ _⟩
  case round =>
   obtain ⟨j, rfl, hj, hb⟩ := hrel
   have HB2 := lh hb
   have hbm := HBM1.out.below hb HBM1.out.lt
   have hbr := HBR1.out.below hb HBR1.out.lt
   have HBM2 := lh hbm
   have HBR2 := lh hbr
   have cT := Top_any (H1.out.below hb).o
   rw [HT.out] at cT
   have m0 : wr.cell? ⟨bm, 0, none⟩ = some (.pointer (some ⟨g1, 0, none⟩)) := hbm.cell 0
   clear hb hbm hbr
   by_cases hlt : j < T
   ·obtain ⟨x, hx⟩ := HRG.out j hlt
    have cL := fun {w3 : World} (hb : Below wr.heap.size wr w3) => SLoad_any (H1.out.below (HB2.out.trans (hb.mono HB2.out.size))).o (j : Int)
    have cRL := fun {w3 : World} (hb : Below wr.heap.size wr w3) => RSLoad_any (H21.out.below (HB2.out.trans (hb.mono HB2.out.size))).o (j : Int)
    unfold ldV at cL cRL
    unfold rsV at cRL
    simp only [hx] at cL cRL
    clear hx
    go_wp2_with fail
    refine cT.mono ?_
    rintro e w3 ⟨rfl, hb3⟩
    have HB3 := lh hb3
    have hbm := HBM2.out.below hb3 HBM2.out.lt
    have m03 : w3.cell? ⟨bm, 0, none⟩ = some (.pointer (some ⟨g1, 0, none⟩)) := hbm.cell 0
    clear hb3 cT hbm
    go_wp2_with fail
    refine (cL HB3.out).mono ?_
    rintro e w4 ⟨rfl, hb4⟩
    have HB4 := lh (HB3.out.trans (hb4.mono HB3.out.size))
    clear hb4
    have hbr := HBR2.out.below HB4.out HBR2.out.lt
    have r0 : w4.cell? ⟨br, 0, none⟩ = some (.int .i64 m.old.base) := hbr.cell 0
    have r1 : w4.cell? ⟨br, 1, none⟩ = some (.int .i64 m.old.limit) := hbr.cell 1
    have r2 : w4.cell? ⟨br, 2, none⟩ = some (.slice A1 m.old.ws.length e1) := hbr.cell 2
    clear hbr cL
    go_wp2_with fail
    refine (cRL HB4.out).mono ?_
    rintro e w5 ⟨rfl, hb5⟩
    have HB5 := lh (HB4.out.trans (hb5.mono HB4.out.size))
    clear hb5 cRL
    go_wp2_with fail
    go_roundw
    case rel => exact ⟨j + 1, by go_num, by omega, HB2.out.trans (HB5.out.mono HB2.out.size)⟩
    case measure => simp [intOf]; omega
   ·go_wp2_with fail
    refine cT.mono ?_
    rintro e w3 ⟨rfl, hb3⟩
    have HB3 := lh (HB2.out.trans (hb3.mono HB2.out.size))
    clear hb3 cT
    go_wp2_with fail
    go_ret
    exact ⟨rfl, HB1.out.trans (HB3.out.mono HB1.out.size)⟩
end
end Go.Proofs.YtjpaogapclfajaaGreat
