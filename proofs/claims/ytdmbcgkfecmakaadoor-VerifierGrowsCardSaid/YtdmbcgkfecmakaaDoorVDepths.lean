/- refmeshlaw43.VerifierDepths returns true: the walk. -/
import Derived.Test.YtdmbcgkfecmakaaDoorAwakeV
namespace Go.Proofs.YtdmbcgkfecmakaaDoor
set_option linter.unusedVariables false
set_option linter.unusedSimpArgs false
set_option linter.unusedSectionVars false
open Go.RowKit Go.Maps Go.Deep
set_option maxRecDepth 100000

def fewB (n m : Nat) : Bool := decide (n ≤ 40 ∧ m ≤ 40)

set_option maxHeartbeats 1000000 in
theorem few_any (v0 v1 v2 : Value) (A B : Option Addr) (n c m d : Nat) (w : World) :
    Calls Tryd.prog 16 #[.agg #[v0, v1, v2, .slice A n c, .slice B m d]] w fun e w' => e = .returned (.bool (fewB n m)) ∧ Below w.heap.size w w' := by
  by_cases h : n ≤ 40
  · go_enter Tryd.func16, Tryd.ntmps16
    go_wp2
    all_goals
      go_ret
      refine ⟨ret_bool ?_, (Below.refl _ _).alloc (Nat.le_refl _) _⟩
      unfold fewB
      first | exact (decide_eq_false (by omega)).symm | exact decide_eq_decide.2 (by omega)
  · go_enter Tryd.func16, Tryd.ntmps16
    go_wp2
    all_goals
      go_ret
      refine ⟨ret_bool ?_, (Below.refl _ _).alloc (Nat.le_refl _) _⟩
      unfold fewB
      first | exact (decide_eq_false (by omega)).symm | exact decide_eq_decide.2 (by omega)

/-- the method in its box -/
structure MBox (w0 w : World) (N : Nat) (v0 v1 v2 : Value) (A B : Option Addr) (n c m d : Nat) : Prop where
  b0 : w.cell? ⟨N, 0, none⟩ = some v0
  b1 : w.cell? ⟨N, 1, none⟩ = some v1
  b2 : w.cell? ⟨N, 2, none⟩ = some v2
  b3 : w.cell? ⟨N, 3, none⟩ = some (.slice A n c)
  b4 : w.cell? ⟨N, 4, none⟩ = some (.slice B m d)
  bel : Below N w0 w
  lt : N < w.heap.size
theorem MBox.new {w : World} {v0 v1 v2 : Value} {A B : Option Addr} {n c m d : Nat} (t : TypeId) : MBox w (w.alloc (.cells #[v0, v1, v2, .slice A n c, .slice B m d] t)) w.heap.size v0 v1 v2 A B n c m d :=
  ⟨by simp, by simp, by simp, by simp, by simp, (Below.refl _ _).alloc (Nat.le_refl _) _, by simp⟩
theorem MBox.next {w0 w w' : World} {N : Nat} {v0 v1 v2 : Value} {A B : Option Addr} {n c m d : Nat} (h : MBox w0 w N v0 v1 v2 A B n c m d) (hb : Below w.heap.size w w') : MBox w0 w' N v0 v1 v2 A B n c m d :=
  ⟨(hb.cell (p := ⟨N, 0, none⟩) h.lt).trans h.b0, (hb.cell (p := ⟨N, 1, none⟩) h.lt).trans h.b1, (hb.cell (p := ⟨N, 2, none⟩) h.lt).trans h.b2, (hb.cell (p := ⟨N, 3, none⟩) h.lt).trans h.b3, (hb.cell (p := ⟨N, 4, none⟩) h.lt).trans h.b4, h.bel.trans (hb.mono (Nat.le_of_lt h.lt)), Nat.lt_of_lt_of_le h.lt hb.size⟩
theorem Sl.box {w0 w : World} {N s n : Nat} {A : Option Addr} {xs : List Value} (h : Sl w0 s A n xs) (hN : N = w0.heap.size) (hb : Below N w0 w) : Sl w s A n xs := by subst hN; exact h.below hb

section
variable {w : World} {v0 v1 v2 : Value} {A B : Option Addr} {len cap n4 c4 : Nat}
set_option maxHeartbeats 4000000 in
theorem VDepths_few (hf : fewB len n4 = false) :
    Calls Tryd.prog 3 #[.agg #[v0, v1, v2, .slice A len cap, .slice B n4 c4]] w fun e w' => e = .returned (.bool true) ∧ Below w.heap.size w w' := by
  have HM := Lib.hid (MBox.new (w := w) (v0 := v0) (v1 := v1) (v2 := v2) (A := A) (B := B) (n := len) (c := cap) (m := n4) (d := c4) 25)
  go_enter Tryd.func3, Tryd.ntmps3
  go_wp2_with fail
  refine (awakeV _).mono ?_
  rintro e w1 ⟨rfl, hb⟩
  obtain ⟨b0, b1, b2, b3, b4, hB, hlt⟩ := HM.out.next hb
  have HB := Lib.hid hB
  clear hB hb HM
  go_wp2_with fail
  refine (few_any _ _ _ _ _ _ _ _ _ _).mono ?_
  rintro e w2 ⟨rfl, hb⟩
  go_wp2
  go_ret
  exact ⟨rfl, HB.out.trans (hb.mono (Nat.le_of_lt hlt))⟩

set_option maxHeartbeats 4000000 in
theorem VDepths_main (c : List Ins) (hc : c.length = len) (hf : fewB len n4 = true) (hcap : len ≤ cap) (hw : ∀ x ∈ c, (Lit.int .i64 x.1).wf = true ∧ (Lit.int .i64 x.2.1).wf = true ∧ (Lit.int .i64 x.2.2).wf = true) (hcode : Sl w 3 A len (codeCells c)) :
    Calls Tryd.prog 3 #[.agg #[v0, v1, v2, .slice A len cap, .slice B n4 c4]] w fun e w' => e = .returned (.bool true) ∧ Below w.heap.size w w' := by
  have hl : len ≤ 40 := (of_decide_eq_true hf).1
  have HM := Lib.hid (MBox.new (w := w) (v0 := v0) (v1 := v1) (v2 := v2) (A := A) (B := B) (n := len) (c := cap) (m := n4) (d := c4) 25)
  go_enter Tryd.func3, Tryd.ntmps3
  go_wp2_with fail
  refine (awakeV _).mono ?_
  rintro e w1 ⟨rfl, hb⟩
  have HM1 := Lib.hid (HM.out.next hb)
  obtain ⟨b0, b1, b2, b3, b4, _, _⟩ := HM.out.next hb
  clear hb HM
  go_wp2_with fail
  refine (few_any _ _ _ _ _ _ _ _ _ _).mono ?_
  rintro e w2 ⟨rfl, hb⟩
  have HM2 := Lib.hid (HM1.out.next hb)
  obtain ⟨b0', b1', b2', b3', b4', _, _⟩ := HM1.out.next hb
  clear hb HM1 b0 b1 b2 b3 b4
  go_wp2_with fail
  refine (Depths_any c hc (by omega) hw (hcode.box rfl HM2.out.bel)).mono ?_
  rintro e w3 ⟨f, sound, most, hfin, hb, hno, hyes⟩
  have HM3 := Lib.hid (HM2.out.next hb)
  have HFIN := Lib.hid hfin
  obtain ⟨b0, b1, b2, b3, b4, _, _⟩ := HM2.out.next hb
  clear hb HM2 b0' b1' b2' b3' b4' hfin
  rcases sound with _ | _
  · obtain rfl := hno rfl
    clear hno hyes
    go_wp2_with fail
    refine (MaxDepth_any c hc (by omega) hw (hcode.box rfl HM3.out.bel)).mono ?_
    rintro e w4 ⟨f', sound', most', hfin', hb, hno', hyes'⟩
    rcases sound' with _ | _
    · obtain rfl := hno' rfl
      have HM4 := Lib.hid (HM3.out.next hb)
      obtain ⟨b0', b1', b2', b3', b4', _, _⟩ := HM3.out.next hb
      clear hb HM3 b0 b1 b2 b3 b4 hfin' hno' hyes'
      go_wp2_with fail
      refine (RDepths_any c hc (by omega) hw (hcode.box rfl HM4.out.bel)).mono ?_
      rintro e w5 ⟨g, ok, hb, hno, hyes⟩
      rcases ok with _ | _
      · obtain ⟨rfl, _⟩ := hno rfl
        clear hno hyes b0' b1' b2' b3' b4'
        go_wp2
        go_ret
        exact ⟨rfl, HM4.out.bel.trans (hb.mono (Nat.le_of_lt HM4.out.lt))⟩
      · exact absurd (hyes rfl).1 (HFIN.out.bad rfl g)
    · exact absurd (hfin'.good rfl) (HFIN.out.bad rfl f')
  · obtain ⟨R, rcap, rfl, hR, hrc, hsl⟩ := hyes rfl
    have HSL := Lib.hid hsl
    clear hno hyes hsl
    go_wp2_with fail
    refine (MaxDepth_any c hc (by omega) hw (hcode.box rfl HM3.out.bel)).mono ?_
    rintro e w4 ⟨f', sound', most', hfin', hb, hno', hyes'⟩
    rcases sound' with _ | _
    · exact absurd (HFIN.out.good rfl) (hfin'.bad rfl f)
    · obtain rfl := hyes' rfl
      have HM4 := Lib.hid (HM3.out.next hb)
      have HSL4 := Lib.hid (HSL.out.below hb)
      have hff : f' = f := least_eq (hfin'.good rfl) (HFIN.out.good rfl) (hfin'.forced rfl) (HFIN.out.forced rfl)
      subst hff
      have hmm : most' = mxTo c f' len := by rw [← hc]; exact hfin'.most_eq.symm
      have HMM := Lib.hid hmm
      obtain ⟨b0', b1', b2', b3', b4', _, _⟩ := HM3.out.next hb
      clear hb HM3 b0 b1 b2 b3 b4 hfin' hno' hyes' HSL hmm
      go_wp2_with fail
      refine (RDepths_any c hc (by omega) hw (hcode.box rfl HM4.out.bel)).mono ?_
      rintro e w5 ⟨g, ok, hb, hno, hyes⟩
      rcases ok with _ | _
      · exact absurd (HFIN.out.good rfl) ((hno rfl).2 f')
      · obtain ⟨hg, lg, hgd, R2, rcap2, rfl, hR2, hrc2, hsl2⟩ := hyes rfl
        have hfg : g = f' := least_eq hg (HFIN.out.good rfl) lg (HFIN.out.forced rfl)
        subst hfg
        have HM5 := Lib.hid (HM4.out.next hb)
        have HSL5 := Lib.hid (HSL4.out.below hb)
        have HSL2 := Lib.hid hsl2
        obtain ⟨b0, b1, b2, b3, b4, _, _⟩ := HM4.out.next hb
        have hdl : (depthL g len).length = len := by simp [depthL]
        have HDL := Lib.hid hdl
        clear hb HM4 b0' b1' b2' b3' b4' hno hyes HSL4 hg lg hgd hsl2 hdl
        go_wp2_with fail
        have hint := Ints_any (depthL g len) (depthL g len) (some ⟨R, 0, none⟩) (some ⟨R2, 0, none⟩) rcap rcap2 w5 (by rw [HDL.out]; omega) (by rw [HDL.out]; exact hrc) (by rw [HDL.out]; exact hrc2) (by rw [HDL.out]; exact HSL5.out) (by rw [HDL.out]; exact HSL2.out)
        rw [HDL.out] at hint
        refine hint.mono ?_
        rintro e w6 ⟨rfl, n, rfl⟩
        have he : eqL (depthL g len) (depthL g len) = true := by simp [eqL]
        rw [he]
        clear he hint
        go_wp2_with fail
        refine (RMaxDepth_any c hc (by omega) hw ((hcode.box rfl HM5.out.bel).drewN n) g (HFIN.out.good rfl) (HFIN.out.forced rfl)).mono ?_
        rintro e w7 ⟨rfl, hb⟩
        have heq : (most' == mxTo c g len) = true := by rw [HMM.out]; simp
        go_wp2
        go_ret
        exact ⟨rfl, (below_drewN HM5.out.bel n).trans (hb.mono (Nat.le_of_lt HM5.out.lt))⟩
end
end Go.Proofs.YtdmbcgkfecmakaaDoor
