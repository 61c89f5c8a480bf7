/- refmeshlaw01.WordDivision and WordOrder return true: the walks. -/
import Derived.Test.YtnlleogihhhfdaaDoorAwakeW
namespace Go.Proofs.YtnlleogihhhfdaaDoor
set_option linter.unusedVariables false
set_option linter.unusedSimpArgs false
set_option linter.unusedSectionVars false
open Go.RowKit
set_option maxRecDepth 100000

theorem w62_mod (a b : Int) (h : a % 4611686018427387904 = b % 4611686018427387904) : w62 a = w62 b := by unfold w62; omega
theorem tmod_facts {x y : Int} (hx : In62 x) (hy : In62 y) (h0 : y ≠ 0) :
    In62 (x.tmod y) ∧ max (x.tmod y) (-(x.tmod y)) < max y (-y) ∧ (x.tmod y = 0 ∨ (x.tmod y < 0 ↔ x < 0)) := by
  have h1 : (x.tmod y).natAbs < y.natAbs := by
    rw [Int.natAbs_tmod]
    exact Nat.mod_lt _ (by omega)
  have h2 : 0 ≤ x → 0 ≤ x.tmod y := fun h => Int.tmod_nonneg y h
  have h3 : x < 0 → x.tmod y ≤ 0 := fun h => by
    have := Int.neg_tmod x y
    have h4 := Int.tmod_nonneg y (show 0 ≤ -x by omega)
    omega
  unfold In62 at hx hy ⊢
  omega
theorem div_back {x y : Int} (hx : In62 x) : w62 (w62 (y * w62 (x.tdiv y)) + x.tmod y) = x := by
  have h := Int.mul_tdiv_add_tmod x y
  have e1 : w62 (x.tdiv y) % 4611686018427387904 = (x.tdiv y) % 4611686018427387904 := by unfold w62; omega
  have e2 : (y * w62 (x.tdiv y)) % 4611686018427387904 = (y * x.tdiv y) % 4611686018427387904 := by
    rw [Int.mul_emod, e1, ← Int.mul_emod]
  have e3 : w62 (y * w62 (x.tdiv y)) % 4611686018427387904 = (y * x.tdiv y) % 4611686018427387904 := by
    rw [← e2]; unfold w62; omega
  have e4 : (w62 (y * w62 (x.tdiv y)) + x.tmod y) % 4611686018427387904 = (y * x.tdiv y + x.tmod y) % 4611686018427387904 := by omega
  rw [w62_mod _ _ e4, h, w62_id hx]

theorem cmp_q1 (x y : Int) : (decide (cmpI x y < 0) == decide (x < y)) = true := by
  unfold cmpI
  split
  · next h => simp [h]
  · next h => split <;> simp [h]
theorem cmp_q2 (x y : Int) : (decide (0 < cmpI x y) == decide (y < x)) = true := by
  unfold cmpI
  split
  · next h =>
    have : ¬ y < x := by omega
    simp [this]
  · split
    · next h => simp [h]
    · next h => simp [h]
theorem cmp_q3 {x y : Int} (hx : In62 x) (hy : In62 y) : ((cmpI x y == 0) == (wd x == wd y)) = true := by
  have hw : (wd x == wd y) = decide (x = y) := by
    by_cases h : x = y
    · simp [h]
    · have : wd x ≠ wd y := fun hh => h (wd_inj hx hy hh)
      simp [h, this]
  rw [hw]
  unfold cmpI
  split
  · next h =>
    have : ¬ x = y := by omega
    simp [this]
  · split
    · next h =>
      have : ¬ x = y := by omega
      simp [this]
    · next h1 h2 =>
      have : x = y := by omega
      simp [this]

section
variable {w : World} {i j : Int}
set_option maxHeartbeats 4000000 in
theorem LDiv_zero (hj : w62 j = 0) : Calls Tryd.prog 3 #[.int .i64 i, .int .i64 j] w fun e w' => e = .returned (.bool true) ∧ Below w.heap.size w w' := by
  have HJ := Lib.hid hj
  have HI := Lib.hid (w62_in i)
  clear hj
  go_enter Tryd.func3, Tryd.ntmps3
  go_wp2_with fail
  refine (awakeW _).mono ?_
  rintro e w' ⟨rfl, rfl⟩
  go_wp2_with fail
  refine (Wrap_any i _).mono ?_
  rintro e w' ⟨rfl, rfl⟩
  obtain ⟨x, hx⟩ : ∃ x, x = w62 i := ⟨_, rfl⟩
  rw [← hx] at HI ⊢
  clear hx
  go_wp2_with fail
  refine (Wrap_any j _).mono ?_
  rintro e w' ⟨rfl, rfl⟩
  rw [HJ.out]
  go_wp2_with fail
  refine (FromInt_in HI.out _).mono ?_
  rintro e w' ⟨rfl, rfl⟩
  go_wp2_with fail
  refine (FromInt_in (show In62 0 by unfold In62; omega) _).mono ?_
  rintro e w' ⟨rfl, rfl⟩
  go_wp2_with fail
  refine (Div_zero HI.out).mono ?_
  rintro e w' ⟨rfl, rfl⟩
  go_wp2_with fail
  refine (Rem_zero HI.out).mono ?_
  rintro e w' ⟨rfl, rfl⟩
  go_wp2
  go_ret
  exact ⟨rfl, Below.refl _ _⟩

set_option maxHeartbeats 4000000 in
theorem LDiv_main (hj : w62 j ≠ 0) : Calls Tryd.prog 3 #[.int .i64 i, .int .i64 j] w fun e w' => e = .returned (.bool true) ∧ Below w.heap.size w w' := by
  have HI := Lib.hid (w62_in i)
  have HJ := Lib.hid (w62_in j)
  obtain ⟨y, hy⟩ : ∃ y, y = w62 j := ⟨_, rfl⟩
  rw [← hy] at hj HJ
  have HY := Lib.hid hy
  obtain ⟨x, hx⟩ : ∃ x, x = w62 i := ⟨_, rfl⟩
  rw [← hx] at HI
  have HX := Lib.hid hx
  obtain ⟨r, hr⟩ : ∃ r, r = x.tmod y := ⟨_, rfl⟩
  obtain ⟨f1, f2, f3⟩ := tmod_facts HI.out HJ.out hj
  have hd := div_back (x := x) (y := y) HI.out
  rw [← hr] at f1 f2 f3 hd
  have hwr : w62 (x.tmod y) = r := by rw [← hr]; exact w62_id f1
  have HWR := Lib.hid hwr
  have HD := Lib.hid hd
  have HR1 := Lib.hid f1
  have HJ0 := Lib.hid hj
  have HF2 := Lib.hid f2
  have HF3 := Lib.hid f3
  have hj0 : (y == 0) = false := by simpa using hj
  clear hy hx hr f1 f2 f3 hd hwr hj
  go_enter Tryd.func3, Tryd.ntmps3
  go_wp2_with fail
  refine (awakeW _).mono ?_
  rintro e w' ⟨rfl, rfl⟩
  go_wp2_with fail
  refine (Wrap_any i _).mono ?_
  rintro e w' ⟨rfl, rfl⟩
  rw [← HX.out]
  go_wp2_with fail
  refine (Wrap_any j _).mono ?_
  rintro e w' ⟨rfl, rfl⟩
  rw [← HY.out]
  go_wp2_with fail
  refine (FromInt_in HI.out _).mono ?_
  rintro e w' ⟨rfl, rfl⟩
  go_wp2_with fail
  refine (FromInt_in HJ.out _).mono ?_
  rintro e w' ⟨rfl, rfl⟩
  go_wp2_with fail
  refine (Div_any HI.out HJ.out HJ0.out).mono ?_
  rintro e w' ⟨rfl, rfl⟩
  go_wp2_with fail
  refine (Rem_any HI.out HJ.out HJ0.out).mono ?_
  rintro e w' ⟨rfl, rfl⟩
  rw [HWR.out]
  go_wp2_with fail
  refine (Mul_any HJ.out (w62_in _)).mono ?_
  rintro e w' ⟨rfl, rfl⟩
  go_wp2_with fail
  refine (Add_any (w62_in _) HR1.out).mono ?_
  rintro e w' ⟨rfl, rfl⟩
  rw [HD.out]
  go_wp2_with fail
  refine (Int_wd HR1.out _).mono ?_
  rintro e w' ⟨rfl, rfl⟩
  have by1 := HJ.out
  have br1 := HR1.out
  unfold In62 at by1 br1
  obtain ⟨by0, by1⟩ := by1
  obtain ⟨br0, br1⟩ := br1
  have hmx : decide (max r (-r) < max y (-y)) = true := decide_eq_true HF2.out
  by_cases hr0 : r = 0
  · have hb : (r == 0) = true := by simp [hr0]
    clear hr0
    go_wp2
    go_ret
    exact ⟨rfl, Below.refl _ _⟩
  · have hb : (r == 0) = false := by simp [hr0]
    have hb2 : (decide (r < 0) == decide (x < 0)) = true := by
      rcases HF3.out with h | h
      · exact absurd h hr0
      · simp [h]
    clear hr0
    go_wp2
    go_ret
    exact ⟨rfl, Below.refl _ _⟩

theorem LDiv_any (i j : Int) (w : World) : Calls Tryd.prog 3 #[.int .i64 i, .int .i64 j] w fun e w' => e = .returned (.bool true) ∧ Below w.heap.size w w' := by
  by_cases h : w62 j = 0
  · exact LDiv_zero h
  · exact LDiv_main h

set_option maxHeartbeats 4000000 in
theorem LOrder_any (i j : Int) (w : World) : Calls Tryd.prog 4 #[.int .i64 i, .int .i64 j] w fun e w' => e = .returned (.bool true) ∧ Below w.heap.size w w' := by
  have HI := Lib.hid (w62_in i)
  have HJ := Lib.hid (w62_in j)
  obtain ⟨y, hy⟩ : ∃ y, y = w62 j := ⟨_, rfl⟩
  rw [← hy] at HJ
  have HY := Lib.hid hy
  obtain ⟨x, hx⟩ : ∃ x, x = w62 i := ⟨_, rfl⟩
  rw [← hx] at HI
  have HX := Lib.hid hx
  obtain ⟨c, hc⟩ : ∃ c, c = cmpI x y := ⟨_, rfl⟩
  have q1 : (decide (c < 0) == decide (x < y)) = true := by rw [hc]; exact cmp_q1 x y
  have q2 : (decide (0 < c) == decide (y < x)) = true := by rw [hc]; exact cmp_q2 x y
  have q3 : ((c == 0) == (wd x == wd y)) = true := by rw [hc]; exact cmp_q3 HI.out HJ.out
  have q4 : ((x != 0) == (x != 0)) = true := by simp
  have HC := Lib.hid hc
  clear hy hx hc
  go_enter Tryd.func4, Tryd.ntmps4
  go_wp2_with fail
  refine (awakeW _).mono ?_
  rintro e w' ⟨rfl, rfl⟩
  go_wp2_with fail
  refine (Wrap_any i _).mono ?_
  rintro e w' ⟨rfl, rfl⟩
  rw [← HX.out]
  go_wp2_with fail
  refine (Wrap_any j _).mono ?_
  rintro e w' ⟨rfl, rfl⟩
  rw [← HY.out]
  go_wp2_with fail
  refine (FromInt_in HI.out _).mono ?_
  rintro e w' ⟨rfl, rfl⟩
  go_wp2_with fail
  refine (FromInt_in HJ.out _).mono ?_
  rintro e w' ⟨rfl, rfl⟩
  go_wp2_with fail
  refine (Compare_any HI.out HJ.out).mono ?_
  rintro e w1 ⟨rfl, hb1⟩
  rw [← HC.out]
  have HB1 := Lib.hid hb1
  clear hb1
  go_wp2_with fail
  refine (Truth_any HI.out).mono ?_
  rintro e w' ⟨rfl, rfl⟩
  go_wp2
  go_ret
  exact ⟨rfl, HB1.out⟩
end
end Go.Proofs.YtnlleogihhhfdaaDoor
