/- What refmeshref41.Valid returns: what bytecode.Valid returns. -/
import Derived.Test.YtdmbcgkfecmakaaDoorValid
namespace Go.Proofs.YtdmbcgkfecmakaaDoor
set_option linter.unusedVariables false
set_option linter.unusedSimpArgs false
set_option linter.unusedSectionVars false
open Go.RowKit
set_option maxRecDepth 100000

def betw (lo n hi : Int) : Bool := decide (lo ≤ n ∧ n ≤ hi)

theorem between_any (n lo hi : Int) (w : World) : Calls Tryd.prog 54 #[.int .i64 n, .int .i64 lo, .int .i64 hi] w fun e w' => e = .returned (.bool (betw lo n hi)) ∧ w = w' := by
  by_cases h : lo ≤ n
  · go_enter Tryd.func54, Tryd.ntmps54
    go_wp2
    go_ret
    exact ⟨ret_bool (decide_eq_decide.2 (by omega)), rfl⟩
  · go_enter Tryd.func54, Tryd.ntmps54
    go_wp2
    go_ret
    exact ⟨ret_bool (decide_eq_false (by omega)).symm, rfl⟩

theorem validB_0 (a b : Int) : validB 0 a b = decide ((-2305843009213693952 : Int) ≤ a ∧ a ≤ 2305843009213693951 ∧ 0 ≤ b ∧ b ≤ 0) := by
  unfold validB
  rw [decide_eq_decide]
  show (0 ≤ (0 : Int) ∧ (0 : Int) < 26 ∧ (-2305843009213693952 : Int) ≤ a ∧ a ≤ 2305843009213693951 ∧ 0 ≤ b ∧ b ≤ 0) ↔ _
  omega
set_option maxHeartbeats 1000000 in
theorem RValid_0 (a b : Int) (w : World) : Calls Tryd.prog 37 #[.agg #[.int .i64 0, .int .i64 a, .int .i64 b]] w fun e w' => e = .returned (.bool (validB 0 a b)) ∧ Below w.heap.size w w' := by
  have HV := Lib.hid (validB_0 a b)
  go_enter Tryd.func37, Tryd.ntmps37
  go_wp2_with (first | (go_at_call 54; refine (between_any _ _ _ _).mono ?_; rintro e w' ⟨rfl, rfl⟩))
  all_goals
    go_ret
    refine ⟨ret_bool ?_, (Below.refl _ _).alloc (Nat.le_refl _) _⟩
    rw [HV.out, Bool.eq_iff_iff]
    simp [betw] at *
    try omega

theorem validB_1 (a b : Int) : validB 1 a b = decide ((0 : Int) ≤ a ∧ a ≤ 0 ∧ 0 ≤ b ∧ b ≤ 0) := by
  unfold validB
  rw [decide_eq_decide]
  show (0 ≤ (1 : Int) ∧ (1 : Int) < 26 ∧ (0 : Int) ≤ a ∧ a ≤ 0 ∧ 0 ≤ b ∧ b ≤ 0) ↔ _
  omega
set_option maxHeartbeats 1000000 in
theorem RValid_1 (a b : Int) (w : World) : Calls Tryd.prog 37 #[.agg #[.int .i64 1, .int .i64 a, .int .i64 b]] w fun e w' => e = .returned (.bool (validB 1 a b)) ∧ Below w.heap.size w w' := by
  have HV := Lib.hid (validB_1 a b)
  go_enter Tryd.func37, Tryd.ntmps37
  go_wp2_with (first | (go_at_call 54; refine (between_any _ _ _ _).mono ?_; rintro e w' ⟨rfl, rfl⟩))
  all_goals
    go_ret
    refine ⟨ret_bool ?_, (Below.refl _ _).alloc (Nat.le_refl _) _⟩
    rw [HV.out, Bool.eq_iff_iff]
    simp at *
    try omega

theorem validB_2 (a b : Int) : validB 2 a b = decide ((0 : Int) ≤ a ∧ a ≤ 0 ∧ 0 ≤ b ∧ b ≤ 0) := by
  unfold validB
  rw [decide_eq_decide]
  show (0 ≤ (2 : Int) ∧ (2 : Int) < 26 ∧ (0 : Int) ≤ a ∧ a ≤ 0 ∧ 0 ≤ b ∧ b ≤ 0) ↔ _
  omega
set_option maxHeartbeats 1000000 in
theorem RValid_2 (a b : Int) (w : World) : Calls Tryd.prog 37 #[.agg #[.int .i64 2, .int .i64 a, .int .i64 b]] w fun e w' => e = .returned (.bool (validB 2 a b)) ∧ Below w.heap.size w w' := by
  have HV := Lib.hid (validB_2 a b)
  go_enter Tryd.func37, Tryd.ntmps37
  go_wp2_with (first | (go_at_call 54; refine (between_any _ _ _ _).mono ?_; rintro e w' ⟨rfl, rfl⟩))
  all_goals
    go_ret
    refine ⟨ret_bool ?_, (Below.refl _ _).alloc (Nat.le_refl _) _⟩
    rw [HV.out, Bool.eq_iff_iff]
    simp at *
    try omega

theorem validB_3 (a b : Int) : validB 3 a b = decide ((0 : Int) ≤ a ∧ a ≤ 29 ∧ 0 ≤ b ∧ b ≤ 0) := by
  unfold validB
  rw [decide_eq_decide]
  show (0 ≤ (3 : Int) ∧ (3 : Int) < 26 ∧ (0 : Int) ≤ a ∧ a ≤ 29 ∧ 0 ≤ b ∧ b ≤ 0) ↔ _
  omega
set_option maxHeartbeats 1000000 in
theorem RValid_3 (a b : Int) (w : World) : Calls Tryd.prog 37 #[.agg #[.int .i64 3, .int .i64 a, .int .i64 b]] w fun e w' => e = .returned (.bool (validB 3 a b)) ∧ Below w.heap.size w w' := by
  have HV := Lib.hid (validB_3 a b)
  go_enter Tryd.func37, Tryd.ntmps37
  go_wp2_with (first | (go_at_call 54; refine (between_any _ _ _ _).mono ?_; rintro e w' ⟨rfl, rfl⟩))
  all_goals
    go_ret
    refine ⟨ret_bool ?_, (Below.refl _ _).alloc (Nat.le_refl _) _⟩
    rw [HV.out, Bool.eq_iff_iff]
    simp [betw] at *
    try omega

theorem validB_4 (a b : Int) : validB 4 a b = decide ((0 : Int) ≤ a ∧ a ≤ 29 ∧ 0 ≤ b ∧ b ≤ 0) := by
  unfold validB
  rw [decide_eq_decide]
  show (0 ≤ (4 : Int) ∧ (4 : Int) < 26 ∧ (0 : Int) ≤ a ∧ a ≤ 29 ∧ 0 ≤ b ∧ b ≤ 0) ↔ _
  omega
set_option maxHeartbeats 1000000 in
theorem RValid_4 (a b : Int) (w : World) : Calls Tryd.prog 37 #[.agg #[.int .i64 4, .int .i64 a, .int .i64 b]] w fun e w' => e = .returned (.bool (validB 4 a b)) ∧ Below w.heap.size w w' := by
  have HV := Lib.hid (validB_4 a b)
  go_enter Tryd.func37, Tryd.ntmps37
  go_wp2_with (first | (go_at_call 54; refine (between_any _ _ _ _).mono ?_; rintro e w' ⟨rfl, rfl⟩))
  all_goals
    go_ret
    refine ⟨ret_bool ?_, (Below.refl _ _).alloc (Nat.le_refl _) _⟩
    rw [HV.out, Bool.eq_iff_iff]
    simp [betw] at *
    try omega

theorem validB_5 (a b : Int) : validB 5 a b = decide ((0 : Int) ≤ a ∧ a ≤ 0 ∧ 0 ≤ b ∧ b ≤ 0) := by
  unfold validB
  rw [decide_eq_decide]
  show (0 ≤ (5 : Int) ∧ (5 : Int) < 26 ∧ (0 : Int) ≤ a ∧ a ≤ 0 ∧ 0 ≤ b ∧ b ≤ 0) ↔ _
  omega
set_option maxHeartbeats 1000000 in
theorem RValid_5 (a b : Int) (w : World) : Calls Tryd.prog 37 #[.agg #[.int .i64 5, .int .i64 a, .int .i64 b]] w fun e w' => e = .returned (.bool (validB 5 a b)) ∧ Below w.heap.size w w' := by
  have HV := Lib.hid (validB_5 a b)
  go_enter Tryd.func37, Tryd.ntmps37
  go_wp2_with (first | (go_at_call 54; refine (between_any _ _ _ _).mono ?_; rintro e w' ⟨rfl, rfl⟩))
  all_goals
    go_ret
    refine ⟨ret_bool ?_, (Below.refl _ _).alloc (Nat.le_refl _) _⟩
    rw [HV.out, Bool.eq_iff_iff]
    simp at *
    try omega

theorem validB_6 (a b : Int) : validB 6 a b = decide ((0 : Int) ≤ a ∧ a ≤ 1023 ∧ 0 ≤ b ∧ b ≤ 0) := by
  unfold validB
  rw [decide_eq_decide]
  show (0 ≤ (6 : Int) ∧ (6 : Int) < 26 ∧ (0 : Int) ≤ a ∧ a ≤ 1023 ∧ 0 ≤ b ∧ b ≤ 0) ↔ _
  omega
set_option maxHeartbeats 1000000 in
theorem RValid_6 (a b : Int) (w : World) : Calls Tryd.prog 37 #[.agg #[.int .i64 6, .int .i64 a, .int .i64 b]] w fun e w' => e = .returned (.bool (validB 6 a b)) ∧ Below w.heap.size w w' := by
  have HV := Lib.hid (validB_6 a b)
  go_enter Tryd.func37, Tryd.ntmps37
  go_wp2_with (first | (go_at_call 54; refine (between_any _ _ _ _).mono ?_; rintro e w' ⟨rfl, rfl⟩))
  all_goals
    go_ret
    refine ⟨ret_bool ?_, (Below.refl _ _).alloc (Nat.le_refl _) _⟩
    rw [HV.out, Bool.eq_iff_iff]
    simp [betw] at *
    try omega

theorem validB_7 (a b : Int) : validB 7 a b = decide ((0 : Int) ≤ a ∧ a ≤ 29 ∧ 0 ≤ b ∧ b ≤ 0) := by
  unfold validB
  rw [decide_eq_decide]
  show (0 ≤ (7 : Int) ∧ (7 : Int) < 26 ∧ (0 : Int) ≤ a ∧ a ≤ 29 ∧ 0 ≤ b ∧ b ≤ 0) ↔ _
  omega
set_option maxHeartbeats 1000000 in
theorem RValid_7 (a b : Int) (w : World) : Calls Tryd.prog 37 #[.agg #[.int .i64 7, .int .i64 a, .int .i64 b]] w fun e w' => e = .returned (.bool (validB 7 a b)) ∧ Below w.heap.size w w' := by
  have HV := Lib.hid (validB_7 a b)
  go_enter Tryd.func37, Tryd.ntmps37
  go_wp2_with (first | (go_at_call 54; refine (between_any _ _ _ _).mono ?_; rintro e w' ⟨rfl, rfl⟩))
  all_goals
    go_ret
    refine ⟨ret_bool ?_, (Below.refl _ _).alloc (Nat.le_refl _) _⟩
    rw [HV.out, Bool.eq_iff_iff]
    simp [betw] at *
    try omega

theorem validB_8 (a b : Int) : validB 8 a b = decide ((0 : Int) ≤ a ∧ a ≤ 1023 ∧ 0 ≤ b ∧ b ≤ 0) := by
  unfold validB
  rw [decide_eq_decide]
  show (0 ≤ (8 : Int) ∧ (8 : Int) < 26 ∧ (0 : Int) ≤ a ∧ a ≤ 1023 ∧ 0 ≤ b ∧ b ≤ 0) ↔ _
  omega
set_option maxHeartbeats 1000000 in
theorem RValid_8 (a b : Int) (w : World) : Calls Tryd.prog 37 #[.agg #[.int .i64 8, .int .i64 a, .int .i64 b]] w fun e w' => e = .returned (.bool (validB 8 a b)) ∧ Below w.heap.size w w' := by
  have HV := Lib.hid (validB_8 a b)
  go_enter Tryd.func37, Tryd.ntmps37
  go_wp2_with (first | (go_at_call 54; refine (between_any _ _ _ _).mono ?_; rintro e w' ⟨rfl, rfl⟩))
  all_goals
    go_ret
    refine ⟨ret_bool ?_, (Below.refl _ _).alloc (Nat.le_refl _) _⟩
    rw [HV.out, Bool.eq_iff_iff]
    simp [betw] at *
    try omega

theorem validB_9 (a b : Int) : validB 9 a b = decide ((0 : Int) ≤ a ∧ a ≤ 29 ∧ 0 ≤ b ∧ b ≤ 0) := by
  unfold validB
  rw [decide_eq_decide]
  show (0 ≤ (9 : Int) ∧ (9 : Int) < 26 ∧ (0 : Int) ≤ a ∧ a ≤ 29 ∧ 0 ≤ b ∧ b ≤ 0) ↔ _
  omega
set_option maxHeartbeats 1000000 in
theorem RValid_9 (a b : Int) (w : World) : Calls Tryd.prog 37 #[.agg #[.int .i64 9, .int .i64 a, .int .i64 b]] w fun e w' => e = .returned (.bool (validB 9 a b)) ∧ Below w.heap.size w w' := by
  have HV := Lib.hid (validB_9 a b)
  go_enter Tryd.func37, Tryd.ntmps37
  go_wp2_with (first | (go_at_call 54; refine (between_any _ _ _ _).mono ?_; rintro e w' ⟨rfl, rfl⟩))
  all_goals
    go_ret
    refine ⟨ret_bool ?_, (Below.refl _ _).alloc (Nat.le_refl _) _⟩
    rw [HV.out, Bool.eq_iff_iff]
    simp [betw] at *
    try omega

theorem validB_10 (a b : Int) : validB 10 a b = decide ((1 : Int) ≤ a ∧ a ≤ 60 ∧ 0 ≤ b ∧ b ≤ 30) := by
  unfold validB
  rw [decide_eq_decide]
  show (0 ≤ (10 : Int) ∧ (10 : Int) < 26 ∧ (1 : Int) ≤ a ∧ a ≤ 60 ∧ 0 ≤ b ∧ b ≤ 30) ↔ _
  omega
set_option maxHeartbeats 1000000 in
theorem RValid_10 (a b : Int) (w : World) : Calls Tryd.prog 37 #[.agg #[.int .i64 10, .int .i64 a, .int .i64 b]] w fun e w' => e = .returned (.bool (validB 10 a b)) ∧ Below w.heap.size w w' := by
  have HV := Lib.hid (validB_10 a b)
  go_enter Tryd.func37, Tryd.ntmps37
  go_wp2_with (first | (go_at_call 54; refine (between_any _ _ _ _).mono ?_; rintro e w' ⟨rfl, rfl⟩))
  all_goals
    go_ret
    refine ⟨ret_bool ?_, (Below.refl _ _).alloc (Nat.le_refl _) _⟩
    rw [HV.out, Bool.eq_iff_iff]
    simp [betw] at *
    try omega

theorem validB_11 (a b : Int) : validB 11 a b = decide ((1 : Int) ≤ a ∧ a ≤ 60 ∧ 0 ≤ b ∧ b ≤ 30) := by
  unfold validB
  rw [decide_eq_decide]
  show (0 ≤ (11 : Int) ∧ (11 : Int) < 26 ∧ (1 : Int) ≤ a ∧ a ≤ 60 ∧ 0 ≤ b ∧ b ≤ 30) ↔ _
  omega
set_option maxHeartbeats 1000000 in
theorem RValid_11 (a b : Int) (w : World) : Calls Tryd.prog 37 #[.agg #[.int .i64 11, .int .i64 a, .int .i64 b]] w fun e w' => e = .returned (.bool (validB 11 a b)) ∧ Below w.heap.size w w' := by
  have HV := Lib.hid (validB_11 a b)
  go_enter Tryd.func37, Tryd.ntmps37
  go_wp2_with (first | (go_at_call 54; refine (between_any _ _ _ _).mono ?_; rintro e w' ⟨rfl, rfl⟩))
  all_goals
    go_ret
    refine ⟨ret_bool ?_, (Below.refl _ _).alloc (Nat.le_refl _) _⟩
    rw [HV.out, Bool.eq_iff_iff]
    simp [betw] at *
    try omega

theorem validB_12 (a b : Int) : validB 12 a b = decide ((0 : Int) ≤ a ∧ a ≤ 0 ∧ 0 ≤ b ∧ b ≤ 0) := by
  unfold validB
  rw [decide_eq_decide]
  show (0 ≤ (12 : Int) ∧ (12 : Int) < 26 ∧ (0 : Int) ≤ a ∧ a ≤ 0 ∧ 0 ≤ b ∧ b ≤ 0) ↔ _
  omega
set_option maxHeartbeats 1000000 in
theorem RValid_12 (a b : Int) (w : World) : Calls Tryd.prog 37 #[.agg #[.int .i64 12, .int .i64 a, .int .i64 b]] w fun e w' => e = .returned (.bool (validB 12 a b)) ∧ Below w.heap.size w w' := by
  have HV := Lib.hid (validB_12 a b)
  go_enter Tryd.func37, Tryd.ntmps37
  go_wp2_with (first | (go_at_call 54; refine (between_any _ _ _ _).mono ?_; rintro e w' ⟨rfl, rfl⟩))
  all_goals
    go_ret
    refine ⟨ret_bool ?_, (Below.refl _ _).alloc (Nat.le_refl _) _⟩
    rw [HV.out, Bool.eq_iff_iff]
    simp at *
    try omega

theorem validB_13 (a b : Int) : validB 13 a b = decide ((0 : Int) ≤ a ∧ a ≤ 0 ∧ 0 ≤ b ∧ b ≤ 0) := by
  unfold validB
  rw [decide_eq_decide]
  show (0 ≤ (13 : Int) ∧ (13 : Int) < 26 ∧ (0 : Int) ≤ a ∧ a ≤ 0 ∧ 0 ≤ b ∧ b ≤ 0) ↔ _
  omega
set_option maxHeartbeats 1000000 in
theorem RValid_13 (a b : Int) (w : World) : Calls Tryd.prog 37 #[.agg #[.int .i64 13, .int .i64 a, .int .i64 b]] w fun e w' => e = .returned (.bool (validB 13 a b)) ∧ Below w.heap.size w w' := by
  have HV := Lib.hid (validB_13 a b)
  go_enter Tryd.func37, Tryd.ntmps37
  go_wp2_with (first | (go_at_call 54; refine (between_any _ _ _ _).mono ?_; rintro e w' ⟨rfl, rfl⟩))
  all_goals
    go_ret
    refine ⟨ret_bool ?_, (Below.refl _ _).alloc (Nat.le_refl _) _⟩
    rw [HV.out, Bool.eq_iff_iff]
    simp at *
    try omega

theorem validB_14 (a b : Int) : validB 14 a b = decide ((0 : Int) ≤ a ∧ a ≤ 0 ∧ 0 ≤ b ∧ b ≤ 0) := by
  unfold validB
  rw [decide_eq_decide]
  show (0 ≤ (14 : Int) ∧ (14 : Int) < 26 ∧ (0 : Int) ≤ a ∧ a ≤ 0 ∧ 0 ≤ b ∧ b ≤ 0) ↔ _
  omega
set_option maxHeartbeats 1000000 in
theorem RValid_14 (a b : Int) (w : World) : Calls Tryd.prog 37 #[.agg #[.int .i64 14, .int .i64 a, .int .i64 b]] w fun e w' => e = .returned (.bool (validB 14 a b)) ∧ Below w.heap.size w w' := by
  have HV := Lib.hid (validB_14 a b)
  go_enter Tryd.func37, Tryd.ntmps37
  go_wp2_with (first | (go_at_call 54; refine (between_any _ _ _ _).mono ?_; rintro e w' ⟨rfl, rfl⟩))
  all_goals
    go_ret
    refine ⟨ret_bool ?_, (Below.refl _ _).alloc (Nat.le_refl _) _⟩
    rw [HV.out, Bool.eq_iff_iff]
    simp at *
    try omega

theorem validB_15 (a b : Int) : validB 15 a b = decide ((0 : Int) ≤ a ∧ a ≤ 0 ∧ 0 ≤ b ∧ b ≤ 0) := by
  unfold validB
  rw [decide_eq_decide]
  show (0 ≤ (15 : Int) ∧ (15 : Int) < 26 ∧ (0 : Int) ≤ a ∧ a ≤ 0 ∧ 0 ≤ b ∧ b ≤ 0) ↔ _
  omega
set_option maxHeartbeats 1000000 in
theorem RValid_15 (a b : Int) (w : World) : Calls Tryd.prog 37 #[.agg #[.int .i64 15, .int .i64 a, .int .i64 b]] w fun e w' => e = .returned (.bool (validB 15 a b)) ∧ Below w.heap.size w w' := by
  have HV := Lib.hid (validB_15 a b)
  go_enter Tryd.func37, Tryd.ntmps37
  go_wp2_with (first | (go_at_call 54; refine (between_any _ _ _ _).mono ?_; rintro e w' ⟨rfl, rfl⟩))
  all_goals
    go_ret
    refine ⟨ret_bool ?_, (Below.refl _ _).alloc (Nat.le_refl _) _⟩
    rw [HV.out, Bool.eq_iff_iff]
    simp at *
    try omega

theorem validB_16 (a b : Int) : validB 16 a b = decide ((0 : Int) ≤ a ∧ a ≤ 10 ∧ 0 ≤ b ∧ b ≤ 0) := by
  unfold validB
  rw [decide_eq_decide]
  show (0 ≤ (16 : Int) ∧ (16 : Int) < 26 ∧ (0 : Int) ≤ a ∧ a ≤ 10 ∧ 0 ≤ b ∧ b ≤ 0) ↔ _
  omega
set_option maxHeartbeats 1000000 in
theorem RValid_16 (a b : Int) (w : World) : Calls Tryd.prog 37 #[.agg #[.int .i64 16, .int .i64 a, .int .i64 b]] w fun e w' => e = .returned (.bool (validB 16 a b)) ∧ Below w.heap.size w w' := by
  have HV := Lib.hid (validB_16 a b)
  go_enter Tryd.func37, Tryd.ntmps37
  go_wp2_with (first | (go_at_call 54; refine (between_any _ _ _ _).mono ?_; rintro e w' ⟨rfl, rfl⟩))
  all_goals
    go_ret
    refine ⟨ret_bool ?_, (Below.refl _ _).alloc (Nat.le_refl _) _⟩
    rw [HV.out, Bool.eq_iff_iff]
    simp [betw] at *
    try omega

theorem validB_17 (a b : Int) : validB 17 a b = decide ((0 : Int) ≤ a ∧ a ≤ 0 ∧ 0 ≤ b ∧ b ≤ 0) := by
  unfold validB
  rw [decide_eq_decide]
  show (0 ≤ (17 : Int) ∧ (17 : Int) < 26 ∧ (0 : Int) ≤ a ∧ a ≤ 0 ∧ 0 ≤ b ∧ b ≤ 0) ↔ _
  omega
set_option maxHeartbeats 1000000 in
theorem RValid_17 (a b : Int) (w : World) : Calls Tryd.prog 37 #[.agg #[.int .i64 17, .int .i64 a, .int .i64 b]] w fun e w' => e = .returned (.bool (validB 17 a b)) ∧ Below w.heap.size w w' := by
  have HV := Lib.hid (validB_17 a b)
  go_enter Tryd.func37, Tryd.ntmps37
  go_wp2_with (first | (go_at_call 54; refine (between_any _ _ _ _).mono ?_; rintro e w' ⟨rfl, rfl⟩))
  all_goals
    go_ret
    refine ⟨ret_bool ?_, (Below.refl _ _).alloc (Nat.le_refl _) _⟩
    rw [HV.out, Bool.eq_iff_iff]
    simp at *
    try omega

theorem validB_18 (a b : Int) : validB 18 a b = decide ((0 : Int) ≤ a ∧ a ≤ 4000 ∧ 0 ≤ b ∧ b ≤ 0) := by
  unfold validB
  rw [decide_eq_decide]
  show (0 ≤ (18 : Int) ∧ (18 : Int) < 26 ∧ (0 : Int) ≤ a ∧ a ≤ 4000 ∧ 0 ≤ b ∧ b ≤ 0) ↔ _
  omega
set_option maxHeartbeats 1000000 in
theorem RValid_18 (a b : Int) (w : World) : Calls Tryd.prog 37 #[.agg #[.int .i64 18, .int .i64 a, .int .i64 b]] w fun e w' => e = .returned (.bool (validB 18 a b)) ∧ Below w.heap.size w w' := by
  have HV := Lib.hid (validB_18 a b)
  go_enter Tryd.func37, Tryd.ntmps37
  go_wp2_with (first | (go_at_call 54; refine (between_any _ _ _ _).mono ?_; rintro e w' ⟨rfl, rfl⟩))
  all_goals
    go_ret
    refine ⟨ret_bool ?_, (Below.refl _ _).alloc (Nat.le_refl _) _⟩
    rw [HV.out, Bool.eq_iff_iff]
    simp [betw] at *
    try omega

theorem validB_19 (a b : Int) : validB 19 a b = decide ((0 : Int) ≤ a ∧ a ≤ 4000 ∧ 0 ≤ b ∧ b ≤ 0) := by
  unfold validB
  rw [decide_eq_decide]
  show (0 ≤ (19 : Int) ∧ (19 : Int) < 26 ∧ (0 : Int) ≤ a ∧ a ≤ 4000 ∧ 0 ≤ b ∧ b ≤ 0) ↔ _
  omega
set_option maxHeartbeats 1000000 in
theorem RValid_19 (a b : Int) (w : World) : Calls Tryd.prog 37 #[.agg #[.int .i64 19, .int .i64 a, .int .i64 b]] w fun e w' => e = .returned (.bool (validB 19 a b)) ∧ Below w.heap.size w w' := by
  have HV := Lib.hid (validB_19 a b)
  go_enter Tryd.func37, Tryd.ntmps37
  go_wp2_with (first | (go_at_call 54; refine (between_any _ _ _ _).mono ?_; rintro e w' ⟨rfl, rfl⟩))
  all_goals
    go_ret
    refine ⟨ret_bool ?_, (Below.refl _ _).alloc (Nat.le_refl _) _⟩
    rw [HV.out, Bool.eq_iff_iff]
    simp [betw] at *
    try omega

theorem validB_20 (a b : Int) : validB 20 a b = decide ((0 : Int) ≤ a ∧ a ≤ 4000 ∧ 0 ≤ b ∧ b ≤ 0) := by
  unfold validB
  rw [decide_eq_decide]
  show (0 ≤ (20 : Int) ∧ (20 : Int) < 26 ∧ (0 : Int) ≤ a ∧ a ≤ 4000 ∧ 0 ≤ b ∧ b ≤ 0) ↔ _
  omega
set_option maxHeartbeats 1000000 in
theorem RValid_20 (a b : Int) (w : World) : Calls Tryd.prog 37 #[.agg #[.int .i64 20, .int .i64 a, .int .i64 b]] w fun e w' => e = .returned (.bool (validB 20 a b)) ∧ Below w.heap.size w w' := by
  have HV := Lib.hid (validB_20 a b)
  go_enter Tryd.func37, Tryd.ntmps37
  go_wp2_with (first | (go_at_call 54; refine (between_any _ _ _ _).mono ?_; rintro e w' ⟨rfl, rfl⟩))
  all_goals
    go_ret
    refine ⟨ret_bool ?_, (Below.refl _ _).alloc (Nat.le_refl _) _⟩
    rw [HV.out, Bool.eq_iff_iff]
    simp [betw] at *
    try omega

theorem validB_21 (a b : Int) : validB 21 a b = decide ((0 : Int) ≤ a ∧ a ≤ 1023 ∧ 0 ≤ b ∧ b ≤ 8) := by
  unfold validB
  rw [decide_eq_decide]
  show (0 ≤ (21 : Int) ∧ (21 : Int) < 26 ∧ (0 : Int) ≤ a ∧ a ≤ 1023 ∧ 0 ≤ b ∧ b ≤ 8) ↔ _
  omega
set_option maxHeartbeats 1000000 in
theorem RValid_21 (a b : Int) (w : World) : Calls Tryd.prog 37 #[.agg #[.int .i64 21, .int .i64 a, .int .i64 b]] w fun e w' => e = .returned (.bool (validB 21 a b)) ∧ Below w.heap.size w w' := by
  have HV := Lib.hid (validB_21 a b)
  go_enter Tryd.func37, Tryd.ntmps37
  go_wp2_with (first | (go_at_call 54; refine (between_any _ _ _ _).mono ?_; rintro e w' ⟨rfl, rfl⟩))
  all_goals
    go_ret
    refine ⟨ret_bool ?_, (Below.refl _ _).alloc (Nat.le_refl _) _⟩
    rw [HV.out, Bool.eq_iff_iff]
    simp [betw] at *
    try omega

theorem validB_22 (a b : Int) : validB 22 a b = decide ((0 : Int) ≤ a ∧ a ≤ 0 ∧ 0 ≤ b ∧ b ≤ 0) := by
  unfold validB
  rw [decide_eq_decide]
  show (0 ≤ (22 : Int) ∧ (22 : Int) < 26 ∧ (0 : Int) ≤ a ∧ a ≤ 0 ∧ 0 ≤ b ∧ b ≤ 0) ↔ _
  omega
set_option maxHeartbeats 1000000 in
theorem RValid_22 (a b : Int) (w : World) : Calls Tryd.prog 37 #[.agg #[.int .i64 22, .int .i64 a, .int .i64 b]] w fun e w' => e = .returned (.bool (validB 22 a b)) ∧ Below w.heap.size w w' := by
  have HV := Lib.hid (validB_22 a b)
  go_enter Tryd.func37, Tryd.ntmps37
  go_wp2_with (first | (go_at_call 54; refine (between_any _ _ _ _).mono ?_; rintro e w' ⟨rfl, rfl⟩))
  all_goals
    go_ret
    refine ⟨ret_bool ?_, (Below.refl _ _).alloc (Nat.le_refl _) _⟩
    rw [HV.out, Bool.eq_iff_iff]
    simp at *
    try omega

theorem validB_23 (a b : Int) : validB 23 a b = decide ((0 : Int) ≤ a ∧ a ≤ 0 ∧ 0 ≤ b ∧ b ≤ 0) := by
  unfold validB
  rw [decide_eq_decide]
  show (0 ≤ (23 : Int) ∧ (23 : Int) < 26 ∧ (0 : Int) ≤ a ∧ a ≤ 0 ∧ 0 ≤ b ∧ b ≤ 0) ↔ _
  omega
set_option maxHeartbeats 1000000 in
theorem RValid_23 (a b : Int) (w : World) : Calls Tryd.prog 37 #[.agg #[.int .i64 23, .int .i64 a, .int .i64 b]] w fun e w' => e = .returned (.bool (validB 23 a b)) ∧ Below w.heap.size w w' := by
  have HV := Lib.hid (validB_23 a b)
  go_enter Tryd.func37, Tryd.ntmps37
  go_wp2_with (first | (go_at_call 54; refine (between_any _ _ _ _).mono ?_; rintro e w' ⟨rfl, rfl⟩))
  all_goals
    go_ret
    refine ⟨ret_bool ?_, (Below.refl _ _).alloc (Nat.le_refl _) _⟩
    rw [HV.out, Bool.eq_iff_iff]
    simp at *
    try omega

theorem validB_24 (a b : Int) : validB 24 a b = decide ((0 : Int) ≤ a ∧ a ≤ 1023 ∧ 0 ≤ b ∧ b ≤ 0) := by
  unfold validB
  rw [decide_eq_decide]
  show (0 ≤ (24 : Int) ∧ (24 : Int) < 26 ∧ (0 : Int) ≤ a ∧ a ≤ 1023 ∧ 0 ≤ b ∧ b ≤ 0) ↔ _
  omega
set_option maxHeartbeats 1000000 in
theorem RValid_24 (a b : Int) (w : World) : Calls Tryd.prog 37 #[.agg #[.int .i64 24, .int .i64 a, .int .i64 b]] w fun e w' => e = .returned (.bool (validB 24 a b)) ∧ Below w.heap.size w w' := by
  have HV := Lib.hid (validB_24 a b)
  go_enter Tryd.func37, Tryd.ntmps37
  go_wp2_with (first | (go_at_call 54; refine (between_any _ _ _ _).mono ?_; rintro e w' ⟨rfl, rfl⟩))
  all_goals
    go_ret
    refine ⟨ret_bool ?_, (Below.refl _ _).alloc (Nat.le_refl _) _⟩
    rw [HV.out, Bool.eq_iff_iff]
    simp [betw] at *
    try omega

theorem validB_25 (a b : Int) : validB 25 a b = decide ((0 : Int) ≤ a ∧ a ≤ 0 ∧ 0 ≤ b ∧ b ≤ 0) := by
  unfold validB
  rw [decide_eq_decide]
  show (0 ≤ (25 : Int) ∧ (25 : Int) < 26 ∧ (0 : Int) ≤ a ∧ a ≤ 0 ∧ 0 ≤ b ∧ b ≤ 0) ↔ _
  omega
set_option maxHeartbeats 1000000 in
theorem RValid_25 (a b : Int) (w : World) : Calls Tryd.prog 37 #[.agg #[.int .i64 25, .int .i64 a, .int .i64 b]] w fun e w' => e = .returned (.bool (validB 25 a b)) ∧ Below w.heap.size w w' := by
  have HV := Lib.hid (validB_25 a b)
  go_enter Tryd.func37, Tryd.ntmps37
  go_wp2_with (first | (go_at_call 54; refine (between_any _ _ _ _).mono ?_; rintro e w' ⟨rfl, rfl⟩))
  all_goals
    go_ret
    refine ⟨ret_bool ?_, (Below.refl _ _).alloc (Nat.le_refl _) _⟩
    rw [HV.out, Bool.eq_iff_iff]
    simp at *
    try omega

set_option maxHeartbeats 1000000 in
theorem RValid_out (n a b : Int) (h : n < 0 ∨ 26 ≤ n) (w : World) : Calls Tryd.prog 37 #[.agg #[.int .i64 n, .int .i64 a, .int .i64 b]] w fun e w' => e = .returned (.bool false) ∧ Below w.heap.size w w' := by
  have h0 : (n == 0) = false := by simp; omega
  have h3 : (n == 3) = false := by simp; omega
  have h4 : (n == 4) = false := by simp; omega
  have h7 : (n == 7) = false := by simp; omega
  have h9 : (n == 9) = false := by simp; omega
  have h6 : (n == 6) = false := by simp; omega
  have h8 : (n == 8) = false := by simp; omega
  have h24 : (n == 24) = false := by simp; omega
  have h10 : (n == 10) = false := by simp; omega
  have h11 : (n == 11) = false := by simp; omega
  have h16 : (n == 16) = false := by simp; omega
  have h18 : (n == 18) = false := by simp; omega
  have h19 : (n == 19) = false := by simp; omega
  have h20 : (n == 20) = false := by simp; omega
  have h21 : (n == 21) = false := by simp; omega
  rcases h with h | h
  all_goals
    go_enter Tryd.func37, Tryd.ntmps37
    go_wp2_with (first | (go_at_call 54; refine (between_any _ _ _ _).mono ?_; rintro e w' ⟨rfl, rfl⟩))
    go_ret
    exact ⟨rfl, (Below.refl _ _).alloc (Nat.le_refl _) _⟩

theorem RValid_any (n a b : Int) (w : World) : Calls Tryd.prog 37 #[.agg #[.int .i64 n, .int .i64 a, .int .i64 b]] w fun e w' => e = .returned (.bool (validB n a b)) ∧ Below w.heap.size w w' := by
  by_cases h : n < 0 ∨ 26 ≤ n
  · have hv : validB n a b = false := decide_eq_false (by omega)
    rw [hv]
    exact RValid_out n a b h w
  · have hh : n = 0 ∨ n = 1 ∨ n = 2 ∨ n = 3 ∨ n = 4 ∨ n = 5 ∨ n = 6 ∨ n = 7 ∨ n = 8 ∨ n = 9 ∨ n = 10 ∨ n = 11 ∨ n = 12 ∨ n = 13 ∨ n = 14 ∨ n = 15 ∨ n = 16 ∨ n = 17 ∨ n = 18 ∨ n = 19 ∨ n = 20 ∨ n = 21 ∨ n = 22 ∨ n = 23 ∨ n = 24 ∨ n = 25 := by omega
    rcases hh with rfl | rfl | rfl | rfl | rfl | rfl | rfl | rfl | rfl | rfl | rfl | rfl | rfl | rfl | rfl | rfl | rfl | rfl | rfl | rfl | rfl | rfl | rfl | rfl | rfl | rfl
    · exact RValid_0 a b w
    · exact RValid_1 a b w
    · exact RValid_2 a b w
    · exact RValid_3 a b w
    · exact RValid_4 a b w
    · exact RValid_5 a b w
    · exact RValid_6 a b w
    · exact RValid_7 a b w
    · exact RValid_8 a b w
    · exact RValid_9 a b w
    · exact RValid_10 a b w
    · exact RValid_11 a b w
    · exact RValid_12 a b w
    · exact RValid_13 a b w
    · exact RValid_14 a b w
    · exact RValid_15 a b w
    · exact RValid_16 a b w
    · exact RValid_17 a b w
    · exact RValid_18 a b w
    · exact RValid_19 a b w
    · exact RValid_20 a b w
    · exact RValid_21 a b w
    · exact RValid_22 a b w
    · exact RValid_23 a b w
    · exact RValid_24 a b w
    · exact RValid_25 a b w
end Go.Proofs.YtdmbcgkfecmakaaDoor
