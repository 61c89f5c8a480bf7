/- What refmeshref41.Effect returns: what bytecode.Effect returns. -/
import Derived.Test.YtdmbcgkfecmakaaDoorRValid
import Derived.Test.YtdmbcgkfecmakaaDoorEffect
namespace Go.Proofs.YtdmbcgkfecmakaaDoor
set_option linter.unusedVariables false
set_option linter.unusedSimpArgs false
set_option linter.unusedSectionVars false
open Go.RowKit
set_option maxRecDepth 100000

theorem popsI_0 (a b : Int) (hv : validB 0 a b = true) : popsI 0 a b = 0 := by
  unfold popsI
  rw [if_pos hv]
  show (0 : Int) + 0 = _
  omega
theorem pushesI_0 (a b : Int) (hv : validB 0 a b = true) : pushesI 0 a b = 1 := by
  unfold pushesI
  rw [if_pos hv]
  rfl
set_option maxHeartbeats 1000000 in
theorem REffect_0 (a b : Int) (hv : validB 0 a b = true) (w : World) : Calls Tryd.prog 34 #[.agg #[.int .i64 0, .int .i64 a, .int .i64 b]] w fun e w' => e = .returned (.tuple #[.int .i64 (popsI 0 a b), .int .i64 (pushesI 0 a b)]) ∧ Below w.heap.size w w' := by
  have b0 : 0 ≤ b := by obtain ⟨_, _, _, _, _, h, _⟩ := validB_some hv; exact h
  have b1 : b ≤ 30 := by obtain ⟨_, _, _, _, _, _, _, h⟩ := validB_some hv; exact h
  have HP := Lib.hid (popsI_0 a b hv)
  have HQ := Lib.hid (pushesI_0 a b hv)
  go_enter Tryd.func34, Tryd.ntmps34
  go_wp2_with (first | (go_at_call 37; refine (RValid_any _ _ _ _).mono ?_; rintro e w1 ⟨rfl, hb⟩; have hz : w.heap.size < w1.heap.size := (by have := hb.size; simp at this; omega); have c0 := box_kept hb 0; have c1 := box_kept hb 1; have c2 := box_kept hb 2; simp only [List.getElem?_toArray, List.getElem?_cons_zero, List.getElem?_cons_succ] at c0 c1 c2))
  go_ret2
  exact ⟨ret_int2 HP.out.symm HQ.out.symm, below_box hb⟩

theorem popsI_1 (a b : Int) (hv : validB 1 a b = true) : popsI 1 a b = 0 := by
  unfold popsI
  rw [if_pos hv]
  show (0 : Int) + 0 = _
  omega
theorem pushesI_1 (a b : Int) (hv : validB 1 a b = true) : pushesI 1 a b = 1 := by
  unfold pushesI
  rw [if_pos hv]
  rfl
set_option maxHeartbeats 1000000 in
theorem REffect_1 (a b : Int) (hv : validB 1 a b = true) (w : World) : Calls Tryd.prog 34 #[.agg #[.int .i64 1, .int .i64 a, .int .i64 b]] w fun e w' => e = .returned (.tuple #[.int .i64 (popsI 1 a b), .int .i64 (pushesI 1 a b)]) ∧ Below w.heap.size w w' := by
  have b0 : 0 ≤ b := by obtain ⟨_, _, _, _, _, h, _⟩ := validB_some hv; exact h
  have b1 : b ≤ 30 := by obtain ⟨_, _, _, _, _, _, _, h⟩ := validB_some hv; exact h
  have HP := Lib.hid (popsI_1 a b hv)
  have HQ := Lib.hid (pushesI_1 a b hv)
  go_enter Tryd.func34, Tryd.ntmps34
  go_wp2_with (first | (go_at_call 37; refine (RValid_any _ _ _ _).mono ?_; rintro e w1 ⟨rfl, hb⟩; have hz : w.heap.size < w1.heap.size := (by have := hb.size; simp at this; omega); have c0 := box_kept hb 0; have c1 := box_kept hb 1; have c2 := box_kept hb 2; simp only [List.getElem?_toArray, List.getElem?_cons_zero, List.getElem?_cons_succ] at c0 c1 c2))
  go_ret2
  exact ⟨ret_int2 HP.out.symm HQ.out.symm, below_box hb⟩

theorem popsI_2 (a b : Int) (hv : validB 2 a b = true) : popsI 2 a b = 0 := by
  unfold popsI
  rw [if_pos hv]
  show (0 : Int) + 0 = _
  omega
theorem pushesI_2 (a b : Int) (hv : validB 2 a b = true) : pushesI 2 a b = 1 := by
  unfold pushesI
  rw [if_pos hv]
  rfl
set_option maxHeartbeats 1000000 in
theorem REffect_2 (a b : Int) (hv : validB 2 a b = true) (w : World) : Calls Tryd.prog 34 #[.agg #[.int .i64 2, .int .i64 a, .int .i64 b]] w fun e w' => e = .returned (.tuple #[.int .i64 (popsI 2 a b), .int .i64 (pushesI 2 a b)]) ∧ Below w.heap.size w w' := by
  have b0 : 0 ≤ b := by obtain ⟨_, _, _, _, _, h, _⟩ := validB_some hv; exact h
  have b1 : b ≤ 30 := by obtain ⟨_, _, _, _, _, _, _, h⟩ := validB_some hv; exact h
  have HP := Lib.hid (popsI_2 a b hv)
  have HQ := Lib.hid (pushesI_2 a b hv)
  go_enter Tryd.func34, Tryd.ntmps34
  go_wp2_with (first | (go_at_call 37; refine (RValid_any _ _ _ _).mono ?_; rintro e w1 ⟨rfl, hb⟩; have hz : w.heap.size < w1.heap.size := (by have := hb.size; simp at this; omega); have c0 := box_kept hb 0; have c1 := box_kept hb 1; have c2 := box_kept hb 2; simp only [List.getElem?_toArray, List.getElem?_cons_zero, List.getElem?_cons_succ] at c0 c1 c2))
  go_ret2
  exact ⟨ret_int2 HP.out.symm HQ.out.symm, below_box hb⟩

theorem popsI_3 (a b : Int) (hv : validB 3 a b = true) : popsI 3 a b = 0 := by
  unfold popsI
  rw [if_pos hv]
  show (0 : Int) + 0 = _
  omega
theorem pushesI_3 (a b : Int) (hv : validB 3 a b = true) : pushesI 3 a b = 1 := by
  unfold pushesI
  rw [if_pos hv]
  rfl
set_option maxHeartbeats 1000000 in
theorem REffect_3 (a b : Int) (hv : validB 3 a b = true) (w : World) : Calls Tryd.prog 34 #[.agg #[.int .i64 3, .int .i64 a, .int .i64 b]] w fun e w' => e = .returned (.tuple #[.int .i64 (popsI 3 a b), .int .i64 (pushesI 3 a b)]) ∧ Below w.heap.size w w' := by
  have b0 : 0 ≤ b := by obtain ⟨_, _, _, _, _, h, _⟩ := validB_some hv; exact h
  have b1 : b ≤ 30 := by obtain ⟨_, _, _, _, _, _, _, h⟩ := validB_some hv; exact h
  have HP := Lib.hid (popsI_3 a b hv)
  have HQ := Lib.hid (pushesI_3 a b hv)
  go_enter Tryd.func34, Tryd.ntmps34
  go_wp2_with (first | (go_at_call 37; refine (RValid_any _ _ _ _).mono ?_; rintro e w1 ⟨rfl, hb⟩; have hz : w.heap.size < w1.heap.size := (by have := hb.size; simp at this; omega); have c0 := box_kept hb 0; have c1 := box_kept hb 1; have c2 := box_kept hb 2; simp only [List.getElem?_toArray, List.getElem?_cons_zero, List.getElem?_cons_succ] at c0 c1 c2))
  go_ret2
  exact ⟨ret_int2 HP.out.symm HQ.out.symm, below_box hb⟩

theorem popsI_4 (a b : Int) (hv : validB 4 a b = true) : popsI 4 a b = 1 := by
  unfold popsI
  rw [if_pos hv]
  show (1 : Int) + 0 = _
  omega
theorem pushesI_4 (a b : Int) (hv : validB 4 a b = true) : pushesI 4 a b = 0 := by
  unfold pushesI
  rw [if_pos hv]
  rfl
set_option maxHeartbeats 1000000 in
theorem REffect_4 (a b : Int) (hv : validB 4 a b = true) (w : World) : Calls Tryd.prog 34 #[.agg #[.int .i64 4, .int .i64 a, .int .i64 b]] w fun e w' => e = .returned (.tuple #[.int .i64 (popsI 4 a b), .int .i64 (pushesI 4 a b)]) ∧ Below w.heap.size w w' := by
  have b0 : 0 ≤ b := by obtain ⟨_, _, _, _, _, h, _⟩ := validB_some hv; exact h
  have b1 : b ≤ 30 := by obtain ⟨_, _, _, _, _, _, _, h⟩ := validB_some hv; exact h
  have HP := Lib.hid (popsI_4 a b hv)
  have HQ := Lib.hid (pushesI_4 a b hv)
  go_enter Tryd.func34, Tryd.ntmps34
  go_wp2_with (first | (go_at_call 37; refine (RValid_any _ _ _ _).mono ?_; rintro e w1 ⟨rfl, hb⟩; have hz : w.heap.size < w1.heap.size := (by have := hb.size; simp at this; omega); have c0 := box_kept hb 0; have c1 := box_kept hb 1; have c2 := box_kept hb 2; simp only [List.getElem?_toArray, List.getElem?_cons_zero, List.getElem?_cons_succ] at c0 c1 c2))
  go_ret2
  exact ⟨ret_int2 HP.out.symm HQ.out.symm, below_box hb⟩

theorem popsI_5 (a b : Int) (hv : validB 5 a b = true) : popsI 5 a b = 1 := by
  unfold popsI
  rw [if_pos hv]
  show (1 : Int) + 0 = _
  omega
theorem pushesI_5 (a b : Int) (hv : validB 5 a b = true) : pushesI 5 a b = 0 := by
  unfold pushesI
  rw [if_pos hv]
  rfl
set_option maxHeartbeats 1000000 in
theorem REffect_5 (a b : Int) (hv : validB 5 a b = true) (w : World) : Calls Tryd.prog 34 #[.agg #[.int .i64 5, .int .i64 a, .int .i64 b]] w fun e w' => e = .returned (.tuple #[.int .i64 (popsI 5 a b), .int .i64 (pushesI 5 a b)]) ∧ Below w.heap.size w w' := by
  have b0 : 0 ≤ b := by obtain ⟨_, _, _, _, _, h, _⟩ := validB_some hv; exact h
  have b1 : b ≤ 30 := by obtain ⟨_, _, _, _, _, _, _, h⟩ := validB_some hv; exact h
  have HP := Lib.hid (popsI_5 a b hv)
  have HQ := Lib.hid (pushesI_5 a b hv)
  go_enter Tryd.func34, Tryd.ntmps34
  go_wp2_with (first | (go_at_call 37; refine (RValid_any _ _ _ _).mono ?_; rintro e w1 ⟨rfl, hb⟩; have hz : w.heap.size < w1.heap.size := (by have := hb.size; simp at this; omega); have c0 := box_kept hb 0; have c1 := box_kept hb 1; have c2 := box_kept hb 2; simp only [List.getElem?_toArray, List.getElem?_cons_zero, List.getElem?_cons_succ] at c0 c1 c2))
  go_ret2
  exact ⟨ret_int2 HP.out.symm HQ.out.symm, below_box hb⟩

theorem popsI_6 (a b : Int) (hv : validB 6 a b = true) : popsI 6 a b = 1 := by
  unfold popsI
  rw [if_pos hv]
  show (1 : Int) + 0 = _
  omega
theorem pushesI_6 (a b : Int) (hv : validB 6 a b = true) : pushesI 6 a b = 1 := by
  unfold pushesI
  rw [if_pos hv]
  rfl
set_option maxHeartbeats 1000000 in
theorem REffect_6 (a b : Int) (hv : validB 6 a b = true) (w : World) : Calls Tryd.prog 34 #[.agg #[.int .i64 6, .int .i64 a, .int .i64 b]] w fun e w' => e = .returned (.tuple #[.int .i64 (popsI 6 a b), .int .i64 (pushesI 6 a b)]) ∧ Below w.heap.size w w' := by
  have b0 : 0 ≤ b := by obtain ⟨_, _, _, _, _, h, _⟩ := validB_some hv; exact h
  have b1 : b ≤ 30 := by obtain ⟨_, _, _, _, _, _, _, h⟩ := validB_some hv; exact h
  have HP := Lib.hid (popsI_6 a b hv)
  have HQ := Lib.hid (pushesI_6 a b hv)
  go_enter Tryd.func34, Tryd.ntmps34
  go_wp2_with (first | (go_at_call 37; refine (RValid_any _ _ _ _).mono ?_; rintro e w1 ⟨rfl, hb⟩; have hz : w.heap.size < w1.heap.size := (by have := hb.size; simp at this; omega); have c0 := box_kept hb 0; have c1 := box_kept hb 1; have c2 := box_kept hb 2; simp only [List.getElem?_toArray, List.getElem?_cons_zero, List.getElem?_cons_succ] at c0 c1 c2))
  go_ret2
  exact ⟨ret_int2 HP.out.symm HQ.out.symm, below_box hb⟩

theorem popsI_7 (a b : Int) (hv : validB 7 a b = true) : popsI 7 a b = 0 := by
  unfold popsI
  rw [if_pos hv]
  show (0 : Int) + 0 = _
  omega
theorem pushesI_7 (a b : Int) (hv : validB 7 a b = true) : pushesI 7 a b = 1 := by
  unfold pushesI
  rw [if_pos hv]
  rfl
set_option maxHeartbeats 1000000 in
theorem REffect_7 (a b : Int) (hv : validB 7 a b = true) (w : World) : Calls Tryd.prog 34 #[.agg #[.int .i64 7, .int .i64 a, .int .i64 b]] w fun e w' => e = .returned (.tuple #[.int .i64 (popsI 7 a b), .int .i64 (pushesI 7 a b)]) ∧ Below w.heap.size w w' := by
  have b0 : 0 ≤ b := by obtain ⟨_, _, _, _, _, h, _⟩ := validB_some hv; exact h
  have b1 : b ≤ 30 := by obtain ⟨_, _, _, _, _, _, _, h⟩ := validB_some hv; exact h
  have HP := Lib.hid (popsI_7 a b hv)
  have HQ := Lib.hid (pushesI_7 a b hv)
  go_enter Tryd.func34, Tryd.ntmps34
  go_wp2_with (first | (go_at_call 37; refine (RValid_any _ _ _ _).mono ?_; rintro e w1 ⟨rfl, hb⟩; have hz : w.heap.size < w1.heap.size := (by have := hb.size; simp at this; omega); have c0 := box_kept hb 0; have c1 := box_kept hb 1; have c2 := box_kept hb 2; simp only [List.getElem?_toArray, List.getElem?_cons_zero, List.getElem?_cons_succ] at c0 c1 c2))
  go_ret2
  exact ⟨ret_int2 HP.out.symm HQ.out.symm, below_box hb⟩

theorem popsI_8 (a b : Int) (hv : validB 8 a b = true) : popsI 8 a b = 2 := by
  unfold popsI
  rw [if_pos hv]
  show (2 : Int) + 0 = _
  omega
theorem pushesI_8 (a b : Int) (hv : validB 8 a b = true) : pushesI 8 a b = 0 := by
  unfold pushesI
  rw [if_pos hv]
  rfl
set_option maxHeartbeats 1000000 in
theorem REffect_8 (a b : Int) (hv : validB 8 a b = true) (w : World) : Calls Tryd.prog 34 #[.agg #[.int .i64 8, .int .i64 a, .int .i64 b]] w fun e w' => e = .returned (.tuple #[.int .i64 (popsI 8 a b), .int .i64 (pushesI 8 a b)]) ∧ Below w.heap.size w w' := by
  have b0 : 0 ≤ b := by obtain ⟨_, _, _, _, _, h, _⟩ := validB_some hv; exact h
  have b1 : b ≤ 30 := by obtain ⟨_, _, _, _, _, _, _, h⟩ := validB_some hv; exact h
  have HP := Lib.hid (popsI_8 a b hv)
  have HQ := Lib.hid (pushesI_8 a b hv)
  go_enter Tryd.func34, Tryd.ntmps34
  go_wp2_with (first | (go_at_call 37; refine (RValid_any _ _ _ _).mono ?_; rintro e w1 ⟨rfl, hb⟩; have hz : w.heap.size < w1.heap.size := (by have := hb.size; simp at this; omega); have c0 := box_kept hb 0; have c1 := box_kept hb 1; have c2 := box_kept hb 2; simp only [List.getElem?_toArray, List.getElem?_cons_zero, List.getElem?_cons_succ] at c0 c1 c2))
  go_ret2
  exact ⟨ret_int2 HP.out.symm HQ.out.symm, below_box hb⟩

theorem popsI_9 (a b : Int) (hv : validB 9 a b = true) : popsI 9 a b = 1 := by
  unfold popsI
  rw [if_pos hv]
  show (1 : Int) + 0 = _
  omega
theorem pushesI_9 (a b : Int) (hv : validB 9 a b = true) : pushesI 9 a b = 0 := by
  unfold pushesI
  rw [if_pos hv]
  rfl
set_option maxHeartbeats 1000000 in
theorem REffect_9 (a b : Int) (hv : validB 9 a b = true) (w : World) : Calls Tryd.prog 34 #[.agg #[.int .i64 9, .int .i64 a, .int .i64 b]] w fun e w' => e = .returned (.tuple #[.int .i64 (popsI 9 a b), .int .i64 (pushesI 9 a b)]) ∧ Below w.heap.size w w' := by
  have b0 : 0 ≤ b := by obtain ⟨_, _, _, _, _, h, _⟩ := validB_some hv; exact h
  have b1 : b ≤ 30 := by obtain ⟨_, _, _, _, _, _, _, h⟩ := validB_some hv; exact h
  have HP := Lib.hid (popsI_9 a b hv)
  have HQ := Lib.hid (pushesI_9 a b hv)
  go_enter Tryd.func34, Tryd.ntmps34
  go_wp2_with (first | (go_at_call 37; refine (RValid_any _ _ _ _).mono ?_; rintro e w1 ⟨rfl, hb⟩; have hz : w.heap.size < w1.heap.size := (by have := hb.size; simp at this; omega); have c0 := box_kept hb 0; have c1 := box_kept hb 1; have c2 := box_kept hb 2; simp only [List.getElem?_toArray, List.getElem?_cons_zero, List.getElem?_cons_succ] at c0 c1 c2))
  go_ret2
  exact ⟨ret_int2 HP.out.symm HQ.out.symm, below_box hb⟩

theorem popsI_10 (a b : Int) (hv : validB 10 a b = true) : popsI 10 a b = b := by
  unfold popsI
  rw [if_pos hv]
  show (0 : Int) + b = _
  omega
theorem pushesI_10 (a b : Int) (hv : validB 10 a b = true) : pushesI 10 a b = 1 := by
  unfold pushesI
  rw [if_pos hv]
  rfl
set_option maxHeartbeats 1000000 in
theorem REffect_10 (a b : Int) (hv : validB 10 a b = true) (w : World) : Calls Tryd.prog 34 #[.agg #[.int .i64 10, .int .i64 a, .int .i64 b]] w fun e w' => e = .returned (.tuple #[.int .i64 (popsI 10 a b), .int .i64 (pushesI 10 a b)]) ∧ Below w.heap.size w w' := by
  have b0 : 0 ≤ b := by obtain ⟨_, _, _, _, _, h, _⟩ := validB_some hv; exact h
  have b1 : b ≤ 30 := by obtain ⟨_, _, _, _, _, _, _, h⟩ := validB_some hv; exact h
  have HP := Lib.hid (popsI_10 a b hv)
  have HQ := Lib.hid (pushesI_10 a b hv)
  go_enter Tryd.func34, Tryd.ntmps34
  go_wp2_with (first | (go_at_call 37; refine (RValid_any _ _ _ _).mono ?_; rintro e w1 ⟨rfl, hb⟩; have hz : w.heap.size < w1.heap.size := (by have := hb.size; simp at this; omega); have c0 := box_kept hb 0; have c1 := box_kept hb 1; have c2 := box_kept hb 2; simp only [List.getElem?_toArray, List.getElem?_cons_zero, List.getElem?_cons_succ] at c0 c1 c2))
  go_ret2
  exact ⟨ret_int2 HP.out.symm HQ.out.symm, below_box hb⟩

theorem popsI_11 (a b : Int) (hv : validB 11 a b = true) : popsI 11 a b = b + 1 := by
  unfold popsI
  rw [if_pos hv]
  show (1 : Int) + b = _
  omega
theorem pushesI_11 (a b : Int) (hv : validB 11 a b = true) : pushesI 11 a b = 1 := by
  unfold pushesI
  rw [if_pos hv]
  rfl
set_option maxHeartbeats 1000000 in
theorem REffect_11 (a b : Int) (hv : validB 11 a b = true) (w : World) : Calls Tryd.prog 34 #[.agg #[.int .i64 11, .int .i64 a, .int .i64 b]] w fun e w' => e = .returned (.tuple #[.int .i64 (popsI 11 a b), .int .i64 (pushesI 11 a b)]) ∧ Below w.heap.size w w' := by
  have b0 : 0 ≤ b := by obtain ⟨_, _, _, _, _, h, _⟩ := validB_some hv; exact h
  have b1 : b ≤ 30 := by obtain ⟨_, _, _, _, _, _, _, h⟩ := validB_some hv; exact h
  have HP := Lib.hid (popsI_11 a b hv)
  have HQ := Lib.hid (pushesI_11 a b hv)
  go_enter Tryd.func34, Tryd.ntmps34
  go_wp2_with (first | (go_at_call 37; refine (RValid_any _ _ _ _).mono ?_; rintro e w1 ⟨rfl, hb⟩; have hz : w.heap.size < w1.heap.size := (by have := hb.size; simp at this; omega); have c0 := box_kept hb 0; have c1 := box_kept hb 1; have c2 := box_kept hb 2; simp only [List.getElem?_toArray, List.getElem?_cons_zero, List.getElem?_cons_succ] at c0 c1 c2))
  go_ret2
  exact ⟨ret_int2 HP.out.symm HQ.out.symm, below_box hb⟩

theorem popsI_12 (a b : Int) (hv : validB 12 a b = true) : popsI 12 a b = 1 := by
  unfold popsI
  rw [if_pos hv]
  show (1 : Int) + 0 = _
  omega
theorem pushesI_12 (a b : Int) (hv : validB 12 a b = true) : pushesI 12 a b = 1 := by
  unfold pushesI
  rw [if_pos hv]
  rfl
set_option maxHeartbeats 1000000 in
theorem REffect_12 (a b : Int) (hv : validB 12 a b = true) (w : World) : Calls Tryd.prog 34 #[.agg #[.int .i64 12, .int .i64 a, .int .i64 b]] w fun e w' => e = .returned (.tuple #[.int .i64 (popsI 12 a b), .int .i64 (pushesI 12 a b)]) ∧ Below w.heap.size w w' := by
  have b0 : 0 ≤ b := by obtain ⟨_, _, _, _, _, h, _⟩ := validB_some hv; exact h
  have b1 : b ≤ 30 := by obtain ⟨_, _, _, _, _, _, _, h⟩ := validB_some hv; exact h
  have HP := Lib.hid (popsI_12 a b hv)
  have HQ := Lib.hid (pushesI_12 a b hv)
  go_enter Tryd.func34, Tryd.ntmps34
  go_wp2_with (first | (go_at_call 37; refine (RValid_any _ _ _ _).mono ?_; rintro e w1 ⟨rfl, hb⟩; have hz : w.heap.size < w1.heap.size := (by have := hb.size; simp at this; omega); have c0 := box_kept hb 0; have c1 := box_kept hb 1; have c2 := box_kept hb 2; simp only [List.getElem?_toArray, List.getElem?_cons_zero, List.getElem?_cons_succ] at c0 c1 c2))
  go_ret2
  exact ⟨ret_int2 HP.out.symm HQ.out.symm, below_box hb⟩

theorem popsI_13 (a b : Int) (hv : validB 13 a b = true) : popsI 13 a b = 1 := by
  unfold popsI
  rw [if_pos hv]
  show (1 : Int) + 0 = _
  omega
theorem pushesI_13 (a b : Int) (hv : validB 13 a b = true) : pushesI 13 a b = 1 := by
  unfold pushesI
  rw [if_pos hv]
  rfl
set_option maxHeartbeats 1000000 in
theorem REffect_13 (a b : Int) (hv : validB 13 a b = true) (w : World) : Calls Tryd.prog 34 #[.agg #[.int .i64 13, .int .i64 a, .int .i64 b]] w fun e w' => e = .returned (.tuple #[.int .i64 (popsI 13 a b), .int .i64 (pushesI 13 a b)]) ∧ Below w.heap.size w w' := by
  have b0 : 0 ≤ b := by obtain ⟨_, _, _, _, _, h, _⟩ := validB_some hv; exact h
  have b1 : b ≤ 30 := by obtain ⟨_, _, _, _, _, _, _, h⟩ := validB_some hv; exact h
  have HP := Lib.hid (popsI_13 a b hv)
  have HQ := Lib.hid (pushesI_13 a b hv)
  go_enter Tryd.func34, Tryd.ntmps34
  go_wp2_with (first | (go_at_call 37; refine (RValid_any _ _ _ _).mono ?_; rintro e w1 ⟨rfl, hb⟩; have hz : w.heap.size < w1.heap.size := (by have := hb.size; simp at this; omega); have c0 := box_kept hb 0; have c1 := box_kept hb 1; have c2 := box_kept hb 2; simp only [List.getElem?_toArray, List.getElem?_cons_zero, List.getElem?_cons_succ] at c0 c1 c2))
  go_ret2
  exact ⟨ret_int2 HP.out.symm HQ.out.symm, below_box hb⟩

theorem popsI_14 (a b : Int) (hv : validB 14 a b = true) : popsI 14 a b = 1 := by
  unfold popsI
  rw [if_pos hv]
  show (1 : Int) + 0 = _
  omega
theorem pushesI_14 (a b : Int) (hv : validB 14 a b = true) : pushesI 14 a b = 1 := by
  unfold pushesI
  rw [if_pos hv]
  rfl
set_option maxHeartbeats 1000000 in
theorem REffect_14 (a b : Int) (hv : validB 14 a b = true) (w : World) : Calls Tryd.prog 34 #[.agg #[.int .i64 14, .int .i64 a, .int .i64 b]] w fun e w' => e = .returned (.tuple #[.int .i64 (popsI 14 a b), .int .i64 (pushesI 14 a b)]) ∧ Below w.heap.size w w' := by
  have b0 : 0 ≤ b := by obtain ⟨_, _, _, _, _, h, _⟩ := validB_some hv; exact h
  have b1 : b ≤ 30 := by obtain ⟨_, _, _, _, _, _, _, h⟩ := validB_some hv; exact h
  have HP := Lib.hid (popsI_14 a b hv)
  have HQ := Lib.hid (pushesI_14 a b hv)
  go_enter Tryd.func34, Tryd.ntmps34
  go_wp2_with (first | (go_at_call 37; refine (RValid_any _ _ _ _).mono ?_; rintro e w1 ⟨rfl, hb⟩; have hz : w.heap.size < w1.heap.size := (by have := hb.size; simp at this; omega); have c0 := box_kept hb 0; have c1 := box_kept hb 1; have c2 := box_kept hb 2; simp only [List.getElem?_toArray, List.getElem?_cons_zero, List.getElem?_cons_succ] at c0 c1 c2))
  go_ret2
  exact ⟨ret_int2 HP.out.symm HQ.out.symm, below_box hb⟩

theorem popsI_15 (a b : Int) (hv : validB 15 a b = true) : popsI 15 a b = 1 := by
  unfold popsI
  rw [if_pos hv]
  show (1 : Int) + 0 = _
  omega
theorem pushesI_15 (a b : Int) (hv : validB 15 a b = true) : pushesI 15 a b = 1 := by
  unfold pushesI
  rw [if_pos hv]
  rfl
set_option maxHeartbeats 1000000 in
theorem REffect_15 (a b : Int) (hv : validB 15 a b = true) (w : World) : Calls Tryd.prog 34 #[.agg #[.int .i64 15, .int .i64 a, .int .i64 b]] w fun e w' => e = .returned (.tuple #[.int .i64 (popsI 15 a b), .int .i64 (pushesI 15 a b)]) ∧ Below w.heap.size w w' := by
  have b0 : 0 ≤ b := by obtain ⟨_, _, _, _, _, h, _⟩ := validB_some hv; exact h
  have b1 : b ≤ 30 := by obtain ⟨_, _, _, _, _, _, _, h⟩ := validB_some hv; exact h
  have HP := Lib.hid (popsI_15 a b hv)
  have HQ := Lib.hid (pushesI_15 a b hv)
  go_enter Tryd.func34, Tryd.ntmps34
  go_wp2_with (first | (go_at_call 37; refine (RValid_any _ _ _ _).mono ?_; rintro e w1 ⟨rfl, hb⟩; have hz : w.heap.size < w1.heap.size := (by have := hb.size; simp at this; omega); have c0 := box_kept hb 0; have c1 := box_kept hb 1; have c2 := box_kept hb 2; simp only [List.getElem?_toArray, List.getElem?_cons_zero, List.getElem?_cons_succ] at c0 c1 c2))
  go_ret2
  exact ⟨ret_int2 HP.out.symm HQ.out.symm, below_box hb⟩

theorem popsI_16 (a b : Int) (hv : validB 16 a b = true) : popsI 16 a b = 2 := by
  unfold popsI
  rw [if_pos hv]
  show (2 : Int) + 0 = _
  omega
theorem pushesI_16 (a b : Int) (hv : validB 16 a b = true) : pushesI 16 a b = 1 := by
  unfold pushesI
  rw [if_pos hv]
  rfl
set_option maxHeartbeats 1000000 in
theorem REffect_16 (a b : Int) (hv : validB 16 a b = true) (w : World) : Calls Tryd.prog 34 #[.agg #[.int .i64 16, .int .i64 a, .int .i64 b]] w fun e w' => e = .returned (.tuple #[.int .i64 (popsI 16 a b), .int .i64 (pushesI 16 a b)]) ∧ Below w.heap.size w w' := by
  have b0 : 0 ≤ b := by obtain ⟨_, _, _, _, _, h, _⟩ := validB_some hv; exact h
  have b1 : b ≤ 30 := by obtain ⟨_, _, _, _, _, _, _, h⟩ := validB_some hv; exact h
  have HP := Lib.hid (popsI_16 a b hv)
  have HQ := Lib.hid (pushesI_16 a b hv)
  go_enter Tryd.func34, Tryd.ntmps34
  go_wp2_with (first | (go_at_call 37; refine (RValid_any _ _ _ _).mono ?_; rintro e w1 ⟨rfl, hb⟩; have hz : w.heap.size < w1.heap.size := (by have := hb.size; simp at this; omega); have c0 := box_kept hb 0; have c1 := box_kept hb 1; have c2 := box_kept hb 2; simp only [List.getElem?_toArray, List.getElem?_cons_zero, List.getElem?_cons_succ] at c0 c1 c2))
  go_ret2
  exact ⟨ret_int2 HP.out.symm HQ.out.symm, below_box hb⟩

theorem popsI_17 (a b : Int) (hv : validB 17 a b = true) : popsI 17 a b = 1 := by
  unfold popsI
  rw [if_pos hv]
  show (1 : Int) + 0 = _
  omega
theorem pushesI_17 (a b : Int) (hv : validB 17 a b = true) : pushesI 17 a b = 1 := by
  unfold pushesI
  rw [if_pos hv]
  rfl
set_option maxHeartbeats 1000000 in
theorem REffect_17 (a b : Int) (hv : validB 17 a b = true) (w : World) : Calls Tryd.prog 34 #[.agg #[.int .i64 17, .int .i64 a, .int .i64 b]] w fun e w' => e = .returned (.tuple #[.int .i64 (popsI 17 a b), .int .i64 (pushesI 17 a b)]) ∧ Below w.heap.size w w' := by
  have b0 : 0 ≤ b := by obtain ⟨_, _, _, _, _, h, _⟩ := validB_some hv; exact h
  have b1 : b ≤ 30 := by obtain ⟨_, _, _, _, _, _, _, h⟩ := validB_some hv; exact h
  have HP := Lib.hid (popsI_17 a b hv)
  have HQ := Lib.hid (pushesI_17 a b hv)
  go_enter Tryd.func34, Tryd.ntmps34
  go_wp2_with (first | (go_at_call 37; refine (RValid_any _ _ _ _).mono ?_; rintro e w1 ⟨rfl, hb⟩; have hz : w.heap.size < w1.heap.size := (by have := hb.size; simp at this; omega); have c0 := box_kept hb 0; have c1 := box_kept hb 1; have c2 := box_kept hb 2; simp only [List.getElem?_toArray, List.getElem?_cons_zero, List.getElem?_cons_succ] at c0 c1 c2))
  go_ret2
  exact ⟨ret_int2 HP.out.symm HQ.out.symm, below_box hb⟩

theorem popsI_18 (a b : Int) (hv : validB 18 a b = true) : popsI 18 a b = 0 := by
  unfold popsI
  rw [if_pos hv]
  show (0 : Int) + 0 = _
  omega
theorem pushesI_18 (a b : Int) (hv : validB 18 a b = true) : pushesI 18 a b = 0 := by
  unfold pushesI
  rw [if_pos hv]
  rfl
set_option maxHeartbeats 1000000 in
theorem REffect_18 (a b : Int) (hv : validB 18 a b = true) (w : World) : Calls Tryd.prog 34 #[.agg #[.int .i64 18, .int .i64 a, .int .i64 b]] w fun e w' => e = .returned (.tuple #[.int .i64 (popsI 18 a b), .int .i64 (pushesI 18 a b)]) ∧ Below w.heap.size w w' := by
  have b0 : 0 ≤ b := by obtain ⟨_, _, _, _, _, h, _⟩ := validB_some hv; exact h
  have b1 : b ≤ 30 := by obtain ⟨_, _, _, _, _, _, _, h⟩ := validB_some hv; exact h
  have HP := Lib.hid (popsI_18 a b hv)
  have HQ := Lib.hid (pushesI_18 a b hv)
  go_enter Tryd.func34, Tryd.ntmps34
  go_wp2_with (first | (go_at_call 37; refine (RValid_any _ _ _ _).mono ?_; rintro e w1 ⟨rfl, hb⟩; have hz : w.heap.size < w1.heap.size := (by have := hb.size; simp at this; omega); have c0 := box_kept hb 0; have c1 := box_kept hb 1; have c2 := box_kept hb 2; simp only [List.getElem?_toArray, List.getElem?_cons_zero, List.getElem?_cons_succ] at c0 c1 c2))
  go_ret2
  exact ⟨ret_int2 HP.out.symm HQ.out.symm, below_box hb⟩

theorem popsI_19 (a b : Int) (hv : validB 19 a b = true) : popsI 19 a b = 1 := by
  unfold popsI
  rw [if_pos hv]
  show (1 : Int) + 0 = _
  omega
theorem pushesI_19 (a b : Int) (hv : validB 19 a b = true) : pushesI 19 a b = 0 := by
  unfold pushesI
  rw [if_pos hv]
  rfl
set_option maxHeartbeats 1000000 in
theorem REffect_19 (a b : Int) (hv : validB 19 a b = true) (w : World) : Calls Tryd.prog 34 #[.agg #[.int .i64 19, .int .i64 a, .int .i64 b]] w fun e w' => e = .returned (.tuple #[.int .i64 (popsI 19 a b), .int .i64 (pushesI 19 a b)]) ∧ Below w.heap.size w w' := by
  have b0 : 0 ≤ b := by obtain ⟨_, _, _, _, _, h, _⟩ := validB_some hv; exact h
  have b1 : b ≤ 30 := by obtain ⟨_, _, _, _, _, _, _, h⟩ := validB_some hv; exact h
  have HP := Lib.hid (popsI_19 a b hv)
  have HQ := Lib.hid (pushesI_19 a b hv)
  go_enter Tryd.func34, Tryd.ntmps34
  go_wp2_with (first | (go_at_call 37; refine (RValid_any _ _ _ _).mono ?_; rintro e w1 ⟨rfl, hb⟩; have hz : w.heap.size < w1.heap.size := (by have := hb.size; simp at this; omega); have c0 := box_kept hb 0; have c1 := box_kept hb 1; have c2 := box_kept hb 2; simp only [List.getElem?_toArray, List.getElem?_cons_zero, List.getElem?_cons_succ] at c0 c1 c2))
  go_ret2
  exact ⟨ret_int2 HP.out.symm HQ.out.symm, below_box hb⟩

theorem popsI_20 (a b : Int) (hv : validB 20 a b = true) : popsI 20 a b = 1 := by
  unfold popsI
  rw [if_pos hv]
  show (1 : Int) + 0 = _
  omega
theorem pushesI_20 (a b : Int) (hv : validB 20 a b = true) : pushesI 20 a b = 0 := by
  unfold pushesI
  rw [if_pos hv]
  rfl
set_option maxHeartbeats 1000000 in
theorem REffect_20 (a b : Int) (hv : validB 20 a b = true) (w : World) : Calls Tryd.prog 34 #[.agg #[.int .i64 20, .int .i64 a, .int .i64 b]] w fun e w' => e = .returned (.tuple #[.int .i64 (popsI 20 a b), .int .i64 (pushesI 20 a b)]) ∧ Below w.heap.size w w' := by
  have b0 : 0 ≤ b := by obtain ⟨_, _, _, _, _, h, _⟩ := validB_some hv; exact h
  have b1 : b ≤ 30 := by obtain ⟨_, _, _, _, _, _, _, h⟩ := validB_some hv; exact h
  have HP := Lib.hid (popsI_20 a b hv)
  have HQ := Lib.hid (pushesI_20 a b hv)
  go_enter Tryd.func34, Tryd.ntmps34
  go_wp2_with (first | (go_at_call 37; refine (RValid_any _ _ _ _).mono ?_; rintro e w1 ⟨rfl, hb⟩; have hz : w.heap.size < w1.heap.size := (by have := hb.size; simp at this; omega); have c0 := box_kept hb 0; have c1 := box_kept hb 1; have c2 := box_kept hb 2; simp only [List.getElem?_toArray, List.getElem?_cons_zero, List.getElem?_cons_succ] at c0 c1 c2))
  go_ret2
  exact ⟨ret_int2 HP.out.symm HQ.out.symm, below_box hb⟩

theorem popsI_21 (a b : Int) (hv : validB 21 a b = true) : popsI 21 a b = b + 1 := by
  unfold popsI
  rw [if_pos hv]
  show (1 : Int) + b = _
  omega
theorem pushesI_21 (a b : Int) (hv : validB 21 a b = true) : pushesI 21 a b = 0 := by
  unfold pushesI
  rw [if_pos hv]
  rfl
set_option maxHeartbeats 1000000 in
theorem REffect_21 (a b : Int) (hv : validB 21 a b = true) (w : World) : Calls Tryd.prog 34 #[.agg #[.int .i64 21, .int .i64 a, .int .i64 b]] w fun e w' => e = .returned (.tuple #[.int .i64 (popsI 21 a b), .int .i64 (pushesI 21 a b)]) ∧ Below w.heap.size w w' := by
  have b0 : 0 ≤ b := by obtain ⟨_, _, _, _, _, h, _⟩ := validB_some hv; exact h
  have b1 : b ≤ 30 := by obtain ⟨_, _, _, _, _, _, _, h⟩ := validB_some hv; exact h
  have HP := Lib.hid (popsI_21 a b hv)
  have HQ := Lib.hid (pushesI_21 a b hv)
  go_enter Tryd.func34, Tryd.ntmps34
  go_wp2_with (first | (go_at_call 37; refine (RValid_any _ _ _ _).mono ?_; rintro e w1 ⟨rfl, hb⟩; have hz : w.heap.size < w1.heap.size := (by have := hb.size; simp at this; omega); have c0 := box_kept hb 0; have c1 := box_kept hb 1; have c2 := box_kept hb 2; simp only [List.getElem?_toArray, List.getElem?_cons_zero, List.getElem?_cons_succ] at c0 c1 c2))
  go_ret2
  exact ⟨ret_int2 HP.out.symm HQ.out.symm, below_box hb⟩

theorem popsI_22 (a b : Int) (hv : validB 22 a b = true) : popsI 22 a b = 1 := by
  unfold popsI
  rw [if_pos hv]
  show (1 : Int) + 0 = _
  omega
theorem pushesI_22 (a b : Int) (hv : validB 22 a b = true) : pushesI 22 a b = 0 := by
  unfold pushesI
  rw [if_pos hv]
  rfl
set_option maxHeartbeats 1000000 in
theorem REffect_22 (a b : Int) (hv : validB 22 a b = true) (w : World) : Calls Tryd.prog 34 #[.agg #[.int .i64 22, .int .i64 a, .int .i64 b]] w fun e w' => e = .returned (.tuple #[.int .i64 (popsI 22 a b), .int .i64 (pushesI 22 a b)]) ∧ Below w.heap.size w w' := by
  have b0 : 0 ≤ b := by obtain ⟨_, _, _, _, _, h, _⟩ := validB_some hv; exact h
  have b1 : b ≤ 30 := by obtain ⟨_, _, _, _, _, _, _, h⟩ := validB_some hv; exact h
  have HP := Lib.hid (popsI_22 a b hv)
  have HQ := Lib.hid (pushesI_22 a b hv)
  go_enter Tryd.func34, Tryd.ntmps34
  go_wp2_with (first | (go_at_call 37; refine (RValid_any _ _ _ _).mono ?_; rintro e w1 ⟨rfl, hb⟩; have hz : w.heap.size < w1.heap.size := (by have := hb.size; simp at this; omega); have c0 := box_kept hb 0; have c1 := box_kept hb 1; have c2 := box_kept hb 2; simp only [List.getElem?_toArray, List.getElem?_cons_zero, List.getElem?_cons_succ] at c0 c1 c2))
  go_ret2
  exact ⟨ret_int2 HP.out.symm HQ.out.symm, below_box hb⟩

theorem popsI_23 (a b : Int) (hv : validB 23 a b = true) : popsI 23 a b = 2 := by
  unfold popsI
  rw [if_pos hv]
  show (2 : Int) + 0 = _
  omega
theorem pushesI_23 (a b : Int) (hv : validB 23 a b = true) : pushesI 23 a b = 0 := by
  unfold pushesI
  rw [if_pos hv]
  rfl
set_option maxHeartbeats 1000000 in
theorem REffect_23 (a b : Int) (hv : validB 23 a b = true) (w : World) : Calls Tryd.prog 34 #[.agg #[.int .i64 23, .int .i64 a, .int .i64 b]] w fun e w' => e = .returned (.tuple #[.int .i64 (popsI 23 a b), .int .i64 (pushesI 23 a b)]) ∧ Below w.heap.size w w' := by
  have b0 : 0 ≤ b := by obtain ⟨_, _, _, _, _, h, _⟩ := validB_some hv; exact h
  have b1 : b ≤ 30 := by obtain ⟨_, _, _, _, _, _, _, h⟩ := validB_some hv; exact h
  have HP := Lib.hid (popsI_23 a b hv)
  have HQ := Lib.hid (pushesI_23 a b hv)
  go_enter Tryd.func34, Tryd.ntmps34
  go_wp2_with (first | (go_at_call 37; refine (RValid_any _ _ _ _).mono ?_; rintro e w1 ⟨rfl, hb⟩; have hz : w.heap.size < w1.heap.size := (by have := hb.size; simp at this; omega); have c0 := box_kept hb 0; have c1 := box_kept hb 1; have c2 := box_kept hb 2; simp only [List.getElem?_toArray, List.getElem?_cons_zero, List.getElem?_cons_succ] at c0 c1 c2))
  go_ret2
  exact ⟨ret_int2 HP.out.symm HQ.out.symm, below_box hb⟩

theorem popsI_24 (a b : Int) (hv : validB 24 a b = true) : popsI 24 a b = 2 := by
  unfold popsI
  rw [if_pos hv]
  show (2 : Int) + 0 = _
  omega
theorem pushesI_24 (a b : Int) (hv : validB 24 a b = true) : pushesI 24 a b = 0 := by
  unfold pushesI
  rw [if_pos hv]
  rfl
set_option maxHeartbeats 1000000 in
theorem REffect_24 (a b : Int) (hv : validB 24 a b = true) (w : World) : Calls Tryd.prog 34 #[.agg #[.int .i64 24, .int .i64 a, .int .i64 b]] w fun e w' => e = .returned (.tuple #[.int .i64 (popsI 24 a b), .int .i64 (pushesI 24 a b)]) ∧ Below w.heap.size w w' := by
  have b0 : 0 ≤ b := by obtain ⟨_, _, _, _, _, h, _⟩ := validB_some hv; exact h
  have b1 : b ≤ 30 := by obtain ⟨_, _, _, _, _, _, _, h⟩ := validB_some hv; exact h
  have HP := Lib.hid (popsI_24 a b hv)
  have HQ := Lib.hid (pushesI_24 a b hv)
  go_enter Tryd.func34, Tryd.ntmps34
  go_wp2_with (first | (go_at_call 37; refine (RValid_any _ _ _ _).mono ?_; rintro e w1 ⟨rfl, hb⟩; have hz : w.heap.size < w1.heap.size := (by have := hb.size; simp at this; omega); have c0 := box_kept hb 0; have c1 := box_kept hb 1; have c2 := box_kept hb 2; simp only [List.getElem?_toArray, List.getElem?_cons_zero, List.getElem?_cons_succ] at c0 c1 c2))
  go_ret2
  exact ⟨ret_int2 HP.out.symm HQ.out.symm, below_box hb⟩

theorem popsI_25 (a b : Int) (hv : validB 25 a b = true) : popsI 25 a b = 0 := by
  unfold popsI
  rw [if_pos hv]
  show (0 : Int) + 0 = _
  omega
theorem pushesI_25 (a b : Int) (hv : validB 25 a b = true) : pushesI 25 a b = 0 := by
  unfold pushesI
  rw [if_pos hv]
  rfl
set_option maxHeartbeats 1000000 in
theorem REffect_25 (a b : Int) (hv : validB 25 a b = true) (w : World) : Calls Tryd.prog 34 #[.agg #[.int .i64 25, .int .i64 a, .int .i64 b]] w fun e w' => e = .returned (.tuple #[.int .i64 (popsI 25 a b), .int .i64 (pushesI 25 a b)]) ∧ Below w.heap.size w w' := by
  have b0 : 0 ≤ b := by obtain ⟨_, _, _, _, _, h, _⟩ := validB_some hv; exact h
  have b1 : b ≤ 30 := by obtain ⟨_, _, _, _, _, _, _, h⟩ := validB_some hv; exact h
  have HP := Lib.hid (popsI_25 a b hv)
  have HQ := Lib.hid (pushesI_25 a b hv)
  go_enter Tryd.func34, Tryd.ntmps34
  go_wp2_with (first | (go_at_call 37; refine (RValid_any _ _ _ _).mono ?_; rintro e w1 ⟨rfl, hb⟩; have hz : w.heap.size < w1.heap.size := (by have := hb.size; simp at this; omega); have c0 := box_kept hb 0; have c1 := box_kept hb 1; have c2 := box_kept hb 2; simp only [List.getElem?_toArray, List.getElem?_cons_zero, List.getElem?_cons_succ] at c0 c1 c2))
  go_ret2
  exact ⟨ret_int2 HP.out.symm HQ.out.symm, below_box hb⟩

set_option maxHeartbeats 1000000 in
theorem REffect_out (n a b : Int) (hv : validB n a b = false) (w : World) : Calls Tryd.prog 34 #[.agg #[.int .i64 n, .int .i64 a, .int .i64 b]] w fun e w' => e = .returned (.tuple #[.int .i64 0, .int .i64 0]) ∧ Below w.heap.size w w' := by
  go_enter Tryd.func34, Tryd.ntmps34
  go_wp2_with (first | (go_at_call 37; refine (RValid_any _ _ _ _).mono ?_; rintro e w1 ⟨rfl, hb⟩; have hz : w.heap.size < w1.heap.size := (by have := hb.size; simp at this; omega); have c0 := box_kept hb 0; have c1 := box_kept hb 1; have c2 := box_kept hb 2; simp only [List.getElem?_toArray, List.getElem?_cons_zero, List.getElem?_cons_succ] at c0 c1 c2))
  go_ret2
  exact ⟨rfl, below_box hb⟩

theorem REffect_any (n a b : Int) (w : World) : Calls Tryd.prog 34 #[.agg #[.int .i64 n, .int .i64 a, .int .i64 b]] w fun e w' => e = .returned (.tuple #[.int .i64 (popsI n a b), .int .i64 (pushesI n a b)]) ∧ Below w.heap.size w w' := by
  by_cases hv : validB n a b = true
  · have hr := of_decide_eq_true hv
    have hh : n = 0 ∨ n = 1 ∨ n = 2 ∨ n = 3 ∨ n = 4 ∨ n = 5 ∨ n = 6 ∨ n = 7 ∨ n = 8 ∨ n = 9 ∨ n = 10 ∨ n = 11 ∨ n = 12 ∨ n = 13 ∨ n = 14 ∨ n = 15 ∨ n = 16 ∨ n = 17 ∨ n = 18 ∨ n = 19 ∨ n = 20 ∨ n = 21 ∨ n = 22 ∨ n = 23 ∨ n = 24 ∨ n = 25 := by omega
    rcases hh with rfl | rfl | rfl | rfl | rfl | rfl | rfl | rfl | rfl | rfl | rfl | rfl | rfl | rfl | rfl | rfl | rfl | rfl | rfl | rfl | rfl | rfl | rfl | rfl | rfl | rfl
    · exact REffect_0 a b hv w
    · exact REffect_1 a b hv w
    · exact REffect_2 a b hv w
    · exact REffect_3 a b hv w
    · exact REffect_4 a b hv w
    · exact REffect_5 a b hv w
    · exact REffect_6 a b hv w
    · exact REffect_7 a b hv w
    · exact REffect_8 a b hv w
    · exact REffect_9 a b hv w
    · exact REffect_10 a b hv w
    · exact REffect_11 a b hv w
    · exact REffect_12 a b hv w
    · exact REffect_13 a b hv w
    · exact REffect_14 a b hv w
    · exact REffect_15 a b hv w
    · exact REffect_16 a b hv w
    · exact REffect_17 a b hv w
    · exact REffect_18 a b hv w
    · exact REffect_19 a b hv w
    · exact REffect_20 a b hv w
    · exact REffect_21 a b hv w
    · exact REffect_22 a b hv w
    · exact REffect_23 a b hv w
    · exact REffect_24 a b hv w
    · exact REffect_25 a b hv w
  · rw [show popsI n a b = 0 from if_neg hv, show pushesI n a b = 0 from if_neg hv]
    exact REffect_out n a b (by simpa using hv) w
end Go.Proofs.YtdmbcgkfecmakaaDoor
