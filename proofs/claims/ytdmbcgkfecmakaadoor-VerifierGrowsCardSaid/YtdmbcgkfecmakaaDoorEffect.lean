/- What bytecode.Effect returns. -/
import Derived.Test.YtdmbcgkfecmakaaDoorValid
import Derived.BigQuiet
import Derived.Deep.QuietTactic
namespace Go.Proofs.YtdmbcgkfecmakaaDoor
set_option linter.unusedVariables false
set_option linter.unusedSimpArgs false
set_option linter.unusedSectionVars false
open Go.RowKit
set_option maxRecDepth 100000

def popsI (op a b : Int) : Int := if validB op a b then opPops op.toNat + (if opCounts op.toNat then b else 0) else 0
def pushesI (op a b : Int) : Int := if validB op a b then opPushes op.toNat else 0

theorem op_bounds (n : Nat) (h : n < 26) : 0 ≤ opPops n ∧ opPops n ≤ 2 ∧ 0 ≤ opPushes n ∧ opPushes n ≤ 1 ∧ opArgs n ≤ 30 := by
  have hh : n = 0 ∨ n = 1 ∨ n = 2 ∨ n = 3 ∨ n = 4 ∨ n = 5 ∨ n = 6 ∨ n = 7 ∨ n = 8 ∨ n = 9 ∨ n = 10 ∨ n = 11 ∨ n = 12 ∨ n = 13 ∨ n = 14 ∨ n = 15 ∨ n = 16 ∨ n = 17 ∨ n = 18 ∨ n = 19 ∨ n = 20 ∨ n = 21 ∨ n = 22 ∨ n = 23 ∨ n = 24 ∨ n = 25 := by omega
  rcases hh with rfl | rfl | rfl | rfl | rfl | rfl | rfl | rfl | rfl | rfl | rfl | rfl | rfl | rfl | rfl | rfl | rfl | rfl | rfl | rfl | rfl | rfl | rfl | rfl | rfl | rfl <;> decide +kernel

theorem validB_some {n a b : Int} (h : validB n a b = true) : ∃ k : Nat, n = k ∧ k < 26 ∧ opLeast k ≤ a ∧ a ≤ opMost k ∧ 0 ≤ b ∧ b ≤ opArgs k ∧ b ≤ 30 := by
  have h := of_decide_eq_true h
  obtain ⟨k, rfl⟩ := Int.eq_ofNat_of_zero_le h.1
  simp only [Int.toNat_natCast] at h
  have := op_bounds k (by omega)
  exact ⟨k, rfl, by omega, by omega, by omega, by omega, by omega, by omega⟩

set_option maxHeartbeats 1000000 in
theorem Effect_out (n a b : Int) (h : validB n a b = false) (w : World) :
    Calls Tryd.prog 22 #[.agg #[.int .i64 n, .int .i64 a, .int .i64 b]] w fun e w' => e = .returned (.tuple #[.int .i64 0, .int .i64 0]) ∧ Below w.heap.size w w' := by
  go_enter Tryd.func22, Tryd.ntmps22
  go_wp2_with (first | (go_at_call 23; refine (Valid_any _ _ _ _).mono ?_; rintro e w' ⟨rfl, hb⟩))
  go_ret2
  exact ⟨rfl, ((Below.refl _ _).alloc (Nat.le_refl _) _).trans (hb.mono (by simp))⟩



set_option maxHeartbeats 2000000 in
theorem Effect_in (n : Nat) (a b : Int) (hv : validB n a b = true) (h : n < 26) (b0 : 0 ≤ b) (b1 : b ≤ 30) (w : World) :
    Calls Tryd.prog 22 #[.agg #[.int .i64 (n : Int), .int .i64 a, .int .i64 b]] w fun e w' => e = .returned (.tuple #[.int .i64 (popsI n a b), .int .i64 (opPushes n)]) ∧ Below w.heap.size w w' := by
  have hi := fun w => index_op n h w
  have hst := fun w a m => store_opText n h w a m
  obtain ⟨p0, p1, q0, q1, _⟩ := op_bounds n h
  go_enter Tryd.func22, Tryd.ntmps22
  go_upto_region 3 with (first | (go_at_call 23; refine (Valid_any _ _ _ _).mono ?_; rintro e w1 ⟨rfl, hb⟩; have hz : w.heap.size < w1.heap.size := (by have := hb.size; simp at this; omega); have c0 := box_kept hb 0; have c1 := box_kept hb 1; have c2 := box_kept hb 2; simp only [List.getElem?_toArray, List.getElem?_cons_zero, List.getElem?_cons_succ] at c0 c1 c2))
  go_cut [4] (fun s3 wx => ∃ g : Nat, s3 = .pointer (some ⟨g, 0, none⟩) ∧ w1.heap.size ≤ g ∧ wx.cell? ⟨g, 4, none⟩ = some (.int .i64 (opPops n)) ∧ wx.cell? ⟨g, 5, none⟩ = some (.int .i64 (opPushes n)) ∧ wx.cell? ⟨g, 6, none⟩ = some (.bool (opCounts n)) ∧ wx.frozen? ⟨g, 4, none⟩ = false ∧ Below w1.heap.size w1 wx)
  case first =>
    go_region_with (go_at_call 48; refine (operations_any _).mono ?_; rintro e w' ⟨rfl, o, rfl⟩)
    all_goals
      go_wp2_with fail
      go_meet
      refine ⟨_, rfl, by simp, ?_, ?_, ?_, ?_, (((Below.refl _ _).alloc (Nat.le_refl _) _).alloc (by simp) _).drew⟩ <;> go_simp
  case rest =>
    obtain ⟨g, rfl, hg, d4, d5, d6, f4, hbx⟩ := hcut
    have e1 := (hbx.cell (p := ⟨w.heap.size, 1, none⟩) hz).trans c1
    have e2 := (hbx.cell (p := ⟨w.heap.size, 2, none⟩) hz).trans c2
    have HB := (((Below.refl _ _).alloc (Nat.le_refl _) _).trans (hb.mono (by simp))).trans (hbx.mono (Nat.le_of_lt hz))
    have HB' := Lib.hid HB
    clear HB hbx hb c0 c1 c2
    by_cases hc : opCounts n = true
    · rw [hc] at d6
      have HC := Lib.hid hc
      clear hc
      go_wp2
      go_quiet (fail)
      go_wp2
      go_ret2
      exact ⟨ret_int2 (by simp [popsI, hv, HC.out]) rfl, below_drewN (HB'.out.setCell (Nat.le_trans (Nat.le_of_lt hz) hg) _) _⟩
    · have hc' : opCounts n = false := by simpa using hc
      clear hc
      rw [hc'] at d6
      have HC := Lib.hid hc'
      clear hc'
      go_wp2
      go_quiet (fail)
      go_wp2
      go_ret2
      exact ⟨ret_int2 (by simp [popsI, hv, HC.out]) rfl, below_drewN HB'.out _⟩

theorem Effect_any (n a b : Int) (w : World) :
    Calls Tryd.prog 22 #[.agg #[.int .i64 n, .int .i64 a, .int .i64 b]] w fun e w' => e = .returned (.tuple #[.int .i64 (popsI n a b), .int .i64 (pushesI n a b)]) ∧ Below w.heap.size w w' := by
  unfold pushesI
  by_cases hv : validB n a b = true
  · rw [if_pos hv]
    obtain ⟨k, rfl, hk, _, _, b0, _, b1⟩ := validB_some hv
    exact Effect_in k a b hv hk b0 b1 w
  · rw [if_neg hv, show popsI n a b = 0 from if_neg hv]
    exact Effect_out n a b (by simpa using hv) w
end Go.Proofs.YtdmbcgkfecmakaaDoor
