/- What bytecode.Valid returns. -/
import Derived.Test.YtdmbcgkfecmakaaDoorOps
import Derived.Test.YtdmbcgkfecmakaaDoorMem
import Derived.Deep.RegionWith
import Derived.Deep.DeepCutAuto
import Derived.Lib.Hide
namespace Go.Proofs.YtdmbcgkfecmakaaDoor
set_option linter.unusedVariables false
set_option linter.unusedSimpArgs false
set_option linter.unusedSectionVars false
open Go.RowKit
set_option maxRecDepth 100000

def validB (op a b : Int) : Bool := decide (0 ≤ op ∧ op < 26 ∧ opLeast op.toNat ≤ a ∧ a ≤ opMost op.toNat ∧ 0 ≤ b ∧ b ≤ opArgs op.toNat)

theorem opName_ne (n : Nat) (h : n < 26) : (opName n).toList ≠ [] := by
  have hh : n = 0 ∨ n = 1 ∨ n = 2 ∨ n = 3 ∨ n = 4 ∨ n = 5 ∨ n = 6 ∨ n = 7 ∨ n = 8 ∨ n = 9 ∨ n = 10 ∨ n = 11 ∨ n = 12 ∨ n = 13 ∨ n = 14 ∨ n = 15 ∨ n = 16 ∨ n = 17 ∨ n = 18 ∨ n = 19 ∨ n = 20 ∨ n = 21 ∨ n = 22 ∨ n = 23 ∨ n = 24 ∨ n = 25 := by omega
  rcases hh with rfl | rfl | rfl | rfl | rfl | rfl | rfl | rfl | rfl | rfl | rfl | rfl | rfl | rfl | rfl | rfl | rfl | rfl | rfl | rfl | rfl | rfl | rfl | rfl | rfl | rfl <;> decide +kernel

theorem opText_one (n : Nat) (h : n < 26) : (opText n).oneCell' = true := by
  have hh : n = 0 ∨ n = 1 ∨ n = 2 ∨ n = 3 ∨ n = 4 ∨ n = 5 ∨ n = 6 ∨ n = 7 ∨ n = 8 ∨ n = 9 ∨ n = 10 ∨ n = 11 ∨ n = 12 ∨ n = 13 ∨ n = 14 ∨ n = 15 ∨ n = 16 ∨ n = 17 ∨ n = 18 ∨ n = 19 ∨ n = 20 ∨ n = 21 ∨ n = 22 ∨ n = 23 ∨ n = 24 ∨ n = 25 := by omega
  rcases hh with rfl | rfl | rfl | rfl | rfl | rfl | rfl | rfl | rfl | rfl | rfl | rfl | rfl | rfl | rfl | rfl | rfl | rfl | rfl | rfl | rfl | rfl | rfl | rfl | rfl | rfl <;> decide +kernel
theorem store_opText (n : Nat) (h : n < 26) (w : World) (a : Addr) (m : Mode) : (store a (opText n) m).run Tryd.prog w = stored Tryd.prog w a (opText n) m := run_store _ w a _ m (opText_one n h)


theorem bcell {W w1 : World} (hb : Below W.heap.size W w1) : (∀ b o, b < W.heap.size → w1.cell? ⟨b, o, none⟩ = W.cell? ⟨b, o, none⟩) ∧ (∀ b o, b < W.heap.size → w1.frozen? ⟨b, o, none⟩ = W.frozen? ⟨b, o, none⟩) :=
  ⟨fun b o h => hb.cell (p := ⟨b, o, none⟩) h, fun b o h => hb.frozen (p := ⟨b, o, none⟩) h⟩


set_option maxHeartbeats 1000000 in
theorem Valid_out (n a b : Int) (h : n < 0 ∨ 26 ≤ n) (w : World) :
    Calls Tryd.prog 23 #[.agg #[.int .i64 n, .int .i64 a, .int .i64 b]] w fun e w' => e = .returned (.bool false) ∧ Below w.heap.size w w' := by
  go_enter Tryd.func23, Tryd.ntmps23
  go_wp2_with (first | (go_at_call 29; refine (Name_out _ h _).mono ?_; rintro e w' ⟨rfl, hb⟩))
  go_ret
  exact ⟨rfl, ((Below.refl _ _).alloc (Nat.le_refl _) _).trans (hb.mono (by simp))⟩

set_option maxHeartbeats 1000000 in
theorem Valid_in (n : Nat) (a b : Int) (h : n < 26) (w : World) :
    Calls Tryd.prog 23 #[.agg #[.int .i64 (n : Int), .int .i64 a, .int .i64 b]] w fun e w' => e = .returned (.bool (validB n a b)) ∧ Below w.heap.size w w' := by
  have hne := opName_ne n h
  have hne2 : (opName n).toList.isEmpty = false := by simp [hne]
  clear hne
  have hi := fun w => index_op n h w
  have hst := fun w a m => store_opText n h w a m
  go_enter Tryd.func23, Tryd.ntmps23
  go_upto_region 3 with (first | (go_at_call 29; refine (Name_in _ h _).mono ?_; rintro e w1 ⟨rfl, hb⟩; have hz : w.heap.size < w1.heap.size := (by have := hb.size; simp at this; omega); have c0 := box_kept hb 0; have c1 := box_kept hb 1; have c2 := box_kept hb 2; simp only [List.getElem?_toArray, List.getElem?_cons_zero, List.getElem?_cons_succ] at c0 c1 c2))
  go_cut [3] (fun s3 wx => ∃ g : Nat, s3 = .pointer (some ⟨g, 0, none⟩) ∧ wx.cell? ⟨g, 1, none⟩ = some (.int .i64 (opMost n)) ∧ wx.cell? ⟨g, 2, none⟩ = some (.int .i64 (opArgs n)) ∧ wx.cell? ⟨g, 3, none⟩ = some (.int .i64 (opLeast n)) ∧ Below w1.heap.size w1 wx)
  case first =>
    go_region_with (go_at_call 48; refine (operations_any _).mono ?_; rintro e w' ⟨rfl, o, rfl⟩)
    all_goals
      go_wp2_with fail
      go_meet
      refine ⟨_, rfl, ?_, ?_, ?_, (((Below.refl _ _).alloc (Nat.le_refl _) _).alloc (by simp) _).drew⟩ <;> go_simp
  case rest =>
    obtain ⟨g, rfl, d1, d2, d3, hbx⟩ := hcut
    have e1 := (hbx.cell (p := ⟨w.heap.size, 1, none⟩) hz).trans c1
    have e2 := (hbx.cell (p := ⟨w.heap.size, 2, none⟩) hz).trans c2
    have HB := (((Below.refl _ _).alloc (Nat.le_refl _) _).trans (hb.mono (by simp))).trans (hbx.mono (Nat.le_of_lt hz))
    have HB' := Lib.hid HB
    clear HB hbx hb c0 c1 c2
    go_wp2
    all_goals
      go_ret
      refine ⟨ret_bool ?_, HB'.out⟩
      unfold validB
      rw [Int.toNat_natCast]
      first | exact (decide_eq_false (by omega)).symm | exact decide_eq_decide.2 (by omega)

theorem Valid_any (n a b : Int) (w : World) :
    Calls Tryd.prog 23 #[.agg #[.int .i64 n, .int .i64 a, .int .i64 b]] w fun e w' => e = .returned (.bool (validB n a b)) ∧ Below w.heap.size w w' := by
  by_cases h : n < 0 ∨ 26 ≤ n
  · have hv : validB n a b = false := decide_eq_false (by omega)
    rw [hv]
    exact Valid_out n a b h w
  · obtain ⟨k, rfl⟩ := Int.eq_ofNat_of_zero_le (show 0 ≤ n by omega)
    exact Valid_in k a b (by omega) w
end Go.Proofs.YtdmbcgkfecmakaaDoor
