/- refmeshlaw41.BytecodeNames returns true: the walk. -/
import Derived.Test.YtdmbcgkfecmakaaDoorAwakeB
namespace Go.Proofs.YtdmbcgkfecmakaaDoor
set_option linter.unusedVariables false
set_option linter.unusedSimpArgs false
set_option linter.unusedSectionVars false
open Go.RowKit Go.Sort
set_option maxRecDepth 100000

theorem opName_inj (n k : Nat) (hn : n < 26) (hk : k < 26) (h : n ≠ k) : opName n ≠ opName k := by
  have hall : ((List.range 26).all fun i => (List.range 26).all fun j => i == j || decide (opName i ≠ opName j)) = true := by decide +kernel
  have h1 := List.all_eq_true.1 hall n (by simpa using hn)
  have h2 := List.all_eq_true.1 h1 k (by simpa using hk)
  simp only [Bool.or_eq_true, beq_iff_eq, decide_eq_true_eq] at h2
  rcases h2 with h2 | h2
  · exact absurd h2 h
  · exact h2

theorem toList_ne {a b : ByteArray} (h : a ≠ b) : a.toList ≠ b.toList := by
  intro hh
  rw [Go.ByteArray.toList_eq, Go.ByteArray.toList_eq] at hh
  exact h (Go.WideShapes.bytes_inj hh)

def nameOf (n : Int) : ByteArray := if 0 ≤ n ∧ n < 26 then opName n.toNat else ⟨#[]⟩
theorem Name_any (n : Int) (w : World) : Calls Tryd.prog 29 #[.int .i64 n] w fun e w' => e = .returned (.string (nameOf n)) ∧ Below w.heap.size w w' := by
  unfold nameOf
  by_cases h : 0 ≤ n ∧ n < 26
  · rw [if_pos h]
    obtain ⟨k, rfl⟩ := Int.eq_ofNat_of_zero_le h.1
    exact Name_in k (by omega) w
  · rw [if_neg h]
    exact Name_out n (by omega) w

set_option maxHeartbeats 1000000 in
theorem LNames_any (a b : Int) (w : World) (ht : Tabs w) : Calls Tryd.prog 6 #[.int .i64 a, .int .i64 b] w fun e w' => e = .returned (.bool true) ∧ Below w.heap.size w w' := by
  have HT := Lib.hid ht
  clear ht
  by_cases ha : a < 0 ∨ 25 < a
  · have hx : nameOf a = ⟨#[]⟩ := if_neg (by omega)
    have HX := Lib.hid hx
    clear hx
    rcases ha with ha | ha
    all_goals
      go_enter Tryd.func6, Tryd.ntmps6
      go_wp2_with fail
      refine (awakeB _ HT.out).mono ?_
      rintro e w1 ⟨rfl, hb1⟩
      have HB1 := Lib.hid hb1
      clear hb1
      go_wp2_with fail
      refine (Name_any a _).mono ?_
      rintro e w2 ⟨rfl, hb2⟩
      rw [HX.out]
      have HB2 := Lib.hid (HB1.out.trans (hb2.mono HB1.out.size))
      clear hb2
      go_wp2_with fail
      refine (Name_any b _).mono ?_
      rintro e w3 ⟨rfl, hb3⟩
      have HB3 := Lib.hid (HB2.out.trans (hb3.mono HB2.out.size))
      clear hb3
      obtain ⟨y, hy⟩ : ∃ y, y = nameOf b := ⟨_, rfl⟩
      rw [← hy]
      clear hy
      go_wp2
      go_ret
      exact ⟨rfl, HB3.out⟩
  · obtain ⟨k, rfl⟩ := Int.eq_ofNat_of_zero_le (show 0 ≤ a by omega)
    have hk : k < 26 := by omega
    have hx : nameOf k = opName k := if_pos (by omega)
    have hne := opName_ne k hk
    have hne2 : (opName k).toList.isEmpty = false := by simp [hne]
    have h1 : decide ((k : Int) < 0) = false := by simp
    have h2 : decide (25 < (k : Int)) = false := by simp; omega
    have HX := Lib.hid hx
    have HK := Lib.hid hk
    clear hx ha hk
    go_enter Tryd.func6, Tryd.ntmps6
    go_wp2_with fail
    refine (awakeB _ HT.out).mono ?_
    rintro e w1 ⟨rfl, hb1⟩
    have HB1 := Lib.hid hb1
    clear hb1
    go_wp2_with fail
    refine (Name_any k _).mono ?_
    rintro e w2 ⟨rfl, hb2⟩
    rw [HX.out]
    have HB2 := Lib.hid (HB1.out.trans (hb2.mono HB1.out.size))
    clear hb2
    go_wp2_with fail
    refine (Name_any b _).mono ?_
    rintro e w3 ⟨rfl, hb3⟩
    have HB3 := Lib.hid (HB2.out.trans (hb3.mono HB2.out.size))
    clear hb3
    by_cases hkb : (k : Int) = b
    · subst hkb
      rw [HX.out]
      go_wp2_with fail
      go_ret
      exact ⟨rfl, HB3.out⟩
    · have hkb2 : ((k : Int) == b) = false := by simpa using hkb
      have hny : opName k ≠ nameOf b := by
        unfold nameOf
        by_cases hb : 0 ≤ b ∧ b < 26
        · rw [if_pos hb]
          obtain ⟨j, rfl⟩ := Int.eq_ofNat_of_zero_le hb.1
          exact opName_inj k j HK.out (by omega) (by omega)
        · rw [if_neg hb]
          intro hh
          rw [hh] at hne
          exact hne (by simp [ByteArray.toList, ByteArray.toList.loop, ByteArray.size])
      obtain ⟨y, hy⟩ : ∃ y, y = nameOf b := ⟨_, rfl⟩
      rw [← hy] at hny ⊢
      have hny2 : ((opName k).toList == y.toList) = false := by simpa using toList_ne hny
      clear hy hkb hny
      go_wp2_with fail
      go_ret
      exact ⟨rfl, HB3.out⟩
end Go.Proofs.YtdmbcgkfecmakaaDoor
