/- refmeshlaw41.BytecodeBounds returns true: the walk. -/
import Derived.Test.YtdmbcgkfecmakaaDoorLawNames
namespace Go.Proofs.YtdmbcgkfecmakaaDoor
set_option linter.unusedVariables false
set_option linter.unusedSimpArgs false
set_option linter.unusedSectionVars false
open Go.RowKit Go.Sort
set_option maxRecDepth 100000

theorem pops_31 {n a b : Int} (hv : validB n a b = true) : popsI n a b ≤ 31 := by
  obtain ⟨k, rfl, hk, _, _, b0, b1, _⟩ := validB_some hv
  have hall : ((List.range 26).all fun i => decide (opPops i + (if opCounts i then opArgs i else 0) ≤ 31)) = true := by decide +kernel
  have h1 := List.all_eq_true.1 hall k (by simpa using hk)
  simp only [decide_eq_true_eq] at h1
  unfold popsI
  rw [if_pos hv, Int.toNat_natCast]
  split at h1 <;> simp_all <;> omega
theorem Targets_len (n a b i : Int) (L : Nat) (hL : (targetsI n a b i).length = L) (w : World) (i0 : -4611686018427387904 ≤ i) (i1 : i ≤ 4611686018427387904) :
    Calls Tryd.prog 24 #[.agg #[.int .i64 n, .int .i64 a, .int .i64 b], .int .i64 i] w fun e w' => ∃ A c, e = .returned (.slice A L c) ∧ Below w.heap.size w w' :=
  (Targets_any n a b i w i0 i1).mono fun e w' ⟨A, c, he, _, _, hb, _⟩ => ⟨A, c, by rw [he, hL], hb⟩

section
variable {w : World} {n a b : Int}
set_option maxHeartbeats 2000000 in
theorem LBounds_no (ht : Tabs w) (hv : validB n a b = false) : Calls Tryd.prog 9 #[.agg #[.int .i64 n, .int .i64 a, .int .i64 b]] w fun e w' => e = .returned (.bool true) ∧ Below w.heap.size w w' := by
  have HT := Lib.hid ht
  have hp : popsI n a b = 0 := by simp [popsI, hv]
  have hu : pushesI n a b = 0 := by simp [pushesI, hv]
  have hl : (targetsI n a b 5).length = 0 := by simp [targetsI, hv]
  have HPU := Lib.hid (And.intro hp (And.intro hu hl))
  have HV := Lib.hid hv
  have hbk := Bk.new w 39 #[.int .i64 n, .int .i64 a, .int .i64 b]
  have HBK := Lib.hid hbk
  clear ht hp hu hl hv hbk
  go_enter Tryd.func9, Tryd.ntmps9
  go_wp2_with fail
  refine (awakeB _ (HT.out.below ((Below.refl _ _).alloc (Nat.le_refl _) _))).mono ?_
  rintro e w1 ⟨rfl, hb1⟩
  have HB1 := Lib.hid (below_box hb1)
  have hbk1 := HBK.out.below hb1 (by simp)
  have c0 : w1.cell? ⟨w.heap.size, 0, none⟩ = some (.int .i64 n) := hbk1.cell 0
  have c1 : w1.cell? ⟨w.heap.size, 1, none⟩ = some (.int .i64 a) := hbk1.cell 1
  have c2 : w1.cell? ⟨w.heap.size, 2, none⟩ = some (.int .i64 b) := hbk1.cell 2
  have hz1 := hbk1.lt
  have HK1 := Lib.hid hbk1
  clear hb1 hbk1
  go_wp2_with fail
  refine (Effect_any n a b _).mono ?_
  rintro e w2 ⟨rfl, hb2⟩
  rw [HPU.out.1, HPU.out.2.1]
  have hbk2 := HK1.out.below hb2 hz1
  have d0 : w2.cell? ⟨w.heap.size, 0, none⟩ = some (.int .i64 n) := hbk2.cell 0
  have d1 : w2.cell? ⟨w.heap.size, 1, none⟩ = some (.int .i64 a) := hbk2.cell 1
  have d2 : w2.cell? ⟨w.heap.size, 2, none⟩ = some (.int .i64 b) := hbk2.cell 2
  have hz2 := hbk2.lt
  have HK2 := Lib.hid hbk2
  have HB2 := Lib.hid (HB1.out.trans (hb2.mono HB1.out.size))
  clear hb2 hbk2 c0 c1 c2
  go_wp2_with fail
  refine (Targets_len n a b 5 0 HPU.out.2.2 _ (by omega) (by omega)).mono ?_
  rintro e w3 ⟨A, c, rfl, hb3⟩
  have hbk3 := HK2.out.below hb3 hz2
  have c0 : w3.cell? ⟨w.heap.size, 0, none⟩ = some (.int .i64 n) := hbk3.cell 0
  have c1 : w3.cell? ⟨w.heap.size, 1, none⟩ = some (.int .i64 a) := hbk3.cell 1
  have c2 : w3.cell? ⟨w.heap.size, 2, none⟩ = some (.int .i64 b) := hbk3.cell 2
  have HB3 := Lib.hid (HB2.out.trans (hb3.mono HB2.out.size))
  clear hb3 hbk3 d0 d1 d2
  go_wp2_with fail
  refine (Valid_no HV.out _).mono ?_
  rintro e w4 ⟨rfl, hb4⟩
  go_wp2
  go_ret
  exact ⟨rfl, HB3.out.trans (hb4.mono HB3.out.size)⟩

set_option maxHeartbeats 4000000 in
theorem LBounds_yes (k : Nat) (hk : k < 26) (ht : Tabs w) (hv : validB k a b = true) (L : Nat) (hL2 : L ≤ 2) (hL : (targetsI k a b 5).length = L) (hL0 : ((L : Int) == 0) = ((k : Int) == 25)) :
    Calls Tryd.prog 9 #[.agg #[.int .i64 (k : Int), .int .i64 a, .int .i64 b]] w fun e w' => e = .returned (.bool true) ∧ Below w.heap.size w w' := by
  have HT := Lib.hid ht
  have hp31 := pops_31 hv
  have hp0 : 0 ≤ popsI k a b ∧ 0 ≤ pushesI k a b ∧ pushesI k a b ≤ 1 := by
    have := iP_bounds ((k : Int), a, b)
    exact ⟨this.1, this.2.2.1, this.2.2.2⟩
  obtain ⟨p0, u0, u1⟩ := hp0
  have HV := Lib.hid hv
  have HL := Lib.hid hL
  have HK := Lib.hid hk
  have hne := opName_ne k hk
  have hne2 : (opName k).toList.isEmpty = false := by simp [hne]
  have hbk := Bk.new w 39 #[.int .i64 (k : Int), .int .i64 a, .int .i64 b]
  have HBK := Lib.hid hbk
  have HL0 := Lib.hid hL0
  clear ht hv hbk hL hk hL0
  go_enter Tryd.func9, Tryd.ntmps9
  go_wp2_with fail
  refine (awakeB _ (HT.out.below ((Below.refl _ _).alloc (Nat.le_refl _) _))).mono ?_
  rintro e w1 ⟨rfl, hb1⟩
  have HB1 := Lib.hid (below_box hb1)
  have hbk1 := HBK.out.below hb1 (by simp)
  have c0 : w1.cell? ⟨w.heap.size, 0, none⟩ = some (.int .i64 k) := hbk1.cell 0
  have c1 : w1.cell? ⟨w.heap.size, 1, none⟩ = some (.int .i64 a) := hbk1.cell 1
  have c2 : w1.cell? ⟨w.heap.size, 2, none⟩ = some (.int .i64 b) := hbk1.cell 2
  have hz1 := hbk1.lt
  have HK1 := Lib.hid hbk1
  clear hb1 hbk1
  go_wp2_with fail
  refine (Effect_any k a b _).mono ?_
  rintro e w2 ⟨rfl, hb2⟩
  have hbk2 := HK1.out.below hb2 hz1
  have d0 : w2.cell? ⟨w.heap.size, 0, none⟩ = some (.int .i64 k) := hbk2.cell 0
  have d1 : w2.cell? ⟨w.heap.size, 1, none⟩ = some (.int .i64 a) := hbk2.cell 1
  have d2 : w2.cell? ⟨w.heap.size, 2, none⟩ = some (.int .i64 b) := hbk2.cell 2
  have hz2 := hbk2.lt
  have HK2 := Lib.hid hbk2
  have HB2 := Lib.hid (HB1.out.trans (hb2.mono HB1.out.size))
  clear hb2 hbk2 c0 c1 c2
  go_wp2_with fail
  refine (Targets_len k a b 5 L HL.out _ (by omega) (by omega)).mono ?_
  rintro e w3 ⟨A, c, rfl, hb3⟩
  have hbk3 := HK2.out.below hb3 hz2
  have c0 : w3.cell? ⟨w.heap.size, 0, none⟩ = some (.int .i64 k) := hbk3.cell 0
  have c1 : w3.cell? ⟨w.heap.size, 1, none⟩ = some (.int .i64 a) := hbk3.cell 1
  have c2 : w3.cell? ⟨w.heap.size, 2, none⟩ = some (.int .i64 b) := hbk3.cell 2
  have hz3 := hbk3.lt
  have HK3 := Lib.hid hbk3
  have HB3 := Lib.hid (HB2.out.trans (hb3.mono HB2.out.size))
  clear hb3 hbk3 d0 d1 d2
  go_wp2_with fail
  refine (Valid_yes' HV.out _).mono ?_
  rintro e w4 ⟨rfl, hb4⟩
  have hbk4 := HK3.out.below hb4 hz3
  have d0 : w4.cell? ⟨w.heap.size, 0, none⟩ = some (.int .i64 k) := hbk4.cell 0
  have HB4 := Lib.hid (HB3.out.trans (hb4.mono HB3.out.size))
  have hl1 : (L : Int) ≤ 2 := by omega
  clear hb4 hbk4 c0 c1 c2
  cases h25 : ((k : Int) == 25) with
  | true =>
    have hz : ((L : Int) == 0) = true := by rw [HL0.out, h25]
    go_wp2_with fail
    refine (Name_in k HK.out _).mono ?_
    rintro e w5 ⟨rfl, hb5⟩
    go_wp2
    go_ret
    exact ⟨rfl, HB4.out.trans (hb5.mono HB4.out.size)⟩
  | false =>
    have hz : ((L : Int) == 0) = false := by rw [HL0.out, h25]
    go_wp2_with fail
    refine (Name_in k HK.out _).mono ?_
    rintro e w5 ⟨rfl, hb5⟩
    go_wp2
    go_ret
    exact ⟨rfl, HB4.out.trans (hb5.mono HB4.out.size)⟩

theorem LBounds_any (n a b : Int) (w : World) (ht : Tabs w) : Calls Tryd.prog 9 #[.agg #[.int .i64 n, .int .i64 a, .int .i64 b]] w fun e w' => e = .returned (.bool true) ∧ Below w.heap.size w w' := by
  cases hv : validB n a b with
  | false => exact LBounds_no ht hv
  | true =>
    obtain ⟨k, rfl, hk, _⟩ := validB_some hv
    refine LBounds_yes k hk ht hv _ (targetsI_len _ _ _ _) rfl ?_
    unfold targetsI
    rw [hv]
    by_cases h25 : k = 25
    · subst h25; rfl
    · have e25 : ((k : Int) != 25) = true := by simp; omega
      have e26 : ((k : Int) == 25) = false := by simp; omega
      rw [e25, e26]
      simp only [Bool.and_self, if_true]
      split
      · rfl
      · split <;> rfl
end
end Go.Proofs.YtdmbcgkfecmakaaDoor
