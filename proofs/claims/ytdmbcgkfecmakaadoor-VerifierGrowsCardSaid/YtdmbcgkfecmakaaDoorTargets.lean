/- What bytecode.Targets returns. -/
import Derived.Test.YtdmbcgkfecmakaaDoorEffect
namespace Go.Proofs.YtdmbcgkfecmakaaDoor
set_option linter.unusedVariables false
set_option linter.unusedSimpArgs false
set_option linter.unusedSectionVars false
open Go.RowKit
set_option maxRecDepth 100000

def targetsI (n a b at' : Int) : List Int := if validB n a b && n != 25 then (if n = 18 then [a] else if n = 19 ∨ n = 20 then [at' + 1, a] else [at' + 1]) else []

def RetInts (w : World) (l : List Int) (e : Ending) (w' : World) : Prop :=
  ∃ A c, e = .returned (.slice A l.length c) ∧ l.length ≤ c ∧ Sl w' 1 A l.length (ints l) ∧ Below w.heap.size w w' ∧ ∀ b o, A = some ⟨b, o, none⟩ → w.heap.size ≤ b
theorem RetInts.mk {w w' : World} {l : List Int} {A : Option Addr} {n c : Nat} (hn : n = l.length) (hc : n ≤ c) (hs : Sl w' 1 A n (ints l)) (hb : Below w.heap.size w w') (hA : ∀ b o, A = some ⟨b, o, none⟩ → w.heap.size ≤ b) : RetInts w l (.returned (.slice A n c)) w' := by
  subst hn; exact ⟨A, c, rfl, hc, hs, hb, hA⟩

set_option maxHeartbeats 1000000 in
theorem Targets_inv (n : Int) (a b i : Int) (w : World) (i0 : -4611686018427387904 ≤ i) (i1 : i ≤ 4611686018427387904) (hv : validB n a b = false) :
    Calls Tryd.prog 24 #[.agg #[.int .i64 n, .int .i64 a, .int .i64 b], .int .i64 i] w (RetInts w []) := by
  go_enter Tryd.func24, Tryd.ntmps24
  go_wp2_with (first | (go_at_call 23; refine (Valid_any _ _ _ _).mono ?_; rintro e w1 ⟨rfl, hb⟩; have hz : w.heap.size < w1.heap.size := (by have := hb.size; simp at this; omega); have c0 := box_kept hb 0; have c1 := box_kept hb 1; have c2 := box_kept hb 2; simp only [List.getElem?_toArray, List.getElem?_cons_zero, List.getElem?_cons_succ] at c0 c1 c2))
  go_ret
  exact RetInts.mk rfl (Nat.le_refl _) (Sl.nil _ _ _) (below_box hb) (fun b o h => by cases h)

set_option maxHeartbeats 1000000 in
theorem Targets_25  (a b i : Int) (w : World) (i0 : -4611686018427387904 ≤ i) (i1 : i ≤ 4611686018427387904) (hv : validB 25 a b = true) :
    Calls Tryd.prog 24 #[.agg #[.int .i64 25, .int .i64 a, .int .i64 b], .int .i64 i] w (RetInts w []) := by
  go_enter Tryd.func24, Tryd.ntmps24
  go_wp2_with (first | (go_at_call 23; refine (Valid_any _ _ _ _).mono ?_; rintro e w1 ⟨rfl, hb⟩; have hz : w.heap.size < w1.heap.size := (by have := hb.size; simp at this; omega); have c0 := box_kept hb 0; have c1 := box_kept hb 1; have c2 := box_kept hb 2; simp only [List.getElem?_toArray, List.getElem?_cons_zero, List.getElem?_cons_succ] at c0 c1 c2))
  go_ret
  exact RetInts.mk rfl (Nat.le_refl _) (Sl.nil _ _ _) (below_box hb) (fun b o h => by cases h)

set_option maxHeartbeats 1000000 in
theorem Targets_18  (a b i : Int) (w : World) (i0 : -4611686018427387904 ≤ i) (i1 : i ≤ 4611686018427387904) (hv : validB 18 a b = true) :
    Calls Tryd.prog 24 #[.agg #[.int .i64 18, .int .i64 a, .int .i64 b], .int .i64 i] w (RetInts w [a]) := by
  go_enter Tryd.func24, Tryd.ntmps24
  go_wp2_with (first | (go_at_call 23; refine (Valid_any _ _ _ _).mono ?_; rintro e w1 ⟨rfl, hb⟩; have hz : w.heap.size < w1.heap.size := (by have := hb.size; simp at this; omega); have c0 := box_kept hb 0; have c1 := box_kept hb 1; have c2 := box_kept hb 2; simp only [List.getElem?_toArray, List.getElem?_cons_zero, List.getElem?_cons_succ] at c0 c1 c2))
  go_ret
  exact RetInts.mk rfl (Nat.le_refl _) (Sl.new _ _ (ints [a])) ((below_box hb).alloc (Nat.le_of_lt hz) _) (fun b o h => by injection h with h; injection h with h; omega)

set_option maxHeartbeats 1000000 in
theorem Targets_19  (a b i : Int) (w : World) (i0 : -4611686018427387904 ≤ i) (i1 : i ≤ 4611686018427387904) (hv : validB 19 a b = true) :
    Calls Tryd.prog 24 #[.agg #[.int .i64 19, .int .i64 a, .int .i64 b], .int .i64 i] w (RetInts w [i + 1, a]) := by
  go_enter Tryd.func24, Tryd.ntmps24
  go_wp2_with (first | (go_at_call 23; refine (Valid_any _ _ _ _).mono ?_; rintro e w1 ⟨rfl, hb⟩; have hz : w.heap.size < w1.heap.size := (by have := hb.size; simp at this; omega); have c0 := box_kept hb 0; have c1 := box_kept hb 1; have c2 := box_kept hb 2; simp only [List.getElem?_toArray, List.getElem?_cons_zero, List.getElem?_cons_succ] at c0 c1 c2))
  go_ret
  exact RetInts.mk rfl (Nat.le_refl _) (Sl.new _ _ (ints [i + 1, a])) ((below_box hb).alloc (Nat.le_of_lt hz) _) (fun b o h => by injection h with h; injection h with h; omega)

set_option maxHeartbeats 1000000 in
theorem Targets_20  (a b i : Int) (w : World) (i0 : -4611686018427387904 ≤ i) (i1 : i ≤ 4611686018427387904) (hv : validB 20 a b = true) :
    Calls Tryd.prog 24 #[.agg #[.int .i64 20, .int .i64 a, .int .i64 b], .int .i64 i] w (RetInts w [i + 1, a]) := by
  go_enter Tryd.func24, Tryd.ntmps24
  go_wp2_with (first | (go_at_call 23; refine (Valid_any _ _ _ _).mono ?_; rintro e w1 ⟨rfl, hb⟩; have hz : w.heap.size < w1.heap.size := (by have := hb.size; simp at this; omega); have c0 := box_kept hb 0; have c1 := box_kept hb 1; have c2 := box_kept hb 2; simp only [List.getElem?_toArray, List.getElem?_cons_zero, List.getElem?_cons_succ] at c0 c1 c2))
  go_ret
  exact RetInts.mk rfl (Nat.le_refl _) (Sl.new _ _ (ints [i + 1, a])) ((below_box hb).alloc (Nat.le_of_lt hz) _) (fun b o h => by injection h with h; injection h with h; omega)

set_option maxHeartbeats 1000000 in
theorem Targets_oth (n : Int) (a b i : Int) (w : World) (i0 : -4611686018427387904 ≤ i) (i1 : i ≤ 4611686018427387904) (hv : validB n a b = true) (h25 : (n == 25) = false) (h18 : (n == 18) = false) (h19 : (n == 19) = false) (h20 : (n == 20) = false) :
    Calls Tryd.prog 24 #[.agg #[.int .i64 n, .int .i64 a, .int .i64 b], .int .i64 i] w (RetInts w [i + 1]) := by
  go_enter Tryd.func24, Tryd.ntmps24
  go_wp2_with (first | (go_at_call 23; refine (Valid_any _ _ _ _).mono ?_; rintro e w1 ⟨rfl, hb⟩; have hz : w.heap.size < w1.heap.size := (by have := hb.size; simp at this; omega); have c0 := box_kept hb 0; have c1 := box_kept hb 1; have c2 := box_kept hb 2; simp only [List.getElem?_toArray, List.getElem?_cons_zero, List.getElem?_cons_succ] at c0 c1 c2))
  go_ret
  exact RetInts.mk rfl (Nat.le_refl _) (Sl.new _ _ (ints [i + 1])) ((below_box hb).alloc (Nat.le_of_lt hz) _) (fun b o h => by injection h with h; injection h with h; omega)

theorem Targets_any (n a b i : Int) (w : World) (i0 : -4611686018427387904 ≤ i) (i1 : i ≤ 4611686018427387904) :
    Calls Tryd.prog 24 #[.agg #[.int .i64 n, .int .i64 a, .int .i64 b], .int .i64 i] w (RetInts w (targetsI n a b i)) := by
  by_cases hv : validB n a b = true
  · by_cases h25 : n = 25
    · subst h25; rw [show targetsI 25 a b i = [] by simp [targetsI]]; exact Targets_25 a b i w i0 i1 hv
    by_cases h18 : n = 18
    · subst h18; rw [show targetsI 18 a b i = [a] by simp [targetsI, hv]]; exact Targets_18 a b i w i0 i1 hv
    by_cases h19 : n = 19
    · subst h19; rw [show targetsI 19 a b i = [i + 1, a] by simp [targetsI, hv]]; exact Targets_19 a b i w i0 i1 hv
    by_cases h20 : n = 20
    · subst h20; rw [show targetsI 20 a b i = [i + 1, a] by simp [targetsI, hv]]; exact Targets_20 a b i w i0 i1 hv
    rw [show targetsI n a b i = [i + 1] by simp [targetsI, hv, h25, h18, h19, h20]]
    exact Targets_oth n a b i w i0 i1 hv (by simpa using h25) (by simpa using h18) (by simpa using h19) (by simpa using h20)
  · rw [show targetsI n a b i = [] by simp [targetsI, hv]]
    exact Targets_inv n a b i w i0 i1 (by simpa using hv)
end Go.Proofs.YtdmbcgkfecmakaaDoor
