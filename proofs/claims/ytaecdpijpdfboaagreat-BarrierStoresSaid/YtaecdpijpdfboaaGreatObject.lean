/- The law's world: object. -/
import Derived.Test.YtaecdpijpdfboaaGreatBarP
namespace Go.Proofs.YtaecdpijpdfboaaGreat
set_option linter.unusedVariables false
set_option linter.unusedSimpArgs false
set_option linter.unusedSectionVars false
open Go.RowKit Go.Sort Go.Shelf
attribute [local go_sem] Oper.semAt_some
set_option maxRecDepth 100000

section
variable {w : World} {B k : Nat} {L : LP} {m m' : Mm} {cs cs' xs : List Int}
set_option maxHeartbeats 1000000 in
theorem object_any (h : LV w B L k m cs m' cs' xs) (hx : xs.length ≤ 1000000) (a : Int) (ha : -9223372036854775808 ≤ a ∧ a ≤ 9223372036854775807) : Calls Tryz.prog 20 #[.pointer (some ⟨L.p, 0, none⟩), .int .i64 a] w fun e w' => e = .returned (.int .i64 (objAt xs a)) ∧ ∃ n, w' = w.drewN n := by
  obtain ⟨A, c, hv, hle⟩ := own_shape h.l
  have hl := h.l
  have c4 : w.cell? ⟨L.p, 10, none⟩ = some L.vl := h.hd.cell 10
  rw [hv] at hl c4
  by_cases he : xs = []
  · subst he
    clear h hl
    go_enter Tryz.func20, Tryz.ntmps20
    go_wp2_with fail
    go_ret
    exact ⟨rfl, 0, rfl⟩
  · obtain ⟨i1, i2⟩ := objI_lt he a
    obtain ⟨b, o, rfl, hbl, hcc⟩ := (own_sl hl).get i1
    obtain ⟨x, hxx⟩ : ∃ x, xs[objI xs a]? = some x := ⟨_, List.getElem?_eq_getElem i1⟩
    have cx : w.cell? ⟨b, o + objI xs a, none⟩ = some (.int .i64 x) := hcc _ _ (ints_get hxx)
    have HR : Hid (objAt xs a = x) := Lib.hid (by unfold objAt; rw [hxx])
    have hp : 0 < (xs.length : Int) := by have := List.length_pos_iff.2 he; omega
    have t1 : -(xs.length : Int) < a.tmod xs.length := by have := Int.lt_tmod_of_pos a hp; omega
    have t2 : a.tmod xs.length < xs.length := Int.tmod_lt_of_pos _ hp
    have hn : ((xs.length : Int) == 0) = false := by simp; exact he
    have hne : (xs.length : Int) ≠ 0 := by omega
    have hic : objI xs a < c := by omega
    clear h hl hcc hxx he
    generalize objI xs a = i at *
    generalize xs.length = N at *
    go_enter Tryz.func20, Tryz.ntmps20
    go_wp2_with fail
    have i3 : (a.tmod (N : Int) + (N : Int)).tmod (N : Int) = (i : Int) := i2.symm
    have hN0 : ¬ N = 0 := by omega
    have hN1 : (N == 0) = false := by simp [hN0]
    obtain ⟨r, hr⟩ : ∃ r, a.tmod (N : Int) = r := ⟨_, rfl⟩
    rw [hr] at t1 t2 i3
    have hw : IntKind.i64.wrap (r + (N : Int)) = r + (N : Int) := IntWalk.i64_in _ (by omega)
    have i4 : r % (N : Int) = (i : Int) := by rw [Int.tmod_eq_emod_of_nonneg (by omega), Int.add_emod_right] at i3; exact i3
    have i5 : (r + (N : Int)) % (N : Int) = (i : Int) := by rw [Int.add_emod_right]; exact i4
    have r0 : 0 ≤ r + (N : Int) := by omega
    clear i3 i2
    have dn : decide (N ≤ i) = false := decide_eq_false (by omega)
    have dl : decide ((i : Int) < 0) = false := decide_eq_false (by omega)
    go_quiet (fail)
    go_wp2_with fail
    go_ret
    exact ⟨by rw [HR.out]; rfl, _, rfl⟩
end
end Go.Proofs.YtaecdpijpdfboaaGreat
