/- Plain facts for refmeshlaw43.VerifierSafe: what an accepted program's methods are. -/
import Derived.Test.YtdmbcgkfecmakaaDoorCheck
namespace Go.Proofs.YtdmbcgkfecmakaaDoor
set_option linter.unusedVariables false
set_option linter.unusedSimpArgs false
set_option linter.unusedSectionVars false
open Go.RowKit

/-- only Return goes nowhere -/
theorem iT_nil {x : Ins} {i : Nat} (hv : iV x = true) (h : iT x i = []) : x.1 = 25 := by
  by_cases h25 : x.1 = 25
  · exact h25
  · exfalso
    unfold iV at hv
    unfold iT targetsI at h
    by_cases h18 : x.1 = 18
    · have hv' := hv
      rw [h18] at hv'
      simp [hv, hv', h18] at h
    · by_cases h19 : x.1 = 19 ∨ x.1 = 20
      · simp [hv, h25, h18, h19] at h
      · simp [hv, h25, h18, h19] at h
theorem pops_bounds (o a b : Int) : 0 ≤ popsI o a b := by
  unfold popsI
  split
  · rename_i h
    obtain ⟨k, rfl, hk, _, _, h0, _⟩ := validB_some h
    have := op_bounds k hk
    simp only [Int.toNat_natCast]
    split <;> omega
  · omega
theorem pushes_bounds (o a b : Int) : 0 ≤ pushesI o a b := by
  unfold pushesI
  split
  · rename_i h
    obtain ⟨k, rfl, hk, _, _, h0, _⟩ := validB_some h
    have := op_bounds k hk
    simp only [Int.toNat_natCast]
    omega
  · omega
theorem targets_two (o a b i : Int) : (targetsI o a b i).length ≤ 2 := by
  unfold targetsI
  split
  · split
    · simp
    · split <;> simp
  · simp
theorem u64_nonneg {v : Int} (h : (Lit.int .u64 v).wf = true) : 0 ≤ v ∧ v ≤ 18446744073709551615 := by
  simp only [Lit.wf, IntKind.min, IntKind.max, IntKind.signed, IntKind.bits, Bool.and_eq_true, decide_eq_true_eq] at h
  simp at h
  omega
theorem bit_two {v : Int} (h : 0 ≤ v) (e : Nat) : ∃ ch : Nat, Value.int .i64 (wrap64 ((v / 2 ^ e).tmod 2)) = Value.int .i64 (ch : Int) ∧ ch < 2 := by
  have h1 : 0 ≤ v / 2 ^ e := Int.ediv_nonneg h (Int.pow_nonneg (by omega))
  rw [Int.tmod_eq_emod_of_nonneg h1]
  generalize v / 2 ^ e = q at h1
  refine ⟨(q % 2).toNat, ?_, by omega⟩
  congr 1
  unfold wrap64
  omega
/-- what an accepted method is -/
theorem ok_method {cs : List Cls} {k : Cls} {m : Mth} (hk : k ∈ cs) (hm : m ∈ k.ms) (h : ¬ badP cs) :
    0 ≤ m.p ∧ m.p ≤ m.l ∧ (∀ x ∈ m.code, existsB cs k.fields.length m.l m.names.length x = true) ∧ soundP m.code := by
  have hb : ¬ badM cs k.fields.length m := fun hb => h ⟨k, hk, .inr ⟨m, hm, hb⟩⟩
  refine ⟨Int.not_lt.1 fun h1 => hb (.inl h1), Int.not_lt.1 fun h1 => hb (.inr (.inl h1)), fun x hx => ?_, Classical.byContradiction fun h1 => hb (.inr (.inr (.inr h1)))⟩
  cases he : existsB cs k.fields.length m.l m.names.length x with
  | true => rfl
  | false => exact absurd (.inr (.inr (.inl ⟨x, hx, he⟩))) hb
/-- a step of a sound method -/
theorem ok_step {code : List Ins} {D : Nat → Option Int} (h : Good code D) {i : Nat} {d : Int} (hd : D i = some d) :
    ∃ x, code[i]? = some x ∧ iV x = true ∧ iP x ≤ d ∧ d - iP x + iU x ≤ 64 ∧ ∀ t ∈ iT x i, ∃ n : Nat, t = n ∧ D n = some (d - iP x + iU x) := by
  obtain ⟨x, h1, h2, h3, h4, h5⟩ := h.2 i d hd
  exact ⟨x, h1, h2, h3, h4, h5⟩
end Go.Proofs.YtdmbcgkfecmakaaDoor
