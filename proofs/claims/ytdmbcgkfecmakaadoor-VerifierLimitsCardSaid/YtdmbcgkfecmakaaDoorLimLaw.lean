/- Plain facts for refmeshlaw43.VerifierLimits: what the verifier says of a program of one class with one method. -/
import Derived.Test.YtdmbcgkfecmakaaDoorCheck
namespace Go.Proofs.YtdmbcgkfecmakaaDoor
set_option linter.unusedVariables false
set_option linter.unusedSimpArgs false
set_option linter.unusedSectionVars false
open Go.RowKit

def limCode (pu : Nat) : List Ins := List.replicate pu (1, 0, 0) ++ [(25, 0, 0)]
def limM (p l nm pu : Nat) : Mth := ⟨⟨#[109]⟩, p, l, limCode pu, List.replicate nm ⟨#[]⟩⟩
def limK (f p l nm pu : Nat) : Cls := ⟨⟨#[65]⟩, true, List.replicate f ⟨#[]⟩, [limM p l nm pu]⟩

theorem limCode_len (pu : Nat) : (limCode pu).length = pu + 1 := by simp [limCode]
theorem limCode_lt {pu i : Nat} (h : i < pu) : (limCode pu)[i]? = some (1, 0, 0) := by
  unfold limCode
  rw [List.getElem?_append_left (by simpa using h)]
  simp [h]
theorem limCode_at (pu : Nat) : (limCode pu)[pu]? = some (25, 0, 0) := by
  unfold limCode
  rw [List.getElem?_append_right (by simp)]
  simp
theorem lim_1 : iV (1, 0, 0) = true ∧ iP (1, 0, 0) = 0 ∧ iU (1, 0, 0) = 1 := by decide +kernel
theorem lim_25 : iV (25, 0, 0) = true ∧ iP (25, 0, 0) = 0 ∧ iU (25, 0, 0) = 0 := by decide +kernel
theorem limT_1 (i : Nat) : iT (1, 0, 0) i = [(i : Int) + 1] := by
  have h : validB 1 0 0 = true := by decide +kernel
  simp [iT, targetsI, h]
theorem limT_25 (i : Nat) : iT (25, 0, 0) i = [] := by
  simp [iT, targetsI]
theorem lim_sound (pu : Nat) : soundP (limCode pu) ↔ pu ≤ 64 := by
  constructor
  · rintro ⟨D, hD0, hD⟩
    refine Nat.le_of_not_lt fun hlt => ?_
    have hall : ∀ i, i ≤ 65 → D i = some (i : Int) := by
      intro i
      induction i with
      | zero => intro _; simpa using hD0
      | succ i ih =>
        intro hi
        obtain ⟨x, hx, hv, hp, hu, ht⟩ := hD i i (ih (by omega))
        rw [limCode_lt (by omega)] at hx
        cases hx
        obtain ⟨n, hn, hDn⟩ := ht _ (by rw [limT_1]; exact List.mem_singleton.2 rfl)
        obtain rfl : n = i + 1 := by omega
        rw [hDn, lim_1.2.1, lim_1.2.2]
        simp
    obtain ⟨x, hx, hv, hp, hu, ht⟩ := hD 64 _ (hall 64 (by omega))
    rw [limCode_lt (by omega)] at hx
    cases hx
    rw [lim_1.2.1, lim_1.2.2] at hu
    omega
  · intro h
    refine ⟨fun i => if i ≤ pu then some (i : Int) else none, by simp, fun i d hd => ?_⟩
    by_cases hi : i ≤ pu
    · simp only [hi, if_true, Option.some.injEq] at hd
      subst hd
      by_cases hl : i < pu
      · refine ⟨_, limCode_lt hl, lim_1.1, by rw [lim_1.2.1]; omega, by rw [lim_1.2.1, lim_1.2.2]; omega, fun t ht => ?_⟩
        rw [limT_1, List.mem_singleton] at ht
        refine ⟨i + 1, by omega, ?_⟩
        rw [lim_1.2.1, lim_1.2.2]
        simp only []
        rw [if_pos (by omega)]
        simp
      · obtain rfl : i = pu := by omega
        refine ⟨_, limCode_at _, lim_25.1, by rw [lim_25.2.1]; omega, by rw [lim_25.2.1, lim_25.2.2]; omega, fun t ht => ?_⟩
        rw [limT_25] at ht
        cases ht
    · simp [hi] at hd
theorem lim_exists (cs : List Cls) (nf : Nat) (l : Int) (nn pu : Nat) : ∀ x ∈ limCode pu, existsB cs nf l nn x = true := by
  intro x hx
  have h : x = (1, 0, 0) ∨ x = (25, 0, 0) := by
    rcases List.mem_append.1 hx with h | h
    · exact .inl (List.mem_replicate.1 h).2
    · exact .inr (List.mem_singleton.1 h)
  rcases h with rfl | rfl
  · have h1 := lim_1.1
    unfold existsB condB
    rw [h1]
    rfl
  · have h1 := lim_25.1
    unfold existsB condB
    rw [h1]
    rfl
theorem lim_large (f p l nm pu : Nat) (h : pu ≤ 100) : largeP [limK f p l nm pu] ↔ (30 < f ∨ 8 < p ∨ 30 < l ∨ 1024 < nm) := by
  unfold largeP Cls.large Mth.large limK limM
  simp [limCode_len]
  omega
theorem lim_bad (f p l nm pu : Nat) : badP [limK f p l nm pu] ↔ (l < p ∨ 64 < pu) := by
  have hs := lim_sound pu
  have he := lim_exists [limK f p l nm pu] f l nm pu
  unfold badP badC badM oddP
  constructor
  · rintro ⟨k, hk, h⟩
    obtain rfl := List.mem_singleton.1 hk
    rcases h with ⟨h, _⟩ | ⟨m, hm, h⟩
    · cases h
    · obtain rfl : m = limM p l nm pu := List.mem_singleton.1 hm
      rcases h with h | h | ⟨x, hx, h⟩ | h
      · exact absurd h (by show ¬ ((p : Int) < 0); omega)
      · have h' : (l : Int) < (p : Int) := h
        exact .inl (by omega)
      · exfalso
        have := he x hx
        simp only [limK, limM, List.length_replicate] at h this
        rw [this] at h
        cases h
      · refine .inr (Nat.lt_of_not_le fun h2 => h (hs.2 h2))
  · intro h
    refine ⟨_, List.mem_singleton.2 rfl, .inr ⟨_, List.mem_singleton.2 rfl, ?_⟩⟩
    rcases h with h | h
    · exact .inr (.inl (by show (l : Int) < (p : Int); omega))
    · exact .inr (.inr (.inr fun h2 => by have := hs.1 h2; omega))
end Go.Proofs.YtdmbcgkfecmakaaDoor
