/- Reachability as the reference reckons it, in plain Lean. -/
import Derived.Test.YtdmbcgkfecmakaaDoorRpure
namespace Go.Proofs.YtdmbcgkfecmakaaDoor
set_option linter.unusedVariables false
set_option linter.unusedSimpArgs false
set_option linter.unusedSectionVars false

/-- what the sweep over the instructions knows at instruction i; g marks the instructions that were found -/
structure BInv (c : List Ins) (g : Nat → Option Int) : Prop where
  zero : (g 0).isSome = true
  dom : ∀ i, (g i).isSome = true → i < c.length ∧ Reach c i
def BDone (c : List Ins) (g : Nat → Option Int) (i : Nat) : Prop := ∀ x, c[i]? = some x → ∀ n : Nat, (n : Int) ∈ iT x i → n < c.length → (g n).isSome = true
structure BSweep (c : List Ins) (g0 g : Nat → Option Int) (ch : Bool) (i : Nat) : Prop where
  inv : BInv c g
  cle : card g0 c.length ≤ card g c.length
  more : ch = true → card g0 c.length < card g c.length
  done : ch = false → ∀ k, k < i → (g k).isSome = true → BDone c g k
theorem BSweep.start {c : List Ins} {g : Nat → Option Int} (h : BInv c g) : BSweep c g g false 0 := ⟨h, Nat.le_refl _, fun h => (by cases h), fun _ k hk => by omega⟩
theorem BSweep.skip {c : List Ins} {g0 g : Nat → Option Int} {ch : Bool} {i : Nat} (h : BSweep c g0 g ch i) (hn : (g i).isSome = false) : BSweep c g0 g ch (i + 1) :=
  ⟨h.inv, h.cle, h.more, fun hc k hk hd => by
    by_cases hki : k = i
    · subst hki; rw [hn] at hd; cases hd
    · exact h.done hc k (by omega) hd⟩
structure BWithin (c : List Ins) (g0 gi g : Nat → Option Int) (ci ch : Bool) (i : Nat) (x : Ins) (j : Nat) : Prop where
  inv : BInv c g
  at_ : (g i).isSome = true
  cle : card g0 c.length ≤ card g c.length
  more : ch = true → card g0 c.length < card g c.length
  same : ch = false → g = gi ∧ ci = false
  some_ : ∀ t ∈ (iT x i).take j, ∀ n : Nat, t = n → n < c.length → (g n).isSome = true
theorem BWithin.start {c : List Ins} {g0 g : Nat → Option Int} {ch : Bool} {i : Nat} (x : Ins) (h : BSweep c g0 g ch i) (hd : (g i).isSome = true) : BWithin c g0 g g ch ch i x 0 :=
  ⟨h.inv, hd, h.cle, h.more, fun hc => ⟨rfl, hc⟩, by simp⟩
theorem BWithin.keep {c : List Ins} {g0 gi g : Nat → Option Int} {ci ch : Bool} {i : Nat} {x : Ins} {j : Nat} {t : Int} (h : BWithin c g0 gi g ci ch i x j) (ht : (iT x i)[j]? = some t) (hg : ∀ n : Nat, t = n → n < c.length → (g n).isSome = true) :
    BWithin c g0 gi g ci ch i x (j + 1) :=
  ⟨h.inv, h.at_, h.cle, h.more, h.same, fun t' hm => by
    rw [List.take_add_one, ht] at hm
    rcases List.mem_append.1 hm with hm | hm
    · exact h.some_ t' hm
    · simp at hm; subst hm; exact hg⟩
theorem BWithin.new {c : List Ins} {g0 gi g : Nat → Option Int} {ci ch : Bool} {i : Nat} {x : Ins} {j n : Nat} (h : BWithin c g0 gi g ci ch i x j) (hx : c[i]? = some x) (ht : (iT x i)[j]? = some (n : Int)) (hg : g n = none) (hn : n < c.length) :
    BWithin c g0 gi (upd g n 0) ci true i x (j + 1) := by
  have hcd := card_upd g c.length n 0 hn hg
  have hmem : (n : Int) ∈ iT x i := List.mem_of_getElem? ht
  have hcc := h.cle
  have hmono : ∀ k, (g k).isSome = true → (upd g n 0 k).isSome = true := fun k hk => by
    by_cases hkn : k = n
    · simp [upd, hkn]
    · simp [upd, hkn, hk]
  refine ⟨⟨hmono _ h.inv.zero, fun k hk => ?_⟩, hmono _ h.at_, by omega, fun _ => by omega, fun hc => (by cases hc), fun t hm m e1 e2 => ?_⟩
  · by_cases hkn : k = n
    · subst hkn; exact ⟨hn, .step (h.inv.dom i h.at_).2 hx hmem hn⟩
    · simp [upd, hkn] at hk
      exact h.inv.dom k hk
  · rw [List.take_add_one, ht] at hm
    rcases List.mem_append.1 hm with hm | hm
    · exact hmono _ (h.some_ t hm m e1 e2)
    · simp at hm
      have : m = n := by omega
      simp [upd, this]
theorem BWithin.finish {c : List Ins} {g0 gi g : Nat → Option Int} {ci ch : Bool} {i : Nat} {x : Ins} {j : Nat} (hs : BSweep c g0 gi ci i) (h : BWithin c g0 gi g ci ch i x j) (hj : j = (iT x i).length) (hx : c[i]? = some x) : BSweep c g0 g ch (i + 1) := by
  refine ⟨h.inv, h.cle, h.more, fun hc k hk he => ?_⟩
  obtain ⟨rfl, hci⟩ := h.same hc
  by_cases hki : k = i
  · subst hki
    intro y hy n hn hl
    rw [hx] at hy
    cases hy
    have := h.some_ (n : Int)
    rw [hj, List.take_length] at this
    exact this hn n rfl hl
  · exact hs.done hci k (by omega) he
theorem BSweep.fin {c : List Ins} {g0 g : Nat → Option Int} (h : BSweep c g0 g false c.length) : ∀ i, (g i).isSome = true ↔ Reach c i := fun i =>
  ⟨fun hi => (h.inv.dom i hi).2, fun hr => by
    induction hr with
    | zero _ => exact h.inv.zero
    | step _ hx ht hl ih => exact h.done rfl _ (h.inv.dom _ ih).1 ih _ hx _ ht hl⟩
theorem BInv.start (c : List Ins) (h : 0 < c.length) : BInv c (upd (fun _ => none) 0 0) :=
  ⟨rfl, fun i hi => by
    by_cases h0 : i = 0
    · subst h0; exact ⟨h, .zero h⟩
    · simp [upd, h0] at hi⟩
end Go.Proofs.YtdmbcgkfecmakaaDoor
