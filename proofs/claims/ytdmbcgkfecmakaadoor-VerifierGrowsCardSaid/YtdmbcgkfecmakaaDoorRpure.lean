/- The depths of a method as the reference reckons them, in plain Lean. -/
import Derived.Test.YtdmbcgkfecmakaaDoorVisit
namespace Go.Proofs.YtdmbcgkfecmakaaDoor
set_option linter.unusedVariables false
set_option linter.unusedSimpArgs false
set_option linter.unusedSectionVars false

structure RInv (c : List Ins) (g : Nat → Option Int) : Prop where
  zero : g 0 = some 0
  dom : ∀ i d, g i = some d → i < c.length ∧ 0 ≤ d ∧ d ≤ 64
  forced : ∀ D, Good c D → ∀ i d, g i = some d → D i = some d

def RDone (c : List Ins) (g : Nat → Option Int) (i : Nat) (d : Int) : Prop :=
  ∃ x, c[i]? = some x ∧ iV x = true ∧ iP x ≤ d ∧ d - iP x + iU x ≤ 64 ∧ ∀ t ∈ iT x i, ∃ n : Nat, t = n ∧ g n = some (d - iP x + iU x)

theorem RInv.start (c : List Ins) (h : 0 < c.length) : RInv c (upd (fun _ => none) 0 0) where
  zero := rfl
  dom := fun i d hh => by
    by_cases hi : i = 0
    · simp [upd, hi] at hh; subst hi; subst hh; omega
    · simp [upd, hi] at hh
  forced := fun D hD i d hh => by
    by_cases hi : i = 0
    · simp [upd, hi] at hh; subst hi; subst hh; exact hD.1
    · simp [upd, hi] at hh

/-- an instruction at which every consistent assignment fails -/
theorem RInv.bad {c : List Ins} {g : Nat → Option Int} (h : RInv c g) {i : Nat} {d : Int} {x : Ins} (hi : g i = some d) (hx : c[i]? = some x) (hb : iV x = false ∨ d < iP x ∨ 64 < d - iP x + iU x) : ∀ D, ¬ Good c D := by
  intro D hD
  obtain ⟨y, hy, g1, g2, g3, _⟩ := hD.2 i d (h.forced D hD i d hi)
  rw [hx] at hy
  cases hy
  rcases hb with hb | hb | hb
  · rw [g1] at hb; cases hb
  · omega
  · omega

theorem RInv.tgt {c : List Ins} {g : Nat → Option Int} (h : RInv c g) {i : Nat} {d : Int} {x : Ins} (hi : g i = some d) (hx : c[i]? = some x) {t : Int} (ht : t ∈ iT x i) {D : Nat → Option Int} (hD : Good c D) :
    ∃ n : Nat, t = n ∧ n < c.length ∧ D n = some (d - iP x + iU x) := by
  obtain ⟨y, hy, _, _, _, g4⟩ := hD.2 i d (h.forced D hD i d hi)
  rw [hx] at hy
  cases hy
  obtain ⟨n, e1, e2⟩ := g4 t ht
  exact ⟨n, e1, hD.lt e2, e2⟩

theorem RInv.out {c : List Ins} {g : Nat → Option Int} (h : RInv c g) {i : Nat} {d : Int} {x : Ins} (hi : g i = some d) (hx : c[i]? = some x) {t : Int} (ht : t ∈ iT x i) (ho : t < 0 ∨ (c.length : Int) ≤ t) : ∀ D, ¬ Good c D := by
  intro D hD
  obtain ⟨n, e1, e2, _⟩ := h.tgt hi hx ht hD
  omega

theorem RInv.clash {c : List Ins} {g : Nat → Option Int} (h : RInv c g) {i : Nat} {d : Int} {x : Ins} (hi : g i = some d) (hx : c[i]? = some x) {n : Nat} (ht : (n : Int) ∈ iT x i) {was : Int} (hw : g n = some was) (hne : was ≠ d - iP x + iU x) : ∀ D, ¬ Good c D := by
  intro D hD
  obtain ⟨m, e1, _, e3⟩ := h.tgt hi hx ht hD
  have : n = m := by omega
  subst this
  rw [h.forced D hD n was hw] at e3
  exact hne (Option.some.inj e3)

theorem RInv.new {c : List Ins} {g : Nat → Option Int} (h : RInv c g) {i : Nat} {d : Int} {x : Ins} (hi : g i = some d) (hx : c[i]? = some x) {n : Nat} (ht : (n : Int) ∈ iT x i) (hn : n < c.length) (hnone : g n = none) (h0 : iP x ≤ d) (h1 : d - iP x + iU x ≤ 64) :
    RInv c (upd g n (d - iP x + iU x)) where
  zero := by
    have : (0 : Nat) ≠ n := by rintro rfl; rw [h.zero] at hnone; cases hnone
    simp [upd, this, h.zero]
  dom := fun k e he => by
    by_cases hk : k = n
    · simp [upd, hk] at he
      have : 0 ≤ iU x := by
        unfold iU pushesI
        split
        · rename_i hv
          obtain ⟨m, hm, hm2, _⟩ := validB_some hv
          have := op_bounds m hm2
          rw [hm, Int.toNat_natCast]
          omega
        · omega
      subst hk
      omega
    · simp [upd, hk] at he
      exact h.dom k e he
  forced := fun D hD k e he => by
    by_cases hk : k = n
    · simp [upd, hk] at he
      obtain ⟨m, e1, _, e3⟩ := h.tgt hi hx ht hD
      have : n = m := by omega
      subst this
      rw [hk, e3, he]
    · simp [upd, hk] at he
      exact h.forced D hD k e he

theorem RInv.good {c : List Ins} {g : Nat → Option Int} (h : RInv c g) (hd : ∀ i d, g i = some d → RDone c g i d) : Good c g := ⟨h.zero, hd⟩

/-- what the sweep knows at instruction i -/
structure Sweep (c : List Ins) (g0 g : Nat → Option Int) (ch : Bool) (i : Nat) : Prop where
  inv : RInv c g
  cle : card g0 c.length ≤ card g c.length
  more : ch = true → card g0 c.length < card g c.length
  done : ch = false → ∀ k, k < i → ∀ d, g k = some d → RDone c g k d

theorem Sweep.start {c : List Ins} {g : Nat → Option Int} (h : RInv c g) : Sweep c g g false 0 := ⟨h, Nat.le_refl _, fun h => (by cases h), fun _ k hk => by omega⟩
theorem Sweep.skip {c : List Ins} {g0 g : Nat → Option Int} {ch : Bool} {i : Nat} (h : Sweep c g0 g ch i) (hn : g i = none) : Sweep c g0 g ch (i + 1) :=
  ⟨h.inv, h.cle, h.more, fun hc k hk d hd => by
    by_cases hki : k = i
    · subst hki; rw [hn] at hd; cases hd
    · exact h.done hc k (by omega) d hd⟩

/-- within instruction i (depth d), j of its targets ts have been looked at -/
structure Within (c : List Ins) (g0 gi g : Nat → Option Int) (ci ch : Bool) (i : Nat) (d : Int) (x : Ins) (j : Nat) : Prop where
  inv : RInv c g
  at_ : g i = some d
  cle : card g0 c.length ≤ card g c.length
  more : ch = true → card g0 c.length < card g c.length
  same : ch = false → g = gi ∧ ci = false
  some_ : ∀ t ∈ (iT x i).take j, ∃ n : Nat, t = n ∧ g n = some (d - iP x + iU x)

theorem Within.start {c : List Ins} {g0 g : Nat → Option Int} {ch : Bool} {i : Nat} {d : Int} (x : Ins) (h : Sweep c g0 g ch i) (hd : g i = some d) : Within c g0 g g ch ch i d x 0 :=
  ⟨h.inv, hd, h.cle, h.more, fun hc => ⟨rfl, hc⟩, by simp⟩
theorem Within.keep {c : List Ins} {g0 gi g : Nat → Option Int} {ci ch : Bool} {i : Nat} {d : Int} {x : Ins} {j n : Nat} (h : Within c g0 gi g ci ch i d x j) (ht : (iT x i)[j]? = some (n : Int)) (hg : g n = some (d - iP x + iU x)) :
    Within c g0 gi g ci ch i d x (j + 1) :=
  ⟨h.inv, h.at_, h.cle, h.more, h.same, fun t hm => by
    rw [List.take_add_one, ht] at hm
    rcases List.mem_append.1 hm with hm | hm
    · exact h.some_ t hm
    · simp at hm; exact ⟨n, hm, hg⟩⟩
theorem Within.new {c : List Ins} {g0 gi g : Nat → Option Int} {ci ch : Bool} {i : Nat} {d : Int} {x : Ins} {j n : Nat} (h : Within c g0 gi g ci ch i d x j) (hx : c[i]? = some x) (ht : (iT x i)[j]? = some (n : Int)) (hg : g n = none) (hn : n < c.length) (h0 : iP x ≤ d) (h1 : d - iP x + iU x ≤ 64) :
    Within c g0 gi (upd g n (d - iP x + iU x)) ci true i d x (j + 1) := by
  have hcd := card_upd g c.length n (d - iP x + iU x) hn hg
  have hmem : (n : Int) ∈ iT x i := List.mem_of_getElem? ht
  have hni : i ≠ n := by rintro rfl; rw [h.at_] at hg; cases hg
  have hcc := h.cle
  refine ⟨h.inv.new h.at_ hx hmem hn hg h0 h1, by simp [upd, hni, h.at_], by omega, fun _ => by omega, fun hc => (by cases hc), fun t hm => ?_⟩
  rw [List.take_add_one, ht] at hm
  rcases List.mem_append.1 hm with hm | hm
  · obtain ⟨m, e1, e2⟩ := h.some_ t hm
    refine ⟨m, e1, ?_⟩
    have : m ≠ n := by rintro rfl; rw [hg] at e2; cases e2
    simp [upd, this, e2]
  · simp at hm
    exact ⟨n, hm, by simp [upd]⟩
theorem Within.finish {c : List Ins} {g0 gi g : Nat → Option Int} {ci ch : Bool} {i : Nat} {d : Int} {x : Ins} {j : Nat} (hs : Sweep c g0 gi ci i) (h : Within c g0 gi g ci ch i d x j) (hj : j = (iT x i).length) (hx : c[i]? = some x) (hv : iV x = true) (h0 : iP x ≤ d) (h1 : d - iP x + iU x ≤ 64) :
    Sweep c g0 g ch (i + 1) := by
  refine ⟨h.inv, h.cle, h.more, fun hc k hk e he => ?_⟩
  obtain ⟨rfl, hci⟩ := h.same hc
  by_cases hki : k = i
  · subst hki
    rw [h.at_] at he
    cases he
    refine ⟨x, hx, hv, h0, h1, fun t ht => ?_⟩
    have := h.some_ t
    rw [hj, List.take_length] at this
    exact this ht
  · exact hs.done hci k (by omega) e he
theorem Sweep.fin {c : List Ins} {g0 g : Nat → Option Int} (h : Sweep c g0 g false c.length) : Good c g :=
  h.inv.good fun i d hd => h.done rfl i (h.inv.dom i d hd).1 d hd

/-- two least consistent assignments are one -/
theorem least_eq {c : List Ins} {f g : Nat → Option Int} (hf : Good c f) (hg : Good c g) (lf : ∀ D, Good c D → ∀ i d, f i = some d → D i = some d) (lg : ∀ D, Good c D → ∀ i d, g i = some d → D i = some d) : f = g := by
  funext i
  cases h1 : f i with
  | some d => exact (lf g hg i d h1).symm
  | none =>
    cases h2 : g i with
    | none => rfl
    | some d => rw [lg f hf i d h2] at h1; cases h1
end Go.Proofs.YtdmbcgkfecmakaaDoor
