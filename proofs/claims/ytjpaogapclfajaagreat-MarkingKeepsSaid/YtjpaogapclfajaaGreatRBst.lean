/- The reference's barrier: Store. (printed by gen/rbst.py) -/
import Derived.Test.YtjpaogapclfajaaGreatRMark
import Derived.RegionTactic
namespace Go.Proofs.YtjpaogapclfajaaGreat
set_option linter.unusedVariables false
set_option linter.unusedSimpArgs false
set_option linter.unusedSectionVars false
open Go.RowKit Go.Sort
set_option maxRecDepth 100000

/-- the reference's cards -/
structure RC (w : World) (cs : List Int) (A : Option Addr) (c : Nat) : Prop where
  s : IS w cs A c
  m : c ≤ maxLen
  n : cs = [] → A = none ∧ c = 0
theorem RC.below {w w' : World} {cs : List Int} {A : Option Addr} {c : Nat} (h : RC w cs A c) (hb : Below w.heap.size w w') : RC w' cs A c := ⟨h.s.below hb, h.m, h.n⟩
theorem RC.away {w : World} {cs : List Int} {A A' : Option Addr} {c g H n : Nat} (h : RC w cs A c) (hA : ∀ b o, A' = some ⟨b, o, none⟩ → A' = A ∨ H ≤ b) (h1 : w.heap.size ≤ g) (h2 : g < H) : Away A' n g := by
  refine .inr fun b o e hb => ?_
  rcases hA b o e with h3 | h3
  · rw [h3] at e
    rcases Nat.eq_zero_or_pos cs.length with h0 | h0
    · have := (h.n (List.length_eq_zero_iff.1 h0)).1
      rw [e] at this
      cases this
    · obtain ⟨b', o', e', hl, _⟩ := h.s.sl.get h0
      rw [e] at e'
      cases e'
      omega
  · omega
theorem RC.setCell {w : World} {cs : List Int} {A : Option Addr} {c : Nat} (h : RC w cs A c) {p : Addr} (ha : Away A cs.length p.block) (u : Value) : RC (w.setCell p u) cs A c := by
  refine ⟨⟨⟨h.s.sl.1, ?_⟩, h.s.cap⟩, h.m, h.n⟩
  rcases h.s.sl.2 with h0 | ⟨b, o, e, hb, hc⟩
  · exact .inl h0
  · rcases ha with h1 | h1
    · exact .inl h1
    · subst e
      exact .inr ⟨b, o, rfl, by simpa [World.setCell] using hb, fun j x hx => cellFar u (hc j x hx) (h1 b o rfl)⟩
theorem RS.drew {w : World} {s : Spc} {A : Option Addr} {c : Nat} (h : RS w s A c) : RS w.drew s A c := ⟨h.sl.drew, h.cap, h.u, h.b0, h.lim, h.l0, h.lt⟩
theorem RC.drew {w : World} {cs : List Int} {A : Option Addr} {c : Nat} (h : RC w cs A c) : RC w.drew cs A c := ⟨⟨h.s.sl.drew, h.s.cap⟩, h.m, h.n⟩
def RBsP (w : World) (B1 B2 Bc : Option Addr) (r : Int × Mm × List Int) (e : Ending) (w' : World) : Prop := ∃ A1 c1 A2 c2 A c, e = .returned (.tuple #[rmV r.2.1 A1 c1 A2 c2, .agg #[.slice A r.2.2.length c], .int .i64 r.1]) ∧ RM w' r.2.1 A1 c1 A2 c2 ∧ RC w' r.2.2 A c ∧ Below w.heap.size w w' ∧ Nw w.heap.size B1 A1 ∧ Nw w.heap.size B2 A2 ∧ Nw w.heap.size Bc A
theorem cardMark_nil {cs : List Int} {a : Int} (h : (cardMark cs a).2 = []) : cs = [] ∧ oldB a = false ∨ (cardMark cs a).2 = cs := by
  unfold cardMark at h ⊢
  split
  · exact .inr rfl
  · split
    · exact .inr rfl
    · rename_i h1 h2
      rw [if_neg h1, if_neg h2] at h
      cases cs with
      | nil => cases h
      | cons y l => unfold cardIns at h; split at h <;> cases h
section
variable {w : World} {m : Mm} {A1 A2 : Option Addr} {c1 c2 : Nat} {cs : List Int} {A : Option Addr} {c : Nat}
end
end Go.Proofs.YtjpaogapclfajaaGreat
