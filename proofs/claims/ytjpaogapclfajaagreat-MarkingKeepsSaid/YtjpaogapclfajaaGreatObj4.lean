/- Package barrier: Store. -/
import Derived.Test.YtjpaogapclfajaaGreatObj
namespace Go.Proofs.YtjpaogapclfajaaGreat
set_option linter.unusedVariables false
set_option linter.unusedSimpArgs false
set_option linter.unusedSectionVars false
open Go.RowKit Go.Sort
set_option maxRecDepth 100000

/-- a store past the barrier: the error, the memory, the cards -/
def bst (m : Mm) (cs : List Int) (a i x : Int) : Int × Mm × List Int :=
  if m.fldE a i ≠ 0 then (m.fldE a i, m, cs)
  else if m.old.has a = true ∧ ygW x = true then ((cardMark cs (a + 2 + i)).1, m.put (a + 2 + i) x, (cardMark cs (a + 2 + i)).2)
  else (0, m.put (a + 2 + i) x, cs)
theorem Mm.put_old_has (m : Mm) (a x b : Int) : (m.put a x).old.has b = m.old.has b := by
  unfold Mm.put
  split
  · exact Spc.put_has _ _ _ _
  · rfl
theorem Mm.Ok.setF_ok {m : Mm} (h : m.Ok) {a i x : Int} (he : m.fldE a i = 0) : m.setF a i x = (0, m.put (a + 2 + i) x) := by
  obtain ⟨h1, h2, h3, h4⟩ := Mm.fldE_ok he
  have hv := Mm.hdr_valid h1
  have h5 := (wH_ge hv).2
  have h6 := (h.has_near h1 (j := 2 + i) (by omega) (by omega)).1
  unfold Mm.setF
  rw [if_neg (by simp [he])]
  unfold Mm.store
  rw [show a + 2 + i = a + (2 + i) by omega, if_pos h6]
theorem MapT.ne_bk {P : Program} {k e t : TypeId} {w : World} {b n g : Nat} {f : Int → Bool} {cs : Array Value} (h : MapT P k e w b n f) (hk : Bk w g t cs) : g ≠ b := fun e => by
  subst e
  obtain ⟨D, ⟨es, clock, h1, _⟩, _⟩ := h
  unfold Bk at hk
  rw [h1] at hk
  cases hk
section
variable {w w' : World} {B g1 g2 gt b n : Nat} {V1 V2 : Value} {m : Mm} {cs : List Int}
end
end Go.Proofs.YtjpaogapclfajaaGreat
