/- Package cards: New, Mark, Marked. -/
import Derived.Test.YtjpaogapclfajaaGreatMapT
import Derived.Test.YtjpaogapclfajaaGreatMemQ
import Derived.Test.YtjpaogapclfajaaGreatSpace2
namespace Go.Proofs.YtjpaogapclfajaaGreat
set_option linter.unusedVariables false
set_option linter.unusedSimpArgs false
set_option linter.unusedSectionVars false
open Go.RowKit Go.Sort
set_option maxRecDepth 100000

theorem zero_bool (w : World) : (zeroValue 4).run Tryz.prog w = .ok (.bool false) w := by kernel_rfl
theorem cardIns_contains (c x : Int) : ∀ l : List Int, (cardIns c l).contains x = (if x = c then true else l.contains x)
  | [] => by
    unfold cardIns
    by_cases h : x = c <;> simp [h]
  | y :: l => by
    unfold cardIns
    split
    · have ih := cardIns_contains c x l
      simp only [List.contains_cons, ih]
      by_cases h : x = c <;> simp [h]
    · simp only [List.contains_cons]
      by_cases h : x = c <;> simp [h]
theorem cardMark_contains (cs : List Int) (a : Int) (ho : oldB a = true) (x : Int) : ((cardMark cs a).2).contains x = (if x = a / 16 then true else cs.contains x) := by
  unfold cardMark
  rw [if_neg (by rw [ho]; simp)]
  unfold cardIn
  rw [ho, Bool.true_and]
  split
  · rename_i h
    by_cases hx : x = a / 16
    · rw [if_pos hx, hx]; exact h
    · rw [if_neg hx]
  · exact cardIns_contains _ _ _
theorem oldB_iff (a : Int) : oldB a = true ↔ (0 ≤ a ∧ a < 16777216) := by unfold oldB; exact decide_eq_true_iff

section
variable {w : World} {B g b n : Nat} {cs : List Int}
end
end Go.Proofs.YtjpaogapclfajaaGreat
