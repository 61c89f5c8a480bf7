/- Opening an instruction that comes in by value. -/
import Derived.Test.YtdmbcgkfecmakaaDoorOpen
namespace Go.Proofs.YtdmbcgkfecmakaaDoor
set_option linter.unusedVariables false
set_option linter.unusedSimpArgs false
set_option linter.unusedSectionVars false
open Go.ChangeShapes Go.WideShapes Go.ChangeAt Go.RowKit Go.Deep
set_option maxRecDepth 100000
section
variable {H : Type} {enc : TypeId × Value → H} {w : World} {base : Nat} {spare : Nat → Bool} {held : Bool}
theorem open_instrV {r : _root_.Go.Reach} {b0 : Nat} {v : Value} {d : DataW H} {p : List MemPlace} (hv : Value.okWide Tryd.prog w r b0 39 v) (h : DataW.Trod enc Tryd.prog w base spare held 39 v d p) :
    ∃ a b c : Int, v = .agg #[.int .i64 a, .int .i64 b, .int .i64 c] ∧ (Lit.int .i64 a).wf = true ∧ (Lit.int .i64 b).wf = true ∧ (Lit.int .i64 c).wf = true := by
  obtain ⟨cs, rfl, hsz⟩ := okWide_struct Tryd.underlying39 hv
  obtain ⟨fuel, hf⟩ := h
  obtain ⟨a, b, c, hcs, w0, w1, w2⟩ := open_instr hf
  obtain ⟨l⟩ := cs
  have hl : l = [.int .i64 a, .int .i64 b, .int .i64 c] := by simpa [Value.cells] using hcs
  subst hl
  exact ⟨a, b, c, rfl, w0, w1, w2⟩
end
end Go.Proofs.YtdmbcgkfecmakaaDoor
