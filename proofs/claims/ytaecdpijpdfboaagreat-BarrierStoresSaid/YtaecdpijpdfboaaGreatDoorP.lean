/- What all plain rows of the seat share (rows without listed variables); a list of operations that comes in. -/
import Derived.Test.YtaecdpijpdfboaaGreatRows
import Derived.Test.YtaecdpijpdfboaaGreatOpsR
import Derived.ProofKit
import Derived.OpenShut
import Derived.SizedLaws
import Derived.HandedShaped
import Derived.JoinedOf
namespace Go.Proofs.YtaecdpijpdfboaaGreat
set_option linter.unusedVariables false
set_option linter.unusedSimpArgs false
set_option linter.unusedSectionVars false
open Go.ChangeShapes Go.WideShapes Go.ChangeAt Go.RowKit
set_option maxRecDepth 100000

theorem own : ownKnob Tryz.prog.godebug = none := by kernel_rfl
theorem laidOut : laidOutB Tryz.prog = true := by kernel_rfl
section
variable {w : World}
theorem open_ops {H : Type} {enc : TypeId × Value → H} {base b0 : Nat} {r : _root_.Go.Reach} {spare : Nat → Bool} {held : Bool} {v : Value} {d : DataW H} {p : List MemPlace} (hv : Value.okWide Tryz.prog w r b0 22 v) (h : DataW.Trod enc Tryz.prog w base spare held 22 v d p) (hw : Wgt Tryz.prog 22 d) :
    ∃ A n c ops, v = .slice A n c ∧ n ≤ c ∧ n ≤ 140737488351232 ∧ SlR OpR w 9 A n ops := by
  obtain ⟨X, l, c, rfl⟩ := Go.WideShapes.okWide_slice Tryz.underlying22 hv
  obtain ⟨fuel, hf⟩ := h
  obtain ⟨A, n, c', e, h1, h2, xs, hxs⟩ := open_slR OpR Tryz.underlying22 cellsOp (show Tryz.prog.bytesOf 53 = 72 by kernel_rfl) (by omega) (by omega) open_opR (show DataW.trod enc Tryz.prog w base spare held fuel 22 [.slice X l c] = some (d, p) from hf) hw
  exact ⟨A, n, c', xs, e, h1, h2, hxs⟩
end
end Go.Proofs.YtaecdpijpdfboaaGreat
