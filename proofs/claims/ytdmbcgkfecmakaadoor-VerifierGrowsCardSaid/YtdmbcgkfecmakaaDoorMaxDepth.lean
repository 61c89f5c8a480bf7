/- verifier.MaxDepth. -/
import Derived.Test.YtdmbcgkfecmakaaDoorDepths
namespace Go.Proofs.YtdmbcgkfecmakaaDoor
set_option linter.unusedVariables false
set_option linter.unusedSimpArgs false
set_option linter.unusedSectionVars false
open Go.RowKit Go.Maps Go.Deep
set_option maxRecDepth 100000

def MPost (w : World) (c : List Ins) (e : Ending) (w' : World) : Prop :=
  ∃ f sound most, Fin c f sound most ∧ Below w.heap.size w w' ∧ (sound = false → e = .returned (.tuple #[.int .i64 0, .int .i64 11])) ∧ (sound = true → e = .returned (.tuple #[.int .i64 most, .int .i64 0]))

section
variable {w : World} {v0 v1 v2 v4 : Value} {A : Option Addr} {len cap : Nat}
set_option maxHeartbeats 2000000 in
theorem MaxDepth_any (c : List Ins) (hc : c.length = len) (hl : len ≤ 10000) (hw : ∀ x ∈ c, (Lit.int .i64 x.1).wf = true ∧ (Lit.int .i64 x.2.1).wf = true ∧ (Lit.int .i64 x.2.2).wf = true) (hcode : Sl w 3 A len (codeCells c)) :
    Calls Tryd.prog 18 #[.agg #[v0, v1, v2, .slice A len cap, v4]] w (MPost w c) := by
  go_enter Tryd.func18, Tryd.ntmps18
  go_wp2_with (first | (go_at_call 47; refine (examine_any c hc hl hw (hcode.below ((Below.refl _ _).alloc (Nat.le_refl _) _))).mono ?_; rintro e w1 ⟨g, d, n, f, sound, most, rfl, hg, hm, hn, hg1, hd1, hdg, hfin, hb⟩; have HB := Lib.hid (below_box hb); have c6 : w1.cell? ⟨g, 6, none⟩ = some (.bool sound) := hg.cell 6; have c7 : w1.cell? ⟨g, 7, none⟩ = some (.int .i64 most) := hg.cell 7; rcases sound with _ | _))
  · go_ret2
    exact ⟨f, false, most, hfin, HB.out, fun _ => rfl, fun h => by cases h⟩
  · go_ret2
    exact ⟨f, true, most, hfin, HB.out, fun h => (by cases h), fun _ => rfl⟩
end
end Go.Proofs.YtdmbcgkfecmakaaDoor
