/- refmeshref43.Depths. -/
import Derived.Test.YtdmbcgkfecmakaaDoorRpure
import Derived.Test.YtdmbcgkfecmakaaDoorREffect
import Derived.Test.YtdmbcgkfecmakaaDoorRTargets
import Derived.Test.YtdmbcgkfecmakaaDoorDepths
import Derived.BigQuiet
import Derived.Deep.QuietTactic
namespace Go.Proofs.YtdmbcgkfecmakaaDoor
set_option linter.unusedVariables false
set_option linter.unusedSimpArgs false
set_option linter.unusedSectionVars false
open Go.RowKit Go.Maps Go.Deep
set_option maxRecDepth 100000

def rowG (g : Nat → Option Int) (j : Nat) : Value := .int .i64 ((g j).getD (-1))

/-- the world of the reference: block N holds the method, block N + 1 the depths -/
structure RW (w0 w : World) (N : Nat) (v0 v1 v2 v4 : Value) (A : Option Addr) (len cap : Nat) (F : Nat → Value) : Prop where
  row : w.rowIs (N + 1) 3 len F
  box : Bk w N 25 #[v0, v1, v2, .slice A len cap, v4]
  bel : Below N w0 w
  sz : N + 2 ≤ w.heap.size

section
variable {w0 w w' : World} {N : Nat} {v0 v1 v2 v4 : Value} {A : Option Addr} {len cap : Nat} {F : Nat → Value}
theorem RW.below (h : RW w0 w N v0 v1 v2 v4 A len cap F) (hb : Below w.heap.size w w') : RW w0 w' N v0 v1 v2 v4 A len cap F :=
  ⟨h.row.of_block (hb.block _ h.row.lt), h.box.below hb h.box.lt, h.bel.trans (hb.mono (Nat.le_of_lt h.box.lt)), Nat.le_trans h.sz hb.size⟩
theorem RW.drew (h : RW w0 w N v0 v1 v2 v4 A len cap F) : RW w0 w.drew N v0 v1 v2 v4 A len cap F := ⟨h.row, h.box, h.bel.drew, h.sz⟩
theorem RW.drewN (h : RW w0 w N v0 v1 v2 v4 A len cap F) (n : Nat) : RW w0 (w.drewN n) N v0 v1 v2 v4 A len cap F := ⟨h.row, h.box, below_drewN h.bel n, h.sz⟩
theorem RW.set (h : RW w0 w N v0 v1 v2 v4 A len cap F) (i : Nat) (v : Value) {G : Nat → Value} (hG : ∀ j, j < len → (if j = i then v else F j) = G j) : RW w0 (w.setCell ⟨N + 1, i, none⟩ v) N v0 v1 v2 v4 A len cap G :=
  ⟨(h.row.set i v).congr hG, h.box.far (by simp) _, h.bel.setCell (by simp) _, by simpa [World.setCell] using h.sz⟩
end

def RDPost (w : World) (len : Nat) (c : List Ins) (e : Ending) (w' : World) : Prop :=
  ∃ g ok, Below w.heap.size w w' ∧ (ok = false → e = .returned (.tuple #[.slice none 0 0, .bool false]) ∧ ∀ D, ¬ Good c D) ∧
    (ok = true → Good c g ∧ (∀ D, Good c D → ∀ i d, g i = some d → D i = some d) ∧ (∀ i d, g i = some d → i < c.length ∧ 0 ≤ d ∧ d ≤ 64) ∧ ∃ R cap, e = .returned (.tuple #[.slice (some ⟨R, 0, none⟩) len cap, .bool true]) ∧ w.heap.size ≤ R ∧ len ≤ cap ∧ Sl w' 1 (some ⟨R, 0, none⟩) len (ints (depthL g len)))

theorem RDPost.no {w w' : World} {len : Nat} {c : List Ins} (hb : Below w.heap.size w w') (h : ∀ D, ¬ Good c D) : RDPost w len c (.returned (.tuple #[.slice none 0 0, .bool false])) w' :=
  ⟨fun _ => none, false, hb, fun _ => ⟨rfl, h⟩, fun h => by cases h⟩

theorem RTargets_ex (n a b i : Int) (w : World) (i0 : -4611686018427387904 ≤ i) (i1 : i ≤ 4611686018427387904) :
    Calls Tryd.prog 35 #[.agg #[.int .i64 n, .int .i64 a, .int .i64 b], .int .i64 i] w fun e w' => ∃ ts, Hid (ts = targetsI n a b i) ∧ RetInts w ts e w' :=
  (RTargets_any n a b i w i0 i1).mono fun e w' h => ⟨_, rfl, h⟩

section
variable {w : World} {v0 v1 v2 v4 : Value} {A : Option Addr} {len cap : Nat}

theorem RW.sl {w0 w : World} {N : Nat} {g : Nat → Option Int} (h : RW w0 w N v0 v1 v2 v4 A len cap (rowG g)) : Sl w 1 (some ⟨N + 1, 0, none⟩) len (ints (depthL g len)) := by
  refine ⟨by simp [ints, depthL], .inr ⟨N + 1, 0, rfl, h.row.lt, fun j x hx => ?_⟩⟩
  have hj : j < len := by
    have := (List.getElem?_eq_some_iff.1 hx).1
    simpa [ints, depthL] using this
  rw [Nat.zero_add, h.row.cell hj, ← hx]
  simp [ints, depthL, hj, rowG]

def fillF (i j : Nat) : Value := if j = 0 then .int .i64 0 else if j < i then .int .i64 (-1) else .int .i64 0

end
end Go.Proofs.YtdmbcgkfecmakaaDoor
