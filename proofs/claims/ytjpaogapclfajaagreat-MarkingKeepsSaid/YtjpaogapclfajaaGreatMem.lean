/- Words for memory: a slice that reads as a list of cells. -/
import Derived.WalkKit
import Derived.KernelRfl
import Derived.Lib.Hide
import Derived.Deep.Draws
namespace Go.Proofs.YtjpaogapclfajaaGreat
set_option linter.unusedVariables false
set_option linter.unusedSimpArgs false
set_option linter.unusedSectionVars false
open Go.RowKit

/-- The slice value with address A and n elements of s cells reads as the cells xs in the world w. -/
def Sl (w : World) (s : Nat) (A : Option Addr) (n : Nat) (xs : List Value) : Prop :=
  xs.length = n * s ∧ (n = 0 ∨ ∃ b o, A = some ⟨b, o, none⟩ ∧ b < w.heap.size ∧ ∀ j x, xs[j]? = some x → w.cell? ⟨b, o + j, none⟩ = some x)

theorem cell_lt {w : World} {p : Addr} {v : Value} (h : w.cell? p = some v) : p.block < w.heap.size := by
  rcases Nat.lt_or_ge p.block w.heap.size with h1 | h1
  · exact h1
  · rw [World.cell?, Array.getElem?_eq_none h1] at h; cases h

theorem Sl.nil (w : World) (s : Nat) (A : Option Addr) : Sl w s A 0 [] := ⟨by simp, .inl rfl⟩
theorem Sl.get {w : World} {s n : Nat} {A : Option Addr} {xs : List Value} (h : Sl w s A n xs) {k : Nat} (hk : k < n) :
    ∃ b o, A = some ⟨b, o, none⟩ ∧ b < w.heap.size ∧ ∀ j x, xs[j]? = some x → w.cell? ⟨b, o + j, none⟩ = some x := by
  rcases h.2 with h0 | h0
  · omega
  · exact h0
theorem Sl.keep {w w' : World} {s n : Nat} {A : Option Addr} {xs : List Value} (h : Sl w s A n xs) (hs : w.heap.size ≤ w'.heap.size)
    (hk : ∀ b o v, w.cell? ⟨b, o, none⟩ = some v → w'.cell? ⟨b, o, none⟩ = some v) : Sl w' s A n xs := by
  refine ⟨h.1, ?_⟩
  rcases h.2 with h0 | ⟨b, o, e, hb, hc⟩
  · exact .inl h0
  · exact .inr ⟨b, o, e, by omega, fun j x hx => hk _ _ _ (hc j x hx)⟩
theorem Sl.below {w w' : World} {s n : Nat} {A : Option Addr} {xs : List Value} (h : Sl w s A n xs) (hb : Below w.heap.size w w') : Sl w' s A n xs :=
  h.keep hb.size fun b o v hv => (hb.cell (p := ⟨b, o, none⟩) (cell_lt hv)).trans hv
theorem Sl.drew {w : World} {s n : Nat} {A : Option Addr} {xs : List Value} (h : Sl w s A n xs) : Sl w.drew s A n xs := h
theorem Sl.drewN {w : World} {s n : Nat} {A : Option Addr} {xs : List Value} (h : Sl w s A n xs) (k : Nat) : Sl (w.drewN k) s A n xs := h
theorem Sl.new (w : World) (t : TypeId) (xs : List Value) : Sl (w.alloc (.cells xs.toArray t)) 1 (some ⟨w.heap.size, 0, none⟩) xs.length xs :=
  ⟨by simp, .inr ⟨_, _, rfl, by simp, fun j x hx => by simpa using hx⟩⟩

theorem below_drewN {B : Nat} {a w : World} (h : Below B a w) (n : Nat) : Below B a (w.drewN n) := ⟨h.os, h.tape, h.output, h.size, h.block⟩
theorem below_box {w w1 : World} {o : Obj} (hb : Below (w.alloc o).heap.size (w.alloc o) w1) : Below w.heap.size w w1 :=
  ((Below.refl _ _).alloc (Nat.le_refl _) _).trans (hb.mono (by simp))
theorem ret_bool {a b : Bool} (h : a = b) : Ending.returned (.bool a) = .returned (.bool b) := by rw [h]
theorem ret_int {k : IntKind} {a b : Int} (h : a = b) : Ending.returned (.int k a) = .returned (.int k b) := by rw [h]
theorem ret_int2 {a b c d : Int} (h : a = b) (k : c = d) : Ending.returned (.tuple #[.int .i64 a, .int .i64 c]) = .returned (.tuple #[.int .i64 b, .int .i64 d]) := by rw [h, k]
theorem box_kept {w w1 : World} {C : Array Value} {t : TypeId} (hb : Below (w.alloc (.cells C t)).heap.size (w.alloc (.cells C t)) w1) (j : Nat) : w1.cell? ⟨w.heap.size, j, none⟩ = C[j]? :=
  (hb.cell (p := ⟨w.heap.size, j, none⟩) (by simp)).trans (by simp)
theorem box_free {w w1 : World} {C : Array Value} {t : TypeId} (hb : Below (w.alloc (.cells C t)).heap.size (w.alloc (.cells C t)) w1) (j : Nat) : w1.frozen? ⟨w.heap.size, j, none⟩ = false :=
  (hb.frozen (p := ⟨w.heap.size, j, none⟩) (by simp)).trans (by simp)

theorem bcell {W w1 : World} (hb : Below W.heap.size W w1) : (∀ b o, b < W.heap.size → w1.cell? ⟨b, o, none⟩ = W.cell? ⟨b, o, none⟩) ∧ (∀ b o, b < W.heap.size → w1.frozen? ⟨b, o, none⟩ = W.frozen? ⟨b, o, none⟩) :=
  ⟨fun b o h => hb.cell (p := ⟨b, o, none⟩) h, fun b o h => hb.frozen (p := ⟨b, o, none⟩) h⟩

/-- Block g is just the cells cs of element type t, none frozen. -/
def Bk (w : World) (g : Nat) (t : TypeId) (cs : Array Value) : Prop := w.heap[g]? = some (.cells cs t (0, 0))
section
variable {w w' : World} {g : Nat} {t : TypeId} {cs : Array Value}
theorem Bk.lt (h : Bk w g t cs) : g < w.heap.size := (Array.getElem?_eq_some_iff.1 h).1
theorem Bk.cell (h : Bk w g t cs) (i : Nat) : w.cell? ⟨g, i, none⟩ = cs[i]? := by unfold Bk at h; simp [World.cell?, h]
theorem Bk.free (h : Bk w g t cs) (i : Nat) : w.frozen? ⟨g, i, none⟩ = false := by unfold Bk at h; simp [World.frozen?, h]
theorem Bk.new (w : World) (t : TypeId) (cs : Array Value) : Bk (w.alloc (.cells cs t)) w.heap.size t cs := by show (w.heap.push _)[w.heap.size]? = _; simp
theorem Bk.alloc (h : Bk w g t cs) (o : Obj) : Bk (w.alloc o) g t cs := (Below.heap_alloc w o g h.lt).trans h
theorem Bk.set (h : Bk w g t cs) (i : Nat) (u : Value) : Bk (w.setCell ⟨g, i, none⟩ u) g t (cs.setIfInBounds i u) := by
  unfold Bk at h ⊢
  simp [World.setCell, Array.getElem?_modify, h]
theorem Bk.far (h : Bk w g t cs) {p : Addr} (hp : g ≠ p.block) (u : Value) : Bk (w.setCell p u) g t cs := (Below.heap_setCell w p u g hp).trans h
theorem Bk.below {B : Nat} (h : Bk w g t cs) (hb : Below B w w') (hg : g < B) : Bk w' g t cs := (hb.block g hg).trans h
theorem Bk.grown {row : Option Nat} (h : Bk w g t cs) (hb : w.grownBy w' row) (hg : some g ≠ row) : Bk w' g t cs := (hb.block g h.lt hg).trans h
end

theorem run_max3 {P : Program} (ts : Array TypeId) (t : TypeId) (x y z : Int) (w : World) : (Builtin.max_ ts t #[.int .i64 x, .int .i64 y, .int .i64 z]).run P w = .ok (.int .i64 (max x (max y z))) w := by
  have h : (Builtin.max_ ts t #[.int .i64 x, .int .i64 y, .int .i64 z]).run P w = .ok (.int .i64 (if z > (if y > x then y else x) then z else (if y > x then y else x))) w := by
    simp [Builtin.max_, Builtin.max2]
  rw [h]
  congr 2
  split <;> split at * <;> omega

/-- a list of ints as cells -/
def ints (l : List Int) : List Value := l.map (Value.int .i64)
end Go.Proofs.YtjpaogapclfajaaGreat
