/- Helpers for appends: rows that the call owns, read as slices; single new cells. -/
import Derived.Test.YtdmbcgkfecmakaaDoorMem
import Derived.Maps.AppendAt
import Derived.Laws.MakeOwn
namespace Go.Proofs.YtdmbcgkfecmakaaDoor
set_option linter.unusedVariables false
set_option linter.unusedSimpArgs false
set_option linter.unusedSectionVars false
open Go.RowKit

theorem ownSls {w : World} {base : Nat} {e : TypeId} {s n : Nat} {v : Value} {xs : List Value} (h : w.ownsRow base e s v n xs) (hn : 0 < n) : ∃ g cap, v = .slice (some ⟨g, 0, none⟩) n cap ∧ n ≤ cap ∧ base ≤ g ∧ g < w.heap.size ∧ Sl w s (some ⟨g, 0, none⟩) n xs := by
  have hlt := h.lt
  have hcl := fun g => h.cells (g := g)
  obtain ⟨h1, h2 | ⟨g, cap, cur, rfl, h3, _, h5, _⟩⟩ := h
  · omega
  · exact ⟨g, cap, rfl, h5, h3, (hlt g rfl).2, h1, .inr ⟨g, 0, rfl, (hlt g rfl).2, fun j x hx => by
      have := hcl g rfl j x hx
      unfold Addr.add at this
      split at this
      · next h0 => subst h0; exact this
      · exact this⟩⟩
theorem ownNe {base e size n : Nat} {w : World} {v : Value} {xs : List Value} (h : w.ownsRow base e size v n xs) {g : Nat} (hg : g < base) : some g ≠ v.ownBlock := fun he => by
  have := (h.lt g he.symm).1
  omega
theorem cellThree (w : World) (x y z : Value) (t : TypeId) : ∀ j u, [x, y, z][j]? = some u → (w.alloc (.cells #[x, y, z] t)).cell? ((⟨w.heap.size, 0, none⟩ : Addr).add j) = some u := by
  intro j u hj
  match j, hj with
  | 0, hj => simp at hj; subst hj; simp [Addr.add]
  | 1, hj => simp at hj; subst hj; simp [Addr.add]
  | 2, hj => simp at hj; subst hj; simp [Addr.add]
theorem grownSet (w : World) (g i : Nat) (v : Value) : w.grownBy (w.setCell ⟨g, i, none⟩ v) (some g) :=
  ⟨rfl, rfl, rfl, by simp [World.setCell], fun k _ hk => Below.heap_setCell _ _ _ _ (fun e => hk (by rw [e]))⟩
theorem Sl.made (w : World) (z : Value) (n : Nat) (t : TypeId) : Sl (w.alloc (.cells (madeCells #[z] n) t)) 1 (some ⟨w.heap.size, 0, none⟩) n (List.replicate n z) := by
  refine ⟨by simp, .inr ⟨_, _, rfl, by simp, fun j x hx => ?_⟩⟩
  rw [Nat.zero_add]
  have hj : j < n := by
    have := (List.getElem?_eq_some_iff.1 hx).1
    simpa using this
  simp [hj] at hx
  subst hx
  simp [madeCells, hj, Nat.mod_one]
/-- cells that were there stay, whatever is laid besides -/
theorem cellAlloc {w : World} {a : Addr} {v : Value} (o : Obj) (h : w.cell? a = some v) : (w.alloc o).cell? a = some v :=
  (((Below.refl w.heap.size w).alloc (Nat.le_refl _) o).cell (cell_lt h)).trans h
theorem cellDrew {w : World} {a : Addr} {v : Value} (h : w.cell? a = some v) : w.drew.cell? a = some v := h
theorem cellGrown {w w' : World} {row : Option Nat} {a : Addr} {v : Value} (hg : w.grownBy w' row) (h : w.cell? a = some v) (hne : some a.block ≠ row) : w'.cell? a = some v := hg.cell h hne
theorem cellFar {w : World} {a b : Addr} {v : Value} (u : Value) (h : w.cell? a = some v) (hne : a.block ≠ b.block) : (w.setCell b u).cell? a = some v := by
  rw [World.cell?_of_block (Below.heap_setCell w b u a.block hne)]; exact h
theorem Bk.here (w : World) (t : TypeId) (cs : Array Value) {g : Nat} (hg : g = w.heap.size) : Bk (w.alloc (.cells cs t)) g t cs := by subst hg; exact Bk.new w t cs
theorem Bk.drewI {w : World} {g : Nat} {t : TypeId} {cs : Array Value} (h : Bk w g t cs) : Bk w.drew g t cs := h
theorem ownEmpty {w : World} {g base : Nat} {e : TypeId} (s : Nat) (h : Bk w g e #[]) (hb : base ≤ g) : w.ownsRow base e s (.slice (some ⟨g, 0, none⟩) 0 0) 0 [] :=
  ⟨by simp, .inr ⟨g, 0, #[], rfl, hb, h, Nat.le_refl _, Nat.zero_le _, by simp, by simp⟩⟩
theorem cellsAdd {w : World} {b o : Nat} {fl : List Value} (h : ∀ j v, fl[j]? = some v → w.cell? ⟨b, o + j, none⟩ = some v) : ∀ j u, fl[j]? = some u → w.cell? ((⟨b, o, none⟩ : Addr).add j) = some u := by
  intro j u hj
  have := h j u hj
  unfold Addr.add
  split
  · next h0 => subst h0; simpa using this
  · exact this
theorem Bk.cellsAdd {w : World} {g : Nat} {t : TypeId} {cs : Array Value} (h : Bk w g t cs) : ∀ j u, cs.toList[j]? = some u → w.cell? ((⟨g, 0, none⟩ : Addr).add j) = some u :=
  Go.Proofs.YtdmbcgkfecmakaaDoor.cellsAdd fun j v hv => by rw [Nat.zero_add, h.cell]; simpa using hv
theorem ownDrew {w : World} {base size n : Nat} {e : TypeId} {v : Value} {xs : List Value} (h : w.ownsRow base e size v n xs) : w.drew.ownsRow base e size v n xs := h
theorem Bk.setOne {w : World} {g : Nat} {t : TypeId} {z : Value} (u : Value) (h : Bk w g t #[z]) : Bk (w.setCell ⟨g, 0, none⟩ u) g t #[u] := h.set 0 u
theorem ownSet {w : World} {base size n g : Nat} {e : TypeId} {a : Addr} {m c : Nat} {xs : List Value} (h : w.ownsRow base e size (.slice (some a) m c) n xs) (u : Value) (hne : a.block ≠ g) : (w.setCell ⟨g, 0, none⟩ u).ownsRow base e size (.slice (some a) m c) n xs :=
  h.kept (grownSet w g 0 u) (.inr (by simpa [Value.ownBlock] using hne))
theorem Sl.ofBk {w : World} {g n : Nat} {t : TypeId} {z : Value} (h : Bk w g t (madeCells #[z] n)) : Sl w 1 (some ⟨g, 0, none⟩) n (List.replicate n z) := by
  refine ⟨by simp, .inr ⟨_, _, rfl, h.lt, fun j x hx => ?_⟩⟩
  rw [Nat.zero_add, h.cell]
  have hj : j < n := by
    have := (List.getElem?_eq_some_iff.1 hx).1
    simpa using this
  simp [hj] at hx
  subst hx
  simp [madeCells, hj, Nat.mod_one]
end Go.Proofs.YtdmbcgkfecmakaaDoor
