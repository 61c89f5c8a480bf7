/- The reference's cards: Has, Mark. The reference's cards: Mark. (printed by gen/rmark.py) -/
import Derived.Test.YtjpaogapclfajaaGreatRMAlloc
import Derived.Test.YtjpaogapclfajaaGreatSep
import Derived.Deep.CutRange
import Derived.Deep.CutBlock
namespace Go.Proofs.YtjpaogapclfajaaGreat
set_option linter.unusedVariables false
set_option linter.unusedSimpArgs false
set_option linter.unusedSectionVars false
open Go.RowKit Go.Sort
set_option maxRecDepth 100000

theorem i_int : (Tryz.prog.info? 3).map (fun i => (i.zero, i.size, i.bytes)) = some (some (.int .i64 0), 1, 8) := by kernel_rfl
theorem ints_one (l : List Int) : ∀ u ∈ ints l, u.oneCell' = true := by
  intro u hu
  obtain ⟨x, _, rfl⟩ := List.mem_map.1 hu
  rfl
theorem ints_get {l : List Int} {i : Nat} {x : Int} (h : l[i]? = some x) : (ints l)[i]? = some (.int .i64 x) := by simp [ints, h]
theorem ints_length (l : List Int) : (ints l).length = l.length := by simp [ints]
/-- a list of numbers lies in a slice -/
structure IS (w : World) (l : List Int) (A : Option Addr) (c : Nat) : Prop where
  sl : Sl w 1 A l.length (ints l)
  cap : l.length ≤ c
theorem IS.below {w w' : World} {l : List Int} {A : Option Addr} {c : Nat} (h : IS w l A c) (hb : Below w.heap.size w w') : IS w' l A c := ⟨h.sl.below hb, h.cap⟩
def isV (l : List Int) (A : Option Addr) (c : Nat) : Value := .slice A l.length c
theorem boxT (w : World) (v : Value) (t : TypeId) : Below w.heap.size w (w.alloc (.cells #[v] t)) := (Below.refl _ _).alloc (Nat.le_refl _) _
section
variable {w : World} {cs : List Int} {A : Option Addr} {c : Nat}
end
end Go.Proofs.YtjpaogapclfajaaGreat
namespace Go.Proofs.YtjpaogapclfajaaGreat
set_option linter.unusedVariables false
set_option linter.unusedSimpArgs false
set_option linter.unusedSectionVars false
open Go.RowKit Go.Sort
set_option maxRecDepth 100000

def RMkP (w : World) (A0 : Option Addr) (r : Int × List Int) (e : Ending) (w' : World) : Prop := ∃ A c, e = .returned (.tuple #[.agg #[.slice A r.2.length c], .int .i64 r.1]) ∧ IS w' r.2 A c ∧ c ≤ maxLen ∧ (∀ b o, A = some ⟨b, o, none⟩ → A = A0 ∨ w.heap.size ≤ b) ∧ Below w.heap.size w w'
theorem cardIns_split (q : Int) : ∀ (cs : List Int) (k : Nat), (∀ j x, j < k → cs[j]? = some x → x < q) → (∀ x, cs[k]? = some x → q ≤ x) → k ≤ cs.length → cardIns q cs = cs.take k ++ q :: cs.drop k
  | [], 0, _, _, _ => rfl
  | [], k + 1, _, _, h => by simp at h
  | x :: l, 0, _, h2, _ => by
    have := h2 x rfl
    unfold cardIns
    rw [if_neg (by omega)]
    rfl
  | x :: l, k + 1, h1, h2, h3 => by
    have := h1 0 x (by omega) rfl
    unfold cardIns
    rw [if_pos this, cardIns_split q l k (fun j y hj hy => h1 (j + 1) y (by omega) (by simpa using hy)) (fun y hy => h2 y (by simpa using hy)) (by simpa using h3)]
    rfl
theorem Sl.take {w : World} {A : Option Addr} {l : List Int} (h : Sl w 1 A l.length (ints l)) {k : Nat} (hk : k ≤ l.length) : Sl w 1 A k (ints (l.take k)) := by
  refine ⟨by simp [ints, hk], ?_⟩
  rcases h.2 with h0 | ⟨b, o, e, hb, hc⟩
  · exact .inl (by omega)
  · refine .inr ⟨b, o, e, hb, fun j x hx => hc j x ?_⟩
    simp only [ints, List.map_take] at hx ⊢
    exact (List.getElem?_take_of_lt (by have := (List.getElem?_eq_some_iff.1 hx).1; simp at this; omega)).symm.trans hx
theorem Sl.drop {w : World} {b o : Nat} {l : List Int} (h : Sl w 1 (some ⟨b, o, none⟩) l.length (ints l)) {k : Nat} (hk : k ≤ l.length) : Sl w 1 (some ⟨b, o + k, none⟩) (l.length - k) (ints (l.drop k)) := by
  refine ⟨by simp [ints], ?_⟩
  rcases h.2 with h0 | ⟨b', o', e, hb, hc⟩
  · exact .inl (by omega)
  · cases e
    refine .inr ⟨b, o + k, rfl, hb, fun j x hx => ?_⟩
    rw [Nat.add_assoc]
    refine hc (k + j) x ?_
    simpa [ints] using hx
/-! The statement 'return Table{append(append(l, a/16), t.Marked[at:]...)}, api.OK'. -/
def KMR (W : World) (B gb k l : Nat) (q a : Int) (A7 : Option Addr) (c7 : Nat) (bA oA c : Nat) (xs ys : List Value) : Nat → Value → World → Prop
  | 0, v, w => v = .slice A7 k c7 ∧ w.ownsRow B 3 1 v (k) (xs)
  | 1, v, _ => v = .int .i64 a
  | 2, v, w => v = .int .i64 q
  | 3, v, w => ∃ g, v = .slice (some ⟨g, 0, none⟩) 1 1 ∧ Bk w g 3 #[.int .i64 q]
  | 4, v, w => w.ownsRow B 3 1 v (k + 1) (xs ++ [.int .i64 q])
  | 5, v, _ => v = .pointer (some ⟨gb, 0, none⟩)
  | 6, v, _ => v = .slice (some ⟨bA, oA, none⟩) l c
  | 7, v, _ => v = .int .i64 (k : Int)
  | 8, v, w => ∃ A9 c9, v = .slice A9 (l - k) c9 ∧ Sl W 1 A9 (l - k) ys ∧ ∀ b o, A9 = some ⟨b, o, none⟩ → b < B
  | 9, v, w => w.ownsRow B 3 1 v (k + 1 + (l - k)) (xs ++ [.int .i64 q] ++ ys)
  | 10, v, w => ∃ u, v = .agg #[u] ∧ w.ownsRow B 3 1 u (k + 1 + (l - k)) (xs ++ [.int .i64 q] ++ ys)
  | _, _, _ => False
def KMO  : Nat → Value → Option Nat
  | 0, v => blkOf v
  | 3, v => blkOf v
  | 4, v => blkOf v
  | 9, v => blkOf v
  | 10, v => blkOf v
  | _, _ => none
def KMds : Nat → List Nat
  | 2 => [1]
  | 3 => [2]
  | 4 => [0, 3]
  | 6 => [5]
  | 8 => [6, 7]
  | 9 => [4, 8]
  | 10 => [9]
  | _ => []
def KMeat : Nat → List Nat
  | 4 => [0]
  | 9 => [4]
  | 10 => [9]
  | _ => []
theorem KMR_loc {W : World} {B gb k l : Nat} {q a : Int} {A7 : Option Addr} {c7 : Nat} {bA oA c : Nat} {xs ys : List Value} (i : Nat) (v : Value) (w w' : World) (hi : i < 11) (h : KMR W B gb k l q a A7 c7 bA oA c xs ys i v w) (hw : Below B W w) (hw' : Below B W w') (hk : ∀ k, KMO  i v = some k → w'.heap[k]? = w.heap[k]?) : KMR W B gb k l q a A7 c7 bA oA c xs ys i v w' := by
  rcases (show i = 0 ∨ i = 1 ∨ i = 2 ∨ i = 3 ∨ i = 4 ∨ i = 5 ∨ i = 6 ∨ i = 7 ∨ i = 8 ∨ i = 9 ∨ i = 10 by omega) with rfl | rfl | rfl | rfl | rfl | rfl | rfl | rfl | rfl | rfl | rfl
  · exact ⟨h.1, own_local h.2 fun k' h' => hk k' ((own_blk h.2).trans h')⟩
  · exact h
  · exact h
  · obtain ⟨g, rfl, h2⟩ := h; exact ⟨g, rfl, (hk g rfl).trans h2⟩
  · exact own_local h fun k' h' => hk k' ((own_blk h).trans h')
  · exact h
  · exact h
  · exact h
  · exact h
  · exact own_local h fun k' h' => hk k' ((own_blk h).trans h')
  · obtain ⟨u, rfl, h1⟩ := h; exact ⟨u, rfl, own_local h1 fun k' h' => hk k' ((own_blkAgg h1).trans h')⟩

section
variable {w : World} {cs : List Int} {A : Option Addr} {c : Nat}
end
def KNR (W : World) (B gb k l : Nat) (q a : Int) (A7 : Option Addr) (c7 : Nat) (bA oA c : Nat) (xs ys : List Value) : Nat → Value → World → Prop
  | 0, v, w => v = .slice A7 k c7 ∧ w.ownsRow B 3 1 v (k) (xs)
  | 1, v, _ => v = .int .i64 a
  | 2, v, w => v = .int .i64 q
  | 3, v, w => ∃ g, v = .slice (some ⟨g, 0, none⟩) 1 1 ∧ Bk w g 3 #[.int .i64 q]
  | 4, v, w => w.ownsRow B 3 1 v (k + 1) (xs ++ [.int .i64 q])
  | 5, v, _ => v = .pointer (some ⟨gb, 0, none⟩)
  | 6, v, _ => v = .slice none 0 0
  | 7, v, _ => v = .int .i64 (k : Int)
  | 8, v, w => ∃ A9 c9, v = .slice A9 (l - k) c9 ∧ Sl W 1 A9 (l - k) ys ∧ ∀ b o, A9 = some ⟨b, o, none⟩ → b < B
  | 9, v, w => w.ownsRow B 3 1 v (k + 1 + (l - k)) (xs ++ [.int .i64 q] ++ ys)
  | 10, v, w => ∃ u, v = .agg #[u] ∧ w.ownsRow B 3 1 u (k + 1 + (l - k)) (xs ++ [.int .i64 q] ++ ys)
  | _, _, _ => False
def KNO  : Nat → Value → Option Nat
  | 0, v => blkOf v
  | 3, v => blkOf v
  | 4, v => blkOf v
  | 9, v => blkOf v
  | 10, v => blkOf v
  | _, _ => none
def KNds : Nat → List Nat
  | 2 => [1]
  | 3 => [2]
  | 4 => [0, 3]
  | 6 => [5]
  | 8 => [6, 7]
  | 9 => [4, 8]
  | 10 => [9]
  | _ => []
def KNeat : Nat → List Nat
  | 4 => [0]
  | 9 => [4]
  | 10 => [9]
  | _ => []
theorem KNR_loc {W : World} {B gb k l : Nat} {q a : Int} {A7 : Option Addr} {c7 : Nat} {bA oA c : Nat} {xs ys : List Value} (i : Nat) (v : Value) (w w' : World) (hi : i < 11) (h : KNR W B gb k l q a A7 c7 bA oA c xs ys i v w) (hw : Below B W w) (hw' : Below B W w') (hk : ∀ k, KNO  i v = some k → w'.heap[k]? = w.heap[k]?) : KNR W B gb k l q a A7 c7 bA oA c xs ys i v w' := by
  rcases (show i = 0 ∨ i = 1 ∨ i = 2 ∨ i = 3 ∨ i = 4 ∨ i = 5 ∨ i = 6 ∨ i = 7 ∨ i = 8 ∨ i = 9 ∨ i = 10 by omega) with rfl | rfl | rfl | rfl | rfl | rfl | rfl | rfl | rfl | rfl | rfl
  · exact ⟨h.1, own_local h.2 fun k' h' => hk k' ((own_blk h.2).trans h')⟩
  · exact h
  · exact h
  · obtain ⟨g, rfl, h2⟩ := h; exact ⟨g, rfl, (hk g rfl).trans h2⟩
  · exact own_local h fun k' h' => hk k' ((own_blk h).trans h')
  · exact h
  · exact h
  · exact h
  · exact h
  · exact own_local h fun k' h' => hk k' ((own_blk h).trans h')
  · obtain ⟨u, rfl, h1⟩ := h; exact ⟨u, rfl, own_local h1 fun k' h' => hk k' ((own_blkAgg h1).trans h')⟩
section
variable {w : World} {cs : List Int} {A : Option Addr} {c : Nat}
end
end Go.Proofs.YtjpaogapclfajaaGreat
