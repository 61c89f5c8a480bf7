/- Operations that make memory, each by itself: append, new slices, new variables; as steps of a region that draws its order. -/
import Derived.Test.YtdmbcgkfecmakaaDoorSep
import Derived.Test.YtdmbcgkfecmakaaDoorOwn
import Derived.WalkKit
namespace Go.Proofs.YtdmbcgkfecmakaaDoor
set_option linter.unusedVariables false
set_option linter.unusedSimpArgs false
set_option linter.unusedSectionVars false
open Go.RowKit

section
variable {P : Program} {w : World}
theorem append_run {base : Nat} {t ty e : TypeId} {i : TypeInfo} {z : Value} {size bytes : Nat} (ht : P.underlying t = some (.slice e)) (hi : P.info? e = some i) (hz : i.zero = some z)
    (hsize : i.size = size) (hby : i.bytes = bytes) (hzs : z.cells.size = size) (hsz : 0 < size)
    {v : Value} {n : Nat} {xs : List Value} (hown : w.ownsRow base e size v n xs) {A : Option Addr} {m c : Nat} {news : List Value} (hs : Sl w size A m news) (h1 : ∀ u ∈ news, u.oneCell' = true)
    (h63 : n + m ≤ maxLen) (hbytes : (n + m) * bytes ≤ 140737488355328) (hbase : base ≤ w.heap.size) :
    ∃ v' w', (Builtin.append_ #[t, t] ty #[v, .slice A m c]).run P w = .ok v' w' ∧ w'.ownsRow base e size v' (n + m) (xs ++ news) ∧ w.grownBy w' v.ownBlock ∧ (v'.ownBlock = v.ownBlock ∨ v'.ownBlock = some w.heap.size) := by
  cases A with
  | some ad =>
    have hc : ∀ j u, news[j]? = some u → w.cell? (ad.add j) = some u := fun j u hu => by
      have hlt := (List.getElem?_eq_some_iff.1 hu).1
      rw [hs.1] at hlt
      rcases Nat.eq_zero_or_pos m with h0 | h0
      · rw [h0] at hlt; omega
      · obtain ⟨b, o, he, _, hcc⟩ := hs.get h0
        cases he
        exact cellsAdd hcc j u hu
    obtain ⟨v', w', r1, r2, r3, _, r4⟩ := run_append_own_at (P := P) w base t ty e i z size bytes ht hi hz hsize hby hzs hsz v n xs hown ad m c news hs.1 hc h1 h63 hbytes hbase
    exact ⟨v', w', r1, r2, r3, r4⟩
  | none =>
    have h0 : m = 0 := by
      rcases hs.2 with h | ⟨_, _, h, _⟩
      · exact h
      · cases h
    subst h0
    have hn : news = [] := List.length_eq_zero_iff.1 (by rw [hs.1, Nat.zero_mul])
    subst hn
    refine ⟨v, w, ?_, by rw [List.append_nil]; exact hown, ⟨rfl, rfl, rfl, Nat.le_refl _, fun _ _ _ => rfl⟩, .inl rfl⟩
    rcases hown.2 with ⟨rfl, rfl⟩ | ⟨g, cap, cur, rfl, _, _, hnc, _⟩
    · simp [Builtin.append_, run_underlying ht, sizeOf, typeInfo, hi, Builtin.lenOf, Builtin.firstCells]
    · simp [Builtin.append_, run_underlying ht, sizeOf, typeInfo, hi, Builtin.lenOf, Builtin.firstCells, hnc, storeCells]

theorem own_shape {base : Nat} {e : TypeId} {size n : Nat} {v : Value} {xs : List Value} (h : w.ownsRow base e size v n xs) : ∃ A c, v = .slice A n c ∧ n ≤ c := by
  rcases h.2 with ⟨rfl, rfl⟩ | ⟨g, cap, cur, rfl, _, _, h5, _⟩
  · exact ⟨_, _, rfl, Nat.le_refl _⟩
  · exact ⟨_, _, rfl, h5⟩
theorem own_local {w' : World} {base : Nat} {e : TypeId} {size n : Nat} {v : Value} {xs : List Value} (h : w.ownsRow base e size v n xs) (hb : ∀ k, v.ownBlock = some k → w'.heap[k]? = w.heap[k]?) : w'.ownsRow base e size v n xs := by
  obtain ⟨h1, h2 | ⟨g, cap, cur, rfl, h3, h4, h5⟩⟩ := h
  · exact ⟨h1, .inl h2⟩
  · exact ⟨h1, .inr ⟨g, cap, cur, rfl, h3, by rw [hb g rfl]; exact h4, h5⟩⟩
theorem own_sl {base : Nat} {e : TypeId} {size n c : Nat} {A : Option Addr} {xs : List Value} (h : w.ownsRow base e size (.slice A n c) n xs) : Sl w size A n xs := by
  rcases Nat.eq_zero_or_pos n with h0 | h0
  · subst h0
    exact ⟨h.1, .inl rfl⟩
  · obtain ⟨g, cap, hv, _, _, _, hs⟩ := ownSls h h0
    cases hv
    exact hs
/-- the block of a value -/
def blkOf : Value → Option Nat
  | .slice (some a) _ _ => some a.block
  | .pointer (some a) => some a.block
  | .agg #[.slice (some a) _ _] => some a.block
  | _ => none
theorem own_blk {base : Nat} {e : TypeId} {size n : Nat} {v : Value} {xs : List Value} (h : w.ownsRow base e size v n xs) : blkOf v = v.ownBlock := by
  obtain ⟨A, c, rfl, _⟩ := own_shape h
  cases A <;> rfl
theorem own_blkAgg {base : Nat} {e : TypeId} {size n : Nat} {v : Value} {xs : List Value} (h : w.ownsRow base e size v n xs) : blkOf (.agg #[v]) = v.ownBlock := by
  obtain ⟨A, c, rfl, _⟩ := own_shape h
  cases A <;> rfl
/-- append, as a step -/
theorem made_append {T : Value → World → Prop} {o : Oper} {a : Act} (s x : Operand) (t : TypeId) (ho : o.op = .call { callee := .builtin .append, args := #[s, x], argTypes := #[t, t] })
    {base : Nat} {e : TypeId} {i : TypeInfo} {z : Value} {size bytes : Nat} (ht : P.underlying t = some (.slice e)) (hi : P.info? e = some i) (hz : i.zero = some z)
    (hsize : i.size = size) (hby : i.bytes = bytes) (hzs : z.cells.size = size) (hsz : 0 < size)
    {v : Value} {n : Nat} {xs : List Value} (hv : a.eval s = v) (hown : w.ownsRow base e size v n xs) {A : Option Addr} {m c : Nat} {news : List Value} (hx : a.eval x = .slice A m c) (hs : Sl w size A m news) (h1 : ∀ u ∈ news, u.oneCell' = true)
    (h63 : n + m ≤ maxLen) (hbytes : (n + m) * bytes ≤ 140737488355328) (hbase : base ≤ w.heap.size)
    (h : ∀ v' w', w'.ownsRow base e size v' (n + m) (xs ++ news) → w.grownBy w' v.ownBlock → (v'.ownBlock = v.ownBlock ∨ v'.ownBlock = some w.heap.size) → T v' w') : Made P T ((execOp a.eval o).run P w) := by
  obtain ⟨v', w', hrun, h2, h3, h4⟩ := append_run (P := P) (ty := o.type) ht hi hz hsize hby hzs hsz hown hs h1 h63 hbytes hbase (c := c)
  unfold execOp
  simp only [ho, resolve, invoke, builtin, Sem.run_bind, Sem.run_pure, Result.andThen_ok, List.map_toArray, List.map_cons, List.map_nil, hv, hx, hrun]
  exact h v' w' h2 h3 h4

section
variable {R : Nat → Value → World → Prop} {ob : Nat → Value → Option Nat} {W : World} {vs : Nat → Value} {eat : List Nat} {i : Nat} {v : Value}
theorem lays_pure (h : R i v w) (ho : ob i v = none) : Lays R ob W vs eat i w v w := ⟨h, rfl, rfl, rfl, Nat.le_refl _, fun _ _ _ => rfl, fun k hk => by rw [ho] at hk; cases hk⟩
theorem lays_alloc {o : Obj} (h : R i v (w.alloc o)) (ho : ob i v = some w.heap.size) (hW : W.heap.size ≤ w.heap.size) : Lays R ob W vs eat i w v (w.alloc o) :=
  ⟨h, rfl, rfl, rfl, by simp, fun k hk _ => Below.heap_alloc w o k hk, fun k hk => by rw [ho] at hk; cases hk; exact ⟨by simp, hW, .inl (Nat.le_refl _)⟩⟩
theorem lays_take {l : List Nat} (hg : Given R ob W vs l w) {j : Nat} (hj : j ∈ eat) (hl : j ∈ l) (h : R i v w) (ho : ob i v = ob j (vs j)) : Lays R ob W vs eat i w v w :=
  ⟨h, rfl, rfl, rfl, Nat.le_refl _, fun _ _ _ => rfl, fun k hk => by rw [ho] at hk; have := (hg.2.1 j hl).2 k hk; exact ⟨this.2, this.1, .inr ⟨j, hj, hk⟩⟩⟩
theorem lays_grown {l : List Nat} (hg : Given R ob W vs l w) {j : Nat} (hj : j ∈ eat) (hl : j ∈ l) {w' : World} {row : Option Nat} (hrow : ob j (vs j) = row) (hgr : w.grownBy w' row) (h : R i v w') (ho : ∀ k, ob i v = some k → (row = some k ∨ k = w.heap.size) ∧ k < w'.heap.size) : Lays R ob W vs eat i w v w' := by
  refine ⟨h, hgr.os, hgr.tape, hgr.output, hgr.size, fun k hk hne => hgr.block k hk fun e => hne j hj (by rw [hrow]; exact e.symm), fun k hk => ?_⟩
  obtain ⟨h1, h2⟩ := ho k hk
  rcases h1 with h1 | h1
  · have h3 := (hg.2.1 j hl).2 k (by rw [hrow]; exact h1)
    exact ⟨h2, h3.1, .inr ⟨j, hj, by rw [hrow]; exact h1⟩⟩
  · exact ⟨h2, by have := hg.1.size; omega, .inl (by omega)⟩
/-- an append onto what the j-th operation has laid -/
theorem lays_append {l : List Nat} (hg : Given R ob W vs l w) {j : Nat} (hj : j ∈ eat) (hl : j ∈ l) {w' : World} {base : Nat} {e : TypeId} {size n n' : Nat} {u : Value} {xs xs' : List Value} (hu : w.ownsRow base e size u n xs) (hju : ob j (vs j) = blkOf u) (hgr : w.grownBy w' u.ownBlock)
    (hown : w'.ownsRow base e size v n' xs') (h4 : v.ownBlock = u.ownBlock ∨ v.ownBlock = some w.heap.size) (h : R i v w') (ho : ob i v = blkOf v) : Lays R ob W vs eat i w v w' :=
  lays_grown hg hj hl (hju.trans (own_blk hu)) hgr h fun k hk => by
    rw [ho, own_blk hown] at hk
    refine ⟨?_, (hown.lt k hk).2⟩
    rcases h4 with h4 | h4
    · exact .inl (by rw [← h4]; exact hk)
    · rw [h4] at hk; exact .inr (Option.some.inj hk).symm
end
end
end Go.Proofs.YtdmbcgkfecmakaaDoor
