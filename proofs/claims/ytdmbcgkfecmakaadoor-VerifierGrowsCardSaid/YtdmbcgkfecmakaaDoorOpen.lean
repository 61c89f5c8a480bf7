/- Opening a method that comes in by value. -/
import Derived.Test.YtdmbcgkfecmakaaDoorChecked
import Derived.Test.YtdmbcgkfecmakaaDoorExam
import Derived.ProofKit
import Derived.OpenShut
import Derived.Deep.Slices
import Derived.Deep.Fields
namespace Go.Proofs.YtdmbcgkfecmakaaDoor
set_option linter.unusedVariables false
set_option linter.unusedSimpArgs false
set_option linter.unusedSectionVars false
open Go.ChangeShapes Go.WideShapes Go.ChangeAt Go.RowKit Go.Deep
set_option maxRecDepth 100000

theorem cellsInstr : Tryd.prog.cellsOf 39 = 3 := by kernel_rfl
theorem cellsMethod : Tryd.prog.cellsOf 25 = 5 := by kernel_rfl
theorem cellsInt64 : Tryd.prog.cellsOf 2 = 1 := by kernel_rfl
theorem cellsInt : Tryd.prog.cellsOf 3 = 1 := by kernel_rfl
theorem cellsStr : Tryd.prog.cellsOf 9 = 1 := by kernel_rfl
theorem cellsSlI : Tryd.prog.cellsOf 22 = 1 := by kernel_rfl
theorem cellsSlS : Tryd.prog.cellsOf 23 = 1 := by kernel_rfl

section
variable {H : Type} {enc : TypeId × Value → H} {w : World} {base : Nat} {spare : Nat → Bool} {held : Bool}

theorem open_instr {fuel : Nat} {cs : List Value} {x : DataW H × List MemPlace} (h : DataW.trod enc Tryd.prog w base spare held fuel 39 cs = some x) :
    ∃ a b c : Int, cs = [.int .i64 a, .int .i64 b, .int .i64 c] ∧ (Lit.int .i64 a).wf = true ∧ (Lit.int .i64 b).wf = true ∧ (Lit.int .i64 c).wf = true := by
  obtain ⟨xs, n, _, _, hlen, hxl, hg⟩ := DataW.trod_struct Tryd.underlying39 h
  rw [cellsInstr] at hlen
  match cs, hlen with
  | [u0, u1, u2], _ =>
    match xs, hxl with
    | [y0, y1, y2], _ =>
      have h0 : DataW.trod enc Tryd.prog w base spare held n 3 (([u0, u1, u2].drop 0).take (Tryd.prog.cellsOf 3)) = some y0 := hg 0 _ rfl
      have h1 : DataW.trod enc Tryd.prog w base spare held n 2 (([u0, u1, u2].drop 1).take (Tryd.prog.cellsOf 2)) = some y1 := hg 1 _ rfl
      have h2 : DataW.trod enc Tryd.prog w base spare held n 2 (([u0, u1, u2].drop 2).take (Tryd.prog.cellsOf 2)) = some y2 := hg 2 _ rfl
      rw [cellsInt] at h0
      rw [cellsInt64] at h1 h2
      obtain ⟨a, e0, _, w0⟩ := DataW.trod_int Tryd.underlying3 (show DataW.trod enc Tryd.prog w base spare held n 3 [u0] = some y0 from h0)
      obtain ⟨b, e1, _, w1⟩ := DataW.trod_int Tryd.underlying2 (show DataW.trod enc Tryd.prog w base spare held n 2 [u1] = some y1 from h1)
      obtain ⟨c, e2, _, w2⟩ := DataW.trod_int Tryd.underlying2 (show DataW.trod enc Tryd.prog w base spare held n 2 [u2] = some y2 from h2)
      simp only [List.cons.injEq, and_true] at e0 e1 e2
      subst e0 e1 e2
      exact ⟨a, b, c, rfl, w0, w1, w2⟩

theorem spot_of_cell {a : Addr} {v : Value} (h : w.cell? a = some v) : a = ⟨a.block, a.off, none⟩ := by
  have := World.cell?_spot h
  cases a
  simp_all

theorem choose_list {α : Type} {p : Nat → α → Prop} : ∀ n, (∀ i, i < n → ∃ x, p i x) → ∃ l : List α, l.length = n ∧ ∀ i x, l[i]? = some x → p i x
  | 0, _ => ⟨[], rfl, fun i x h => by cases h⟩
  | n + 1, h => by
    obtain ⟨l, h1, h2⟩ := choose_list n (fun i hi => h i (by omega))
    obtain ⟨x, hx⟩ := h n (by omega)
    refine ⟨l ++ [x], by simp [h1], fun i y hy => ?_⟩
    by_cases hi : i < n
    · rw [List.getElem?_append_left (by omega)] at hy
      exact h2 i y hy
    · have hin : i = n := by
        have := (List.getElem?_eq_some_iff.1 hy).1
        simp [h1] at this
        omega
      subst hin
      rw [List.getElem?_append_right (by omega), h1] at hy
      simp at hy
      exact hy ▸ hx

/-- a slice of instructions reads as a code -/
theorem open_code {fuel : Nat} {v : Value} {x : DataW H × List MemPlace} (h : DataW.trod enc Tryd.prog w base spare held fuel 22 [v] = some x) :
    ∃ A len cap, v = .slice A len cap ∧ len ≤ cap ∧ ∃ c : List Ins, c.length = len ∧ (∀ x ∈ c, (Lit.int .i64 x.1).wf = true ∧ (Lit.int .i64 x.2.1).wf = true ∧ (Lit.int .i64 x.2.2).wf = true) ∧ Sl w 3 A len (codeCells c) := by
  rcases open_slice Tryd.underlying22 h with ⟨h0, _⟩ | ⟨a, len, cap, m, n, D, Pl, hcs, hb, hl, hm, hmm, _, hi⟩
  · simp only [List.cons.injEq, and_true] at h0
    subst h0
    exact ⟨none, 0, 0, rfl, Nat.le_refl _, [], rfl, by simp, Sl.nil _ _ _⟩
  · simp only [List.cons.injEq, and_true] at hcs
    subst hcs
    have hml : len ≤ m := by rw [hmm]; split <;> omega
    refine ⟨some a, len, cap, rfl, hl, ?_⟩
    obtain ⟨c, hc, hp⟩ := choose_list (α := Ins) (p := fun i x => (w.cell? (a.add (i * 3)) = some (.int .i64 x.1) ∧ w.cell? (a.add (i * 3 + 1)) = some (.int .i64 x.2.1) ∧ w.cell? (a.add (i * 3 + 2)) = some (.int .i64 x.2.2)) ∧ (Lit.int .i64 x.1).wf = true ∧ (Lit.int .i64 x.2.1).wf = true ∧ (Lit.int .i64 x.2.2).wf = true) len (fun i hil => by
      obtain ⟨cs', hc, ht⟩ := hi i (by omega)
      rw [cellsInstr] at hc
      obtain ⟨p, q, r, rfl, w0, w1, w2⟩ := open_instr ht
      obtain ⟨_, _, hat⟩ := World.cells?_some hc
      have g0 := hat 0 (by omega)
      have g1 := hat 1 (by omega)
      have g2 := hat 2 (by omega)
      rw [Go.Deep.add_add] at g0 g1 g2
      exact ⟨(p, q, r), ⟨by simpa using g0, by simpa using g1, by simpa using g2⟩, w0, w1, w2⟩)
    refine ⟨c, hc, fun x hx => ?_, codeCells_length c |>.trans (by rw [hc]), ?_⟩
    · obtain ⟨i, hi'⟩ := List.mem_iff_getElem?.1 hx
      exact (hp i x hi').2
    · rcases Nat.eq_zero_or_pos len with h0 | h0
      · exact .inl h0
      · obtain ⟨x0, hx0⟩ : ∃ x, c[0]? = some x := ⟨_, List.getElem?_eq_getElem (by omega)⟩
        have q0 := (hp 0 x0 hx0).1.1
        have ea : a = ⟨a.block, a.off, none⟩ := by
          have := spot_of_cell q0
          simpa [Addr.add] using this
        rw [ea]
        refine .inr ⟨a.block, a.off, rfl, ?_, fun j y hy => ?_⟩
        · have := cell_lt q0
          simpa [Addr.add] using this
        · have hj : j < len * 3 := by
            have := (List.getElem?_eq_some_iff.1 hy).1
            rw [codeCells_length, hc] at this
            exact this
          obtain ⟨x, hx⟩ : ∃ x, c[j / 3]? = some x := ⟨_, List.getElem?_eq_getElem (by rw [hc]; omega)⟩
          obtain ⟨⟨q0, q1, q2⟩, _⟩ := hp _ x hx
          obtain ⟨k0, k1, k2⟩ := codeCells_get c _ x hx
          have eadd : ∀ n, a.add n = ⟨a.block, a.off + n, none⟩ := fun n => by
            unfold Addr.add
            split
            · rename_i h; subst h; exact ea
            · rfl
          rw [eadd] at q0 q1 q2
          have h3 : j = j / 3 * 3 ∨ j = j / 3 * 3 + 1 ∨ j = j / 3 * 3 + 2 := by omega
          rcases h3 with h3 | h3 | h3
          · rw [h3, k0] at hy; rw [h3, ← hy]; exact q0
          · rw [h3, k1] at hy; rw [h3, ← hy]; exact q1
          · rw [h3, k2] at hy; rw [h3, ← hy]; exact q2

theorem open_method {r : _root_.Go.Reach} {b0 : Nat} {v : Value} {d : DataW H} {p : List MemPlace} (hv : Value.okWide Tryd.prog w r b0 25 v) (h : DataW.Trod enc Tryd.prog w base spare held 25 v d p) :
    ∃ v0 v1 v2 A len cap B m d', v = .agg #[v0, v1, v2, .slice A len cap, .slice B m d'] ∧ len ≤ cap ∧ ∃ c : List Ins, c.length = len ∧ (∀ x ∈ c, (Lit.int .i64 x.1).wf = true ∧ (Lit.int .i64 x.2.1).wf = true ∧ (Lit.int .i64 x.2.2).wf = true) ∧ Sl w 3 A len (codeCells c) := by
  obtain ⟨cs, rfl, hsz⟩ := okWide_struct Tryd.underlying25 hv
  rw [cellsMethod] at hsz
  obtain ⟨fuel, hf⟩ := h
  obtain ⟨xs, n, _, _, hlen, hxl, hg⟩ := DataW.trod_struct Tryd.underlying25 hf
  obtain ⟨l⟩ := cs
  match l, hsz with
  | [u0, u1, u2, u3, u4], _ =>
    match xs, hxl with
    | [y0, y1, y2, y3, y4], _ =>
      have h3 : DataW.trod enc Tryd.prog w base spare held n 22 (([u0, u1, u2, u3, u4].drop 3).take (Tryd.prog.cellsOf 22)) = some y3 := hg 3 _ rfl
      have h4 : DataW.trod enc Tryd.prog w base spare held n 23 (([u0, u1, u2, u3, u4].drop 4).take (Tryd.prog.cellsOf 23)) = some y4 := hg 4 _ rfl
      rw [cellsSlI] at h3
      rw [cellsSlS] at h4
      obtain ⟨A, len, cap, rfl, hl, c, hc⟩ := open_code (show DataW.trod enc Tryd.prog w base spare held n 22 [u3] = some y3 from h3)
      have hB : ∃ B m d', u4 = .slice B m d' := by
        rcases open_slice Tryd.underlying23 (show DataW.trod enc Tryd.prog w base spare held n 23 [u4] = some y4 from h4) with ⟨h0, _⟩ | ⟨a, len, cap, m, n, D, Pl, hcs, _⟩
        · simp only [List.cons.injEq, and_true] at h0; exact ⟨_, _, _, h0⟩
        · simp only [List.cons.injEq, and_true] at hcs; exact ⟨_, _, _, hcs⟩
      obtain ⟨B, m, d', rfl⟩ := hB
      exact ⟨u0, u1, u2, A, len, cap, B, m, d', rfl, hl, c, hc⟩
end
end Go.Proofs.YtdmbcgkfecmakaaDoor
