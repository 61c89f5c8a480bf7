/- Law 11, monotone: the plain law, and what Mark hands back. -/
import Derived.Test.YtjpaogapclfajaaGreatMarkW
import Derived.Test.YtjpaogapclfajaaGreatSepC
namespace Go.Proofs.YtjpaogapclfajaaGreat
set_option linter.unusedVariables false
set_option linter.unusedSimpArgs false
set_option linter.unusedSectionVars false
open Go.RowKit Go.Sort
theorem Mm.marks_noneC {m : Mm} {r r' : List Int} (h : ∀ x ∈ r, x ∈ r') (hn : m.marks r = none) : m.marks r' = none := by
  cases h' : m.marks r' with
  | none => rfl
  | some p => exact absurd (Mm.Bad.mono h (Mm.marks_none hn)) (Mm.marks_some (sg := p.1) (wl := p.2) h').good
section
variable {m : Mm} {r r' sg wl sg' wl' : List Int}
theorem Mm.MarksI.strong_mono (h : m.MarksI r sg wl) (h' : m.MarksI r' sg' wl') (hr : ∀ x ∈ r, x ∈ r') (a : Int) (ha : sg.contains a = true) : sg'.contains a = true := by
  have := Mm.Rch.mono hr ((h.rch a).1 (List.contains_iff_mem.1 ha))
  exact List.contains_iff_mem.2 ((h'.rch a).2 this)
theorem Mm.MarksI.weak_mono (h : m.MarksI r sg wl) (h' : m.MarksI r' sg' wl') (hr : ∀ x ∈ r, x ∈ r') (a : Int) (ha : wl.contains a = true) : sg'.contains a = true ∨ (!sg'.contains a && wl'.contains a) = true := by
  obtain ⟨h3, _, b, x, hb, h2, hx, hxr⟩ := (h.wk a).1 (List.contains_iff_mem.1 ha)
  cases hs : sg'.contains a with
  | true => exact .inl rfl
  | false =>
    refine .inr ?_
    have : a ∈ wl' := (h'.wk a).2 ⟨h3, (fun e => by rw [List.contains_iff_mem.2 ((h'.rch a).2 e)] at hs; cases hs), b, x, Mm.Rch.mono hr hb, h2, hx, hxr⟩
    rw [List.contains_iff_mem.2 this]
    rfl
/-- what the law compares -/
theorem mono_bits {sa wa sb wb sc wc : List Int} {ra rb rc : List Int} (ha : m.MarksI ra sa wa) (hb : m.MarksI rb sb wb) (hc : m.MarksI rc sc wc) (h1 : ∀ x ∈ ra, x ∈ rb) (h2 : ∀ x ∈ rb, x ∈ rc) (h3 : ∀ x ∈ rc, x ∈ rb) (a : Int) :
    sc.contains a = sb.contains a ∧ (!sc.contains a && wc.contains a) = (!sb.contains a && wb.contains a) ∧
    ((sa.contains a = false ∧ (!sa.contains a && wa.contains a) = false ∧ sb.contains a = false ∧ (!sb.contains a && wb.contains a) = false) ∨
     (sa.contains a = false ∧ (!sa.contains a && wa.contains a) = false ∧ sb.contains a = false ∧ (!sb.contains a && wb.contains a) = true) ∨
     (sa.contains a = false ∧ (!sa.contains a && wa.contains a) = false ∧ sb.contains a = true ∧ (!sb.contains a && wb.contains a) = false) ∨
     (sa.contains a = true ∧ (!sa.contains a && wa.contains a) = false ∧ sb.contains a = true ∧ (!sb.contains a && wb.contains a) = false) ∨
     (sa.contains a = false ∧ (!sa.contains a && wa.contains a) = true ∧ sb.contains a = false ∧ (!sb.contains a && wb.contains a) = true) ∨
     (sa.contains a = false ∧ (!sa.contains a && wa.contains a) = true ∧ sb.contains a = true ∧ (!sb.contains a && wb.contains a) = false)) := by
  have k1 : sc.contains a = sb.contains a := by
    cases hx : sb.contains a with
    | true => exact hb.strong_mono hc h2 a hx
    | false =>
      cases hy : sc.contains a with
      | true => rw [hc.strong_mono hb h3 a hy] at hx; cases hx
      | false => rfl
  have k2 : (!sc.contains a && wc.contains a) = (!sb.contains a && wb.contains a) := by
    rw [k1]
    cases hx : sb.contains a with
    | true => rfl
    | false =>
      have hx' : sc.contains a = false := k1.trans hx
      cases h4 : wb.contains a with
      | true =>
        rcases hb.weak_mono hc h2 a h4 with h5 | h5
        · rw [hx'] at h5; cases h5
        · rw [hx'] at h5; simpa using h5
      | false =>
        cases h6 : wc.contains a with
        | false => rfl
        | true =>
          rcases hc.weak_mono hb h3 a h6 with h5 | h5
          · rw [hx] at h5; cases h5
          · rw [hx, h4] at h5; simp at h5
  refine ⟨k1, k2, ?_⟩
  have k3 := ha.strong_mono hb h1 a
  have k4 := ha.weak_mono hb h1 a
  revert k3 k4
  cases sa.contains a <;> cases wa.contains a <;> cases sb.contains a <;> cases wb.contains a <;> simp
end
/-- the answer's number -/
def erM (o : Option (List Int × List Int)) : Int := match o with | none => 11 | some _ => 0
def PtT (m : Mm) (o : Option (List Int × List Int)) (v : Value) (w : World) : Prop := match o with
  | none => v = .pointer none
  | some (sg, wl) => ∃ B g b, v = .pointer (some ⟨g, 0, none⟩) ∧ MkR w B g b m sg wl
def TpT (m : Mm) (o : Option (List Int × List Int)) (v : Value) (w : World) : Prop := ∃ p, v = .tuple #[p, .int .i64 (erM o)] ∧ PtT m o p w
theorem PtT.below {m : Mm} {o : Option (List Int × List Int)} {v : Value} {w w' : World} (h : PtT m o v w) (hb : Below w.heap.size w w') : PtT m o v w' := by
  unfold PtT at *
  split
  · exact h
  · obtain ⟨B, g, b, e, h1⟩ := h
    exact ⟨B, g, b, e, MkR0.below h1 hb⟩
theorem TpT.below {m : Mm} {o : Option (List Int × List Int)} {v : Value} {w w' : World} (h : TpT m o v w) (hb : Below w.heap.size w w') : TpT m o v w' := let ⟨p, e, hp⟩ := h; ⟨p, e, hp.below hb⟩
theorem TpT.of {w w' : World} {m : Mm} {o : Option (List Int × List Int)} {e : Ending} (h : MarkPost w m o e w') : Below w.heap.size w w' ∧ ∃ v, e = .returned v ∧ TpT m o v w' := by
  obtain ⟨hb, h⟩ := h
  refine ⟨hb, ?_⟩
  split at h
  · exact ⟨_, h, _, rfl, rfl⟩
  · obtain ⟨g, b, e, h1⟩ := h
    exact ⟨_, e, _, rfl, _, g, b, rfl, h1⟩
end Go.Proofs.YtjpaogapclfajaaGreat
