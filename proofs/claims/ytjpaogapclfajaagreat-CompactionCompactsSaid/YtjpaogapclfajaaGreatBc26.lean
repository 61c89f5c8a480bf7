/- Parts of the proof: CmpT, CmpK. -/
import Derived.Test.YtjpaogapclfajaaGreatBcA
import Derived.Test.YtjpaogapclfajaaGreatBc17
import Derived.Test.YtjpaogapclfajaaGreatBc23
import Derived.Test.YtjpaogapclfajaaGreatBc25
set_option linter.unusedVariables false
set_option linter.unusedSimpArgs false
set_option linter.unusedSectionVars false
namespace Go.Proofs.YtjpaogapclfajaaGreat
open Go.RowKit
section
variable {s : Spc} {ms : List Int}
theorem Spc.Pl.ok (h : s.Pl ms) {a : Int} (ha : a ∈ ms) : ((Mm.one s).hdr a).1 = 0 := (Spc.objs_obj (h.ob a ha)).1.ok
theorem cmp_len (h : s.Pl ms) : ((s.cmp ms).ws.length : Int) = wSum (Mm.one s) ms := movd_sum _ _ _ _ fun a ha => h.ok ha
theorem Spc.Pl.id (hP : s.Pl ms) {a : Int} (ha : a ∈ ms) : vI ((Mm.one s).idOf a) = true := by
 have ho := (Spc.objs_obj (hP.ob a ha)).1
 obtain ⟨_, v, _, _, hv, _⟩ := ho.vals
 have := ho.id hv
 rw [this.1]
 exact this.2
theorem cmp_ok (ho : s.Ok) (hP : s.Pl ms) : (s.cmp ms).Ok := by
 have h2 := hP.sum
 have h3 := cmp_len hP
 have hlm := ho.lim
 refine ⟨?_, ho.b0, ?_, ho.l0⟩
 ·intro x hx
  unfold Spc.cmp at hx
  dsimp only at hx
  obtain ⟨a, ha, hx⟩ := List.mem_flatMap.1 hx
  unfold Mm.movd at hx
  rcases List.mem_append.1 hx with hx | hx
  ·rcases List.mem_cons.1 hx with rfl | hx
   ·exact eH_u64 (Mm.hdr_valid (hP.ok ha))
   ·rw [List.mem_singleton.1 hx]
    exact eI_u64 (hP.id ha)
  ·rw [payU_eq] at hx
   exact updP_u64 (pay_u64 ho.u a) x hx
 ·show s.base + ((s.cmp ms).ws.length : Int) ≤ s.limit
  unfold Spc.top at h2
  omega
end
end Go.Proofs.YtjpaogapclfajaaGreat
namespace Go.Proofs.YtjpaogapclfajaaGreat
open Go.RowKit
def Mm.kpx (m : Mm) (sg wl ws : List Int) : List Int := ws.foldl (fun l x => m.kpW sg l (m.rfr x)) wl
section
variable {m : Mm} {sg wl st more ws : List Int}
theorem keepW_iff {a b : Int} : b ∈ m.keepW sg wl a ↔ b ∈ wl ∨ (b = a ∧ a ∉ sg ∧ (m.hdr a).2.k = 3) := by
 unfold Mm.keepW
 by_cases hc : sg.contains a = false ∧ wl.contains a = false ∧ (m.hdr a).2.k = 3
 ·rw [if_pos hc, List.mem_append, List.mem_singleton]
  have h1 : a ∉ sg := by simpa using hc.1
  constructor
  ·rintro (h | h)
   ·exact .inl h
   ·exact .inr ⟨h, h1, hc.2.2⟩
  ·rintro (h | h)
   ·exact .inl h
   ·exact .inr h.1
 ·rw [if_neg hc]
  constructor
  ·exact .inl
  ·rintro (h | ⟨rfl, h1, h3⟩)
   ·exact h
   ·by_cases hw : b ∈ wl
    ·exact hw
    ·exact absurd ⟨by simpa using h1, by simpa using hw, h3⟩ hc
theorem kpW_iff {o : Option (Option Int)} {b : Int} : b ∈ m.kpW sg wl o ↔ b ∈ wl ∨ (o = some (some b) ∧ b ∉ sg ∧ (m.hdr b).2.k = 3) := by
 unfold Mm.kpW
 split
 ·rename_i a
  rw [keepW_iff]
  constructor
  ·rintro (h | ⟨rfl, h1, h3⟩)
   ·exact .inl h
   ·exact .inr ⟨rfl, h1, h3⟩
  ·rintro (h | ⟨h, h1, h3⟩)
   ·exact .inl h
   ·cases h; exact .inr ⟨rfl, h1, h3⟩
 ·rename_i h0
  constructor
  ·exact .inl
  ·rintro (h | ⟨h, _⟩)
   ·exact h
   ·exact absurd h (h0 b)
theorem kpx_mem : ∀ (ws wl : List Int) (b : Int), b ∈ m.kpx sg wl ws ↔ b ∈ wl ∨ (b ∉ sg ∧ (m.hdr b).2.k = 3 ∧ ∃ x ∈ ws, m.rfr x = some (some b))
 | [], wl, b => by simp [Mm.kpx]
 | x :: ws, wl, b => by
  have ih := kpx_mem ws (m.kpW sg wl (m.rfr x)) b
  unfold Mm.kpx at ih ⊢
  rw [List.foldl_cons, ih, kpW_iff]
  constructor
  ·rintro ((h | ⟨h, h1, h3⟩) | ⟨h1, h3, y, hy, h⟩)
   ·exact .inl h
   ·exact .inr ⟨h1, h3, x, List.mem_cons_self .., h⟩
   ·exact .inr ⟨h1, h3, y, List.mem_cons_of_mem _ hy, h⟩
  ·rintro (h | ⟨h1, h3, y, hy, h⟩)
   ·exact .inl (.inl h)
   ·rcases List.mem_cons.1 hy with rfl | hy
    ·exact .inl (.inr ⟨h, h1, h3⟩)
    ·exact .inr ⟨h1, h3, y, hy, h⟩
theorem kpW_nd {o : Option (Option Int)} (h : (sg ++ wl).Nodup) : (sg ++ m.kpW sg wl o).Nodup := by
 unfold Mm.kpW
 split
 ·rename_i a
  unfold Mm.keepW
  split
  ·rename_i hc
   rw [← List.append_assoc]
   refine nodup_snoc h fun e => ?_
   rcases List.mem_append.1 e with e | e
   ·have := hc.1; simp [e] at this
   ·have := hc.2.1; simp [e] at this
  ·exact h
 ·exact h
theorem kpx_nd : ∀ (ws wl : List Int), (sg ++ wl).Nodup → (sg ++ m.kpx sg wl ws).Nodup
 | [], wl, h => h
 | x :: ws, wl, h => by
  have := kpx_nd ws (m.kpW sg wl (m.rfr x)) (kpW_nd h)
  unfold Mm.kpx at this ⊢
  exact this
theorem kpW_perm {o : Option (Option Int)} (h1 : sg.Perm st) (h2 : wl.Perm more) : (m.kpW sg wl o).Perm (m.kpW st more o) := by
 unfold Mm.kpW
 split
 ·rename_i a
  unfold Mm.keepW
  rw [contains_perm h1 a, contains_perm h2 a]
  split
  ·exact h2.append_right _
  ·exact h2
 ·exact h2
theorem kpx_perm (h1 : sg.Perm st) : ∀ (ws wl more : List Int), wl.Perm more → (m.kpx sg wl ws).Perm (m.kpx st more ws)
 | [], wl, more, h => h
 | x :: ws, wl, more, h => by
  have := kpx_perm h1 ws _ _ (kpW_perm (m := m) (wl := wl) (more := more) (o := m.rfr x) h1 h)
  unfold Mm.kpx at this ⊢
  exact this
theorem kpx_snoc (x : Int) : m.kpx sg wl (ws ++ [x]) = m.kpW sg (m.kpx sg wl ws) (m.rfr x) := by unfold Mm.kpx; rw [List.foldl_append]; rfl
theorem kpx_take {j : Nat} {x : Int} (h : ws[j]? = some x) : m.kpx sg wl (ws.take (j + 1)) = m.kpW sg (m.kpx sg wl (ws.take j)) (m.rfr x) := by
 rw [List.take_add_one, h]
 exact kpx_snoc x
end
/-- what the extended marks are -/
structure Mks (s : Spc) (roots weak sg wl : List Int) : Prop where
 mi : ∃ wl0, (Mm.one s).MarksI roots sg wl0 ∧ wl = (Mm.one s).kpx sg wl0 weak
section
variable {s : Spc} {roots weak sg wl : List Int}
theorem rch_ok {m : Mm} {a : Int} (h : m.Rch roots a) : (m.hdr a).1 = 0 ∧ (m.hdr a).2.k ≠ 4 := by
 cases h with
 | root hx h => exact Mm.rfr_hdr h
 | step hb h3 h2 hx h => exact Mm.rfr_hdr h
theorem Mks.nd (h : Mks s roots weak sg wl) : (sg ++ wl).Nodup := by
 obtain ⟨wl0, h1, rfl⟩ := h.mi
 exact kpx_nd _ _ h1.disj
theorem Mks.hdr (h : Mks s roots weak sg wl) : ∀ a ∈ sg ++ wl, ((Mm.one s).hdr a).1 = 0 ∧ ((Mm.one s).hdr a).2.k ≠ 4 := fun a ha => by
 obtain ⟨wl0, h1, rfl⟩ := h.mi
 rcases List.mem_append.1 ha with ha | ha
 ·exact rch_ok ((h1.rch a).1 ha)
 ·rcases (kpx_mem _ _ a).1 ha with h2 | ⟨_, h3, x, hx, hr⟩
  ·exact ⟨h1.hdr a (.inr h2), by have := ((h1.wk a).1 h2).1; omega⟩
  ·exact ⟨(Mm.rfr_hdr hr).1, by omega⟩
theorem Mks.len (h : Mks s roots weak sg wl) : (sg ++ wl).length ≤ s.ws.length := by
 have := nodup_len (sg ++ wl) _ h.nd fun y hy => (Mm.one s).all_has y (Mm.hdr_has (h.hdr y hy).1)
 rw [← Mm.one_size]
 simpa [Mm.size] using this
theorem Mks.rg (ok : (Mm.one s).Ok) (h : Mks s roots weak sg wl) : ∀ a ∈ sg ++ wl, 0 ≤ a ∧ a ≤ 4294967296 := fun a ha => Mm.res_has ok (Mm.hdr_has (h.hdr a ha).1)
theorem Mks.good (h : Mks s roots weak sg wl) : (∀ x ∈ roots, (Mm.one s).rfr x ≠ none) ∧ ∀ a ∈ sg ++ wl, ((Mm.one s).hdr a).2.k ≠ 3 → ∀ x ∈ (Mm.one s).flds a, (Mm.one s).rfr x ≠ none := by
 obtain ⟨wl0, h1, rfl⟩ := h.mi
 refine ⟨fun x hx e => h1.good (.inl ⟨x, hx, e⟩), fun a ha h3 x hx e => ?_⟩
 rcases List.mem_append.1 ha with ha | ha
 ·exact h1.good (.inr ⟨a, x, (h1.rch a).1 ha, h3, hx, e⟩)
 ·rcases (kpx_mem _ _ a).1 ha with h2 | ⟨_, h4, _⟩
  ·exact h3 ((h1.wk a).1 h2).1
  ·exact h3 h4
section
variable {ms : List Int}
end
end
theorem put_old (m : Mm) (a x : Int) : (m.put a x).old.ws.length = m.old.ws.length := by
 unfold Mm.put
 split
 ·exact Spc.put_len _ _ _
 ·rfl
theorem puts_old : ∀ (l : List Int) (m : Mm) (a : Int), (m.puts a l).old.ws.length = m.old.ws.length
 | [], m, a => rfl
 | x :: l, m, a => (puts_old l (m.put a x) (a + 1)).trans (put_old m a x)
theorem write_old (m : Mm) (a k : Int) (l : List Int) : (m.write a k l).old.ws.length = m.old.ws.length := (puts_old _ _ _).trans (put_old _ _ _)
def Whl (s : Spc) : Prop := s.ws.length = 0 ∨ 4 ≤ s.ws.length
theorem Whl.ws {s : Spc} (h : Whl s) : s.ws = [] ∨ 4 ≤ s.ws.length := h.imp List.length_eq_zero_iff.1 id
theorem Whl.of {s t : Spc} (h : Whl s) (e : t.ws.length = s.ws.length) : Whl t := by unfold Whl at *; omega
theorem setF_old (m : Mm) (a i x : Int) : (m.setF a i x).2.old.ws.length = m.old.ws.length := by
 unfold Mm.setF
 split
 ·rfl
 ·exact put_old _ _ _
theorem toStub_old (m : Mm) (a o x : Int) : (m.toStub a o x).2.old.ws.length = m.old.ws.length := by
 unfold Mm.toStub
 split
 ·rfl
 ·split
  ·rfl
  ·split
   ·rfl
   ·exact write_old _ _ _ _
theorem toFwd_old (m : Mm) (a b : Int) : (m.toFwd a b).2.old.ws.length = m.old.ws.length := by
 unfold Mm.toFwd
 split
 ·rfl
 ·split
  ·rfl
  ·split
   ·rfl
   ·exact write_old _ _ _ _
theorem st1_whl (p : Mm × List Int) (x : Op1) (h : Whl p.1.old) : Whl (st1 p x).1.old := by
 unfold st1
 split
 ·split
  ·exact h
  ·dsimp only
   unfold Mm.alloc
   rw [if_neg (by decide)]
   dsimp only
   rcases p.1.old.alloc_cases x.h ⟨1, p.2.length + 1⟩ with h1 | ⟨_, _, _, h1⟩
   ·rw [h1.2]; exact h
   ·rw [h1]
    right
    have := wH_ge (h := x.h) (by assumption)
    simp
    omega
 ·split
  ·exact h.of (setF_old _ _ _ _)
  ·split
   ·exact h.of (setF_old _ _ _ _)
   ·split
    ·exact h.of (toStub_old _ _ _ _)
    ·split
     ·exact h.of (toFwd_old _ _ _)
     ·exact h
theorem fold_whl : ∀ (l : List Op1) (p : Mm × List Int), Whl p.1.old → Whl (l.foldl st1 p).1.old
 | [], p, h => h
 | x :: l, p, h => fold_whl l (st1 p x) (st1_whl p x h)
theorem bld1_whl (l : List Op1) : Whl (bld1 l).1.old := fold_whl l _ (.inl rfl)
end Go.Proofs.YtjpaogapclfajaaGreat
