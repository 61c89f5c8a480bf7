/- Parts of the proof: CmpK, RMrk. -/
import Derived.Test.YtjpaogapclfajaaGreatBa18
import Derived.Test.YtjpaogapclfajaaGreatBa23
import Derived.Test.YtjpaogapclfajaaGreatBa24
import Derived.Test.YtjpaogapclfajaaGreatBa27
set_option linter.unusedVariables false
set_option linter.unusedSimpArgs false
set_option linter.unusedSectionVars false
namespace Go.Proofs.YtjpaogapclfajaaGreat
open Go.RowKit
def Mm.kpx (m : Mm) (sg wl ws : List Int) : List Int := ws.foldl (fun l x => m.kpW sg l (m.rfr x)) wl
section
variable {m : Mm} {sg wl st more ws : List Int}
theorem keepW_iff {a b : Int} : b ∈ m.keepW sg wl a ↔ b ∈ wl ∨ (b = a ∧ a ∉ sg ∧ (m.hdr a).2.k = 3) := by
 unfold Mm.keepW
 by_cases hc : sg.contains a = false ∧ wl.contains a = false ∧ (m.hdr a).2.k = 3
 ·rw [if_pos hc, List.mem_append, List.mem_singleton]
  have h1 : a ∉ sg := by simpa using hc.1
  constructor
  ·rintro (h | h)
   ·exact .inl h
   ·exact .inr ⟨h, h1, hc.2.2⟩
  ·rintro (h | h)
   ·exact .inl h
   ·exact .inr h.1
 ·rw [if_neg hc]
  constructor
  ·exact .inl
  ·rintro (h | ⟨rfl, h1, h3⟩)
   ·exact h
   ·by_cases hw : b ∈ wl
    ·exact hw
    ·exact absurd ⟨by simpa using h1, by simpa using hw, h3⟩ hc
theorem kpW_iff {o : Option (Option Int)} {b : Int} : b ∈ m.kpW sg wl o ↔ b ∈ wl ∨ (o = some (some b) ∧ b ∉ sg ∧ (m.hdr b).2.k = 3) := by
 unfold Mm.kpW
 split
 ·rename_i a
  rw [keepW_iff]
  constructor
  ·rintro (h | ⟨rfl, h1, h3⟩)
   ·exact .inl h
   ·exact .inr ⟨rfl, h1, h3⟩
  ·rintro (h | ⟨h, h1, h3⟩)
   ·exact .inl h
   ·cases h; exact .inr ⟨rfl, h1, h3⟩
 ·rename_i h0
  constructor
  ·exact .inl
  ·rintro (h | ⟨h, _⟩)
   ·exact h
   ·exact absurd h (h0 b)
theorem kpx_mem : ∀ (ws wl : List Int) (b : Int), b ∈ m.kpx sg wl ws ↔ b ∈ wl ∨ (b ∉ sg ∧ (m.hdr b).2.k = 3 ∧ ∃ x ∈ ws, m.rfr x = some (some b))
 | [], wl, b => by simp [Mm.kpx]
 | x :: ws, wl, b => by
  have ih := kpx_mem ws (m.kpW sg wl (m.rfr x)) b
  unfold Mm.kpx at ih ⊢
  rw [List.foldl_cons, ih, kpW_iff]
  constructor
  ·rintro ((h | ⟨h, h1, h3⟩) | ⟨h1, h3, y, hy, h⟩)
   ·exact .inl h
   ·exact .inr ⟨h1, h3, x, List.mem_cons_self .., h⟩
   ·exact .inr ⟨h1, h3, y, List.mem_cons_of_mem _ hy, h⟩
  ·rintro (h | ⟨h1, h3, y, hy, h⟩)
   ·exact .inl (.inl h)
   ·rcases List.mem_cons.1 hy with rfl | hy
    ·exact .inl (.inr ⟨h, h1, h3⟩)
    ·exact .inr ⟨h1, h3, y, hy, h⟩
theorem kpW_nd {o : Option (Option Int)} (h : (sg ++ wl).Nodup) : (sg ++ m.kpW sg wl o).Nodup := by
 unfold Mm.kpW
 split
 ·rename_i a
  unfold Mm.keepW
  split
  ·rename_i hc
   rw [← List.append_assoc]
   refine nodup_snoc h fun e => ?_
   rcases List.mem_append.1 e with e | e
   ·have := hc.1; simp [e] at this
   ·have := hc.2.1; simp [e] at this
  ·exact h
 ·exact h
theorem kpx_nd : ∀ (ws wl : List Int), (sg ++ wl).Nodup → (sg ++ m.kpx sg wl ws).Nodup
 | [], wl, h => h
 | x :: ws, wl, h => by
  have := kpx_nd ws (m.kpW sg wl (m.rfr x)) (kpW_nd h)
  unfold Mm.kpx at this ⊢
  exact this
theorem kpW_perm {o : Option (Option Int)} (h1 : sg.Perm st) (h2 : wl.Perm more) : (m.kpW sg wl o).Perm (m.kpW st more o) := by
 unfold Mm.kpW
 split
 ·rename_i a
  unfold Mm.keepW
  rw [contains_perm h1 a, contains_perm h2 a]
  split
  ·exact h2.append_right _
  ·exact h2
 ·exact h2
theorem kpx_perm (h1 : sg.Perm st) : ∀ (ws wl more : List Int), wl.Perm more → (m.kpx sg wl ws).Perm (m.kpx st more ws)
 | [], wl, more, h => h
 | x :: ws, wl, more, h => by
  have := kpx_perm h1 ws _ _ (kpW_perm (m := m) (wl := wl) (more := more) (o := m.rfr x) h1 h)
  unfold Mm.kpx at this ⊢
  exact this
theorem kpx_snoc (x : Int) : m.kpx sg wl (ws ++ [x]) = m.kpW sg (m.kpx sg wl ws) (m.rfr x) := by unfold Mm.kpx; rw [List.foldl_append]; rfl
theorem kpx_take {j : Nat} {x : Int} (h : ws[j]? = some x) : m.kpx sg wl (ws.take (j + 1)) = m.kpW sg (m.kpx sg wl (ws.take j)) (m.rfr x) := by
 rw [List.take_add_one, h]
 exact kpx_snoc x
end
/-- what the extended marks are -/
structure Mks (s : Spc) (roots weak sg wl : List Int) : Prop where
 mi : ∃ wl0, (Mm.one s).MarksI roots sg wl0 ∧ wl = (Mm.one s).kpx sg wl0 weak
section
variable {s : Spc} {roots weak sg wl : List Int}
theorem rch_ok {m : Mm} {a : Int} (h : m.Rch roots a) : (m.hdr a).1 = 0 ∧ (m.hdr a).2.k ≠ 4 := by
 cases h with
 | root hx h => exact Mm.rfr_hdr h
 | step hb h3 h2 hx h => exact Mm.rfr_hdr h
theorem Mks.nd (h : Mks s roots weak sg wl) : (sg ++ wl).Nodup := by
 obtain ⟨wl0, h1, rfl⟩ := h.mi
 exact kpx_nd _ _ h1.disj
theorem Mks.hdr (h : Mks s roots weak sg wl) : ∀ a ∈ sg ++ wl, ((Mm.one s).hdr a).1 = 0 ∧ ((Mm.one s).hdr a).2.k ≠ 4 := fun a ha => by
 obtain ⟨wl0, h1, rfl⟩ := h.mi
 rcases List.mem_append.1 ha with ha | ha
 ·exact rch_ok ((h1.rch a).1 ha)
 ·rcases (kpx_mem _ _ a).1 ha with h2 | ⟨_, h3, x, hx, hr⟩
  ·exact ⟨h1.hdr a (.inr h2), by have := ((h1.wk a).1 h2).1; omega⟩
  ·exact ⟨(Mm.rfr_hdr hr).1, by omega⟩
theorem Mks.len (h : Mks s roots weak sg wl) : (sg ++ wl).length ≤ s.ws.length := by
 have := nodup_len (sg ++ wl) _ h.nd fun y hy => (Mm.one s).all_has y (Mm.hdr_has (h.hdr y hy).1)
 rw [← Mm.one_size]
 simpa [Mm.size] using this
theorem Mks.rg (ok : (Mm.one s).Ok) (h : Mks s roots weak sg wl) : ∀ a ∈ sg ++ wl, 0 ≤ a ∧ a ≤ 4294967296 := fun a ha => Mm.res_has ok (Mm.hdr_has (h.hdr a ha).1)
theorem Mks.good (h : Mks s roots weak sg wl) : (∀ x ∈ roots, (Mm.one s).rfr x ≠ none) ∧ ∀ a ∈ sg ++ wl, ((Mm.one s).hdr a).2.k ≠ 3 → ∀ x ∈ (Mm.one s).flds a, (Mm.one s).rfr x ≠ none := by
 obtain ⟨wl0, h1, rfl⟩ := h.mi
 refine ⟨fun x hx e => h1.good (.inl ⟨x, hx, e⟩), fun a ha h3 x hx e => ?_⟩
 rcases List.mem_append.1 ha with ha | ha
 ·exact h1.good (.inr ⟨a, x, (h1.rch a).1 ha, h3, hx, e⟩)
 ·rcases (kpx_mem _ _ a).1 ha with h2 | ⟨_, h4, _⟩
  ·exact h3 ((h1.wk a).1 h2).1
  ·exact h3 h4
theorem updL_some {m : Mm} {b : Int} {ms : List Int} : ∀ {l out : List Int}, m.updL b ms l = some out → out = l.map (m.upd b ms) ∧ ∀ x ∈ l, m.rfr x ≠ none
 | [], out, h => by cases h; exact ⟨rfl, fun x hx => by cases hx⟩
 | x :: l, out, h => by
  rw [Mm.updL] at h
  split at h
  ·rename_i y t h1 h2
   cases h
   obtain ⟨h3, h4⟩ := updL_some h2
   refine ⟨?_, fun z hz e => ?_⟩
   ·rw [List.map_cons, ← h3]
    unfold Mm.upd
    rw [h1]
    rfl
   ·rcases List.mem_cons.1 hz with rfl | hz
    ·unfold Mm.updW at h1
     rw [e] at h1
     cases h1
    ·exact h4 z hz e
  ·cases h
theorem updL_of {m : Mm} {b : Int} {ms : List Int} : ∀ {l : List Int}, (∀ x ∈ l, m.rfr x ≠ none) → m.updL b ms l = some (l.map (m.upd b ms))
 | [], _ => rfl
 | x :: l, h => by
  rw [Mm.updL, updL_of fun z hz => h z (List.mem_cons_of_mem _ hz)]
  have h1 := h x (List.mem_cons_self ..)
  have h2 : m.updW b ms x = some (m.upd b ms x) := by
   unfold Mm.upd Mm.updW
   split
   ·rename_i e; exact absurd e h1
   ·rfl
   ·rfl
  rw [h2]
  rfl
theorem updL_self {m : Mm} {b : Int} {ms : List Int} : ∀ {l : List Int}, (∀ x ∈ l, m.updW b ms x = some x) → m.updL b ms l = some l
 | [], _ => rfl
 | x :: l, h => by
  rw [Mm.updL, updL_self fun z hz => h z (List.mem_cons_of_mem _ hz), h x (List.mem_cons_self ..)]
theorem imgO_some {ms : List Int} {o : Option Int} {b : Int} (h : imgO s ms o = some b) : ∃ a ∈ ms, o = some a ∧ b = newA (Mm.one s) s.base ms a := by
 unfold imgO at h
 split at h
 ·cases h
 ·rename_i a
  split at h
  ·rename_i hc
   cases h
   exact ⟨a, by simpa using hc, rfl, rfl⟩
  ·cases h
section
variable {ms : List Int}
structure Agn (s : Spc) (roots weak sg wl ms : List Int) : Prop where
 mx : Mks s roots weak sg wl
 pl : s.Pl ms
 mem : ∀ a, a ∈ ms ↔ a ∈ sg ++ wl
 b0 : s.base = 0
 l0 : s.limit ≤ 16777216
 ok : s.Ok
theorem Agn.k4 (h : Agn s roots weak sg wl ms) : ∀ a ∈ ms, ((Mm.one s).hdr a).2.k ≠ 4 := fun a ha => (h.mx.hdr a ((h.mem a).1 ha)).2
theorem Agn.word (h : Agn s roots weak sg wl ms) {x : Int} (hx : (Mm.one s).rfr x ≠ none) : ∃ o, (Mm.one s).rfr x = some o ∧ (Mm.one (s.cmp ms)).rfr ((Mm.one s).upd s.base ms x) = some (imgO s ms o) := by
 cases hr : (Mm.one s).rfr x with
 | none => exact absurd hr hx
 | some o => exact ⟨o, rfl, cmp_rfr h.pl h.b0 h.l0 h.ok h.k4 hr⟩
theorem Agn.fld (h : Agn s roots weak sg wl ms) {a y : Int} (ha : a ∈ ms) (h3 : ((Mm.one s).hdr a).2.k ≠ 3) (hy : y ∈ (Mm.one (s.cmp ms)).flds (newA (Mm.one s) s.base ms a)) : ∃ x ∈ (Mm.one s).flds a, y = (Mm.one s).upd s.base ms x ∧ (Mm.one s).rfr x ≠ none := by
 rw [cmp_flds h.pl ha h3 (h.k4 a ha)] at hy
 obtain ⟨x, hx, rfl⟩ := List.mem_map.1 hy
 exact ⟨x, hx, rfl, h.mx.good.2 a ((h.mem a).1 ha) h3 x hx⟩
theorem Agn.rch (h : Agn s roots weak sg wl ms) {a : Int} (ha : (Mm.one s).Rch roots a) : a ∈ ms := by
 obtain ⟨wl0, h1, rfl⟩ := h.mx.mi
 exact (h.mem a).2 (List.mem_append.2 (.inl ((h1.rch a).2 ha)))
theorem Agn.down (h : Agn s roots weak sg wl ms) {b : Int} (hb : (Mm.one (s.cmp ms)).Rch (roots.map ((Mm.one s).upd s.base ms)) b) : ∃ a, (Mm.one s).Rch roots a ∧ b = newA (Mm.one s) s.base ms a := by
 induction hb with
 | root hx hr =>
  obtain ⟨y, hy, rfl⟩ := List.mem_map.1 hx
  obtain ⟨o, ho, h2⟩ := h.word (h.mx.good.1 y hy)
  rw [h2] at hr
  obtain ⟨a, ha, rfl, rfl⟩ := imgO_some (Option.some.inj hr)
  exact ⟨a, .root hy ho, rfl⟩
 | step hb h3 h2 hx hr ih =>
  obtain ⟨a0, ha0, rfl⟩ := ih
  have hm := h.rch ha0
  rw [cmp_hdr h.pl hm] at h3 h2
  obtain ⟨y, hy, rfl, hg⟩ := h.fld hm h3 hx
  obtain ⟨o, ho, h4⟩ := h.word hg
  rw [h4] at hr
  obtain ⟨a, ha, rfl, rfl⟩ := imgO_some (Option.some.inj hr)
  exact ⟨a, .step ha0 h3 h2 hy ho, rfl⟩
theorem Agn.img (h : Agn s roots weak sg wl ms) {x a : Int} (ha : a ∈ ms) (hr : (Mm.one s).rfr x = some (some a)) : (Mm.one (s.cmp ms)).rfr ((Mm.one s).upd s.base ms x) = some (some (newA (Mm.one s) s.base ms a)) := by
 rw [cmp_rfr h.pl h.b0 h.l0 h.ok h.k4 hr]
 unfold imgO
 dsimp only
 rw [if_pos (by simpa using ha)]
theorem Agn.up (h : Agn s roots weak sg wl ms) {a : Int} (ha : (Mm.one s).Rch roots a) : (Mm.one (s.cmp ms)).Rch (roots.map ((Mm.one s).upd s.base ms)) (newA (Mm.one s) s.base ms a) := by
 induction ha with
 | root hx hr => exact .root (List.mem_map.2 ⟨_, hx, rfl⟩) (h.img (h.rch (.root hx hr)) hr)
 | step hb h3 h2 hx hr ih =>
  have hm := h.rch hb
  refine .step ih (by rw [cmp_hdr h.pl hm]; exact h3) (by rw [cmp_hdr h.pl hm]; exact h2) ?_ (h.img (h.rch (.step hb h3 h2 hx hr)) hr)
  rw [cmp_flds h.pl hm h3 (h.k4 _ hm)]
  exact List.mem_map.2 ⟨_, hx, rfl⟩
theorem Agn.good (h : Agn s roots weak sg wl ms) : ¬ (Mm.one (s.cmp ms)).Bad (roots.map ((Mm.one s).upd s.base ms)) := by
 rintro (⟨x, hx, hr⟩ | ⟨b, x, hb, h3, hx, hr⟩)
 ·obtain ⟨y, hy, rfl⟩ := List.mem_map.1 hx
  obtain ⟨o, ho, h2⟩ := h.word (h.mx.good.1 y hy)
  rw [h2] at hr
  cases hr
 ·obtain ⟨a, ha, rfl⟩ := h.down hb
  have hm := h.rch ha
  rw [cmp_hdr h.pl hm] at h3
  obtain ⟨y, hy, rfl, hg⟩ := h.fld hm h3 hx
  obtain ⟨o, ho, h2⟩ := h.word hg
  rw [h2] at hr
  cases hr
theorem Agn.marks (h : Agn s roots weak sg wl ms) (hw : ∀ x ∈ weak, (Mm.one s).rfr x ≠ none) : ∃ sg' wl0', (Mm.one (s.cmp ms)).marks (roots.map ((Mm.one s).upd s.base ms)) = some (sg', wl0') ∧ Mks (s.cmp ms) (roots.map ((Mm.one s).upd s.base ms)) (weak.map ((Mm.one s).upd s.base ms)) sg' ((Mm.one (s.cmp ms)).kpx sg' wl0' (weak.map ((Mm.one s).upd s.base ms))) ∧ srtI (sg' ++ (Mm.one (s.cmp ms)).kpx sg' wl0' (weak.map ((Mm.one s).upd s.base ms))) = newsL (Mm.one s) s.base ms := by
 cases hm : (Mm.one (s.cmp ms)).marks (roots.map ((Mm.one s).upd s.base ms)) with
 | none => exact absurd (Mm.marks_none hm) h.good
 | some p =>
  obtain ⟨sg', wl0'⟩ := p
  have hmi := Mm.marks_some hm
  have hmk : Mks (s.cmp ms) (roots.map ((Mm.one s).upd s.base ms)) (weak.map ((Mm.one s).upd s.base ms)) sg' ((Mm.one (s.cmp ms)).kpx sg' wl0' (weak.map ((Mm.one s).upd s.base ms))) := ⟨wl0', hmi, rfl⟩
  refine ⟨sg', wl0', rfl, hmk, ?_⟩
  have hsg : ∀ b, b ∈ sg' ↔ ∃ a, (Mm.one s).Rch roots a ∧ b = newA (Mm.one s) s.base ms a := fun b => by
   rw [hmi.rch b]
   constructor
   ·exact h.down
   ·rintro ⟨a, ha, rfl⟩; exact h.up ha
  have hmem : ∀ b, b ∈ sg' ++ (Mm.one (s.cmp ms)).kpx sg' wl0' (weak.map ((Mm.one s).upd s.base ms)) ↔ b ∈ newsL (Mm.one s) s.base ms := fun b => by
   rw [news_mem h.pl, List.mem_append, kpx_mem]
   constructor
   ·rintro (h1 | h1 | ⟨_, _, x, hx, hr⟩)
    ·obtain ⟨a, ha, e⟩ := (hsg b).1 h1
     exact ⟨a, h.rch ha, e⟩
    ·obtain ⟨_, _, b0, x, hb0, hk2, hx, hr⟩ := (hmi.wk b).1 h1
     obtain ⟨a0, ha0, rfl⟩ := h.down hb0
     have hm0 := h.rch ha0
     rw [cmp_hdr h.pl hm0] at hk2
     dsimp only at hk2
     obtain ⟨y, hy, rfl, hg⟩ := h.fld hm0 (by omega) hx
     obtain ⟨o, ho, h4⟩ := h.word hg
     rw [h4] at hr
     obtain ⟨a, ha, _, e⟩ := imgO_some (Option.some.inj hr)
     exact ⟨a, ha, e⟩
    ·obtain ⟨y, hy, rfl⟩ := List.mem_map.1 hx
     obtain ⟨o, ho, h4⟩ := h.word (hw y hy)
     rw [h4] at hr
     obtain ⟨a, ha, _, e⟩ := imgO_some (Option.some.inj hr)
     exact ⟨a, ha, e⟩
   ·rintro ⟨a, ha, rfl⟩
    obtain ⟨wl0, h1, hwl⟩ := h.mx.mi
    have ha' := (h.mem a).1 ha
    by_cases hs : a ∈ sg
    ·exact .inl ((hsg _).2 ⟨a, (h1.rch a).1 hs, rfl⟩)
    ·have hns : newA (Mm.one s) s.base ms a ∉ sg' := fun e => by
      obtain ⟨a', ha2, e⟩ := (hsg _).1 e
      have := newA_inj h.pl ha (h.rch ha2) e
      subst this
      exact hs ((h1.rch a).2 ha2)
     have haw : a ∈ wl := (List.mem_append.1 ha').resolve_left hs
     rw [hwl] at haw
     right
     rcases (kpx_mem _ _ a).1 haw with h2 | ⟨_, h3, x, hx, hr⟩
     ·obtain ⟨h3, h4, b0, x, hb0, hk2, hx, hr⟩ := (h1.wk a).1 h2
      left
      have hm0 := h.rch hb0
      refine (hmi.wk _).2 ⟨by rw [cmp_hdr h.pl ha]; exact h3, fun e => hns ((hmi.rch _).2 e), _, _, h.up hb0, by rw [cmp_hdr h.pl hm0]; exact hk2, ?_, h.img ha hr⟩
      rw [cmp_flds h.pl hm0 (by omega) (h.k4 _ hm0)]
      exact List.mem_map.2 ⟨_, hx, rfl⟩
     ·exact .inr ⟨hns, by rw [cmp_hdr h.pl ha]; exact h3, _, List.mem_map.2 ⟨x, hx, rfl⟩, h.img ha hr⟩
  refine sorted_eq ?_ (srtI_sorted _) ((news_inc h.pl).imp fun h => Int.le_of_lt h)
  refine (srtI_perm _).trans ?_
  exact (List.perm_ext_iff_of_nodup hmk.nd ((news_inc h.pl).imp fun h => Int.ne_of_lt h)).2 hmem
theorem Agn.rts (h : Agn s roots weak sg wl ms) {l : List Int} (hl : ∀ x ∈ l, (Mm.one s).rfr x ≠ none) : (Mm.one (s.cmp ms)).updL (s.cmp ms).base (newsL (Mm.one s) s.base ms) (l.map ((Mm.one s).upd s.base ms)) = some (l.map ((Mm.one s).upd s.base ms)) := by
 refine updL_self fun y hy => ?_
 obtain ⟨x, hx, rfl⟩ := List.mem_map.1 hy
 obtain ⟨o, ho, _⟩ := h.word (hl x hx)
 exact upd_again h.pl h.b0 h.l0 h.ok h.k4 ho
theorem Agn.again (h : Agn s roots weak sg wl ms) : (s.cmp ms).cmp (newsL (Mm.one s) s.base ms) = s.cmp ms :=
 cmp_again h.pl h.b0 h.l0 h.ok h.k4 fun a ha h3 => h.mx.good.2 a ((h.mem a).1 ha) h3
end
end
theorem put_old (m : Mm) (a x : Int) : (m.put a x).old.ws.length = m.old.ws.length := by
 unfold Mm.put
 split
 ·exact Spc.put_len _ _ _
 ·rfl
theorem puts_old : ∀ (l : List Int) (m : Mm) (a : Int), (m.puts a l).old.ws.length = m.old.ws.length
 | [], m, a => rfl
 | x :: l, m, a => (puts_old l (m.put a x) (a + 1)).trans (put_old m a x)
theorem write_old (m : Mm) (a k : Int) (l : List Int) : (m.write a k l).old.ws.length = m.old.ws.length := (puts_old _ _ _).trans (put_old _ _ _)
def Whl (s : Spc) : Prop := s.ws.length = 0 ∨ 4 ≤ s.ws.length
theorem Whl.ws {s : Spc} (h : Whl s) : s.ws = [] ∨ 4 ≤ s.ws.length := h.imp List.length_eq_zero_iff.1 id
theorem Whl.of {s t : Spc} (h : Whl s) (e : t.ws.length = s.ws.length) : Whl t := by unfold Whl at *; omega
theorem setF_old (m : Mm) (a i x : Int) : (m.setF a i x).2.old.ws.length = m.old.ws.length := by
 unfold Mm.setF
 split
 ·rfl
 ·exact put_old _ _ _
theorem toStub_old (m : Mm) (a o x : Int) : (m.toStub a o x).2.old.ws.length = m.old.ws.length := by
 unfold Mm.toStub
 split
 ·rfl
 ·split
  ·rfl
  ·split
   ·rfl
   ·exact write_old _ _ _ _
theorem toFwd_old (m : Mm) (a b : Int) : (m.toFwd a b).2.old.ws.length = m.old.ws.length := by
 unfold Mm.toFwd
 split
 ·rfl
 ·split
  ·rfl
  ·split
   ·rfl
   ·exact write_old _ _ _ _
theorem st1_whl (p : Mm × List Int) (x : Op1) (h : Whl p.1.old) : Whl (st1 p x).1.old := by
 unfold st1
 split
 ·split
  ·exact h
  ·dsimp only
   unfold Mm.alloc
   rw [if_neg (by decide)]
   dsimp only
   rcases p.1.old.alloc_cases x.h ⟨1, p.2.length + 1⟩ with h1 | ⟨_, _, _, h1⟩
   ·rw [h1.2]; exact h
   ·rw [h1]
    right
    have := wH_ge (h := x.h) (by assumption)
    simp
    omega
 ·split
  ·exact h.of (setF_old _ _ _ _)
  ·split
   ·exact h.of (setF_old _ _ _ _)
   ·split
    ·exact h.of (toStub_old _ _ _ _)
    ·split
     ·exact h.of (toFwd_old _ _ _)
     ·exact h
theorem fold_whl : ∀ (l : List Op1) (p : Mm × List Int), Whl p.1.old → Whl (l.foldl st1 p).1.old
 | [], p, h => h
 | x :: l, p, h => fold_whl l (st1 p x) (st1_whl p x h)
theorem bld1_whl (l : List Op1) : Whl (bld1 l).1.old := fold_whl l _ (.inl rfl)
end Go.Proofs.YtjpaogapclfajaaGreat
namespace Go.Proofs.YtjpaogapclfajaaGreat
open Go.RowKit Go.Sort
attribute [local go_sem] Oper.semAt_some onlyN_normal
set_option maxRecDepth 100000
theorem kpW_len (m : Mm) (sg wl : List Int) (o : Option (Option Int)) : (m.kpW sg wl o).length ≤ wl.length + 1 := by
 unfold Mm.kpW Mm.keepW
 split
 ·split
  ·simp
  ·omega
 ·omega
theorem kpx_len (m : Mm) (sg : List Int) : ∀ (ws wl : List Int), (m.kpx sg wl ws).length ≤ wl.length + ws.length
 | [], wl => Nat.le_refl _
 | x :: ws, wl => by
  have h1 := kpx_len m sg ws (m.kpW sg wl (m.rfr x))
  have h2 := kpW_len m sg wl (m.rfr x)
  unfold Mm.kpx at h1 ⊢
  rw [List.foldl_cons, List.length_cons]
  omega
def RMrkP (w : World) (m : Mm) (weak : List Int) (o : Option (List Int)) (e : Ending) (w' : World) : Prop := Below w.heap.size w w' ∧ match o with
 | none => e = .returned (.tuple #[.slice none 0 0, .bool false])
 | some st => ∃ v, e = .returned (.tuple #[v, .bool true]) ∧ w'.ownsRow w.heap.size 3 1 v (srtI (st ++ m.kpx st (m.weakR st) weak)).length (ints (srtI (st ++ m.kpx st (m.weakR st) weak)))
section
variable {w : World} {s : Spc} {A Ar Aw : Option Addr} {c cr cw : Nat} {roots weak : List Int}
set_option maxHeartbeats 8000000 in
theorem RMarks_any (h : RS w s A c) (hb0 : s.base = 0) (hl0 : s.limit ≤ 16777216) (hr : Sl w 1 Ar roots.length (wds roots)) (hrc : roots.length ≤ cr) (hru : ∀ x ∈ roots, U64 x) (hrl : roots.length ≤ 1000000) (hw : Sl w 1 Aw weak.length (wds weak)) (hwc : weak.length ≤ cw) (hwu : ∀ x ∈ weak, U64 x) (hwl : weak.length ≤ 1000000) :
  Calls Tryz.prog 77 #[.agg #[.int .i64 s.base, .int .i64 s.limit, .slice A s.ws.length c], .slice Ar roots.length cr, .slice Aw weak.length cw] w (RMrkP w (Mm.one s) weak ((Mm.one s).strong roots)) := by
 have hHB := boxS w s A c
 have HB := Lib.hid hHB
 have HQ := Lib.hid (Bk.new w 30 #[.int .i64 s.base, .int .i64 s.limit, .slice A s.ws.length c])
 have H := Lib.hid (h.below hHB)
 have HR := Lib.hid (hr.below hHB)
 have HWK := Lib.hid (hw.below hHB)
 have HWU := Lib.hid hwu
 have HL0 := Lib.hid hl0
 have HB0 := Lib.hid hb0
 have OK := Lib.hid (Mm.one_ok h.ok hb0 hl0)
 have cSt := Strong_any H.out hb0 hl0 HR.out hrc hru hrl
 have HSZ : Hid ((Mm.one s).size ≤ 16777216) := Lib.hid (by rw [Mm.one_size]; have := h.ok.lim; have := h.ok.b0; omega)
 have HSS : Hid (∀ st, (Mm.one s).strong roots = some st → (Mm.one s).StrI roots st) := Lib.hid fun st e => Mm.strong_some e
 have HCR := Lib.hid (fun (w1 : World) (hb : Below (w.alloc (.cells #[.int .i64 s.base, .int .i64 s.limit, .slice A s.ws.length c] 30)).heap.size (w.alloc (.cells #[.int .i64 s.base, .int .i64 s.limit, .slice A s.ws.length c] 30)) w1) (x : Int) (hx : U64 x) => Refers_any (H.out.below hb) hb0 hl0 hx)
 have HCW := Lib.hid (fun (w1 : World) (hb : Below (w.alloc (.cells #[.int .i64 s.base, .int .i64 s.limit, .slice A s.ws.length c] 30)).heap.size (w.alloc (.cells #[.int .i64 s.base, .int .i64 s.limit, .slice A s.ws.length c] 30)) w1) (st : List Int) (A2 : Option Addr) (c2 : Nat) (hr : IS w1 st A2 c2) (hu : ∀ a ∈ st, 0 ≤ a ∧ a ≤ 4294967296) (hll : st.length ≤ 16777216) => RWeak_any (H.out.below hb) hb0 hl0 hr hu hll)
 have cMe := fun (w1 : World) (hb : Below (w.alloc (.cells #[.int .i64 s.base, .int .i64 s.limit, .slice A s.ws.length c] 30)).heap.size (w.alloc (.cells #[.int .i64 s.base, .int .i64 s.limit, .slice A s.ws.length c] 30)) w1) => RMemory_any (H.out.below hb)
 have cHe := fun (w1 : World) (hb : Below (w.alloc (.cells #[.int .i64 s.base, .int .i64 s.limit, .slice A s.ws.length c] 30)).heap.size (w.alloc (.cells #[.int .i64 s.base, .int .i64 s.limit, .slice A s.ws.length c] 30)) w1) (a : Int) => RHeader_any (H.out.below hb).zer a
 simp only [Mm.zer_hdr] at cHe
 unfold rmV Mm.zer hdrV Hdr.val at cHe
 unfold rsV at cMe
 have HCM := Lib.hid cMe
 have HCH := Lib.hid cHe
 obtain ⟨m, hm⟩ : ∃ m, m = Mm.one s := ⟨_, rfl⟩
 simp only [← hm] at cSt HCR HCW HCH OK HSZ HSS ⊢
 obtain ⟨os, hos⟩ : ∃ os, os = m.strong roots := ⟨_, rfl⟩
 rw [← hos] at cSt ⊢
 have HSS : Hid (∀ st, os = some st → m.StrI roots st) := Lib.hid fun st e => HSS.out st (hos.symm.trans e)
 obtain ⟨Q, hQ⟩ : ∃ Q, Q = RMrkP w m weak os := ⟨_, rfl⟩
 rw [← hQ]
 clear h hr hw hwu hru hb0 hl0 cMe cHe hm H hos HB0 HR
 have hbs0 := HB.out.size
 go_enter Tryz.func77, Tryz.ntmps77
 go_upto_region 1 with fail
 generalize (w.alloc (.cells #[.int .i64 s.base, .int .i64 s.limit, .slice A s.ws.length c] 30)) = wB at *
 have q0 : wB.cell? ⟨w.heap.size, 0, none⟩ = some (.int .i64 s.base) := HQ.out.cell 0
 have q1 : wB.cell? ⟨w.heap.size, 1, none⟩ = some (.int .i64 s.limit) := HQ.out.cell 1
 have q2 : wB.cell? ⟨w.heap.size, 2, none⟩ = some (.slice A s.ws.length c) := HQ.out.cell 2
 go_wp2_with fail
 refine cSt.mono ?_
 rintro e w1 ⟨hb1, h1⟩
 have HB1 := Lib.hid hb1
 have hqr := HQ.out.below hb1 HQ.out.lt
 clear q0 q1 q2 cSt
 cases os with
 | none =>
  dsimp only at h1
  subst h1
  have HE : Hid (∀ w', Below w.heap.size w w' → Q (.returned (.tuple #[.slice none 0 0, .bool false])) w') := Lib.hid fun w' hb => by rw [hQ]; exact ⟨hb, rfl⟩
  clear hQ hqr hb1
  go_wp2_with fail
  exact HE.out _ (HB.out.trans (HB1.out.mono hbs0))
 | some st =>
  obtain ⟨v1, rfl, ho1⟩ := h1
  obtain ⟨As, cs, rfl, hcs⟩ := own_shape ho1
  have hsi := HSS.out st rfl
  have hsl : st.length ≤ 16777216 := Nat.le_trans hsi.fnd.len HSZ.out
  have HST : Hid (IS w1 st As cs) := Lib.hid ⟨own_sl ho1, hcs⟩
  have cWk := HCW.out w1 hb1 st As cs HST.out (fun a ha => Mm.res_has OK.out (Mm.hdr_has (hsi.fnd.ok a ha).1)) hsl
  obtain ⟨W, hW⟩ : ∃ W, W = m.weakR st := ⟨_, rfl⟩
  rw [← hW] at cWk
  have hWl : W.length ≤ st.length := by rw [hW]; have := weakB_len m st st []; rw [List.length_nil, Nat.zero_add] at this; exact this
  obtain ⟨kp, hkp⟩ : ∃ kp : Nat → List Int, kp = fun j => m.kpx st W (weak.take j) := ⟨_, rfl⟩
  have HK0 : Hid (kp 0 = W) := Lib.hid (by rw [hkp]; rfl)
  have HKS : Hid (∀ (j : Nat) (x : Int), weak[j]? = some x → kp (j + 1) = m.kpW st (kp j) (m.rfr x)) := Lib.hid fun j x hx => by rw [hkp]; exact kpx_take hx
  have HKL : Hid (∀ j, j ≤ weak.length → (kp j).length ≤ W.length + j) := Lib.hid fun j hj => by
   rw [hkp]
   have := kpx_len m st (weak.take j) W
   rw [List.length_take, Nat.min_eq_left hj] at this
   exact this
  have HE : Hid (∀ v w', Below w.heap.size w w' → w'.ownsRow w.heap.size 3 1 v (srtI (st ++ kp weak.length)).length (ints (srtI (st ++ kp weak.length))) → Q (.returned (.tuple #[v, .bool true])) w') := Lib.hid fun v w' hb ho => by
   rw [hQ]
   refine ⟨hb, v, rfl, ?_⟩
   rw [← hW]
   rw [hkp] at ho
   dsimp only at ho
   rw [List.take_length] at ho
   exact ho
  have hbw1 := hb1.size
  have q0 : w1.cell? ⟨w.heap.size, 0, none⟩ = some (.int .i64 s.base) := hqr.cell 0
  have q1 : w1.cell? ⟨w.heap.size, 1, none⟩ = some (.int .i64 s.limit) := hqr.cell 1
  have q2 : w1.cell? ⟨w.heap.size, 2, none⟩ = some (.slice A s.ws.length c) := hqr.cell 2
  clear hQ hqr hb1 ho1 hsi hW hkp HCW HSS
  go_wp2_with fail
  refine cWk.mono ?_
  rintro e w2 ⟨v2, rfl, ho2, hb2⟩
  have HB2 := Lib.hid hb2
  have HO2 := Lib.hid ho2
  clear q0 q1 q2 cWk hb2 ho2
  go_wp2_with fail
  go_loopw [10, 11] (fun v i wr => ∃ (j : Nat) (out : List Int), i = .int .i64 (j : Int) ∧ j ≤ weak.length ∧ kp j = out ∧ wr.ownsRow w1.heap.size 3 1 v out.length (ints out) ∧ Below w1.heap.size w1 wr) (fun _ i _ => weak.length - (intOf i).toNat)
  case atStart => exact ⟨0, W, rfl, Nat.zero_le _, HK0.out, HO2.out, HB2.out⟩
  case round =>
   obtain ⟨j, out, rfl, hj, hkj, hown, hbr⟩ := hrel
   have HOWN := Lib.hid hown
   have HBR := Lib.hid hbr
   have hbs := hbr.size
   have holn := HKL.out j hj
   rw [hkj] at holn
   obtain ⟨A0, c0, rfl, hac⟩ := own_shape hown
   have HBB := Lib.hid (HB1.out.trans (hbr.mono hbw1))
   have hqr := HQ.out.below HBB.out HQ.out.lt
   by_cases hlt : j < weak.length
   ·obtain ⟨b2, o2, rfl, hbl, hcc⟩ := (HWK.out.below HBB.out).get hlt
    have t1 : weak[j]? = some weak[j] := List.getElem?_eq_getElem hlt
    have e1 : wr.cell? ⟨b2, o2 + j, none⟩ = some (.int .u64 weak[j]) := hcc j _ (wds_get t1)
    have hxu := HWU.out weak[j] (List.getElem_mem hlt)
    have hkt := HKS.out j _ t1
    rw [hkj] at hkt
    have HKT := Lib.hid hkt
    have hcj : j < cw := by omega
    have hjI : (j : Int) < (weak.length : Int) := by omega
    generalize weak[j] = x at e1 hxu HKT t1 hkt
    have q0 : wr.cell? ⟨w.heap.size, 0, none⟩ = some (.int .i64 s.base) := hqr.cell 0
    have q1 : wr.cell? ⟨w.heap.size, 1, none⟩ = some (.int .i64 s.limit) := hqr.cell 1
    have q2 : wr.cell? ⟨w.heap.size, 2, none⟩ = some (.slice A s.ws.length c) := hqr.cell 2
    have k0 := cell_regrown q0
    have k1 := cell_regrown q1
    have k2 := cell_regrown q2
    have k3 := cell_regrown e1
    have hBs := HBB.out.size
    have cR := fun dd os => Calls.regrown_of (w := wr) (HCR.out _ (HBB.out.trans ((below_regrown wr dd os).mono hBs)) _ hxu)
    obtain ⟨o, ho⟩ : ∃ o, o = m.rfr x := ⟨_, rfl⟩
    rw [← ho] at cR HKT
    obtain ⟨ad, ok, bd, hq, hov⟩ : ∃ (ad : Int) (ok bd : Bool), rfsV o = .tuple #[.int .i64 ad, .bool ok, .bool bd] ∧ ((ok = true ∧ o = some (some ad)) ∨ (ok = false ∧ ∀ a, o ≠ some (some a))) := by
     rcases o with _ | _ | a
     ·exact ⟨0, false, true, rfl, .inr ⟨rfl, fun a e => by cases e⟩⟩
     ·exact ⟨0, false, false, rfl, .inr ⟨rfl, fun a e => by cases e⟩⟩
     ·exact ⟨a, true, false, rfl, .inl ⟨rfl, rfl⟩⟩
    rw [hq] at cR
    have HOV := Lib.hid hov
    clear hown hbr hcc hqr ho hq hov hxu t1 hkt hkj hbl
    go_upto_region 8 with fail
    refine wp_region_quiet_below (by kernel_rfl) (by kernel_rfl) ?_
    repeat (first | go_big_quiet_step ((go_at_call 28; exact cR _ _)) | quiet_step ((go_at_call 28; exact cR _ _)))
    refine wpQuiet_nil ?_
    intro w7 hw'
    have hb7 := quiet_below_one hw'
    have HB7 := Lib.hid (HBR.out.trans (hb7.mono hbs))
    have HBB7 := Lib.hid (HBB.out.trans (hb7.mono hBs))
    have HO7 := Lib.hid (own_local HOWN.out (w' := w7) fun k hk => hb7.block k (HOWN.out.lt k hk).2)
    have hqr := HQ.out.below HBB7.out HQ.out.lt
    clear hw' hb7 cR k0 k1 k2 k3 q0 q1 q2 e1 HOWN HBR HBB
    have q0 : w7.cell? ⟨w.heap.size, 0, none⟩ = some (.int .i64 s.base) := hqr.cell 0
    have q1 : w7.cell? ⟨w.heap.size, 1, none⟩ = some (.int .i64 s.limit) := hqr.cell 1
    have q2 : w7.cell? ⟨w.heap.size, 2, none⟩ = some (.slice A s.ws.length c) := hqr.cell 2
    have cM := HCM.out _ HBB7.out
    clear hqr
    go_wp2_with fail
    refine cM.mono ?_
    rintro e w8 ⟨rfl, hb8⟩
    have HB8 := Lib.hid (HB7.out.trans (hb8.mono HB7.out.size))
    have HBB8 := Lib.hid (HBB7.out.trans (hb8.mono HBB7.out.size))
    have HO8 := Lib.hid (own_local HO7.out (w' := w8) fun k hk => hb8.block k (HO7.out.lt k hk).2)
    have cH := HCH.out _ HBB8.out ad
    obtain ⟨er, hd2, hhd2⟩ : ∃ er hd2, m.hdr ad = (er, hd2) := ⟨_, _, rfl⟩
    rw [hhd2] at cH
    dsimp only at cH
    have HH2 := Lib.hid hhd2
    clear hb8 cM hhd2 q0 q1 q2 HB7 HBB7 HO7
    go_wp2_with fail
    refine cH.mono ?_
    rintro e w9 ⟨rfl, hb9⟩
    have HB9 := Lib.hid (HB8.out.trans (hb9.mono HB8.out.size))
    have HO9 := Lib.hid (own_local HO8.out (w' := w9) fun k hk => hb9.block k (HO8.out.lt k hk).2)
    clear hb9 cH HB8 HBB8 HO8
    go_upto_region 10 with fail
    have hbx : Below w9.heap.size w9 (w9.alloc (.cells #[.int .i64 hd2.k, .int .i64 hd2.c, .int .i64 hd2.f] 55)) := (Below.refl _ _).alloc (Nat.le_refl _) _
    have HBX := Lib.hid (HB9.out.trans (hbx.mono HB9.out.size))
    have HOX := Lib.hid (own_local HO9.out (w' := w9.alloc (.cells #[.int .i64 hd2.k, .int .i64 hd2.c, .int .i64 hd2.f] 55)) fun k hk => hbx.block k (HO9.out.lt k hk).2)
    have HX2 : Hid (Bk (w9.alloc (.cells #[.int .i64 hd2.k, .int .i64 hd2.c, .int .i64 hd2.f] 55)) w9.heap.size 55 #[.int .i64 hd2.k, .int .i64 hd2.c, .int .i64 hd2.f]) := Lib.hid (Bk.new _ _ _)
    clear hbx HB9 HO9
    generalize w9.alloc (.cells #[.int .i64 hd2.k, .int .i64 hd2.c, .int .i64 hd2.f] 55) = wx at *
    generalize w9.heap.size = gx at *
    have x0 : wx.cell? ⟨gx, 0, none⟩ = some (.int .i64 hd2.k) := HX2.out.cell 0
    have hsx := HBX.out.size
    have cS := R11Has_any (HST.out.below HBX.out) (by omega) ad
    have hIO : IS wx out A0 c0 := ⟨own_sl HOX.out, hac⟩
    have cO := R11Has_any hIO (by omega) ad
    clear hIO
    rcases HOV.out with ⟨hok, hoa⟩ | ⟨hok, hoa⟩
    ·subst hok
     have HWB : Hid (m.kpW st out o = if st.contains ad = false ∧ out.contains ad = false ∧ hd2.k = 3 then out ++ [ad] else out) := Lib.hid (by
      rw [hoa]
      unfold Mm.kpW Mm.keepW
      dsimp only
      rw [HH2.out])
     clear hoa
     by_cases hk3 : hd2.k = 3
     ·have hkb3 : (hd2.k == 3) = true := by simp [hk3]
      cases hc1 : st.contains ad with
      | true =>
       rw [hc1] at cS
       have HW2 : Hid (m.kpW st out o = out) := Lib.hid (by rw [HWB.out, if_neg (by rw [hc1]; simp)])
       clear hk3 hc1
       go_wp2_with (first | (go_at_call 21; (with_reducible refine cS.mono ?_); rintro e wy ⟨rfl, rfl⟩) | (go_at_call 21; (with_reducible refine cO.mono ?_); rintro e wy ⟨rfl, rfl⟩))
       go_roundw
       case rel => exact ⟨j + 1, out, by go_num, by omega, by rw [HKT.out, HW2.out], HOX.out, HBX.out⟩
       case measure => simp [intOf]; omega
      | false =>
       rw [hc1] at cS
       cases hc2' : out.contains ad with
       | true =>
        rw [hc2'] at cO
        have HW2 : Hid (m.kpW st out o = out) := Lib.hid (by rw [HWB.out, if_neg (by rw [hc2']; simp)])
        clear hk3 hc1 hc2'
        go_wp2_with (first | (go_at_call 21; (with_reducible refine cS.mono ?_); rintro e wy ⟨rfl, rfl⟩) | (go_at_call 21; (with_reducible refine cO.mono ?_); rintro e wy ⟨rfl, rfl⟩))
        go_roundw
        case rel => exact ⟨j + 1, out, by go_num, by omega, by rw [HKT.out, HW2.out], HOX.out, HBX.out⟩
        case measure => simp [intOf]; omega
       | false =>
        rw [hc2'] at cO
        have HW2 : Hid (m.kpW st out o = out ++ [ad]) := Lib.hid (by rw [HWB.out, if_pos ⟨hc1, hc2', hk3⟩])
        obtain ⟨i0, hi, hz0, hz1, hz2⟩ := info_parts Tryz.infoI1
        have HI := Lib.hid (And.intro hi (And.intro hz0 (And.intro hz1 hz2)))
        clear hk3 hc1 hc2' hi hz0 hz1 hz2
        go_wp2_with (first | (go_at_call 21; (with_reducible refine cS.mono ?_); rintro e wy ⟨rfl, rfl⟩) | (go_at_call 21; (with_reducible refine cO.mono ?_); rintro e wy ⟨rfl, rfl⟩) | (at_builtin; refine wpList_append_own_at _ rfl (.tmp 69) (.tmp 71) 23 rfl w1.heap.size 3 i0 (.int .i64 0) 1 8 Tryz.underlying23 HI.out.1 HI.out.2.1 HI.out.2.2.1 HI.out.2.2.2 rfl (by decide) _ out.length _ rfl (HOX.out.alloc _) ⟨wx.heap.size, 0, none⟩ 1 1 [.int .i64 ad] rfl rfl (cell_one_new _ _ _) (by simp [Value.oneCell']) (by unfold maxLen; omega) (by omega) (by simp; omega) ?_; intro v' wz hown3 hg3 _ hloc; have HOWN3 := Lib.hid hown3; have HG3 := Lib.hid hg3; clear hown3 hg3 hloc))
        go_roundw
        case rel =>
         refine ⟨j + 1, out ++ [ad], by go_num, by omega, by rw [HKT.out, HW2.out], ?_, ?_⟩
         ·rw [List.length_append, List.length_singleton, show ints (out ++ [ad]) = ints out ++ [.int .i64 ad] by simp [ints]]
          exact HOWN3.out
         ·exact (HBX.out.alloc (by omega) _).grown HG3.out (by simp; omega) (fun k hk => (HOX.out.lt k hk).1)
        case measure => simp [intOf]; omega
     ·have hkb3 : (hd2.k == 3) = false := by simp [hk3]
      have HW2 : Hid (m.kpW st out o = out) := Lib.hid (by rw [HWB.out, if_neg (fun e => hk3 e.2.2)])
      clear hk3
      go_wp2_with fail
      go_roundw
      case rel => exact ⟨j + 1, out, by go_num, by omega, by rw [HKT.out, HW2.out], HOX.out, HBX.out⟩
      case measure => simp [intOf]; omega
    ·subst hok
     have HW2 : Hid (m.kpW st out o = out) := Lib.hid (by
      unfold Mm.kpW
      split
      ·rename_i a; exact absurd rfl (hoa a)
      ·rfl)
     clear hoa
     go_wp2_with fail
     go_roundw
     case rel => exact ⟨j + 1, out, by go_num, by omega, by rw [HKT.out, HW2.out], HOX.out, HBX.out⟩
     case measure => simp [intOf]; omega
   ·have hjI : ¬ (j : Int) < (weak.length : Int) := by omega
    obtain rfl : j = weak.length := by omega
    have cSo := Sorted_any (HST.out.below hbr) (⟨own_sl hown, hac⟩ : IS wr out A0 c0) (by omega) (by omega)
    have HKJ := Lib.hid hkj
    clear hbr hown hqr hkj
    go_wp2_with fail
    refine cSo.mono ?_
    rintro e w5 ⟨v5, rfl, ho5, hb5⟩
    have HO5 := Lib.hid ho5
    have HB5 := Lib.hid hb5
    clear cSo ho5 hb5
    go_wp2_with fail
    refine HE.out _ _ (HB.out.trans ((HBB.out.trans (HB5.out.mono HBB.out.size)).mono hbs0)) ?_
    rw [HKJ.out]
    exact ownBase HO5.out (Nat.le_trans hbs0 HBB.out.size)
end
end Go.Proofs.YtjpaogapclfajaaGreat
