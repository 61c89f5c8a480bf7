/- A young reference that is stored into an old object is found until another value is stored there. -/
import Derived.Test.YtaecdpijpdfboaaGreatBarP
namespace Go.Proofs.YtaecdpijpdfboaaGreat
set_option linter.unusedVariables false
set_option linter.unusedSimpArgs false
set_option linter.unusedSectionVars false
open Go.RowKit

structure FindI (s : St) : Prop where
  ok : s.m.Ok
  til : s.m.old.walk.2 = s.m.old.ws.length
  mem : ∀ x ∈ s.xs, x < 16777216 → x ∈ s.m.old.objs
theorem FindI.new : FindI St.new := ⟨Mm.new_ok 400, rfl, fun x hx => by cases hx⟩
theorem Mm.alloc_old (m : Mm) (y : Bool) (hd : Hdr) (i : Id) : (m.alloc y hd i).2.1.old = if y = true then m.old else (m.old.alloc hd i).2.1 := by
  unfold Mm.alloc
  split <;> rfl
theorem FindI.alloc {s : St} (h : FindI s) (y : Bool) (hd : Hdr) : FindI (s.alloc y hd) := by
  unfold St.alloc
  split
  · rename_i he
    cases y with
    | true =>
      refine ⟨h.ok.alloc _ _ _, h.til, fun x hx hlt => ?_⟩
      rcases List.mem_append.1 hx with hx | hx
      · exact h.mem x hx hlt
      · have hx := List.mem_singleton.1 hx
        unfold Mm.alloc at hx he
        rw [if_pos rfl] at hx he
        rcases s.m.yng.alloc_cases hd ⟨1, 1 + s.xs.length⟩ with h1 | ⟨_, _, _, h1⟩
        · exact absurd he h1.1
        · rw [h1] at hx
          have := h.ok.yb
          simp only [Spc.top] at hx
          omega
    | false =>
      unfold Mm.alloc at he
      rw [if_neg (by decide)] at he
      rcases s.m.old.alloc_cases hd ⟨1, 1 + s.xs.length⟩ with h1 | ⟨hv, hi, hl, h1⟩
      · exact absurd he h1.1
      · have hm : (s.m.alloc false hd ⟨1, 1 + s.xs.length⟩) = (0, { s.m with old := { s.m.old with ws := s.m.old.ws ++ ([eH hd, eI ⟨1, 1 + s.xs.length⟩] ++ List.replicate (wH hd - 2).toNat 0) } }, s.m.old.top) := by
          unfold Mm.alloc; rw [if_neg (by decide), h1]
        have hok := h.ok.alloc false hd ⟨1, 1 + s.xs.length⟩
        rw [hm] at hok ⊢
        have hw := Spc.walk_grown h.til hv hi
        have hb := wH_ge hv
        refine ⟨hok, ?_, fun x hx hlt => ?_⟩
        · show Prod.snd (Spc.walk { s.m.old with ws := s.m.old.ws ++ ([eH hd, eI ⟨1, 1 + s.xs.length⟩] ++ List.replicate (wH hd - 2).toNat 0) }) = _
          rw [hw]
          simp only [List.length_append, List.length_cons, List.length_nil, List.length_replicate]
          omega
        · show x ∈ Spc.objs { s.m.old with ws := s.m.old.ws ++ ([eH hd, eI ⟨1, 1 + s.xs.length⟩] ++ List.replicate (wH hd - 2).toNat 0) }
          unfold Spc.objs
          rw [hw, List.map_append, List.mem_append]
          rcases List.mem_append.1 hx with hx | hx
          · exact .inl (h.mem x hx hlt)
          · exact .inr (by simpa [Spc.top] using hx)
  · exact h
theorem Spc.put_off {s : Spc} {a : Int} (h : s.has a = false) (x : Int) : s.put a x = s := by unfold Spc.put; rw [if_neg (by rw [h]; simp)]
theorem Spc.hdr_put (s : Spc) {a b : Int} (h1 : b ≠ a) (h2 : b ≠ a + 1) (x : Int) : (s.put b x).hdr a = s.hdr a := by
  unfold Spc.hdr
  rw [Spc.put_at, if_neg (fun h => h1 h.2.symm), Spc.put_at, if_neg (fun h => h2 h.2.symm)]
  simp only [Spc.put_has]
theorem Mm.put_old_at (m : Mm) (a x b : Int) : (m.put a x).old.at_ b = (m.old.put a x).at_ b := by rw [Mm.put_old]
theorem Mm.Ok.objs_put {m : Mm} (h : m.Ok) {a i : Int} (ha : a ∈ m.old.objs) (he : m.fldE a i = 0) (x : Int) : (m.put (a + 2 + i) x).old.walk = m.old.walk ∧ (m.put (a + 2 + i) x).hdr a = m.hdr a ∧ (m.put (a + 2 + i) x).at_ (a + 2 + i) = some x := by
  obtain ⟨h1, h2, h3, h4⟩ := Mm.fldE_ok he
  obtain ⟨t, rfl, g1, g2, g3, g4, g5⟩ := h.objs ha
  have h5 := (wH_ge (Mm.hdr_valid h1)).2
  obtain ⟨h6, h7, h8⟩ := h.fld_has he
  obtain ⟨j, rfl⟩ : ∃ j : Nat, i = j := ⟨i.toNat, by omega⟩
  refine ⟨?_, ?_, ?_⟩
  · rw [Mm.put_old]
    have := Spc.walk_put (s := m.old) g1 (i := 2 + j) (by omega) (by omega) x
    rw [h.ob] at this
    rw [show (0 : Int) + (t : Int) + ((2 + j : Nat) : Int) = (t : Int) + 2 + (j : Int) by omega] at this
    exact this
  · unfold Mm.hdr Mm.sp
    rw [Mm.put_old, Spc.put_has, if_pos g3, if_pos g3]
    exact Spc.hdr_put _ (by omega) (by omega) _
  · rw [g3] at h8
    unfold Mm.at_ Mm.sp
    rw [Mm.put_old, Spc.put_has, if_pos h8, Spc.put_at, if_pos ⟨h8, rfl⟩]
theorem Mm.fldE_congr {m m' : Mm} {a : Int} (h : m'.hdr a = m.hdr a) (i : Int) : m'.fldE a i = m.fldE a i := by unfold Mm.fldE; rw [h]
theorem bst_ok {m : Mm} (h : m.Ok) (cs : List Int) {a i x : Int} (he : m.fldE a i = 0) : (bst m cs a i x).1 = 0 ∧ (bst m cs a i x).2.1 = m.put (a + 2 + i) x ∧ (m.old.has a = true → ygW x = true → cardIn (bst m cs a i x).2.2 (a + 2 + i) = true) := by
  unfold bst
  rw [if_neg (by simp [he])]
  obtain ⟨h1, h2, h3⟩ := h.fld_has he
  by_cases ho : m.old.has a = true ∧ ygW x = true
  · rw [if_pos ho]
    rw [ho.1] at h3
    have hb : oldB (a + 2 + i) = true := by unfold oldB; exact decide_eq_true (h.old_lt h3)
    refine ⟨?_, rfl, fun _ _ => cardIn_mark_self _ hb⟩
    unfold cardMark
    rw [if_neg (by rw [hb]; simp)]
    split <;> rfl
  · rw [if_neg ho]
    exact ⟨rfl, rfl, fun h4 h5 => absurd ⟨h4, h5⟩ ho⟩
theorem FindI.bst {s : St} (h : FindI s) {a : Int} (ha : a = -1 ∨ a ∈ s.xs) (i : Int) {x : Int} (hx : U64 x) : FindI ⟨(bst s.m s.cs a i x).2.1, (bst s.m s.cs a i x).2.2, s.xs⟩ := by
  by_cases he : s.m.fldE a i = 0
  · have h1 := (bst_ok h.ok s.cs (x := x) he).2.1
    rw [h1]
    obtain ⟨h2, h3, h4⟩ := h.ok.fld_has he
    by_cases ho : s.m.old.has a = true
    · have h5 := h.ok.old_lt ho
      have h6 : a ∈ s.m.old.objs := by
        rcases ha with rfl | ha
        · omega
        · exact h.mem a ha h5.2
      have h7 := (h.ok.objs_put h6 he x).1
      refine ⟨h.ok.put _ hx, ?_, fun y hy hlt => ?_⟩
      · show (s.m.put _ x).old.walk.2 = _
        rw [h7, Mm.put_old, Spc.put_len]; exact h.til
      · have := h.mem y hy hlt
        show y ∈ (s.m.put _ x).old.objs
        unfold Spc.objs at this ⊢
        rw [h7, Mm.put_old, Spc.put_base]
        exact this
    · have h5 : (s.m.put (a + 2 + i) x).old = s.m.old := by rw [Mm.put_old]; exact Spc.put_off (by rw [h4]; simpa using ho) x
      refine ⟨h.ok.put _ hx, ?_, fun y hy hlt => ?_⟩
      · show (s.m.put _ x).old.walk.2 = (s.m.put _ x).old.ws.length
        rw [h5]; exact h.til
      · show y ∈ (s.m.put _ x).old.objs
        rw [h5]; exact h.mem y hy hlt
  · have : Go.Proofs.YtaecdpijpdfboaaGreat.bst s.m s.cs a i x = (s.m.fldE a i, s.m, s.cs) := by unfold Go.Proofs.YtaecdpijpdfboaaGreat.bst; rw [if_pos he]
    rw [this]; exact h
theorem FindI.step {s : St} (h : FindI s) {o : OpV} (hk : o.k ≤ 2) (h0 : 0 ≤ o.k) (hw : U64 o.w) : FindI (s.step o) := by
  unfold St.step
  rcases (show o.k = 0 ∨ o.k = 1 ∨ o.k = 2 by omega) with e | e | e
  · rw [if_pos e]; exact h.alloc _ _
  · rw [if_neg (by omega), if_pos e]; exact h.alloc _ _
  · rw [if_neg (by omega), if_neg (by omega), if_pos e]
    exact h.bst (objAt_or _ _) _ (OpV.word_u hw s)
theorem FindI.play : ∀ {l : List OpV} {s : St}, FindI s → opsOk l → FindI (s.play 2 l)
  | [], s, h, _ => h
  | o :: l, s, h, hl => by
    have ho := hl o (List.mem_cons_self ..)
    refine FindI.play (l := l) (s := if o.k ≤ 2 then s.step o else s) ?_ fun p hp => hl p (List.mem_cons_of_mem _ hp)
    split
    · exact h.step (by assumption) ho.1 ho.2
    · exact h
/-- a store into an old object: the slot is remembered exactly if the value is a young reference -/
theorem bst_found {m : Mm} (hm : m.Ok) (cs : List Int) {a i x : Int} (ha : a ∈ m.old.objs) (he : m.fldE a i = 0) (hx : U64 x) : (bst m cs a i x).1 = 0 ∧ (bst m cs a i x).2.1.Ok ∧ a ∈ (bst m cs a i x).2.1.old.objs ∧ (bst m cs a i x).2.1.fldE a i = 0 ∧ ((a + 2 + i ∈ (bst m cs a i x).2.1.crossing (cardIn (bst m cs a i x).2.2)) ↔ ygW x = true) := by
  obtain ⟨b1, b2, b3⟩ := bst_ok hm cs (x := x) he
  obtain ⟨c1, c2, c3⟩ := hm.objs_put ha he x
  obtain ⟨t, rfl, g1, g2, g3, g4, g5⟩ := hm.objs ha
  obtain ⟨h1, h2, h3, h4⟩ := Mm.fldE_ok he
  refine ⟨b1, by rw [b2]; exact hm.put _ hx, ?_, by rw [b2, Mm.fldE_congr c2]; exact he, ?_⟩
  · rw [b2]
    unfold Spc.objs at ha ⊢
    rw [c1, Mm.put_old, Spc.put_base]
    exact ha
  · rw [Mm.crossing_mem]
    constructor
    · rintro ⟨a', ha', j, hj, e, y, hy, hyy, _⟩
      rw [b2, c3] at hy
      cases hy
      exact hyy
    · intro hy
      refine ⟨t, ?_, i.toNat, ?_, by omega, x, by rw [b2]; exact c3, hy, b3 g3 hy⟩
      · rw [b2]
        unfold Spc.objs at ha ⊢
        rw [c1, Mm.put_old, Spc.put_base]
        exact ha
      · rw [b2, c2]
        unfold slotN
        rw [if_neg h2.1, if_neg h2.2]
        omega
/-! ### how many -/
theorem Spc.walkN_len (s : Spc) : ∀ f i, (s.walkN f i).1.length ≤ f
  | 0, i => Nat.le_refl _
  | f + 1, i => by
    unfold Spc.walkN
    split
    · exact Nat.zero_le _
    · exact Nat.succ_le_succ (Spc.walkN_len s f _)
theorem slotN_31 {m : Mm} (a : Int) : (slotN (m.hdr a).2).toNat ≤ 31 := by
  by_cases h : (m.hdr a).1 = 0
  · have := vH_bound (Mm.hdr_valid h)
    unfold slotN
    split
    · omega
    · split <;> omega
  · rw [Mm.hdr_zero h]
    decide
theorem flatMap_len {α β : Type} (f : α → List β) (c : Nat) : ∀ l : List α, (∀ a ∈ l, (f a).length ≤ c) → (l.flatMap f).length ≤ l.length * c
  | [], _ => by simp
  | a :: l, h => by
    rw [List.flatMap_cons, List.length_append, List.length_cons, Nat.succ_mul]
    have h1 := h a (List.mem_cons_self ..)
    have h2 := flatMap_len f c l fun b hb => h b (List.mem_cons_of_mem _ hb)
    omega
theorem Mm.Ok.crossing_len {m : Mm} (h : m.Ok) (p : Int → Bool) : (m.crossing p).length ≤ 140737488355328 := by
  unfold Mm.crossing
  rw [List.length_map]
  refine Nat.le_trans (List.length_filter_le _ _) ?_
  unfold Mm.slots
  have h1 := flatMap_len m.slotsAt 31 m.old.objs fun a _ => by
    unfold Mm.slotsAt
    refine Nat.le_trans (List.length_filterMap_le _ _) ?_
    simp only [List.length_map, List.length_range]
    exact slotN_31 a
  have h2 : m.old.objs.length ≤ m.old.ws.length := by
    unfold Spc.objs Spc.walk
    rw [List.length_map]
    exact Spc.walkN_len _ _ _
  have h3 := h.o.lim
  have h4 := h.o.l0
  have h5 := h.o.b0
  omega
end Go.Proofs.YtaecdpijpdfboaaGreat
