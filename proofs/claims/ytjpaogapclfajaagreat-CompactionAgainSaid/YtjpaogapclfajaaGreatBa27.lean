/- Parts of the proof: CmpQ, R12p, CmpT. -/
import Derived.Test.YtjpaogapclfajaaGreatBa26
set_option linter.unusedVariables false
set_option linter.unusedSimpArgs false
set_option linter.unusedSectionVars false
namespace Go.Proofs.YtjpaogapclfajaaGreat
open Go.RowKit
section
variable {s : Spc} {b : Int} {ms : List Int}
theorem Spc.Obj.word {s : Spc} {a : Int} (h : s.Obj a) {k : Int} (h0 : 0 ≤ k) (h1 : k < wH ((Mm.one s).hdr a).2) : ∃ y, s.at_ (a + k) = some y := by
 have h2 := h.lo
 have h3 := h.hi
 unfold Spc.top at h3
 obtain ⟨i, _, _, y, _, hy⟩ := Spc.at_some (s := s) (a := a + k) (Spc.has_iff.2 ⟨by omega, by omega⟩)
 exact ⟨y, hy⟩
theorem Spc.Obj.vals {s : Spc} {a : Int} (h : s.Obj a) : ∃ x v, s.at_ a = some x ∧ dH x = some ((Mm.one s).hdr a).2 ∧ s.at_ (a + 1) = some v ∧ dI v ≠ Id.zero := by
 obtain ⟨x, v, h1, h2, h3, h4, _⟩ := Spc.hdr_ok (s := (Mm.one s).sp a) (a := a) h.ok
 have hw := (wH_ge (Mm.hdr_valid h.ok)).1
 obtain ⟨x', hx'⟩ := h.word (k := 0) (by omega) (by omega)
 obtain ⟨v', hv'⟩ := h.word (k := 1) (by omega) (by omega)
 have hh : s.has a = true := by rw [show a = a + 0 by omega]; exact Spc.at_has hx'
 have e : (Mm.one s).sp a = s := by
  unfold Mm.sp Mm.one
  dsimp only
  rw [if_pos hh]
 rw [e] at h1 h3
 exact ⟨x, v, h1, h2, h3, h4⟩
theorem Spc.Obj.id {s : Spc} {a v : Int} (h : s.Obj a) (hv : s.at_ (a + 1) = some v) : (Mm.one s).idOf a = dI v ∧ vI (dI v) = true := by
 obtain ⟨_, v', _, _, h3, h4⟩ := h.vals
 rw [hv] at h3
 cases h3
 refine ⟨?_, dI_ne h4⟩
 unfold Mm.idOf
 rw [Mm.one_at, hv]
 rfl
theorem Spc.Obj.pay {s : Spc} {a y : Int} (h : s.Obj a) {k : Nat} (hk : (k : Int) + 2 < wH ((Mm.one s).hdr a).2) (hy : s.at_ (a + (2 + (k : Int))) = some y) : ((Mm.one s).pay a)[k]? = some y := by
 unfold Mm.pay
 rw [List.getElem?_map, List.getElem?_range (by omega)]
 simp only [Option.map_some]
 rw [Mm.one_at, show a + 2 + (k : Int) = a + (2 + (k : Int)) by omega, hy]
 rfl
theorem pay_u64 {s : Spc} (hu : ∀ x ∈ s.ws, U64 x) (a : Int) : ∀ x ∈ (Mm.one s).pay a, U64 x := fun x hx => by
 unfold Mm.pay at hx
 obtain ⟨k, _, rfl⟩ := List.mem_map.1 hx
 rw [Mm.one_at]
 cases ho : s.at_ (a + 2 + (k : Int)) with
 | none => exact (show U64 0 from ⟨by decide, by decide⟩)
 | some y =>
  obtain ⟨i, _, _, z, hz, h2⟩ := Spc.at_some (Spc.at_has ho)
  rw [ho] at h2
  cases h2
  exact hu _ (List.mem_of_getElem? hz)
theorem updP_len (m : Mm) (b : Int) (ms : List Int) (hd : Hdr) (xs : List Int) (hf : hd.f.toNat ≤ xs.length) : (updP m b ms hd xs).length = xs.length := by
 unfold updP
 split
 ·rfl
 ·simp; omega
theorem updP_u64 {m : Mm} {b : Int} {ms : List Int} {hd : Hdr} {xs : List Int} (hu : ∀ x ∈ xs, U64 x) : ∀ x ∈ updP m b ms hd xs, U64 x := fun x hx => by
 unfold updP at hx
 split at hx
 ·exact hu x hx
 ·rcases List.mem_append.1 hx with hx | hx
  ·obtain ⟨y, hy, rfl⟩ := List.mem_map.1 hx
   exact updW_u64 (hu y (List.mem_of_mem_take hy))
  ·exact hu x (List.mem_of_mem_drop hx)
/-- the moved objects of a list of addresses -/
def mvKey (x : Mv) : Hdr × Id × List Int := (x.h, x.i, x.p)
def mvFor (m : Mm) (b : Int) (ms : List Int) (a : Int) : Hdr × Id × List Int := ((m.hdr a).2, m.idOf a, m.payU b ms a)
theorem mv_words (m : Mm) (b : Int) (ms : List Int) : ∀ (L : List Mv) (l : List Int), L.map mvKey = l.map (mvFor m b ms) → L.flatMap Mv.words = l.flatMap (m.movd b ms)
 | [], [], _ => rfl
 | x :: L, a :: l, h => by
  simp only [List.map_cons, List.cons.injEq] at h
  rw [List.flatMap_cons, List.flatMap_cons, mv_words m b ms L l h.2]
  have h1 := h.1
  unfold mvKey mvFor at h1
  injection h1 with h1 h2
  injection h2 with h2 h3
  unfold Mv.words Mm.movd
  rw [h1, h2, h3]
 | [], _ :: _, h => by cases h
 | _ :: _, [], h => by cases h
theorem mv_ok {s : Spc} (hu : ∀ x ∈ s.ws, U64 x) {b : Int} {ms : List Int} {x : Mv} {a : Int} (ho : s.Obj a) (h : mvKey x = mvFor (Mm.one s) b ms a) : x.Ok := by
 unfold mvKey mvFor at h
 injection h with h1 h2
 injection h2 with h2 h3
 obtain ⟨_, v, _, _, hv, _⟩ := ho.vals
 have hi := ho.id hv
 have hw := wH_ge (Mm.hdr_valid ho.ok)
 have hl := payU_len (Mm.one s) b ms ho.ok
 refine ⟨by rw [h1]; exact Mm.hdr_valid ho.ok, by rw [h2, hi.1]; exact hi.2, by rw [h3, h1, hl]; omega, ?_⟩
 rw [h3, payU_eq]
 exact updP_u64 (pay_u64 hu a)
theorem mv_oks {s : Spc} (hu : ∀ x ∈ s.ws, U64 x) {b : Int} {ms : List Int} : ∀ (L : List Mv) (l : List Int), (∀ a ∈ l, s.Obj a) → L.map mvKey = l.map (mvFor (Mm.one s) b ms) → ∀ x ∈ L, x.Ok
 | [], [], _, _ => fun x hx => by cases hx
 | y :: L, a :: l, ho, h => fun x hx => by
  simp only [List.map_cons, List.cons.injEq] at h
  rcases List.mem_cons.1 hx with rfl | hx
  ·exact mv_ok hu (ho a (List.mem_cons_self ..)) h.1
  ·exact mv_oks hu L l (fun a ha => ho a (List.mem_cons_of_mem _ ha)) h.2 x hx
 | [], _ :: _, _, h => by cases h
 | _ :: _, [], _, h => by cases h
theorem movd_sum (m : Mm) (b : Int) (ms : List Int) : ∀ l : List Int, (∀ a ∈ l, (m.hdr a).1 = 0) → ((l.flatMap (m.movd b ms)).length : Int) = wSum m l
 | [], _ => rfl
 | a :: l, h => by
  have h1 := movd_len m b ms (h a (List.mem_cons_self ..))
  have h2 := movd_sum m b ms l fun x hx => h x (List.mem_cons_of_mem _ hx)
  rw [List.flatMap_cons, List.length_append, show wSum m (a :: l) = wH (m.hdr a).2 + wSum m l by simp [wSum]]
  omega
theorem updL_snoc (m : Mm) (b : Int) (ms : List Int) (x : Int) : ∀ l, m.updL b ms (l ++ [x]) = match m.updL b ms l, m.updW b ms x with | some t, some y => some (t ++ [y]) | _, _ => none
 | [] => by
  simp only [List.nil_append, Mm.updL]
  cases m.updW b ms x <;> rfl
 | z :: l => by
  rw [List.cons_append, Mm.updL, updL_snoc m b ms x l, Mm.updL]
  cases m.updW b ms z <;> cases m.updL b ms l <;> cases m.updW b ms x <;> rfl
theorem updL_none {m : Mm} {b : Int} {ms : List Int} {x : Int} (h : m.updW b ms x = none) : ∀ {l : List Int}, x ∈ l → m.updL b ms l = none
 | y :: l, hx => by
  rw [Mm.updL]
  rcases List.mem_cons.1 hx with rfl | hx
  ·rw [h]
  ·rw [updL_none h hx]
   cases m.updW b ms y <;> rfl
theorem updL_len {m : Mm} {b : Int} {ms : List Int} : ∀ {l out : List Int}, m.updL b ms l = some out → out.length = l.length
 | [], out, h => by cases h; rfl
 | x :: l, out, h => by
  rw [Mm.updL] at h
  split at h
  ·rename_i y t h1 h2
   cases h
   rw [List.length_cons, List.length_cons, updL_len h2]
  ·cases h
theorem plF_take {m : Mm} {b : Int} {ms : List Int} {j : Nat} {a : Int} (h : ms[j]? = some a) (x : Int) : updZ (fun z => if (ms.take j).contains z = true then some (newA m b ms z) else none) a (newA m b ms a) x = if (ms.take (j + 1)).contains x = true then some (newA m b ms x) else none := by
 unfold updZ
 rw [List.take_add_one, h]
 by_cases hx : x = a
 ·subst hx
  simp
 ·simp only [Option.toList_some, List.contains_eq_mem, List.mem_append, List.mem_singleton, hx, or_false, if_false]
end
end Go.Proofs.YtjpaogapclfajaaGreat
namespace Go.Proofs.YtjpaogapclfajaaGreat
open Go.RowKit
theorem dI_eq {v : Int} (hz : dI v ≠ Id.zero) : eI (dI v) = v := by
 have hi := dI_ne hz
 unfold dI at hz hi ⊢
 split at hz
 ·rename_i h
  rw [if_pos h]
  unfold eI
  dsimp only
  omega
 ·exact absurd rfl hz
/-- word k of an object, moved by the reference -/
def Mm.rwd (m : Mm) (b : Int) (ms : List Int) (a : Int) (k : Nat) : Int :=
 if 2 ≤ (k : Int) ∧ (k : Int) < 2 + (m.hdr a).2.f ∧ (m.hdr a).2.k ≠ 3 ∧ (m.hdr a).2.k ≠ 4 then (m.updW b ms ((m.at_ (a + (k : Int))).getD 0)).getD 0 else (m.at_ (a + (k : Int))).getD 0
def Mm.rmovd (m : Mm) (b : Int) (ms : List Int) (a : Int) : List Int := (List.range (wH (m.hdr a).2).toNat).map (m.rwd b ms a)
theorem Mm.updW_some {m : Mm} {b : Int} {ms : List Int} {x : Int} (h : m.rfr x ≠ none) : (m.updW b ms x).getD 0 = (m.updW b ms x).getD x := by
 unfold Mm.updW
 split
 ·rename_i h'; exact absurd h' h
 ·rfl
 ·rfl
theorem flds_get {m : Mm} {a : Int} {i : Nat} (h : (i : Int) < (m.hdr a).2.f) : (m.at_ (a + 2 + (i : Int))).getD 0 ∈ m.flds a := by
 unfold Mm.flds
 exact List.mem_map.2 ⟨i, List.mem_range.2 (by omega), rfl⟩
theorem rmovd_eq {s : Spc} {b : Int} {ms : List Int} {a : Int} (ho : s.Obj a) (hg : (∀ x ∈ (Mm.one s).flds a, (Mm.one s).rfr x ≠ none) ∨ ((Mm.one s).hdr a).2.k = 3) : (Mm.one s).rmovd b ms a = (Mm.one s).movd b ms a := by
 obtain ⟨x, v, hx, hdx, hv, hvz⟩ := ho.vals
 have hid := ho.id hv
 have hvh := Mm.hdr_valid ho.ok
 have hw := wH_ge hvh
 have hpl := pay_len (Mm.one s) a
 have hpu := payU_len (Mm.one s) b ms ho.ok
 refine List.ext_getElem? fun k => ?_
 unfold Mm.rmovd Mm.movd
 rw [List.getElem?_map]
 match k with
 | 0 =>
  rw [List.getElem?_range (by omega)]
  show some ((Mm.one s).rwd b ms a 0) = some (eH ((Mm.one s).hdr a).2)
  unfold Mm.rwd
  rw [if_neg (by omega), Mm.one_at, show a + ((0 : Nat) : Int) = a by omega, hx, (dH_some hdx).2]
  rfl
 | 1 =>
  rw [List.getElem?_range (by omega)]
  show some ((Mm.one s).rwd b ms a 1) = some (eI ((Mm.one s).idOf a))
  unfold Mm.rwd
  rw [if_neg (by omega), Mm.one_at, show a + ((1 : Nat) : Int) = a + 1 by omega, hv, hid.1, dI_eq hvz]
  rfl
 | k + 2 =>
  rw [List.getElem?_append_right (by simp), show k + 2 - [eH ((Mm.one s).hdr a).2, eI ((Mm.one s).idOf a)].length = k by simp]
  rcases Nat.lt_or_ge (k + 2) (wH ((Mm.one s).hdr a).2).toNat with hlt | hge
  ·rw [List.getElem?_range hlt]
   simp only [Option.map_some]
   have hpk : ((Mm.one s).pay a)[k]? = some (((Mm.one s).at_ (a + 2 + (k : Int))).getD 0) := by
    unfold Mm.pay
    rw [List.getElem?_map, List.getElem?_range (by omega)]
    rfl
   unfold Mm.rwd Mm.payU
   rw [show a + ((k + 2 : Nat) : Int) = a + 2 + (k : Int) by omega]
   by_cases h34 : ((Mm.one s).hdr a).2.k = 3 ∨ ((Mm.one s).hdr a).2.k = 4
   ·rw [if_neg (by omega), if_pos h34, hpk]
   ·rw [if_neg h34]
    have hgx := hg.resolve_right (fun e => h34 (.inl e))
    by_cases hf : (k : Int) < ((Mm.one s).hdr a).2.f
    ·rw [if_pos (by omega), List.getElem?_append_left (by simp; omega), List.getElem?_map, List.getElem?_take_of_lt (by omega), hpk]
     simp only [Option.map_some]
     rw [Mm.updW_some (hgx _ (flds_get hf))]
    ·rw [if_neg (by omega), List.getElem?_append_right (by simp; omega), List.getElem?_drop]
     rw [show ((Mm.one s).hdr a).2.f.toNat + (k - (List.map (fun x => ((Mm.one s).updW b ms x).getD x) (List.take ((Mm.one s).hdr a).2.f.toNat ((Mm.one s).pay a))).length) = k by simp; omega, hpk]
  ·rw [List.getElem?_eq_none (by simp; omega), List.getElem?_eq_none (by omega)]
   rfl
end Go.Proofs.YtjpaogapclfajaaGreat
namespace Go.Proofs.YtjpaogapclfajaaGreat
open Go.RowKit
theorem flat_split {α : Type} (f : Int → List α) {ms : List Int} {j : Nat} {a : Int} (h : ms[j]? = some a) : ms.flatMap f = (ms.take j).flatMap f ++ (f a ++ (ms.drop (j + 1)).flatMap f) := by
 obtain ⟨hj, he⟩ := List.getElem?_eq_some_iff.1 h
 conv => lhs; rw [← List.take_append_drop j ms, List.drop_eq_getElem_cons hj, he]
 rw [List.flatMap_append, List.flatMap_cons]
section
variable {s : Spc} {ms : List Int}
theorem Spc.Pl.ok (h : s.Pl ms) {a : Int} (ha : a ∈ ms) : ((Mm.one s).hdr a).1 = 0 := (Spc.objs_obj (h.ob a ha)).1.ok
theorem Spc.Pl.wk (h : s.Pl ms) {a : Int} (ha : a ∈ ms) : 4 ≤ wH ((Mm.one s).hdr a).2 ∧ ((Mm.one s).hdr a).2.f + 2 ≤ wH ((Mm.one s).hdr a).2 := wH_ge (Mm.hdr_valid (h.ok ha))
theorem cmp_len (h : s.Pl ms) : ((s.cmp ms).ws.length : Int) = wSum (Mm.one s) ms := movd_sum _ _ _ _ fun a ha => h.ok ha
theorem cmp_word (hP : s.Pl ms) {j : Nat} {a : Int} (h : ms[j]? = some a) {k : Nat} (hk : (k : Int) < wH ((Mm.one s).hdr a).2) : (s.cmp ms).ws[(wSum (Mm.one s) (ms.take j)).toNat + k]? = ((Mm.one s).movd s.base ms a)[k]? := by
 have h1 := movd_sum (Mm.one s) s.base ms (ms.take j) (fun x hx => hP.ok (List.mem_of_mem_take hx))
 have h2 := movd_len (Mm.one s) s.base ms (hP.ok (List.mem_of_getElem? h))
 unfold Spc.cmp
 dsimp only
 rw [flat_split _ h, List.getElem?_append_right (by omega), List.getElem?_append_left (by omega)]
 congr 1
 omega
theorem newA_idx (hP : s.Pl ms) {j : Nat} {a : Int} (h : ms[j]? = some a) : newA (Mm.one s) s.base ms a = s.base + wSum (Mm.one s) (ms.take j) := by
 unfold newA
 rw [idxOf_get hP.nd h]
theorem wSum_lt (hP : s.Pl ms) {j : Nat} {a : Int} (h : ms[j]? = some a) : wSum (Mm.one s) (ms.take j) + wH ((Mm.one s).hdr a).2 ≤ wSum (Mm.one s) ms := by
 have h1 := wSum_take_le (m := Mm.one s) (l := ms) (fun a ha => by have := hP.wk ha; omega) (j + 1)
 rw [wSum_take _ h] at h1
 exact h1
theorem newA_rg (hP : s.Pl ms) {a : Int} (ha : a ∈ ms) : s.base ≤ newA (Mm.one s) s.base ms a ∧ newA (Mm.one s) s.base ms a + wH ((Mm.one s).hdr a).2 ≤ s.base + wSum (Mm.one s) ms := by
 obtain ⟨j, hj⟩ := List.mem_iff_getElem?.1 ha
 have h1 := wSum_lt hP hj
 have h2 := (wSum_rg (Mm.one s) (ms.take j)).1
 rw [newA_idx hP hj]
 omega
theorem cmp_has (hP : s.Pl ms) {a : Int} (ha : a ∈ ms) {k : Int} (h0 : 0 ≤ k) (hk : k < wH ((Mm.one s).hdr a).2) : (s.cmp ms).has (newA (Mm.one s) s.base ms a + k) = true := by
 have h1 := newA_rg hP ha
 have h2 := cmp_len hP
 have hb : (s.cmp ms).base = s.base := rfl
 exact Spc.has_iff.2 ⟨by omega, by omega⟩
theorem cmp_at (hP : s.Pl ms) {a : Int} (ha : a ∈ ms) {k : Nat} (hk : (k : Int) < wH ((Mm.one s).hdr a).2) : (s.cmp ms).at_ (newA (Mm.one s) s.base ms a + (k : Int)) = ((Mm.one s).movd s.base ms a)[k]? := by
 have hh := cmp_has hP ha (k := (k : Int)) (by omega) hk
 obtain ⟨j, hj⟩ := List.mem_iff_getElem?.1 ha
 have h2 := (wSum_rg (Mm.one s) (ms.take j)).1
 unfold Spc.at_
 rw [if_pos hh, newA_idx hP hj]
 have hb : (s.cmp ms).base = s.base := rfl
 rw [hb, ← cmp_word hP hj hk]
 congr 1
 omega
theorem movd_zero (m : Mm) (b : Int) (ms : List Int) (a : Int) : (m.movd b ms a)[0]? = some (eH (m.hdr a).2) := rfl
theorem movd_one (m : Mm) (b : Int) (ms : List Int) (a : Int) : (m.movd b ms a)[1]? = some (eI (m.idOf a)) := rfl
theorem movd_pay (m : Mm) (b : Int) (ms : List Int) (a : Int) (k : Nat) : (m.movd b ms a)[k + 2]? = (m.payU b ms a)[k]? := rfl
theorem Spc.Pl.id (hP : s.Pl ms) {a : Int} (ha : a ∈ ms) : vI ((Mm.one s).idOf a) = true := by
 have ho := (Spc.objs_obj (hP.ob a ha)).1
 obtain ⟨_, v, _, _, hv, _⟩ := ho.vals
 have := ho.id hv
 rw [this.1]
 exact this.2
theorem vI_ne {i : Id} (h : vI i = true) : i ≠ Id.zero := fun e => by rw [e, vI_zero] at h; cases h
theorem cmp_hdr (hP : s.Pl ms) {a : Int} (ha : a ∈ ms) : (Mm.one (s.cmp ms)).hdr (newA (Mm.one s) s.base ms a) = (0, ((Mm.one s).hdr a).2) := by
 have hw := hP.wk ha
 have hv := Mm.hdr_valid (hP.ok ha)
 have hi := hP.id ha
 have h0 := cmp_at hP ha (k := 0) (by omega)
 have h1 := cmp_at hP ha (k := 1) (by omega)
 have hh := cmp_has hP ha (k := 0) (by omega) (by omega)
 have hz := cmp_has hP ha (k := wH ((Mm.one s).hdr a).2 - 1) (by omega) (by omega)
 rw [movd_zero] at h0
 rw [movd_one] at h1
 simp only [Int.add_zero, Int.natCast_zero] at h0 hh
 rw [Mm.one_hdr _ _ hh]
 unfold Spc.hdr
 rw [h0]
 dsimp only
 rw [dH_eH hv, show newA (Mm.one s) s.base ms a + 1 = newA (Mm.one s) s.base ms a + ((1 : Nat) : Int) by omega, h1]
 dsimp only
 rw [if_neg]
 rintro (h | h)
 ·rw [dI_eI hi] at h
  exact vI_ne hi h
 ·rw [show newA (Mm.one s) s.base ms a + wH ((Mm.one s).hdr a).2 - 1 = newA (Mm.one s) s.base ms a + (wH ((Mm.one s).hdr a).2 - 1) by omega, hz] at h
  cases h
theorem cmp_id (hP : s.Pl ms) {a : Int} (ha : a ∈ ms) : (Mm.one (s.cmp ms)).idOf (newA (Mm.one s) s.base ms a) = (Mm.one s).idOf a := by
 have hw := hP.wk ha
 have h1 := cmp_at hP ha (k := 1) (by omega)
 rw [movd_one] at h1
 unfold Mm.idOf
 rw [Mm.one_at, show newA (Mm.one s) s.base ms a + 1 = newA (Mm.one s) s.base ms a + ((1 : Nat) : Int) by omega, h1]
 exact dI_eI (hP.id ha)
theorem cmp_pay (hP : s.Pl ms) {a : Int} (ha : a ∈ ms) : (Mm.one (s.cmp ms)).pay (newA (Mm.one s) s.base ms a) = (Mm.one s).payU s.base ms a := by
 have hw := hP.wk ha
 have hl := payU_len (Mm.one s) s.base ms (hP.ok ha)
 refine List.ext_getElem? fun k => ?_
 unfold Mm.pay
 rw [cmp_hdr hP ha]
 dsimp only
 rw [List.getElem?_map]
 rcases Nat.lt_or_ge k (wH ((Mm.one s).hdr a).2 - 2).toNat with h | h
 ·have h1 := cmp_at hP ha (k := k + 2) (by omega)
  rw [movd_pay] at h1
  rw [List.getElem?_range h]
  simp only [Option.map_some]
  rw [Mm.one_at, show newA (Mm.one s) s.base ms a + 2 + (k : Int) = newA (Mm.one s) s.base ms a + ((k + 2 : Nat) : Int) by omega, h1]
  obtain ⟨y, hy⟩ : ∃ y, ((Mm.one s).payU s.base ms a)[k]? = some y := ⟨_, List.getElem?_eq_getElem (by omega)⟩
  rw [hy]
  rfl
 ·rw [List.getElem?_eq_none (by simpa using h), List.getElem?_eq_none (by omega)]
  rfl
theorem flds_pay (m : Mm) {a : Int} (h : (m.hdr a).1 = 0) : m.flds a = (m.pay a).take (m.hdr a).2.f.toNat := by
 have h1 := f_le_pay m h
 unfold Mm.flds Mm.pay
 rw [← List.map_take, List.take_range, Nat.min_eq_left h1]
/-- a word behind the compaction, as it stands -/
def Mm.upd (m : Mm) (b : Int) (ms : List Int) (x : Int) : Int := (m.updW b ms x).getD x
theorem cmp_flds (hP : s.Pl ms) {a : Int} (ha : a ∈ ms) (h3 : ((Mm.one s).hdr a).2.k ≠ 3) (h4 : ((Mm.one s).hdr a).2.k ≠ 4) : (Mm.one (s.cmp ms)).flds (newA (Mm.one s) s.base ms a) = ((Mm.one s).flds a).map ((Mm.one s).upd s.base ms) := by
 have hf := f_le_pay (Mm.one s) (hP.ok ha)
 have hl := pay_len (Mm.one s) a
 rw [flds_pay _ (by rw [cmp_hdr hP ha]), flds_pay _ (hP.ok ha), cmp_pay hP ha, cmp_hdr hP ha]
 dsimp only
 unfold Mm.payU
 rw [if_neg (by omega), List.take_append_of_le_length (by simp; omega), List.take_of_length_le (by rw [List.length_map, List.length_take]; omega)]
 rfl
theorem newA_inA (hP : s.Pl ms) (hb : s.base = 0) (hl : s.limit ≤ 16777216) (ho : s.Ok) {a : Int} (ha : a ∈ ms) : 0 ≤ newA (Mm.one s) s.base ms a ∧ newA (Mm.one s) s.base ms a < 16777216 ∧ frW (newA (Mm.one s) s.base ms a) = adW (newA (Mm.one s) s.base ms a) := by
 have h1 := newA_rg hP ha
 have h2 := hP.sum
 have h3 := ho.lim
 have h4 := (hP.wk ha).1
 unfold Spc.top at h2
 refine ⟨by omega, by omega, ?_⟩
 unfold frW inA
 rw [if_pos (decide_eq_true ⟨by omega, by omega⟩)]
theorem one_has_iff (s : Spc) (a : Int) : (Mm.one s).has a = s.has a := by
 unfold Mm.has Mm.sp Mm.one
 dsimp only
 by_cases h : s.has a = true
 ·rw [if_pos h]
 ·rw [if_neg h]
  have h1 : s.has a = false := by simpa using h
  rw [h1]
  unfold Spc.new Spc.has
  simp
theorem rfr_self {m : Mm} {a : Int} (h : (m.hdr a).1 = 0) (h4 : (m.hdr a).2.k ≠ 4) (h0 : 0 ≤ a) (h1 : a ≤ 4294967295) : m.resolve a = (a, 0) ∧ m.rfr (adW a) = some (some a) := by
 have hr : m.resolve a = (a, 0) := by
  unfold Mm.resolve
  rw [if_neg (by rw [Mm.hdr_has h]; simp)]
  unfold Mm.resN Mm.nxt
  rw [if_neg (by omega), if_pos h4]
 refine ⟨hr, ?_⟩
 unfold Mm.rfr
 rw [adr_adW h0 h1]
 dsimp only
 rw [hr, if_pos rfl]
theorem rfr_zero (m : Mm) : m.rfr 0 = some none := rfl
theorem rfr_adr {m : Mm} {x : Int} (h : m.rfr x = some none) : adr x = none := by
 unfold Mm.rfr at h
 split at h
 ·assumption
 ·split at h <;> cases h
theorem rfr_of_adr {m : Mm} {x : Int} (h : adr x = none) : m.rfr x = some none := by
 unfold Mm.rfr
 rw [h]
/-- the image of what a word refers to -/
def imgO (s : Spc) (ms : List Int) : Option Int → Option Int
 | none => none
 | some a => if ms.contains a = true then some (newA (Mm.one s) s.base ms a) else none
theorem cmp_rfr (hP : s.Pl ms) (hb : s.base = 0) (hl : s.limit ≤ 16777216) (ho : s.Ok) (hk : ∀ a ∈ ms, ((Mm.one s).hdr a).2.k ≠ 4) {x : Int} {o : Option Int} (hx : (Mm.one s).rfr x = some o) : (Mm.one (s.cmp ms)).rfr ((Mm.one s).upd s.base ms x) = some (imgO s ms o) := by
 unfold Mm.upd Mm.updW
 rw [hx]
 cases o with
 | none => exact rfr_of_adr (rfr_adr hx)
 | some a =>
  dsimp only [imgO, Option.getD_some]
  by_cases hc : ms.contains a = true
  ·rw [if_pos hc, if_pos hc]
   have ha : a ∈ ms := by simpa using hc
   obtain ⟨h0, h1, h2⟩ := newA_inA hP hb hl ho ha
   have hh := cmp_hdr hP ha
   rw [h2]
   exact (rfr_self (by rw [hh]) (by rw [hh]; exact hk a ha) h0 (by omega)).2
  ·rw [if_neg hc, if_neg hc]
   exact rfr_zero _
theorem cmp_size (hP : s.Pl ms) {j : Nat} {a : Int} (h : ms[j]? = some a) : ((s.cmp ms).size (wSum (Mm.one s) (ms.take j)).toNat : Int) = wH ((Mm.one s).hdr a).2 := by
 have ha := List.mem_of_getElem? h
 have hw := hP.wk ha
 have h0 := cmp_word hP h (k := 0) (by omega)
 have h1 := cmp_word hP h (k := 1) (by omega)
 rw [movd_zero, Nat.add_zero] at h0
 rw [movd_one] at h1
 have h2 := wSum_lt hP h
 have h3 := (wSum_rg (Mm.one s) (ms.take j)).1
 have h4 := cmp_len hP
 unfold Spc.size
 rw [h0, h1]
 dsimp only
 rw [dH_eH (Mm.hdr_valid (hP.ok ha))]
 dsimp only
 rw [if_pos ⟨by rw [dI_eI (hP.id ha)]; exact vI_ne (hP.id ha), by omega⟩]
 omega
theorem cmp_walk (hP : s.Pl ms) : ∀ d j, j + d = ms.length → ((s.cmp ms).walkFrom (wSum (Mm.one s) (ms.take j)).toNat).1.map (fun (i : Nat) => s.base + (i : Int)) = (newsL (Mm.one s) s.base ms).drop j ∧ ((s.cmp ms).walkFrom (wSum (Mm.one s) (ms.take j)).toNat).2 = (s.cmp ms).ws.length
 | 0, j, hj => by
  have hl := cmp_len hP
  have h0 := (s.cmp ms).size_le (wSum (Mm.one s) (ms.take j)).toNat
  rw [List.take_of_length_le (by omega)] at h0 ⊢
  rw [Spc.walkFrom_zero _ (by omega)]
  refine ⟨?_, by omega⟩
  rw [List.drop_eq_nil_of_le (by rw [newsL_len]; omega)]
  rfl
 | d + 1, j, hj => by
  have hlt : j < ms.length := by omega
  have t1 : ms[j]? = some ms[j] := List.getElem?_eq_getElem hlt
  have hs := cmp_size hP t1
  have hw := hP.wk (List.mem_of_getElem? t1)
  have h3 := (wSum_rg (Mm.one s) (ms.take j)).1
  have ih := cmp_walk hP d (j + 1) (by omega)
  rw [Spc.walkFrom_pos _ (by omega)]
  have e : (wSum (Mm.one s) (ms.take j)).toNat + (s.cmp ms).size (wSum (Mm.one s) (ms.take j)).toNat = (wSum (Mm.one s) (ms.take (j + 1))).toNat := by
   rw [wSum_take _ t1]
   omega
  rw [e]
  refine ⟨?_, ih.2⟩
  rw [List.map_cons, ih.1]
  have hn := newsL_get (m := Mm.one s) (b := s.base) hlt
  obtain ⟨hj2, he⟩ := List.getElem?_eq_some_iff.1 hn
  rw [List.drop_eq_getElem_cons hj2, he]
  congr 1
  omega
theorem cmp_objs (hP : s.Pl ms) : (s.cmp ms).objs = newsL (Mm.one s) s.base ms := by
 have := (cmp_walk hP ms.length 0 (by omega)).1
 rw [List.take_zero, wSum_nil, List.drop_zero] at this
 exact this
theorem cmp_walk2 (hP : s.Pl ms) : (s.cmp ms).walk.2 = (s.cmp ms).ws.length := by
 have := (cmp_walk hP ms.length 0 (by omega)).2
 rw [List.take_zero, wSum_nil] at this
 exact this
theorem cmp_top (hP : s.Pl ms) : (s.cmp ms).top = s.base + wSum (Mm.one s) ms := by
 have := cmp_len hP
 have hb : (s.cmp ms).base = s.base := rfl
 unfold Spc.top
 omega
theorem news_mem (hP : s.Pl ms) {b : Int} : b ∈ newsL (Mm.one s) s.base ms ↔ ∃ a ∈ ms, b = newA (Mm.one s) s.base ms a := by
 constructor
 ·intro h
  obtain ⟨j, hj⟩ := List.mem_iff_getElem?.1 h
  have hlt : j < ms.length := by rw [← newsL_len (Mm.one s) s.base ms]; exact (List.getElem?_eq_some_iff.1 hj).1
  have t1 : ms[j]? = some ms[j] := List.getElem?_eq_getElem hlt
  refine ⟨ms[j], List.getElem_mem hlt, ?_⟩
  rw [newA_get hP.nd t1] at hj
  exact (Option.some.inj hj).symm
 ·rintro ⟨a, ha, rfl⟩
  obtain ⟨j, hj⟩ := List.mem_iff_getElem?.1 ha
  exact List.mem_of_getElem? (newA_get hP.nd hj)
theorem news_inc (hP : s.Pl ms) : (newsL (Mm.one s) s.base ms).Pairwise (· < ·) := by
 rw [List.pairwise_iff_getElem]
 intro i j hi hj hij
 rw [newsL_len] at hi hj
 have ti : ms[i]? = some ms[i] := List.getElem?_eq_getElem hi
 have e1 := newsL_get (m := Mm.one s) (b := s.base) hi
 have e2 := newsL_get (m := Mm.one s) (b := s.base) hj
 rw [(List.getElem?_eq_some_iff.1 e1).2, (List.getElem?_eq_some_iff.1 e2).2]
 have hw := hP.wk (List.mem_of_getElem? ti)
 have h1 := wSum_take (Mm.one s) ti
 have h2 := wSum_take_le (m := Mm.one s) (l := ms.take j) (fun a ha => by have := hP.wk (List.mem_of_mem_take ha); omega) (i + 1)
 rw [List.take_take, Nat.min_eq_left (by omega)] at h2
 omega
theorem newA_inj (hP : s.Pl ms) {a a' : Int} (ha : a ∈ ms) (ha' : a' ∈ ms) (h : newA (Mm.one s) s.base ms a = newA (Mm.one s) s.base ms a') : a = a' := by
 obtain ⟨i, hi⟩ := List.mem_iff_getElem?.1 ha
 obtain ⟨j, hj⟩ := List.mem_iff_getElem?.1 ha'
 have e1 := newA_get (m := Mm.one s) (b := s.base) hP.nd hi
 have e2 := newA_get (m := Mm.one s) (b := s.base) hP.nd hj
 rw [h] at e1
 obtain ⟨h1, h2⟩ := List.getElem?_eq_some_iff.1 e1
 obtain ⟨h3, h4⟩ := List.getElem?_eq_some_iff.1 e2
 have hpw := List.pairwise_iff_getElem.1 (news_inc hP)
 have hij : i = j := by
  rcases Nat.lt_trichotomy i j with h | h | h
  ·have := hpw i j h1 h3 h; omega
  ·exact h
  ·have := hpw j i h3 h1 h; omega
 subst hij
 rw [hi] at hj
 exact Option.some.inj hj
theorem cmp_pl (hP : s.Pl ms) : (s.cmp ms).Pl (newsL (Mm.one s) s.base ms) := ⟨news_inc hP, fun a ha => by rw [cmp_objs hP]; exact ha⟩
theorem cmp_plan (hP : s.Pl ms) : (s.cmp ms).plan (newsL (Mm.one s) s.base ms) = some (newsL (Mm.one (s.cmp ms)) (s.cmp ms).base (newsL (Mm.one s) s.base ms)) := by
 unfold Spc.plan
 rw [if_pos]
 rw [List.all_eq_true]
 intro a ha
 rw [cmp_objs hP]
 simpa using ha
/-- a second plan moves nothing -/
theorem news_sum (hP : s.Pl ms) : ∀ j, j ≤ ms.length → wSum (Mm.one (s.cmp ms)) ((newsL (Mm.one s) s.base ms).take j) = wSum (Mm.one s) (ms.take j)
 | 0, _ => rfl
 | j + 1, h => by
  have t1 : ms[j]? = some ms[j] := List.getElem?_eq_getElem (by omega)
  rw [wSum_take _ t1, wSum_take _ (newA_get hP.nd t1), news_sum hP j (by omega), cmp_hdr hP (List.mem_of_getElem? t1)]
theorem newA_again (hP : s.Pl ms) {a : Int} (ha : a ∈ ms) : newA (Mm.one (s.cmp ms)) (s.cmp ms).base (newsL (Mm.one s) s.base ms) (newA (Mm.one s) s.base ms a) = newA (Mm.one s) s.base ms a := by
 obtain ⟨j, hj⟩ := List.mem_iff_getElem?.1 ha
 rw [newA_idx (cmp_pl hP) (newA_get hP.nd hj), news_sum hP j (Nat.le_of_lt (List.getElem?_eq_some_iff.1 hj).1), newA_idx hP hj]
 rfl
theorem upd_again (hP : s.Pl ms) (hb : s.base = 0) (hl : s.limit ≤ 16777216) (ho : s.Ok) (hk : ∀ a ∈ ms, ((Mm.one s).hdr a).2.k ≠ 4) {x : Int} {o : Option Int} (hx : (Mm.one s).rfr x = some o) : (Mm.one (s.cmp ms)).updW (s.cmp ms).base (newsL (Mm.one s) s.base ms) ((Mm.one s).upd s.base ms x) = some ((Mm.one s).upd s.base ms x) := by
 have h1 := cmp_rfr hP hb hl ho hk hx
 conv => lhs; unfold Mm.updW
 rw [h1]
 cases o with
 | none => rfl
 | some a =>
  dsimp only [imgO]
  by_cases hc : ms.contains a = true
  ·rw [if_pos hc]
   have ha : a ∈ ms := by simpa using hc
   dsimp only
   rw [if_pos (by simpa using (news_mem hP).2 ⟨a, ha, rfl⟩), newA_again hP ha]
   unfold Mm.upd Mm.updW
   rw [hx]
   dsimp only
   rw [if_pos hc]
   rfl
  ·rw [if_neg hc]
theorem movd_again (hP : s.Pl ms) (hb : s.base = 0) (hl : s.limit ≤ 16777216) (ho : s.Ok) (hk : ∀ a ∈ ms, ((Mm.one s).hdr a).2.k ≠ 4) (hg : ∀ a ∈ ms, ((Mm.one s).hdr a).2.k ≠ 3 → ∀ x ∈ (Mm.one s).flds a, (Mm.one s).rfr x ≠ none) {a : Int} (ha : a ∈ ms) : (Mm.one (s.cmp ms)).movd (s.cmp ms).base (newsL (Mm.one s) s.base ms) (newA (Mm.one s) s.base ms a) = (Mm.one s).movd s.base ms a := by
 have hf := f_le_pay (Mm.one s) (hP.ok ha)
 have hpl := pay_len (Mm.one s) a
 unfold Mm.movd
 rw [cmp_hdr hP ha, cmp_id hP ha]
 congr 1
 conv => lhs; unfold Mm.payU
 rw [cmp_hdr hP ha, cmp_pay hP ha]
 dsimp only
 by_cases h3 : ((Mm.one s).hdr a).2.k = 3
 ·rw [if_pos (.inl h3)]
 ·rw [if_neg (by have := hk a ha; omega)]
  have hfl := hg a ha h3
  rw [flds_pay _ (hP.ok ha)] at hfl
  unfold Mm.payU
  rw [if_neg (by have := hk a ha; omega)]
  rw [List.take_append_of_le_length (by simp; omega), List.take_of_length_le (by rw [List.length_map, List.length_take]; omega), List.drop_append, List.drop_of_length_le (by rw [List.length_map, List.length_take]; omega)]
  rw [List.nil_append]
  congr 1
  ·rw [List.map_map]
   refine List.map_congr_left fun x hx => ?_
   cases hr : (Mm.one s).rfr x with
   | none => exact absurd hr (hfl x hx)
   | some o =>
    have := upd_again hP hb hl ho hk hr
    unfold Mm.upd at this
    simp only [Function.comp]
    rw [this]
    rfl
  ·rw [show ((Mm.one s).hdr a).2.f.toNat - (List.map (fun x => ((Mm.one s).updW s.base ms x).getD x) (List.take ((Mm.one s).hdr a).2.f.toNat ((Mm.one s).pay a))).length = 0 by simp; omega, List.drop_zero]
theorem cmp_again (hP : s.Pl ms) (hb : s.base = 0) (hl : s.limit ≤ 16777216) (ho : s.Ok) (hk : ∀ a ∈ ms, ((Mm.one s).hdr a).2.k ≠ 4) (hg : ∀ a ∈ ms, ((Mm.one s).hdr a).2.k ≠ 3 → ∀ x ∈ (Mm.one s).flds a, (Mm.one s).rfr x ≠ none) : (s.cmp ms).cmp (newsL (Mm.one s) s.base ms) = s.cmp ms := by
 have h : (newsL (Mm.one s) s.base ms).flatMap ((Mm.one (s.cmp ms)).movd (s.cmp ms).base (newsL (Mm.one s) s.base ms)) = ms.flatMap ((Mm.one s).movd s.base ms) := by
  have hn : newsL (Mm.one s) s.base ms = ms.map (newA (Mm.one s) s.base ms) := by
   refine List.ext_getElem? fun j => ?_
   rw [List.getElem?_map]
   cases hj : ms[j]? with
   | none => rw [List.getElem?_eq_none (by rw [newsL_len]; exact List.getElem?_eq_none_iff.1 hj)]; rfl
   | some a => exact newA_get hP.nd hj
  conv => lhs; rw [hn, List.flatMap_map]
  rw [← hn]
  rw [List.flatMap_def, List.flatMap_def]
  congr 1
  exact List.map_congr_left fun a ha => movd_again hP hb hl ho hk hg ha
 have e : (s.cmp ms).cmp (newsL (Mm.one s) s.base ms) = { (s.cmp ms) with ws := (newsL (Mm.one s) s.base ms).flatMap ((Mm.one (s.cmp ms)).movd (s.cmp ms).base (newsL (Mm.one s) s.base ms)) } := rfl
 rw [e, h]
 rfl
theorem cmp_ok (ho : s.Ok) (hP : s.Pl ms) : (s.cmp ms).Ok := by
 have h2 := hP.sum
 have h3 := cmp_len hP
 have hlm := ho.lim
 refine ⟨?_, ho.b0, ?_, ho.l0⟩
 ·intro x hx
  unfold Spc.cmp at hx
  dsimp only at hx
  obtain ⟨a, ha, hx⟩ := List.mem_flatMap.1 hx
  unfold Mm.movd at hx
  rcases List.mem_append.1 hx with hx | hx
  ·rcases List.mem_cons.1 hx with rfl | hx
   ·exact eH_u64 (Mm.hdr_valid (hP.ok ha))
   ·rw [List.mem_singleton.1 hx]
    exact eI_u64 (hP.id ha)
  ·rw [payU_eq] at hx
   exact updP_u64 (pay_u64 ho.u a) x hx
 ·show s.base + ((s.cmp ms).ws.length : Int) ≤ s.limit
  unfold Spc.top at h2
  omega
theorem cmp_whl (hP : s.Pl ms) : (s.cmp ms).ws = [] ∨ 4 ≤ (s.cmp ms).ws.length := by
 cases hms : ms with
 | nil => exact .inl rfl
 | cons a l =>
  right
  rw [← hms]
  have ha : a ∈ ms := by rw [hms]; simp
  have h1 := newA_rg hP ha
  have h2 := hP.wk ha
  have h3 := cmp_len hP
  omega
end
end Go.Proofs.YtjpaogapclfajaaGreat
