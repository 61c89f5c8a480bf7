/- Spaces, memories and cards as plain mathematics: what the functions of the packages space, object, cards and barrier compute. -/
import Derived.Test.YtjpaogapclfajaaGreatHeadP
namespace Go.Proofs.YtjpaogapclfajaaGreat
set_option linter.unusedVariables false
set_option linter.unusedSimpArgs false
set_option linter.unusedSectionVars false

structure Spc where
  base : Int
  limit : Int
  ws : List Int
def Spc.top (s : Spc) : Int := s.base + s.ws.length
def Spc.has (s : Spc) (a : Int) : Bool := decide (s.base ≤ a ∧ a < s.base + s.ws.length)
/-- the word at an address -/
def Spc.at_ (s : Spc) (a : Int) : Option Int := if s.has a = true then s.ws[(a - s.base).toNat]? else none
def Spc.put (s : Spc) (a x : Int) : Spc := if s.has a = true then { s with ws := s.ws.set (a - s.base).toNat x } else s
/-- what every space keeps -/
structure Spc.Ok (s : Spc) : Prop where
  u : ∀ x ∈ s.ws, U64 x
  b0 : 0 ≤ s.base
  lim : s.base + s.ws.length ≤ s.limit
  l0 : s.limit ≤ 4294967296
theorem Spc.has_iff {s : Spc} {a : Int} : s.has a = true ↔ (s.base ≤ a ∧ a < s.base + s.ws.length) := by unfold Spc.has; exact decide_eq_true_iff
theorem Spc.at_some {s : Spc} {a : Int} (h : s.has a = true) : ∃ i : Nat, (i : Int) = a - s.base ∧ i < s.ws.length ∧ ∃ x, s.ws[i]? = some x ∧ s.at_ a = some x := by
  obtain ⟨h0, h1⟩ := of_decide_eq_true h
  refine ⟨(a - s.base).toNat, by omega, by omega, s.ws[(a - s.base).toNat]'(by omega), List.getElem?_eq_getElem _, ?_⟩
  unfold Spc.at_
  rw [if_pos h]
  exact List.getElem?_eq_getElem _
theorem Spc.at_none {s : Spc} {a : Int} (h : s.has a = false) : s.at_ a = none := by
  unfold Spc.at_
  rw [if_neg (by rw [h]; simp)]
theorem Spc.at_has {s : Spc} {a x : Int} (h : s.at_ a = some x) : s.has a = true := by
  cases hh : s.has a with
  | true => rfl
  | false => rw [Spc.at_none hh] at h; cases h
theorem Spc.Ok.at_u {s : Spc} (h : s.Ok) {a x : Int} (hx : s.at_ a = some x) : U64 x := by
  obtain ⟨i, _, _, y, hy, h2⟩ := Spc.at_some (Spc.at_has hx)
  rw [h2] at hx
  cases hx
  exact h.u _ (List.mem_of_getElem? hy)
theorem Spc.put_base (s : Spc) (a x : Int) : (s.put a x).base = s.base := by unfold Spc.put; split <;> rfl
theorem Spc.put_limit (s : Spc) (a x : Int) : (s.put a x).limit = s.limit := by unfold Spc.put; split <;> rfl
theorem Spc.put_len (s : Spc) (a x : Int) : (s.put a x).ws.length = s.ws.length := by unfold Spc.put; split <;> simp
theorem Spc.put_has (s : Spc) (a x b : Int) : (s.put a x).has b = s.has b := by unfold Spc.has; rw [Spc.put_base, Spc.put_len]
theorem Spc.Ok.put {s : Spc} (h : s.Ok) (a : Int) {x : Int} (hx : U64 x) : (s.put a x).Ok := by
  refine ⟨fun y hy => ?_, by rw [Spc.put_base]; exact h.b0, by rw [Spc.put_base, Spc.put_len, Spc.put_limit]; exact h.lim, by rw [Spc.put_limit]; exact h.l0⟩
  unfold Spc.put at hy
  split at hy
  · rcases List.mem_or_eq_of_mem_set hy with h1 | h1
    · exact h.u y h1
    · rw [h1]; exact hx
  · exact h.u y hy
theorem Spc.put_at (s : Spc) (a x b : Int) : (s.put a x).at_ b = if s.has a = true ∧ b = a then some x else s.at_ b := by
  unfold Spc.at_
  rw [Spc.put_has, Spc.put_base]
  by_cases hb : s.has b = true
  · rw [if_pos hb, if_pos hb]
    unfold Spc.put
    by_cases ha : s.has a = true
    · rw [if_pos ha]
      obtain ⟨h0, h1⟩ := Spc.has_iff.1 ha
      obtain ⟨h2, h3⟩ := Spc.has_iff.1 hb
      simp only [List.getElem?_set]
      by_cases hab : b = a
      · subst hab
        simp only [ha, and_self, if_true]
        rw [if_pos (by omega)]
      · rw [if_neg (by omega), if_neg (fun h => hab h.2)]
    · rw [if_neg ha, if_neg (fun h => ha h.1)]
  · rw [if_neg hb, if_neg hb, if_neg]
    rintro ⟨h1, h2⟩
    exact hb (h2 ▸ h1)

/-- the error and the header of the object at an address -/
def Spc.hdr (s : Spc) (a : Int) : Int × Hdr := match s.at_ a with
  | none => (2, Hdr.zero)
  | some x => match dH x, s.at_ (a + 1) with
    | some h, some v => if dI v = Id.zero ∨ s.has (a + wH h - 1) = false then (11, Hdr.zero) else (0, h)
    | _, _ => (11, Hdr.zero)
theorem Spc.hdr_none {s : Spc} {a : Int} (h : s.has a = false) : s.hdr a = (2, Hdr.zero) := by unfold Spc.hdr; rw [Spc.at_none h]
theorem Spc.hdr_fst (s : Spc) (a : Int) : (s.hdr a).1 = 0 ∨ (s.hdr a).1 = 2 ∨ (s.hdr a).1 = 11 := by
  unfold Spc.hdr
  split
  · exact .inr (.inl rfl)
  · split
    · split
      · exact .inr (.inr rfl)
      · exact .inl rfl
    · exact .inr (.inr rfl)
theorem Spc.hdr_ok {s : Spc} {a : Int} (h : (s.hdr a).1 = 0) : ∃ x v, s.at_ a = some x ∧ dH x = some (s.hdr a).2 ∧ s.at_ (a + 1) = some v ∧ dI v ≠ Id.zero ∧ s.has (a + wH (s.hdr a).2 - 1) = true := by
  unfold Spc.hdr at h ⊢
  split at h
  · cases h
  · rename_i x hx
    split at h
    · rename_i hd v h1 h2
      split at h
      · cases h
      · rename_i hn
        have hn' := not_or.1 hn
        simp only [h1, h2]
        rw [if_neg hn]
        exact ⟨x, v, hx, h1, rfl, hn'.1, by simpa using hn'.2⟩
    · cases h
theorem Spc.hdr_err {s : Spc} {a : Int} (h : (s.hdr a).1 ≠ 0) : (s.hdr a).2 = Hdr.zero := by
  unfold Spc.hdr at h ⊢
  split
  · rfl
  · split
    · split
      · rfl
      · rename_i hn
        exact absurd (by simp_all) h
    · rfl

/-- a space behind an allocation, with its error and the address -/
def Spc.alloc (s : Spc) (h : Hdr) (i : Id) : Int × Spc × Int :=
  if vH h = false ∨ vI i = false then (1, s, 0)
  else if wH h > s.limit - s.top then (8, s, 0)
  else (0, { s with ws := s.ws ++ ([eH h, eI i] ++ List.replicate (wH h - 2).toNat 0) }, s.top)

/-- the size of the sound object at an index of a word, or 0 -/
def Spc.size (s : Spc) (i : Nat) : Nat := match s.ws[i]?, s.ws[i + 1]? with
  | some x, some v => match dH x with
    | some h => if dI v ≠ Id.zero ∧ i + wH h ≤ s.ws.length then (wH h).toNat else 0
    | none => 0
  | _, _ => 0
theorem Spc.size_le (s : Spc) (i : Nat) : s.size i = 0 ∨ (4 ≤ s.size i ∧ i + s.size i ≤ s.ws.length ∧ s.size i ≤ 32) := by
  unfold Spc.size
  split
  · split
    · rename_i h hd
      split
      · have := wH_ge (dH_some hd).1
        have := wH_bound h
        omega
      · exact .inl rfl
    · exact .inl rfl
  · exact .inl rfl
/-- the indexes of the objects that a walk from an index on reaches, and the index where it ends -/
def Spc.walkN (s : Spc) : Nat → Nat → List Nat × Nat
  | 0, i => ([], i)
  | f + 1, i => if s.size i = 0 then ([], i) else (i :: (s.walkN f (i + s.size i)).1, (s.walkN f (i + s.size i)).2)
def Spc.walk (s : Spc) : List Nat × Nat := s.walkN s.ws.length 0
def Spc.objs (s : Spc) : List Int := s.walk.1.map fun (i : Nat) => s.base + (i : Int)
def Spc.wend (s : Spc) : Int := s.base + s.walk.2
theorem Spc.walkN_fuel (s : Spc) : ∀ f f' i, s.ws.length ≤ i + f → s.ws.length ≤ i + f' → s.walkN f i = s.walkN f' i
  | 0, 0, _, _, _ => rfl
  | 0, f' + 1, i, h, h' => by
    have := s.size_le i
    unfold Spc.walkN
    rw [if_pos (by omega)]
  | f + 1, 0, i, h, h' => by
    have := s.size_le i
    unfold Spc.walkN
    rw [if_pos (by omega)]
  | f + 1, f' + 1, i, h, h' => by
    unfold Spc.walkN
    split
    · rfl
    · rename_i h0
      have := s.size_le i
      rw [Spc.walkN_fuel s f f' (i + s.size i) (by omega) (by omega)]
/-- the walk from an index on -/
def Spc.walkFrom (s : Spc) (i : Nat) : List Nat × Nat := s.walkN s.ws.length i
theorem Spc.walkFrom_zero (s : Spc) {i : Nat} (h : s.size i = 0) : s.walkFrom i = ([], i) := by
  unfold Spc.walkFrom
  rw [Spc.walkN_fuel s _ (s.ws.length + 1) i (by omega) (by omega)]
  unfold Spc.walkN
  rw [if_pos h]
theorem Spc.walkFrom_pos (s : Spc) {i : Nat} (h : s.size i ≠ 0) : s.walkFrom i = (i :: (s.walkFrom (i + s.size i)).1, (s.walkFrom (i + s.size i)).2) := by
  conv => lhs; unfold Spc.walkFrom; rw [Spc.walkN_fuel s _ (s.ws.length + 1) i (by omega) (by omega)]; unfold Spc.walkN
  rw [if_neg h]
  rfl

/-- a memory -/
structure Mm where
  old : Spc
  yng : Spc
structure Mm.Ok (m : Mm) : Prop where
  o : m.old.Ok
  y : m.yng.Ok
  ob : m.old.base = 0
  ol : m.old.limit ≤ 16777216
  yb : m.yng.base = 16777216
/-- the space of an address -/
def Mm.sp (m : Mm) (a : Int) : Spc := if m.old.has a = true then m.old else m.yng
def Mm.at_ (m : Mm) (a : Int) : Option Int := (m.sp a).at_ a
def Mm.hdr (m : Mm) (a : Int) : Int × Hdr := (m.sp a).hdr a
def Mm.put (m : Mm) (a x : Int) : Mm := if m.old.has a = true then { m with old := m.old.put a x } else { m with yng := m.yng.put a x }
def Mm.has (m : Mm) (a : Int) : Bool := (m.sp a).has a
/-- the error of an access to a field -/
def Mm.fldE (m : Mm) (a i : Int) : Int :=
  if (m.hdr a).1 ≠ 0 then (m.hdr a).1 else if (m.hdr a).2.k = 3 ∨ (m.hdr a).2.k = 4 then 7 else if i < 0 ∨ (m.hdr a).2.f ≤ i then 2 else 0
/-- the space that the program looks into -/
def Mm.sp2 (m : Mm) (a : Int) : Spc := if 16777216 ≤ a then m.yng else m.old
theorem Mm.Ok.old_lt {m : Mm} (h : m.Ok) {a : Int} (ha : m.old.has a = true) : 0 ≤ a ∧ a < 16777216 := by
  have := Spc.has_iff.1 ha
  have h1 := h.o.lim
  have h2 := h.ob
  have h3 := h.ol
  omega
theorem Mm.Ok.yng_ge {m : Mm} (h : m.Ok) {a : Int} (ha : m.yng.has a = true) : 16777216 ≤ a ∧ a < 4294967296 := by
  have := Spc.has_iff.1 ha
  have h1 := h.y.lim
  have h2 := h.yb
  have h3 := h.y.l0
  omega
/-- the two ways to choose the space agree on what they find -/
theorem Mm.Ok.sp2 {m : Mm} (h : m.Ok) (a : Int) : m.sp2 a = m.sp a ∨ ((m.sp2 a).has a = false ∧ (m.sp a).has a = false) := by
  unfold Mm.sp2 Mm.sp
  by_cases ho : m.old.has a = true
  · have := h.old_lt ho
    rw [if_neg (by omega), if_pos ho]
    exact .inl rfl
  · rw [if_neg ho]
    by_cases hy : 16777216 ≤ a
    · rw [if_pos hy]
      exact .inl rfl
    · rw [if_neg hy]
      refine .inr ⟨by simpa using ho, ?_⟩
      cases hh : m.yng.has a with
      | false => rfl
      | true => have := h.yng_ge hh; omega
theorem Mm.Ok.sp2_at {m : Mm} (h : m.Ok) (a : Int) : (m.sp2 a).at_ a = m.at_ a := by
  unfold Mm.at_
  rcases h.sp2 a with e | ⟨e1, e2⟩
  · rw [e]
  · rw [Spc.at_none e1, Spc.at_none e2]
theorem Mm.Ok.sp2_hdr {m : Mm} (h : m.Ok) (a : Int) : (m.sp2 a).hdr a = m.hdr a := by
  unfold Mm.hdr
  rcases h.sp2 a with e | ⟨e1, e2⟩
  · rw [e]
  · rw [Spc.hdr_none e1, Spc.hdr_none e2]
theorem Mm.Ok.sp2_has {m : Mm} (h : m.Ok) (a : Int) : (m.sp2 a).has a = m.has a := by
  unfold Mm.has
  rcases h.sp2 a with e | ⟨e1, e2⟩
  · rw [e]
  · rw [e1, e2]
theorem Mm.Ok.sp2_put {m : Mm} (h : m.Ok) (a x : Int) : (if 16777216 ≤ a then { m with yng := m.yng.put a x } else { m with old := m.old.put a x }) = m.put a x := by
  unfold Mm.put
  by_cases ho : m.old.has a = true
  · have := h.old_lt ho
    rw [if_neg (by omega), if_pos ho]
  · rw [if_neg ho]
    by_cases hy : 16777216 ≤ a
    · rw [if_pos hy]
    · rw [if_neg hy]
      have hyy : m.yng.has a = false := by
        cases hh : m.yng.has a with
        | false => rfl
        | true => have := h.yng_ge hh; omega
      unfold Spc.put
      rw [if_neg ho, if_neg (by rw [hyy]; simp)]
theorem Mm.Ok.at_u {m : Mm} (h : m.Ok) {a x : Int} (hx : m.at_ a = some x) : U64 x := by
  unfold Mm.at_ Mm.sp at hx
  split at hx
  · exact h.o.at_u hx
  · exact h.y.at_u hx
theorem Mm.Ok.put {m : Mm} (h : m.Ok) (a : Int) {x : Int} (hx : U64 x) : (m.put a x).Ok := by
  unfold Mm.put
  split
  · exact ⟨h.o.put a hx, h.y, by rw [Spc.put_base]; exact h.ob, by rw [Spc.put_limit]; exact h.ol, h.yb⟩
  · exact ⟨h.o, h.y.put a hx, h.ob, h.ol, by rw [Spc.put_base]; exact h.yb⟩
end Go.Proofs.YtjpaogapclfajaaGreat
