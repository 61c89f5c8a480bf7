/- The law's steps as plain mathematics: a memory that is changed by allocations and by Store is covered, and its objects lie one behind the other. -/
import Derived.Test.YtaecdpijpdfboaaGreatLW
namespace Go.Proofs.YtaecdpijpdfboaaGreat
set_option linter.unusedVariables false
set_option linter.unusedSimpArgs false
set_option linter.unusedSectionVars false
open Go.RowKit

/-- which address a number names -/
def objI (xs : List Int) (a : Int) : Nat := ((a.tmod xs.length + xs.length).tmod xs.length).toNat
def objAt (xs : List Int) (a : Int) : Int := match xs[objI xs a]? with | some x => x | none => -1
theorem objI_lt {xs : List Int} (h : xs ≠ []) (a : Int) : objI xs a < xs.length ∧ ((objI xs a : Nat) : Int) = (a.tmod xs.length + xs.length).tmod xs.length := by
  have hp : 0 < (xs.length : Int) := by have := List.length_pos_iff.2 h; omega
  have h1 : -(xs.length : Int) < a.tmod xs.length := by
    have := Int.lt_tmod_of_pos a hp
    omega
  have h2 : 0 ≤ (a.tmod xs.length + xs.length).tmod xs.length := Int.tmod_nonneg _ (by omega)
  have h3 : (a.tmod xs.length + xs.length).tmod xs.length < xs.length := Int.tmod_lt_of_pos _ hp
  unfold objI
  omega
theorem objAt_nil (a : Int) : objAt [] a = -1 := rfl
theorem objAt_mem {xs : List Int} (h : xs ≠ []) (a : Int) : objAt xs a ∈ xs := by
  have := objI_lt h a
  unfold objAt
  rw [List.getElem?_eq_getElem this.1]
  exact List.getElem_mem _
theorem objAt_or (xs : List Int) (a : Int) : objAt xs a = -1 ∨ objAt xs a ∈ xs := by
  by_cases h : xs = []
  · subst h; exact .inl rfl
  · exact .inr (objAt_mem h a)

/-- an operation of the law -/
structure OpV where
  k : Int
  h : Hdr
  a : Int
  b : Int
  i : Int
  w : Int
  r : Bool
/-- the law's world -/
structure St where
  m : Mm
  cs : List Int
  xs : List Int
def frW (a : Int) : Int := if inA a = true then adW a else 0
theorem frW_u (a : Int) : U64 (frW a) := by
  unfold frW inA adW U64
  split
  · rename_i h; simp only [decide_eq_true_eq] at h; omega
  · omega
def OpV.word (o : OpV) (s : St) : Int := if o.r = true then frW (max 0 (objAt s.xs o.b)) else o.w
theorem OpV.word_u {o : OpV} (h : U64 o.w) (s : St) : U64 (o.word s) := by
  unfold OpV.word
  split
  · exact frW_u _
  · exact h
def St.alloc (s : St) (y : Bool) (h : Hdr) : St :=
  if (s.m.alloc y h ⟨1, 1 + s.xs.length⟩).1 = 0 then ⟨(s.m.alloc y h ⟨1, 1 + s.xs.length⟩).2.1, s.cs, s.xs ++ [(s.m.alloc y h ⟨1, 1 + s.xs.length⟩).2.2]⟩ else s
def St.step (s : St) (o : OpV) : St :=
  if o.k = 0 then s.alloc false o.h
  else if o.k = 1 then s.alloc true o.h
  else if o.k = 2 then ⟨(bst s.m s.cs (objAt s.xs o.a) o.i (o.word s)).2.1, (bst s.m s.cs (objAt s.xs o.a) o.i (o.word s)).2.2, s.xs⟩
  else if o.k = 3 then ⟨(s.m.setF (objAt s.xs o.a) o.i (o.word s)).2, s.cs, s.xs⟩
  else if o.k = 4 then ⟨(s.m.store o.a (o.word s)).2, s.cs, s.xs⟩
  else if o.k = 5 then ⟨s.m, (cardMark s.cs o.a).2, s.xs⟩
  else if o.k = 6 then ⟨s.m, [], s.xs⟩
  else if o.k = 7 then ⟨(s.m.toFwd (objAt s.xs o.a) (objAt s.xs o.b)).2, s.cs, s.xs⟩
  else if o.k = 8 then ⟨(s.m.toStub (objAt s.xs o.a) 1 (o.word s)).2, s.cs, s.xs⟩
  else s
def St.new : St := ⟨Mm.new 400, [], []⟩
def St.play (most : Int) (s : St) (l : List OpV) : St := l.foldl (fun s o => if o.k ≤ most then s.step o else s) s

/-! ### words that no young reference is -/
theorem ygW_some {x : Int} (h : ygW x = true) : ∃ a, adr x = some a ∧ 16777216 ≤ a := by
  unfold ygW at h
  split at h
  · rename_i a ha; exact ⟨a, ha, by simpa using h⟩
  · cases h
theorem ygW_eH {h : Hdr} (hv : vH h = true) : ygW (eH h) = false := by
  cases hy : ygW (eH h) with
  | false => rfl
  | true =>
    obtain ⟨a, ha, _⟩ := ygW_some hy
    have h1 := (adr_some ha).1
    have := vH_bound hv
    unfold eH adW at h1
    omega
theorem ygW_eI {i : Id} (hv : vI i = true) : ygW (eI i) = false := by
  cases hy : ygW (eI i) with
  | false => rfl
  | true =>
    obtain ⟨a, ha, _⟩ := ygW_some hy
    have h1 := adr_some ha
    have := (vI_iff i).1 hv
    unfold eI adW at h1
    omega
theorem ygW_zero : ygW 0 = false := rfl

/-! ### allocations -/
theorem Spc.alloc_cases (s : Spc) (h : Hdr) (i : Id) : ((s.alloc h i).1 ≠ 0 ∧ (s.alloc h i).2.1 = s) ∨ (vH h = true ∧ vI i = true ∧ wH h ≤ s.limit - s.top ∧ s.alloc h i = (0, { s with ws := s.ws ++ ([eH h, eI i] ++ List.replicate (wH h - 2).toNat 0) }, s.top)) := by
  by_cases h1 : vH h = false ∨ vI i = false
  · left; unfold Spc.alloc; rw [if_pos h1]; exact ⟨show (1 : Int) ≠ 0 by decide, rfl⟩
  · by_cases h2 : wH h > s.limit - s.top
    · left; unfold Spc.alloc; rw [if_neg h1, if_pos h2]; exact ⟨show (8 : Int) ≠ 0 by decide, rfl⟩
    · right
      have h3 := not_or.1 h1
      refine ⟨by simpa using h3.1, by simpa using h3.2, by omega, ?_⟩
      unfold Spc.alloc
      rw [if_neg h1, if_neg h2]
theorem Spc.grown_at (s : Spc) (l : List Int) (a : Int) : ({ s with ws := s.ws ++ l } : Spc).at_ a = if s.has a = true then s.at_ a else if s.base + s.ws.length ≤ a then l[(a - s.base).toNat - s.ws.length]? else none := by
  unfold Spc.at_ Spc.has
  simp only [List.length_append, decide_eq_true_eq]
  by_cases h1 : s.base ≤ a ∧ a < s.base + s.ws.length
  · rw [if_pos (by push_cast; omega), if_pos h1, if_pos h1, List.getElem?_append_left (by omega)]
  · rw [if_neg h1]
    by_cases h2 : s.base + s.ws.length ≤ a
    · rw [if_pos h2]
      by_cases h3 : a < s.base + (s.ws.length + l.length : Nat)
      · rw [if_pos (by omega), List.getElem?_append_right (by omega)]
      · rw [if_neg (by omega), List.getElem?_eq_none (by push_cast at h3; omega)]
    · rw [if_neg h2, if_neg (by omega)]
theorem Spc.Ok.alloc {s : Spc} (h : s.Ok) (hd : Hdr) (i : Id) : (s.alloc hd i).2.1.Ok ∧ (s.alloc hd i).2.1.base = s.base ∧ (s.alloc hd i).2.1.limit = s.limit := by
  rcases s.alloc_cases hd i with ⟨_, h1⟩ | ⟨hv, hi, hl, h1⟩
  · rw [h1]; exact ⟨h, rfl, rfl⟩
  · rw [h1]
    have hw := wH_ge hv
    refine ⟨⟨fun x hx => ?_, h.b0, ?_, h.l0⟩, rfl, rfl⟩
    · simp only [List.mem_append, List.mem_cons, List.not_mem_nil, or_false, List.mem_replicate] at hx
      rcases hx with hx | (rfl | rfl) | ⟨_, rfl⟩
      · exact h.u x hx
      · exact eH_u64 hv
      · exact eI_u64 hi
      · exact ⟨by decide, by decide⟩
    · have := h.lim
      unfold Spc.top at hl
      simp only [List.length_append, List.length_cons, List.length_nil, List.length_replicate]
      push_cast
      omega
theorem Mm.Ok.alloc {m : Mm} (h : m.Ok) (y : Bool) (hd : Hdr) (i : Id) : (m.alloc y hd i).2.1.Ok := by
  unfold Mm.alloc
  split
  · have := h.y.alloc hd i
    exact ⟨h.o, this.1, h.ob, h.ol, this.2.1.trans h.yb⟩
  · have := h.o.alloc hd i
    exact ⟨this.1, h.y, this.2.1.trans h.ob, by show (m.old.alloc hd i).2.1.limit ≤ _; rw [this.2.2]; exact h.ol, h.yb⟩
/-- a new word is no young reference -/
theorem Spc.alloc_yg {s : Spc} (hd : Hdr) (i : Id) {a x : Int} (hx : (s.alloc hd i).2.1.at_ a = some x) (hy : ygW x = true) : s.at_ a = some x := by
  rcases s.alloc_cases hd i with ⟨_, h1⟩ | ⟨hv, hi, hl, h1⟩
  · rw [h1] at hx; exact hx
  · rw [h1] at hx
    rw [Spc.grown_at] at hx
    split at hx
    · exact hx
    · split at hx
      · have := List.mem_of_getElem? hx
        simp only [List.mem_append, List.mem_cons, List.not_mem_nil, or_false, List.mem_replicate] at this
        rcases this with (rfl | rfl) | ⟨_, rfl⟩
        · rw [ygW_eH hv] at hy; cases hy
        · rw [ygW_eI hi] at hy; cases hy
        · cases hy
      · cases hx

/-! ### cards -/
theorem cardIn_mark_self (cs : List Int) {a : Int} (h : oldB a = true) : cardIn (cardMark cs a).2 a = true := by
  unfold cardIn
  rw [h, cardMark_contains cs a h, if_pos rfl]
  rfl
theorem cardIn_mark_mono {cs : List Int} {a b : Int} (h : cardIn cs b = true) : cardIn (cardMark cs a).2 b = true := by
  cases ho : oldB a with
  | false => unfold cardMark; rw [if_pos ho]; exact h
  | true =>
    unfold cardIn at h ⊢
    rw [Bool.and_eq_true] at h
    rw [h.1, cardMark_contains cs a ho]
    split
    · rfl
    · simpa using h.2

/-! ### covered -/
structure CovI (s : St) : Prop where
  ok : s.m.Ok
  cov : ∀ a x, s.m.old.at_ a = some x → ygW x = true → cardIn s.cs a = true
theorem CovI.new : CovI St.new := ⟨Mm.new_ok 400, fun a x hx => by
  have := Spc.at_has hx
  rw [Spc.has_iff] at this
  simp only [St.new, Mm.new, Spc.new, List.length_nil] at this
  omega⟩
theorem Mm.Ok.fld_has {m : Mm} (h : m.Ok) {a i : Int} (he : m.fldE a i = 0) : m.has a = true ∧ m.has (a + 2 + i) = true ∧ m.old.has (a + 2 + i) = m.old.has a := by
  obtain ⟨h1, h2, h3, h4⟩ := Mm.fldE_ok he
  have hv := Mm.hdr_valid h1
  have h5 := (wH_ge hv).2
  obtain ⟨h6, h7⟩ := h.has_near h1 (j := 2 + i) (by omega) (by omega)
  rw [show a + (2 + i) = a + 2 + i by omega] at h6 h7
  refine ⟨Mm.hdr_has h1, h6, ?_⟩
  have h8 := Mm.hdr_has h1
  unfold Mm.has Mm.sp at h6 h8
  unfold Mm.sp at h7
  by_cases ho : m.old.has a = true
  · by_cases ho2 : m.old.has (a + 2 + i) = true
    · rw [ho, ho2]
    · rw [if_neg ho2] at h6
      rw [if_neg ho2, if_pos ho] at h7
      rw [h7] at h6
      exact absurd h6 ho2
  · by_cases ho2 : m.old.has (a + 2 + i) = true
    · rw [if_neg ho] at h8
      rw [if_pos ho2, if_neg ho] at h7
      rw [← h7] at h8
      exact absurd h8 ho
    · cases h9 : m.old.has a <;> cases h10 : m.old.has (a + 2 + i) <;> simp_all
theorem Mm.put_old (m : Mm) (a x : Int) : (m.put a x).old = m.old.put a x := by
  unfold Mm.put
  split
  · rfl
  · rename_i h
    show m.old = m.old.put a x
    unfold Spc.put
    rw [if_neg h]
theorem CovI.bst {s : St} (h : CovI s) (a i : Int) {x : Int} (hx : U64 x) : CovI ⟨(bst s.m s.cs a i x).2.1, (bst s.m s.cs a i x).2.2, s.xs⟩ := by
  unfold Go.Proofs.YtaecdpijpdfboaaGreat.bst
  by_cases he : s.m.fldE a i = 0
  · rw [if_neg (by simp [he])]
    obtain ⟨h1, h2, h3⟩ := h.ok.fld_has he
    by_cases ho : s.m.old.has a = true ∧ ygW x = true
    · rw [if_pos ho]
      refine ⟨h.ok.put _ hx, fun b y hb hy => ?_⟩
      have hb : (s.m.put (a + 2 + i) x).old.at_ b = some y := hb
      rw [Mm.put_old, Spc.put_at] at hb
      split at hb
      · rename_i h4
        rw [h4.2]
        have := h.ok.old_lt h4.1
        exact cardIn_mark_self _ (by unfold oldB; exact decide_eq_true this)
      · exact cardIn_mark_mono (h.cov b y hb hy)
    · rw [if_neg ho]
      refine ⟨h.ok.put _ hx, fun b y hb hy => ?_⟩
      have hb : (s.m.put (a + 2 + i) x).old.at_ b = some y := hb
      rw [Mm.put_old, Spc.put_at] at hb
      split at hb
      · rename_i h4
        cases hb
        rw [h3] at h4
        exact absurd ⟨h4.1, hy⟩ ho
      · exact h.cov b y hb hy
  · rw [if_pos he]; exact h
theorem CovI.alloc {s : St} (h : CovI s) (y : Bool) (hd : Hdr) : CovI (s.alloc y hd) := by
  unfold St.alloc
  split
  · refine ⟨h.ok.alloc _ _ _, fun a x hx hy => h.cov a x ?_ hy⟩
    unfold Mm.alloc at hx
    split at hx
    · exact hx
    · exact Spc.alloc_yg _ _ hx hy
  · exact h
theorem CovI.step {s : St} (h : CovI s) {o : OpV} (hk : o.k ≤ 2) (h0 : 0 ≤ o.k) (hw : U64 o.w) : CovI (s.step o) := by
  unfold St.step
  rcases (show o.k = 0 ∨ o.k = 1 ∨ o.k = 2 by omega) with e | e | e
  · rw [if_pos e]; exact h.alloc _ _
  · rw [if_neg (by omega), if_pos e]; exact h.alloc _ _
  · rw [if_neg (by omega), if_neg (by omega), if_pos e]
    exact h.bst _ _ (OpV.word_u hw s)
def opsOk (l : List OpV) : Prop := ∀ o ∈ l, 0 ≤ o.k ∧ U64 o.w
theorem CovI.play : ∀ {l : List OpV} {s : St}, CovI s → opsOk l → CovI (s.play 2 l)
  | [], s, h, _ => h
  | o :: l, s, h, hl => by
    have ho := hl o (List.mem_cons_self ..)
    refine CovI.play (l := l) (s := if o.k ≤ 2 then s.step o else s) ?_ fun p hp => hl p (List.mem_cons_of_mem _ hp)
    split
    · exact h.step (by assumption) ho.1 ho.2
    · exact h

/-! ### objects of a walk -/
theorem Spc.size_some {s : Spc} {i : Nat} (h : s.size i ≠ 0) : ∃ x v hd, s.ws[i]? = some x ∧ s.ws[i + 1]? = some v ∧ dH x = some hd ∧ dI v ≠ Id.zero ∧ (s.size i : Int) = wH hd ∧ i + s.size i ≤ s.ws.length := by
  have h0 := (s.size_le i).resolve_left h
  unfold Spc.size at h h0 ⊢
  split at h
  · rename_i x v hx hv
    split at h
    · rename_i hd hhd
      simp only [hx, hv, hhd] at h0 ⊢
      split at h
      · rename_i hc
        rw [if_pos hc] at h0
        refine ⟨x, v, hd, rfl, rfl, hhd, hc.1, ?_, ?_⟩
        · rw [if_pos hc]; have := wH_bound hd; omega
        · rw [if_pos hc]; omega
      · exact absurd rfl h
    · exact absurd rfl h
  · exact absurd rfl h
theorem Spc.size_mk {s : Spc} {i : Nat} {x v : Int} {hd : Hdr} (h1 : s.ws[i]? = some x) (h2 : s.ws[i + 1]? = some v) (h3 : dH x = some hd) (h4 : dI v ≠ Id.zero) (h5 : i + wH hd ≤ s.ws.length) : s.size i = (wH hd).toNat := by
  unfold Spc.size
  simp only [h1, h2, h3]
  rw [if_pos ⟨h4, h5⟩]
/-- a sound object of a walk is one that has a header -/
theorem Spc.hdr_of_size {s : Spc} {i : Nat} (h : s.size i ≠ 0) : (s.hdr (s.base + i)).1 = 0 ∧ wH (s.hdr (s.base + i)).2 = s.size i := by
  obtain ⟨x, v, hd, h1, h2, h3, h4, h5, h6⟩ := Spc.size_some h
  have hb := wH_ge (dH_some h3).1
  have e1 : s.at_ (s.base + i) = some x := by
    unfold Spc.at_ Spc.has
    rw [if_pos (decide_eq_true (by omega)), show (s.base + (i : Int) - s.base).toNat = i by omega]; exact h1
  have e2 : s.at_ (s.base + i + 1) = some v := by
    unfold Spc.at_ Spc.has
    rw [if_pos (decide_eq_true (by omega)), show (s.base + (i : Int) + 1 - s.base).toNat = i + 1 by omega]; exact h2
  have e3 : s.has (s.base + i + wH hd - 1) = true := decide_eq_true (by omega)
  unfold Spc.hdr
  simp only [e1, h3, e2]
  rw [if_neg (by rw [e3]; simp [h4])]
  exact ⟨rfl, h5.symm⟩
theorem Spc.walkFrom_mem (s : Spc) : ∀ (n i : Nat), s.ws.length ≤ i + n → i ≤ (s.walkFrom i).2 ∧ ((s.walkFrom i).2 ≤ i ∨ (s.walkFrom i).2 ≤ s.ws.length) ∧ s.size (s.walkFrom i).2 = 0 ∧ (s.walkFrom i).1.Pairwise (fun t u => t + s.size t ≤ u) ∧ ∀ t ∈ (s.walkFrom i).1, i ≤ t ∧ s.size t ≠ 0 ∧ t + s.size t ≤ (s.walkFrom i).2 := by
  intro n
  induction n with
  | zero =>
    intro i hi
    have h0 : s.size i = 0 := by have := s.size_le i; omega
    rw [Spc.walkFrom_zero s h0]
    exact ⟨Nat.le_refl _, .inl (Nat.le_refl _), h0, List.Pairwise.nil, fun t ht => by cases ht⟩
  | succ n ih =>
    intro i hi
    by_cases h0 : s.size i = 0
    · rw [Spc.walkFrom_zero s h0]
      exact ⟨Nat.le_refl _, .inl (Nat.le_refl _), h0, List.Pairwise.nil, fun t ht => by cases ht⟩
    · have hs := s.size_le i
      obtain ⟨i1, i2, i3, i4, i5⟩ := ih (i + s.size i) (by omega)
      rw [Spc.walkFrom_pos s h0]
      refine ⟨by show i ≤ (s.walkFrom _).2; omega, .inr (by show (s.walkFrom _).2 ≤ _; omega), i3, List.Pairwise.cons (fun t ht => (i5 t ht).1) i4, fun t ht => ?_⟩
      rcases List.mem_cons.1 ht with rfl | ht
      · exact ⟨Nat.le_refl _, h0, i1⟩
      · have := i5 t ht
        exact ⟨by omega, this.2.1, this.2.2⟩
theorem Spc.walkFrom_app (s s' : Spc) : ∀ (n i : Nat), s.ws.length ≤ i + n → (∀ t ∈ (s.walkFrom i).1, s'.size t = s.size t) → s'.walkFrom i = ((s.walkFrom i).1 ++ (s'.walkFrom (s.walkFrom i).2).1, (s'.walkFrom (s.walkFrom i).2).2) := by
  intro n
  induction n with
  | zero =>
    intro i hi h
    have h0 : s.size i = 0 := by have := s.size_le i; omega
    rw [Spc.walkFrom_zero s h0]
    simp
  | succ n ih =>
    intro i hi h
    by_cases h0 : s.size i = 0
    · rw [Spc.walkFrom_zero s h0]
      simp
    · have hs := s.size_le i
      rw [Spc.walkFrom_pos s h0] at h ⊢
      have h1 := h i (List.mem_cons_self ..)
      have := ih (i + s.size i) (by omega) fun t ht => h t (List.mem_cons_of_mem _ ht)
      rw [Spc.walkFrom_pos s' (by rw [h1]; exact h0), h1, this]
      simp
theorem Spc.walk_eq (s : Spc) : s.walk = s.walkFrom 0 := rfl
theorem Spc.size_congr {s s' : Spc} {t : Nat} (h1 : s'.ws[t]? = s.ws[t]?) (h2 : s'.ws[t + 1]? = s.ws[t + 1]?) (h3 : s'.ws.length = s.ws.length) : s'.size t = s.size t := by
  unfold Spc.size
  rw [h1, h2, h3]
/-- a word within an object turns, and no header: the walk stays -/
theorem Spc.walk_put {s : Spc} {t i : Nat} (ht : t ∈ s.walk.1) (h2 : 2 ≤ i) (hi : i < s.size t) (x : Int) : (s.put (s.base + t + i) x).walk = s.walk := by
  obtain ⟨_, hle, he0, hpw, hmem⟩ := s.walkFrom_mem s.ws.length 0 (by omega)
  simp only [Spc.walk_eq] at ht ⊢
  have htm := hmem t ht
  have hss := Spc.size_some htm.2.1
  have hws : (s.put (s.base + t + i) x).ws = s.ws.set (t + i) x := by
    unfold Spc.put
    obtain ⟨_, _, _, _, _, _, _, _, h6⟩ := hss
    rw [if_pos (Spc.has_iff.2 ⟨by omega, by omega⟩), show (s.base + (t : Int) + (i : Int) - s.base).toNat = t + i by omega]
  have hsz : ∀ u, u ≠ t + i → u + 1 ≠ t + i → (s.put (s.base + t + i) x).size u = s.size u := fun u h3 h4 => by
    refine Spc.size_congr ?_ ?_ (Spc.put_len _ _ _)
    · rw [hws, List.getElem?_set_ne (by omega)]
    · rw [hws, List.getElem?_set_ne (by omega)]
  have hpair : ∀ u ∈ (s.walkFrom 0).1, u = t ∨ u + s.size u ≤ t ∨ t + s.size t ≤ u := by
    intro u hu
    obtain ⟨p, hp, rfl⟩ := List.mem_iff_getElem.1 hu
    obtain ⟨q, hq, rfl⟩ := List.mem_iff_getElem.1 ht
    rcases Nat.lt_trichotomy p q with h | h | h
    · exact .inr (.inl (List.pairwise_iff_getElem.1 hpw p q hp hq h))
    · subst h; exact .inl rfl
    · exact .inr (.inr (List.pairwise_iff_getElem.1 hpw q p hq hp h))
  have happ := Spc.walkFrom_app s (s.put (s.base + t + i) x) s.ws.length 0 (by omega) fun u hu => by
    have h3 := (s.size_le u).resolve_left (hmem u hu).2.1
    have h4 := (s.size_le t).resolve_left htm.2.1
    rcases hpair u hu with rfl | h | h
    · exact hsz _ (by omega) (by omega)
    · exact hsz _ (by omega) (by omega)
    · exact hsz _ (by omega) (by omega)
  have hend : (s.put (s.base + t + i) x).size (s.walkFrom 0).2 = 0 := by
    rw [hsz _ (by have := htm.2.2; omega) (by have := htm.2.2; omega)]
    exact he0
  rw [happ, Spc.walkFrom_zero _ hend]
  simp
/-- an object more -/
theorem Spc.walk_grown {s : Spc} (hs : s.walk.2 = s.ws.length) {h : Hdr} {i : Id} (hv : vH h = true) (hi : vI i = true) : ({ s with ws := s.ws ++ ([eH h, eI i] ++ List.replicate (wH h - 2).toNat 0) } : Spc).walk = (s.walk.1 ++ [s.ws.length], s.ws.length + (wH h).toNat) := by
  obtain ⟨_, hle, he0, hpw, hmem⟩ := s.walkFrom_mem s.ws.length 0 (by omega)
  have hw := wH_ge hv
  rw [Spc.walk_eq] at hs ⊢
  rw [Spc.walk_eq]
  rw [hs] at hmem
  have happ := Spc.walkFrom_app s ({ s with ws := s.ws ++ ([eH h, eI i] ++ List.replicate (wH h - 2).toNat 0) } : Spc) s.ws.length 0 (by omega) fun u hu => by
    have h1 := hmem u hu
    obtain ⟨x, v, hd, a1, a2, a3, a4, a5, a6⟩ := Spc.size_some h1.2.1
    have h3 := (s.size_le u).resolve_left h1.2.1
    have := Spc.size_mk (s := ({ s with ws := s.ws ++ ([eH h, eI i] ++ List.replicate (wH h - 2).toNat 0) } : Spc)) (i := u) (x := x) (v := v) (hd := hd) (by show (s.ws ++ _)[u]? = _; rw [List.getElem?_append_left (by omega)]; exact a1) (by show (s.ws ++ _)[u + 1]? = _; rw [List.getElem?_append_left (by omega)]; exact a2) a3 a4 (by show (u : Int) + wH hd ≤ ((s.ws ++ _).length : Nat); rw [List.length_append]; omega)
    rw [this]
    omega
  have hz : ({ s with ws := s.ws ++ ([eH h, eI i] ++ List.replicate (wH h - 2).toNat 0) } : Spc).size s.ws.length = (wH h).toNat := by
    refine Spc.size_mk (x := eH h) (v := eI i) (hd := h) ?_ ?_ (dH_eH hv) ?_ ?_
    · show (s.ws ++ _)[s.ws.length]? = _
      rw [List.getElem?_append_right (by omega)]; simp
    · show (s.ws ++ _)[s.ws.length + 1]? = _
      rw [List.getElem?_append_right (by omega)]; simp
    · rw [dI_eI hi]
      intro e
      rw [e] at hi
      exact absurd hi (by decide)
    · show _ ≤ ((s.ws ++ _).length : Int)
      simp only [List.length_append, List.length_cons, List.length_nil, List.length_replicate]
      push_cast
      omega
  have hend : ({ s with ws := s.ws ++ ([eH h, eI i] ++ List.replicate (wH h - 2).toNat 0) } : Spc).size (s.ws.length + (wH h).toNat) = 0 := by
    have := Spc.size_le ({ s with ws := s.ws ++ ([eH h, eI i] ++ List.replicate (wH h - 2).toNat 0) } : Spc) (s.ws.length + (wH h).toNat)
    simp only [List.length_append, List.length_cons, List.length_nil, List.length_replicate] at this
    omega
  have hp := Spc.walkFrom_pos ({ s with ws := s.ws ++ ([eH h, eI i] ++ List.replicate (wH h - 2).toNat 0) } : Spc) (i := s.ws.length) (by rw [hz]; omega)
  rw [hz, Spc.walkFrom_zero _ hend] at hp
  rw [happ, hs, hp]

/-! ### slots -/
theorem Mm.crossing_mem {m : Mm} {p : Int → Bool} {b : Int} : b ∈ m.crossing p ↔ ∃ a ∈ m.old.objs, ∃ i : Nat, (i : Int) < slotN (m.hdr a).2 ∧ b = a + 2 + i ∧ ∃ x, m.at_ b = some x ∧ ygW x = true ∧ p b = true := by
  unfold Mm.crossing Mm.slots Mm.slotsAt
  simp only [List.mem_map, List.mem_filter, List.mem_flatMap, List.mem_filterMap, List.mem_range, Option.map_eq_some_iff, Bool.and_eq_true]
  constructor
  · rintro ⟨⟨b', x⟩, ⟨⟨a, ha, c, ⟨i, hi, rfl⟩, y, hy, e⟩, h1, h2⟩, rfl⟩
    cases e
    exact ⟨a, ha, i, by omega, rfl, x, hy, h1, h2⟩
  · rintro ⟨a, ha, i, hi, rfl, x, hx, h1, h2⟩
    exact ⟨(a + 2 + i, x), ⟨⟨a, ha, _, ⟨i, by omega, rfl⟩, x, hx, rfl⟩, h1, h2⟩, rfl⟩
/-- objects of the old space -/
theorem Mm.Ok.objs {m : Mm} (h : m.Ok) {a : Int} (ha : a ∈ m.old.objs) : ∃ t : Nat, a = t ∧ t ∈ m.old.walk.1 ∧ m.old.size t ≠ 0 ∧ m.old.has a = true ∧ (m.hdr a).1 = 0 ∧ wH (m.hdr a).2 = m.old.size t := by
  unfold Spc.objs at ha
  obtain ⟨t, ht, rfl⟩ := List.mem_map.1 ha
  obtain ⟨_, _, _, _, hmem⟩ := m.old.walkFrom_mem m.old.ws.length 0 (by omega)
  have h1 := hmem t ht
  have h2 := Spc.size_some h1.2.1
  obtain ⟨_, _, _, _, _, _, _, _, h6⟩ := h2
  have h3 := (m.old.size_le t).resolve_left h1.2.1
  have h4 : m.old.has (m.old.base + t) = true := Spc.has_iff.2 ⟨by omega, by omega⟩
  have h5 := Spc.hdr_of_size h1.2.1
  refine ⟨t, by rw [h.ob]; omega, ht, h1.2.1, h4, ?_⟩
  unfold Mm.hdr Mm.sp
  rw [if_pos h4]
  exact h5
theorem slotN_le {h : Hdr} (hv : vH h = true) : slotN h + 2 ≤ wH h := by
  have := wH_ge hv
  unfold slotN
  split
  · omega
  · split <;> omega
theorem Mm.Ok.slot_old {m : Mm} (h : m.Ok) {a : Int} (ha : a ∈ m.old.objs) {i : Nat} (hi : (i : Int) < slotN (m.hdr a).2) : m.old.has (a + 2 + i) = true := by
  obtain ⟨t, rfl, h1, h2, h3, h4, h5⟩ := h.objs ha
  have h6 := slotN_le (Mm.hdr_valid h4)
  have h7 := Mm.has_of_hdr h4 (j := 2 + i) (by omega) (by omega)
  rw [show ((t : Int) + (2 + i)) = (t : Int) + 2 + i by omega] at h7
  unfold Mm.sp at h7
  rw [if_pos h3] at h7
  exact h7
/-- a covered memory -/
theorem CovI.covered {s : St} (h : CovI s) : s.m.crossing (fun a => !cardIn s.cs a) = [] ∧ s.m.crossing (fun _ => true) = s.m.crossing (cardIn s.cs) := by
  have key : ∀ sl ∈ s.m.slots, ygW sl.2 = true → cardIn s.cs sl.1 = true := by
    rintro ⟨b, x⟩ hs hy
    unfold Mm.slots Mm.slotsAt at hs
    simp only [List.mem_flatMap, List.mem_filterMap, List.mem_map, List.mem_range, Option.map_eq_some_iff] at hs
    obtain ⟨a, ha, c, ⟨i, hi, rfl⟩, y, hy', e⟩ := hs
    cases e
    have h1 := h.ok.slot_old ha (i := i) (by omega)
    refine h.cov _ x ?_ hy
    unfold Mm.at_ Mm.sp at hy'
    rw [if_pos h1] at hy'
    exact hy'
  unfold Mm.crossing
  constructor
  · rw [List.map_eq_nil_iff, List.filter_eq_nil_iff]
    intro sl hs
    cases hy : ygW sl.2 with
    | false => simp
    | true => simp [key sl hs hy]
  · congr 1
    refine List.filter_congr fun sl hs => ?_
    cases hy : ygW sl.2 with
    | false => simp
    | true => simp [key sl hs hy]
end Go.Proofs.YtaecdpijpdfboaaGreat
