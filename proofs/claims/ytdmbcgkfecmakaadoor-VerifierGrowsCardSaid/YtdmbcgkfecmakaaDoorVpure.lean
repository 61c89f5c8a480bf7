/- The depths of a method, in plain Lean: what the visit of the reachable instructions comes to. -/
import Derived.Test.YtdmbcgkfecmakaaDoorTargets
namespace Go.Proofs.YtdmbcgkfecmakaaDoor
set_option linter.unusedVariables false
set_option linter.unusedSimpArgs false
set_option linter.unusedSectionVars false

abbrev Ins := Int × Int × Int
def iV (x : Ins) : Bool := validB x.1 x.2.1 x.2.2
def iP (x : Ins) : Int := popsI x.1 x.2.1 x.2.2
def iU (x : Ins) : Int := pushesI x.1 x.2.1 x.2.2
def iT (x : Ins) (i : Nat) : List Int := targetsI x.1 x.2.1 x.2.2 i

/-- D is a consistent assignment of depths. -/
def Good (c : List Ins) (D : Nat → Option Int) : Prop :=
  D 0 = some 0 ∧ ∀ i d, D i = some d → ∃ x, c[i]? = some x ∧ iV x = true ∧ iP x ≤ d ∧ d - iP x + iU x ≤ 64 ∧
    ∀ t ∈ iT x i, ∃ n : Nat, t = n ∧ D n = some (d - iP x + iU x)

inductive Reach (c : List Ins) : Nat → Prop
  | zero : 0 < c.length → Reach c 0
  | step {i n : Nat} {x : Ins} : Reach c i → c[i]? = some x → (n : Int) ∈ iT x i → n < c.length → Reach c n

structure VS where
  f : Nat → Option Int
  work : List Nat
  sound : Bool
  most : Int

def upd (f : Nat → Option Int) (n : Nat) (d : Int) : Nat → Option Int := fun k => if k = n then some d else f k

/-- one call of visit -/
def visitS (len : Nat) (t d : Int) (s : VS) : VS :=
  if t < 0 ∨ (len : Int) ≤ t then { s with sound := false }
  else match s.f t.toNat with
    | some was => { s with sound := s.sound && was == d }
    | none => { s with f := upd s.f t.toNat d, work := s.work ++ [t.toNat] }

/-- what a round does to an instruction at a depth, ahead of the visits -/
def markS (x : Ins) (d : Int) (s : VS) : VS :=
  let b := d - iP x + iU x
  let m := max s.most (max d b)
  { s with most := m, sound := if iP x > d ∨ m > 64 then false else s.sound }

def roundS (c : List Ins) (at' : Nat) (x : Ins) (d : Int) (s : VS) : VS :=
  if iV x then (iT x at').foldl (fun s t => visitS c.length t (d - iP x + iU x) s) (markS x d s) else { s with sound := false }

/-- an instruction is done: it is sound by itself and so are its targets -/
def Done (c : List Ins) (f : Nat → Option Int) (most : Int) (i : Nat) (d : Int) : Prop :=
  ∃ x, c[i]? = some x ∧ iV x = true ∧ iP x ≤ d ∧ d - iP x + iU x ≤ 64 ∧ d ≤ most ∧ d - iP x + iU x ≤ most ∧ ∀ t ∈ iT x i, ∃ n : Nat, t = n ∧ f n = some (d - iP x + iU x)

structure Inv (c : List Ins) (s : VS) : Prop where
  zero : s.f 0 = some 0
  dom : ∀ i d, s.f i = some d → i < c.length ∧ Reach c i
  work : ∀ i ∈ s.work, ∃ d, s.f i = some d
  nodup : s.work.Nodup
  closed : ∀ i d x, s.f i = some d → i ∉ s.work → c[i]? = some x → ∀ n : Nat, (n : Int) ∈ iT x i → n < c.length → (s.f n).isSome = true
  done : s.sound = true → ∀ i d, s.f i = some d → i ∉ s.work → Done c s.f s.most i d
  forced : s.sound = true → ∀ D, Good c D → ∀ i d, s.f i = some d → D i = some d
  le64 : s.sound = true → ∀ i d, s.f i = some d → d ≤ 64
  bad : s.sound = false → ∀ D, ¬ Good c D
  most0 : 0 ≤ s.most
  most64 : s.sound = true → s.most ≤ 64
  mostIs : s.sound = true → s.most = 0 ∨ ∃ i d x, s.f i = some d ∧ c[i]? = some x ∧ (s.most = d ∨ s.most = d - iP x + iU x)

/-- what a row of visits leaves -/
structure Visited (len : Nat) (b : Int) (s s' : VS) (ts : List Int) : Prop where
  mono : ∀ i d, s.f i = some d → s'.f i = some d
  new : ∀ i d, s'.f i = some d → s.f i = some d ∨ (s.f i = none ∧ (i : Int) ∈ ts ∧ i < len ∧ d = b)
  work : ∃ l, s'.work = s.work ++ l ∧ l.Nodup ∧ (∀ i ∈ l, s.f i = none ∧ s'.f i = some b) ∧ ∀ i d, s'.f i = some d → s.f i = none → i ∈ l
  some_ : ∀ n : Nat, (n : Int) ∈ ts → n < len → (s'.f n).isSome = true
  good : s'.sound = true → s.sound = true ∧ ∀ t ∈ ts, ∃ n : Nat, t = n ∧ n < len ∧ s'.f n = some b
  bad : s'.sound = false → s.sound = false ∨ ∃ t ∈ ts, (t < 0 ∨ (len : Int) ≤ t) ∨ ∃ n : Nat, t = n ∧ ∃ d, s'.f n = some d ∧ d ≠ b
  most : s'.most = s.most

theorem Visited.nil (len : Nat) (b : Int) (s : VS) : Visited len b s s [] where
  mono := fun _ _ h => h
  new := fun _ _ h => .inl h
  work := ⟨[], by simp, List.nodup_nil, by simp, fun i d h h' => by rw [h] at h'; cases h'⟩
  some_ := fun n h => by cases h
  good := fun h => ⟨h, by simp⟩
  bad := fun h => .inl h
  most := rfl

theorem Visited.one (len : Nat) (t b : Int) (s : VS) : Visited len b s (visitS len t b s) [t] := by
  unfold visitS
  by_cases ho : t < 0 ∨ (len : Int) ≤ t
  · rw [if_pos ho]
    exact { mono := fun _ _ h => h, new := fun _ _ h => .inl h, work := ⟨[], by simp, List.nodup_nil, by simp, fun i d h h' => by simp_all⟩, some_ := fun n h hn => by simp at h; omega, good := fun h => by simp at h, bad := fun _ => .inr ⟨t, by simp, .inl ho⟩, most := rfl }
  · rw [if_neg ho]
    obtain ⟨n, rfl⟩ := Int.eq_ofNat_of_zero_le (show 0 ≤ t by omega)
    have hn : n < len := by omega
    simp only [Int.toNat_natCast]
    cases hf : s.f n with
    | some was =>
      simp only
      refine { mono := fun _ _ h => h, new := fun _ _ h => .inl h, work := ⟨[], by simp, List.nodup_nil, by simp, fun i d h h' => by simp_all⟩, some_ := fun m h _ => by (have hmn : m = n := by simp at h; omega); subst hmn; simp [hf], good := fun h => ?_, bad := fun h => ?_, most := rfl }
      · simp at h
        exact ⟨h.1, fun t ht => ⟨n, by simpa using ht, hn, by rw [hf, h.2]⟩⟩
      · simp at h
        cases hs : s.sound with
        | false => exact .inl rfl
        | true => exact .inr ⟨n, by simp, .inr ⟨n, rfl, was, hf, h hs⟩⟩
    | none =>
      simp only
      refine { mono := fun i d h => ?_, new := fun i d h => ?_, work := ⟨[n], rfl, by simp, fun i hi => ?_, fun i d h h' => ?_⟩, some_ := fun m h _ => ?_, good := fun h => ⟨h, fun t ht => ⟨n, by simpa using ht, hn, by simp [upd]⟩⟩, bad := fun h => .inl h, most := rfl }
      · have : i ≠ n := by rintro rfl; rw [hf] at h; cases h
        simp [upd, this, h]
      · by_cases hi : i = n
        · subst hi; simp [upd] at h; exact .inr ⟨hf, by simp, hn, h.symm⟩
        · simp [upd, hi] at h; exact .inl h
      · simp at hi; subst hi; exact ⟨hf, by simp [upd]⟩
      · by_cases hi : i = n
        · simp [hi]
        · simp [upd, hi] at h; rw [h] at h'; cases h'
      · have hmn : m = n := by simp at h; omega
        subst hmn; simp [upd]

theorem Visited.trans {len : Nat} {b : Int} {s s1 s2 : VS} {l m : List Int} (h : Visited len b s s1 l) (k : Visited len b s1 s2 m) : Visited len b s s2 (l ++ m) where
  mono := fun i d e => k.mono i d (h.mono i d e)
  new := fun i d e => by
    rcases k.new i d e with e1 | ⟨e1, e2, e3, e4⟩
    · rcases h.new i d e1 with f1 | ⟨f1, f2, f3, f4⟩
      · exact .inl f1
      · exact .inr ⟨f1, by simp [f2], f3, f4⟩
    · refine .inr ⟨?_, by simp [e2], e3, e4⟩
      cases hs : s.f i with
      | none => rfl
      | some d' => have := h.mono i d' hs; rw [e1] at this; cases this
  work := by
    obtain ⟨l1, a1, a2, a3, a4⟩ := h.work
    obtain ⟨l2, b1, b2, b3, b4⟩ := k.work
    refine ⟨l1 ++ l2, by rw [b1, a1, List.append_assoc], ?_, fun i hi => ?_, fun i d e e' => ?_⟩
    · refine List.nodup_append.2 ⟨a2, b2, fun x hx y hy => ?_⟩
      rintro rfl
      have := (a3 x hx).2
      rw [(b3 x hy).1] at this
      cases this
    · rcases List.mem_append.1 hi with hi | hi
      · exact ⟨(a3 i hi).1, k.mono _ _ (a3 i hi).2⟩
      · refine ⟨?_, (b3 i hi).2⟩
        cases hs : s.f i with
        | none => rfl
        | some d' => have := h.mono i d' hs; rw [(b3 i hi).1] at this; cases this
    · cases h1 : s1.f i with
      | none => exact List.mem_append.2 (.inr (b4 i d e h1))
      | some d' => exact List.mem_append.2 (.inl (a4 i d' h1 e'))
  some_ := fun n hn hl => by
    rcases List.mem_append.1 hn with hn | hn
    · have := h.some_ n hn hl
      obtain ⟨d, hd⟩ := Option.isSome_iff_exists.1 this
      simp [k.mono n d hd]
    · exact k.some_ n hn hl
  good := fun hs => by
    obtain ⟨h1, h2⟩ := k.good hs
    obtain ⟨h3, h4⟩ := h.good h1
    refine ⟨h3, fun t ht => ?_⟩
    rcases List.mem_append.1 ht with ht | ht
    · obtain ⟨n, e1, e2, e3⟩ := h4 t ht
      exact ⟨n, e1, e2, k.mono _ _ e3⟩
    · exact h2 t ht
  bad := fun hs => by
    rcases k.bad hs with h1 | ⟨t, ht, h1⟩
    · rcases h.bad h1 with h2 | ⟨t, ht, h2⟩
      · exact .inl h2
      · refine .inr ⟨t, List.mem_append.2 (.inl ht), h2.imp id ?_⟩
        rintro ⟨n, e1, d, e2, e3⟩
        exact ⟨n, e1, d, k.mono _ _ e2, e3⟩
    · exact .inr ⟨t, List.mem_append.2 (.inr ht), h1⟩
  most := k.most.trans h.most

theorem Visited.fold (len : Nat) (b : Int) : ∀ (ts : List Int) (s : VS), Visited len b s (ts.foldl (fun s t => visitS len t b s) s) ts
  | [], s => Visited.nil len b s
  | t :: ts, s => (Visited.one len t b s).trans (Visited.fold len b ts (visitS len t b s))

theorem Inv.start (c : List Ins) (h : 0 < c.length) : Inv c (visitS c.length 0 0 ⟨fun _ => none, [], true, 0⟩) := by
  have e : visitS c.length 0 0 ⟨fun _ => none, [], true, 0⟩ = ⟨upd (fun _ => none) 0 0, [0], true, 0⟩ := by
    unfold visitS
    rw [if_neg (by omega)]
    rfl
  rw [e]
  have hz : ∀ i d, upd (fun _ => none) 0 0 i = some d → i = 0 ∧ d = 0 := fun i d hh => by
    by_cases hi : i = 0
    · simp [upd, hi] at hh; exact ⟨hi, hh.symm⟩
    · simp [upd, hi] at hh
  exact { zero := rfl, dom := fun i d hh => by obtain ⟨rfl, _⟩ := hz i d hh; exact ⟨h, .zero h⟩, work := fun i hi => by simp at hi; subst hi; exact ⟨0, rfl⟩, nodup := by simp, closed := fun i d x hh hn => by obtain ⟨rfl, _⟩ := hz i d hh; simp at hn, done := fun _ i d hh hn => by obtain ⟨rfl, _⟩ := hz i d hh; simp at hn, forced := fun _ D hD i d hh => by obtain ⟨rfl, rfl⟩ := hz i d hh; exact hD.1, le64 := fun _ i d hh => by obtain ⟨rfl, rfl⟩ := hz i d hh; omega, bad := fun hh => (by cases hh), most0 := Int.le_refl _, most64 := fun _ => by show (0 : Int) ≤ 64; omega, mostIs := fun _ => .inl rfl }

theorem Good.lt {c : List Ins} {D : Nat → Option Int} (h : Good c D) {n : Nat} {d : Int} (e : D n = some d) : n < c.length := by
  obtain ⟨x, hx, _⟩ := h.2 n d e
  exact (List.getElem?_eq_some_iff.1 hx).1

theorem Inv.round {c : List Ins} {s : VS} {l : List Nat} {a : Nat} {x : Ins} {d : Int} (h : Inv c s) (hw : s.work = l ++ [a]) (hx : c[a]? = some x) (hd : s.f a = some d) :
    Inv c (roundS c a x d { s with work := l }) := by
  have hal : a ∉ l := by
    have := h.nodup
    rw [hw] at this
    intro hm
    exact (List.nodup_append.1 this).2.2 a hm a (by simp) rfl
  have hnd : l.Nodup := by
    have := h.nodup
    rw [hw] at this
    exact (List.nodup_append.1 this).1
  have hlw : ∀ i, i ∉ l → i ≠ a → i ∉ s.work := fun i h1 h2 => by rw [hw]; simp [h1, h2]
  have hra := (h.dom a d hd).2
  unfold roundS
  by_cases hv : iV x = true
  · rw [if_pos hv]
    have V := Visited.fold c.length (d - iP x + iU x) (iT x a) (markS x d { s with work := l })
    generalize hs' : (iT x a).foldl (fun s t => visitS c.length t (d - iP x + iU x) s) (markS x d { s with work := l }) = s' at V ⊢
    have m1 : (markS x d { s with work := l }).f = s.f := rfl
    have m2 : (markS x d { s with work := l }).work = l := rfl
    have m3 : (markS x d { s with work := l }).most = max s.most (max d (d - iP x + iU x)) := rfl
    have m4 : (markS x d { s with work := l }).sound = if iP x > d ∨ max s.most (max d (d - iP x + iU x)) > 64 then false else s.sound := rfl
    have hmost : s'.most = max s.most (max d (d - iP x + iU x)) := V.most.trans m3
    have hsnd : s'.sound = true → s.sound = true ∧ iP x ≤ d ∧ max s.most (max d (d - iP x + iU x)) ≤ 64 := fun hh => by
      have := (V.good hh).1
      rw [m4] at this
      split at this
      · cases this
      · exact ⟨this, by omega, by omega⟩
    obtain ⟨l2, w1, w2, w3, w4⟩ := V.work
    rw [m2] at w1
    have hnew : ∀ i e, s'.f i = some e → s.f i = some e ∨ (s.f i = none ∧ (i : Int) ∈ iT x a ∧ i < c.length ∧ e = d - iP x + iU x) := V.new
    have hforced : s.sound = true → ∀ D, Good c D → ∀ i e, s'.f i = some e → D i = some e := fun hh D hD i e he => by
      rcases hnew i e he with h1 | ⟨_, h2, _, h4⟩
      · exact h.forced hh D hD i e h1
      · obtain ⟨x', hx', _, _, _, ht⟩ := hD.2 a d (h.forced hh D hD a d hd)
        rw [hx] at hx'
        cases hx'
        obtain ⟨n, e1, e2⟩ := ht _ h2
        have : i = n := by omega
        rw [this, e2, h4]
    refine { zero := V.mono _ _ h.zero, dom := fun i e he => ?_, work := fun i hi => ?_, nodup := ?_, closed := fun i e y he hn hy n ht hl => ?_, done := fun hh i e he hn => ?_, forced := fun hh => hforced (hsnd hh).1, le64 := fun hh i e he => ?_, bad := fun hh D hD => ?_, most0 := ?_, most64 := fun hh => ?_, mostIs := fun hh => ?_ }
    · rcases hnew i e he with h1 | ⟨_, h2, h3, _⟩
      · exact h.dom i e h1
      · exact ⟨h3, .step hra hx h2 h3⟩
    · rw [w1] at hi
      rcases List.mem_append.1 hi with hi | hi
      · obtain ⟨e, he⟩ := h.work i (by rw [hw]; simp [hi])
        exact ⟨e, V.mono _ _ he⟩
      · exact ⟨_, (w3 i hi).2⟩
    · rw [w1]
      refine List.nodup_append.2 ⟨hnd, w2, fun i hi j hj => ?_⟩
      rintro rfl
      obtain ⟨e, he⟩ := h.work i (by rw [hw]; simp [hi])
      have := (w3 i hj).1
      rw [m1, he] at this
      cases this
    · have hsi : s.f i = some e := by
        rcases hnew i e he with h1 | ⟨h1, _⟩
        · exact h1
        · exact absurd (w4 i e he h1) (fun hm => hn (by rw [w1]; simp [hm]))
      by_cases hia : i = a
      · subst hia
        rw [hx] at hy
        cases hy
        exact V.some_ n ht hl
      · obtain ⟨e', he'⟩ := Option.isSome_iff_exists.1 (h.closed i e y hsi (hlw i (fun hm => hn (by rw [w1]; simp [hm])) hia) hy n ht hl)
        simp [V.mono _ _ he']
    · obtain ⟨q1, q2, q3⟩ := hsnd hh
      have hsi : s.f i = some e := by
        rcases hnew i e he with h1 | ⟨h1, _⟩
        · exact h1
        · exact absurd (w4 i e he h1) (fun hm => hn (by rw [w1]; simp [hm]))
      by_cases hia : i = a
      · subst hia
        rw [hd] at hsi
        cases hsi
        refine ⟨x, hx, hv, q2, by omega, by omega, by omega, fun t ht => ?_⟩
        obtain ⟨n, e1, _, e3⟩ := (V.good hh).2 t ht
        exact ⟨n, e1, e3⟩
      · obtain ⟨y, y1, y2, y3, y4, y5, y6, y7⟩ := h.done q1 i e hsi (hlw i (fun hm => hn (by rw [w1]; simp [hm])) hia)
        refine ⟨y, y1, y2, y3, y4, by omega, by omega, fun t ht => ?_⟩
        obtain ⟨n, e1, e2⟩ := y7 t ht
        exact ⟨n, e1, V.mono _ _ e2⟩
    · obtain ⟨q1, q2, q3⟩ := hsnd hh
      rcases hnew i e he with h1 | ⟨_, _, _, h4⟩
      · exact h.le64 q1 i e h1
      · omega
    · cases hs0 : s.sound with
      | false => exact h.bad hs0 D hD
      | true =>
        obtain ⟨x', hx', g1, g2, g3, g4⟩ := hD.2 a d (h.forced hs0 D hD a d hd)
        rw [hx] at hx'
        cases hx'
        have hd64 := h.le64 hs0 a d hd
        have hm64 := h.most64 hs0
        rcases V.bad hh with hb | ⟨t, ht, hb⟩
        · rw [m4, if_neg (by omega), hs0] at hb
          cases hb
        · obtain ⟨n, e1, e2⟩ := g4 t ht
          have hn := hD.lt e2
          rcases hb with hb | ⟨n', f1, d', f2, f3⟩
          · omega
          · have : n = n' := by omega
            subst this
            have := hforced hs0 D hD n d' f2
            rw [e2] at this
            exact f3 (Option.some.inj this).symm
    · have := h.most0; omega
    · obtain ⟨q1, q2, q3⟩ := hsnd hh; omega
    · obtain ⟨q1, q2, q3⟩ := hsnd hh
      rcases h.mostIs q1 with h0 | ⟨i, e, y, y1, y2, y3⟩
      · by_cases hc : s'.most = 0
        · exact .inl hc
        · refine .inr ⟨a, d, x, V.mono _ _ hd, hx, by omega⟩
      · by_cases hc : s'.most = s.most
        · exact .inr ⟨i, e, y, V.mono _ _ y1, y2, by omega⟩
        · exact .inr ⟨a, d, x, V.mono _ _ hd, hx, by omega⟩
  · rw [if_neg hv]
    refine { zero := h.zero, dom := h.dom, work := fun i hi => h.work i (by rw [hw]; simp [show i ∈ l from hi]), nodup := hnd, closed := fun i e y he hn hy n ht hl => ?_, done := fun hh => by simp at hh, forced := fun hh => by simp at hh, le64 := fun hh => by simp at hh, bad := fun _ D hD => ?_, most0 := h.most0, most64 := fun hh => by simp at hh, mostIs := fun hh => by simp at hh }
    · by_cases hia : i = a
      · subst hia
        rw [hx] at hy
        cases hy
        simp only [Bool.not_eq_true] at hv
        have : iT x i = [] := by unfold iT targetsI; unfold iV at hv; simp [hv]
        rw [this] at ht
        cases ht
      · exact h.closed i e y he (hlw i hn hia) hy n ht hl
    · cases hs0 : s.sound with
      | false => exact h.bad hs0 D hD
      | true =>
        obtain ⟨x', hx', g1, _⟩ := hD.2 a d (h.forced hs0 D hD a d hd)
        rw [hx] at hx'
        cases hx'
        exact hv g1

/-- what the visits come to at the end -/
structure Fin (c : List Ins) (f : Nat → Option Int) (sound : Bool) (most : Int) : Prop where
  reach : ∀ i, (f i).isSome = true ↔ Reach c i
  good : sound = true → Good c f
  forced : sound = true → ∀ D, Good c D → ∀ i d, f i = some d → D i = some d
  bad : sound = false → ∀ D, ¬ Good c D
  lt : ∀ i d, f i = some d → i < c.length
  most0 : 0 ≤ most
  most64 : sound = true → most ≤ 64
  mostLe : sound = true → ∀ i d x, f i = some d → c[i]? = some x → d ≤ most ∧ d - iP x + iU x ≤ most
  mostIs : sound = true → most = 0 ∨ ∃ i d x, f i = some d ∧ c[i]? = some x ∧ (most = d ∨ most = d - iP x + iU x)

theorem Inv.fin {c : List Ins} {s : VS} (h : Inv c s) (hw : s.work = []) : Fin c s.f s.sound s.most where
  reach := fun i => ⟨fun hs => by obtain ⟨d, hd⟩ := Option.isSome_iff_exists.1 hs; exact (h.dom i d hd).2, fun hr => by
    induction hr with
    | zero _ => simp [h.zero]
    | step _ hx ht hl ih =>
      obtain ⟨d, hd⟩ := Option.isSome_iff_exists.1 ih
      exact h.closed _ d _ hd (by simp [hw]) hx _ ht hl⟩
  good := fun hs => ⟨h.zero, fun i d hd => by
    obtain ⟨x, h1, h2, h3, h4, _, _, h7⟩ := h.done hs i d hd (by simp [hw])
    exact ⟨x, h1, h2, h3, h4, h7⟩⟩
  forced := h.forced
  bad := h.bad
  lt := fun i d hd => (h.dom i d hd).1
  most0 := h.most0
  most64 := h.most64
  mostLe := fun hs i d x hd hx => by
    obtain ⟨y, h1, _, _, _, h5, h6, _⟩ := h.done hs i d hd (by simp [hw])
    rw [hx] at h1
    cases h1
    exact ⟨h5, h6⟩
  mostIs := h.mostIs
end Go.Proofs.YtdmbcgkfecmakaaDoor
