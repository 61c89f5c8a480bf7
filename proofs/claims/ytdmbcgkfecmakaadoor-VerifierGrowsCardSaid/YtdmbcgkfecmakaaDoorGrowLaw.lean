/- Plain facts for refmeshlaw43.VerifierGrows: a class more, a method less. Classes in memory as flat rows. -/
import Derived.Test.YtdmbcgkfecmakaaDoorCheck
import Derived.Test.YtdmbcgkfecmakaaDoorOwn
namespace Go.Proofs.YtdmbcgkfecmakaaDoor
set_option linter.unusedVariables false
set_option linter.unusedSimpArgs false
set_option linter.unusedSectionVars false
open Go.RowKit

theorem nfOf_le (cs : List Cls) (x : Cls) (i : Nat) : nfOf cs i ≤ nfOf (cs ++ [x]) i := by
  unfold nfOf
  by_cases h : i < cs.length
  · rw [List.getElem?_append_left h]
    exact Nat.le_refl _
  · rw [List.getElem?_eq_none (by omega)]
    exact Nat.zero_le _
theorem exists_more {cs : List Cls} {x : Cls} {nf nn : Nat} {l : Int} {y : Ins} (h : existsB cs nf l nn y = true) : existsB (cs ++ [x]) nf l nn y = true := by
  unfold existsB at h ⊢
  simp only [Bool.and_eq_true] at h ⊢
  obtain ⟨h0, ⟨⟨h1, h2⟩, h3⟩, h4⟩ := h
  refine ⟨h0, ⟨⟨h1, h2⟩, ?_⟩, h4⟩
  unfold condB at h3 ⊢
  rw [Bool.or_eq_true] at h3 ⊢
  rcases h3 with h3 | h3
  · exact .inl h3
  · refine .inr ?_
    simp only [fineB, Bool.and_eq_true, decide_eq_true_eq] at h3 ⊢
    have := nfOf_le cs x (y.2.1 - 1).toNat
    rw [List.length_append, List.length_singleton]
    omega
theorem more_large {cs : List Cls} {x : Cls} (h : ¬ largeP cs) (hn : cs.length < 60) (hf : x.fields.length ≤ 30) (hm : x.ms = []) : ¬ largeP (cs ++ [x]) := by
  rintro (h1 | ⟨k, hk, h1⟩)
  · rw [List.length_append, List.length_singleton] at h1
    omega
  · rcases List.mem_append.1 hk with hk | hk
    · exact h (.inr ⟨k, hk, h1⟩)
    · obtain rfl := List.mem_singleton.1 hk
      rcases h1 with h1 | h1 | ⟨m, h1, _⟩
      · omega
      · rw [hm] at h1; simp at h1
      · rw [hm] at h1; cases h1
theorem more_bad {cs : List Cls} {x : Cls} (h : ¬ badP cs) (hm : x.ms = []) : ¬ badP (cs ++ [x]) := by
  rintro ⟨k, hk, h1⟩
  rcases List.mem_append.1 hk with hk | hk
  · refine h ⟨k, hk, ?_⟩
    rcases h1 with h1 | ⟨m, hmm, h1⟩
    · exact .inl h1
    · refine .inr ⟨m, hmm, ?_⟩
      rcases h1 with h1 | h1 | ⟨y, hy, h1⟩ | h1
      · exact .inl h1
      · exact .inr (.inl h1)
      · refine .inr (.inr (.inl ⟨y, hy, ?_⟩))
        cases he : existsB cs k.fields.length m.l m.names.length y with
        | false => rfl
        | true => rw [exists_more he] at h1; cases h1
      · exact .inr (.inr (.inr h1))
  · obtain rfl := List.mem_singleton.1 hk
    rcases h1 with ⟨_, h1⟩ | ⟨m, hmm, _⟩
    · rw [hm] at h1; simp at h1
    · rw [hm] at hmm; cases hmm

/-- a class without its last method -/
def lessC (k : Cls) : Cls := { k with ms := k.ms.take (k.ms.length - 1) }
theorem nfOf_less (cs : List Cls) (k : Cls) (i : Nat) : nfOf (cs ++ [lessC k]) i = nfOf (cs ++ [k]) i := by
  unfold nfOf
  by_cases h : i < cs.length
  · rw [List.getElem?_append_left h, List.getElem?_append_left h]
  · by_cases h1 : i = cs.length
    · subst h1
      rw [List.getElem?_append_right (Nat.le_refl _), List.getElem?_append_right (Nat.le_refl _), Nat.sub_self]
      rfl
    · rw [List.getElem?_eq_none (by simp; omega), List.getElem?_eq_none (by simp; omega)]
theorem exists_less (cs : List Cls) (k : Cls) (nf nn : Nat) (l : Int) (y : Ins) : existsB (cs ++ [lessC k]) nf l nn y = existsB (cs ++ [k]) nf l nn y := by
  unfold existsB condB
  have : fineB (cs ++ [lessC k]) nf l nn y 2 = fineB (cs ++ [k]) nf l nn y 2 := by
    simp only [fineB]
    rw [nfOf_less, List.length_append, List.length_append]
    rfl
  rw [this]
  rfl
theorem less_large {cs : List Cls} {k : Cls} (h : ¬ largeP (cs ++ [k])) : ¬ largeP (cs ++ [lessC k]) := by
  rintro (h1 | ⟨x, hx, h1⟩)
  · refine h (.inl ?_)
    rw [List.length_append, List.length_singleton] at h1 ⊢
    exact h1
  · rcases List.mem_append.1 hx with hx | hx
    · exact h (.inr ⟨x, List.mem_append_left _ hx, h1⟩)
    · obtain rfl := List.mem_singleton.1 hx
      refine h (.inr ⟨k, List.mem_append_right _ (List.mem_singleton.2 rfl), ?_⟩)
      rcases h1 with h1 | h1 | ⟨m, hm, h1⟩
      · exact .inl h1
      · refine .inr (.inl ?_)
        simp only [lessC, List.length_take] at h1
        omega
      · exact .inr (.inr ⟨m, List.mem_of_mem_take hm, h1⟩)
theorem less_bad {cs : List Cls} {k : Cls} (h : ¬ badP (cs ++ [k])) : ¬ badP (cs ++ [lessC k]) := by
  rintro ⟨x, hx, h1⟩
  have key : ∀ nf m, badM (cs ++ [lessC k]) nf m → badM (cs ++ [k]) nf m := by
    intro nf m h1
    rcases h1 with h1 | h1 | ⟨y, hy, h1⟩ | h1
    · exact .inl h1
    · exact .inr (.inl h1)
    · exact .inr (.inr (.inl ⟨y, hy, by rw [← exists_less]; exact h1⟩))
    · exact .inr (.inr (.inr h1))
  rcases List.mem_append.1 hx with hx | hx
  · refine h ⟨x, List.mem_append_left _ hx, ?_⟩
    rcases h1 with h1 | ⟨m, hm, h1⟩
    · exact .inl h1
    · exact .inr ⟨m, hm, key _ _ h1⟩
  · obtain rfl := List.mem_singleton.1 hx
    refine h ⟨k, List.mem_append_right _ (List.mem_singleton.2 rfl), ?_⟩
    rcases h1 with ⟨h0, h1⟩ | ⟨m, hm, h1⟩
    · refine .inl ⟨h0, ?_⟩
      simp only [lessC, List.length_take] at h1
      omega
    · exact .inr ⟨m, List.mem_of_mem_take hm, key _ _ h1⟩

/-- a flat row of cells that reads as xs -/
def FlR {α : Type} (R : World → α → List Value → Prop) (w : World) (s : Nat) (fl : List Value) (xs : List α) : Prop :=
  fl.length = xs.length * s ∧ ∀ i x, xs[i]? = some x → R w x ((fl.drop (i * s)).take s)
theorem FlR.keep {α : Type} {R : World → α → List Value → Prop} {w w' : World} {s : Nat} {fl : List Value} {xs : List α} (h : FlR R w s fl xs) (hR : ∀ x r, R w x r → R w' x r) : FlR R w' s fl xs :=
  ⟨h.1, fun i x hx => hR _ _ (h.2 i x hx)⟩
theorem take_drop_get {s : Nat} {fl : List Value} {i j : Nat} (hj : j < s) : ((fl.drop (i * s)).take s)[j]? = fl[i * s + j]? := by
  rw [List.getElem?_take_of_lt hj, List.getElem?_drop]
theorem SlR.flat {α : Type} {R : World → α → List Value → Prop} {w : World} {s n : Nat} {A : Option Addr} {xs : List α} (h : SlR R w s A n xs) (hs : 0 < s) :
    ∃ fl, FlR R w s fl xs ∧ (n = 0 ∨ ∃ b o, A = some ⟨b, o, none⟩ ∧ b < w.heap.size ∧ ∀ j v, fl[j]? = some v → w.cell? ⟨b, o + j, none⟩ = some v) := by
  obtain ⟨hl, h⟩ := h
  rcases h with h0 | ⟨b, o, hA, hb, hc⟩
  · subst h0
    have : xs = [] := List.length_eq_zero_iff.1 hl
    subst this
    exact ⟨[], ⟨by simp, fun i x hx => by simp at hx⟩, .inl rfl⟩
  · have key : ∀ (ys : List α) (k : Nat), (∀ i x, ys[i]? = some x → xs[k + i]? = some x) → ∃ fl : List Value, FlR R w s fl ys ∧ ∀ j v, fl[j]? = some v → w.cell? ⟨b, o + k * s + j, none⟩ = some v := by
      intro ys
      induction ys with
      | nil => exact fun k _ => ⟨[], ⟨by simp, fun i x hx => by simp at hx⟩, fun j v hv => by simp at hv⟩
      | cons y ys ih =>
        intro k hk
        obtain ⟨fl, ⟨hf1, hf2⟩, hf3⟩ := ih (k + 1) fun i x hx => by
          have := hk (i + 1) x (by simpa using hx)
          rwa [show k + 1 + i = k + (i + 1) by omega]
        obtain ⟨r, hr1, hr2, hr3⟩ := hc k y (by simpa using hk 0 y rfl)
        refine ⟨r ++ fl, ⟨?_, fun i x hx => ?_⟩, fun j v hv => ?_⟩
        · rw [List.length_append, hr1, hf1, List.length_cons, Nat.add_mul, Nat.one_mul, Nat.add_comm]
        · cases i with
          | zero =>
            simp at hx
            subst hx
            rw [Nat.zero_mul, List.drop_zero, List.take_append_of_le_length (by omega), List.take_of_length_le (by omega)]
            exact hr2
          | succ i =>
            have := hf2 i x (by simpa using hx)
            rw [List.drop_append, show (i + 1) * s - r.length = i * s by rw [hr1, Nat.add_mul, Nat.one_mul]; omega, List.drop_eq_nil_of_le (by rw [hr1, Nat.add_mul, Nat.one_mul]; omega), List.nil_append]
            exact this
        · by_cases hj : j < s
          · rw [List.getElem?_append_left (by omega)] at hv
            exact hr3 j v hv
          · rw [List.getElem?_append_right (by omega)] at hv
            have := hf3 _ v hv
            rw [hr1] at this
            rw [show o + k * s + j = o + (k + 1) * s + (j - s) by rw [Nat.add_mul, Nat.one_mul]; omega]
            exact this
    obtain ⟨fl, h1, h2⟩ := key xs 0 fun i x hx => by rw [Nat.zero_add]; exact hx
    exact ⟨fl, h1, .inr ⟨b, o, hA, hb, fun j v hv => by have := h2 j v hv; rwa [Nat.zero_mul, Nat.add_zero] at this⟩⟩
theorem FlR.append {α : Type} {R : World → α → List Value → Prop} {w : World} {s : Nat} {fl gl : List Value} {xs ys : List α} (h : FlR R w s fl xs) (g : FlR R w s gl ys) : FlR R w s (fl ++ gl) (xs ++ ys) := by
  refine ⟨by rw [List.length_append, List.length_append, h.1, g.1, Nat.add_mul], fun i x hx => ?_⟩
  by_cases hi : i < xs.length
  · rw [List.getElem?_append_left hi] at hx
    have := h.2 i x hx
    have hle : i * s + s ≤ xs.length * s := by
      have := Nat.mul_le_mul_right s (show i + 1 ≤ xs.length by omega)
      rwa [Nat.add_mul, Nat.one_mul] at this
    rw [List.drop_append_of_le_length (by rw [h.1]; omega), List.take_append_of_le_length (by rw [List.length_drop, h.1]; omega)]
    exact this
  · rw [List.getElem?_append_right (by omega)] at hx
    have := g.2 _ x hx
    have hge : xs.length * s ≤ i * s := Nat.mul_le_mul_right s (by omega)
    rw [List.drop_append, h.1, List.drop_eq_nil_of_le (by rw [h.1]; exact hge), List.nil_append, ← Nat.sub_mul]
    exact this
theorem FlR.one {α : Type} {R : World → α → List Value → Prop} {w : World} {s : Nat} {fl : List Value} {x : α} (hl : fl.length = s) (h : R w x fl) : FlR R w s fl [x] := by
  refine ⟨by simp [hl], fun i y hy => ?_⟩
  cases i with
  | zero =>
    simp at hy
    subst hy
    rw [Nat.zero_mul, List.drop_zero, List.take_of_length_le (by omega)]
    exact h
  | succ i => simp at hy
theorem FlR.take {α : Type} {R : World → α → List Value → Prop} {w : World} {s : Nat} {fl : List Value} {xs : List α} (h : FlR R w s fl xs) (k : Nat) : FlR R w s (fl.take (k * s)) (xs.take k) := by
  have hlen : (fl.take (k * s)).length = (xs.take k).length * s := by
    rw [List.length_take, List.length_take, h.1]
    rcases Nat.le_total k xs.length with h1 | h1
    · rw [Nat.min_eq_left h1, Nat.min_eq_left (Nat.mul_le_mul_right s h1)]
    · rw [Nat.min_eq_right h1, Nat.min_eq_right (Nat.mul_le_mul_right s h1)]
  refine ⟨hlen, fun i x hx => ?_⟩
  have hi : i < k := by
    have := (List.getElem?_eq_some_iff.1 hx).1
    rw [List.length_take] at this
    omega
  rw [List.getElem?_take_of_lt hi] at hx
  have := h.2 i x hx
  have hle : i * s + s ≤ k * s := by
    have := Nat.mul_le_mul_right s (show i + 1 ≤ k by omega)
    rwa [Nat.add_mul, Nat.one_mul] at this
  rw [List.drop_take, List.take_take, Nat.min_eq_left (by omega)]
  exact this
theorem FlR.slR {α : Type} {R : World → α → List Value → Prop} {w : World} {s n : Nat} {fl : List Value} {xs : List α} {b o : Nat} (h : FlR R w s fl xs) (hn : n = xs.length) (hb : b < w.heap.size) (hc : ∀ j v, fl[j]? = some v → w.cell? ⟨b, o + j, none⟩ = some v) : SlR R w s (some ⟨b, o, none⟩) n xs := by
  refine ⟨hn.symm, .inr ⟨b, o, rfl, hb, fun i x hx => ⟨_, ?_, h.2 i x hx, fun j v hv => ?_⟩⟩⟩
  · have hi := (List.getElem?_eq_some_iff.1 hx).1
    have : i * s + s ≤ xs.length * s := by
      have := Nat.mul_le_mul_right s (show i + 1 ≤ xs.length by omega)
      rwa [Nat.add_mul, Nat.one_mul] at this
    rw [List.length_take, List.length_drop, h.1]
    omega
  · have hj : j < s := by
      have := (List.getElem?_eq_some_iff.1 hv).1
      rw [List.length_take] at this
      omega
    rw [take_drop_get hj] at hv
    rw [Nat.add_assoc]
    exact hc _ _ hv
theorem SlR.take {α : Type} {R : World → α → List Value → Prop} {w : World} {s n : Nat} {A : Option Addr} {xs : List α} (h : SlR R w s A n xs) {k : Nat} (hk : k ≤ n) : SlR R w s A k (xs.take k) := by
  refine ⟨by rw [List.length_take, h.1, Nat.min_eq_left hk], ?_⟩
  rcases h.2 with h0 | ⟨b, o, hA, hb, hc⟩
  · exact .inl (by omega)
  · refine .inr ⟨b, o, hA, hb, fun i x hx => hc i x ?_⟩
    have hi : i < k := by
      have := (List.getElem?_eq_some_iff.1 hx).1
      rw [List.length_take] at this
      omega
    rwa [List.getElem?_take_of_lt hi] at hx
theorem ClsR.less {w : World} {k : Cls} {F M : Option Addr} {fc mc : Nat} (h : ClsR w k [.string k.nm, .bool k.actor, .slice F k.fields.length fc, .slice M k.ms.length mc]) : ClsR w (lessC k) [.string k.nm, .bool k.actor, .slice F k.fields.length fc, .slice M (k.ms.length - 1) mc] := by
  obtain ⟨hok, F', c', M', d', he, h1, h2, h3, h4⟩ := h
  simp only [List.cons.injEq, Value.slice.injEq, true_and, and_true] at he
  obtain ⟨⟨rfl, rfl⟩, rfl, rfl⟩ := he
  have hl : (lessC k).ms.length = k.ms.length - 1 := by simp [lessC]
  refine ⟨⟨hok.nm, hok.fields, hok.lf, by rw [hl]; have := hok.lm; omega⟩, F, fc, M, mc, by rw [hl]; rfl, h1, h2, by rw [hl]; omega, ?_⟩
  rw [hl]
  exact h4.take (Nat.sub_le _ _)
theorem ClsR.one {w : World} {k : Cls} {r : List Value} (h : ClsR w k r) : r.length = 4 ∧ ∀ u ∈ r, u.oneCell' = true := by
  obtain ⟨_, F, c, M, d, rfl, _⟩ := h
  exact ⟨rfl, fun u hu => by simp at hu; rcases hu with rfl | rfl | rfl | rfl <;> rfl⟩
theorem FlR.ones {w : World} {fl : List Value} {xs : List Cls} (h : FlR ClsR w 4 fl xs) : ∀ u ∈ fl, u.oneCell' = true := by
  intro u hu
  obtain ⟨j, hj⟩ := List.mem_iff_getElem?.1 hu
  have hlt : j < xs.length * 4 := by
    have := (List.getElem?_eq_some_iff.1 hj).1
    rwa [h.1] at this
  have hx : xs[j / 4]? = some (xs[j / 4]'(by omega)) := List.getElem?_eq_getElem (by omega)
  have hR := (ClsR.one (h.2 _ _ hx)).2
  refine hR u (List.mem_iff_getElem?.2 ⟨j % 4, ?_⟩)
  rw [take_drop_get (Nat.mod_lt _ (by omega)), show j / 4 * 4 + j % 4 = j by omega]
  exact hj
end Go.Proofs.YtdmbcgkfecmakaaDoor
