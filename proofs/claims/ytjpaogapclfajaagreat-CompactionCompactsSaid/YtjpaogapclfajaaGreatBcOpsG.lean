/- Parts of the proof: OpsG. -/
import Derived.Deep.Fields
import Derived.Deep.Slices
import Derived.OpenShut
import Derived.ProofKit
import Derived.SizedLaws
import Derived.Test.YtjpaogapclfajaaGreatBcA
import Derived.Test.YtjpaogapclfajaaGreatChecked
import Derived.Test.YtjpaogapclfajaaGreatBc0
set_option linter.unusedVariables false
set_option linter.unusedSimpArgs false
set_option linter.unusedSectionVars false
namespace Go.Proofs.YtjpaogapclfajaaGreat
open Go.ChangeShapes Go.WideShapes Go.ChangeAt Go.RowKit Go.Deep
set_option maxRecDepth 100000
/-- the slice at A with n elements of s cells reads as xs, each in the way of R -/
def SlR {α : Type} (R : World → α → List Value → Prop) (w : World) (s : Nat) (A : Option Addr) (n : Nat) (xs : List α) : Prop :=
 xs.length = n ∧ (n = 0 ∨ ∃ b o, A = some ⟨b, o, none⟩ ∧ b < w.heap.size ∧ ∀ i x, xs[i]? = some x → ∃ r : List Value, r.length = s ∧ R w x r ∧ ∀ j v, r[j]? = some v → w.cell? ⟨b, o + i * s + j, none⟩ = some v)
theorem SlR.nil {α : Type} (R : World → α → List Value → Prop) (w : World) (s : Nat) (A : Option Addr) : SlR R w s A 0 [] := ⟨rfl, .inl rfl⟩
theorem SlR.get {α : Type} {R : World → α → List Value → Prop} {w : World} {s n : Nat} {A : Option Addr} {xs : List α} (h : SlR R w s A n xs) {k : Nat} (hk : k < n) :
  ∃ b o x r, A = some ⟨b, o, none⟩ ∧ b < w.heap.size ∧ xs[k]? = some x ∧ r.length = s ∧ R w x r ∧ ∀ j v, r[j]? = some v → w.cell? ⟨b, o + k * s + j, none⟩ = some v := by
 rcases h.2 with h0 | ⟨b, o, hA, hb, hc⟩
 ·omega
 ·obtain ⟨x, hx⟩ : ∃ x, xs[k]? = some x := ⟨_, List.getElem?_eq_getElem (by rw [h.1]; exact hk)⟩
  obtain ⟨r, h1, h2, h3⟩ := hc k x hx
  exact ⟨b, o, x, r, hA, hb, hx, h1, h2, h3⟩
theorem SlR.keep {α : Type} {R : World → α → List Value → Prop} {w w' : World} {s n : Nat} {A : Option Addr} {xs : List α} (h : SlR R w s A n xs) (hs : w.heap.size ≤ w'.heap.size)
  (hk : ∀ b o v, w.cell? ⟨b, o, none⟩ = some v → w'.cell? ⟨b, o, none⟩ = some v) (hR : ∀ x r, R w x r → R w' x r) : SlR R w' s A n xs := by
 refine ⟨h.1, ?_⟩
 rcases h.2 with h0 | ⟨b, o, hA, hb, hc⟩
 ·exact .inl h0
 ·refine .inr ⟨b, o, hA, by omega, fun i x hx => ?_⟩
  obtain ⟨r, h1, h2, h3⟩ := hc i x hx
  exact ⟨r, h1, hR x r h2, fun j v hv => hk _ _ _ (h3 j v hv)⟩
theorem keep_below {w w' : World} (hb : Below w.heap.size w w') : ∀ b o v, w.cell? ⟨b, o, none⟩ = some v → w'.cell? ⟨b, o, none⟩ = some v := fun b o v hv => (hb.cell (p := ⟨b, o, none⟩) (cell_lt hv)).trans hv
/-- every slice and string of a datum is within the reach -/
def Wgt {H : Type} (P : Program) (t : TypeId) (d : DataW H) : Prop := ∀ n ∈ d.weights P t, n ≤ reachBytes
theorem weightsAll_mem {H : Type} {P : Program} {e : TypeId} {l : List (DataW H)} {d : DataW H} (hd : d ∈ l) {n : Nat} (hn : n ∈ d.weights P e) : n ∈ DataW.weightsAll P e l := by
 induction l with
 | nil => cases hd
 | cons a r ih =>
  unfold DataW.weightsAll
  rcases List.mem_cons.1 hd with rfl | h
  ·exact List.mem_append_left _ hn
  ·exact List.mem_append_right _ (ih h)
theorem weightsEach_mem {H : Type} {P : Program} : ∀ {ts : List TypeId} {l : List (DataW H)} (i : Nat) {t : TypeId} {d : DataW H}, ts[i]? = some t → l[i]? = some d → ∀ {n : Nat}, n ∈ d.weights P t → n ∈ DataW.weightsEach P ts l
 | [], _, i, t, d, ht, _, n, _ => by cases ht
 | _ :: _, [], i, t, d, _, hd, n, _ => by cases hd
 | a :: ts, b :: l, 0, t, d, ht, hd, n, hn => by
  simp at ht hd; subst ht; subst hd
  unfold DataW.weightsEach
  exact List.mem_append_left _ hn
 | a :: ts, b :: l, i + 1, t, d, ht, hd, n, hn => by
  unfold DataW.weightsEach
  exact List.mem_append_right _ (weightsEach_mem i (by simpa using ht) (by simpa using hd) hn)
theorem Wgt.part {H : Type} {P : Program} {t : TypeId} {fs : Array Field} (ht : P.underlying t = some (.struct fs)) {parts : List (DataW H)} (h : Wgt P t (.agg parts)) (i : Nat) {f : Field} {d : DataW H} (hf : fs[i]? = some f) (hd : parts[i]? = some d) : Wgt P f.type d := fun n hn =>
 h n (by
  simp only [DataW.weights, ht]
  exact weightsEach_mem i (by simpa using ⟨f, hf, rfl⟩) hd hn)
theorem Wgt.str {H : Type} {P : Program} {t : TypeId} {s : ByteArray} (h : Wgt (H := H) P t (.lit (.string s.data.toList))) : s.size ≤ 140737488351232 := by
 have := h s.data.toList.length (by simp [DataW.weights])
 unfold reachBytes at this
 have e : s.data.toList.length = s.size := rfl
 omega
theorem wgt_of {H : Type} {P : Program} {ts : List TypeId} {ds : List (DataW H)} (h : (DataW.weightsEach P ts ds).all (· ≤ reachBytes) = true) {j : Nat} {t : TypeId} {d : DataW H} (ht : ts[j]? = some t) (hd : ds[j]? = some d) : Wgt P t d :=
 fun n hn => by simpa using List.all_eq_true.1 h n (DataW.weights_mem_each ht hd n hn)
section
variable {H : Type} {enc : TypeId × Value → H} {w : World} {base : Nat} {spare : Nat → Bool} {held : Bool}
theorem spot_of_cell {a : Addr} {v : Value} (h : w.cell? a = some v) : a = ⟨a.block, a.off, none⟩ := by
 have := World.cell?_spot h
 cases a
 simp_all
theorem choose_list {α : Type} {p : Nat → α → Prop} : ∀ n, (∀ i, i < n → ∃ x, p i x) → ∃ l : List α, l.length = n ∧ ∀ i x, l[i]? = some x → p i x
 | 0, _ => ⟨[], rfl, fun i x h => by cases h⟩
 | n + 1, h => by
  obtain ⟨l, h1, h2⟩ := choose_list n (fun i hi => h i (by omega))
  obtain ⟨x, hx⟩ := h n (by omega)
  refine ⟨l ++ [x], by simp [h1], fun i y hy => ?_⟩
  by_cases hi : i < n
  ·rw [List.getElem?_append_left (by omega)] at hy
   exact h2 i y hy
  ·have hin : i = n := by
    have := (List.getElem?_eq_some_iff.1 hy).1
    simp [h1] at this
    omega
   subst hin
   rw [List.getElem?_append_right (by omega), h1] at hy
   simp at hy
   exact hy ▸ hx
/-- a slice of instructions reads as a code -/
theorem open_slR {α : Type} (R : World → α → List Value → Prop) {t e : TypeId} {s bt : Nat} (ht : Tryz.prog.underlying t = some (.slice e)) (hs : Tryz.prog.cellsOf e = s) (hbt : Tryz.prog.bytesOf e = bt) (hb1 : 1 ≤ bt) (hs0 : 1 ≤ s)
  (hR : ∀ fuel cs x, cs.length = s → DataW.trod enc Tryz.prog w base spare held fuel e cs = some x → Wgt Tryz.prog e x.1 → ∃ y, R w y cs)
  {fuel : Nat} {v : Value} {x : DataW H × List MemPlace} (h : DataW.trod enc Tryz.prog w base spare held fuel t [v] = some x) (hw : Wgt Tryz.prog t x.1) :
  ∃ A n c, v = .slice A n c ∧ n ≤ c ∧ n ≤ 140737488351232 ∧ ∃ xs : List α, SlR R w s A n xs := by
 rcases open_slice ht h with ⟨h0, _⟩ | ⟨a, len, cap, m, n, D, Pl, hcs, hb, hl, hm, hmm, hx, hi⟩
 ·simp only [List.cons.injEq, and_true] at h0
  subst h0
  exact ⟨none, 0, 0, rfl, Nat.le_refl _, by omega, [], SlR.nil _ _ _ _⟩
 ·simp only [List.cons.injEq, and_true] at hcs
  subst hcs
  have hml : len ≤ m := by rw [hmm]; split <;> omega
  rw [hx] at hw
  have hlen : len ≤ 140737488351232 := by
   have := hw ((len + (m - len)) * bt) (by simp [DataW.weights, ht, hbt])
   simp only [reachBytes] at this
   have h2 : (len + (m - len)) * 1 ≤ (len + (m - len)) * bt := Nat.mul_le_mul_left _ hb1
   omega
  refine ⟨some a, len, cap, rfl, hl, hlen, ?_⟩
  obtain ⟨l, hl1, hp⟩ := choose_list (α := α × List Value) (p := fun i y => y.2.length = s ∧ R w y.1 y.2 ∧ ∀ j v, y.2[j]? = some v → w.cell? (a.add (i * s + j)) = some v) len (fun i hil => by
   obtain ⟨cs', hc, htr⟩ := hi i (by omega)
   rw [hs] at hc
   obtain ⟨_, hcl, hat⟩ := World.cells?_some hc
   have hwi : Wgt Tryz.prog e (D i, Pl i).1 := fun n hn => hw n (by
    simp only [DataW.weights, ht]
    refine List.mem_cons_of_mem _ (List.mem_append_left _ (weightsAll_mem (d := D i) ?_ hn))
    exact List.mem_map.2 ⟨i, by simpa using hil, rfl⟩)
   obtain ⟨y, hy⟩ := hR n cs' _ hcl htr hwi
   refine ⟨(y, cs'), hcl, hy, fun j v hv => ?_⟩
   have hj : j < s := by
    have := (List.getElem?_eq_some_iff.1 hv).1
    rw [hcl] at this
    exact this
   have g := hat j hj
   rw [Go.Deep.add_add] at g
   rw [← hv]
   simpa using g)
  refine ⟨l.map (·.1), by simp [hl1], ?_⟩
  rcases Nat.eq_zero_or_pos len with h0 | h0
  ·exact .inl h0
  ·focus
    obtain ⟨y0, hy0⟩ : ∃ y, l[0]? = some y := ⟨_, List.getElem?_eq_getElem (by omega)⟩
    obtain ⟨q1, q2, q3⟩ := hp 0 y0 hy0
    obtain ⟨v0, hv0⟩ : ∃ v, y0.2[0]? = some v := ⟨_, List.getElem?_eq_getElem (by omega)⟩
    have q0 := q3 0 v0 hv0
    have ea : a = ⟨a.block, a.off, none⟩ := by
     have := spot_of_cell q0
     simpa [Addr.add] using this
    have eadd : ∀ n, a.add n = ⟨a.block, a.off + n, none⟩ := fun n => by
     unfold Addr.add
     split
     ·rename_i h; subst h; exact ea
     ·rfl
    refine .inr ⟨a.block, a.off, by rw [← ea], ?_, fun i x hx => ?_⟩
    ·have := cell_lt q0
     rw [eadd] at this
     exact this
    ·obtain ⟨y, hy, rfl⟩ : ∃ y, l[i]? = some y ∧ y.1 = x := by simpa using hx
     obtain ⟨r1, r2, r3⟩ := hp i y hy
     refine ⟨y.2, r1, r2, fun j v hv => ?_⟩
     have := r3 j v hv
     rw [eadd] at this
     rw [Nat.add_assoc]
     exact this
theorem SlR.all {α : Type} {R : World → α → List Value → Prop} {s n : Nat} {A : Option Addr} {xs : List α} (h : SlR R w s A n xs) {P : α → Prop} (hP : ∀ x r, R w x r → P x) : ∀ x ∈ xs, P x := fun x hx => by
 obtain ⟨i, hi⟩ := List.mem_iff_getElem?.1 hx
 have hil := (List.getElem?_eq_some_iff.1 hi).1
 obtain ⟨b, o, y, r, _, _, hy, _, hR, _⟩ := h.get (k := i) (by rw [← h.1]; exact hil)
 rw [hi] at hy
 cases hy
 exact hP _ _ hR
end
theorem cellsHdr : Tryz.prog.cellsOf 55 = 3 := by kernel_rfl
theorem cellsInt : Tryz.prog.cellsOf 3 = 1 := by kernel_rfl
theorem cellsU8 : Tryz.prog.cellsOf 5 = 1 := by kernel_rfl
theorem cellsU64 : Tryz.prog.cellsOf 51 = 1 := by kernel_rfl
theorem cellsBool : Tryz.prog.cellsOf 4 = 1 := by kernel_rfl
theorem wf_i64b {x : Int} (h : (Lit.int .i64 x).wf = true) : -9223372036854775808 ≤ x ∧ x ≤ 9223372036854775807 := by
 simp [Lit.wf, IntKind.min, IntKind.max, IntKind.signed, IntKind.bits] at h
 omega
section
variable {H : Type} {enc : TypeId × Value → H} {w : World} {base : Nat} {spare : Nat → Bool} {held : Bool}
theorem open_hdr {fuel : Nat} {cs : List Value} {x : DataW H × List MemPlace} (h : DataW.trod enc Tryz.prog w base spare held fuel 55 cs = some x) : ∃ hd : Hdr, cs = [.int .i64 hd.k, .int .i64 hd.c, .int .i64 hd.f] := by
 obtain ⟨xs, n, _, _, hlen, hxl, hg⟩ := DataW.trod_struct Tryz.underlying55 h
 rw [cellsHdr] at hlen
 match cs, hlen with
 | [u0, u1, u2], _ =>
  match xs, hxl with
  | [y0, y1, y2], _ =>
   have h0 : DataW.trod enc Tryz.prog w base spare held n 3 (([u0, u1, u2].drop 0).take (Tryz.prog.cellsOf 3)) = some y0 := hg 0 _ rfl
   have h1 : DataW.trod enc Tryz.prog w base spare held n 3 (([u0, u1, u2].drop 1).take (Tryz.prog.cellsOf 3)) = some y1 := hg 1 _ rfl
   have h2 : DataW.trod enc Tryz.prog w base spare held n 3 (([u0, u1, u2].drop 2).take (Tryz.prog.cellsOf 3)) = some y2 := hg 2 _ rfl
   rw [cellsInt] at h0 h1 h2
   obtain ⟨a, e0, _, w0⟩ := DataW.trod_int Tryz.underlying3 (show DataW.trod enc Tryz.prog w base spare held n 3 [u0] = some y0 from h0)
   obtain ⟨b, e1, _, w1⟩ := DataW.trod_int Tryz.underlying3 (show DataW.trod enc Tryz.prog w base spare held n 3 [u1] = some y1 from h1)
   obtain ⟨c, e2, _, w2⟩ := DataW.trod_int Tryz.underlying3 (show DataW.trod enc Tryz.prog w base spare held n 3 [u2] = some y2 from h2)
   simp only [List.cons.injEq, and_true] at e0 e1 e2
   subst e0 e1 e2
   exact ⟨⟨a, b, c⟩, rfl⟩
end
end Go.Proofs.YtjpaogapclfajaaGreat
