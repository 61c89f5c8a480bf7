/- Programs of the byte code in memory: slices of structs, nested. -/
import Derived.Test.YtdmbcgkfecmakaaDoorExam
namespace Go.Proofs.YtdmbcgkfecmakaaDoor
set_option linter.unusedVariables false
set_option linter.unusedSimpArgs false
set_option linter.unusedSectionVars false
open Go.RowKit

structure Mth where
  nm : ByteArray
  p : Int
  l : Int
  code : List Ins
  names : List ByteArray
structure Cls where
  nm : ByteArray
  actor : Bool
  fields : List ByteArray
  ms : List Mth

def txtCells (l : List ByteArray) : List Value := l.map Value.string

/-- the slice at A with n elements of s cells reads as xs, each in the way of R -/
def SlR {α : Type} (R : World → α → List Value → Prop) (w : World) (s : Nat) (A : Option Addr) (n : Nat) (xs : List α) : Prop :=
  xs.length = n ∧ (n = 0 ∨ ∃ b o, A = some ⟨b, o, none⟩ ∧ b < w.heap.size ∧ ∀ i x, xs[i]? = some x → ∃ r : List Value, r.length = s ∧ R w x r ∧ ∀ j v, r[j]? = some v → w.cell? ⟨b, o + i * s + j, none⟩ = some v)
theorem SlR.nil {α : Type} (R : World → α → List Value → Prop) (w : World) (s : Nat) (A : Option Addr) : SlR R w s A 0 [] := ⟨rfl, .inl rfl⟩
theorem SlR.get {α : Type} {R : World → α → List Value → Prop} {w : World} {s n : Nat} {A : Option Addr} {xs : List α} (h : SlR R w s A n xs) {k : Nat} (hk : k < n) :
    ∃ b o x r, A = some ⟨b, o, none⟩ ∧ b < w.heap.size ∧ xs[k]? = some x ∧ r.length = s ∧ R w x r ∧ ∀ j v, r[j]? = some v → w.cell? ⟨b, o + k * s + j, none⟩ = some v := by
  rcases h.2 with h0 | ⟨b, o, hA, hb, hc⟩
  · omega
  · obtain ⟨x, hx⟩ : ∃ x, xs[k]? = some x := ⟨_, List.getElem?_eq_getElem (by rw [h.1]; exact hk)⟩
    obtain ⟨r, h1, h2, h3⟩ := hc k x hx
    exact ⟨b, o, x, r, hA, hb, hx, h1, h2, h3⟩
theorem SlR.keep {α : Type} {R : World → α → List Value → Prop} {w w' : World} {s n : Nat} {A : Option Addr} {xs : List α} (h : SlR R w s A n xs) (hs : w.heap.size ≤ w'.heap.size)
    (hk : ∀ b o v, w.cell? ⟨b, o, none⟩ = some v → w'.cell? ⟨b, o, none⟩ = some v) (hR : ∀ x r, R w x r → R w' x r) : SlR R w' s A n xs := by
  refine ⟨h.1, ?_⟩
  rcases h.2 with h0 | ⟨b, o, hA, hb, hc⟩
  · exact .inl h0
  · refine .inr ⟨b, o, hA, by omega, fun i x hx => ?_⟩
    obtain ⟨r, h1, h2, h3⟩ := hc i x hx
    exact ⟨r, h1, hR x r h2, fun j v hv => hk _ _ _ (h3 j v hv)⟩

def insWf (c : List Ins) : Prop := ∀ x ∈ c, (Lit.int .i64 x.1).wf = true ∧ (Lit.int .i64 x.2.1).wf = true ∧ (Lit.int .i64 x.2.2).wf = true
/-- what a method that came in can be -/
structure Mth.ok (m : Mth) : Prop where
  p : (Lit.int .i64 m.p).wf = true
  l : (Lit.int .i64 m.l).wf = true
  code : insWf m.code
  nm : m.nm.size ≤ 140737488351232
  names : ∀ s ∈ m.names, s.size ≤ 140737488351232
  lc : m.code.length ≤ 140737488351232
  ln : m.names.length ≤ 140737488351232
structure Cls.ok (k : Cls) : Prop where
  nm : k.nm.size ≤ 140737488351232
  fields : ∀ s ∈ k.fields, s.size ≤ 140737488351232
  lf : k.fields.length ≤ 140737488351232
  lm : k.ms.length ≤ 140737488351232
def MthR (w : World) (m : Mth) (r : List Value) : Prop :=
  m.ok ∧ ∃ A c B d, r = [.string m.nm, .int .i64 m.p, .int .i64 m.l, .slice A m.code.length c, .slice B m.names.length d] ∧ m.code.length ≤ c ∧ Sl w 3 A m.code.length (codeCells m.code) ∧ m.names.length ≤ d ∧ Sl w 1 B m.names.length (txtCells m.names)
def ClsR (w : World) (k : Cls) (r : List Value) : Prop :=
  k.ok ∧ ∃ F c M d, r = [.string k.nm, .bool k.actor, .slice F k.fields.length c, .slice M k.ms.length d] ∧ k.fields.length ≤ c ∧ Sl w 1 F k.fields.length (txtCells k.fields) ∧ k.ms.length ≤ d ∧ SlR MthR w 5 M k.ms.length k.ms
def CodeR (w : World) (cs : List Cls) (A : Option Addr) (n c : Nat) : Prop := cs.length = n ∧ n ≤ c ∧ n ≤ 140737488351232 ∧ SlR ClsR w 4 A n cs

theorem MthR.keep {w w' : World} (hs : w.heap.size ≤ w'.heap.size) (hk : ∀ b o v, w.cell? ⟨b, o, none⟩ = some v → w'.cell? ⟨b, o, none⟩ = some v) (m : Mth) (r : List Value) (h : MthR w m r) : MthR w' m r :=
  let ⟨h0, A, c, B, d, h1, h2, h3, h4, h5⟩ := h; ⟨h0, A, c, B, d, h1, h2, h3.keep hs hk, h4, h5.keep hs hk⟩
theorem ClsR.keep {w w' : World} (hs : w.heap.size ≤ w'.heap.size) (hk : ∀ b o v, w.cell? ⟨b, o, none⟩ = some v → w'.cell? ⟨b, o, none⟩ = some v) (k : Cls) (r : List Value) (h : ClsR w k r) : ClsR w' k r :=
  let ⟨h0, F, c, M, d, h1, h2, h3, h4, h5⟩ := h; ⟨h0, F, c, M, d, h1, h2, h3.keep hs hk, h4, h5.keep hs hk (MthR.keep hs hk)⟩
theorem keep_below {w w' : World} (hb : Below w.heap.size w w') : ∀ b o v, w.cell? ⟨b, o, none⟩ = some v → w'.cell? ⟨b, o, none⟩ = some v := fun b o v hv => (hb.cell (p := ⟨b, o, none⟩) (cell_lt hv)).trans hv
theorem CodeR.below {w w' : World} {cs : List Cls} {A : Option Addr} {n c : Nat} (h : CodeR w cs A n c) (hb : Below w.heap.size w w') : CodeR w' cs A n c :=
  ⟨h.1, h.2.1, h.2.2.1, h.2.2.2.keep hb.size (keep_below hb) (ClsR.keep hb.size (keep_below hb))⟩
theorem MthR.below {w w' : World} {m : Mth} {r : List Value} (h : MthR w m r) (hb : Below w.heap.size w w') : MthR w' m r := MthR.keep hb.size (keep_below hb) m r h
theorem ClsR.below {w w' : World} {m : Cls} {r : List Value} (h : ClsR w m r) (hb : Below w.heap.size w w') : ClsR w' m r := ClsR.keep hb.size (keep_below hb) m r h
theorem SlR.mths {w w' : World} {A : Option Addr} {n : Nat} {ms : List Mth} (h : SlR MthR w 5 A n ms) (hb : Below w.heap.size w w') : SlR MthR w' 5 A n ms := h.keep hb.size (keep_below hb) (MthR.keep hb.size (keep_below hb))
theorem SlR.clss {w w' : World} {A : Option Addr} {n : Nat} {ms : List Cls} (h : SlR ClsR w 4 A n ms) (hb : Below w.heap.size w w') : SlR ClsR w' 4 A n ms := h.keep hb.size (keep_below hb) (ClsR.keep hb.size (keep_below hb))

/-- the bounds that a small program meets -/
structure Mth.few (m : Mth) (most : Nat) : Prop where
  code : m.code.length ≤ most
  names : m.names.length ≤ most
  nm : m.nm.size < 200
  each : ∀ s ∈ m.names, s.size < 200
structure Cls.few (k : Cls) (most : Nat) : Prop where
  nm : k.nm.size < 200
  fields : k.fields.length ≤ most
  ms : k.ms.length ≤ most
  each : ∀ s ∈ k.fields, s.size < 200
  mths : ∀ m ∈ k.ms, m.few most
def fewP (cs : List Cls) (most : Nat) : Prop := cs.length ≤ most ∧ ∀ k ∈ cs, k.few most
end Go.Proofs.YtdmbcgkfecmakaaDoor
