/- Parts of the proof: MemQ. -/
import Derived.Test.YtaijmgkjbbiboaaPaA
import Derived.Test.YtaijmgkjbbiboaaPa0
set_option linter.unusedVariables false
set_option linter.unusedSimpArgs false
set_option linter.unusedSectionVars false
set_option maxRecDepth 100000
namespace Go.Proofs.Ytaijmgkjbbiboaa
section
/-- stores of a list of words from an address on -/
def Mm.puts (m : Mm) (a : Int) : List Int → Mm
 | [] => m
 | x :: l => (m.put a x).puts (a + 1) l
theorem Mm.puts_snoc (x : Int) : ∀ (l : List Int) (m : Mm) (a : Int), m.puts a (l ++ [x]) = (m.puts a l).put (a + (l.length : Int)) x
 | [], m, a => by simp [Mm.puts]
 | y :: l, m, a => by
  simp only [List.cons_append, Mm.puts, List.length_cons]
  rw [Mm.puts_snoc x l (m.put a y) (a + 1)]
  congr 1
  push_cast
  omega
/-- n words, the first of them those of a list -/
def padW (n : Nat) (pl : List Int) : List Int := (List.range n).map fun i => pl.getD i 0
theorem padW_length (n : Nat) (pl : List Int) : (padW n pl).length = n := by simp [padW]
theorem padW_take (n : Nat) (pl : List Int) (k : Nat) (h : k < n) : (padW n pl).take (k + 1) = (padW n pl).take k ++ [pl.getD k 0] := by
 rw [List.take_succ_eq_append_getElem (by simpa [padW] using h)]
 simp [padW]
/-- the memory in which an object has another kind and payload -/
def Mm.write (m : Mm) (a kind : Int) (pl : List Int) : Mm :=
 (m.put a (eH ⟨kind, (m.hdr a).2.c, (m.hdr a).2.f⟩)).puts (a + 2) (padW (wH (m.hdr a).2 - 2).toNat pl)
/-- the error of a store, and the memory behind it -/
def Mm.store (m : Mm) (a x : Int) : Int × Mm := (if m.has a = true then 0 else 2, m.put a x)
def Mm.setF (m : Mm) (a i x : Int) : Int × Mm := if m.fldE a i ≠ 0 then (m.fldE a i, m) else m.store (a + 2 + i) x
def Mm.toStub (m : Mm) (a owner x : Int) : Int × Mm :=
 if (m.hdr a).1 ≠ 0 then ((m.hdr a).1, m) else if (m.hdr a).2.k = 3 ∨ (m.hdr a).2.k = 4 then (7, m) else if owner < 1 ∨ 8 < owner then (1, m) else (0, m.write a 3 [owner, x])
/-- where an address leads: nowhere, to itself, or on -/
def Mm.nxt (m : Mm) (a : Int) : Option (Option Int) :=
 if (m.hdr a).1 ≠ 0 then none else if (m.hdr a).2.k ≠ 4 then some none else match adr ((m.at_ (a + 2)).getD 0) with
  | some b => some (some b)
  | none => none
def Mm.resN (m : Mm) : Nat → Int → Option Int
 | 0, _ => none
 | f + 1, a => match m.nxt a with
  | none => none
  | some none => some a
  | some (some b) => m.resN f b
def Mm.size (m : Mm) : Nat := m.old.ws.length + m.yng.ws.length
/-- the resolution of an address, and the error -/
def Mm.resolve (m : Mm) (a : Int) : Int × Int := if m.has a = false then (0, 2) else match m.resN (m.size + 1) a with
 | some b => (b, 0)
 | none => (0, 11)
def Mm.toFwd (m : Mm) (a to : Int) : Int × Mm :=
 if (m.hdr a).1 ≠ 0 then ((m.hdr a).1, m) else if (m.hdr a).2.k = 4 then (7, m) else if (m.resolve to).2 ≠ 0 ∨ (m.resolve to).1 = a then (1, m) else (0, m.write a 4 [adW to])
def Mm.alloc (m : Mm) (young : Bool) (h : Hdr) (i : Id) : Int × Mm × Int :=
 if young = true then ((m.yng.alloc h i).1, { m with yng := (m.yng.alloc h i).2.1 }, (m.yng.alloc h i).2.2)
 else ((m.old.alloc h i).1, { m with old := (m.old.alloc h i).2.1 }, (m.old.alloc h i).2.2)
theorem Mm.has_of_hdr {m : Mm} {a : Int} (h : (m.hdr a).1 = 0) {j : Int} (h0 : 0 ≤ j) (h1 : j < wH (m.hdr a).2) : (m.sp a).has (a + j) = true := by
 obtain ⟨x, v, hx, _, _, _, hw⟩ := Spc.hdr_ok h
 have h2 := Spc.has_iff.1 (Spc.at_has hx)
 have h3 := Spc.has_iff.1 hw
 unfold Mm.hdr at h1
 exact Spc.has_iff.2 ⟨by omega, by omega⟩
theorem Mm.Ok.sp_near {m : Mm} (h : m.Ok) {a b : Int} (ha : (m.sp a).has a = true) (hb : (m.sp a).has b = true) : m.sp b = m.sp a := by
 unfold Mm.sp at ha hb ⊢
 by_cases ho : m.old.has a = true
 ·rw [if_pos ho] at ha hb ⊢
  rw [if_pos hb]
 ·rw [if_neg ho] at ha hb ⊢
  have := h.yng_ge hb
  rw [if_neg]
  intro hc
  have := h.old_lt hc
  omega
theorem Mm.Ok.has_near {m : Mm} (h : m.Ok) {a : Int} (hh : (m.hdr a).1 = 0) {j : Int} (h0 : 0 ≤ j) (h1 : j < wH (m.hdr a).2) : m.has (a + j) = true ∧ m.sp (a + j) = m.sp a := by
 have h2 := Mm.has_of_hdr hh h0 h1
 have h3 : (m.sp a).has a = true := by
  obtain ⟨x, v, hx, _⟩ := Spc.hdr_ok hh
  exact Spc.at_has hx
 have h4 := h.sp_near h3 h2
 exact ⟨by unfold Mm.has; rw [h4]; exact h2, h4⟩
theorem Mm.hdr_valid {m : Mm} {a : Int} (h : (m.hdr a).1 = 0) : vH (m.hdr a).2 = true := by
 obtain ⟨x, v, _, hd, _⟩ := Spc.hdr_ok h
 exact (dH_some hd).1
theorem Mm.hdr_zero {m : Mm} {a : Int} (h : (m.hdr a).1 ≠ 0) : (m.hdr a).2 = Hdr.zero := Spc.hdr_err h
theorem Mm.hdr_has {m : Mm} {a : Int} (h : (m.hdr a).1 = 0) : m.has a = true := by
 obtain ⟨x, v, hx, _⟩ := Spc.hdr_ok h
 exact Spc.at_has hx
theorem Mm.fldE_ok {m : Mm} {a i : Int} (h : m.fldE a i = 0) : (m.hdr a).1 = 0 ∧ ((m.hdr a).2.k ≠ 3 ∧ (m.hdr a).2.k ≠ 4) ∧ 0 ≤ i ∧ i < (m.hdr a).2.f := by
 unfold Mm.fldE at h
 split at h
 ·rename_i h0; exact absurd h h0
 ·rename_i h0
  split at h
  ·cases h
  ·rename_i h1
   split at h
   ·cases h
   ·omega
def slotN (h : Hdr) : Int := if h.k = 3 then 0 else if h.k = 4 then 1 else h.f
/-- the slots of an object: addresses and words -/
def Mm.slotsAt (m : Mm) (a : Int) : List (Int × Int) := ((List.range (slotN (m.hdr a).2).toNat).map fun (i : Nat) => a + 2 + (i : Int)).filterMap fun b => (m.at_ b).map fun x => (b, x)
def Mm.slots (m : Mm) : List (Int × Int) := m.old.objs.flatMap m.slotsAt
def Mm.crossing (m : Mm) (p : Int → Bool) : List Int := (m.slots.filter fun s => ygW s.2 && p s.1).map (·.1)
def cardIn (cs : List Int) (a : Int) : Bool := oldB a && cs.contains (a / 16)
def cardIns (c : Int) : List Int → List Int
 | [] => [c]
 | x :: l => if x < c then x :: cardIns c l else c :: x :: l
def cardMark (cs : List Int) (a : Int) : Int × List Int := if oldB a = false then (2, cs) else if cardIn cs a = true then (0, cs) else (0, cardIns (a / 16) cs)
end
end Go.Proofs.Ytaijmgkjbbiboaa
