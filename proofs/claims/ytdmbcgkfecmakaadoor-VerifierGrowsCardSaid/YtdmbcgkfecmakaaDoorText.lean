/- bytecode's texts of the operands: number, name, both and the two closures of operations. -/
import Derived.Test.YtdmbcgkfecmakaaDoorShelf
import Derived.Test.YtdmbcgkfecmakaaDoorEffect
import Derived.Lib.QuietBelow
import Derived.Lib.AppendIntMem
import Derived.Lib.ItoaLen
namespace Go.Proofs.YtdmbcgkfecmakaaDoor
set_option linter.unusedVariables false
set_option linter.unusedSimpArgs false
set_option linter.unusedSectionVars false
open Go.RowKit Go.Sort
set_option maxRecDepth 100000

def dec (z : Int) : ByteArray := ⟨(Lib.itoa z).toArray⟩
def spB : ByteArray := ⟨#[32]⟩
def strs (l : List ByteArray) : List Value := l.map Value.string
def nameB (ns : List ByteArray) (a : Int) : ByteArray := if a < ns.length then ns.getD a.toNat ⟨#[]⟩ else ⟨#[63]⟩

/-- the texts of the binary operators -/
def operTexts : List (List Nat) := [[43], [45], [42], [47], [37], [61, 61], [33, 61], [60], [60, 61], [62], [62, 61]]
def operB (n : Nat) : ByteArray := ⟨((operTexts.getD n []).map fun n => n.toUInt8).toArray⟩

/-- the library's table of powers and the texts of the operators lie in the world -/
structure Tabs (w : World) : Prop where
  pow : Lib.TabIs Tryd.prog w "internal/strconv.uint64pow10" .u64 Lib.pow10Tab
  opr : ∀ i : Nat, i < 11 → w.cell? ⟨0, i, none⟩ = some (.string (operB i))
  lt : 0 < w.heap.size
theorem Tabs.below {w w' : World} (h : Tabs w) (hb : Below w.heap.size w w') : Tabs w' :=
  ⟨Lib.tabBelow_of_tabIs h.pow w' hb, fun i hi => ((bcell hb).1 _ _ h.lt).trans (h.opr i hi), Nat.lt_of_lt_of_le h.lt hb.size⟩

theorem dec_size (z : Int) (h0 : -9223372036854775808 ≤ z) (h1 : z ≤ 9223372036854775807) : (dec z).size ≤ 21 := by
  have := Lib.itoa_length_le z h0 h1
  simpa [dec, ByteArray.size] using this

theorem FormatInt_any (n : Int) (h0 : -9223372036854775808 ≤ n) (h1 : n ≤ 9223372036854775807) (w : World) (ht : Tabs w) :
    Calls Tryd.prog 79 #[.int .i64 n, .int .i64 10] w fun e w' => e = .returned (.string (dec n)) ∧ Below w.heap.size w w' :=
  (Tryd.strconv_FormatInt_10 n h0 h1 w ht.pow).mono fun e w' ⟨he, k, os, hw⟩ => ⟨he, hw ▸ Lib.below_grow _ _ (Nat.le_refl _) _ _⟩
theorem Itoa_any (n : Int) (h0 : -9223372036854775808 ≤ n) (h1 : n ≤ 9223372036854775807) (w : World) (ht : Tabs w) :
    Calls Tryd.prog 51 #[.int .i64 n] w fun e w' => e = .returned (.string (dec n)) ∧ Below w.heap.size w w' :=
  (Tryd.strconv_Itoa n h0 h1 w ht.pow).mono fun e w' ⟨he, k, os, hw⟩ => ⟨he, hw ▸ Lib.below_grow _ _ (Nat.le_refl _) _ _⟩

section
variable {w : World} {n a b : Int} {v0 v1 v2 v3 : Value} {B : Option Addr} {m d : Nat} {ns : List ByteArray}

theorem number_any (a0 : -9223372036854775808 ≤ a) (a1 : a ≤ 9223372036854775807) (ht : Tabs w) :
    Calls Tryd.prog 74 #[.agg #[.int .i64 n, .int .i64 a, .int .i64 b], .agg #[v0, v1, v2, v3, .slice B m d]] w fun e w' => e = .returned (.string (dec a)) ∧ Below w.heap.size w w' := by
  have HT := Lib.hid ht
  clear ht
  go_enter Tryd.func74, Tryd.ntmps74
  go_wp2_with fail
  refine (FormatInt_any a a0 a1 _ (HT.out.below (((Below.refl _ _).alloc (Nat.le_refl _) _).alloc (by simp) _))).mono ?_
  rintro e w1 ⟨rfl, hb⟩
  go_wp2
  go_ret
  exact ⟨rfl, (((Below.refl _ _).alloc (Nat.le_refl _) _).alloc (by simp) _).trans (hb.mono (by simp; omega))⟩

theorem name_any (a0 : 0 ≤ a) (a1 : a ≤ 9223372036854775807) (hm : ns.length = m) (hd : m ≤ d) (hs : Sl w 1 B m (strs ns)) :
    Calls Tryd.prog 75 #[.agg #[.int .i64 n, .int .i64 a, .int .i64 b], .agg #[v0, v1, v2, v3, .slice B m d]] w fun e w' => e = .returned (.string (nameB ns a)) ∧ Below w.heap.size w w' := by
  by_cases h : a < (m : Int)
  · obtain ⟨k, rfl⟩ := Int.eq_ofNat_of_zero_le a0
    have hk : k < m := by omega
    obtain ⟨bb, o, rfl, hb1, hc1⟩ := hs.get hk
    obtain ⟨x, hx⟩ : ∃ x, ns[k]? = some x := ⟨_, List.getElem?_eq_getElem (by omega)⟩
    have c1 : w.cell? ⟨bb, o + k, none⟩ = some (.string x) := hc1 k _ (by simp [strs, hx])
    have hkd : k < d := by omega
    have hn : nameB ns k = x := by unfold nameB; rw [if_pos (by omega)]; simp [hx]
    have HN := Lib.hid hn
    have HM := Lib.hid hm
    clear hs hc1 hm hn hx
    go_enter Tryd.func75, Tryd.ntmps75
    go_wp2
    go_ret
    exact ⟨by rw [HN.out]; rfl, ((Below.refl _ _).alloc (Nat.le_refl _) _).alloc (by simp) _⟩
  · have hn : nameB ns a = ⟨#[63]⟩ := by unfold nameB; rw [if_neg (by omega)]
    have HN := Lib.hid hn
    clear hn
    have hge : (m : Int) ≤ a := by omega
    clear hs hm
    go_enter Tryd.func75, Tryd.ntmps75
    go_wp2
    go_ret
    exact ⟨by rw [HN.out]; rfl, ((Below.refl _ _).alloc (Nat.le_refl _) _).alloc (by simp) _⟩

theorem oper_any (k : Nat) (hk : k < 11) (ht : Tabs w) :
    Calls Tryd.prog 77 #[.agg #[.int .i64 n, .int .i64 (k : Int), .int .i64 b], .agg #[v0, v1, v2, v3, .slice B m d]] w fun e w' => e = .returned (.string (operB k)) ∧ Below w.heap.size w w' := by
  have c1 := ht.opr k hk
  have h0 : 0 < w.heap.size := ht.lt
  have h00 : 0 ≠ w.heap.size := Nat.ne_of_lt h0
  clear ht
  go_enter Tryd.func77, Tryd.ntmps77
  go_wp2
  go_ret
  exact ⟨rfl, ((Below.refl _ _).alloc (Nat.le_refl _) _).alloc (by simp) _⟩

theorem both_any (a0 : -9223372036854775808 ≤ a) (a1 : a ≤ 9223372036854775807) (b0 : -9223372036854775808 ≤ b) (b1 : b ≤ 9223372036854775807) (ht : Tabs w) :
    Calls Tryd.prog 76 #[.agg #[.int .i64 n, .int .i64 a, .int .i64 b], .agg #[v0, v1, v2, v3, .slice B m d]] w fun e w' => e = .returned (.string (dec a ++ spB ++ dec b)) ∧ Below w.heap.size w w' := by
  have sa := dec_size a a0 a1
  have sb := dec_size b b0 b1
  have hb2 : Below w.heap.size w ((w.alloc (.cells #[.int .i64 n, .int .i64 a, .int .i64 b] 39)).alloc (.cells #[v0, v1, v2, v3, .slice B m d] 25)) := ((Below.refl _ _).alloc (Nat.le_refl _) _).alloc (by simp) _
  have htw := ht.below hb2
  have k0 := cell_regrown (w := (w.alloc (.cells #[.int .i64 n, .int .i64 a, .int .i64 b] 39)).alloc (.cells #[v0, v1, v2, v3, .slice B m d] 25)) (a := ⟨w.heap.size, 0, none⟩) (v := .int .i64 n) (by simp)
  have k1 := cell_regrown (w := (w.alloc (.cells #[.int .i64 n, .int .i64 a, .int .i64 b] 39)).alloc (.cells #[v0, v1, v2, v3, .slice B m d] 25)) (a := ⟨w.heap.size, 1, none⟩) (v := .int .i64 a) (by simp)
  have k2 := cell_regrown (w := (w.alloc (.cells #[.int .i64 n, .int .i64 a, .int .i64 b] 39)).alloc (.cells #[v0, v1, v2, v3, .slice B m d] 25)) (a := ⟨w.heap.size, 2, none⟩) (v := .int .i64 b) (by simp)
  have l0 := cell_regrown (w := (w.alloc (.cells #[.int .i64 n, .int .i64 a, .int .i64 b] 39)).alloc (.cells #[v0, v1, v2, v3, .slice B m d] 25)) (a := ⟨w.heap.size + 1, 0, none⟩) (v := v0) (by simp)
  have l1 := cell_regrown (w := (w.alloc (.cells #[.int .i64 n, .int .i64 a, .int .i64 b] 39)).alloc (.cells #[v0, v1, v2, v3, .slice B m d] 25)) (a := ⟨w.heap.size + 1, 1, none⟩) (v := v1) (by simp)
  have l2 := cell_regrown (w := (w.alloc (.cells #[.int .i64 n, .int .i64 a, .int .i64 b] 39)).alloc (.cells #[v0, v1, v2, v3, .slice B m d] 25)) (a := ⟨w.heap.size + 1, 2, none⟩) (v := v2) (by simp)
  have l3 := cell_regrown (w := (w.alloc (.cells #[.int .i64 n, .int .i64 a, .int .i64 b] 39)).alloc (.cells #[v0, v1, v2, v3, .slice B m d] 25)) (a := ⟨w.heap.size + 1, 3, none⟩) (v := v3) (by simp)
  have l4 := cell_regrown (w := (w.alloc (.cells #[.int .i64 n, .int .i64 a, .int .i64 b] 39)).alloc (.cells #[v0, v1, v2, v3, .slice B m d] 25)) (a := ⟨w.heap.size + 1, 4, none⟩) (v := .slice B m d) (by simp)
  have cN : ∀ dd os, Calls Tryd.prog 74 #[.agg #[.int .i64 n, .int .i64 a, .int .i64 b], .agg #[v0, v1, v2, v3, .slice B m d]] (grow (redrawn ((w.alloc (.cells #[.int .i64 n, .int .i64 a, .int .i64 b] 39)).alloc (.cells #[v0, v1, v2, v3, .slice B m d] 25)) dd) os) fun e w'' => e = .returned (.string (dec a)) ∧ ∃ p : Regrown, w'' = grow (redrawn ((w.alloc (.cells #[.int .i64 n, .int .i64 a, .int .i64 b] 39)).alloc (.cells #[v0, v1, v2, v3, .slice B m d] 25)) p.d) p.os :=
    fun dd os => Calls.regrown_of (number_any a0 a1 (htw.below (below_regrown _ dd os)))
  have cF : ∀ dd os, Calls Tryd.prog 79 #[.int .i64 b, .int .i64 10] (grow (redrawn ((w.alloc (.cells #[.int .i64 n, .int .i64 a, .int .i64 b] 39)).alloc (.cells #[v0, v1, v2, v3, .slice B m d] 25)) dd) os) fun e w'' => e = .returned (.string (dec b)) ∧ ∃ p : Regrown, w'' = grow (redrawn ((w.alloc (.cells #[.int .i64 n, .int .i64 a, .int .i64 b] 39)).alloc (.cells #[v0, v1, v2, v3, .slice B m d] 25)) p.d) p.os :=
    fun dd os => Calls.regrown_of (FormatInt_any b b0 b1 _ (htw.below (below_regrown _ dd os)))
  have s1 : ¬ 9223372036854775807 < (dec a).size + 1 := by omega
  have s2 : ¬ 9223372036854775807 < (dec a).size + 1 + (dec b).size := by omega
  have HB := Lib.hid hb2
  clear hb2 ht htw
  go_enter Tryd.func76, Tryd.ntmps76
  go_wp2_with fail
  refine wp_region_quiet_below (by kernel_rfl) (by kernel_rfl) ?_
  repeat (quiet_step (first | exact cN _ _ | exact cF _ _))
  refine wpQuiet_nil ?_
  intro _ hw'
  obtain ⟨⟨dq, osq⟩, hw''⟩ := hw'
  subst hw''
  go_wp2
  go_ret
  exact ⟨rfl, HB.out.trans ((below_regrown _ dq osq).mono (by simp; omega))⟩

theorem send_any (a0 : 0 ≤ a) (a1 : a ≤ 9223372036854775807) (hm : ns.length = m) (hd : m ≤ d) (hs : Sl w 1 B m (strs ns)) (hsz : (nameB ns a).size ≤ 1000000) (b0 : -9223372036854775808 ≤ b) (b1 : b ≤ 9223372036854775807) (ht : Tabs w) :
    Calls Tryd.prog 78 #[.agg #[.int .i64 n, .int .i64 a, .int .i64 b], .agg #[v0, v1, v2, v3, .slice B m d]] w fun e w' => e = .returned (.string (nameB ns a ++ spB ++ dec b)) ∧ Below w.heap.size w w' := by
  have sb := dec_size b b0 b1
  have hb2 : Below w.heap.size w ((w.alloc (.cells #[.int .i64 n, .int .i64 a, .int .i64 b] 39)).alloc (.cells #[v0, v1, v2, v3, .slice B m d] 25)) := ((Below.refl _ _).alloc (Nat.le_refl _) _).alloc (by simp) _
  have htw := ht.below hb2
  have k0 := cell_regrown (w := (w.alloc (.cells #[.int .i64 n, .int .i64 a, .int .i64 b] 39)).alloc (.cells #[v0, v1, v2, v3, .slice B m d] 25)) (a := ⟨w.heap.size, 0, none⟩) (v := .int .i64 n) (by simp)
  have k1 := cell_regrown (w := (w.alloc (.cells #[.int .i64 n, .int .i64 a, .int .i64 b] 39)).alloc (.cells #[v0, v1, v2, v3, .slice B m d] 25)) (a := ⟨w.heap.size, 1, none⟩) (v := .int .i64 a) (by simp)
  have k2 := cell_regrown (w := (w.alloc (.cells #[.int .i64 n, .int .i64 a, .int .i64 b] 39)).alloc (.cells #[v0, v1, v2, v3, .slice B m d] 25)) (a := ⟨w.heap.size, 2, none⟩) (v := .int .i64 b) (by simp)
  have l0 := cell_regrown (w := (w.alloc (.cells #[.int .i64 n, .int .i64 a, .int .i64 b] 39)).alloc (.cells #[v0, v1, v2, v3, .slice B m d] 25)) (a := ⟨w.heap.size + 1, 0, none⟩) (v := v0) (by simp)
  have l1 := cell_regrown (w := (w.alloc (.cells #[.int .i64 n, .int .i64 a, .int .i64 b] 39)).alloc (.cells #[v0, v1, v2, v3, .slice B m d] 25)) (a := ⟨w.heap.size + 1, 1, none⟩) (v := v1) (by simp)
  have l2 := cell_regrown (w := (w.alloc (.cells #[.int .i64 n, .int .i64 a, .int .i64 b] 39)).alloc (.cells #[v0, v1, v2, v3, .slice B m d] 25)) (a := ⟨w.heap.size + 1, 2, none⟩) (v := v2) (by simp)
  have l3 := cell_regrown (w := (w.alloc (.cells #[.int .i64 n, .int .i64 a, .int .i64 b] 39)).alloc (.cells #[v0, v1, v2, v3, .slice B m d] 25)) (a := ⟨w.heap.size + 1, 3, none⟩) (v := v3) (by simp)
  have l4 := cell_regrown (w := (w.alloc (.cells #[.int .i64 n, .int .i64 a, .int .i64 b] 39)).alloc (.cells #[v0, v1, v2, v3, .slice B m d] 25)) (a := ⟨w.heap.size + 1, 4, none⟩) (v := .slice B m d) (by simp)
  have cN : ∀ dd os, Calls Tryd.prog 75 #[.agg #[.int .i64 n, .int .i64 a, .int .i64 b], .agg #[v0, v1, v2, v3, .slice B m d]] (grow (redrawn ((w.alloc (.cells #[.int .i64 n, .int .i64 a, .int .i64 b] 39)).alloc (.cells #[v0, v1, v2, v3, .slice B m d] 25)) dd) os) fun e w'' => e = .returned (.string (nameB ns a)) ∧ ∃ p : Regrown, w'' = grow (redrawn ((w.alloc (.cells #[.int .i64 n, .int .i64 a, .int .i64 b] 39)).alloc (.cells #[v0, v1, v2, v3, .slice B m d] 25)) p.d) p.os :=
    fun dd os => Calls.regrown_of (name_any a0 a1 hm hd ((hs.below hb2).below (below_regrown _ dd os)))
  have cF : ∀ dd os, Calls Tryd.prog 79 #[.int .i64 b, .int .i64 10] (grow (redrawn ((w.alloc (.cells #[.int .i64 n, .int .i64 a, .int .i64 b] 39)).alloc (.cells #[v0, v1, v2, v3, .slice B m d] 25)) dd) os) fun e w'' => e = .returned (.string (dec b)) ∧ ∃ p : Regrown, w'' = grow (redrawn ((w.alloc (.cells #[.int .i64 n, .int .i64 a, .int .i64 b] 39)).alloc (.cells #[v0, v1, v2, v3, .slice B m d] 25)) p.d) p.os :=
    fun dd os => Calls.regrown_of (FormatInt_any b b0 b1 _ (htw.below (below_regrown _ dd os)))
  have s1 : ¬ 9223372036854775807 < (nameB ns a).size + 1 := by omega
  have s2 : ¬ 9223372036854775807 < (nameB ns a).size + 1 + (dec b).size := by omega
  have HB := Lib.hid hb2
  have HH := Lib.hid (And.intro hm hs)
  clear hb2 ht htw hm hs
  go_enter Tryd.func78, Tryd.ntmps78
  go_wp2_with fail
  refine wp_region_quiet_below (by kernel_rfl) (by kernel_rfl) ?_
  repeat (quiet_step (first | exact cN _ _ | exact cF _ _))
  refine wpQuiet_nil ?_
  intro _ hw'
  obtain ⟨⟨dq, osq⟩, hw''⟩ := hw'
  subst hw''
  go_wp2
  go_ret
  exact ⟨rfl, HB.out.trans ((below_regrown _ dq osq).mono (by simp; omega))⟩

/-- the text of the operands -/
def textB (ns : List ByteArray) (n : Nat) (a b : Int) : ByteArray :=
  if n = 10 ∨ n = 11 then dec a ++ spB ++ dec b
  else if n = 6 ∨ n = 8 ∨ n = 24 then nameB ns a
  else if n = 16 then operB a.toNat
  else if n = 21 then nameB ns a ++ spB ++ dec b
  else dec a
def hasText (n : Nat) : Bool := [0, 3, 4, 6, 7, 8, 9, 10, 11, 16, 18, 19, 20, 21, 24].contains n

theorem enter_text (K : Nat) (hK : K = 74 ∨ K = 75 ∨ K = 76 ∨ K = 77 ∨ K = 78) : ∀ args w, (callFunc K args).run Tryd.prog w = .ok (.enter K args) w := by
  rcases hK with rfl | rfl | rfl | rfl | rfl <;> (intro args w; kernel_rfl)

theorem text_none (k : Nat) (hk : k < 26) (h : hasText k = false) : opText k = .nilFunc := by
  have hh : k = 1 ∨ k = 2 ∨ k = 5 ∨ k = 12 ∨ k = 13 ∨ k = 14 ∨ k = 15 ∨ k = 17 ∨ k = 22 ∨ k = 23 ∨ k = 25 := by
    simp [hasText] at h
    omega
  rcases hh with rfl | rfl | rfl | rfl | rfl | rfl | rfl | rfl | rfl | rfl | rfl <;> rfl

theorem text_some (k : Nat) (hk : k < 26) (h : hasText k = true) (a0 : -9223372036854775808 ≤ a) (a1 : a ≤ 9223372036854775807) (b0 : -9223372036854775808 ≤ b) (b1 : b ≤ 9223372036854775807)
    (hv : validB k a b = true) (hm : ns.length = m) (hd : m ≤ d) (hsz : ∀ x ∈ ns, x.size ≤ 1000000) :
    ∃ K : Nat, opText k = .func (.func K) #[] #[] ∧ (∀ args w, (callFunc K args).run Tryd.prog w = .ok (.enter K args) w) ∧ ∀ w, Tabs w → Sl w 1 B m (strs ns) →
      Calls Tryd.prog K #[.agg #[.int .i64 (k : Int), .int .i64 a, .int .i64 b], .agg #[v0, v1, v2, v3, .slice B m d]] w fun e w' => e = .returned (.string (textB ns k a b)) ∧ Below w.heap.size w w' := by
  have hnm : (nameB ns a).size ≤ 1000000 := by
    unfold nameB
    split
    · rw [List.getD_eq_getElem?_getD]
      cases hx : ns[a.toNat]? with
      | none => simp [ByteArray.size]
      | some x => exact hsz x (List.mem_of_getElem? hx)
    · simp [ByteArray.size]
  have hpos : k ≠ 0 → 0 ≤ a := fun h0 => by
    obtain ⟨j, hj, hj2, hl, _⟩ := validB_some hv
    have hjk : j = k := by omega
    subst hjk
    have : 0 ≤ opLeast j := by
      have hall : ((List.range 26).all fun i => i == 0 || decide (0 ≤ opLeast i)) = true := by decide +kernel
      have := List.all_eq_true.1 hall j (by simpa using hk)
      simp only [Bool.or_eq_true, beq_iff_eq, decide_eq_true_eq] at this
      rcases this with h | h
      · exact absurd h h0
      · exact h
    omega
  have hh : k = 0 ∨ k = 3 ∨ k = 4 ∨ k = 6 ∨ k = 7 ∨ k = 8 ∨ k = 9 ∨ k = 10 ∨ k = 11 ∨ k = 16 ∨ k = 18 ∨ k = 19 ∨ k = 20 ∨ k = 21 ∨ k = 24 := by simpa [hasText] using h
  have hnum : textB ns k a b = dec a → opText k = .func (.func 74) #[] #[] → ∃ K : Nat, opText k = .func (.func K) #[] #[] ∧ (∀ args w, (callFunc K args).run Tryd.prog w = .ok (.enter K args) w) ∧ ∀ w, Tabs w → Sl w 1 B m (strs ns) →
      Calls Tryd.prog K #[.agg #[.int .i64 (k : Int), .int .i64 a, .int .i64 b], .agg #[v0, v1, v2, v3, .slice B m d]] w fun e w' => e = .returned (.string (textB ns k a b)) ∧ Below w.heap.size w w' := fun e1 e2 =>
    ⟨_, e2, enter_text _ (by simp), fun w ht hs => by rw [e1]; exact number_any a0 a1 ht⟩
  have hnam : k ≠ 0 → textB ns k a b = nameB ns a → opText k = .func (.func 75) #[] #[] → ∃ K : Nat, opText k = .func (.func K) #[] #[] ∧ (∀ args w, (callFunc K args).run Tryd.prog w = .ok (.enter K args) w) ∧ ∀ w, Tabs w → Sl w 1 B m (strs ns) →
      Calls Tryd.prog K #[.agg #[.int .i64 (k : Int), .int .i64 a, .int .i64 b], .agg #[v0, v1, v2, v3, .slice B m d]] w fun e w' => e = .returned (.string (textB ns k a b)) ∧ Below w.heap.size w w' := fun e0 e1 e2 =>
    ⟨_, e2, enter_text _ (by simp), fun w ht hs => by rw [e1]; exact name_any (hpos e0) a1 hm hd hs⟩
  have hbot : textB ns k a b = dec a ++ spB ++ dec b → opText k = .func (.func 76) #[] #[] → ∃ K : Nat, opText k = .func (.func K) #[] #[] ∧ (∀ args w, (callFunc K args).run Tryd.prog w = .ok (.enter K args) w) ∧ ∀ w, Tabs w → Sl w 1 B m (strs ns) →
      Calls Tryd.prog K #[.agg #[.int .i64 (k : Int), .int .i64 a, .int .i64 b], .agg #[v0, v1, v2, v3, .slice B m d]] w fun e w' => e = .returned (.string (textB ns k a b)) ∧ Below w.heap.size w w' := fun e1 e2 =>
    ⟨_, e2, enter_text _ (by simp), fun w ht hs => by rw [e1]; exact both_any a0 a1 b0 b1 ht⟩
  rcases hh with rfl | rfl | rfl | rfl | rfl | rfl | rfl | rfl | rfl | rfl | rfl | rfl | rfl | rfl | rfl
  · exact hnum rfl rfl
  · exact hnum rfl rfl
  · exact hnum rfl rfl
  · exact hnam (by decide) rfl rfl
  · exact hnum rfl rfl
  · exact hnam (by decide) rfl rfl
  · exact hnum rfl rfl
  · exact hbot rfl rfl
  · exact hbot rfl rfl
  · obtain ⟨j, hj, hj2, _, hu, _⟩ := validB_some hv
    have hj16 : j = 16 := by omega
    subst hj16
    have hm16 : opMost 16 = 10 := by decide +kernel
    obtain ⟨q, rfl⟩ := Int.eq_ofNat_of_zero_le (hpos (by decide))
    exact ⟨_, rfl, enter_text _ (by simp), fun w ht hs => oper_any q (by omega) ht⟩
  · exact hnum rfl rfl
  · exact hnum rfl rfl
  · exact hnum rfl rfl
  · exact ⟨_, rfl, enter_text _ (by simp), fun w ht hs => send_any (hpos (by decide)) a1 hm hd hs hnm b0 b1 ht⟩
  · exact hnam (by decide) rfl rfl
end
end Go.Proofs.YtdmbcgkfecmakaaDoor
