/- Packages word and header and their references: the contracts. -/
import Derived.Test.YtjpaogapclfajaaGreatHeadP
import Derived.Test.YtjpaogapclfajaaGreatMem
import Derived.Test.YtjpaogapclfajaaGreatProg
import Derived.IntWalk
import Derived.Lib.QuietBelow
namespace Go.Proofs.YtjpaogapclfajaaGreat
set_option linter.unusedVariables false
set_option linter.unusedSimpArgs false
set_option linter.unusedSectionVars false
open Go.RowKit Go.Sort
set_option maxRecDepth 100000

theorem ret_ib {k : IntKind} {a b : Int} {c : Bool} (h : a = b) : Ending.returned (.tuple #[.int k a, .bool c]) = .returned (.tuple #[.int k b, .bool c]) := by rw [h]
/-- the kind of a word -/
def kW (x : Int) : Int := if x = 0 then 0 else if x % 4 = 1 then 1 else if x % 4 = 2 ∧ x / 4 ≤ 4294967295 then 2 else if x % 4 = 3 then 3 else -1
theorem Kind_any {x : Int} (hx : U64 x) (w : World) : Calls Tryz.prog 125 #[.int .u64 x] w fun e w' => e = .returned (.int .i64 (kW x)) ∧ w = w' := by
  have ha := and_3 hx
  have h4 : x % 4 = 0 ∨ x % 4 = 1 ∨ x % 4 = 2 ∨ x % 4 = 3 := by omega
  have hb := hx.1
  have hu := hx.2
  rcases h4 with h | h | h | h
  · rw [h] at ha
    by_cases h0 : x = 0
    · subst h0
      go_enter Tryz.func125, Tryz.ntmps125
      go_wp2_with fail
      go_ret
      exact ⟨rfl, rfl⟩
    · have hn : (x == 0) = false := by simpa using h0
      have hk : Hid (kW x = -1) := Lib.hid (by unfold kW; rw [if_neg h0, if_neg (by omega), if_neg (by omega), if_neg (by omega)])
      clear h h0
      go_enter Tryz.func125, Tryz.ntmps125
      go_wp2_with fail
      go_ret
      exact ⟨ret_int hk.out.symm, rfl⟩
  · rw [h] at ha
    have hk : Hid (kW x = 1) := Lib.hid (by unfold kW; rw [if_neg (by omega), if_pos h])
    clear h
    go_enter Tryz.func125, Tryz.ntmps125
    go_wp2_with fail
    go_ret
    exact ⟨ret_int hk.out.symm, rfl⟩
  · rw [h] at ha
    by_cases hl : x / 4 ≤ 4294967295
    · have hk : Hid (kW x = 2) := Lib.hid (by unfold kW; rw [if_neg (by omega), if_neg (by omega), if_pos ⟨h, hl⟩])
      clear h
      go_enter Tryz.func125, Tryz.ntmps125
      go_wp2_with fail
      go_ret
      exact ⟨ret_int hk.out.symm, rfl⟩
    · have hk : Hid (kW x = -1) := Lib.hid (by unfold kW; rw [if_neg (by omega), if_neg (by omega), if_neg (by omega), if_neg (by omega)])
      clear h
      go_enter Tryz.func125, Tryz.ntmps125
      go_wp2_with fail
      go_ret
      exact ⟨ret_int hk.out.symm, rfl⟩
  · rw [h] at ha
    have hk : Hid (kW x = 3) := Lib.hid (by unfold kW; rw [if_neg (by omega), if_neg (by omega), if_neg (by omega), if_pos h])
    clear h
    go_enter Tryz.func125, Tryz.ntmps125
    go_wp2_with fail
    go_ret
    exact ⟨ret_int hk.out.symm, rfl⟩
theorem kW_two (x : Int) : kW x = 2 ↔ (adr x).isSome = true := by
  unfold kW adr
  by_cases h0 : x = 0
  · subst h0; simp
  · rw [if_neg h0]
    by_cases h1 : x % 4 = 1
    · rw [if_pos h1, if_neg (by omega)]; simp
    · rw [if_neg h1]
      by_cases h2 : x % 4 = 2 ∧ x / 4 ≤ 4294967295
      · rw [if_pos h2, if_pos h2]; simp
      · rw [if_neg h2, if_neg h2]
        split <;> simp
def adrV (x : Int) : Value := match adr x with | some a => .tuple #[.int .i64 a, .bool true] | none => .tuple #[.int .i64 0, .bool false]
theorem Address_any {x : Int} (hx : U64 x) (w : World) : Calls Tryz.prog 82 #[.int .u64 x] w fun e w' => e = .returned (adrV x) ∧ w = w' := by
  have hb := hx.1
  have hu := hx.2
  have cK := Kind_any hx w
  unfold adrV
  cases h : adr x with
  | none =>
    have hk : kW x ≠ 2 := fun h2 => by have := (kW_two x).1 h2; rw [h] at this; cases this
    obtain ⟨k, hkk⟩ : ∃ k, k = kW x := ⟨_, rfl⟩
    rw [← hkk] at hk cK
    have hkb : (k == 2) = false := by simpa using hk
    clear hkk hk h
    go_enter Tryz.func82, Tryz.ntmps82
    go_wp2_with fail
    refine cK.mono ?_
    rintro e w' ⟨rfl, rfl⟩
    go_wp2_with fail
    go_ret2
    exact ⟨rfl, rfl⟩
  | some a =>
    have hk : kW x = 2 := (kW_two x).2 (by rw [h]; rfl)
    have ha : Hid (x / 4 = a) := Lib.hid (by unfold adr at h; split at h <;> simp_all)
    rw [hk] at cK
    clear hk h
    go_enter Tryz.func82, Tryz.ntmps82
    go_wp2_with fail
    refine cK.mono ?_
    rintro e w' ⟨rfl, rfl⟩
    go_wp2_with fail
    go_ret2
    exact ⟨ret_ib ha.out, rfl⟩
theorem RAddress_any {x : Int} (hx : U64 x) (w : World) : Calls Tryz.prog 70 #[.int .u64 x] w fun e w' => e = .returned (adrV x) ∧ w = w' := by
  have hb := hx.1
  have hu := hx.2
  unfold adrV
  cases h : adr x with
  | none =>
    unfold adr at h
    split at h
    · cases h
    · rename_i h2
      by_cases h1 : x % 4 = 2
      · have hl : 4294967295 < x / 4 := by omega
        have h3 : (x % 4 != 2) = false := by simp [h1]
        clear h h1 h2
        go_enter Tryz.func70, Tryz.ntmps70
        go_wp2_with fail
        go_ret2
        exact ⟨rfl, rfl⟩
      · have h3 : (x % 4 != 2) = true := by simpa using h1
        clear h h1 h2
        go_enter Tryz.func70, Tryz.ntmps70
        go_wp2_with fail
        go_ret2
        exact ⟨rfl, rfl⟩
  | some a =>
    unfold adr at h
    split at h
    · rename_i h2
      have ha : Hid (x / 4 = a) := Lib.hid (by injection h)
      have h3 : (x % 4 != 2) = false := by simp [h2.1]
      have hl : x / 4 ≤ 4294967295 := h2.2
      clear h h2
      go_enter Tryz.func70, Tryz.ntmps70
      go_wp2_with fail
      go_ret2
      exact ⟨ret_ib ha.out, rfl⟩
    · cases h
/-- whether a word is a young reference -/
def ygW (x : Int) : Bool := match adr x with | some a => decide (16777216 ≤ a) | none => false
def inA (a : Int) : Bool := decide (0 ≤ a ∧ a ≤ 4294967295)
def frA (a : Int) : Value := if inA a = true then .tuple #[.int .u64 (adW a), .int .i64 0] else .tuple #[.int .u64 0, .int .i64 2]
theorem ret_uu {k k' : IntKind} {a b c : Int} (h : a = b) : Ending.returned (.tuple #[.int k a, .int k' c]) = .returned (.tuple #[.int k b, .int k' c]) := by rw [h]
theorem or_two (m : Nat) (h : m ≤ 4294967295) : bits .or .u64 ((m : Int) * 4) 2 = adW m := by
  have e := or_disj 2 (m * 4) 2 (by omega) (by omega) (by omega) (by omega)
  have c : ((m * 4 : Nat) : Int) = (m : Int) * 4 := by simp
  rw [← c]
  refine e.trans ?_
  unfold adW
  simp only [Int.natCast_add, Int.natCast_mul, Int.cast_ofNat_Int]
  omega
theorem FromAddress_any (a : Int) (w : World) : Calls Tryz.prog 84 #[.int .i64 a] w fun e w' => e = .returned (frA a) ∧ w = w' := by
  unfold frA
  cases h : inA a with
  | true =>
    rw [if_pos rfl]
    obtain ⟨h0, h1⟩ := of_decide_eq_true h
    obtain ⟨m, rfl⟩ := Int.eq_ofNat_of_zero_le h0
    have ho := or_two m (by omega)
    clear h
    go_enter Tryz.func84, Tryz.ntmps84
    go_wp2_with fail
    go_ret2
    exact ⟨rfl, rfl⟩
  | false =>
    rw [if_neg (by simp)]
    have h1 := of_decide_eq_false h
    clear h
    by_cases h2 : a < 0
    · clear h1
      go_enter Tryz.func84, Tryz.ntmps84
      go_wp2_with fail
      go_ret2
      exact ⟨rfl, rfl⟩
    · have h3 : 4294967295 < a := by omega
      clear h1
      go_enter Tryz.func84, Tryz.ntmps84
      go_wp2_with fail
      go_ret2
      exact ⟨rfl, rfl⟩
theorem RFromAddress_any (a : Int) (w : World) : Calls Tryz.prog 96 #[.int .i64 a] w fun e w' => e = .returned (frA a) ∧ w = w' := by
  unfold frA
  cases h : inA a with
  | true =>
    rw [if_pos rfl]
    obtain ⟨h0, h1⟩ := of_decide_eq_true h
    have ha : Hid (a * 4 + 2 = adW a) := Lib.hid (by unfold adW; omega)
    clear h
    go_enter Tryz.func96, Tryz.ntmps96
    go_wp2_with fail
    go_ret2
    exact ⟨ret_uu ha.out, rfl⟩
  | false =>
    rw [if_neg (by simp)]
    have h1 := of_decide_eq_false h
    clear h
    by_cases h2 : a < 0
    · clear h1
      go_enter Tryz.func96, Tryz.ntmps96
      go_wp2_with fail
      go_ret2
      exact ⟨rfl, rfl⟩
    · have h3 : 4294967295 < a := by omega
      clear h1
      go_enter Tryz.func96, Tryz.ntmps96
      go_wp2_with fail
      go_ret2
      exact ⟨rfl, rfl⟩
def oldB (a : Int) : Bool := decide (0 ≤ a ∧ a < 16777216)
end Go.Proofs.YtjpaogapclfajaaGreat
