/- Words, headers and identities of objects: plain arithmetic. -/
import Derived.WalkKit
import Derived.Laws.Bits64b
namespace Go.Proofs.YtjpaogapclfajaaGreat
set_option linter.unusedVariables false
set_option linter.unusedSimpArgs false
set_option linter.unusedSectionVars false
open Go.RowKit

/-- a 64-bit word -/
def U64 (w : Int) : Prop := 0 ≤ w ∧ w < 18446744073709551616
/-- the address of a word -/
def adr (w : Int) : Option Int := if w % 4 = 2 ∧ w / 4 ≤ 4294967295 then some (w / 4) else none
/-- the word of an address -/
def adW (a : Int) : Int := 4 * a + 2
theorem adr_adW {a : Int} (h0 : 0 ≤ a) (h1 : a ≤ 4294967295) : adr (adW a) = some a := by
  unfold adr adW
  rw [if_pos (by omega)]
  congr 1
  omega
theorem adr_some {w a : Int} (h : adr w = some a) : w = adW a ∧ a ≤ 4294967295 := by
  unfold adr at h
  split at h
  · cases h; unfold adW; omega
  · cases h
theorem adr_bound {w a : Int} (hw : U64 w) (h : adr w = some a) : 0 ≤ a ∧ a ≤ 4294967295 := by
  unfold adr at h
  split at h
  · cases h; unfold U64 at hw; omega
  · cases h

structure Hdr where
  k : Int
  c : Int
  f : Int
  deriving DecidableEq
def Hdr.zero : Hdr := ⟨0, 0, 0⟩
def Hdr.val (h : Hdr) : Value := .agg #[.int .i64 h.k, .int .i64 h.c, .int .i64 h.f]
/-- whether a header is valid -/
def vH (h : Hdr) : Bool := decide (0 ≤ h.c ∧ h.c ≤ 60 ∧ 0 ≤ h.f ∧ h.f ≤ 30 ∧ (((h.k = 0 ∨ h.k = 1) ∧ 0 < h.c) ∨ (h.k = 2 ∧ h.c = 0 ∧ h.f = 1) ∨ h.k = 3 ∨ h.k = 4))
/-- the header word -/
def eH (h : Hdr) : Int := 3 + 4 * h.k + 256 * h.c + 16777216 * h.f
theorem vH_iff (h : Hdr) : vH h = true ↔ (0 ≤ h.c ∧ h.c ≤ 60 ∧ 0 ≤ h.f ∧ h.f ≤ 30 ∧ (((h.k = 0 ∨ h.k = 1) ∧ 0 < h.c) ∨ (h.k = 2 ∧ h.c = 0 ∧ h.f = 1) ∨ h.k = 3 ∨ h.k = 4)) := by
  unfold vH; exact decide_eq_true_iff
theorem vH_bound {h : Hdr} (hv : vH h = true) : 0 ≤ h.k ∧ h.k ≤ 4 ∧ 0 ≤ h.c ∧ h.c ≤ 60 ∧ 0 ≤ h.f ∧ h.f ≤ 30 := by
  have := (vH_iff h).1 hv
  omega
/-- the parts of a word as a header -/
def pH (w : Int) : Hdr := ⟨w / 4 % 64, w / 256 % 65536, w / 16777216 % 65536⟩
/-- the header of a word -/
def dH (w : Int) : Option Hdr := if vH (pH w) = true ∧ eH (pH w) = w then some (pH w) else none
theorem pH_eH {h : Hdr} (hv : vH h = true) : pH (eH h) = h := by
  have := vH_bound hv
  obtain ⟨k, c, f⟩ := h
  simp only at this
  unfold pH eH
  simp only [Hdr.mk.injEq]
  omega
theorem dH_eH {h : Hdr} (hv : vH h = true) : dH (eH h) = some h := by
  unfold dH
  rw [pH_eH hv, if_pos ⟨hv, rfl⟩]
theorem dH_some {w : Int} {h : Hdr} (hd : dH w = some h) : vH h = true ∧ eH h = w := by
  unfold dH at hd
  split at hd
  · rename_i h1; cases hd; exact h1
  · cases hd
theorem eH_bound {h : Hdr} (hv : vH h = true) : 0 ≤ eH h ∧ eH h < 520093696 := by
  have := vH_bound hv
  unfold eH
  omega
theorem eH_u64 {h : Hdr} (hv : vH h = true) : U64 (eH h) := by
  have := eH_bound hv
  unfold U64
  omega
/-- the size of an object -/
def wH (h : Hdr) : Int := if vH h = true then 2 + max h.f 2 else 0
theorem wH_bound (h : Hdr) : 0 ≤ wH h ∧ wH h ≤ 32 := by
  unfold wH
  split
  · rename_i hv; have := vH_bound hv; omega
  · omega
theorem wH_ge {h : Hdr} (hv : vH h = true) : 4 ≤ wH h ∧ h.f + 2 ≤ wH h := by
  unfold wH
  rw [if_pos hv]
  omega

structure Id where
  m : Int
  s : Int
  deriving DecidableEq
def Id.zero : Id := ⟨0, 0⟩
def Id.val (i : Id) : Value := .agg #[.int .i64 i.m, .int .i64 i.s]
def vI (i : Id) : Bool := decide (1 ≤ i.m ∧ i.m ≤ 8 ∧ 1 ≤ i.s ∧ i.s ≤ 1099511627775)
def eI (i : Id) : Int := i.m * 281474976710656 + i.s
/-- the identity of a word; the zero identity if there is none -/
def dI (w : Int) : Id := if vI ⟨w / 281474976710656, w % 281474976710656⟩ = true then ⟨w / 281474976710656, w % 281474976710656⟩ else Id.zero
theorem vI_iff (i : Id) : vI i = true ↔ (1 ≤ i.m ∧ i.m ≤ 8 ∧ 1 ≤ i.s ∧ i.s ≤ 1099511627775) := by unfold vI; exact decide_eq_true_iff
theorem dI_eI {i : Id} (h : vI i = true) : dI (eI i) = i := by
  have := (vI_iff i).1 h
  obtain ⟨m, s⟩ := i
  simp only at this
  have e : (⟨eI ⟨m, s⟩ / 281474976710656, eI ⟨m, s⟩ % 281474976710656⟩ : Id) = ⟨m, s⟩ := by
    unfold eI
    simp only [Id.mk.injEq]
    omega
  unfold dI
  rw [e, if_pos h]
theorem eI_u64 {i : Id} (h : vI i = true) : U64 (eI i) := by
  have := (vI_iff i).1 h
  unfold U64 eI
  omega
theorem vI_zero : vI Id.zero = false := by decide
theorem dI_ne {w : Int} (h : dI w ≠ Id.zero) : vI (dI w) = true := by
  unfold dI at h ⊢
  split
  · assumption
  · rename_i h1; rw [if_neg h1] at h; exact absurd rfl h

/-! ### bits -/
theorem or_disj (j : Nat) (a b : Nat) (hb : b < 2 ^ j) (ha : a % 2 ^ j = 0) (h : a < 18446744073709551616) (hb2 : b < 18446744073709551616) : bits .or .u64 (a : Int) (b : Int) = ((a + b : Nat) : Int) := by
  rw [bits_or_u64_nat a b h hb2]
  have := Nat.two_pow_add_eq_or_of_lt hb (a / 2 ^ j)
  rw [Nat.mul_div_cancel' (Nat.dvd_of_mod_eq_zero ha)] at this
  rw [this]
theorem or_parts (f c k : Nat) (hf : f ≤ 30) (hc : c ≤ 60) (hk : k ≤ 4) : bits .or .u64 (bits .or .u64 (bits .or .u64 ((f : Int) * 16777216) ((c : Int) * 256)) ((k : Int) * 4)) 3 = 3 + 4 * (k : Int) + 256 * (c : Int) + 16777216 * (f : Int) := by
  have e1 := or_disj 24 (f * 16777216) (c * 256) (by omega) (by omega) (by omega) (by omega)
  have e2 := or_disj 8 (f * 16777216 + c * 256) (k * 4) (by omega) (by omega) (by omega) (by omega)
  have e3 := or_disj 2 (f * 16777216 + c * 256 + k * 4) 3 (by omega) (by omega) (by omega) (by omega)
  have c1 : ((f * 16777216 : Nat) : Int) = (f : Int) * 16777216 := by simp
  have c2 : ((c * 256 : Nat) : Int) = (c : Int) * 256 := by simp
  have c3 : ((k * 4 : Nat) : Int) = (k : Int) * 4 := by simp
  rw [← c1, ← c2, ← c3, e1, e2]
  refine e3.trans ?_
  simp only [Int.natCast_add, Int.natCast_mul, Int.cast_ofNat_Int]
  omega
theorem and_mask (j : Nat) (hj : j ≤ 16) {w : Int} (hw : U64 w) : bits .and .u64 w (2 ^ j - 1) = w % 2 ^ j := by
  obtain ⟨m, rfl⟩ := Int.eq_ofNat_of_zero_le hw.1
  have hm : m < 18446744073709551616 := by have := hw.2; omega
  have hp : 2 ^ j ≤ 2 ^ 16 := Nat.pow_le_pow_right (by omega) hj
  have hp2 : (2 : Nat) ^ 16 = 65536 := rfl
  rw [hp2] at hp
  have h1 := bits_and_u64_nat m (2 ^ j - 1) hm (by omega)
  have h2 : ((2 ^ j - 1 : Nat) : Int) = 2 ^ j - 1 := by
    have : 0 < 2 ^ j := Nat.two_pow_pos j
    rw [Int.ofNat_sub this]
    simp
  rw [← h2, h1, Nat.and_two_pow_sub_one_eq_mod]
  simp
theorem and_63 {w : Int} (hw : U64 w) : bits .and .u64 w 63 = w % 64 := and_mask 6 (by omega) hw
theorem and_65535 {w : Int} (hw : U64 w) : bits .and .u64 w 65535 = w % 65536 := and_mask 16 (by omega) hw
theorem and_3 {w : Int} (hw : U64 w) : bits .and .u64 w 3 = w % 4 := and_mask 2 (by omega) hw
end Go.Proofs.YtjpaogapclfajaaGreat
