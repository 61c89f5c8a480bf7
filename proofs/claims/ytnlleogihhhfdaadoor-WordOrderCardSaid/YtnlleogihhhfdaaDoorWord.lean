/- package word: the contracts of Wrap, FromInt, Int and the operations. -/
import Derived.WalkKit
import Derived.KernelRfl
import Derived.Lib.Hide
import Derived.Below
import Derived.Laws.Bits64b
import Derived.Deep.RegionWith
import Derived.Test.YtnlleogihhhfdaaDoorProg
namespace Go.Proofs.YtnlleogihhhfdaaDoor
set_option linter.unusedVariables false
set_option linter.unusedSimpArgs false
set_option linter.unusedSectionVars false
open Go.RowKit
set_option maxRecDepth 100000

/-- n wrapped to 62 bits -/
def w62 (n : Int) : Int := (n + 2305843009213693952) % 4611686018427387904 - 2305843009213693952
/-- the word of the integer n -/
def wd (n : Int) : Int := (4 * n + 1) % 18446744073709551616
def In62 (n : Int) : Prop := -2305843009213693952 ≤ n ∧ n ≤ 2305843009213693951
theorem w62_in (n : Int) : In62 (w62 n) := by unfold In62 w62; omega
theorem w62_id {n : Int} (h : In62 n) : w62 n = n := by unfold In62 at h; unfold w62; omega
theorem wrap_w62 (n : Int) : wrap64 (n * 4) / 4 = w62 n := by unfold wrap64 w62; omega
theorem wd_bound (n : Int) : 0 ≤ wd n ∧ wd n < 18446744073709551616 := by unfold wd; omega
theorem wd_inj {n m : Int} (hn : In62 n) (hm : In62 m) (h : wd n = wd m) : n = m := by unfold In62 at hn hm; unfold wd at h; omega
theorem wd_low (n : Int) : wd n % 4 = 1 := by unfold wd; omega
theorem wd_high {n : Int} (h : In62 n) : wrap64 (wd n) / 4 = n := by unfold In62 at h; unfold wrap64 wd; omega
theorem or_one (m : Nat) (h : m < 18446744073709551616) (h4 : m % 4 = 0) : bits .or .u64 (m : Int) 1 = m + 1 := by
  have h1 := bits_or_u64_nat m 1 h (by decide)
  have h2 : m ||| 1 = m + 1 := by
    have := Nat.two_pow_add_eq_or_of_lt (i := 2) (b := 1) (by decide) (m / 4)
    have e : 2 ^ 2 * (m / 4) = m := by omega
    rw [e] at this
    exact this.symm
  rw [h2] at h1
  exact h1
theorem or_wd (n : Int) : bits .or .u64 (IntKind.u64.wrap (IntKind.u64.wrap n * 4)) 1 = wd n := by
  have e : IntKind.u64.wrap (IntKind.u64.wrap n * 4) = ((4 * n) % 18446744073709551616) := by
    simp only [IntKind.wrap, IntKind.signed, IntKind.bits]
    simp
    omega
  obtain ⟨m, hm⟩ := Int.eq_ofNat_of_zero_le (show 0 ≤ (4 * n) % 18446744073709551616 by omega)
  rw [e, hm, or_one m (by omega) (by omega)]
  unfold wd
  omega
theorem and_wd (n : Int) : bits .and .u64 (wd n) 3 = 1 := by
  obtain ⟨m, hm⟩ := Int.eq_ofNat_of_zero_le (wd_bound n).1
  have hb := wd_bound n
  have hl := wd_low n
  rw [hm] at hb hl ⊢
  have h1 := bits_and_u64_nat m 3 (by omega) (by decide)
  have h2 : m &&& 3 = 1 := by
    have := Nat.and_two_pow_sub_one_eq_mod m 2
    have e : (2 ^ 2 - 1 : Nat) = 3 := rfl
    rw [e] at this
    rw [this]
    omega
  rw [h2] at h1
  exact h1

theorem Wrap_any (n : Int) (w : World) : Calls Tryd.prog 6 #[.int .i64 n] w fun e w' => e = .returned (.int .i64 (w62 n)) ∧ w = w' := by
  have HW := Lib.hid (wrap_w62 n)
  go_enter Tryd.func6, Tryd.ntmps6
  go_wp2
  go_ret
  exact ⟨by rw [← HW.out]; rfl, rfl⟩
theorem Wrap_id {n : Int} (h : In62 n) (w : World) : Calls Tryd.prog 6 #[.int .i64 n] w fun e w' => e = .returned (.int .i64 n) ∧ w = w' := by
  have := Wrap_any n w
  rwa [w62_id h] at this
theorem FromInt_in {n : Int} (h : In62 n) (w : World) :
    Calls Tryd.prog 7 #[.int .i64 n] w fun e w' => e = .returned (.tuple #[.int .u64 (wd n), .int .i64 0]) ∧ w = w' := by
  have HO := Lib.hid (or_wd n)
  have H := Lib.hid h
  clear h
  go_enter Tryd.func7, Tryd.ntmps7
  go_wp2_with (go_at_call 6; refine (Wrap_id H.out _).mono ?_; rintro e w' ⟨rfl, rfl⟩)
  go_ret2
  exact ⟨by rw [← HO.out]; rfl, rfl⟩
theorem Int_wd {n : Int} (h : In62 n) (w : World) :
    Calls Tryd.prog 12 #[.int .u64 (wd n)] w fun e w' => e = .returned (.tuple #[.int .i64 n, .bool true]) ∧ w = w' := by
  have HH := Lib.hid (wd_high h)
  have ha : (bits .and .u64 (wd n) 3 != 1) = false := by rw [and_wd]; rfl
  clear h
  go_enter Tryd.func12, Tryd.ntmps12
  go_wp2
  go_ret2
  exact ⟨by simp only [HH.out]; rfl, rfl⟩

section
variable {x y : Int} {w : World}
theorem Mul_any (hx : In62 x) (hy : In62 y) : Calls Tryd.prog 10 #[.int .u64 (wd x), .int .u64 (wd y)] w fun e w' => e = .returned (.tuple #[.int .u64 (wd (w62 (x * y))), .int .i64 0]) ∧ w = w' := by
  have e : w62 (wrap64 (x * y)) = w62 (x * y) := by unfold w62 wrap64; omega
  have HE := Lib.hid e
  have HX := Lib.hid (And.intro hx hy)
  clear e hx hy
  go_enter Tryd.func10, Tryd.ntmps10
  go_wp2_with (first
    | (go_at_call_of 12 (Value.int .u64 (wd x)); refine (Int_wd HX.out.1 _).mono ?_; rintro e w' ⟨rfl, rfl⟩)
    | (go_at_call_of 12 (Value.int .u64 (wd y)); refine (Int_wd HX.out.2 _).mono ?_; rintro e w' ⟨rfl, rfl⟩)
    | (go_at_call 6; refine (Wrap_any _ _).mono ?_; rintro e w' ⟨rfl, rfl⟩)
    | (go_at_call 7; refine (FromInt_in (w62_in _) _).mono ?_; rintro e w' ⟨rfl, rfl⟩)
    | go_in)
  go_ret2
  exact ⟨by rw [← HE.out]; rfl, rfl⟩

theorem Add_any (hx : In62 x) (hy : In62 y) : Calls Tryd.prog 11 #[.int .u64 (wd x), .int .u64 (wd y)] w fun e w' => e = .returned (.tuple #[.int .u64 (wd (w62 (x + y))), .int .i64 0]) ∧ w = w' := by
  have e : w62 (wrap64 (x + y)) = w62 (x + y) := by unfold w62 wrap64; omega
  have HE := Lib.hid e
  have HX := Lib.hid (And.intro hx hy)
  clear e hx hy
  go_enter Tryd.func11, Tryd.ntmps11
  go_wp2_with (first
    | (go_at_call_of 12 (Value.int .u64 (wd x)); refine (Int_wd HX.out.1 _).mono ?_; rintro e w' ⟨rfl, rfl⟩)
    | (go_at_call_of 12 (Value.int .u64 (wd y)); refine (Int_wd HX.out.2 _).mono ?_; rintro e w' ⟨rfl, rfl⟩)
    | (go_at_call 6; refine (Wrap_any _ _).mono ?_; rintro e w' ⟨rfl, rfl⟩)
    | (go_at_call 7; refine (FromInt_in (w62_in _) _).mono ?_; rintro e w' ⟨rfl, rfl⟩)
    | go_in)
  go_ret2
  exact ⟨by rw [← HE.out]; rfl, rfl⟩
theorem Div_any (hx : In62 x) (hy : In62 y) (h0 : y ≠ 0) : Calls Tryd.prog 8 #[.int .u64 (wd x), .int .u64 (wd y)] w fun e w' => e = .returned (.tuple #[.int .u64 (wd (w62 (x.tdiv y))), .int .i64 0]) ∧ w = w' := by
  have e : w62 (wrap64 (x.tdiv y)) = w62 (x.tdiv y) := by unfold w62 wrap64; omega
  have HE := Lib.hid e
  have HX := Lib.hid (And.intro hx hy)
  have hb : (y == 0) = false := by simpa using h0
  clear e hx hy
  go_enter Tryd.func8, Tryd.ntmps8
  go_wp2_with (first
    | (go_at_call_of 12 (Value.int .u64 (wd x)); refine (Int_wd HX.out.1 _).mono ?_; rintro e w' ⟨rfl, rfl⟩)
    | (go_at_call_of 12 (Value.int .u64 (wd y)); refine (Int_wd HX.out.2 _).mono ?_; rintro e w' ⟨rfl, rfl⟩)
    | (go_at_call 6; refine (Wrap_any _ _).mono ?_; rintro e w' ⟨rfl, rfl⟩)
    | (go_at_call 7; refine (FromInt_in (w62_in _) _).mono ?_; rintro e w' ⟨rfl, rfl⟩)
    | go_in)
  go_ret2
  exact ⟨by rw [← HE.out]; rfl, rfl⟩
theorem Rem_any (hx : In62 x) (hy : In62 y) (h0 : y ≠ 0) : Calls Tryd.prog 9 #[.int .u64 (wd x), .int .u64 (wd y)] w fun e w' => e = .returned (.tuple #[.int .u64 (wd (w62 (x.tmod y))), .int .i64 0]) ∧ w = w' := by
  have e : w62 (wrap64 (x.tmod y)) = w62 (x.tmod y) := by unfold w62 wrap64; omega
  have HE := Lib.hid e
  have HX := Lib.hid (And.intro hx hy)
  have hb : (y == 0) = false := by simpa using h0
  clear e hx hy
  go_enter Tryd.func9, Tryd.ntmps9
  go_wp2_with (first
    | (go_at_call_of 12 (Value.int .u64 (wd x)); refine (Int_wd HX.out.1 _).mono ?_; rintro e w' ⟨rfl, rfl⟩)
    | (go_at_call_of 12 (Value.int .u64 (wd y)); refine (Int_wd HX.out.2 _).mono ?_; rintro e w' ⟨rfl, rfl⟩)
    | (go_at_call 6; refine (Wrap_any _ _).mono ?_; rintro e w' ⟨rfl, rfl⟩)
    | (go_at_call 7; refine (FromInt_in (w62_in _) _).mono ?_; rintro e w' ⟨rfl, rfl⟩)
    | go_in)
  go_ret2
  exact ⟨by rw [← HE.out]; rfl, rfl⟩
theorem Div_zero (hx : In62 x) : Calls Tryd.prog 8 #[.int .u64 (wd x), .int .u64 (wd 0)] w fun e w' => e = .returned (.tuple #[.int .u64 0, .int .i64 2]) ∧ w = w' := by
  have HX := Lib.hid (And.intro hx (show In62 0 by unfold In62; omega))
  clear hx
  go_enter Tryd.func8, Tryd.ntmps8
  go_wp2_with (first
    | (go_at_call_of 12 (Value.int .u64 (wd x)); refine (Int_wd HX.out.1 _).mono ?_; rintro e w' ⟨rfl, rfl⟩)
    | (go_at_call_of 12 (Value.int .u64 (wd 0)); refine (Int_wd HX.out.2 _).mono ?_; rintro e w' ⟨rfl, rfl⟩)
    | (go_at_call 6; refine (Wrap_any _ _).mono ?_; rintro e w' ⟨rfl, rfl⟩)
    | (go_at_call 7; refine (FromInt_in (w62_in _) _).mono ?_; rintro e w' ⟨rfl, rfl⟩)
    | go_in)
  go_ret2
  exact ⟨rfl, rfl⟩
theorem Rem_zero (hx : In62 x) : Calls Tryd.prog 9 #[.int .u64 (wd x), .int .u64 (wd 0)] w fun e w' => e = .returned (.tuple #[.int .u64 0, .int .i64 2]) ∧ w = w' := by
  have HX := Lib.hid (And.intro hx (show In62 0 by unfold In62; omega))
  clear hx
  go_enter Tryd.func9, Tryd.ntmps9
  go_wp2_with (first
    | (go_at_call_of 12 (Value.int .u64 (wd x)); refine (Int_wd HX.out.1 _).mono ?_; rintro e w' ⟨rfl, rfl⟩)
    | (go_at_call_of 12 (Value.int .u64 (wd 0)); refine (Int_wd HX.out.2 _).mono ?_; rintro e w' ⟨rfl, rfl⟩)
    | (go_at_call 6; refine (Wrap_any _ _).mono ?_; rintro e w' ⟨rfl, rfl⟩)
    | (go_at_call 7; refine (FromInt_in (w62_in _) _).mono ?_; rintro e w' ⟨rfl, rfl⟩)
    | go_in)
  go_ret2
  exact ⟨rfl, rfl⟩

theorem Truth_any (h : In62 x) : Calls Tryd.prog 15 #[.int .u64 (wd x)] w fun e w' => e = .returned (.bool (x != 0)) ∧ w = w' := by
  have h0 : (wd x != 0) = true := by unfold wd; simp; omega
  by_cases hx : x = 0
  · have h1 : (wd x != 1) = false := by subst hx; rfl
    have HX : Hid ((x != 0) = false) := Lib.hid (by simp [hx])
    clear hx h
    go_enter Tryd.func15, Tryd.ntmps15
    go_wp2
    go_ret
    exact ⟨by rw [HX.out]; rfl, rfl⟩
  · have h1 : (wd x != 1) = true := by unfold In62 at h; unfold wd; simp; omega
    have HX : Hid ((x != 0) = true) := Lib.hid (by simp [hx])
    clear hx h
    go_enter Tryd.func15, Tryd.ntmps15
    go_wp2
    go_ret
    exact ⟨by rw [HX.out]; rfl, rfl⟩

def cmpI (x y : Int) : Int := if x < y then -1 else if y < x then 1 else 0
theorem cmp_any (w : World) : Calls Tryd.prog 24 #[.int .i64 x, .int .i64 y] w fun e w' => e = .returned (.int .i64 (cmpI x y)) ∧ w = w' := by
  by_cases h1 : x < y
  · have hc : cmpI x y = -1 := if_pos h1
    have HC := Lib.hid hc
    clear hc
    go_enter Tryd.func24, Tryd.ntmps24
    go_wp2
    go_ret
    exact ⟨by rw [HC.out]; rfl, rfl⟩
  · by_cases h2 : y < x
    · have hc : cmpI x y = 1 := by unfold cmpI; rw [if_neg h1, if_pos h2]
      have HC := Lib.hid hc
      clear hc
      go_enter Tryd.func24, Tryd.ntmps24
      go_wp2
      go_ret
      exact ⟨by rw [HC.out]; rfl, rfl⟩
    · have hc : cmpI x y = 0 := by unfold cmpI; rw [if_neg h1, if_neg h2]
      have HC := Lib.hid hc
      clear hc
      go_enter Tryd.func24, Tryd.ntmps24
      go_wp2
      go_ret
      exact ⟨by rw [HC.out]; rfl, rfl⟩
theorem Compare_any (hx : In62 x) (hy : In62 y) : Calls Tryd.prog 14 #[.int .u64 (wd x), .int .u64 (wd y)] w fun e w' => e = .returned (.tuple #[.int .i64 (cmpI x y), .int .i64 0]) ∧ Below w.heap.size w w' := by
  have HX := Lib.hid (And.intro hx hy)
  clear hx hy
  go_enter Tryd.func14, Tryd.ntmps14
  go_wp2_with (first
    | (go_at_call_of 12 (Value.int .u64 (wd x)); refine (Int_wd HX.out.1 _).mono ?_; rintro e w' ⟨rfl, rfl⟩)
    | (go_at_call_of 12 (Value.int .u64 (wd y)); refine (Int_wd HX.out.2 _).mono ?_; rintro e w' ⟨rfl, rfl⟩)
    | (go_at_call 6; refine (Wrap_any _ _).mono ?_; rintro e w' ⟨rfl, rfl⟩)
    | (go_at_call 7; refine (FromInt_in (w62_in _) _).mono ?_; rintro e w' ⟨rfl, rfl⟩)
    | (go_at_call 24; refine (cmp_any _).mono ?_; rintro e w' ⟨rfl, rfl⟩)
    | go_in)
  go_ret2
  exact ⟨rfl, (Below.refl _ _).alloc (Nat.le_refl _) _⟩
end
end Go.Proofs.YtnlleogihhhfdaaDoor
