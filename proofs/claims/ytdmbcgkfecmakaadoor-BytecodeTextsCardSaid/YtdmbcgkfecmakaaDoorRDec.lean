/- refmeshref01.Digits and Decimal. -/
import Derived.Test.YtdmbcgkfecmakaaDoorText
import Derived.Deep.RegionWith
import Derived.Laws.BytesArg
import Derived.Lib.ItoaLen
import Derived.Deep.DeepCutAuto
namespace Go.Proofs.YtdmbcgkfecmakaaDoor
set_option linter.unusedVariables false
set_option linter.unusedSimpArgs false
set_option linter.unusedSectionVars false
open Go.RowKit Go.Sort
set_option maxRecDepth 100000

def digB (u : Nat) : ByteArray := ⟨(Lib.decDigits u).toArray⟩
theorem digB_size (u : Nat) (h : u < 18446744073709551616) : (digB u).size ≤ 20 := by
  have h1 := Lib.nDigits_le20 u h
  rw [← Lib.decDigits_length] at h1
  exact h1
theorem digB_small (u : Nat) (h : u < 10) : digB u = ⟨#[UInt8.ofNat (48 + u)]⟩ := by unfold digB; rw [Lib.decDigits, dif_pos h]
theorem digB_big (u : Nat) (h : ¬ u < 10) : digB u = digB (u / 10) ++ ⟨#[UInt8.ofNat (48 + u % 10)]⟩ := by
  unfold digB
  rw [Lib.decDigits, dif_neg h]
  apply Go.WideShapes.bytes_inj
  simp
theorem conv_at (w : World) (b : Nat) (x : Int) (hc : w.cell? ⟨b, 0, none⟩ = some (.int .u8 x)) : (convert 71 9 (.slice (some ⟨b, 0, none⟩) 1 1)).run Tryd.prog w = .ok (.string (strOfNums [x])) w :=
  run_convert_bytes_arg _ 71 5 Tryd.underlying71 Tryd.underlying5 b 0 1 1 [x] rfl (fun i hi => by obtain rfl : i = 0 := (by omega); simpa using hc) 9 Tryd.underlying9
theorem conv_one (w : World) (x : Int) : (convert 71 9 (.slice (some ⟨w.heap.size, 0, none⟩) 1 1)).run Tryd.prog (w.alloc (.cells #[.int .u8 x] 5)) = .ok (.string (strOfNums [x])) (w.alloc (.cells #[.int .u8 x] 5)) :=
  run_convert_bytes_arg _ 71 5 Tryd.underlying71 Tryd.underlying5 w.heap.size 0 1 1 [x] rfl (fun i hi => by obtain rfl : i = 0 := (by omega); simp) 9 Tryd.underlying9
theorem strOf_one (u : Nat) : strOfNums [48 + (u : Int)] = ⟨#[UInt8.ofNat (48 + u)]⟩ := by
  have e : (48 + (u : Int)).toNat = 48 + u := by omega
  simp [strOfNums, e]

theorem Digits_small (u : Nat) (hu : u < 10) (w : World) : Calls Tryd.prog 84 #[.int .u64 (u : Int)] w fun e w' => e = .returned (.string (digB u)) ∧ Below w.heap.size w w' := by
  have HD := Lib.hid (digB_small u hu)
  have hcv := conv_one w (48 + u)
  have HS := Lib.hid (strOf_one u)
  go_enter Tryd.func84, Tryd.ntmps84
  go_wp2
  go_ret
  exact ⟨by rw [HD.out, ← HS.out]; rfl, (Below.refl _ _).alloc (Nat.le_refl _) _⟩
set_option maxHeartbeats 2000000 in
theorem Digits_any : ∀ (f u : Nat) (w : World), u < 10 ^ (f + 1) → u ≤ 18446744073709551615 → Calls Tryd.prog 84 #[.int .u64 (u : Int)] w fun e w' => e = .returned (.string (digB u)) ∧ Below w.heap.size w w'
  | 0, u, w, h, h1 => Digits_small u (by omega) w
  | f + 1, u, w, h, h1 => by
    by_cases hu : u < 10
    · exact Digits_small u hu w
    · obtain ⟨q, hq⟩ : ∃ q : Nat, q = u / 10 := ⟨_, rfl⟩
      obtain ⟨r, hr⟩ : ∃ r : Nat, r = u % 10 := ⟨_, rfl⟩
      have hdig := digB_big u hu
      rw [← hq, ← hr] at hdig
      have HD := Lib.hid hdig
      have ih := fun w => Digits_any f q w (by rw [Nat.pow_succ] at h; omega) (by omega)
      have hu' : ¬ ((u : Int) < 10) := by omega
      have e1 : IntKind.u64.wrap ((u : Int) / 10) = (q : Int) := by simp only [IntKind.wrap, IntKind.signed, IntKind.bits]; simp; omega
      have e2 : (u : Int).tmod 10 = (r : Int) := by rw [Int.tmod_eq_emod_of_nonneg (by omega)]; omega
      have e3 : IntKind.u64.wrap (48 + (r : Int)) = 48 + (r : Int) := by simp only [IntKind.wrap, IntKind.signed, IntKind.bits]; simp; omega
      have e4 : IntKind.u8.wrap (48 + (r : Int)) = 48 + (r : Int) := by simp only [IntKind.wrap, IntKind.signed, IntKind.bits]; simp; omega
      have hc0 := conv_one w (48 + (r : Int))
      have hc1 : ∀ w' : World, (convert 71 9 (.slice (some ⟨w'.heap.size, 0, none⟩) 1 1)).run Tryd.prog (w'.alloc (.cells #[.int .u8 (48 + (r : Int))] 5)) = .ok (.string (strOfNums [48 + (r : Int)])) (w'.alloc (.cells #[.int .u8 (48 + (r : Int))] 5)) := fun w' => conv_one w' _
      have hc2 : ∀ w' : World, (convert 71 9 (.slice (some ⟨w'.heap.size, 0, none⟩) 1 1)).run Tryd.prog ((w'.alloc (.cells #[.int .u8 (48 + (r : Int))] 5)).drew) = .ok (.string (strOfNums [48 + (r : Int)])) ((w'.alloc (.cells #[.int .u8 (48 + (r : Int))] 5)).drew) := fun w' => conv_at _ _ _ (by simp)
      have hs1 : (strOfNums [48 + (r : Int)]).size = 1 := by rw [strOfNums_size]; rfl
      have hsz : ¬ 9223372036854775807 < (digB q).size + 1 := by
        have := digB_size q (by omega)
        omega
      have hl : w.heap.size < ((w.alloc (.cells #[.int .u8 (48 + (r : Int))] 5)).drew).heap.size := by simp [World.drew]
      have hk : ((w.alloc (.cells #[.int .u8 (48 + (r : Int))] 5)).drew).cell? ⟨w.heap.size, 0, none⟩ = some (.int .u8 (48 + (r : Int))) := by simp
      have hbw : Below w.heap.size w ((w.alloc (.cells #[.int .u8 (48 + (r : Int))] 5)).drew) := ((Below.refl _ _).alloc (Nat.le_refl _) _).drew
      have HLK := Lib.hid (And.intro hl (And.intro hk hbw))
      have HIH := Lib.hid ih
      have HS := Lib.hid (strOf_one r)
      clear h ih hu hq hr hdig hl hk hbw
      go_enter Tryd.func84, Tryd.ntmps84
      go_wp2_with fail
      go_region_with (first | (go_at_call 84; refine (HIH.out _).mono ?_; rintro e w1 ⟨rfl, hb⟩; (first | (have hcc := conv_at w1 w.heap.size (48 + (r : Int)) (((bcell hb).1 _ 0 HLK.out.1).trans HLK.out.2.1)) | skip)))
      all_goals
        go_wp2_with fail
        go_ret
        refine ⟨by rw [HD.out, ← HS.out]; rfl, ?_⟩
        first
          | exact (Below.refl _ _).drew.trans hb
          | exact HLK.out.2.2.trans (hb.mono (Nat.le_of_lt HLK.out.1))
          | exact ((Below.refl _ _).drew.trans hb).alloc hb.size _
theorem Digits_all (u : Nat) (w : World) (h : u ≤ 18446744073709551615) : Calls Tryd.prog 84 #[.int .u64 (u : Int)] w fun e w' => e = .returned (.string (digB u)) ∧ Below w.heap.size w w' :=
  Digits_any 20 u w (by omega) h
theorem dec_neg (m : Nat) (h : 0 < m) : dec (-(m : Int)) = ⟨#[45]⟩ ++ digB m := by
  unfold dec digB Lib.itoa
  rw [if_pos (by omega)]
  apply Go.WideShapes.bytes_inj
  simp
theorem dec_nat (m : Nat) : dec (m : Int) = digB m := by
  unfold dec digB Lib.itoa
  rw [if_neg (by omega)]
  simp
set_option maxHeartbeats 1000000 in
theorem Decimal_any (n : Int) (h0 : -9223372036854775808 ≤ n) (h1 : n ≤ 9223372036854775807) (w : World) : Calls Tryd.prog 52 #[.int .i64 n] w fun e w' => e = .returned (.string (dec n)) ∧ Below w.heap.size w w' := by
  by_cases hn : n < 0
  · obtain ⟨m, hm⟩ : ∃ m : Nat, n = -(m : Int) := ⟨n.natAbs, by omega⟩
    have hm0 : 0 < m := by omega
    have hm1 : m ≤ 9223372036854775808 := by omega
    have e1 : IntKind.u64.wrap (-IntKind.u64.wrap n) = (m : Int) := by rw [hm]; simp only [IntKind.wrap, IntKind.signed, IntKind.bits]; simp; omega
    have hd := dec_neg m hm0
    rw [← hm] at hd
    have HD := Lib.hid hd
    have hsz := digB_size m (by omega)
    have hs : ¬ 9223372036854775807 < 1 + (digB m).size := by omega
    clear hm hd hsz
    go_enter Tryd.func52, Tryd.ntmps52
    go_wp2_with fail
    refine (Digits_all m _ (by omega)).mono ?_
    rintro e w' ⟨rfl, hb⟩
    go_wp2
    go_ret
    exact ⟨by rw [HD.out]; rfl, hb⟩
  · obtain ⟨m, rfl⟩ := Int.eq_ofNat_of_zero_le (show 0 ≤ n by omega)
    have e1 : IntKind.u64.wrap (m : Int) = (m : Int) := by simp only [IntKind.wrap, IntKind.signed, IntKind.bits]; simp; omega
    have HD := Lib.hid (dec_nat m)
    go_enter Tryd.func52, Tryd.ntmps52
    go_wp2_with fail
    refine (Digits_all m _ (by omega)).mono ?_
    rintro e w' ⟨rfl, hb⟩
    go_wp2
    go_ret
    exact ⟨by rw [HD.out]; rfl, hb⟩
end Go.Proofs.YtdmbcgkfecmakaaDoor
