/- refmeshlaw01.awake returns true. -/
import Derived.Test.YtnlleogihhhfdaaDoorWord
import Derived.Test.YtnlleogihhhfdaaDoorShelf
namespace Go.Proofs.YtnlleogihhhfdaaDoor
set_option linter.unusedVariables false
set_option linter.unusedSimpArgs false
set_option linter.unusedSectionVars false
open Go.RowKit
set_option maxRecDepth 100000

theorem FromAddress_7 (w : World) : Calls Tryd.prog 16 #[.int .i64 7] w fun e w' => e = .returned (.tuple #[.int .u64 30, .int .i64 0]) ∧ w = w' := by
  have hb : bits .or .u64 (IntKind.u64.wrap (IntKind.u64.wrap 7 * 4)) 2 = 30 := by kernel_rfl
  have HB := Lib.hid hb
  clear hb
  go_enter Tryd.func16, Tryd.ntmps16
  go_wp2
  go_ret2
  first | exact ⟨rfl, rfl⟩ | exact ⟨by rw [← HB.out]; rfl, rfl⟩
theorem Kind_30 (w : World) : Calls Tryd.prog 25 #[.int .u64 30] w fun e w' => e = .returned (.int .i64 2) ∧ w = w' := by
  have hb : bits .and .u64 30 3 = 2 := by kernel_rfl
  go_enter Tryd.func25, Tryd.ntmps25
  go_wp2
  go_ret
  exact ⟨rfl, rfl⟩
theorem Address_30 (w : World) : Calls Tryd.prog 27 #[.int .u64 30] w fun e w' => e = .returned (.tuple #[.int .i64 7, .bool true]) ∧ w = w' := by
  go_enter Tryd.func27, Tryd.ntmps27
  go_wp2_with (go_at_call 25; refine (Kind_30 _).mono ?_; rintro e w' ⟨rfl, rfl⟩)
  go_ret2
  exact ⟨rfl, rfl⟩
theorem Itoa_7 (w : World) : Calls Tryd.prog 28 #[.int .i64 7] w fun e w' => e = .returned (.string ⟨#[55]⟩) ∧ w = w' :=
  (Tryd.strconv_Itoa_small 7 (by decide) w).mono fun e w' ⟨he, hw⟩ => ⟨by rw [he, Lib.decDigits, dif_pos (by decide)]; rfl, hw.symm⟩
theorem Format_30 (w : World) : Calls Tryd.prog 17 #[.int .u64 30] w fun e w' => e = .returned (.string ⟨#[64, 55]⟩) ∧ w = w' := by
  go_enter Tryd.func17, Tryd.ntmps17
  go_wp2_with (first
    | (go_at_call 25; refine (Kind_30 _).mono ?_; rintro e w' ⟨rfl, rfl⟩)
    | (go_at_call 27; refine (Address_30 _).mono ?_; rintro e w' ⟨rfl, rfl⟩)
    | (go_at_call 28; refine (Itoa_7 _).mono ?_; rintro e w' ⟨rfl, rfl⟩))
  go_ret
  exact ⟨rfl, rfl⟩

set_option maxHeartbeats 4000000 in
theorem awakeW (w : World) : Calls Tryd.prog 5 #[] w fun e w' => e = .returned (.bool true) ∧ w = w' := by
  have i5 : In62 5 := by unfold In62; omega
  have i1 : In62 (-1) := by unfold In62; omega
  have i7 : In62 (-7) := by unfold In62; omega
  have i2 : In62 2 := by unfold In62; omega
  have HI := Lib.hid (And.intro i5 (And.intro i1 (And.intro i7 i2)))
  have e1 : (wd 5 == 21) = true := by kernel_rfl
  have e2 : (wd (-1) == 18446744073709551613) = true := by kernel_rfl
  have e3 : (w62 (Int.tdiv (-7) 2) == -3) = true := by kernel_rfl
  have e4 : (w62 (Int.tmod (-7) 2) == -1) = true := by kernel_rfl
  clear i5 i1 i7 i2
  go_enter Tryd.func5, Tryd.ntmps5
  go_wp2_with (first
    | (go_at_call 7; refine (FromInt_in (by unfold In62; omega) _).mono ?_; rintro e w' ⟨rfl, rfl⟩)
    | (go_at_call 16; refine (FromAddress_7 _).mono ?_; rintro e w' ⟨rfl, rfl⟩)
    | (go_at_call 8; refine (Div_any (x := -7) (y := 2) HI.out.2.2.1 HI.out.2.2.2 (by decide)).mono ?_; rintro e w' ⟨rfl, rfl⟩)
    | (go_at_call 9; refine (Rem_any (x := -7) (y := 2) HI.out.2.2.1 HI.out.2.2.2 (by decide)).mono ?_; rintro e w' ⟨rfl, rfl⟩)
    | (go_at_call 12; refine (Int_wd (w62_in _) _).mono ?_; rintro e w' ⟨rfl, rfl⟩)
    | (go_at_call 17; refine (Format_30 _).mono ?_; rintro e w' ⟨rfl, rfl⟩))
  go_ret
  exact ⟨rfl, rfl⟩
end Go.Proofs.YtnlleogihhhfdaaDoor
