/- refmeshlaw43.VerifierChecks returns true: the walk. -/
import Derived.Test.YtdmbcgkfecmakaaDoorRCheck
import Derived.Test.YtdmbcgkfecmakaaDoorFew
import Derived.Test.YtdmbcgkfecmakaaDoorAwakeV
namespace Go.Proofs.YtdmbcgkfecmakaaDoor
set_option linter.unusedVariables false
set_option linter.unusedSimpArgs false
set_option linter.unusedSectionVars false
open Go.RowKit Go.Sort
set_option maxRecDepth 100000

/-- a program has one answer -/
theorem ChkPost.one (cs : List Cls) : ∃ r : Int, ∀ w e w', ChkPost cs w e w' → e = .returned (.int .i64 r) ∧ Below w.heap.size w w' := by
  by_cases h1 : largeP cs
  · refine ⟨8, fun w e w' ⟨⟨r, he, h⟩, hb⟩ => ⟨?_, hb⟩⟩
    rcases h with ⟨_, rfl⟩ | ⟨h, _⟩ | ⟨h, _⟩
    · exact he
    · exact absurd h1 h
    · exact absurd h1 h
  · by_cases h2 : badP cs
    · refine ⟨11, fun w e w' ⟨⟨r, he, h⟩, hb⟩ => ⟨?_, hb⟩⟩
      rcases h with ⟨h, _⟩ | ⟨_, _, rfl⟩ | ⟨_, h, _⟩
      · exact absurd h h1
      · exact he
      · exact absurd h2 h
    · refine ⟨0, fun w e w' ⟨⟨r, he, h⟩, hb⟩ => ⟨?_, hb⟩⟩
      rcases h with ⟨h, _⟩ | ⟨_, h, _⟩ | ⟨_, _, rfl⟩
      · exact absurd h h1
      · exact absurd h h2
      · exact he

section
variable {w : World} {A : Option Addr} {n c : Nat} {cs : List Cls}
theorem fewCode_any (hC : CodeR w cs A n c) :
    Calls Tryd.prog 38 #[.agg #[.slice A n c]] w (FewPost w cs 40) := by
  have hB0 : Below w.heap.size w (w.alloc (.cells #[.slice A n c] 55)) := (Below.refl _ _).alloc (Nat.le_refl _) _
  have HF := Lib.hid (Few_any (most := 40) (hC.below hB0) (by omega) (by omega))
  have HB := Lib.hid hB0
  clear hC hB0
  go_enter Tryd.func38, Tryd.ntmps38
  go_wp2_with fail
  refine HF.out.mono ?_
  rintro e w' ⟨⟨b, rfl, hbb⟩, hb'⟩
  have HBB := Lib.hid hbb
  clear hbb
  go_wp2
  go_ret
  exact ⟨⟨b, rfl, HBB.out⟩, HB.out.trans (hb'.mono HB.out.size)⟩

theorem LChecks_any (hC : CodeR w cs A n c) :
    Calls Tryd.prog 10 #[.agg #[.slice A n c]] w fun e w' => e = .returned (.bool true) ∧ Below w.heap.size w w' := by
  have hB0 : Below w.heap.size w (w.alloc (.cells #[.slice A n c] 55)) := (Below.refl _ _).alloc (Nat.le_refl _) _
  have HC0 := Lib.hid (hC.below hB0)
  have HQ := Lib.hid (Bk.new w 55 #[.slice A n c])
  have HB0 := Lib.hid hB0
  clear hC hB0
  go_enter Tryd.func10, Tryd.ntmps10
  go_wp2_with fail
  refine (awakeV _).mono ?_
  rintro e w1 ⟨rfl, hb1⟩
  have HB1 := Lib.hid (HB0.out.trans (hb1.mono HB0.out.size))
  have HC := Lib.hid (HC0.out.below hb1)
  have HQ1 := Lib.hid (HQ.out.below hb1 HQ.out.lt)
  have c1 : w1.cell? ⟨w.heap.size, 0, none⟩ = some (.slice A n c) := HQ1.out.cell 0
  clear hb1
  go_wp2_with fail
  refine (fewCode_any HC.out).mono ?_
  rintro e w2 ⟨⟨b, rfl, _⟩, hb2⟩
  have HB2 := Lib.hid (HB1.out.trans (hb2.mono HB1.out.size))
  have HC2 := Lib.hid (HC.out.below hb2)
  have HQ2 := Lib.hid (HQ1.out.below hb2 HQ1.out.lt)
  clear hb2 c1
  cases b with
  | false =>
    go_wp2_with fail
    go_ret
    exact ⟨rfl, HB2.out⟩
  | true =>
    obtain ⟨r, hr⟩ := ChkPost.one cs
    have c2 : w2.cell? ⟨w.heap.size, 0, none⟩ = some (.slice A n c) := HQ2.out.cell 0
    have j2 := cell_regrown c2
    have cC := fun dd os => Calls.regrown_of (w := w2) ((Check_any (w := grow (redrawn w2 dd) os) (HC2.out.below (below_regrown w2 dd os))).mono (fun e w' h => hr _ _ _ h))
    have cR := fun dd os => Calls.regrown_of (w := w2) ((RCheck_any (w := grow (redrawn w2 dd) os) (HC2.out.below (below_regrown w2 dd os))).mono (fun e w' h => hr _ _ _ h))
    have HR := Lib.hid hr
    clear hr c2
    go_upto_region 5 with fail
    refine wp_region_quiet_below (by kernel_rfl) (by kernel_rfl) ?_
    repeat (quiet_step (first | exact cC _ _ | exact cR _ _))
    refine wpQuiet_nil ?_
    intro w3 hw'
    have hb3 : Below w2.heap.size w2 w3 := by obtain ⟨pp, rfl⟩ := hw'; exact below_regrown _ _ _
    have HB3 := Lib.hid (HB2.out.trans (hb3.mono HB2.out.size))
    clear hw' hb3 cC cR j2
    go_wp2
    go_ret
    exact ⟨rfl, HB3.out⟩
end
end Go.Proofs.YtdmbcgkfecmakaaDoor
