/- refmeshlaw41.BytecodeInstructions returns true: the walk. -/
import Derived.Test.YtdmbcgkfecmakaaDoorLawNames
import Derived.Test.YtdmbcgkfecmakaaDoorREffect
import Derived.Test.YtdmbcgkfecmakaaDoorRTargets
import Derived.Test.YtdmbcgkfecmakaaDoorRValid
import Derived.Deep.RegionWith
namespace Go.Proofs.YtdmbcgkfecmakaaDoor
set_option linter.unusedVariables false
set_option linter.unusedSimpArgs false
set_option linter.unusedSectionVars false
open Go.RowKit Go.Sort
set_option maxRecDepth 100000

def rnames : List ByteArray := (List.range 26).map opName
def rnameCells : Array Value := (strs rnames).toArray
set_option maxHeartbeats 1000000 in
theorem RNames_any (w : World) : Calls Tryd.prog 36 #[] w fun e w' => e = .returned (.slice (some ⟨w.heap.size, 0, none⟩) 26 26) ∧ w' = w.alloc (.cells rnameCells 9) := by
  have hc : rnameCells = #[.string (opName 0), .string (opName 1), .string (opName 2), .string (opName 3), .string (opName 4), .string (opName 5), .string (opName 6), .string (opName 7), .string (opName 8), .string (opName 9), .string (opName 10), .string (opName 11), .string (opName 12), .string (opName 13), .string (opName 14), .string (opName 15), .string (opName 16), .string (opName 17), .string (opName 18), .string (opName 19), .string (opName 20), .string (opName 21), .string (opName 22), .string (opName 23), .string (opName 24), .string (opName 25)] := rfl
  have HC := Lib.hid hc
  clear hc
  go_enter Tryd.func36, Tryd.ntmps36
  go_wp2
  go_ret
  exact ⟨rfl, by rw [HC.out]; rfl⟩

theorem RNames_below (w : World) : Calls Tryd.prog 36 #[] w fun e w' => ∃ g, e = .returned (.slice (some ⟨g, 0, none⟩) 26 26) ∧ Bk w' g 9 rnameCells ∧ Below w.heap.size w w' :=
  (RNames_any w).mono fun e w' ⟨he, hw⟩ => ⟨_, he, hw ▸ Bk.new _ _ _, hw ▸ (Below.refl _ _).alloc (Nat.le_refl _) _⟩

section
variable {w : World} {n a b at' : Int}
theorem LInstr_out (ht : Tabs w) (h : 1099511627776 < at' ∨ at' < -1099511627776) : Calls Tryd.prog 8 #[.agg #[.int .i64 n, .int .i64 a, .int .i64 b], .int .i64 at'] w fun e w' => e = .returned (.bool true) ∧ Below w.heap.size w w' := by
  have HT := Lib.hid ht
  clear ht
  by_cases h1 : 1099511627776 < at'
  · go_enter Tryd.func8, Tryd.ntmps8
    go_wp2_with fail
    refine (awakeB _ (HT.out.below ((Below.refl _ _).alloc (Nat.le_refl _) _))).mono ?_
    rintro e w1 ⟨rfl, hb1⟩
    have HB1 := Lib.hid (below_box hb1)
    clear hb1
    go_wp2
    go_ret
    exact ⟨rfl, HB1.out⟩
  · have h2 : at' < -1099511627776 := by omega
    clear h
    go_enter Tryd.func8, Tryd.ntmps8
    go_wp2_with fail
    refine (awakeB _ (HT.out.below ((Below.refl _ _).alloc (Nat.le_refl _) _))).mono ?_
    rintro e w1 ⟨rfl, hb1⟩
    have HB1 := Lib.hid (below_box hb1)
    clear hb1
    go_wp2
    go_ret
    exact ⟨rfl, HB1.out⟩

set_option maxHeartbeats 4000000 in
theorem LInstr_main (ht : Tabs w) (i0 : -1099511627776 ≤ at') (i1 : at' ≤ 1099511627776) : Calls Tryd.prog 8 #[.agg #[.int .i64 n, .int .i64 a, .int .i64 b], .int .i64 at'] w fun e w' => e = .returned (.bool true) ∧ Below w.heap.size w w' := by
  have HT := Lib.hid ht
  have h1 : ¬ 1099511627776 < at' := by omega
  have h2 : ¬ at' < -1099511627776 := by omega
  have hbk := Bk.new w 39 #[.int .i64 n, .int .i64 a, .int .i64 b]
  have HBK := Lib.hid hbk
  obtain ⟨ts, hts⟩ : ∃ ts, ts = targetsI n a b at' := ⟨_, rfl⟩
  have hl2 : ts.length ≤ 2 := by rw [hts]; exact targetsI_len _ _ _ _
  have hT : ∀ W, Calls Tryd.prog 24 #[.agg #[.int .i64 n, .int .i64 a, .int .i64 b], .int .i64 at'] W (RetInts W ts) := fun W => by rw [hts]; exact Targets_any n a b at' W (by omega) (by omega)
  have hR : ∀ W, Calls Tryd.prog 35 #[.agg #[.int .i64 n, .int .i64 a, .int .i64 b], .int .i64 at'] W (RetInts W ts) := fun W => by rw [hts]; exact RTargets_any n a b at' W (by omega) (by omega)
  have HTT := Lib.hid (And.intro hT hR)
  clear ht hbk hts hT hR
  go_enter Tryd.func8, Tryd.ntmps8
  go_wp2_with fail
  refine (awakeB _ (HT.out.below ((Below.refl _ _).alloc (Nat.le_refl _) _))).mono ?_
  rintro e w1 ⟨rfl, hb1⟩
  have HB1 := Lib.hid (below_box hb1)
  have hbk1 := HBK.out.below hb1 (by simp)
  have c0 : w1.cell? ⟨w.heap.size, 0, none⟩ = some (.int .i64 n) := hbk1.cell 0
  have c1 : w1.cell? ⟨w.heap.size, 1, none⟩ = some (.int .i64 a) := hbk1.cell 1
  have c2 : w1.cell? ⟨w.heap.size, 2, none⟩ = some (.int .i64 b) := hbk1.cell 2
  have hz1 := hbk1.lt
  have HK1 := Lib.hid hbk1
  clear hb1 hbk1
  go_wp2_with fail
  refine (Effect_any n a b _).mono ?_
  rintro e w2 ⟨rfl, hb2⟩
  have hbk2 := HK1.out.below hb2 hz1
  have d0 : w2.cell? ⟨w.heap.size, 0, none⟩ = some (.int .i64 n) := hbk2.cell 0
  have d1 : w2.cell? ⟨w.heap.size, 1, none⟩ = some (.int .i64 a) := hbk2.cell 1
  have d2 : w2.cell? ⟨w.heap.size, 2, none⟩ = some (.int .i64 b) := hbk2.cell 2
  have hz2 := hbk2.lt
  have HK2 := Lib.hid hbk2
  have HB2 := Lib.hid (HB1.out.trans (hb2.mono HB1.out.size))
  clear hb2 hbk2 c0 c1 c2
  go_wp2_with fail
  refine (REffect_any n a b _).mono ?_
  rintro e w3 ⟨rfl, hb3⟩
  have hbk3 := HK2.out.below hb3 hz2
  have c0 : w3.cell? ⟨w.heap.size, 0, none⟩ = some (.int .i64 n) := hbk3.cell 0
  have c1 : w3.cell? ⟨w.heap.size, 1, none⟩ = some (.int .i64 a) := hbk3.cell 1
  have c2 : w3.cell? ⟨w.heap.size, 2, none⟩ = some (.int .i64 b) := hbk3.cell 2
  have hz3 := hbk3.lt
  have HK3 := Lib.hid hbk3
  have HB3 := Lib.hid (HB2.out.trans (hb3.mono HB2.out.size))
  clear hb3 hbk3 d0 d1 d2
  go_upto_region 7 with fail
  go_cut [9, 10] from 31 to 36 (fun s9 s10 wx => ∃ A c A' c', s9 = .slice A ts.length c ∧ s10 = .slice A' ts.length c' ∧ ts.length ≤ c ∧ ts.length ≤ c' ∧ Sl wx 1 A ts.length (ints ts) ∧ Sl wx 1 A' ts.length (ints ts) ∧ Below w3.heap.size w3 wx)
  case first =>
    go_region_with (first
      | (go_at_call 24; refine (HTT.out.1 _).mono ?_; rintro e w4 ⟨A4, c4, rfl, hc4, hs4, hb4, _⟩; have d0 := ((bcell hb4).1 _ 0 hz3).trans c0; have d1 := ((bcell hb4).1 _ 1 hz3).trans c1; have d2 := ((bcell hb4).1 _ 2 hz3).trans c2; have hz4 : w3.heap.size ≤ w4.heap.size := hb4.size)
      | (go_at_call 35; refine (HTT.out.2 _).mono ?_; rintro e w5 ⟨A5, c5, rfl, hc5, hs5, hb5, _⟩))
    all_goals
      go_wp2_with fail
      go_meet
      exact ⟨A4, c4, A5, c5, rfl, rfl, hc4, hc5, hs4.below hb5, hs5, (Below.refl _ _).drew.trans (hb4.trans (hb5.mono hz4))⟩
  case rest =>
    obtain ⟨A4, c4, A5, c5, rfl, rfl, hc4, hc5, hs4, hs5, hb4⟩ := hcut
    have HS4 := Lib.hid hs4
    have HS5 := Lib.hid hs5
    have HB4 := Lib.hid (HB3.out.trans (hb4.mono HB3.out.size))
    have HK4 := Lib.hid (HK3.out.below hb4 hz3)
    have hne0 : (((ts.length : Int)) != (ts.length : Int)) = false := by simp
    clear hs4 hs5 hb4 c0 c1 c2
    go_wp2_with fail
    go_loopw [44] (fun i wr => ∃ k m : Nat, i = .int .i64 (k : Int) ∧ k ≤ ts.length ∧ wr = wc.drewN m) (fun i _ => ts.length - (intOf i).toNat)
    case atStart => exact ⟨0, 0, rfl, Nat.zero_le _, rfl⟩
    case round =>
      obtain ⟨k, m, rfl, hk, rfl⟩ := hrel
      by_cases hlt : k < ts.length
      · obtain ⟨b4, o4, rfl, hb1, hc1⟩ := HS4.out.get hlt
        obtain ⟨b5, o5, rfl, hb2, hc2⟩ := HS5.out.get hlt
        obtain ⟨t, ht⟩ : ∃ t, ts[k]? = some t := ⟨_, List.getElem?_eq_getElem hlt⟩
        have e1 : wc.cell? ⟨b4, o4 + k, none⟩ = some (.int .i64 t) := hc1 k _ (by simp [ints, ht])
        have e2 : wc.cell? ⟨b5, o5 + k, none⟩ = some (.int .i64 t) := hc2 k _ (by simp [ints, ht])
        have hk4 : k < c4 := by omega
        have hk5 : k < c5 := by omega
        have hbb : (t != t) = false := by simp
        clear hc1 hc2 ht
        go_wp2
        go_quiet (fail)
        go_wp2
        go_roundw
        case rel => exact ⟨k + 1, _, by go_num, by omega, rfl⟩
        case measure => simp [intOf]; omega
      · obtain rfl : k = ts.length := by omega
        have c0 : wc.cell? ⟨w.heap.size, 0, none⟩ = some (.int .i64 n) := HK4.out.cell 0
        have hz4 := HK4.out.lt
        go_upto_region 17 with fail
        obtain ⟨wo, hwo⟩ : ∃ wo, wo = wc := ⟨_, rfl⟩
        go_cut [64] from 57 to 64 (fun s64 wx => s64 = .bool (decide (0 ≤ n ∧ n < 26)) ∧ wx = wo.drewN m)
        case first =>
          subst hwo
          by_cases q0 : 0 ≤ n
          · by_cases q1 : n ≤ 25
            · have hd : decide (0 ≤ n ∧ n < 26) = true := decide_eq_true (by omega)
              have HD := Lib.hid hd
              clear hd
              go_wp2
              go_meet
              exact ⟨by rw [HD.out], rfl⟩
            · have hd : decide (0 ≤ n ∧ n < 26) = false := decide_eq_false (by omega)
              have HD := Lib.hid hd
              clear hd
              go_wp2
              go_meet
              exact ⟨by rw [HD.out], rfl⟩
          · have hd : decide (0 ≤ n ∧ n < 26) = false := decide_eq_false (by omega)
            have HD := Lib.hid hd
            clear hd
            go_wp2
            go_meet
            exact ⟨by rw [HD.out], rfl⟩
        case rest =>
        obtain ⟨rfl, rfl⟩ := hcut
        subst hwo
        have HK5 := Lib.hid (HK4.out.below (below_drewN (Below.refl _ wo) m) hz4)
        have HB5 := Lib.hid (HB4.out.trans ((below_drewN (Below.refl _ wo) m).mono HB4.out.size))
        obtain ⟨W5, hW5⟩ : ∃ W5, W5 = wo.drewN m := ⟨_, rfl⟩
        rw [← hW5] at HK5 HB5 ⊢
        clear hW5 HK4 HB4 HS4 HS5 c0 hz4
        have c0 : W5.cell? ⟨w.heap.size, 0, none⟩ = some (.int .i64 n) := HK5.out.cell 0
        have c1 : W5.cell? ⟨w.heap.size, 1, none⟩ = some (.int .i64 a) := HK5.out.cell 1
        have c2 : W5.cell? ⟨w.heap.size, 2, none⟩ = some (.int .i64 b) := HK5.out.cell 2
        have hz5 := HK5.out.lt
        by_cases hn : 0 ≤ n ∧ n < 26
        · have hdt : decide (0 ≤ n ∧ n < 26) = true := decide_eq_true hn
          rw [hdt]
          clear hdt
          obtain ⟨k, rfl⟩ := Int.eq_ofNat_of_zero_le hn.1
          have hk26 : k < 26 := by omega
          have hnm : nameOf k = opName k := if_pos hn
          have HNM := Lib.hid hnm
          have hcc : rnameCells[k]? = some (.string (opName k)) := by simp [rnameCells, strs, rnames, hk26]
          have HCC := Lib.hid hcc
          clear hn hnm hcc
          go_upto_region 18 with fail
          go_cut [12] from 65 to 69 (fun s12 wx => s12 = .string (opName k) ∧ Below W5.heap.size W5 wx)
          case first =>
            go_region_with (go_at_call 36; refine (RNames_below _).mono ?_; rintro e w6 ⟨g6, rfl, hbk6, hb6⟩; have d0 := ((bcell hb6).1 _ 0 hz5).trans c0; have r6 : w6.cell? ⟨g6, k, none⟩ = some (.string (opName k)) := (hbk6.cell k).trans HCC.out)
            all_goals
              go_wp2_with fail
              go_meet
              exact ⟨rfl, (Below.refl _ _).drew.trans hb6⟩
          case rest =>
            obtain ⟨rfl, hb6⟩ := hcut
            have hk6 := HK5.out.below hb6 hz5
            have HB6 := Lib.hid (HB5.out.trans (hb6.mono HB5.out.size))
            have j0 := cell_regrown (hk6.cell 0)
            have j1 := cell_regrown (hk6.cell 1)
            have j2 := cell_regrown (hk6.cell 2)
            have cN := fun dd os => Calls.regrown_of (w := wc) (Name_in k hk26 (grow (redrawn wc dd) os))
            have cV := fun dd os => Calls.regrown_of (w := wc) (Valid_any k a b (grow (redrawn wc dd) os))
            have cR := fun dd os => Calls.regrown_of (w := wc) (RValid_any k a b (grow (redrawn wc dd) os))
            clear hb6 hk6 c0 c1 c2
            go_upto_region 19 with fail
            refine wp_region_quiet_below (by kernel_rfl) (by kernel_rfl) ?_
            repeat (quiet_step (first | exact cN _ _ | exact cV _ _ | exact cR _ _))
            refine wpQuiet_nil ?_
            intro w7 hw'
            have hb7 : Below wc.heap.size wc w7 := by obtain ⟨pp, rfl⟩ := hw'; exact below_regrown _ _ _
            have HB7 := Lib.hid (HB6.out.trans (hb7.mono HB6.out.size))
            clear hw' hb7 cN cV cR j0 j1 j2
            go_wp2
            go_ret
            exact ⟨rfl, HB7.out⟩
        · have hdt : decide (0 ≤ n ∧ n < 26) = false := decide_eq_false hn
          rw [hdt]
          clear hdt
          have j0 := cell_regrown c0
          have j1 := cell_regrown c1
          have j2 := cell_regrown c2
          have cN := fun dd os => Calls.regrown_of (w := W5) (Name_out n (by omega) (grow (redrawn W5 dd) os))
          have cV := fun dd os => Calls.regrown_of (w := W5) (Valid_any n a b (grow (redrawn W5 dd) os))
          have cR := fun dd os => Calls.regrown_of (w := W5) (RValid_any n a b (grow (redrawn W5 dd) os))
          clear c0 c1 c2 hn
          go_upto_region 19 with fail
          refine wp_region_quiet_below (by kernel_rfl) (by kernel_rfl) ?_
          repeat (quiet_step (first | exact cN _ _ | exact cV _ _ | exact cR _ _))
          refine wpQuiet_nil ?_
          intro w7 hw'
          have hb7 : Below W5.heap.size W5 w7 := by obtain ⟨pp, rfl⟩ := hw'; exact below_regrown _ _ _
          have HB7 := Lib.hid (HB5.out.trans (hb7.mono HB5.out.size))
          clear hw' hb7 cN cV cR j0 j1 j2
          go_wp2
          go_ret
          exact ⟨rfl, HB7.out⟩

theorem LInstr_any (n a b at' : Int) (w : World) (ht : Tabs w) : Calls Tryd.prog 8 #[.agg #[.int .i64 n, .int .i64 a, .int .i64 b], .int .i64 at'] w fun e w' => e = .returned (.bool true) ∧ Below w.heap.size w w' := by
  by_cases h : 1099511627776 < at' ∨ at' < -1099511627776
  · exact LInstr_out ht h
  · exact LInstr_main ht (by omega) (by omega)
end
end Go.Proofs.YtdmbcgkfecmakaaDoor
