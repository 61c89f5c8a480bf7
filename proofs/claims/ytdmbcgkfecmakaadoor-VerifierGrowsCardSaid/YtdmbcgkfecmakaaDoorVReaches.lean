/- refmeshlaw43.VerifierReaches returns true: the walk. -/
import Derived.Test.YtdmbcgkfecmakaaDoorVDepths
import Derived.Test.YtdmbcgkfecmakaaDoorRReach
namespace Go.Proofs.YtdmbcgkfecmakaaDoor
set_option linter.unusedVariables false
set_option linter.unusedSimpArgs false
set_option linter.unusedSectionVars false
open Go.RowKit Go.Maps Go.Deep
set_option maxRecDepth 100000

theorem iU_nonneg (x : Ins) : 0 ≤ iU x := by
  unfold iU pushesI
  split
  · next h =>
    obtain ⟨k, hk, hk26, _⟩ := validB_some h
    have := op_bounds k hk26
    rw [hk]
    simp only [Int.toNat_natCast]
    omega
  · omega
theorem Good.reach {c : List Ins} {D : Nat → Option Int} (h : Good c D) {i : Nat} (hr : Reach c i) : ∃ d, D i = some d ∧ 0 ≤ d := by
  induction hr with
  | zero _ => exact ⟨0, h.1, Int.le_refl _⟩
  | step _ hx ht hl ih =>
    obtain ⟨d, hd, h0⟩ := ih
    obtain ⟨y, hy, _, hp, _, hts⟩ := h.2 _ d hd
    rw [hx] at hy
    cases hy
    obtain ⟨m, e1, e2⟩ := hts _ ht
    have hm := Int.ofNat_inj.1 e1
    subst hm
    have := iU_nonneg
    exact ⟨_, e2, by have := iU_nonneg (by assumption); omega⟩

theorem reachL_eq {f g : Nat → Option Int} {c : List Ins} (hf : ∀ i, (f i).isSome = true ↔ Reach c i) (hg : ∀ i, (g i).isSome = true ↔ Reach c i) (n : Nat) : reachL f n = reachL g n := by
  unfold reachL
  refine List.map_congr_left fun i _ => ?_
  have h1 := hf i
  have h2 := hg i
  cases h3 : (f i).isSome <;> cases h4 : (g i).isSome <;> simp_all

theorem VReaches_few {w : World} {v0 v1 v2 : Value} {A B : Option Addr} {len cap n4 c4 : Nat} (hf : fewB len n4 = false) :
    Calls Tryd.prog 5 #[.agg #[v0, v1, v2, .slice A len cap, .slice B n4 c4]] w fun e w' => e = .returned (.bool true) ∧ Below w.heap.size w w' := by
  have HM := Lib.hid (MBox.new (w := w) (v0 := v0) (v1 := v1) (v2 := v2) (A := A) (B := B) (n := len) (c := cap) (m := n4) (d := c4) 25)
  go_enter Tryd.func5, Tryd.ntmps5
  go_wp2_with fail
  refine (awakeV _).mono ?_
  rintro e w1 ⟨rfl, hb⟩
  obtain ⟨b0, b1, b2, b3, b4, hB, hlt⟩ := HM.out.next hb
  have HB := Lib.hid hB
  clear hB hb HM
  go_wp2_with fail
  refine (few_any _ _ _ _ _ _ _ _ _ _).mono ?_
  rintro e w2 ⟨rfl, hb⟩
  go_wp2
  go_ret
  exact ⟨rfl, HB.out.trans (hb.mono (Nat.le_of_lt hlt))⟩

set_option maxHeartbeats 4000000 in
theorem VReaches_main {w : World} {v0 v1 v2 : Value} {A B : Option Addr} {len cap n4 c4 : Nat} (c : List Ins) (hc : c.length = len) (hf : fewB len n4 = true) (hcap : len ≤ cap) (hw : ∀ x ∈ c, (Lit.int .i64 x.1).wf = true ∧ (Lit.int .i64 x.2.1).wf = true ∧ (Lit.int .i64 x.2.2).wf = true) (hcode : Sl w 3 A len (codeCells c)) :
    Calls Tryd.prog 5 #[.agg #[v0, v1, v2, .slice A len cap, .slice B n4 c4]] w fun e w' => e = .returned (.bool true) ∧ Below w.heap.size w w' := by
  have hl : len ≤ 40 := (of_decide_eq_true hf).1
  have HM := Lib.hid (MBox.new (w := w) (v0 := v0) (v1 := v1) (v2 := v2) (A := A) (B := B) (n := len) (c := cap) (m := n4) (d := c4) 25)
  go_enter Tryd.func5, Tryd.ntmps5
  go_wp2_with fail
  refine (awakeV _).mono ?_
  rintro e w1 ⟨rfl, hb⟩
  have HM1 := Lib.hid (HM.out.next hb)
  obtain ⟨b0, b1, b2, b3, b4, _, _⟩ := HM.out.next hb
  clear hb HM
  go_wp2_with fail
  refine (few_any _ _ _ _ _ _ _ _ _ _).mono ?_
  rintro e w2 ⟨rfl, hb⟩
  have HM2 := Lib.hid (HM1.out.next hb)
  obtain ⟨b0', b1', b2', b3', b4', _, _⟩ := HM1.out.next hb
  clear hb HM1 b0 b1 b2 b3 b4
  go_wp2_with fail
  refine (Reachable_any c hc (by omega) hw (hcode.box rfl HM2.out.bel)).mono ?_
  rintro e w3 ⟨f, sound, most, R, hfin, hb, rfl, hR, hsl⟩
  have HM3 := Lib.hid (HM2.out.next hb)
  have HFIN := Lib.hid hfin
  have HSL := Lib.hid hsl
  obtain ⟨b0, b1, b2, b3, b4, _, _⟩ := HM2.out.next hb
  clear hb HM2 b0' b1' b2' b3' b4' hfin hsl
  go_wp2_with fail
  refine (RReach_any c hc (by omega) hw (hcode.box rfl HM3.out.bel)).mono ?_
  rintro e w4 ⟨g, R2, hg, hb, rfl, hsl2⟩
  have hgf : reachL g len = reachL f len := reachL_eq hg HFIN.out.reach len
  rw [hgf] at hsl2
  have HSL2 := Lib.hid hsl2
  have HSL4 := Lib.hid (HSL.out.below hb)
  have HM4 := Lib.hid (HM3.out.next hb)
  obtain ⟨b0', b1', b2', b3', b4', _, _⟩ := HM3.out.next hb
  have hdl : (reachL f len).length = len := by simp [reachL]
  have HDL := Lib.hid hdl
  clear hb HM3 b0 b1 b2 b3 b4 hg hgf hsl2 HSL hdl
  go_wp2_with fail
  have hint := Bools_any (reachL f len) (reachL f len) (some ⟨R, 0, none⟩) (some ⟨R2, 0, none⟩) len len w4 (by rw [HDL.out]; omega) (by rw [HDL.out]; omega) (by rw [HDL.out]; omega) (by rw [HDL.out]; exact HSL4.out) (by rw [HDL.out]; exact HSL2.out)
  rw [HDL.out] at hint
  refine hint.mono ?_
  rintro e w5 ⟨rfl, n, rfl⟩
  have he : eqL (reachL f len) (reachL f len) = true := by simp [eqL]
  rw [he]
  clear he hint HSL2
  go_wp2_with fail
  refine (Depths_any c hc (by omega) hw ((hcode.box rfl HM4.out.bel).drewN n)).mono ?_
  rintro e w6 ⟨f', sound', most', hfin', hb, hno, hyes⟩
  have HB := Lib.hid ((below_drewN HM4.out.bel n).trans (hb.mono (Nat.le_of_lt HM4.out.lt)))
  rcases sound' with _ | _
  · obtain rfl := hno rfl
    clear hno hyes b0' b1' b2' b3' b4' hb hfin'
    go_wp2
    go_ret
    exact ⟨rfl, HB.out⟩
  · obtain ⟨R3, rcap3, rfl, hR3, hrc3, hsl3⟩ := hyes rfl
    have HSL5 := Lib.hid ((HSL4.out.drewN n).below hb)
    have HFIN' := Lib.hid hfin'
    have HSL3 := Lib.hid hsl3
    clear hno hyes b0' b1' b2' b3' b4' hb hfin' hsl3 HSL4
    go_wp2_with fail
    go_loopw [6] (fun i wr => ∃ k m : Nat, i = .int .i64 (k : Int) ∧ k ≤ len ∧ wr = w6.drewN m) (fun i _ => len - (intOf i).toNat)
    case atStart => exact ⟨0, 0, rfl, Nat.zero_le _, rfl⟩
    case round =>
      obtain ⟨k, m, rfl, hk, rfl⟩ := hrel
      by_cases hlt : k < len
      · obtain ⟨b, o, hA, hb1, hc1⟩ := HSL5.out.get hlt
        obtain ⟨b', o', hA', hb2, hc2⟩ := HSL3.out.get hlt
        cases hA
        cases hA'
        have e1 : w6.cell? ⟨R, 0 + k, none⟩ = some (.bool (f k).isSome) := hc1 k _ (by simp [bools, reachL, hlt])
        have e2 : w6.cell? ⟨R3, 0 + k, none⟩ = some (.int .i64 ((f' k).getD (-1))) := hc2 k _ (by simp [ints, depthL, hlt])
        rw [Nat.zero_add] at e1 e2
        have hge : decide ((len : Int) ≤ (k : Int)) = false := by simpa using hlt
        have hk3 : k < rcap3 := by omega
        have hd : decide (0 ≤ (f' k).getD (-1)) = (f k).isSome := by
          cases hs : (f k).isSome with
          | true =>
            obtain ⟨d, hd, h0⟩ := (HFIN'.out.good rfl).reach ((HFIN.out.reach k).1 hs)
            simp [hd, h0]
          | false =>
            have : f' k = none := by
              cases hf' : f' k with
              | none => rfl
              | some d =>
                have := (HFIN.out.reach k).2 ((HFIN'.out.reach k).1 (by rw [hf']; rfl))
                rw [hs] at this
                cases this
            simp [this]
        have hdd : ∃ u, (f' k).getD (-1) = u ∧ decide (0 ≤ u) = (f k).isSome := ⟨_, rfl, hd⟩
        obtain ⟨u, hu, hdu⟩ := hdd
        rw [hu] at e2
        clear hd hu hc1 hc2
        obtain ⟨q, hq⟩ : ∃ q, (f k).isSome = q := ⟨_, rfl⟩
        rw [hq] at e1 hdu
        clear hq
        have hne : (!(q == q)) = false := by simp
        cases q
        · have hd2 : ¬ (0 ≤ u) := of_decide_eq_false hdu
          clear hdu
          go_wp2
          go_quiet (fail)
          go_wp2
          go_roundw
          case rel => exact ⟨k + 1, _, by go_num, by omega, rfl⟩
          case measure => simp [intOf]; omega
        · have hd2 : (0 ≤ u) := of_decide_eq_true hdu
          clear hdu
          go_wp2
          go_quiet (fail)
          go_wp2
          go_roundw
          case rel => exact ⟨k + 1, _, by go_num, by omega, rfl⟩
          case measure => simp [intOf]; omega
      · obtain rfl : k = len := by omega
        go_wp2
        go_ret
        exact ⟨rfl, below_drewN HB.out m⟩
end Go.Proofs.YtdmbcgkfecmakaaDoor
