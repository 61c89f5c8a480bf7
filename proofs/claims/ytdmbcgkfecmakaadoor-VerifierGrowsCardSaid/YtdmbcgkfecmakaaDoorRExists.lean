/- refmeshref43.Exists. -/
import Derived.Test.YtdmbcgkfecmakaaDoorCheck
import Derived.Test.YtdmbcgkfecmakaaDoorRValid
namespace Go.Proofs.YtdmbcgkfecmakaaDoor
set_option linter.unusedVariables false
set_option linter.unusedSimpArgs false
set_option linter.unusedSectionVars false
open Go.RowKit Go.Sort
set_option maxRecDepth 100000

section
variable {w : World} {A B : Option Addr} {n c ci nn d : Nat} {cs : List Cls} {kx : Cls} {m0 m1 m3 : Value} {o a b l : Int}
set_option maxHeartbeats 8000000 in
theorem RExists_any (hC : CodeR w cs A n c) (hci : cs[ci]? = some kx) (hn60 : n ≤ 60) : Calls Tryd.prog 41 #[.agg #[.slice A n c], .int .i64 ci, .agg #[m0, m1, .int .i64 l, m3, .slice B nn d], .agg #[.int .i64 o, .int .i64 a, .int .i64 b]] w fun e w' => e = .returned (.bool (existsB cs kx.fields.length l nn (o, a, b))) ∧ Below w.heap.size w w' := by
  have hl := hC.1
  have hnc := hC.2.1
  have hcin : ci < n := by rw [← hl]; exact (List.getElem?_eq_some_iff.1 hci).1
  obtain ⟨cb, co, x, r, rfl, hcb, hx, hrl, ⟨hok, F, fc, M, mc, rfl, _⟩, hcells⟩ := hC.2.2.2.get hcin
  rw [hci] at hx
  cases hx
  have HCc := Lib.hid (show w.cell? ⟨cb, co + ci * 4 + 2, none⟩ = some (.slice F kx.fields.length fc) from hcells 2 _ rfl)
  have HC := Lib.hid hC
  have HL := Lib.hid hl
  clear hcells hok hC hl hrl
  have hB0 : Below w.heap.size w (((w.alloc (.cells #[.slice (some ⟨cb, co, none⟩) n c] 55)).alloc (.cells #[m0, m1, .int .i64 l, m3, .slice B nn d] 25)).alloc (.cells #[.int .i64 o, .int .i64 a, .int .i64 b] 39)) := (((Below.refl _ _).alloc (Nat.le_refl _) _).alloc (by simp) _).alloc (by simp; omega) _
  have HB0 := Lib.hid hB0
  clear hB0
  have cV := fun w => RValid_any o a b w
  cases hv : validB o a b with
  | false =>
    simp only [hv] at cV
    have HE : Hid (existsB cs kx.fields.length l nn (o, a, b) = false) := Lib.hid (by simp [existsB, iV, hv])
    clear hv
    go_enter Tryd.func41, Tryd.ntmps41
    go_wp2_with fail
    refine (cV _).mono ?_
    rintro e w1 ⟨rfl, hb1⟩
    go_wp2_with fail
    go_ret
    exact ⟨by rw [HE.out]; rfl, HB0.out.trans (hb1.mono HB0.out.size)⟩
  | true =>
    simp only [hv] at cV
    have HV := Lib.hid hv
    have hE : existsB cs kx.fields.length l nn (o, a, b) = (condB cs kx.fields.length l nn (o, a, b) 0 && condB cs kx.fields.length l nn (o, a, b) 1 && condB cs kx.fields.length l nn (o, a, b) 2 && condB cs kx.fields.length l nn (o, a, b) 3) := by simp [existsB, iV, hv]
    have HE := Lib.hid hE
    have hnew := fun ho => new_fit hv ho
    clear hv hE
    go_enter Tryd.func41, Tryd.ntmps41
    go_wp2_with fail
    refine (cV _).mono ?_
    rintro e w1 ⟨rfl, hb1⟩
    have hs3 : w.heap.size + 1 + 1 < (((w.alloc (.cells #[.slice (some ⟨cb, co, none⟩) n c] 55)).alloc (.cells #[m0, m1, .int .i64 l, m3, .slice B nn d] 25)).alloc (.cells #[.int .i64 o, .int .i64 a, .int .i64 b] 39)).heap.size := by simp
    have q4 := (((Bk.new w 55 #[.slice (some ⟨cb, co, none⟩) n c]).alloc (.cells #[m0, m1, .int .i64 l, m3, .slice B nn d] 25)).alloc (.cells #[.int .i64 o, .int .i64 a, .int .i64 b] 39)).below hb1 (by omega)
    have q6 := ((Bk.newAt (w := w.alloc (.cells #[.slice (some ⟨cb, co, none⟩) n c] 55)) (g := w.heap.size + 1) 25 #[m0, m1, .int .i64 l, m3, .slice B nn d] (by simp)).alloc (.cells #[.int .i64 o, .int .i64 a, .int .i64 b] 39)).below hb1 (by omega)
    have q7 := (Bk.newAt (w := (w.alloc (.cells #[.slice (some ⟨cb, co, none⟩) n c] 55)).alloc (.cells #[m0, m1, .int .i64 l, m3, .slice B nn d] 25)) (g := w.heap.size + 1 + 1) 39 #[.int .i64 o, .int .i64 a, .int .i64 b] (by simp)).below hb1 hs3
    have HBB := Lib.hid (HB0.out.trans (hb1.mono HB0.out.size))
    have j4 := q4.cell 0
    have j62 := q6.cell 2
    have j64 := q6.cell 4
    have j70 := q7.cell 0
    have j71 := q7.cell 1
    have j72 := q7.cell 2
    simp only [List.getElem?_toArray, List.getElem?_cons_zero, List.getElem?_cons_succ] at j4 j62 j64 j70 j71 j72
    have jc : w1.cell? ⟨cb, co + ci * 4 + 2, none⟩ = some (.slice F kx.fields.length fc) := ((bcell HBB.out).1 _ _ hcb).trans HCc.out
    have HNEW := Lib.hid hnew
    clear q4 q6 q7 hs3 hb1 cV hnew
    by_cases h3 : o = 3 ∨ o = 4
    · have HX : Hid (existsB cs kx.fields.length l nn (o, a, b) = decide (a < l)) := Lib.hid (by rw [HE.out]; rcases h3 with rfl | rfl <;> simp [condB, opsL, fineB])
      rcases h3 with rfl | rfl
      all_goals
        go_wp2
        go_ret
        exact ⟨by rw [HX.out]; rfl, HBB.out⟩
    by_cases h6 : o = 6 ∨ o = 8 ∨ o = 21 ∨ o = 24
    · have HX : Hid (existsB cs kx.fields.length l nn (o, a, b) = decide (a < (nn : Int))) := Lib.hid (by rw [HE.out]; rcases h6 with rfl | rfl | rfl | rfl <;> simp [condB, opsL, fineB])
      rcases h6 with rfl | rfl | rfl | rfl
      all_goals
        clear h3
        go_wp2
        go_ret
        exact ⟨by rw [HX.out]; rfl, HBB.out⟩
    by_cases h7 : o = 7 ∨ o = 9
    · have HX : Hid (existsB cs kx.fields.length l nn (o, a, b) = decide (a < (kx.fields.length : Int))) := Lib.hid (by rw [HE.out]; rcases h7 with rfl | rfl <;> simp [condB, opsL, fineB])
      have hcic : ci < c := by omega
      rcases h7 with rfl | rfl
      all_goals
        clear h3 h6
        go_wp2
        go_quiet (fail)
        go_wp2
        go_ret
        exact ⟨by rw [HX.out]; rfl, below_drewN HBB.out _⟩
    by_cases h10 : o = 10 ∨ o = 11
    · have HX : Hid (existsB cs kx.fields.length l nn (o, a, b) = (decide (a ≤ cs.length) && decide (b ≤ nfOf cs (a - 1).toNat))) := Lib.hid (by rw [HE.out]; rcases h10 with rfl | rfl <;> simp [condB, opsL, fineB])
      have ha := HNEW.out h10
      by_cases han : a ≤ n
      · obtain ⟨i, rfl⟩ : ∃ i : Nat, a = (i : Int) + 1 := ⟨(a - 1).toNat, by omega⟩
        have hin : i < n := by omega
        obtain ⟨cb2, co2, x2, r2, hA2, hcb2, hx2, hrl2, ⟨hok2, F2, fc2, M2, mc2, hr2, _⟩, hcells2⟩ := HC.out.2.2.2.get hin
        cases hA2
        have jd : w1.cell? ⟨cb, co + i * 4 + 2, none⟩ = some (.slice F2 x2.fields.length fc2) := ((bcell HBB.out).1 _ _ hcb).trans (hcells2 2 _ (by rw [hr2]; rfl))
        have hnf : nfOf cs i = x2.fields.length := by simp [nfOf, hx2]
        have hz : nfOf cs (((i : Int) + 1) - 1).toNat = x2.fields.length := by rw [← hnf]; congr 1; omega
        have hd1 : decide (((i : Int) + 1) ≤ (cs.length : Int)) = true := decide_eq_true (by rw [HL.out]; omega)
        have HY : Hid (existsB cs kx.fields.length l nn (o, (i : Int) + 1, b) = decide (b ≤ (x2.fields.length : Int))) := Lib.hid (by rw [HX.out, hd1, hz]; simp)
        have hw1 : IntKind.i64.wrap (i : Int) = (i : Int) := IntWalk.i64_in _ (by omega)
        have hle : ((i : Int) + 1 ≤ (n : Int)) := by omega
        have hic : i < c := by omega
        clear hx2 hok2 hnf hz hd1 ha hcells2 hr2 hrl2
        rcases h10 with rfl | rfl
        all_goals
          clear h3 h6 h7
          go_wp2
          go_quiet (fail)
          go_wp2
          go_ret
          exact ⟨by rw [HY.out]; rfl, below_drewN HBB.out _⟩
      · have hd2 : decide (a ≤ (n : Int)) = false := decide_eq_false han
        have HY : Hid (existsB cs kx.fields.length l nn (o, a, b) = false) := Lib.hid (by rw [HX.out, HL.out, hd2]; rfl)
        clear ha han
        rcases h10 with rfl | rfl
        all_goals
          clear h3 h6 h7
          go_wp2
          go_quiet (fail)
          go_wp2
          go_ret
          exact ⟨by rw [HY.out]; rfl, below_drewN HBB.out _⟩
    · have HX : Hid (existsB cs kx.fields.length l nn (o, a, b) = true) := Lib.hid (by
        rw [HE.out]
        have e : ∀ k, k < 4 → condB cs kx.fields.length l nn (o, a, b) k = true := fun k hk => by
          rcases (show k = 0 ∨ k = 1 ∨ k = 2 ∨ k = 3 by omega) with rfl | rfl | rfl | rfl <;> simp [condB, opsL] <;> left <;> omega
        rw [e 0 (by omega), e 1 (by omega), e 2 (by omega), e 3 (by omega)]; rfl)
      have d3 : (o == 3) = false := beq_eq_false_iff_ne.2 (by omega)
      have d4 : (o == 4) = false := beq_eq_false_iff_ne.2 (by omega)
      have d6 : (o == 6) = false := beq_eq_false_iff_ne.2 (by omega)
      have d8 : (o == 8) = false := beq_eq_false_iff_ne.2 (by omega)
      have d21 : (o == 21) = false := beq_eq_false_iff_ne.2 (by omega)
      have d24 : (o == 24) = false := beq_eq_false_iff_ne.2 (by omega)
      have d10 : (o == 10) = false := beq_eq_false_iff_ne.2 (by omega)
      have d11 : (o == 11) = false := beq_eq_false_iff_ne.2 (by omega)
      have d7 : (o == 7) = false := beq_eq_false_iff_ne.2 (by omega)
      have d9 : (o == 9) = false := beq_eq_false_iff_ne.2 (by omega)
      clear h3 h6 h7 h10
      go_wp2
      go_ret
      exact ⟨by rw [HX.out]; rfl, HBB.out⟩
end
end Go.Proofs.YtdmbcgkfecmakaaDoor
