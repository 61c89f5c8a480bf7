/- The law's world: step, kind 5. (printed by gen/step.py) The law's world: step, kind 6. (printed by gen/step.py) -/
import Derived.Test.YtaecdpijpdfboaaGreatStepE
namespace Go.Proofs.YtaecdpijpdfboaaGreat
set_option linter.unusedVariables false
set_option linter.unusedSimpArgs false
set_option linter.unusedSectionVars false
open Go.RowKit Go.Sort Go.Shelf
attribute [local go_sem] Oper.semAt_some onlyN_normal
set_option maxRecDepth 100000
section
variable {w : World} {B k : Nat} {L : LP} {s : St}
set_option maxHeartbeats 4000000 in
theorem step_5 (h : LW w B L k s.m s.cs s.xs) (hx : s.xs.length ≤ 1000000) (hc : s.cs.length ≤ 100000) (hkb : k < 1000000) (hB : B ≤ w.heap.size) (hd : Hdr) (a b i x : Int) (r : Bool) (ho : (OpV.mk 5 hd a b i x r).Ok) : Calls Tryz.prog 15 #[.pointer (some ⟨L.p, 0, none⟩), .agg (OpV.mk 5 hd a b i x r).cells] w (StepP w B L k (s.step ⟨5, hd, a, b, i, x, r⟩)) := by
  have hb1 : Below w.heap.size w (w.alloc (.cells #[.int .u8 5, .int .i64 hd.k, .int .i64 hd.c, .int .i64 hd.f, .int .i64 a, .int .i64 b, .int .i64 i, .int .u64 x, .bool r] 53)) := (Below.refl _ w).alloc (Nat.le_refl _) _
  have hq1 : Bk (w.alloc (.cells #[.int .u8 5, .int .i64 hd.k, .int .i64 hd.c, .int .i64 hd.f, .int .i64 a, .int .i64 b, .int .i64 i, .int .u64 x, .bool r] 53)) w.heap.size 53 #[.int .u8 5, .int .i64 hd.k, .int .i64 hd.c, .int .i64 hd.f, .int .i64 a, .int .i64 b, .int .i64 i, .int .u64 x, .bool r] := Bk.new _ _ _
  have cO1 := fun n a ha => object_any ((h.below hb1).drewN n) hx a ha
  have HA : Hid (-9223372036854775808 ≤ a ∧ a ≤ 9223372036854775807) := Lib.hid ⟨ho.a0, ho.a1⟩
  have HBb : Hid (-9223372036854775808 ≤ b ∧ b ≤ 9223372036854775807) := Lib.hid ⟨ho.b0, ho.b1⟩
  have HX0 := Lib.hid ho.w
  have H := Lib.hid h
  have HB1 := Lib.hid hb1
  have HQ1 := Lib.hid hq1
  have HXS := Lib.hid hx
  have HCS := Lib.hid hc
  have HKB := Lib.hid hkb
  obtain ⟨vw, hvw⟩ : ∃ vw, vw = OpV.word ⟨5, hd, a, b, i, x, r⟩ s := ⟨_, rfl⟩
  have HVW := Lib.hid hvw
  have HVU : Hid (U64 vw) := Lib.hid (by rw [hvw]; exact OpV.word_u ho.w s)
  unfold OpV.cells
  clear ho h hb1 hq1 hvw hx hc hkb
  go_enter Tryz.func15, Tryz.ntmps15
  go_upto_if 35 with fail
  go_cut [5] (fun v wx => v = .int .u64 vw ∧ ∃ n, wx = (w.alloc (.cells #[.int .u8 5, .int .i64 hd.k, .int .i64 hd.c, .int .i64 hd.f, .int .i64 a, .int .i64 b, .int .i64 i, .int .u64 x, .bool r] 53)).drewN n)
  case first =>
    cases r with
    | true =>
      have HW : Hid (vw = frW (max 0 (objAt s.xs b))) := Lib.hid HVW.out
      have cF := fun w => RFromAddress_any (max 0 (objAt s.xs b)) w
      have hmx := fun ts t w => run_max2 (P := Tryz.prog) ts t 0 (objAt s.xs b) w
      go_wp2_with fail
      refine (cO1 0 _ HBb.out).mono ?_
      rintro e w1 ⟨rfl, n, rfl⟩
      clear cO1
      go_wp2_with fail
      refine (cF _).mono ?_
      rintro e w2 ⟨rfl, rfl⟩
      unfold frA
      unfold frW at HW
      cases hin : inA (max 0 (objAt s.xs b)) with
      | true =>
        rw [hin] at HW
        go_wp2_with fail
        go_meet
        case rel => exact ⟨by rw [HW.out]; rfl, n, rfl⟩
      | false =>
        rw [hin] at HW
        go_wp2_with fail
        go_meet
        case rel => exact ⟨by rw [HW.out]; rfl, n, rfl⟩
    | false =>
      have HW : Hid (vw = x) := Lib.hid HVW.out
      go_wp2_with fail
      go_meet
      case rel => exact ⟨by rw [HW.out], 0, rfl⟩
  case rest =>
    obtain ⟨rfl, n, rfl⟩ := hcut
    have h0 := (H.out.below HB1.out).drewN n
    have hb0 := below_drewN HB1.out n
    have hq0 : Bk ((w.alloc (.cells #[.int .u8 5, .int .i64 hd.k, .int .i64 hd.c, .int .i64 hd.f, .int .i64 a, .int .i64 b, .int .i64 i, .int .u64 x, .bool r] 53)).drewN n) w.heap.size 53 #[.int .u8 5, .int .i64 hd.k, .int .i64 hd.c, .int .i64 hd.f, .int .i64 a, .int .i64 b, .int .i64 i, .int .u64 x, .bool r] := HQ1.out
    clear cO1 HB1 HQ1
    obtain ⟨w0, hw0⟩ : ∃ w0, (w.alloc (.cells #[.int .u8 5, .int .i64 hd.k, .int .i64 hd.c, .int .i64 hd.f, .int .i64 a, .int .i64 b, .int .i64 i, .int .u64 x, .bool r] 53)).drewN n = w0 := ⟨_, rfl⟩
    rw [hw0] at h0 hb0 hq0 ⊢
    clear hw0
    have cO := fun {w1 : World} (hb : Below w0.heap.size w0 w1) => object_any (h0.below hb) HXS.out a HA.out
    have H0 := Lib.hid h0
    have HB0 := Lib.hid hb0
    have HQ0 := Lib.hid hq0
    have HP0 := Lib.hid h0.hd
    have f0 : w0.cell? ⟨w.heap.size, 0, none⟩ = some (.int .u8 5) := hq0.cell 0
    clear h0 hb0 hq0
    obtain ⟨er, cs2, hr⟩ : ∃ er cs2, cardMark s.cs a = (er, cs2) := ⟨_, _, rfl⟩
    have HR := Lib.hid hr
    clear hr cO
    go_upto_region 32 with fail
    refine wp_region_adds0 6 (fun i => ([[], [0], [1], [2], [], [4]] : List (List Nat)).getD i []) (EL [Ent.val (.pointer (some ⟨L.p, 0, none⟩)), Ent.val (.pointer (some ⟨L.p, 0, none⟩)), Ent.val (.pointer (some ⟨L.p, 2, none⟩)), Ent.val (.pointer (some ⟨L.gt, 0, none⟩)), Ent.val (.pointer (some ⟨w.heap.size, 4, none⟩)), Ent.val (.int .i64 a)]) (by kernel_rfl) (by kernel_rfl) (by kernel_rfl) (by kernel_rfl) (by rfl) ?_ ?_
    · intro i hi o ho vs w1 hb1 hgr
      rcases (show i = 0 ∨ i = 1 ∨ i = 2 ∨ i = 3 ∨ i = 4 ∨ i = 5 by omega) with rfl | rfl | rfl | rfl | rfl | rfl <;> cases ho
      · clear hgr
        change Made _ (Adds _ _ _) (Sem.run _ (execOp (Act.eval (frm _ _ _ [])) _) _)
        simp only [frm]
        go_simp
        exact adds_val rfl
      · have h0 : vs 0 = _ := hgr 0 (by decide)
        clear hgr
        change Made _ (Adds _ _ _) (Sem.run _ (execOp (Act.eval (Act.put (frm _ _ _ []) (some 232) (vs 0))) _) _)
        simp only [frm, h0]
        go_simp
        exact adds_val rfl
      · have h1 : vs 1 = _ := hgr 1 (by decide)
        clear hgr
        change Made _ (Adds _ _ _) (Sem.run _ (execOp (Act.eval (Act.put (frm _ _ _ []) (some 233) (vs 1))) _) _)
        simp only [frm, h1]
        go_simp
        exact adds_val rfl
      · have h2 : vs 2 = _ := hgr 2 (by decide)
        clear hgr
        change Made _ (Adds _ _ _) (Sem.run _ (execOp (Act.eval (Act.put (frm _ _ _ []) (some 234) (vs 2))) _) _)
        simp only [frm, h2]
        have hbk := HP0.out.below hb1 HP0.out.lt
        have c0 : w1.cell? ⟨L.p, 2, none⟩ = some (.pointer (some ⟨L.gt, 0, none⟩)) := hbk.cell 2
        clear hbk
        go_simp
        exact adds_val rfl
      · clear hgr
        change Made _ (Adds _ _ _) (Sem.run _ (execOp (Act.eval (frm _ _ _ [])) _) _)
        simp only [frm]
        go_simp
        exact adds_val rfl
      · have h4 : vs 4 = _ := hgr 4 (by decide)
        clear hgr
        change Made _ (Adds _ _ _) (Sem.run _ (execOp (Act.eval (Act.put (frm _ _ _ []) (some 236) (vs 4))) _) _)
        simp only [frm, h4]
        have hbk := HQ0.out.below hb1 HQ0.out.lt
        have c0 : w1.cell? ⟨w.heap.size, 4, none⟩ = some (.int .i64 a) := hbk.cell 4
        clear hbk
        go_simp
        exact adds_val rfl
    · intro vs w1 hb1 hall hap
      have h3 : vs 3 = _ := (hall 3 (by omega)).1
      have h5 : vs 5 = _ := (hall 5 (by omega)).1
      clear hall hap
      change wpList _ _ _ [_, _] (Act.put (Act.put (Act.put (Act.put (Act.put (Act.put (frm _ _ _ []) (some 237) (vs 5)) (some 236) (vs 4)) (some 235) (vs 3)) (some 234) (vs 2)) (some 233) (vs 1)) (some 232) (vs 0)) _
      simp only [frm, h3, h5]
      have H1 := Lib.hid (H0.out.below hb1)
      have HB1 := Lib.hid (HB0.out.trans (hb1.mono HB0.out.size))
      have HQ1 := Lib.hid (HQ0.out.below hb1 HQ0.out.lt)
      have cB := Mark_any H1.out.tr HKB.out a
      unfold MarkP at cB
      rw [HR.out] at cB
      clear hb1
      go_wp2_with fail
      refine cB.mono ?_
      rintro e w2 ⟨rfl, hc2, hk2⟩
      have h2 := H1.out.progC hc2 hk2
      have HB2 := Lib.hid (H1.out.progCBelow hk2 (HB1.out.mono hB) (Nat.le_trans hB HB1.out.size))
      have HQ2 := Lib.hid (H1.out.progCBk hk2 HQ1.out (by decide))
      have HP2 := Lib.hid h2.hd
      have H2 := Lib.hid h2
      have cR := fun {w1 : World} (hb : Below w2.heap.size w2 w1) => RMark_rc (h2.below hb).rc HCS.out a
      simp only [HR.out] at cR
      clear hc2 hk2 h2 cB
      go_upto_region 33 with fail
      refine wp_region_addsF0 11 (fun i => ([[], [0], [1], [2], [], [4], [3, 5], [6], [7], [7], []] : List (List Nat)).getD i []) [9] (EL [Ent.val (.pointer (some ⟨L.p, 0, none⟩)), Ent.val (.pointer (some ⟨L.p, 0, none⟩)), Ent.val (.pointer (some ⟨L.p, 9, none⟩)), Ent.val (.agg #[.slice L.Ac s.cs.length L.cc]), Ent.val (.pointer (some ⟨w.heap.size, 4, none⟩)), Ent.val (.int .i64 a), Ent.of (RCsT w2.heap.size L.Ac er cs2) RCsT.below (newC w2.heap.size), Ent.same 6 (RCsT w2.heap.size L.Ac er cs2) RCsT.below, Ent.ext 7 0, Ent.ext 7 1, Ent.blk 39 #[.slice none 0 0]]) (by kernel_rfl) (by kernel_rfl) (by kernel_rfl) (by kernel_rfl) (by kernel_rfl) (by rfl) ?_ ?_
      · intro i hi o ho vs w3 hb1 hgr
        rcases (show i = 0 ∨ i = 1 ∨ i = 2 ∨ i = 3 ∨ i = 4 ∨ i = 5 ∨ i = 6 ∨ i = 7 ∨ i = 8 ∨ i = 9 ∨ i = 10 by omega) with rfl | rfl | rfl | rfl | rfl | rfl | rfl | rfl | rfl | rfl | rfl <;> cases ho
        · clear hgr
          change Made _ (Adds _ _ _) (Sem.run _ (execOp (Act.eval (frm _ _ _ [])) _) _)
          simp only [frm]
          go_simp
          exact adds_val rfl
        · have h0 : vs 0 = _ := hgr 0 (by decide)
          clear hgr
          change Made _ (Adds _ _ _) (Sem.run _ (execOp (Act.eval (Act.put (frm _ _ _ []) (some 240) (vs 0))) _) _)
          simp only [frm, h0]
          go_simp
          exact adds_val rfl
        · have h1 : vs 1 = _ := hgr 1 (by decide)
          clear hgr
          change Made _ (Adds _ _ _) (Sem.run _ (execOp (Act.eval (Act.put (frm _ _ _ []) (some 241) (vs 1))) _) _)
          simp only [frm, h1]
          go_simp
          exact adds_val rfl
        · have h2 : vs 2 = _ := hgr 2 (by decide)
          clear hgr
          change Made _ (Adds _ _ _) (Sem.run _ (execOp (Act.eval (Act.put (frm _ _ _ []) (some 242) (vs 2))) _) _)
          simp only [frm, h2]
          have hbk := HP2.out.below hb1 HP2.out.lt
          have c0 : w3.cell? ⟨L.p, 9, none⟩ = some (.slice L.Ac s.cs.length L.cc) := hbk.cell 9
          clear hbk
          go_simp
          exact adds_val rfl
        · clear hgr
          change Made _ (Adds _ _ _) (Sem.run _ (execOp (Act.eval (frm _ _ _ [])) _) _)
          simp only [frm]
          go_simp
          exact adds_val rfl
        · have h4 : vs 4 = _ := hgr 4 (by decide)
          clear hgr
          change Made _ (Adds _ _ _) (Sem.run _ (execOp (Act.eval (Act.put (frm _ _ _ []) (some 244) (vs 4))) _) _)
          simp only [frm, h4]
          have hbk := HQ2.out.below hb1 HQ2.out.lt
          have c0 : w3.cell? ⟨w.heap.size, 4, none⟩ = some (.int .i64 a) := hbk.cell 4
          clear hbk
          go_simp
          exact adds_val rfl
        · have h3 : vs 3 = _ := hgr 3 (by decide)
          have h5 : vs 5 = _ := hgr 5 (by decide)
          clear hgr
          change Made _ (Adds _ _ _) (Sem.run _ (execOp (Act.eval (Act.put (Act.put (frm _ _ _ []) (some 245) (vs 5)) (some 243) (vs 3))) _) _)
          simp only [frm, h3, h5]
          go_simp
          refine adds_call (T := RCsT w2.heap.size L.Ac er cs2) (hT := RCsT.below) (ob := newC w2.heap.size) (cR hb1) ?_
          rintro e w4 ⟨A, c, rfl, hc, n3, hb⟩
          exact ⟨_, rfl, ⟨A, c, rfl, hc, Nw.mono n3 hb1.size⟩, hb, fun k hk => newC_ok (x := .int .i64 0) n3 H2.out.rc rfl hc (.inr hk)⟩
        · obtain ⟨A, c, h6, hc3, n1⟩ := hgr 6 (by decide)
          clear hgr
          change Made _ (Adds _ _ _) (Sem.run _ (execOp (Act.eval (Act.put (frm _ _ _ []) (some 246) (vs 6))) _) _)
          simp only [frm, h6]
          go_simp
          rw [← h6]
          exact adds_same (hT := RCsT.below) ⟨A, c, h6, hc3, n1⟩
        · obtain ⟨h7e, A, c, h7, hc3, n1⟩ := hgr 7 (by decide)
          clear hgr
          change Made _ (Adds _ _ _) (Sem.run _ (execOp (Act.eval (Act.put (frm _ _ _ []) (some 239) (vs 7))) _) _)
          simp only [frm, h7]
          go_simp
          exact adds_ext h7 rfl
        · obtain ⟨h7e, A, c, h7, hc3, n1⟩ := hgr 7 (by decide)
          clear hgr
          change Made _ (Adds _ _ _) (Sem.run _ (execOp (Act.eval (Act.put (frm _ _ _ []) (some 239) (vs 7))) _) _)
          simp only [frm, h7]
          go_simp
          exact adds_ext h7 rfl
        · clear hgr
          change Made _ (Adds _ _ _) (Sem.run _ (execOp (Act.eval (frm _ _ _ [])) _) _)
          simp only [frm]
          go_simp
          exact adds_blk
      · intro vs w3 hb1 hall hap
        obtain ⟨A, c, h6, hc3, n1⟩ := (hall 6 (by omega)).1
        obtain ⟨⟨g10, h10, k10⟩, q10⟩ := hall 10 (by omega)
        have r10 : w2.heap.size ≤ g10 ∧ g10 < w3.heap.size := q10 g10 (by rw [h10]; rfl)
        clear q10
        have h7e := (hall 7 (by omega)).1.1
        have far10 := newC_far (x := .int .i64 0) r10.1 (.inr (h6 ▸ fun h => hap 6 (by omega) 10 (by omega) (by decide) g10 h (by rw [h10]; rfl)))
        have h8 : vs 8 = .agg #[.slice A cs2.length c] := ext_eq (hall 8 (by omega)).1 (h7e.trans h6) rfl
        have h9 : vs 9 = .int .i64 er := ext_eq (hall 9 (by omega)).1 (h7e.trans h6) rfl
        clear hall hap
        change wpList _ _ _ [_, _] (Act.put (Act.put (Act.put (Act.put (Act.put (Act.put (Act.put (Act.put (Act.put (Act.put (Act.put (frm _ _ _ []) (some 24) (vs 10)) (some 248) (vs 9)) (some 247) (vs 8)) (some 239) (vs 7)) (some 246) (vs 6)) (some 245) (vs 5)) (some 244) (vs 4)) (some 243) (vs 3)) (some 242) (vs 2)) (some 241) (vs 1)) (some 240) (vs 0)) _
        simp only [frm, h6, h8, h9, h10]
        have hlp : L.p < w2.heap.size := HP2.out.lt
        have HC3 := Lib.hid hc3
        have HN := Lib.hid n1
        have HF := Lib.hid far10
        have HB3 := Lib.hid hb1
        have KG := Lib.hid k10
        clear cR h7e h6 h8 h9 h10 hc3 n1 far10
        have z0 : w3.cell? ⟨g10, 0, none⟩ = some (.slice none 0 0) := k10.cell 0
        have zf0 : w3.frozen? ⟨g10, 0, none⟩ = false := k10.free 0
        clear hb1 k10
        go_wp2_with fail
        rw [onlyN_normal]
        have bg : Bk (w3.setCell ⟨g10, 0, none⟩ (.slice A cs2.length c)) g10 39 #[.slice A cs2.length c] := KG.out.set 0 _
        have bp : Bk (w3.setCell ⟨g10, 0, none⟩ (.slice A cs2.length c)) L.p 41 (L.cells s.m s.cs s.xs) := (HP2.out.below HB3.out hlp).far (by show L.p ≠ g10; omega) _
        have kp : Kp (fun q => q = g10) w3 (w3.setCell ⟨g10, 0, none⟩ (.slice A cs2.length c)) := Kp.set1 (S := fun q => q = g10) (Kp.refl _ _) _ rfl _
        have hbw : Below w2.heap.size w2 (w3.setCell ⟨g10, 0, none⟩ (.slice A cs2.length c)) := kp.toBelow HB3.out HB3.out.size fun q hq => by rw [hq]; omega
        obtain ⟨w4, hw4⟩ : ∃ w4, (w3.setCell ⟨g10, 0, none⟩ (.slice A cs2.length c)) = w4 := ⟨_, rfl⟩
        rw [hw4] at bg bp kp hbw ⊢
        have HC4 := Lib.hid (HC3.out.kp kp (fun b o e hs => HF.out b o e hs))
        have HB4 := Lib.hid hbw
        have BP := Lib.hid bp
        clear hw4 kp hbw z0 zf0
        have n0 : w4.cell? ⟨g10, 0, none⟩ = some (.slice A cs2.length c) := bg.cell 0
        have q0 : w4.cell? ⟨L.p, 9, none⟩ = some (.slice L.Ac s.cs.length L.cc) := bp.cell 9
        have qf0 : w4.frozen? ⟨L.p, 9, none⟩ = false := bp.free 9
        clear bg bp
        go_wp2_with fail
        have HS : s.step ⟨5, hd, a, b, i, x, r⟩ = ⟨s.m, cs2, s.xs⟩ := by
          unfold St.step
          rw [if_neg (show ¬ ((5 : Int) = 0) by decide)]
          rw [if_neg (show ¬ ((5 : Int) = 1) by decide)]
          rw [if_neg (show ¬ ((5 : Int) = 2) by decide)]
          rw [if_neg (show ¬ ((5 : Int) = 3) by decide)]
          rw [if_neg (show ¬ ((5 : Int) = 4) by decide)]
          rw [if_pos rfl, HR.out]
        have hE := H2.out.end1 HB2.out hB HB4.out BP.out HC4.out HN.out rfl
        go_ret
        rw [HS]
        exact ⟨rfl, hE⟩
end
end Go.Proofs.YtaecdpijpdfboaaGreat
namespace Go.Proofs.YtaecdpijpdfboaaGreat
set_option linter.unusedVariables false
set_option linter.unusedSimpArgs false
set_option linter.unusedSectionVars false
open Go.RowKit Go.Sort Go.Shelf
attribute [local go_sem] Oper.semAt_some onlyN_normal
set_option maxRecDepth 100000
section
variable {w : World} {B k : Nat} {L : LP} {s : St}
set_option maxHeartbeats 4000000 in
theorem step_6 (h : LW w B L k s.m s.cs s.xs) (hx : s.xs.length ≤ 1000000) (hc : s.cs.length ≤ 100000) (hkb : k < 1000000) (hB : B ≤ w.heap.size) (hd : Hdr) (a b i x : Int) (r : Bool) (ho : (OpV.mk 6 hd a b i x r).Ok) : Calls Tryz.prog 15 #[.pointer (some ⟨L.p, 0, none⟩), .agg (OpV.mk 6 hd a b i x r).cells] w (StepP w B L k (s.step ⟨6, hd, a, b, i, x, r⟩)) := by
  have hb1 : Below w.heap.size w (w.alloc (.cells #[.int .u8 6, .int .i64 hd.k, .int .i64 hd.c, .int .i64 hd.f, .int .i64 a, .int .i64 b, .int .i64 i, .int .u64 x, .bool r] 53)) := (Below.refl _ w).alloc (Nat.le_refl _) _
  have hq1 : Bk (w.alloc (.cells #[.int .u8 6, .int .i64 hd.k, .int .i64 hd.c, .int .i64 hd.f, .int .i64 a, .int .i64 b, .int .i64 i, .int .u64 x, .bool r] 53)) w.heap.size 53 #[.int .u8 6, .int .i64 hd.k, .int .i64 hd.c, .int .i64 hd.f, .int .i64 a, .int .i64 b, .int .i64 i, .int .u64 x, .bool r] := Bk.new _ _ _
  have cO1 := fun n a ha => object_any ((h.below hb1).drewN n) hx a ha
  have HA : Hid (-9223372036854775808 ≤ a ∧ a ≤ 9223372036854775807) := Lib.hid ⟨ho.a0, ho.a1⟩
  have HBb : Hid (-9223372036854775808 ≤ b ∧ b ≤ 9223372036854775807) := Lib.hid ⟨ho.b0, ho.b1⟩
  have HX0 := Lib.hid ho.w
  have H := Lib.hid h
  have HB1 := Lib.hid hb1
  have HQ1 := Lib.hid hq1
  have HXS := Lib.hid hx
  have HCS := Lib.hid hc
  have HKB := Lib.hid hkb
  obtain ⟨vw, hvw⟩ : ∃ vw, vw = OpV.word ⟨6, hd, a, b, i, x, r⟩ s := ⟨_, rfl⟩
  have HVW := Lib.hid hvw
  have HVU : Hid (U64 vw) := Lib.hid (by rw [hvw]; exact OpV.word_u ho.w s)
  unfold OpV.cells
  clear ho h hb1 hq1 hvw hx hc hkb
  go_enter Tryz.func15, Tryz.ntmps15
  go_upto_if 35 with fail
  go_cut [5] (fun v wx => v = .int .u64 vw ∧ ∃ n, wx = (w.alloc (.cells #[.int .u8 6, .int .i64 hd.k, .int .i64 hd.c, .int .i64 hd.f, .int .i64 a, .int .i64 b, .int .i64 i, .int .u64 x, .bool r] 53)).drewN n)
  case first =>
    cases r with
    | true =>
      have HW : Hid (vw = frW (max 0 (objAt s.xs b))) := Lib.hid HVW.out
      have cF := fun w => RFromAddress_any (max 0 (objAt s.xs b)) w
      have hmx := fun ts t w => run_max2 (P := Tryz.prog) ts t 0 (objAt s.xs b) w
      go_wp2_with fail
      refine (cO1 0 _ HBb.out).mono ?_
      rintro e w1 ⟨rfl, n, rfl⟩
      clear cO1
      go_wp2_with fail
      refine (cF _).mono ?_
      rintro e w2 ⟨rfl, rfl⟩
      unfold frA
      unfold frW at HW
      cases hin : inA (max 0 (objAt s.xs b)) with
      | true =>
        rw [hin] at HW
        go_wp2_with fail
        go_meet
        case rel => exact ⟨by rw [HW.out]; rfl, n, rfl⟩
      | false =>
        rw [hin] at HW
        go_wp2_with fail
        go_meet
        case rel => exact ⟨by rw [HW.out]; rfl, n, rfl⟩
    | false =>
      have HW : Hid (vw = x) := Lib.hid HVW.out
      go_wp2_with fail
      go_meet
      case rel => exact ⟨by rw [HW.out], 0, rfl⟩
  case rest =>
    obtain ⟨rfl, n, rfl⟩ := hcut
    have h0 := (H.out.below HB1.out).drewN n
    have hb0 := below_drewN HB1.out n
    have hq0 : Bk ((w.alloc (.cells #[.int .u8 6, .int .i64 hd.k, .int .i64 hd.c, .int .i64 hd.f, .int .i64 a, .int .i64 b, .int .i64 i, .int .u64 x, .bool r] 53)).drewN n) w.heap.size 53 #[.int .u8 6, .int .i64 hd.k, .int .i64 hd.c, .int .i64 hd.f, .int .i64 a, .int .i64 b, .int .i64 i, .int .u64 x, .bool r] := HQ1.out
    clear cO1 HB1 HQ1
    obtain ⟨w0, hw0⟩ : ∃ w0, (w.alloc (.cells #[.int .u8 6, .int .i64 hd.k, .int .i64 hd.c, .int .i64 hd.f, .int .i64 a, .int .i64 b, .int .i64 i, .int .u64 x, .bool r] 53)).drewN n = w0 := ⟨_, rfl⟩
    rw [hw0] at h0 hb0 hq0 ⊢
    clear hw0
    have cO := fun {w1 : World} (hb : Below w0.heap.size w0 w1) => object_any (h0.below hb) HXS.out a HA.out
    have H0 := Lib.hid h0
    have HB0 := Lib.hid hb0
    have HQ0 := Lib.hid hq0
    have HP0 := Lib.hid h0.hd
    have f0 : w0.cell? ⟨w.heap.size, 0, none⟩ = some (.int .u8 6) := hq0.cell 0
    clear h0 hb0 hq0
    have q0 : w0.cell? ⟨L.p, 1, none⟩ = some (.pointer (some ⟨L.g2, 0, none⟩)) := HP0.out.cell 1
    have qt : w0.cell? ⟨L.p, 2, none⟩ = some (.pointer (some ⟨L.gt, 0, none⟩)) := HP0.out.cell 2
    have cB := Clear_any H0.out.tr
    clear cO
    go_wp2_with fail
    refine cB.mono ?_
    rintro e w2 ⟨rfl, hc2, hk2⟩
    have h2 := H0.out.progC hc2 hk2
    have HB2 := Lib.hid (H0.out.progCBelow hk2 (HB0.out.mono hB) (Nat.le_trans hB HB0.out.size))
    have hq := h2.hd
    have r0 : w2.cell? ⟨L.p, 9, none⟩ = some (.slice L.Ac s.cs.length L.cc) := hq.cell 9
    have rf0 : w2.frozen? ⟨L.p, 9, none⟩ = false := hq.free 9
    have BP := Lib.hid hq
    have H2 := Lib.hid h2
    clear hc2 hk2 h2 cB hq q0 qt f0
    go_wp2_with fail
    have HS : s.step ⟨6, hd, a, b, i, x, r⟩ = ⟨s.m, [], s.xs⟩ := by
      unfold St.step
      rw [if_neg (show ¬ ((6 : Int) = 0) by decide)]
      rw [if_neg (show ¬ ((6 : Int) = 1) by decide)]
      rw [if_neg (show ¬ ((6 : Int) = 2) by decide)]
      rw [if_neg (show ¬ ((6 : Int) = 3) by decide)]
      rw [if_neg (show ¬ ((6 : Int) = 4) by decide)]
      rw [if_neg (show ¬ ((6 : Int) = 5) by decide)]
      rw [if_pos rfl]
    have hE := (H2.out.monoK (Nat.zero_le (k + 1))).end1 (cs3 := []) (A := none) (c := 0) HB2.out hB (Below.refl _ _) BP.out (RC.new _) (fun b o e => by cases e) rfl
    go_ret
    rw [HS]
    exact ⟨rfl, hE⟩
end
end Go.Proofs.YtaecdpijpdfboaaGreat
