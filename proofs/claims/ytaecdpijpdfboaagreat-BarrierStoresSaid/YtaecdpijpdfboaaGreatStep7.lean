/- The law's world: step, kind 7. (printed by gen/step.py) -/
import Derived.Test.YtaecdpijpdfboaaGreatStepE
namespace Go.Proofs.YtaecdpijpdfboaaGreat
set_option linter.unusedVariables false
set_option linter.unusedSimpArgs false
set_option linter.unusedSectionVars false
open Go.RowKit Go.Sort Go.Shelf
attribute [local go_sem] Oper.semAt_some onlyN_normal
set_option maxRecDepth 100000
section
variable {w : World} {B k : Nat} {L : LP} {s : St}
set_option maxHeartbeats 4000000 in
theorem step_7 (h : LW w B L k s.m s.cs s.xs) (hx : s.xs.length ≤ 1000000) (hc : s.cs.length ≤ 100000) (hkb : k < 1000000) (hB : B ≤ w.heap.size) (hd : Hdr) (a b i x : Int) (r : Bool) (ho : (OpV.mk 7 hd a b i x r).Ok) : Calls Tryz.prog 15 #[.pointer (some ⟨L.p, 0, none⟩), .agg (OpV.mk 7 hd a b i x r).cells] w (StepP w B L k (s.step ⟨7, hd, a, b, i, x, r⟩)) := by
  have hb1 : Below w.heap.size w (w.alloc (.cells #[.int .u8 7, .int .i64 hd.k, .int .i64 hd.c, .int .i64 hd.f, .int .i64 a, .int .i64 b, .int .i64 i, .int .u64 x, .bool r] 53)) := (Below.refl _ w).alloc (Nat.le_refl _) _
  have hq1 : Bk (w.alloc (.cells #[.int .u8 7, .int .i64 hd.k, .int .i64 hd.c, .int .i64 hd.f, .int .i64 a, .int .i64 b, .int .i64 i, .int .u64 x, .bool r] 53)) w.heap.size 53 #[.int .u8 7, .int .i64 hd.k, .int .i64 hd.c, .int .i64 hd.f, .int .i64 a, .int .i64 b, .int .i64 i, .int .u64 x, .bool r] := Bk.new _ _ _
  have cO1 := fun n a ha => object_any ((h.below hb1).drewN n) hx a ha
  have HA : Hid (-9223372036854775808 ≤ a ∧ a ≤ 9223372036854775807) := Lib.hid ⟨ho.a0, ho.a1⟩
  have HBb : Hid (-9223372036854775808 ≤ b ∧ b ≤ 9223372036854775807) := Lib.hid ⟨ho.b0, ho.b1⟩
  have HX0 := Lib.hid ho.w
  have H := Lib.hid h
  have HB1 := Lib.hid hb1
  have HQ1 := Lib.hid hq1
  have HXS := Lib.hid hx
  have HCS := Lib.hid hc
  have HKB := Lib.hid hkb
  obtain ⟨vw, hvw⟩ : ∃ vw, vw = OpV.word ⟨7, hd, a, b, i, x, r⟩ s := ⟨_, rfl⟩
  have HVW := Lib.hid hvw
  have HVU : Hid (U64 vw) := Lib.hid (by rw [hvw]; exact OpV.word_u ho.w s)
  unfold OpV.cells
  clear ho h hb1 hq1 hvw hx hc hkb
  go_enter Tryz.func15, Tryz.ntmps15
  go_upto_if 35 with fail
  go_cut [5] (fun v wx => v = .int .u64 vw ∧ ∃ n, wx = (w.alloc (.cells #[.int .u8 7, .int .i64 hd.k, .int .i64 hd.c, .int .i64 hd.f, .int .i64 a, .int .i64 b, .int .i64 i, .int .u64 x, .bool r] 53)).drewN n)
  case first =>
    cases r with
    | true =>
      have HW : Hid (vw = frW (max 0 (objAt s.xs b))) := Lib.hid HVW.out
      have cF := fun w => RFromAddress_any (max 0 (objAt s.xs b)) w
      have hmx := fun ts t w => run_max2 (P := Tryz.prog) ts t 0 (objAt s.xs b) w
      go_wp2_with fail
      refine (cO1 0 _ HBb.out).mono ?_
      rintro e w1 ⟨rfl, n, rfl⟩
      clear cO1
      go_wp2_with fail
      refine (cF _).mono ?_
      rintro e w2 ⟨rfl, rfl⟩
      unfold frA
      unfold frW at HW
      cases hin : inA (max 0 (objAt s.xs b)) with
      | true =>
        rw [hin] at HW
        go_wp2_with fail
        go_meet
        case rel => exact ⟨by rw [HW.out]; rfl, n, rfl⟩
      | false =>
        rw [hin] at HW
        go_wp2_with fail
        go_meet
        case rel => exact ⟨by rw [HW.out]; rfl, n, rfl⟩
    | false =>
      have HW : Hid (vw = x) := Lib.hid HVW.out
      go_wp2_with fail
      go_meet
      case rel => exact ⟨by rw [HW.out], 0, rfl⟩
  case rest =>
    obtain ⟨rfl, n, rfl⟩ := hcut
    have h0 := (H.out.below HB1.out).drewN n
    have hb0 := below_drewN HB1.out n
    have hq0 : Bk ((w.alloc (.cells #[.int .u8 7, .int .i64 hd.k, .int .i64 hd.c, .int .i64 hd.f, .int .i64 a, .int .i64 b, .int .i64 i, .int .u64 x, .bool r] 53)).drewN n) w.heap.size 53 #[.int .u8 7, .int .i64 hd.k, .int .i64 hd.c, .int .i64 hd.f, .int .i64 a, .int .i64 b, .int .i64 i, .int .u64 x, .bool r] := HQ1.out
    clear cO1 HB1 HQ1
    obtain ⟨w0, hw0⟩ : ∃ w0, (w.alloc (.cells #[.int .u8 7, .int .i64 hd.k, .int .i64 hd.c, .int .i64 hd.f, .int .i64 a, .int .i64 b, .int .i64 i, .int .u64 x, .bool r] 53)).drewN n = w0 := ⟨_, rfl⟩
    rw [hw0] at h0 hb0 hq0 ⊢
    clear hw0
    have cO := fun {w1 : World} (hb : Below w0.heap.size w0 w1) => object_any (h0.below hb) HXS.out a HA.out
    have H0 := Lib.hid h0
    have HB0 := Lib.hid hb0
    have HQ0 := Lib.hid hq0
    have HP0 := Lib.hid h0.hd
    have f0 : w0.cell? ⟨w.heap.size, 0, none⟩ = some (.int .u8 7) := hq0.cell 0
    clear h0 hb0 hq0
    obtain ⟨er, m2, hr⟩ : ∃ er m2, s.m.toFwd (objAt s.xs a) (objAt s.xs b) = (er, m2) := ⟨_, _, rfl⟩
    have HR := Lib.hid hr
    have cOb := fun {w1 : World} (hb : Below w0.heap.size w0 w1) => object_any (H0.out.below hb) HXS.out b HBb.out
    clear hr
    go_upto_region 40 with fail
    refine wp_region_adds0 12 (fun i => ([[], [0], [1], [2], [], [], [5], [4, 6], [], [], [9], [8, 10]] : List (List Nat)).getD i []) (EL [Ent.val (.pointer (some ⟨L.p, 0, none⟩)), Ent.val (.pointer (some ⟨L.p, 0, none⟩)), Ent.val (.pointer (some ⟨L.p, 0, none⟩)), Ent.val (.agg #[.pointer (some ⟨L.g1, 0, none⟩), .pointer (some ⟨L.g2, 0, none⟩)]), Ent.val (.pointer (some ⟨L.p, 0, none⟩)), Ent.val (.pointer (some ⟨w.heap.size, 4, none⟩)), Ent.val (.int .i64 a), Ent.val (.int .i64 (objAt s.xs a)), Ent.val (.pointer (some ⟨L.p, 0, none⟩)), Ent.val (.pointer (some ⟨w.heap.size, 5, none⟩)), Ent.val (.int .i64 b), Ent.val (.int .i64 (objAt s.xs b))]) (by kernel_rfl) (by kernel_rfl) (by kernel_rfl) (by kernel_rfl) (by rfl) ?_ ?_
    · intro i hi o ho vs w1 hb1 hgr
      rcases (show i = 0 ∨ i = 1 ∨ i = 2 ∨ i = 3 ∨ i = 4 ∨ i = 5 ∨ i = 6 ∨ i = 7 ∨ i = 8 ∨ i = 9 ∨ i = 10 ∨ i = 11 by omega) with rfl | rfl | rfl | rfl | rfl | rfl | rfl | rfl | rfl | rfl | rfl | rfl <;> cases ho
      · clear hgr
        change Made _ (Adds _ _ _) (Sem.run _ (execOp (Act.eval (frm _ _ _ [])) _) _)
        simp only [frm]
        go_simp
        exact adds_val rfl
      · have h0 : vs 0 = _ := hgr 0 (by decide)
        clear hgr
        change Made _ (Adds _ _ _) (Sem.run _ (execOp (Act.eval (Act.put (frm _ _ _ []) (some 269) (vs 0))) _) _)
        simp only [frm, h0]
        go_simp
        exact adds_val rfl
      · have h1 : vs 1 = _ := hgr 1 (by decide)
        clear hgr
        change Made _ (Adds _ _ _) (Sem.run _ (execOp (Act.eval (Act.put (frm _ _ _ []) (some 270) (vs 1))) _) _)
        simp only [frm, h1]
        go_simp
        exact adds_val rfl
      · have h2 : vs 2 = _ := hgr 2 (by decide)
        clear hgr
        change Made _ (Adds _ _ _) (Sem.run _ (execOp (Act.eval (Act.put (frm _ _ _ []) (some 271) (vs 2))) _) _)
        simp only [frm, h2]
        have hbk := HP0.out.below hb1 HP0.out.lt
        have c0 : w1.cell? ⟨L.p, 0, none⟩ = some (.pointer (some ⟨L.g1, 0, none⟩)) := hbk.cell 0
        have c1 : w1.cell? ⟨L.p, 1, none⟩ = some (.pointer (some ⟨L.g2, 0, none⟩)) := hbk.cell 1
        clear hbk
        go_simp
        exact adds_val rfl
      · clear hgr
        change Made _ (Adds _ _ _) (Sem.run _ (execOp (Act.eval (frm _ _ _ [])) _) _)
        simp only [frm]
        go_simp
        exact adds_val rfl
      · clear hgr
        change Made _ (Adds _ _ _) (Sem.run _ (execOp (Act.eval (frm _ _ _ [])) _) _)
        simp only [frm]
        go_simp
        exact adds_val rfl
      · have h5 : vs 5 = _ := hgr 5 (by decide)
        clear hgr
        change Made _ (Adds _ _ _) (Sem.run _ (execOp (Act.eval (Act.put (frm _ _ _ []) (some 274) (vs 5))) _) _)
        simp only [frm, h5]
        have hbk := HQ0.out.below hb1 HQ0.out.lt
        have c0 : w1.cell? ⟨w.heap.size, 4, none⟩ = some (.int .i64 a) := hbk.cell 4
        clear hbk
        go_simp
        exact adds_val rfl
      · have h4 : vs 4 = _ := hgr 4 (by decide)
        have h6 : vs 6 = _ := hgr 6 (by decide)
        clear hgr
        change Made _ (Adds _ _ _) (Sem.run _ (execOp (Act.eval (Act.put (Act.put (frm _ _ _ []) (some 275) (vs 6)) (some 273) (vs 4))) _) _)
        simp only [frm, h4, h6]
        go_simp
        exact adds_quiet (cO hb1)
      · clear hgr
        change Made _ (Adds _ _ _) (Sem.run _ (execOp (Act.eval (frm _ _ _ [])) _) _)
        simp only [frm]
        go_simp
        exact adds_val rfl
      · clear hgr
        change Made _ (Adds _ _ _) (Sem.run _ (execOp (Act.eval (frm _ _ _ [])) _) _)
        simp only [frm]
        go_simp
        exact adds_val rfl
      · have h9 : vs 9 = _ := hgr 9 (by decide)
        clear hgr
        change Made _ (Adds _ _ _) (Sem.run _ (execOp (Act.eval (Act.put (frm _ _ _ []) (some 278) (vs 9))) _) _)
        simp only [frm, h9]
        have hbk := HQ0.out.below hb1 HQ0.out.lt
        have c0 : w1.cell? ⟨w.heap.size, 5, none⟩ = some (.int .i64 b) := hbk.cell 5
        clear hbk
        go_simp
        exact adds_val rfl
      · have h8 : vs 8 = _ := hgr 8 (by decide)
        have h10 : vs 10 = _ := hgr 10 (by decide)
        clear hgr
        change Made _ (Adds _ _ _) (Sem.run _ (execOp (Act.eval (Act.put (Act.put (frm _ _ _ []) (some 279) (vs 10)) (some 277) (vs 8))) _) _)
        simp only [frm, h8, h10]
        go_simp
        exact adds_quiet (cOb hb1)
    · intro vs w1 hb1 hall hap
      have h3 : vs 3 = _ := (hall 3 (by omega)).1
      have h7 : vs 7 = _ := (hall 7 (by omega)).1
      have h11 : vs 11 = _ := (hall 11 (by omega)).1
      clear hall hap
      change wpList _ _ _ [_, _] (Act.put (Act.put (Act.put (Act.put (Act.put (Act.put (Act.put (Act.put (Act.put (Act.put (Act.put (Act.put (frm _ _ _ []) (some 280) (vs 11)) (some 279) (vs 10)) (some 278) (vs 9)) (some 277) (vs 8)) (some 276) (vs 7)) (some 275) (vs 6)) (some 274) (vs 5)) (some 273) (vs 4)) (some 272) (vs 3)) (some 271) (vs 2)) (some 270) (vs 1)) (some 269) (vs 0)) _
      simp only [frm, h3, h7, h11]
      have H1 := Lib.hid (H0.out.below hb1)
      have HB1 := Lib.hid (HB0.out.trans (hb1.mono HB0.out.size))
      have HQ1 := Lib.hid (HQ0.out.below hb1 HQ0.out.lt)
      have cB := MToForward_any H1.out.mr (objAt s.xs a) (objAt s.xs b)
      rw [HR.out] at cB
      unfold memV at cB
      clear hb1
      go_wp2_with fail
      refine cB.mono ?_
      rintro e w2 ⟨rfl, hm2, hk2⟩
      have h2 := H1.out.progM hm2 hk2
      have HB2 := Lib.hid (H1.out.progMBelow hk2 (HB1.out.mono hB) (Nat.le_trans hB HB1.out.size))
      have HQ2 := Lib.hid (H1.out.progMBk hk2 HQ1.out (by decide))
      have HP2 := Lib.hid h2.hd
      have H2 := Lib.hid h2
      have cO2 := fun {w1 : World} (hb : Below w2.heap.size w2 w1) => object_any (h2.below hb) HXS.out a HA.out
      have cO2b := fun {w1 : World} (hb : Below w2.heap.size w2 w1) => object_any (h2.below hb) HXS.out b HBb.out
      have cR := fun {w1 : World} (hb : Below w2.heap.size w2 w1) => RToForward_any (h2.below hb).rm H.out.mr.ok (objAt s.xs a) (objAt s.xs b)
      simp only [HR.out] at cR
      unfold rmV at cR
      clear hm2 hk2 h2 cB cO cOb
      go_upto_region 41 with fail
      refine wp_region_addsF0 17 (fun i => ([[], [0], [1], [2], [], [], [5], [4, 6], [], [], [9], [8, 10], [3, 7, 11], [12], [13], [13], []] : List (List Nat)).getD i []) [15] (EL [Ent.val (.pointer (some ⟨L.p, 0, none⟩)), Ent.val (.pointer (some ⟨L.p, 0, none⟩)), Ent.val (.pointer (some ⟨L.p, 3, none⟩)), Ent.val (.agg #[.int .i64 s.m.old.base, .int .i64 s.m.old.limit, .slice L.A1 s.m.old.ws.length L.c1, .int .i64 s.m.yng.base, .int .i64 s.m.yng.limit, .slice L.A2 s.m.yng.ws.length L.c2]), Ent.val (.pointer (some ⟨L.p, 0, none⟩)), Ent.val (.pointer (some ⟨w.heap.size, 4, none⟩)), Ent.val (.int .i64 a), Ent.val (.int .i64 (objAt s.xs a)), Ent.val (.pointer (some ⟨L.p, 0, none⟩)), Ent.val (.pointer (some ⟨w.heap.size, 5, none⟩)), Ent.val (.int .i64 b), Ent.val (.int .i64 (objAt s.xs b)), Ent.of (RMsT w2.heap.size L.A1 L.A2 er m2) RMsT.below, Ent.same 12 (RMsT w2.heap.size L.A1 L.A2 er m2) RMsT.below, Ent.ext 13 0, Ent.ext 13 1, Ent.blk 37 #[.int .i64 0, .int .i64 0, .slice none 0 0, .int .i64 0, .int .i64 0, .slice none 0 0]]) (by kernel_rfl) (by kernel_rfl) (by kernel_rfl) (by kernel_rfl) (by kernel_rfl) (by rfl) ?_ ?_
      · intro i hi o ho vs w3 hb1 hgr
        rcases (show i = 0 ∨ i = 1 ∨ i = 2 ∨ i = 3 ∨ i = 4 ∨ i = 5 ∨ i = 6 ∨ i = 7 ∨ i = 8 ∨ i = 9 ∨ i = 10 ∨ i = 11 ∨ i = 12 ∨ i = 13 ∨ i = 14 ∨ i = 15 ∨ i = 16 by omega) with rfl | rfl | rfl | rfl | rfl | rfl | rfl | rfl | rfl | rfl | rfl | rfl | rfl | rfl | rfl | rfl | rfl <;> cases ho
        · clear hgr
          change Made _ (Adds _ _ _) (Sem.run _ (execOp (Act.eval (frm _ _ _ [])) _) _)
          simp only [frm]
          go_simp
          exact adds_val rfl
        · have h0 : vs 0 = _ := hgr 0 (by decide)
          clear hgr
          change Made _ (Adds _ _ _) (Sem.run _ (execOp (Act.eval (Act.put (frm _ _ _ []) (some 283) (vs 0))) _) _)
          simp only [frm, h0]
          go_simp
          exact adds_val rfl
        · have h1 : vs 1 = _ := hgr 1 (by decide)
          clear hgr
          change Made _ (Adds _ _ _) (Sem.run _ (execOp (Act.eval (Act.put (frm _ _ _ []) (some 284) (vs 1))) _) _)
          simp only [frm, h1]
          go_simp
          exact adds_val rfl
        · have h2 : vs 2 = _ := hgr 2 (by decide)
          clear hgr
          change Made _ (Adds _ _ _) (Sem.run _ (execOp (Act.eval (Act.put (frm _ _ _ []) (some 285) (vs 2))) _) _)
          simp only [frm, h2]
          have hbk := HP2.out.below hb1 HP2.out.lt
          have c0 : w3.cell? ⟨L.p, 3, none⟩ = some (.int .i64 s.m.old.base) := hbk.cell 3
          have c1 : w3.cell? ⟨L.p, 4, none⟩ = some (.int .i64 s.m.old.limit) := hbk.cell 4
          have c2 : w3.cell? ⟨L.p, 5, none⟩ = some (.slice L.A1 s.m.old.ws.length L.c1) := hbk.cell 5
          have c3 : w3.cell? ⟨L.p, 6, none⟩ = some (.int .i64 s.m.yng.base) := hbk.cell 6
          have c4 : w3.cell? ⟨L.p, 7, none⟩ = some (.int .i64 s.m.yng.limit) := hbk.cell 7
          have c5 : w3.cell? ⟨L.p, 8, none⟩ = some (.slice L.A2 s.m.yng.ws.length L.c2) := hbk.cell 8
          clear hbk
          go_simp
          exact adds_val rfl
        · clear hgr
          change Made _ (Adds _ _ _) (Sem.run _ (execOp (Act.eval (frm _ _ _ [])) _) _)
          simp only [frm]
          go_simp
          exact adds_val rfl
        · clear hgr
          change Made _ (Adds _ _ _) (Sem.run _ (execOp (Act.eval (frm _ _ _ [])) _) _)
          simp only [frm]
          go_simp
          exact adds_val rfl
        · have h5 : vs 5 = _ := hgr 5 (by decide)
          clear hgr
          change Made _ (Adds _ _ _) (Sem.run _ (execOp (Act.eval (Act.put (frm _ _ _ []) (some 288) (vs 5))) _) _)
          simp only [frm, h5]
          have hbk := HQ2.out.below hb1 HQ2.out.lt
          have c0 : w3.cell? ⟨w.heap.size, 4, none⟩ = some (.int .i64 a) := hbk.cell 4
          clear hbk
          go_simp
          exact adds_val rfl
        · have h4 : vs 4 = _ := hgr 4 (by decide)
          have h6 : vs 6 = _ := hgr 6 (by decide)
          clear hgr
          change Made _ (Adds _ _ _) (Sem.run _ (execOp (Act.eval (Act.put (Act.put (frm _ _ _ []) (some 289) (vs 6)) (some 287) (vs 4))) _) _)
          simp only [frm, h4, h6]
          go_simp
          exact adds_quiet (cO2 hb1)
        · clear hgr
          change Made _ (Adds _ _ _) (Sem.run _ (execOp (Act.eval (frm _ _ _ [])) _) _)
          simp only [frm]
          go_simp
          exact adds_val rfl
        · clear hgr
          change Made _ (Adds _ _ _) (Sem.run _ (execOp (Act.eval (frm _ _ _ [])) _) _)
          simp only [frm]
          go_simp
          exact adds_val rfl
        · have h9 : vs 9 = _ := hgr 9 (by decide)
          clear hgr
          change Made _ (Adds _ _ _) (Sem.run _ (execOp (Act.eval (Act.put (frm _ _ _ []) (some 292) (vs 9))) _) _)
          simp only [frm, h9]
          have hbk := HQ2.out.below hb1 HQ2.out.lt
          have c0 : w3.cell? ⟨w.heap.size, 5, none⟩ = some (.int .i64 b) := hbk.cell 5
          clear hbk
          go_simp
          exact adds_val rfl
        · have h8 : vs 8 = _ := hgr 8 (by decide)
          have h10 : vs 10 = _ := hgr 10 (by decide)
          clear hgr
          change Made _ (Adds _ _ _) (Sem.run _ (execOp (Act.eval (Act.put (Act.put (frm _ _ _ []) (some 293) (vs 10)) (some 291) (vs 8))) _) _)
          simp only [frm, h8, h10]
          go_simp
          exact adds_quiet (cO2b hb1)
        · have h3 : vs 3 = _ := hgr 3 (by decide)
          have h7 : vs 7 = _ := hgr 7 (by decide)
          have h11 : vs 11 = _ := hgr 11 (by decide)
          clear hgr
          change Made _ (Adds _ _ _) (Sem.run _ (execOp (Act.eval (Act.put (Act.put (Act.put (frm _ _ _ []) (some 294) (vs 11)) (some 290) (vs 7)) (some 286) (vs 3))) _) _)
          simp only [frm, h3, h7, h11]
          go_simp
          refine adds_call (T := RMsT w2.heap.size L.A1 L.A2 er m2) (hT := RMsT.below) (ob := fun _ => none) (cR hb1) ?_
          rintro e w4 ⟨A1, c1, A2, c2, rfl, hm, hb, n1, n2⟩
          exact ⟨_, rfl, ⟨A1, c1, A2, c2, rfl, hm, n1.mono hb1.size, n2.mono hb1.size⟩, hb, (fun k hk => nomatch hk)⟩
        · obtain ⟨A1, c1, A2, c2, h12, hm3, n1, n2⟩ := hgr 12 (by decide)
          clear hgr
          change Made _ (Adds _ _ _) (Sem.run _ (execOp (Act.eval (Act.put (frm _ _ _ []) (some 295) (vs 12))) _) _)
          simp only [frm, h12]
          go_simp
          rw [← h12]
          exact adds_same (hT := RMsT.below) ⟨A1, c1, A2, c2, h12, hm3, n1, n2⟩
        · obtain ⟨h13e, A1, c1, A2, c2, h13, hm3, n1, n2⟩ := hgr 13 (by decide)
          clear hgr
          change Made _ (Adds _ _ _) (Sem.run _ (execOp (Act.eval (Act.put (frm _ _ _ []) (some 282) (vs 13))) _) _)
          simp only [frm, h13]
          go_simp
          exact adds_ext h13 rfl
        · obtain ⟨h13e, A1, c1, A2, c2, h13, hm3, n1, n2⟩ := hgr 13 (by decide)
          clear hgr
          change Made _ (Adds _ _ _) (Sem.run _ (execOp (Act.eval (Act.put (frm _ _ _ []) (some 282) (vs 13))) _) _)
          simp only [frm, h13]
          go_simp
          exact adds_ext h13 rfl
        · clear hgr
          change Made _ (Adds _ _ _) (Sem.run _ (execOp (Act.eval (frm _ _ _ [])) _) _)
          simp only [frm]
          go_simp
          exact adds_blk
      · intro vs w3 hb1 hall hap
        obtain ⟨A1, c1, A2, c2, h12, hm3, n1, n2⟩ := (hall 12 (by omega)).1
        obtain ⟨⟨g16, h16, k16⟩, q16⟩ := hall 16 (by omega)
        have r16 : w2.heap.size ≤ g16 ∧ g16 < w3.heap.size := q16 g16 (by rw [h16]; rfl)
        clear q16
        have h13e := (hall 13 (by omega)).1.1
        have h14 : vs 14 = .agg #[.int .i64 m2.old.base, .int .i64 m2.old.limit, .slice A1 m2.old.ws.length c1, .int .i64 m2.yng.base, .int .i64 m2.yng.limit, .slice A2 m2.yng.ws.length c2] := ext_eq (hall 14 (by omega)).1 (h13e.trans h12) rfl
        have h15 : vs 15 = .int .i64 er := ext_eq (hall 15 (by omega)).1 (h13e.trans h12) rfl
        clear hall hap
        change wpList _ _ _ [_, _] (Act.put (Act.put (Act.put (Act.put (Act.put (Act.put (Act.put (Act.put (Act.put (Act.put (Act.put (Act.put (Act.put (Act.put (Act.put (Act.put (Act.put (frm _ _ _ []) (some 27) (vs 16)) (some 297) (vs 15)) (some 296) (vs 14)) (some 282) (vs 13)) (some 295) (vs 12)) (some 294) (vs 11)) (some 293) (vs 10)) (some 292) (vs 9)) (some 291) (vs 8)) (some 290) (vs 7)) (some 289) (vs 6)) (some 288) (vs 5)) (some 287) (vs 4)) (some 286) (vs 3)) (some 285) (vs 2)) (some 284) (vs 1)) (some 283) (vs 0)) _
        simp only [frm, h12, h14, h15, h16]
        clear cR h13e h12 h14 h15 h16 cO2 cO2b
        have hlp : L.p < w2.heap.size := HP2.out.lt
        have HM3 := Lib.hid hm3
        have HN := Lib.hid (And.intro n1 n2)
        have HB3 := Lib.hid hb1
        have KG := Lib.hid k16
        clear hm3 n1 n2
        have z0 : w3.cell? ⟨g16, 0, none⟩ = some (.int .i64 0) := k16.cell 0
        have zf0 : w3.frozen? ⟨g16, 0, none⟩ = false := k16.free 0
        have z1 : w3.cell? ⟨g16, 1, none⟩ = some (.int .i64 0) := k16.cell 1
        have zf1 : w3.frozen? ⟨g16, 1, none⟩ = false := k16.free 1
        have z2 : w3.cell? ⟨g16, 2, none⟩ = some (.slice none 0 0) := k16.cell 2
        have zf2 : w3.frozen? ⟨g16, 2, none⟩ = false := k16.free 2
        have z3 : w3.cell? ⟨g16, 3, none⟩ = some (.int .i64 0) := k16.cell 3
        have zf3 : w3.frozen? ⟨g16, 3, none⟩ = false := k16.free 3
        have z4 : w3.cell? ⟨g16, 4, none⟩ = some (.int .i64 0) := k16.cell 4
        have zf4 : w3.frozen? ⟨g16, 4, none⟩ = false := k16.free 4
        have z5 : w3.cell? ⟨g16, 5, none⟩ = some (.slice none 0 0) := k16.cell 5
        have zf5 : w3.frozen? ⟨g16, 5, none⟩ = false := k16.free 5
        clear hb1 k16
        go_wp2_with fail
        rw [onlyN_normal]
        have bg : Bk ((((((w3.setCell ⟨g16, 0, none⟩ (.int .i64 m2.old.base)).setCell ⟨g16, 1, none⟩ (.int .i64 m2.old.limit)).setCell ⟨g16, 2, none⟩ (.slice A1 m2.old.ws.length c1)).setCell ⟨g16, 3, none⟩ (.int .i64 m2.yng.base)).setCell ⟨g16, 4, none⟩ (.int .i64 m2.yng.limit)).setCell ⟨g16, 5, none⟩ (.slice A2 m2.yng.ws.length c2)) g16 37 #[.int .i64 m2.old.base, .int .i64 m2.old.limit, .slice A1 m2.old.ws.length c1, .int .i64 m2.yng.base, .int .i64 m2.yng.limit, .slice A2 m2.yng.ws.length c2] := KG.out.set6 0 (.int .i64 m2.old.base) (.int .i64 m2.old.limit) (.slice A1 m2.old.ws.length c1) (.int .i64 m2.yng.base) (.int .i64 m2.yng.limit) (.slice A2 m2.yng.ws.length c2)
        have bp : Bk ((((((w3.setCell ⟨g16, 0, none⟩ (.int .i64 m2.old.base)).setCell ⟨g16, 1, none⟩ (.int .i64 m2.old.limit)).setCell ⟨g16, 2, none⟩ (.slice A1 m2.old.ws.length c1)).setCell ⟨g16, 3, none⟩ (.int .i64 m2.yng.base)).setCell ⟨g16, 4, none⟩ (.int .i64 m2.yng.limit)).setCell ⟨g16, 5, none⟩ (.slice A2 m2.yng.ws.length c2)) L.p 41 (L.cells s.m s.cs s.xs) := (HP2.out.below HB3.out hlp).far6 (by omega) 0 (.int .i64 m2.old.base) (.int .i64 m2.old.limit) (.slice A1 m2.old.ws.length c1) (.int .i64 m2.yng.base) (.int .i64 m2.yng.limit) (.slice A2 m2.yng.ws.length c2)
        have kp : Kp (fun q => q = g16) w3 ((((((w3.setCell ⟨g16, 0, none⟩ (.int .i64 m2.old.base)).setCell ⟨g16, 1, none⟩ (.int .i64 m2.old.limit)).setCell ⟨g16, 2, none⟩ (.slice A1 m2.old.ws.length c1)).setCell ⟨g16, 3, none⟩ (.int .i64 m2.yng.base)).setCell ⟨g16, 4, none⟩ (.int .i64 m2.yng.limit)).setCell ⟨g16, 5, none⟩ (.slice A2 m2.yng.ws.length c2)) := Kp.set6 (S := fun q => q = g16) (Kp.refl _ _) rfl 0 (.int .i64 m2.old.base) (.int .i64 m2.old.limit) (.slice A1 m2.old.ws.length c1) (.int .i64 m2.yng.base) (.int .i64 m2.yng.limit) (.slice A2 m2.yng.ws.length c2)
        have hbw : Below w2.heap.size w2 ((((((w3.setCell ⟨g16, 0, none⟩ (.int .i64 m2.old.base)).setCell ⟨g16, 1, none⟩ (.int .i64 m2.old.limit)).setCell ⟨g16, 2, none⟩ (.slice A1 m2.old.ws.length c1)).setCell ⟨g16, 3, none⟩ (.int .i64 m2.yng.base)).setCell ⟨g16, 4, none⟩ (.int .i64 m2.yng.limit)).setCell ⟨g16, 5, none⟩ (.slice A2 m2.yng.ws.length c2)) := kp.toBelow HB3.out HB3.out.size fun q hq => by rw [hq]; omega
        obtain ⟨w4, hw4⟩ : ∃ w4, ((((((w3.setCell ⟨g16, 0, none⟩ (.int .i64 m2.old.base)).setCell ⟨g16, 1, none⟩ (.int .i64 m2.old.limit)).setCell ⟨g16, 2, none⟩ (.slice A1 m2.old.ws.length c1)).setCell ⟨g16, 3, none⟩ (.int .i64 m2.yng.base)).setCell ⟨g16, 4, none⟩ (.int .i64 m2.yng.limit)).setCell ⟨g16, 5, none⟩ (.slice A2 m2.yng.ws.length c2)) = w4 := ⟨_, rfl⟩
        rw [hw4] at bg bp kp hbw ⊢
        have HM4 := Lib.hid (HM3.out.kpA kp (HM3.out.o.away KG.out rfl) (HM3.out.y.away KG.out rfl))
        have HB4 := Lib.hid hbw
        have BP := Lib.hid bp
        have BG := Lib.hid bg
        clear hw4 kp hbw z0 zf0 z1 zf1 z2 zf2 z3 zf3 z4 zf4 z5 zf5
        have n0 : w4.cell? ⟨g16, 0, none⟩ = some (.int .i64 m2.old.base) := bg.cell 0
        have n1 : w4.cell? ⟨g16, 1, none⟩ = some (.int .i64 m2.old.limit) := bg.cell 1
        have n2 : w4.cell? ⟨g16, 2, none⟩ = some (.slice A1 m2.old.ws.length c1) := bg.cell 2
        have n3 : w4.cell? ⟨g16, 3, none⟩ = some (.int .i64 m2.yng.base) := bg.cell 3
        have n4 : w4.cell? ⟨g16, 4, none⟩ = some (.int .i64 m2.yng.limit) := bg.cell 4
        have n5 : w4.cell? ⟨g16, 5, none⟩ = some (.slice A2 m2.yng.ws.length c2) := bg.cell 5
        have q0 : w4.cell? ⟨L.p, 3, none⟩ = some (.int .i64 s.m.old.base) := bp.cell 3
        have qf0 : w4.frozen? ⟨L.p, 3, none⟩ = false := bp.free 3
        have q1 : w4.cell? ⟨L.p, 4, none⟩ = some (.int .i64 s.m.old.limit) := bp.cell 4
        have qf1 : w4.frozen? ⟨L.p, 4, none⟩ = false := bp.free 4
        have q2 : w4.cell? ⟨L.p, 5, none⟩ = some (.slice L.A1 s.m.old.ws.length L.c1) := bp.cell 5
        have qf2 : w4.frozen? ⟨L.p, 5, none⟩ = false := bp.free 5
        have q3 : w4.cell? ⟨L.p, 6, none⟩ = some (.int .i64 s.m.yng.base) := bp.cell 6
        have qf3 : w4.frozen? ⟨L.p, 6, none⟩ = false := bp.free 6
        have q4 : w4.cell? ⟨L.p, 7, none⟩ = some (.int .i64 s.m.yng.limit) := bp.cell 7
        have qf4 : w4.frozen? ⟨L.p, 7, none⟩ = false := bp.free 7
        have q5 : w4.cell? ⟨L.p, 8, none⟩ = some (.slice L.A2 s.m.yng.ws.length L.c2) := bp.cell 8
        have qf5 : w4.frozen? ⟨L.p, 8, none⟩ = false := bp.free 8
        clear bg bp
        go_wp2_with fail
        have HS : s.step ⟨7, hd, a, b, i, x, r⟩ = ⟨m2, s.cs, s.xs⟩ := by
          unfold St.step
          rw [if_neg (show ¬ ((7 : Int) = 0) by decide)]
          rw [if_neg (show ¬ ((7 : Int) = 1) by decide)]
          rw [if_neg (show ¬ ((7 : Int) = 2) by decide)]
          rw [if_neg (show ¬ ((7 : Int) = 3) by decide)]
          rw [if_neg (show ¬ ((7 : Int) = 4) by decide)]
          rw [if_neg (show ¬ ((7 : Int) = 5) by decide)]
          rw [if_neg (show ¬ ((7 : Int) = 6) by decide)]
          rw [if_pos rfl, HR.out]
        have hE := (H2.out.monoK (Nat.le_succ k)).end6 HB2.out hB HB4.out BP.out HM4.out HN.out rfl
        go_ret
        rw [HS]
        exact ⟨rfl, hE⟩
end
end Go.Proofs.YtaecdpijpdfboaaGreat
