/- The law's world: step, kind 2. (printed by gen/step.py) -/
import Derived.Test.YtaecdpijpdfboaaGreatStepH
namespace Go.Proofs.YtaecdpijpdfboaaGreat
set_option linter.unusedVariables false
set_option linter.unusedSimpArgs false
set_option linter.unusedSectionVars false
open Go.RowKit Go.Sort Go.Shelf
attribute [local go_sem] Oper.semAt_some onlyN_normal
set_option maxRecDepth 100000
section
variable {w : World} {B k : Nat} {L : LP} {s : St}
set_option maxHeartbeats 4000000 in
theorem step_2 (h : LW w B L k s.m s.cs s.xs) (hx : s.xs.length ≤ 1000000) (hc : s.cs.length ≤ 100000) (hkb : k < 1000000) (hB : B ≤ w.heap.size) (hd : Hdr) (a b i x : Int) (r : Bool) (ho : (OpV.mk 2 hd a b i x r).Ok) : Calls Tryz.prog 15 #[.pointer (some ⟨L.p, 0, none⟩), .agg (OpV.mk 2 hd a b i x r).cells] w (StepP w B L k (s.step ⟨2, hd, a, b, i, x, r⟩)) := by
  have hb1 : Below w.heap.size w (w.alloc (.cells #[.int .u8 2, .int .i64 hd.k, .int .i64 hd.c, .int .i64 hd.f, .int .i64 a, .int .i64 b, .int .i64 i, .int .u64 x, .bool r] 53)) := (Below.refl _ w).alloc (Nat.le_refl _) _
  have hq1 : Bk (w.alloc (.cells #[.int .u8 2, .int .i64 hd.k, .int .i64 hd.c, .int .i64 hd.f, .int .i64 a, .int .i64 b, .int .i64 i, .int .u64 x, .bool r] 53)) w.heap.size 53 #[.int .u8 2, .int .i64 hd.k, .int .i64 hd.c, .int .i64 hd.f, .int .i64 a, .int .i64 b, .int .i64 i, .int .u64 x, .bool r] := Bk.new _ _ _
  have cO1 := fun n a ha => object_any ((h.below hb1).drewN n) hx a ha
  have HA : Hid (-9223372036854775808 ≤ a ∧ a ≤ 9223372036854775807) := Lib.hid ⟨ho.a0, ho.a1⟩
  have HBb : Hid (-9223372036854775808 ≤ b ∧ b ≤ 9223372036854775807) := Lib.hid ⟨ho.b0, ho.b1⟩
  have HX0 := Lib.hid ho.w
  have H := Lib.hid h
  have HB1 := Lib.hid hb1
  have HQ1 := Lib.hid hq1
  have HXS := Lib.hid hx
  have HCS := Lib.hid hc
  have HKB := Lib.hid hkb
  obtain ⟨vw, hvw⟩ : ∃ vw, vw = OpV.word ⟨2, hd, a, b, i, x, r⟩ s := ⟨_, rfl⟩
  have HVW := Lib.hid hvw
  have HVU : Hid (U64 vw) := Lib.hid (by rw [hvw]; exact OpV.word_u ho.w s)
  unfold OpV.cells
  clear ho h hb1 hq1 hvw hx hc hkb
  go_enter Tryz.func15, Tryz.ntmps15
  go_upto_if 35 with fail
  go_cut [5] (fun v wx => v = .int .u64 vw ∧ ∃ n, wx = (w.alloc (.cells #[.int .u8 2, .int .i64 hd.k, .int .i64 hd.c, .int .i64 hd.f, .int .i64 a, .int .i64 b, .int .i64 i, .int .u64 x, .bool r] 53)).drewN n)
  case first =>
    cases r with
    | true =>
      have HW : Hid (vw = frW (max 0 (objAt s.xs b))) := Lib.hid HVW.out
      have cF := fun w => RFromAddress_any (max 0 (objAt s.xs b)) w
      have hmx := fun ts t w => run_max2 (P := Tryz.prog) ts t 0 (objAt s.xs b) w
      go_wp2_with fail
      refine (cO1 0 _ HBb.out).mono ?_
      rintro e w1 ⟨rfl, n, rfl⟩
      clear cO1
      go_wp2_with fail
      refine (cF _).mono ?_
      rintro e w2 ⟨rfl, rfl⟩
      unfold frA
      unfold frW at HW
      cases hin : inA (max 0 (objAt s.xs b)) with
      | true =>
        rw [hin] at HW
        go_wp2_with fail
        go_meet
        case rel => exact ⟨by rw [HW.out]; rfl, n, rfl⟩
      | false =>
        rw [hin] at HW
        go_wp2_with fail
        go_meet
        case rel => exact ⟨by rw [HW.out]; rfl, n, rfl⟩
    | false =>
      have HW : Hid (vw = x) := Lib.hid HVW.out
      go_wp2_with fail
      go_meet
      case rel => exact ⟨by rw [HW.out], 0, rfl⟩
  case rest =>
    obtain ⟨rfl, n, rfl⟩ := hcut
    have h0 := (H.out.below HB1.out).drewN n
    have hb0 := below_drewN HB1.out n
    have hq0 : Bk ((w.alloc (.cells #[.int .u8 2, .int .i64 hd.k, .int .i64 hd.c, .int .i64 hd.f, .int .i64 a, .int .i64 b, .int .i64 i, .int .u64 x, .bool r] 53)).drewN n) w.heap.size 53 #[.int .u8 2, .int .i64 hd.k, .int .i64 hd.c, .int .i64 hd.f, .int .i64 a, .int .i64 b, .int .i64 i, .int .u64 x, .bool r] := HQ1.out
    clear cO1 HB1 HQ1
    obtain ⟨w0, hw0⟩ : ∃ w0, (w.alloc (.cells #[.int .u8 2, .int .i64 hd.k, .int .i64 hd.c, .int .i64 hd.f, .int .i64 a, .int .i64 b, .int .i64 i, .int .u64 x, .bool r] 53)).drewN n = w0 := ⟨_, rfl⟩
    rw [hw0] at h0 hb0 hq0 ⊢
    clear hw0
    have cO := fun {w1 : World} (hb : Below w0.heap.size w0 w1) => object_any (h0.below hb) HXS.out a HA.out
    have H0 := Lib.hid h0
    have HB0 := Lib.hid hb0
    have HQ0 := Lib.hid hq0
    have HP0 := Lib.hid h0.hd
    have f0 : w0.cell? ⟨w.heap.size, 0, none⟩ = some (.int .u8 2) := hq0.cell 0
    clear h0 hb0 hq0
    obtain ⟨er, m2, cs2, hr⟩ : ∃ er m2 cs2, bst s.m s.cs (objAt s.xs a) i vw = (er, m2, cs2) := ⟨_, _, _, rfl⟩
    have HR := Lib.hid hr
    clear hr
    go_upto_region 17 with fail
    refine wp_region_adds0 15 (fun i => ([[], [0], [1], [2], [], [4], [5], [6], [], [], [9], [8, 10], [], [12], []] : List (List Nat)).getD i []) (EL [Ent.val (.pointer (some ⟨L.p, 0, none⟩)), Ent.val (.pointer (some ⟨L.p, 0, none⟩)), Ent.val (.pointer (some ⟨L.p, 0, none⟩)), Ent.val (.agg #[.pointer (some ⟨L.g1, 0, none⟩), .pointer (some ⟨L.g2, 0, none⟩)]), Ent.val (.pointer (some ⟨L.p, 0, none⟩)), Ent.val (.pointer (some ⟨L.p, 0, none⟩)), Ent.val (.pointer (some ⟨L.p, 2, none⟩)), Ent.val (.pointer (some ⟨L.gt, 0, none⟩)), Ent.val (.pointer (some ⟨L.p, 0, none⟩)), Ent.val (.pointer (some ⟨w.heap.size, 4, none⟩)), Ent.val (.int .i64 a), Ent.val (.int .i64 (objAt s.xs a)), Ent.val (.pointer (some ⟨w.heap.size, 6, none⟩)), Ent.val (.int .i64 i), Ent.val (.int .u64 vw)]) (by kernel_rfl) (by kernel_rfl) (by kernel_rfl) (by kernel_rfl) (by rfl) ?_ ?_
    · intro i hi o ho vs w1 hb1 hgr
      rcases (show i = 0 ∨ i = 1 ∨ i = 2 ∨ i = 3 ∨ i = 4 ∨ i = 5 ∨ i = 6 ∨ i = 7 ∨ i = 8 ∨ i = 9 ∨ i = 10 ∨ i = 11 ∨ i = 12 ∨ i = 13 ∨ i = 14 by omega) with rfl | rfl | rfl | rfl | rfl | rfl | rfl | rfl | rfl | rfl | rfl | rfl | rfl | rfl | rfl <;> cases ho
      · clear hgr
        change Made _ (Adds _ _ _) (Sem.run _ (execOp (Act.eval (frm _ _ _ [])) _) _)
        simp only [frm]
        go_simp
        exact adds_val rfl
      · have h0 : vs 0 = _ := hgr 0 (by decide)
        clear hgr
        change Made _ (Adds _ _ _) (Sem.run _ (execOp (Act.eval (Act.put (frm _ _ _ []) (some 119) (vs 0))) _) _)
        simp only [frm, h0]
        go_simp
        exact adds_val rfl
      · have h1 : vs 1 = _ := hgr 1 (by decide)
        clear hgr
        change Made _ (Adds _ _ _) (Sem.run _ (execOp (Act.eval (Act.put (frm _ _ _ []) (some 120) (vs 1))) _) _)
        simp only [frm, h1]
        go_simp
        exact adds_val rfl
      · have h2 : vs 2 = _ := hgr 2 (by decide)
        clear hgr
        change Made _ (Adds _ _ _) (Sem.run _ (execOp (Act.eval (Act.put (frm _ _ _ []) (some 121) (vs 2))) _) _)
        simp only [frm, h2]
        have hbk := HP0.out.below hb1 HP0.out.lt
        have c0 : w1.cell? ⟨L.p, 0, none⟩ = some (.pointer (some ⟨L.g1, 0, none⟩)) := hbk.cell 0
        have c1 : w1.cell? ⟨L.p, 1, none⟩ = some (.pointer (some ⟨L.g2, 0, none⟩)) := hbk.cell 1
        clear hbk
        go_simp
        exact adds_val rfl
      · clear hgr
        change Made _ (Adds _ _ _) (Sem.run _ (execOp (Act.eval (frm _ _ _ [])) _) _)
        simp only [frm]
        go_simp
        exact adds_val rfl
      · have h4 : vs 4 = _ := hgr 4 (by decide)
        clear hgr
        change Made _ (Adds _ _ _) (Sem.run _ (execOp (Act.eval (Act.put (frm _ _ _ []) (some 123) (vs 4))) _) _)
        simp only [frm, h4]
        go_simp
        exact adds_val rfl
      · have h5 : vs 5 = _ := hgr 5 (by decide)
        clear hgr
        change Made _ (Adds _ _ _) (Sem.run _ (execOp (Act.eval (Act.put (frm _ _ _ []) (some 124) (vs 5))) _) _)
        simp only [frm, h5]
        go_simp
        exact adds_val rfl
      · have h6 : vs 6 = _ := hgr 6 (by decide)
        clear hgr
        change Made _ (Adds _ _ _) (Sem.run _ (execOp (Act.eval (Act.put (frm _ _ _ []) (some 125) (vs 6))) _) _)
        simp only [frm, h6]
        have hbk := HP0.out.below hb1 HP0.out.lt
        have c0 : w1.cell? ⟨L.p, 2, none⟩ = some (.pointer (some ⟨L.gt, 0, none⟩)) := hbk.cell 2
        clear hbk
        go_simp
        exact adds_val rfl
      · clear hgr
        change Made _ (Adds _ _ _) (Sem.run _ (execOp (Act.eval (frm _ _ _ [])) _) _)
        simp only [frm]
        go_simp
        exact adds_val rfl
      · clear hgr
        change Made _ (Adds _ _ _) (Sem.run _ (execOp (Act.eval (frm _ _ _ [])) _) _)
        simp only [frm]
        go_simp
        exact adds_val rfl
      · have h9 : vs 9 = _ := hgr 9 (by decide)
        clear hgr
        change Made _ (Adds _ _ _) (Sem.run _ (execOp (Act.eval (Act.put (frm _ _ _ []) (some 128) (vs 9))) _) _)
        simp only [frm, h9]
        have hbk := HQ0.out.below hb1 HQ0.out.lt
        have c0 : w1.cell? ⟨w.heap.size, 4, none⟩ = some (.int .i64 a) := hbk.cell 4
        clear hbk
        go_simp
        exact adds_val rfl
      · have h8 : vs 8 = _ := hgr 8 (by decide)
        have h10 : vs 10 = _ := hgr 10 (by decide)
        clear hgr
        change Made _ (Adds _ _ _) (Sem.run _ (execOp (Act.eval (Act.put (Act.put (frm _ _ _ []) (some 129) (vs 10)) (some 127) (vs 8))) _) _)
        simp only [frm, h8, h10]
        go_simp
        exact adds_quiet (cO hb1)
      · clear hgr
        change Made _ (Adds _ _ _) (Sem.run _ (execOp (Act.eval (frm _ _ _ [])) _) _)
        simp only [frm]
        go_simp
        exact adds_val rfl
      · have h12 : vs 12 = _ := hgr 12 (by decide)
        clear hgr
        change Made _ (Adds _ _ _) (Sem.run _ (execOp (Act.eval (Act.put (frm _ _ _ []) (some 131) (vs 12))) _) _)
        simp only [frm, h12]
        have hbk := HQ0.out.below hb1 HQ0.out.lt
        have c0 : w1.cell? ⟨w.heap.size, 6, none⟩ = some (.int .i64 i) := hbk.cell 6
        clear hbk
        go_simp
        exact adds_val rfl
      · clear hgr
        change Made _ (Adds _ _ _) (Sem.run _ (execOp (Act.eval (frm _ _ _ [])) _) _)
        simp only [frm]
        go_simp
        exact adds_val rfl
    · intro vs w1 hb1 hall hap
      have h3 : vs 3 = _ := (hall 3 (by omega)).1
      have h7 : vs 7 = _ := (hall 7 (by omega)).1
      have h11 : vs 11 = _ := (hall 11 (by omega)).1
      have h13 : vs 13 = _ := (hall 13 (by omega)).1
      have h14 : vs 14 = _ := (hall 14 (by omega)).1
      clear hall hap
      change wpList _ _ _ [_, _] (Act.put (Act.put (Act.put (Act.put (Act.put (Act.put (Act.put (Act.put (Act.put (Act.put (Act.put (Act.put (Act.put (Act.put (Act.put (frm _ _ _ []) (some 133) (vs 14)) (some 132) (vs 13)) (some 131) (vs 12)) (some 130) (vs 11)) (some 129) (vs 10)) (some 128) (vs 9)) (some 127) (vs 8)) (some 126) (vs 7)) (some 125) (vs 6)) (some 124) (vs 5)) (some 123) (vs 4)) (some 122) (vs 3)) (some 121) (vs 2)) (some 120) (vs 1)) (some 119) (vs 0)) _
      simp only [frm, h3, h7, h11, h13, h14]
      have H1 := Lib.hid (H0.out.below hb1)
      have HB1 := Lib.hid (HB0.out.trans (hb1.mono HB0.out.size))
      have HQ1 := Lib.hid (HQ0.out.below hb1 HQ0.out.lt)
      have cB := BStore_any H1.out.mr H1.out.tr HKB.out (objAt s.xs a) i HVU.out
      rw [HR.out] at cB
      unfold memV at cB
      clear hb1
      go_wp2_with fail
      refine cB.mono ?_
      rintro e w2 ⟨rfl, hm2, hc2, hk2⟩
      have h2 := H1.out.prog hm2 hc2 hk2
      have HB2 := Lib.hid (H1.out.progBelow hk2 (HB1.out.mono hB) (Nat.le_trans hB HB1.out.size))
      have HQ2 := Lib.hid (H1.out.progBk hk2 HQ1.out (by decide))
      have HP2 := Lib.hid h2.hd
      have H2 := Lib.hid h2
      have cO2 := fun {w1 : World} (hb : Below w2.heap.size w2 w1) => object_any (h2.below hb) HXS.out a HA.out
      have cR := fun {w1 : World} (hb : Below w2.heap.size w2 w1) => RBst_any (h2.below hb).rm (h2.below hb).rc H.out.mr.ok HCS.out (objAt s.xs a) i HVU.out
      simp only [HR.out] at cR
      unfold rmV at cR
      clear hm2 hc2 hk2 h2 cB cO
      go_upto_region 18 with fail
      refine wp_region_addsF0 22 (fun i => ([[], [0], [1], [2], [], [4], [5], [6], [], [], [9], [8, 10], [], [12], [], [3, 7, 11, 13, 14], [15], [16], [16], [16], [], []] : List (List Nat)).getD i []) [18, 19] (EL [Ent.val (.pointer (some ⟨L.p, 0, none⟩)), Ent.val (.pointer (some ⟨L.p, 0, none⟩)), Ent.val (.pointer (some ⟨L.p, 3, none⟩)), Ent.val (.agg #[.int .i64 s.m.old.base, .int .i64 s.m.old.limit, .slice L.A1 s.m.old.ws.length L.c1, .int .i64 s.m.yng.base, .int .i64 s.m.yng.limit, .slice L.A2 s.m.yng.ws.length L.c2]), Ent.val (.pointer (some ⟨L.p, 0, none⟩)), Ent.val (.pointer (some ⟨L.p, 0, none⟩)), Ent.val (.pointer (some ⟨L.p, 9, none⟩)), Ent.val (.agg #[.slice L.Ac s.cs.length L.cc]), Ent.val (.pointer (some ⟨L.p, 0, none⟩)), Ent.val (.pointer (some ⟨w.heap.size, 4, none⟩)), Ent.val (.int .i64 a), Ent.val (.int .i64 (objAt s.xs a)), Ent.val (.pointer (some ⟨w.heap.size, 6, none⟩)), Ent.val (.int .i64 i), Ent.val (.int .u64 vw), Ent.of (RBsT w2.heap.size L.A1 L.A2 L.Ac er m2 cs2) RBsT.below (newC w2.heap.size), Ent.same 15 (RBsT w2.heap.size L.A1 L.A2 L.Ac er m2 cs2) RBsT.below, Ent.ext 16 0, Ent.ext 16 1, Ent.ext 16 2, Ent.blk 37 #[.int .i64 0, .int .i64 0, .slice none 0 0, .int .i64 0, .int .i64 0, .slice none 0 0], Ent.blk 39 #[.slice none 0 0]]) (by kernel_rfl) (by kernel_rfl) (by kernel_rfl) (by kernel_rfl) (by kernel_rfl) (by rfl) ?_ ?_
      · intro i hi o ho vs w3 hb1 hgr
        rcases (show i = 0 ∨ i = 1 ∨ i = 2 ∨ i = 3 ∨ i = 4 ∨ i = 5 ∨ i = 6 ∨ i = 7 ∨ i = 8 ∨ i = 9 ∨ i = 10 ∨ i = 11 ∨ i = 12 ∨ i = 13 ∨ i = 14 ∨ i = 15 ∨ i = 16 ∨ i = 17 ∨ i = 18 ∨ i = 19 ∨ i = 20 ∨ i = 21 by omega) with rfl | rfl | rfl | rfl | rfl | rfl | rfl | rfl | rfl | rfl | rfl | rfl | rfl | rfl | rfl | rfl | rfl | rfl | rfl | rfl | rfl | rfl <;> cases ho
        · clear hgr
          change Made _ (Adds _ _ _) (Sem.run _ (execOp (Act.eval (frm _ _ _ [])) _) _)
          simp only [frm]
          go_simp
          exact adds_val rfl
        · have h0 : vs 0 = _ := hgr 0 (by decide)
          clear hgr
          change Made _ (Adds _ _ _) (Sem.run _ (execOp (Act.eval (Act.put (frm _ _ _ []) (some 136) (vs 0))) _) _)
          simp only [frm, h0]
          go_simp
          exact adds_val rfl
        · have h1 : vs 1 = _ := hgr 1 (by decide)
          clear hgr
          change Made _ (Adds _ _ _) (Sem.run _ (execOp (Act.eval (Act.put (frm _ _ _ []) (some 137) (vs 1))) _) _)
          simp only [frm, h1]
          go_simp
          exact adds_val rfl
        · have h2 : vs 2 = _ := hgr 2 (by decide)
          clear hgr
          change Made _ (Adds _ _ _) (Sem.run _ (execOp (Act.eval (Act.put (frm _ _ _ []) (some 138) (vs 2))) _) _)
          simp only [frm, h2]
          have hbk := HP2.out.below hb1 HP2.out.lt
          have c0 : w3.cell? ⟨L.p, 3, none⟩ = some (.int .i64 s.m.old.base) := hbk.cell 3
          have c1 : w3.cell? ⟨L.p, 4, none⟩ = some (.int .i64 s.m.old.limit) := hbk.cell 4
          have c2 : w3.cell? ⟨L.p, 5, none⟩ = some (.slice L.A1 s.m.old.ws.length L.c1) := hbk.cell 5
          have c3 : w3.cell? ⟨L.p, 6, none⟩ = some (.int .i64 s.m.yng.base) := hbk.cell 6
          have c4 : w3.cell? ⟨L.p, 7, none⟩ = some (.int .i64 s.m.yng.limit) := hbk.cell 7
          have c5 : w3.cell? ⟨L.p, 8, none⟩ = some (.slice L.A2 s.m.yng.ws.length L.c2) := hbk.cell 8
          clear hbk
          go_simp
          exact adds_val rfl
        · clear hgr
          change Made _ (Adds _ _ _) (Sem.run _ (execOp (Act.eval (frm _ _ _ [])) _) _)
          simp only [frm]
          go_simp
          exact adds_val rfl
        · have h4 : vs 4 = _ := hgr 4 (by decide)
          clear hgr
          change Made _ (Adds _ _ _) (Sem.run _ (execOp (Act.eval (Act.put (frm _ _ _ []) (some 140) (vs 4))) _) _)
          simp only [frm, h4]
          go_simp
          exact adds_val rfl
        · have h5 : vs 5 = _ := hgr 5 (by decide)
          clear hgr
          change Made _ (Adds _ _ _) (Sem.run _ (execOp (Act.eval (Act.put (frm _ _ _ []) (some 141) (vs 5))) _) _)
          simp only [frm, h5]
          go_simp
          exact adds_val rfl
        · have h6 : vs 6 = _ := hgr 6 (by decide)
          clear hgr
          change Made _ (Adds _ _ _) (Sem.run _ (execOp (Act.eval (Act.put (frm _ _ _ []) (some 142) (vs 6))) _) _)
          simp only [frm, h6]
          have hbk := HP2.out.below hb1 HP2.out.lt
          have c0 : w3.cell? ⟨L.p, 9, none⟩ = some (.slice L.Ac s.cs.length L.cc) := hbk.cell 9
          clear hbk
          go_simp
          exact adds_val rfl
        · clear hgr
          change Made _ (Adds _ _ _) (Sem.run _ (execOp (Act.eval (frm _ _ _ [])) _) _)
          simp only [frm]
          go_simp
          exact adds_val rfl
        · clear hgr
          change Made _ (Adds _ _ _) (Sem.run _ (execOp (Act.eval (frm _ _ _ [])) _) _)
          simp only [frm]
          go_simp
          exact adds_val rfl
        · have h9 : vs 9 = _ := hgr 9 (by decide)
          clear hgr
          change Made _ (Adds _ _ _) (Sem.run _ (execOp (Act.eval (Act.put (frm _ _ _ []) (some 145) (vs 9))) _) _)
          simp only [frm, h9]
          have hbk := HQ2.out.below hb1 HQ2.out.lt
          have c0 : w3.cell? ⟨w.heap.size, 4, none⟩ = some (.int .i64 a) := hbk.cell 4
          clear hbk
          go_simp
          exact adds_val rfl
        · have h8 : vs 8 = _ := hgr 8 (by decide)
          have h10 : vs 10 = _ := hgr 10 (by decide)
          clear hgr
          change Made _ (Adds _ _ _) (Sem.run _ (execOp (Act.eval (Act.put (Act.put (frm _ _ _ []) (some 146) (vs 10)) (some 144) (vs 8))) _) _)
          simp only [frm, h8, h10]
          go_simp
          exact adds_quiet (cO2 hb1)
        · clear hgr
          change Made _ (Adds _ _ _) (Sem.run _ (execOp (Act.eval (frm _ _ _ [])) _) _)
          simp only [frm]
          go_simp
          exact adds_val rfl
        · have h12 : vs 12 = _ := hgr 12 (by decide)
          clear hgr
          change Made _ (Adds _ _ _) (Sem.run _ (execOp (Act.eval (Act.put (frm _ _ _ []) (some 148) (vs 12))) _) _)
          simp only [frm, h12]
          have hbk := HQ2.out.below hb1 HQ2.out.lt
          have c0 : w3.cell? ⟨w.heap.size, 6, none⟩ = some (.int .i64 i) := hbk.cell 6
          clear hbk
          go_simp
          exact adds_val rfl
        · clear hgr
          change Made _ (Adds _ _ _) (Sem.run _ (execOp (Act.eval (frm _ _ _ [])) _) _)
          simp only [frm]
          go_simp
          exact adds_val rfl
        · have h3 : vs 3 = _ := hgr 3 (by decide)
          have h7 : vs 7 = _ := hgr 7 (by decide)
          have h11 : vs 11 = _ := hgr 11 (by decide)
          have h13 : vs 13 = _ := hgr 13 (by decide)
          have h14 : vs 14 = _ := hgr 14 (by decide)
          clear hgr
          change Made _ (Adds _ _ _) (Sem.run _ (execOp (Act.eval (Act.put (Act.put (Act.put (Act.put (Act.put (frm _ _ _ []) (some 150) (vs 14)) (some 149) (vs 13)) (some 147) (vs 11)) (some 143) (vs 7)) (some 139) (vs 3))) _) _)
          simp only [frm, h3, h7, h11, h13, h14]
          go_simp
          refine adds_call (T := RBsT w2.heap.size L.A1 L.A2 L.Ac er m2 cs2) (hT := RBsT.below) (ob := newC w2.heap.size) (cR hb1) ?_
          rintro e w4 ⟨A1, c1, A2, c2, A, c, rfl, hm, hc, hb, n1, n2, n3⟩
          exact ⟨_, rfl, ⟨A1, c1, A2, c2, A, c, rfl, hm, hc, n1.mono hb1.size, n2.mono hb1.size, n3.mono hb1.size⟩, hb, fun k hk => newC_ok n3 H2.out.rc rfl hc (.inl hk)⟩
        · obtain ⟨A1, c1, A2, c2, A, c, h15, hm3, hc3, n1, n2, n3⟩ := hgr 15 (by decide)
          clear hgr
          change Made _ (Adds _ _ _) (Sem.run _ (execOp (Act.eval (Act.put (frm _ _ _ []) (some 151) (vs 15))) _) _)
          simp only [frm, h15]
          go_simp
          rw [← h15]
          exact adds_same (hT := RBsT.below) ⟨A1, c1, A2, c2, A, c, h15, hm3, hc3, n1, n2, n3⟩
        · obtain ⟨h16e, A1, c1, A2, c2, A, c, h16, hm3, hc3, n1, n2, n3⟩ := hgr 16 (by decide)
          clear hgr
          change Made _ (Adds _ _ _) (Sem.run _ (execOp (Act.eval (Act.put (frm _ _ _ []) (some 135) (vs 16))) _) _)
          simp only [frm, h16]
          go_simp
          exact adds_ext h16 rfl
        · obtain ⟨h16e, A1, c1, A2, c2, A, c, h16, hm3, hc3, n1, n2, n3⟩ := hgr 16 (by decide)
          clear hgr
          change Made _ (Adds _ _ _) (Sem.run _ (execOp (Act.eval (Act.put (frm _ _ _ []) (some 135) (vs 16))) _) _)
          simp only [frm, h16]
          go_simp
          exact adds_ext h16 rfl
        · obtain ⟨h16e, A1, c1, A2, c2, A, c, h16, hm3, hc3, n1, n2, n3⟩ := hgr 16 (by decide)
          clear hgr
          change Made _ (Adds _ _ _) (Sem.run _ (execOp (Act.eval (Act.put (frm _ _ _ []) (some 135) (vs 16))) _) _)
          simp only [frm, h16]
          go_simp
          exact adds_ext h16 rfl
        · clear hgr
          change Made _ (Adds _ _ _) (Sem.run _ (execOp (Act.eval (frm _ _ _ [])) _) _)
          simp only [frm]
          go_simp
          exact adds_blk
        · clear hgr
          change Made _ (Adds _ _ _) (Sem.run _ (execOp (Act.eval (frm _ _ _ [])) _) _)
          simp only [frm]
          go_simp
          exact adds_blk
      · intro vs w3 hb1 hall hap
        obtain ⟨A1, c1, A2, c2, A, c, h15, hm3, hc3, n1, n2, n3⟩ := (hall 15 (by omega)).1
        obtain ⟨⟨g20, h20, k20⟩, q20⟩ := hall 20 (by omega)
        have r20 : w2.heap.size ≤ g20 ∧ g20 < w3.heap.size := q20 g20 (by rw [h20]; rfl)
        clear q20
        obtain ⟨⟨g21, h21, k21⟩, q21⟩ := hall 21 (by omega)
        have r21 : w2.heap.size ≤ g21 ∧ g21 < w3.heap.size := q21 g21 (by rw [h21]; rfl)
        clear q21
        have h16e := (hall 16 (by omega)).1.1
        have far20 := newC_far r20.1 (.inl (h15 ▸ fun h => hap 15 (by omega) 20 (by omega) (by decide) g20 h (by rw [h20]; rfl)))
        have far21 := newC_far r21.1 (.inl (h15 ▸ fun h => hap 15 (by omega) 21 (by omega) (by decide) g21 h (by rw [h21]; rfl)))
        have h17 : vs 17 = .agg #[.int .i64 m2.old.base, .int .i64 m2.old.limit, .slice A1 m2.old.ws.length c1, .int .i64 m2.yng.base, .int .i64 m2.yng.limit, .slice A2 m2.yng.ws.length c2] := ext_eq (hall 17 (by omega)).1 (h16e.trans h15) rfl
        have h18 : vs 18 = .agg #[.slice A cs2.length c] := ext_eq (hall 18 (by omega)).1 (h16e.trans h15) rfl
        have h19 : vs 19 = .int .i64 er := ext_eq (hall 19 (by omega)).1 (h16e.trans h15) rfl
        clear hall hap
        change wpList _ _ _ [_, _, _] (Act.put (Act.put (Act.put (Act.put (Act.put (Act.put (Act.put (Act.put (Act.put (Act.put (Act.put (Act.put (Act.put (Act.put (Act.put (Act.put (Act.put (Act.put (Act.put (Act.put (Act.put (Act.put (frm _ _ _ []) (some 15) (vs 21)) (some 14) (vs 20)) (some 154) (vs 19)) (some 153) (vs 18)) (some 152) (vs 17)) (some 135) (vs 16)) (some 151) (vs 15)) (some 150) (vs 14)) (some 149) (vs 13)) (some 148) (vs 12)) (some 147) (vs 11)) (some 146) (vs 10)) (some 145) (vs 9)) (some 144) (vs 8)) (some 143) (vs 7)) (some 142) (vs 6)) (some 141) (vs 5)) (some 140) (vs 4)) (some 139) (vs 3)) (some 138) (vs 2)) (some 137) (vs 1)) (some 136) (vs 0)) _
        simp only [frm, h15, h17, h18, h19, h20, h21]
        have hne : g20 ≠ g21 := Bk.ne k20 k21 (by decide)
        have hlp : L.p < w2.heap.size := HP2.out.lt
        have HM3 := Lib.hid hm3
        have HC3 := Lib.hid hc3
        have HN := Lib.hid (And.intro n1 (And.intro n2 n3))
        have HF := Lib.hid (And.intro far20 far21)
        have HB3 := Lib.hid hb1
        have K20 := Lib.hid k20
        have K21 := Lib.hid k21
        clear hm3 hc3 n1 n2 n3 far20 far21 h16e h15 h17 h18 h19 h20 h21 cO2 cR
        have z0 : w3.cell? ⟨g20, 0, none⟩ = some (.int .i64 0) := k20.cell 0
        have zf0 : w3.frozen? ⟨g20, 0, none⟩ = false := k20.free 0
        have z1 : w3.cell? ⟨g20, 1, none⟩ = some (.int .i64 0) := k20.cell 1
        have zf1 : w3.frozen? ⟨g20, 1, none⟩ = false := k20.free 1
        have z2 : w3.cell? ⟨g20, 2, none⟩ = some (.slice none 0 0) := k20.cell 2
        have zf2 : w3.frozen? ⟨g20, 2, none⟩ = false := k20.free 2
        have z3 : w3.cell? ⟨g20, 3, none⟩ = some (.int .i64 0) := k20.cell 3
        have zf3 : w3.frozen? ⟨g20, 3, none⟩ = false := k20.free 3
        have z4 : w3.cell? ⟨g20, 4, none⟩ = some (.int .i64 0) := k20.cell 4
        have zf4 : w3.frozen? ⟨g20, 4, none⟩ = false := k20.free 4
        have z5 : w3.cell? ⟨g20, 5, none⟩ = some (.slice none 0 0) := k20.cell 5
        have zf5 : w3.frozen? ⟨g20, 5, none⟩ = false := k20.free 5
        have y0 : w3.cell? ⟨g21, 0, none⟩ = some (.slice none 0 0) := k21.cell 0
        have yf0 : w3.frozen? ⟨g21, 0, none⟩ = false := k21.free 0
        clear hb1 k20 k21
        go_wp2_with fail
        rw [onlyN_normal]
        have b20 : Bk (((((((w3.setCell ⟨g20, 0, none⟩ (.int .i64 m2.old.base)).setCell ⟨g20, 1, none⟩ (.int .i64 m2.old.limit)).setCell ⟨g20, 2, none⟩ (.slice A1 m2.old.ws.length c1)).setCell ⟨g20, 3, none⟩ (.int .i64 m2.yng.base)).setCell ⟨g20, 4, none⟩ (.int .i64 m2.yng.limit)).setCell ⟨g20, 5, none⟩ (.slice A2 m2.yng.ws.length c2)).setCell ⟨g21, 0, none⟩ (.slice A cs2.length c)) g20 37 #[.int .i64 m2.old.base, .int .i64 m2.old.limit, .slice A1 m2.old.ws.length c1, .int .i64 m2.yng.base, .int .i64 m2.yng.limit, .slice A2 m2.yng.ws.length c2] := (K20.out.set6 0 (.int .i64 m2.old.base) (.int .i64 m2.old.limit) (.slice A1 m2.old.ws.length c1) (.int .i64 m2.yng.base) (.int .i64 m2.yng.limit) (.slice A2 m2.yng.ws.length c2)).far hne _
        have b21 : Bk (((((((w3.setCell ⟨g20, 0, none⟩ (.int .i64 m2.old.base)).setCell ⟨g20, 1, none⟩ (.int .i64 m2.old.limit)).setCell ⟨g20, 2, none⟩ (.slice A1 m2.old.ws.length c1)).setCell ⟨g20, 3, none⟩ (.int .i64 m2.yng.base)).setCell ⟨g20, 4, none⟩ (.int .i64 m2.yng.limit)).setCell ⟨g20, 5, none⟩ (.slice A2 m2.yng.ws.length c2)).setCell ⟨g21, 0, none⟩ (.slice A cs2.length c)) g21 39 #[.slice A cs2.length c] := (K21.out.far6 (Ne.symm hne) 0 (.int .i64 m2.old.base) (.int .i64 m2.old.limit) (.slice A1 m2.old.ws.length c1) (.int .i64 m2.yng.base) (.int .i64 m2.yng.limit) (.slice A2 m2.yng.ws.length c2)).set 0 _
        have bp : Bk (((((((w3.setCell ⟨g20, 0, none⟩ (.int .i64 m2.old.base)).setCell ⟨g20, 1, none⟩ (.int .i64 m2.old.limit)).setCell ⟨g20, 2, none⟩ (.slice A1 m2.old.ws.length c1)).setCell ⟨g20, 3, none⟩ (.int .i64 m2.yng.base)).setCell ⟨g20, 4, none⟩ (.int .i64 m2.yng.limit)).setCell ⟨g20, 5, none⟩ (.slice A2 m2.yng.ws.length c2)).setCell ⟨g21, 0, none⟩ (.slice A cs2.length c)) L.p 41 (L.cells s.m s.cs s.xs) := ((HP2.out.below HB3.out hlp).far6 (by omega) 0 (.int .i64 m2.old.base) (.int .i64 m2.old.limit) (.slice A1 m2.old.ws.length c1) (.int .i64 m2.yng.base) (.int .i64 m2.yng.limit) (.slice A2 m2.yng.ws.length c2)).far (by show L.p ≠ g21; omega) _
        have kp : Kp (fun g => g = g20 ∨ g = g21) w3 (((((((w3.setCell ⟨g20, 0, none⟩ (.int .i64 m2.old.base)).setCell ⟨g20, 1, none⟩ (.int .i64 m2.old.limit)).setCell ⟨g20, 2, none⟩ (.slice A1 m2.old.ws.length c1)).setCell ⟨g20, 3, none⟩ (.int .i64 m2.yng.base)).setCell ⟨g20, 4, none⟩ (.int .i64 m2.yng.limit)).setCell ⟨g20, 5, none⟩ (.slice A2 m2.yng.ws.length c2)).setCell ⟨g21, 0, none⟩ (.slice A cs2.length c)) := (Kp.set6 (Kp.refl _ _) (.inl rfl) 0 (.int .i64 m2.old.base) (.int .i64 m2.old.limit) (.slice A1 m2.old.ws.length c1) (.int .i64 m2.yng.base) (.int .i64 m2.yng.limit) (.slice A2 m2.yng.ws.length c2)).set1 _ (.inr rfl) _
        have hbw : Below w2.heap.size w2 (((((((w3.setCell ⟨g20, 0, none⟩ (.int .i64 m2.old.base)).setCell ⟨g20, 1, none⟩ (.int .i64 m2.old.limit)).setCell ⟨g20, 2, none⟩ (.slice A1 m2.old.ws.length c1)).setCell ⟨g20, 3, none⟩ (.int .i64 m2.yng.base)).setCell ⟨g20, 4, none⟩ (.int .i64 m2.yng.limit)).setCell ⟨g20, 5, none⟩ (.slice A2 m2.yng.ws.length c2)).setCell ⟨g21, 0, none⟩ (.slice A cs2.length c)) := kp.toBelow HB3.out HB3.out.size fun k hk => by rcases hk with rfl | rfl <;> omega
        obtain ⟨w4, hw4⟩ : ∃ w4, (((((((w3.setCell ⟨g20, 0, none⟩ (.int .i64 m2.old.base)).setCell ⟨g20, 1, none⟩ (.int .i64 m2.old.limit)).setCell ⟨g20, 2, none⟩ (.slice A1 m2.old.ws.length c1)).setCell ⟨g20, 3, none⟩ (.int .i64 m2.yng.base)).setCell ⟨g20, 4, none⟩ (.int .i64 m2.yng.limit)).setCell ⟨g20, 5, none⟩ (.slice A2 m2.yng.ws.length c2)).setCell ⟨g21, 0, none⟩ (.slice A cs2.length c)) = w4 := ⟨_, rfl⟩
        rw [hw4] at b20 b21 bp kp hbw ⊢
        have hm4 := HM3.out.kpA kp (Away.two (HM3.out.o.away K20.out rfl) (HM3.out.o.away K21.out rfl)) (Away.two (HM3.out.y.away K20.out rfl) (HM3.out.y.away K21.out rfl))
        have hc4 := HC3.out.kp kp (fun b o e hs => hs.elim (HF.out.1 b o e) (HF.out.2 b o e))
        have HM4 := Lib.hid hm4
        have HC4 := Lib.hid hc4
        have HB4 := Lib.hid hbw
        have BP := Lib.hid bp
        clear hw4 hm4 hc4 kp hbw z0 zf0 z1 zf1 z2 zf2 z3 zf3 z4 zf4 z5 zf5 y0 yf0
        have n0 : w4.cell? ⟨g20, 0, none⟩ = some (.int .i64 m2.old.base) := b20.cell 0
        have n1 : w4.cell? ⟨g20, 1, none⟩ = some (.int .i64 m2.old.limit) := b20.cell 1
        have n2 : w4.cell? ⟨g20, 2, none⟩ = some (.slice A1 m2.old.ws.length c1) := b20.cell 2
        have n3 : w4.cell? ⟨g20, 3, none⟩ = some (.int .i64 m2.yng.base) := b20.cell 3
        have n4 : w4.cell? ⟨g20, 4, none⟩ = some (.int .i64 m2.yng.limit) := b20.cell 4
        have n5 : w4.cell? ⟨g20, 5, none⟩ = some (.slice A2 m2.yng.ws.length c2) := b20.cell 5
        have d0 : w4.cell? ⟨g21, 0, none⟩ = some (.slice A cs2.length c) := b21.cell 0
        have q0 : w4.cell? ⟨L.p, 3, none⟩ = some (.int .i64 s.m.old.base) := bp.cell 3
        have qf0 : w4.frozen? ⟨L.p, 3, none⟩ = false := bp.free 3
        have q1 : w4.cell? ⟨L.p, 4, none⟩ = some (.int .i64 s.m.old.limit) := bp.cell 4
        have qf1 : w4.frozen? ⟨L.p, 4, none⟩ = false := bp.free 4
        have q2 : w4.cell? ⟨L.p, 5, none⟩ = some (.slice L.A1 s.m.old.ws.length L.c1) := bp.cell 5
        have qf2 : w4.frozen? ⟨L.p, 5, none⟩ = false := bp.free 5
        have q3 : w4.cell? ⟨L.p, 6, none⟩ = some (.int .i64 s.m.yng.base) := bp.cell 6
        have qf3 : w4.frozen? ⟨L.p, 6, none⟩ = false := bp.free 6
        have q4 : w4.cell? ⟨L.p, 7, none⟩ = some (.int .i64 s.m.yng.limit) := bp.cell 7
        have qf4 : w4.frozen? ⟨L.p, 7, none⟩ = false := bp.free 7
        have q5 : w4.cell? ⟨L.p, 8, none⟩ = some (.slice L.A2 s.m.yng.ws.length L.c2) := bp.cell 8
        have qf5 : w4.frozen? ⟨L.p, 8, none⟩ = false := bp.free 8
        have q6 : w4.cell? ⟨L.p, 9, none⟩ = some (.slice L.Ac s.cs.length L.cc) := bp.cell 9
        have qf6 : w4.frozen? ⟨L.p, 9, none⟩ = false := bp.free 9
        clear b20 b21 bp
        go_wp2_with fail
        go_region
        go_wp2_with fail
        have HS : s.step ⟨2, hd, a, b, i, x, r⟩ = ⟨m2, cs2, s.xs⟩ := by
          unfold St.step
          rw [if_neg (show ¬ ((2 : Int) = 0) by decide)]
          rw [if_neg (show ¬ ((2 : Int) = 1) by decide)]
          rw [if_pos rfl, ← HVW.out, HR.out]
        have hE := H2.out.end7 HB2.out hB HB4.out BP.out HM4.out HC4.out HN.out rfl
        go_ret
        rw [HS]
        exact ⟨rfl, hE⟩
end
end Go.Proofs.YtaecdpijpdfboaaGreat
