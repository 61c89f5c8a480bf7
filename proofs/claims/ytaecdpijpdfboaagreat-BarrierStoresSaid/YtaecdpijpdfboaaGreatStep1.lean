/- The law's world: step, kind 1. (printed by gen/step.py) -/
import Derived.Test.YtaecdpijpdfboaaGreatStepH
namespace Go.Proofs.YtaecdpijpdfboaaGreat
set_option linter.unusedVariables false
set_option linter.unusedSimpArgs false
set_option linter.unusedSectionVars false
open Go.RowKit Go.Sort Go.Shelf
attribute [local go_sem] Oper.semAt_some onlyN_normal
set_option maxRecDepth 100000
section
variable {w : World} {B k : Nat} {L : LP} {s : St}
set_option maxHeartbeats 4000000 in
theorem step_1 (h : LW w B L k s.m s.cs s.xs) (hx : s.xs.length ≤ 1000000) (hc : s.cs.length ≤ 100000) (hkb : k < 1000000) (hB : B ≤ w.heap.size) (hd : Hdr) (a b i x : Int) (r : Bool) (ho : (OpV.mk 1 hd a b i x r).Ok) : Calls Tryz.prog 15 #[.pointer (some ⟨L.p, 0, none⟩), .agg (OpV.mk 1 hd a b i x r).cells] w (StepP w B L k (s.step ⟨1, hd, a, b, i, x, r⟩)) := by
  have hb1 : Below w.heap.size w (w.alloc (.cells #[.int .u8 1, .int .i64 hd.k, .int .i64 hd.c, .int .i64 hd.f, .int .i64 a, .int .i64 b, .int .i64 i, .int .u64 x, .bool r] 53)) := (Below.refl _ w).alloc (Nat.le_refl _) _
  have hq1 : Bk (w.alloc (.cells #[.int .u8 1, .int .i64 hd.k, .int .i64 hd.c, .int .i64 hd.f, .int .i64 a, .int .i64 b, .int .i64 i, .int .u64 x, .bool r] 53)) w.heap.size 53 #[.int .u8 1, .int .i64 hd.k, .int .i64 hd.c, .int .i64 hd.f, .int .i64 a, .int .i64 b, .int .i64 i, .int .u64 x, .bool r] := Bk.new _ _ _
  have cO1 := fun n a ha => object_any ((h.below hb1).drewN n) hx a ha
  have HA : Hid (-9223372036854775808 ≤ a ∧ a ≤ 9223372036854775807) := Lib.hid ⟨ho.a0, ho.a1⟩
  have HBb : Hid (-9223372036854775808 ≤ b ∧ b ≤ 9223372036854775807) := Lib.hid ⟨ho.b0, ho.b1⟩
  have HX0 := Lib.hid ho.w
  have H := Lib.hid h
  have HB1 := Lib.hid hb1
  have HQ1 := Lib.hid hq1
  have HXS := Lib.hid hx
  have HCS := Lib.hid hc
  have HKB := Lib.hid hkb
  obtain ⟨vw, hvw⟩ : ∃ vw, vw = OpV.word ⟨1, hd, a, b, i, x, r⟩ s := ⟨_, rfl⟩
  have HVW := Lib.hid hvw
  have HVU : Hid (U64 vw) := Lib.hid (by rw [hvw]; exact OpV.word_u ho.w s)
  unfold OpV.cells
  clear ho h hb1 hq1 hvw hx hc hkb
  obtain ⟨i9, hi9, hi0, hi1, hi2⟩ := info_parts i_int
  have HI := Lib.hid (And.intro hi9 (And.intro hi0 (And.intro hi1 hi2)))
  clear hi9 hi0 hi1 hi2
  go_enter Tryz.func15, Tryz.ntmps15
  go_upto_if 35 with fail
  go_cut [5] (fun v wx => v = .int .u64 vw ∧ ∃ n, wx = (w.alloc (.cells #[.int .u8 1, .int .i64 hd.k, .int .i64 hd.c, .int .i64 hd.f, .int .i64 a, .int .i64 b, .int .i64 i, .int .u64 x, .bool r] 53)).drewN n)
  case first =>
    cases r with
    | true =>
      have HW : Hid (vw = frW (max 0 (objAt s.xs b))) := Lib.hid HVW.out
      have cF := fun w => RFromAddress_any (max 0 (objAt s.xs b)) w
      have hmx := fun ts t w => run_max2 (P := Tryz.prog) ts t 0 (objAt s.xs b) w
      go_wp2_with fail
      refine (cO1 0 _ HBb.out).mono ?_
      rintro e w1 ⟨rfl, n, rfl⟩
      clear cO1
      go_wp2_with fail
      refine (cF _).mono ?_
      rintro e w2 ⟨rfl, rfl⟩
      unfold frA
      unfold frW at HW
      cases hin : inA (max 0 (objAt s.xs b)) with
      | true =>
        rw [hin] at HW
        go_wp2_with fail
        go_meet
        case rel => exact ⟨by rw [HW.out]; rfl, n, rfl⟩
      | false =>
        rw [hin] at HW
        go_wp2_with fail
        go_meet
        case rel => exact ⟨by rw [HW.out]; rfl, n, rfl⟩
    | false =>
      have HW : Hid (vw = x) := Lib.hid HVW.out
      go_wp2_with fail
      go_meet
      case rel => exact ⟨by rw [HW.out], 0, rfl⟩
  case rest =>
    obtain ⟨rfl, n, rfl⟩ := hcut
    have h0 := (H.out.below HB1.out).drewN n
    have hb0 := below_drewN HB1.out n
    have hq0 : Bk ((w.alloc (.cells #[.int .u8 1, .int .i64 hd.k, .int .i64 hd.c, .int .i64 hd.f, .int .i64 a, .int .i64 b, .int .i64 i, .int .u64 x, .bool r] 53)).drewN n) w.heap.size 53 #[.int .u8 1, .int .i64 hd.k, .int .i64 hd.c, .int .i64 hd.f, .int .i64 a, .int .i64 b, .int .i64 i, .int .u64 x, .bool r] := HQ1.out
    clear cO1 HB1 HQ1
    obtain ⟨w0, hw0⟩ : ∃ w0, (w.alloc (.cells #[.int .u8 1, .int .i64 hd.k, .int .i64 hd.c, .int .i64 hd.f, .int .i64 a, .int .i64 b, .int .i64 i, .int .u64 x, .bool r] 53)).drewN n = w0 := ⟨_, rfl⟩
    rw [hw0] at h0 hb0 hq0 ⊢
    clear hw0
    have cO := fun {w1 : World} (hb : Below w0.heap.size w0 w1) => object_any (h0.below hb) HXS.out a HA.out
    have H0 := Lib.hid h0
    have HB0 := Lib.hid hb0
    have HQ0 := Lib.hid hq0
    have HP0 := Lib.hid h0.hd
    have f0 : w0.cell? ⟨w.heap.size, 0, none⟩ = some (.int .u8 1) := hq0.cell 0
    clear h0 hb0 hq0
    obtain ⟨Al, cl, hvl, hlc⟩ := own_shape H0.out.l
    have HVL := Lib.hid hvl
    have hxl : s.xs.length ≤ 1000000 := HXS.out
    have qx : w0.cell? ⟨L.p, 10, none⟩ = some (.slice Al s.xs.length cl) := (HP0.out.cell 10).trans (congrArg some hvl)
    have qg1 : w0.cell? ⟨L.p, 0, none⟩ = some (.pointer (some ⟨L.g1, 0, none⟩)) := HP0.out.cell 0
    have qg2 : w0.cell? ⟨L.p, 1, none⟩ = some (.pointer (some ⟨L.g2, 0, none⟩)) := HP0.out.cell 1
    have hlp0 : L.p < w0.heap.size := HP0.out.lt
    have hln0 : L.p ≠ w0.heap.size := by omega
    have hwq : w.heap.size < w0.heap.size := HQ0.out.lt
    have hwn : w.heap.size ≠ w0.heap.size := by omega
    have f0a : w0.cell? ⟨w.heap.size, 0, none⟩ = some (.int .u8 1) := HQ0.out.cell 0
    clear hvl cO
    go_upto_region 11 with fail
    have hbI : Below w0.heap.size w0 (w0.alloc (.cells #[.int .i64 1, .int .i64 (1 + (s.xs.length : Int))] 76)) := (Below.refl _ w0).alloc (Nat.le_refl _) _
    have hI : Bk (w0.alloc (.cells #[.int .i64 1, .int .i64 (1 + (s.xs.length : Int))] 76)) w0.heap.size 76 #[.int .i64 1, .int .i64 (1 + (s.xs.length : Int))] := Bk.new _ _ _
    obtain ⟨w1, hw1⟩ : ∃ w1, w0.alloc (.cells #[.int .i64 1, .int .i64 (1 + (s.xs.length : Int))] 76) = w1 := ⟨_, rfl⟩
    rw [hw1] at hbI hI ⊢
    have H1 := Lib.hid (H0.out.below hbI)
    have HB1 := Lib.hid (HB0.out.trans (hbI.mono HB0.out.size))
    have HQ1 := Lib.hid (HQ0.out.below hbI HQ0.out.lt)
    have HI1 := Lib.hid hI
    have f0 : w1.cell? ⟨w.heap.size, 0, none⟩ = some (.int .u8 1) := HQ1.out.cell 0
    have f1 : w1.cell? ⟨w.heap.size, 1, none⟩ = some (.int .i64 hd.k) := HQ1.out.cell 1
    have f2 : w1.cell? ⟨w.heap.size, 2, none⟩ = some (.int .i64 hd.c) := HQ1.out.cell 2
    have f3 : w1.cell? ⟨w.heap.size, 3, none⟩ = some (.int .i64 hd.f) := HQ1.out.cell 3
    have i0 : w1.cell? ⟨w0.heap.size, 0, none⟩ = some (.int .i64 1) := hI.cell 0
    have i1 : w1.cell? ⟨w0.heap.size, 1, none⟩ = some (.int .i64 (1 + (s.xs.length : Int))) := hI.cell 1
    have cA := SAlloc_any H1.out.mr.y (Nat.le_trans hB HB1.out.size) hd ⟨1, 1 + (s.xs.length : Int)⟩
    unfold Hdr.val Id.val at cA
    clear hw1 hbI hI
    go_wp2_with fail
    refine cA.mono ?_
    rintro e w2 ⟨rfl, ⟨V2, hs2, hv2⟩, hk2⟩
    clear cA
    unfold alcV
    obtain ⟨er, sp2, ad, hr⟩ : ∃ er sp2 ad, s.m.yng.alloc hd ⟨1, 1 + (s.xs.length : Int)⟩ = (er, sp2, ad) := ⟨_, _, _, rfl⟩
    rw [hr] at hs2 ⊢
    have hmr : s.m.alloc true hd ⟨1, 1 + (s.xs.length : Int)⟩ = (er, { s.m with yng := sp2 }, ad) := by unfold Mm.alloc; first | rw [if_pos rfl, hr] | rw [if_neg (by decide), hr]
    have hok : Mm.Ok { s.m with yng := sp2 } := by have := H.out.mr.ok.alloc true hd ⟨1, 1 + (s.xs.length : Int)⟩; rw [hmr] at this; exact this
    have h2 := H1.out.progYng hs2 hv2 hok hk2
    have HB2 := Lib.hid (hk2.toBelow (HB1.out.mono hB) (Nat.le_trans hB HB1.out.size) (fun q hq => hq.elim (fun e => by rw [e]; exact H1.out.mr.y.ge) (fun e => (H1.out.mr.y.own.lt q e).1)))
    have HQ2 := Lib.hid (HQ1.out.kp hk2 (fun e => e.elim (fun e => Bk.ne HQ1.out H1.out.mr.y.hd (by decide) e) (fun e => H1.out.mr.y.own_ne HQ1.out (by decide) e)))
    have HI2 := Lib.hid (HI1.out.kp hk2 (fun e => e.elim (fun e => Bk.ne HI1.out H1.out.mr.y.hd (by decide) e) (fun e => H1.out.mr.y.own_ne HI1.out (by decide) e)))
    obtain ⟨m2, hm2⟩ : ∃ m2, m2 = ({ s.m with yng := sp2 } : Mm) := ⟨_, rfl⟩
    rw [← hm2] at hmr hok h2
    have HP2 : Hid (Bk w2 L.p 41 (L.cells s.m s.cs s.xs)) := Lib.hid h2.hd
    have H2 := Lib.hid h2
    have HR := Lib.hid hmr
    have HM2 := Lib.hid (And.intro hm2 hr)
    have cR := fun {w1 : World} (hb : Below w2.heap.size w2 w1) => RMAlloc_any (h2.below hb).rm true hd ⟨1, 1 + (s.xs.length : Int)⟩
    simp only [hmr] at cR
    unfold rmV Hdr.val Id.val at cR
    have HOK := Lib.hid hok
    clear hs2 hv2 hk2 hr hmr hok h2 hm2 qx qg1 qg2 f0 f1 f2 f3 i0 i1 hln0 hwn f0a
    go_upto_region 12 with fail
    refine wp_region_addsF0 16 (fun i => ([[], [0], [1], [2], [], [4], [5], [], [7], [], [3, 6, 8, 9], [10], [11], [11], [11], []] : List (List Nat)).getD i []) [13, 14] (EL [Ent.val (.pointer (some ⟨L.p, 0, none⟩)), Ent.val (.pointer (some ⟨L.p, 0, none⟩)), Ent.val (.pointer (some ⟨L.p, 3, none⟩)), Ent.val (.agg #[.int .i64 s.m.old.base, .int .i64 s.m.old.limit, .slice L.A1 s.m.old.ws.length L.c1, .int .i64 s.m.yng.base, .int .i64 s.m.yng.limit, .slice L.A2 s.m.yng.ws.length L.c2]), Ent.val (.pointer (some ⟨w.heap.size, 0, none⟩)), Ent.val (.int .u8 1), Ent.val (.bool true), Ent.val (.pointer (some ⟨w.heap.size, 1, none⟩)), Ent.val (.agg #[.int .i64 hd.k, .int .i64 hd.c, .int .i64 hd.f]), Ent.val (.agg #[.int .i64 1, .int .i64 (1 + (s.xs.length : Int))]), Ent.of (RMaT w2.heap.size L.A1 L.A2 er ad m2) RMaT.below, Ent.same 10 (RMaT w2.heap.size L.A1 L.A2 er ad m2) RMaT.below, Ent.ext 11 0, Ent.ext 11 1, Ent.ext 11 2, Ent.blk 37 #[.int .i64 0, .int .i64 0, .slice none 0 0, .int .i64 0, .int .i64 0, .slice none 0 0]]) (by kernel_rfl) (by kernel_rfl) (by kernel_rfl) (by kernel_rfl) (by kernel_rfl) (by rfl) ?_ ?_
    · intro i hi o ho vs w3 hb1 hgr
      rcases (show i = 0 ∨ i = 1 ∨ i = 2 ∨ i = 3 ∨ i = 4 ∨ i = 5 ∨ i = 6 ∨ i = 7 ∨ i = 8 ∨ i = 9 ∨ i = 10 ∨ i = 11 ∨ i = 12 ∨ i = 13 ∨ i = 14 ∨ i = 15 by omega) with rfl | rfl | rfl | rfl | rfl | rfl | rfl | rfl | rfl | rfl | rfl | rfl | rfl | rfl | rfl | rfl <;> cases ho
      · clear hgr
        change Made _ (Adds _ _ _) (Sem.run _ (execOp (Act.eval (frm _ _ _ [])) _) _)
        simp only [frm]
        go_simp
        exact adds_val rfl
      · have h0 : vs 0 = _ := hgr 0 (by decide)
        clear hgr
        change Made _ (Adds _ _ _) (Sem.run _ (execOp (Act.eval (Act.put (frm _ _ _ []) (some 79) (vs 0))) _) _)
        simp only [frm, h0]
        go_simp
        exact adds_val rfl
      · have h1 : vs 1 = _ := hgr 1 (by decide)
        clear hgr
        change Made _ (Adds _ _ _) (Sem.run _ (execOp (Act.eval (Act.put (frm _ _ _ []) (some 80) (vs 1))) _) _)
        simp only [frm, h1]
        go_simp
        exact adds_val rfl
      · have h2 : vs 2 = _ := hgr 2 (by decide)
        clear hgr
        change Made _ (Adds _ _ _) (Sem.run _ (execOp (Act.eval (Act.put (frm _ _ _ []) (some 81) (vs 2))) _) _)
        simp only [frm, h2]
        have hbk := HP2.out.below hb1 HP2.out.lt
        have c0 : w3.cell? ⟨L.p, 3, none⟩ = some (.int .i64 s.m.old.base) := hbk.cell 3
        have c1 : w3.cell? ⟨L.p, 4, none⟩ = some (.int .i64 s.m.old.limit) := hbk.cell 4
        have c2 : w3.cell? ⟨L.p, 5, none⟩ = some (.slice L.A1 s.m.old.ws.length L.c1) := hbk.cell 5
        have c3 : w3.cell? ⟨L.p, 6, none⟩ = some (.int .i64 s.m.yng.base) := hbk.cell 6
        have c4 : w3.cell? ⟨L.p, 7, none⟩ = some (.int .i64 s.m.yng.limit) := hbk.cell 7
        have c5 : w3.cell? ⟨L.p, 8, none⟩ = some (.slice L.A2 s.m.yng.ws.length L.c2) := hbk.cell 8
        clear hbk
        go_simp
        exact adds_val rfl
      · clear hgr
        change Made _ (Adds _ _ _) (Sem.run _ (execOp (Act.eval (frm _ _ _ [])) _) _)
        simp only [frm]
        go_simp
        exact adds_val rfl
      · have h4 : vs 4 = _ := hgr 4 (by decide)
        clear hgr
        change Made _ (Adds _ _ _) (Sem.run _ (execOp (Act.eval (Act.put (frm _ _ _ []) (some 83) (vs 4))) _) _)
        simp only [frm, h4]
        have hbk := HQ2.out.below hb1 HQ2.out.lt
        have c0 : w3.cell? ⟨w.heap.size, 0, none⟩ = some (.int .u8 1) := hbk.cell 0
        clear hbk
        go_simp
        exact adds_val rfl
      · have h5 : vs 5 = _ := hgr 5 (by decide)
        clear hgr
        change Made _ (Adds _ _ _) (Sem.run _ (execOp (Act.eval (Act.put (frm _ _ _ []) (some 84) (vs 5))) _) _)
        simp only [frm, h5]
        go_simp
        exact adds_val rfl
      · clear hgr
        change Made _ (Adds _ _ _) (Sem.run _ (execOp (Act.eval (frm _ _ _ [])) _) _)
        simp only [frm]
        go_simp
        exact adds_val rfl
      · have h7 : vs 7 = _ := hgr 7 (by decide)
        clear hgr
        change Made _ (Adds _ _ _) (Sem.run _ (execOp (Act.eval (Act.put (frm _ _ _ []) (some 86) (vs 7))) _) _)
        simp only [frm, h7]
        have hbk := HQ2.out.below hb1 HQ2.out.lt
        have c0 : w3.cell? ⟨w.heap.size, 1, none⟩ = some (.int .i64 hd.k) := hbk.cell 1
        have c1 : w3.cell? ⟨w.heap.size, 2, none⟩ = some (.int .i64 hd.c) := hbk.cell 2
        have c2 : w3.cell? ⟨w.heap.size, 3, none⟩ = some (.int .i64 hd.f) := hbk.cell 3
        clear hbk
        go_simp
        exact adds_val rfl
      · clear hgr
        change Made _ (Adds _ _ _) (Sem.run _ (execOp (Act.eval (frm _ _ _ [])) _) _)
        simp only [frm]
        have hbk := HI2.out.below hb1 HI2.out.lt
        have c0 : w3.cell? ⟨w0.heap.size, 0, none⟩ = some (.int .i64 1) := hbk.cell 0
        have c1 : w3.cell? ⟨w0.heap.size, 1, none⟩ = some (.int .i64 (1 + (s.xs.length : Int))) := hbk.cell 1
        clear hbk
        go_simp
        exact adds_val rfl
      · have h3 : vs 3 = _ := hgr 3 (by decide)
        have h6 : vs 6 = _ := hgr 6 (by decide)
        have h8 : vs 8 = _ := hgr 8 (by decide)
        have h9 : vs 9 = _ := hgr 9 (by decide)
        clear hgr
        change Made _ (Adds _ _ _) (Sem.run _ (execOp (Act.eval (Act.put (Act.put (Act.put (Act.put (frm _ _ _ []) (some 88) (vs 9)) (some 87) (vs 8)) (some 85) (vs 6)) (some 82) (vs 3))) _) _)
        simp only [frm, h3, h6, h8, h9]
        go_simp
        refine adds_call (T := RMaT w2.heap.size L.A1 L.A2 er ad m2) (hT := RMaT.below) (ob := fun _ => none) (cR hb1) ?_
        rintro e w4 ⟨A1, c1, A2, c2, rfl, hm, hb, n1, n2⟩
        exact ⟨_, rfl, ⟨A1, c1, A2, c2, rfl, hm, n1.mono hb1.size, n2.mono hb1.size⟩, hb, (fun k hk => nomatch hk)⟩
      · obtain ⟨A1, c1, A2, c2, h10, hm3, n1, n2⟩ := hgr 10 (by decide)
        clear hgr
        change Made _ (Adds _ _ _) (Sem.run _ (execOp (Act.eval (Act.put (frm _ _ _ []) (some 89) (vs 10))) _) _)
        simp only [frm, h10]
        go_simp
        rw [← h10]
        exact adds_same (hT := RMaT.below) ⟨A1, c1, A2, c2, h10, hm3, n1, n2⟩
      · obtain ⟨h11e, A1, c1, A2, c2, h11, hm3, n1, n2⟩ := hgr 11 (by decide)
        clear hgr
        change Made _ (Adds _ _ _) (Sem.run _ (execOp (Act.eval (Act.put (frm _ _ _ []) (some 78) (vs 11))) _) _)
        simp only [frm, h11]
        go_simp
        exact adds_ext h11 rfl
      · obtain ⟨h11e, A1, c1, A2, c2, h11, hm3, n1, n2⟩ := hgr 11 (by decide)
        clear hgr
        change Made _ (Adds _ _ _) (Sem.run _ (execOp (Act.eval (Act.put (frm _ _ _ []) (some 78) (vs 11))) _) _)
        simp only [frm, h11]
        go_simp
        exact adds_ext h11 rfl
      · obtain ⟨h11e, A1, c1, A2, c2, h11, hm3, n1, n2⟩ := hgr 11 (by decide)
        clear hgr
        change Made _ (Adds _ _ _) (Sem.run _ (execOp (Act.eval (Act.put (frm _ _ _ []) (some 78) (vs 11))) _) _)
        simp only [frm, h11]
        go_simp
        exact adds_ext h11 rfl
      · clear hgr
        change Made _ (Adds _ _ _) (Sem.run _ (execOp (Act.eval (frm _ _ _ [])) _) _)
        simp only [frm]
        go_simp
        exact adds_blk
    · intro vs w3 hb1 hall hap
      obtain ⟨A1, c1, A2, c2, h10, hm3, n1, n2⟩ := (hall 10 (by omega)).1
      obtain ⟨⟨g15, h15, k15⟩, q15⟩ := hall 15 (by omega)
      have r15 : w2.heap.size ≤ g15 ∧ g15 < w3.heap.size := q15 g15 (by rw [h15]; rfl)
      clear q15
      have h11e := (hall 11 (by omega)).1.1
      have h12 : vs 12 = .agg #[.int .i64 m2.old.base, .int .i64 m2.old.limit, .slice A1 m2.old.ws.length c1, .int .i64 m2.yng.base, .int .i64 m2.yng.limit, .slice A2 m2.yng.ws.length c2] := ext_eq (hall 12 (by omega)).1 (h11e.trans h10) rfl
      have h13 : vs 13 = .int .i64 ad := ext_eq (hall 13 (by omega)).1 (h11e.trans h10) rfl
      have h14 : vs 14 = .int .i64 er := ext_eq (hall 14 (by omega)).1 (h11e.trans h10) rfl
      clear hall hap
      change wpList _ _ _ [_, _, _] (Act.put (Act.put (Act.put (Act.put (Act.put (Act.put (Act.put (Act.put (Act.put (Act.put (Act.put (Act.put (Act.put (Act.put (Act.put (Act.put (frm _ _ _ []) (some 10) (vs 15)) (some 92) (vs 14)) (some 91) (vs 13)) (some 90) (vs 12)) (some 78) (vs 11)) (some 89) (vs 10)) (some 88) (vs 9)) (some 87) (vs 8)) (some 86) (vs 7)) (some 85) (vs 6)) (some 84) (vs 5)) (some 83) (vs 4)) (some 82) (vs 3)) (some 81) (vs 2)) (some 80) (vs 1)) (some 79) (vs 0)) _
      simp only [frm, h10, h12, h13, h14, h15]
      clear cR h11e h10 h12 h13 h14 h15
      have hlp : L.p < w2.heap.size := HP2.out.lt
      have HM3 := Lib.hid hm3
      have HN := Lib.hid (And.intro n1 n2)
      have HB3 := Lib.hid hb1
      have KG := Lib.hid k15
      clear hm3 n1 n2
      have z0 : w3.cell? ⟨g15, 0, none⟩ = some (.int .i64 0) := k15.cell 0
      have zf0 : w3.frozen? ⟨g15, 0, none⟩ = false := k15.free 0
      have z1 : w3.cell? ⟨g15, 1, none⟩ = some (.int .i64 0) := k15.cell 1
      have zf1 : w3.frozen? ⟨g15, 1, none⟩ = false := k15.free 1
      have z2 : w3.cell? ⟨g15, 2, none⟩ = some (.slice none 0 0) := k15.cell 2
      have zf2 : w3.frozen? ⟨g15, 2, none⟩ = false := k15.free 2
      have z3 : w3.cell? ⟨g15, 3, none⟩ = some (.int .i64 0) := k15.cell 3
      have zf3 : w3.frozen? ⟨g15, 3, none⟩ = false := k15.free 3
      have z4 : w3.cell? ⟨g15, 4, none⟩ = some (.int .i64 0) := k15.cell 4
      have zf4 : w3.frozen? ⟨g15, 4, none⟩ = false := k15.free 4
      have z5 : w3.cell? ⟨g15, 5, none⟩ = some (.slice none 0 0) := k15.cell 5
      have zf5 : w3.frozen? ⟨g15, 5, none⟩ = false := k15.free 5
      clear hb1 k15
      go_wp2_with fail
      rw [onlyN_normal]
      have bg : Bk ((((((w3.setCell ⟨g15, 0, none⟩ (.int .i64 m2.old.base)).setCell ⟨g15, 1, none⟩ (.int .i64 m2.old.limit)).setCell ⟨g15, 2, none⟩ (.slice A1 m2.old.ws.length c1)).setCell ⟨g15, 3, none⟩ (.int .i64 m2.yng.base)).setCell ⟨g15, 4, none⟩ (.int .i64 m2.yng.limit)).setCell ⟨g15, 5, none⟩ (.slice A2 m2.yng.ws.length c2)) g15 37 #[.int .i64 m2.old.base, .int .i64 m2.old.limit, .slice A1 m2.old.ws.length c1, .int .i64 m2.yng.base, .int .i64 m2.yng.limit, .slice A2 m2.yng.ws.length c2] := KG.out.set6 0 (.int .i64 m2.old.base) (.int .i64 m2.old.limit) (.slice A1 m2.old.ws.length c1) (.int .i64 m2.yng.base) (.int .i64 m2.yng.limit) (.slice A2 m2.yng.ws.length c2)
      have bp : Bk ((((((w3.setCell ⟨g15, 0, none⟩ (.int .i64 m2.old.base)).setCell ⟨g15, 1, none⟩ (.int .i64 m2.old.limit)).setCell ⟨g15, 2, none⟩ (.slice A1 m2.old.ws.length c1)).setCell ⟨g15, 3, none⟩ (.int .i64 m2.yng.base)).setCell ⟨g15, 4, none⟩ (.int .i64 m2.yng.limit)).setCell ⟨g15, 5, none⟩ (.slice A2 m2.yng.ws.length c2)) L.p 41 (L.cells s.m s.cs s.xs) := (HP2.out.below HB3.out hlp).far6 (by omega) 0 (.int .i64 m2.old.base) (.int .i64 m2.old.limit) (.slice A1 m2.old.ws.length c1) (.int .i64 m2.yng.base) (.int .i64 m2.yng.limit) (.slice A2 m2.yng.ws.length c2)
      have kp : Kp (fun q => q = g15) w3 ((((((w3.setCell ⟨g15, 0, none⟩ (.int .i64 m2.old.base)).setCell ⟨g15, 1, none⟩ (.int .i64 m2.old.limit)).setCell ⟨g15, 2, none⟩ (.slice A1 m2.old.ws.length c1)).setCell ⟨g15, 3, none⟩ (.int .i64 m2.yng.base)).setCell ⟨g15, 4, none⟩ (.int .i64 m2.yng.limit)).setCell ⟨g15, 5, none⟩ (.slice A2 m2.yng.ws.length c2)) := Kp.set6 (S := fun q => q = g15) (Kp.refl _ _) rfl 0 (.int .i64 m2.old.base) (.int .i64 m2.old.limit) (.slice A1 m2.old.ws.length c1) (.int .i64 m2.yng.base) (.int .i64 m2.yng.limit) (.slice A2 m2.yng.ws.length c2)
      have hbw : Below w2.heap.size w2 ((((((w3.setCell ⟨g15, 0, none⟩ (.int .i64 m2.old.base)).setCell ⟨g15, 1, none⟩ (.int .i64 m2.old.limit)).setCell ⟨g15, 2, none⟩ (.slice A1 m2.old.ws.length c1)).setCell ⟨g15, 3, none⟩ (.int .i64 m2.yng.base)).setCell ⟨g15, 4, none⟩ (.int .i64 m2.yng.limit)).setCell ⟨g15, 5, none⟩ (.slice A2 m2.yng.ws.length c2)) := kp.toBelow HB3.out HB3.out.size fun q hq => by rw [hq]; omega
      obtain ⟨w4, hw4⟩ : ∃ w4, ((((((w3.setCell ⟨g15, 0, none⟩ (.int .i64 m2.old.base)).setCell ⟨g15, 1, none⟩ (.int .i64 m2.old.limit)).setCell ⟨g15, 2, none⟩ (.slice A1 m2.old.ws.length c1)).setCell ⟨g15, 3, none⟩ (.int .i64 m2.yng.base)).setCell ⟨g15, 4, none⟩ (.int .i64 m2.yng.limit)).setCell ⟨g15, 5, none⟩ (.slice A2 m2.yng.ws.length c2)) = w4 := ⟨_, rfl⟩
      rw [hw4] at bg bp kp hbw ⊢
      have HM4 := Lib.hid (HM3.out.kpA kp (HM3.out.o.away KG.out rfl) (HM3.out.y.away KG.out rfl))
      have HB4 := Lib.hid hbw
      have BP := Lib.hid bp
      have BG := Lib.hid bg
      clear hw4 kp hbw z0 zf0 z1 zf1 z2 zf2 z3 zf3 z4 zf4 z5 zf5
      by_cases her : er = 0
      · subst her
        have HS : s.step ⟨1, hd, a, b, i, x, r⟩ = ⟨m2, s.cs, s.xs ++ [ad]⟩ := by
          unfold St.step
          rw [if_neg (show ¬ ((1 : Int) = 0) by decide)]
          rw [if_pos rfl]
          unfold St.alloc
          rw [HR.out, if_pos rfl]
        have HSS := Lib.hid HS
        have h4 := H2.out.below HB4.out
        have OWN : Hid (w4.ownsRow B 3 1 (.slice Al s.xs.length cl) s.xs.length (ints s.xs)) := Lib.hid (by have := h4.l; rw [show (LP.vl { L with V2 := V2 }) = _ from HVL.out] at this; exact this)
        have hip : (Value.slice Al s.xs.length cl).ownBlock ≠ some L.p := own_int_bk OWN.out BP.out (by decide)
        have hig : (Value.slice Al s.xs.length cl).ownBlock ≠ some g15 := own_int_bk OWN.out BG.out (by decide)
        have HIP := Lib.hid hip
        have HIG := Lib.hid hig
        have H4 := Lib.hid h4
        have hBW : B ≤ w4.heap.size := Nat.le_trans (Nat.le_trans hB HB2.out.size) HB4.out.size
        clear HS h4 hip hig bg bp
        go_upto_region 14 with fail
        refine wp_region_sepF 12 (fun i => ([[], [], [], [], [3], [4], [5], [], [7], [6, 8], [0], [10]] : List (List Nat)).getD i []) (fun i => if i = 9 then [6] else []) [1] (RL [fun v _ => v = .pointer (some ⟨L.p, 0, none⟩), fun v _ => v = .pointer (some ⟨L.p, 0, none⟩), fun v _ => v = .agg #[.int .i64 m2.old.base, .int .i64 m2.old.limit, .slice A1 m2.old.ws.length c1, .int .i64 m2.yng.base, .int .i64 m2.yng.limit, .slice A2 m2.yng.ws.length c2], fun v _ => v = .pointer (some ⟨L.p, 0, none⟩), fun v _ => v = .pointer (some ⟨L.p, 0, none⟩), fun v _ => v = .pointer (some ⟨L.p, 10, none⟩), fun v w => v = (.slice Al s.xs.length cl) ∧ w.ownsRow B 3 1 v s.xs.length (ints s.xs), fun v _ => v = .int .i64 ad, fun v w => ∃ g, v = .slice (some ⟨g, 0, none⟩) 1 1 ∧ Bk w g 3 #[.int .i64 ad], fun v w => w.ownsRow B 3 1 v (s.xs.length + 1) (ints s.xs ++ [.int .i64 ad]) ∧ ∀ q, v.ownBlock = some q → (Value.slice Al s.xs.length cl).ownBlock = some q ∨ w4.heap.size ≤ q, fun v _ => v = .pointer (some ⟨L.p, 0, none⟩), fun v _ => v = .pointer (some ⟨L.p, 3, none⟩)]) (OL [fun _ => none, fun _ => none, fun _ => none, fun _ => none, fun _ => none, fun _ => none, blkOf, fun _ => none, blkOf, blkOf]) B (fun i => if i = 6 then (Value.slice Al s.xs.length cl).ownBlock else none) (by kernel_rfl) (by kernel_rfl) (by kernel_rfl) (by kernel_rfl) (by rfl) hBW ?_ ?_ ?_ ?_ ?_
        · intro i k hk
          split at hk
          · have := OWN.out.lt k hk; exact ⟨this.2, this.1⟩
          · cases hk
        · intro i i' k hk hk'
          split at hk
          · split at hk'
            · omega
            · cases hk'
          · cases hk
        · intro i v w5 w6 hi h hw hw' hsz hk
          rcases (show i = 0 ∨ i = 1 ∨ i = 2 ∨ i = 3 ∨ i = 4 ∨ i = 5 ∨ i = 6 ∨ i = 7 ∨ i = 8 ∨ i = 9 ∨ i = 10 ∨ i = 11 by omega) with rfl | rfl | rfl | rfl | rfl | rfl | rfl | rfl | rfl | rfl | rfl | rfl
          · exact h
          · exact h
          · exact h
          · exact h
          · exact h
          · exact h
          · exact ⟨h.1, own_local h.2 fun k' h' => hk k' ((own_blk h.2).trans h')⟩
          · exact h
          · obtain ⟨g, rfl, h2⟩ := h; exact ⟨g, rfl, (hk g rfl).trans h2⟩
          · exact ⟨own_local h.1 fun k' h' => hk k' ((own_blk h.1).trans h'), h.2⟩
          · exact h
          · exact h
        · intro i hi o ho vs w5 hkp hg
          have hWs := hg.2.1.size
          have hP5 : Bk w5 L.p 41 (L.cells s.m s.cs s.xs) := (hkp L.p BP.out.lt (fun i h => by split at h; exact HIP.out h; cases h)).trans BP.out
          have hG5 : Bk w5 g15 37 #[.int .i64 m2.old.base, .int .i64 m2.old.limit, .slice A1 m2.old.ws.length c1, .int .i64 m2.yng.base, .int .i64 m2.yng.limit, .slice A2 m2.yng.ws.length c2] := (hkp g15 BG.out.lt (fun i h => by split at h; exact HIG.out h; cases h)).trans BG.out
          have HG := Lib.hid hg
          have HP5 := Lib.hid hP5
          have HG5 := Lib.hid hG5
          have hgr := hg.2.2.1
          clear hg hP5 hG5 hkp
          rcases (show i = 0 ∨ i = 1 ∨ i = 2 ∨ i = 3 ∨ i = 4 ∨ i = 5 ∨ i = 6 ∨ i = 7 ∨ i = 8 ∨ i = 9 ∨ i = 10 ∨ i = 11 by omega) with rfl | rfl | rfl | rfl | rfl | rfl | rfl | rfl | rfl | rfl | rfl | rfl <;> cases ho
          · clear hgr
            change Made _ _ (Sem.run _ (execOp (Act.eval (frm _ _ _ [])) _) _)
            simp only [frm]
            go_simp
            exact made_ok (lays_pureB rfl rfl)
          · clear hgr
            change Made _ _ (Sem.run _ (execOp (Act.eval (frm _ _ _ [])) _) _)
            simp only [frm]
            go_simp
            exact made_ok (lays_pureB rfl rfl)
          · clear hgr
            change Made _ _ (Sem.run _ (execOp (Act.eval (frm _ _ _ [])) _) _)
            simp only [frm]
            have ce0 : w5.cell? ⟨g15, 0, none⟩ = some (.int .i64 m2.old.base) := HG5.out.cell 0
            have ce1 : w5.cell? ⟨g15, 1, none⟩ = some (.int .i64 m2.old.limit) := HG5.out.cell 1
            have ce2 : w5.cell? ⟨g15, 2, none⟩ = some (.slice A1 m2.old.ws.length c1) := HG5.out.cell 2
            have ce3 : w5.cell? ⟨g15, 3, none⟩ = some (.int .i64 m2.yng.base) := HG5.out.cell 3
            have ce4 : w5.cell? ⟨g15, 4, none⟩ = some (.int .i64 m2.yng.limit) := HG5.out.cell 4
            have ce5 : w5.cell? ⟨g15, 5, none⟩ = some (.slice A2 m2.yng.ws.length c2) := HG5.out.cell 5
            go_simp
            exact made_ok (lays_pureB rfl rfl)
          · clear hgr
            change Made _ _ (Sem.run _ (execOp (Act.eval (frm _ _ _ [])) _) _)
            simp only [frm]
            go_simp
            exact made_ok (lays_pureB rfl rfl)
          · have h3 : vs 3 = _ := (hgr 3 (by decide)).1
            clear hgr
            change Made _ _ (Sem.run _ (execOp (Act.eval (Act.put (frm _ _ _ []) (some 98) (vs 3))) _) _)
            simp only [frm, h3]
            go_simp
            exact made_ok (lays_pureB rfl rfl)
          · have h4 : vs 4 = _ := (hgr 4 (by decide)).1
            clear hgr
            change Made _ _ (Sem.run _ (execOp (Act.eval (Act.put (frm _ _ _ []) (some 99) (vs 4))) _) _)
            simp only [frm, h4]
            go_simp
            exact made_ok (lays_pureB rfl rfl)
          · have h5 : vs 5 = _ := (hgr 5 (by decide)).1
            clear hgr
            change Made _ _ (Sem.run _ (execOp (Act.eval (Act.put (frm _ _ _ []) (some 100) (vs 5))) _) _)
            simp only [frm, h5]
            have c0 : w5.cell? ⟨L.p, 10, none⟩ = some (.slice Al s.xs.length cl) := (HP5.out.cell 10).trans (congrArg some HVL.out)
            go_simp
            refine made_ok ?_
            exact lays_claimB ⟨rfl, own_local OWN.out fun k hk => HG.out.1 k hk⟩ (own_blk OWN.out) fun k hk => by have := OWN.out.lt k ((own_blk OWN.out).symm.trans hk); exact ⟨this.1, by omega⟩
          · clear hgr
            change Made _ _ (Sem.run _ (execOp (Act.eval (frm _ _ _ [])) _) _)
            simp only [frm]
            go_simp
            exact made_ok (lays_pureB rfl rfl)
          · have h7 : vs 7 = _ := (hgr 7 (by decide)).1
            clear hgr
            change Made _ _ (Sem.run _ (execOp (Act.eval (Act.put (frm _ _ _ []) (some 102) (vs 7))) _) _)
            simp only [frm, h7]
            go_simp
            refine made_ok ?_
            exact lays_allocB ⟨_, rfl, Bk.new _ _ _⟩ rfl (Nat.le_trans hBW hWs)
          · obtain ⟨h6, hown6⟩ := (hgr 6 (by decide)).1
            obtain ⟨g8, h8, hbk8⟩ := (hgr 8 (by decide)).1
            clear hgr
            change Made _ _ (Sem.run _ (execOp (Act.eval (Act.put (Act.put (frm _ _ _ []) (some 103) (vs 8)) (some 101) (vs 6))) _) _)
            simp only [frm, h6, h8]
            rw [h6] at hown6
            refine made_append (.tmp 101) (.tmp 103) 27 rfl Tryz.underlying27 HI.out.1 HI.out.2.1 HI.out.2.2.1 HI.out.2.2.2 rfl (by decide) (v := .slice Al s.xs.length cl) (n := s.xs.length) (xs := ints s.xs) rfl hown6 (A := some ⟨g8, 0, none⟩) (m := 1) (c := 1) (news := [.int .i64 ad]) rfl ⟨rfl, .inr ⟨g8, 0, rfl, hbk8.lt, fun j v hj => by rw [Nat.zero_add, hbk8.cell]; simpa using hj⟩⟩ (by simp [Value.oneCell']) (by unfold maxLen; omega) (by omega) (Nat.le_trans hBW hWs) fun v' w' ho hgr2 h4 => ?_
            exact lays_appendB HG.out (Nat.le_trans hBW hWs) (j := 6) (by simp) (by simp) hown6 (by rw [h6]; rfl) hgr2 ho h4 ⟨ho, fun q hq => h4.elim (fun e => .inl (e ▸ hq)) (fun e => .inr (by rw [e] at hq; cases hq; exact hWs))⟩ rfl
          · have h0 : vs 0 = _ := (hgr 0 (by decide)).1
            clear hgr
            change Made _ _ (Sem.run _ (execOp (Act.eval (Act.put (frm _ _ _ []) (some 95) (vs 0))) _) _)
            simp only [frm, h0]
            go_simp
            exact made_ok (lays_pureB rfl rfl)
          · have h10 : vs 10 = _ := (hgr 10 (by decide)).1
            clear hgr
            change Made _ _ (Sem.run _ (execOp (Act.eval (Act.put (frm _ _ _ []) (some 105) (vs 10))) _) _)
            simp only [frm, h10]
            go_simp
            exact made_ok (lays_pureB rfl rfl)
        · intro vs w5 hkp hb5 hall hap
          have h1 : vs 1 = _ := (hall 1 (by omega) (by decide)).1
          have h2 : vs 2 = _ := (hall 2 (by omega) (by decide)).1
          have h10 : vs 10 = _ := (hall 10 (by omega) (by decide)).1
          have h11 : vs 11 = _ := (hall 11 (by omega) (by decide)).1
          have hown9 := (hall 9 (by omega) (by decide)).1
          obtain ⟨A9, c9, h9, hl9⟩ := own_shape hown9.1
          have kp5 : Kp (fun q => (LP.vl { L with V2 := V2 }).ownBlock = some q) w4 w5 := ⟨hb5.os, hb5.tape, hb5.output, hb5.size, fun q hq hn => hkp q hq fun i h => by split at h; exact hn ((congrArg Value.ownBlock HVL.out).trans h); cases h⟩
          have hP5 : Bk w5 L.p 41 (L.cells s.m s.cs s.xs) := (hkp L.p BP.out.lt (fun i h => by split at h; exact HIP.out h; cases h)).trans BP.out
          rw [h9] at hown9
          have HO9 := Lib.hid hown9
          have KP5 := Lib.hid kp5
          have HP5 := Lib.hid hP5
          have q0 : w5.cell? ⟨L.p, 3, none⟩ = some (.int .i64 s.m.old.base) := hP5.cell 3
          have qf0 : w5.frozen? ⟨L.p, 3, none⟩ = false := hP5.free 3
          have q1 : w5.cell? ⟨L.p, 4, none⟩ = some (.int .i64 s.m.old.limit) := hP5.cell 4
          have qf1 : w5.frozen? ⟨L.p, 4, none⟩ = false := hP5.free 4
          have q2 : w5.cell? ⟨L.p, 5, none⟩ = some (.slice L.A1 s.m.old.ws.length L.c1) := hP5.cell 5
          have qf2 : w5.frozen? ⟨L.p, 5, none⟩ = false := hP5.free 5
          have q3 : w5.cell? ⟨L.p, 6, none⟩ = some (.int .i64 s.m.yng.base) := hP5.cell 6
          have qf3 : w5.frozen? ⟨L.p, 6, none⟩ = false := hP5.free 6
          have q4 : w5.cell? ⟨L.p, 7, none⟩ = some (.int .i64 s.m.yng.limit) := hP5.cell 7
          have qf4 : w5.frozen? ⟨L.p, 7, none⟩ = false := hP5.free 7
          have q5 : w5.cell? ⟨L.p, 8, none⟩ = some (.slice L.A2 s.m.yng.ws.length L.c2) := hP5.cell 8
          have qf5 : w5.frozen? ⟨L.p, 8, none⟩ = false := hP5.free 8
          have q10 : w5.cell? ⟨L.p, 10, none⟩ = some (.slice Al s.xs.length cl) := (hP5.cell 10).trans (congrArg some HVL.out)
          have qf10 : w5.frozen? ⟨L.p, 10, none⟩ = false := hP5.free 10
          clear hall hap hkp hb5 hown9 kp5 hP5
          change wpList _ _ _ [_, _, _, _] (Act.put (Act.put (Act.put (Act.put (Act.put (Act.put (Act.put (Act.put (Act.put (Act.put (Act.put (Act.put (frm _ _ _ []) (some 106) (vs 11)) (some 105) (vs 10)) (some 104) (vs 9)) (some 103) (vs 8)) (some 102) (vs 7)) (some 101) (vs 6)) (some 100) (vs 5)) (some 99) (vs 4)) (some 98) (vs 3)) (some 97) (vs 2)) (some 96) (vs 1)) (some 95) (vs 0)) _
          simp only [frm, h1, h2, h9, h10, h11]
          clear h1 h2 h9 h10 h11
          go_wp2_with fail
          have hE := (H4.out.monoK (Nat.le_succ k)).endA KP5.out HM4.out HN.out.1 HN.out.2 H2.out.mine_lt H4.out.mine_lt (fun b o e => e.elim (HM4.out.o.lt b o) (HM4.out.y.lt b o)) (by have := HO9.out.1; rwa [show ints (s.xs ++ [ad]) = ints s.xs ++ [.int .i64 ad] by simp [ints]]) (fun q hq => (HO9.out.2 q hq).imp (fun e => (congrArg Value.ownBlock HVL.out).trans e) id) rfl
          go_ret
          rw [HSS.out]
          exact ⟨rfl, hE.1, hE.2.toBelow (HB2.out.trans (HB4.out.mono (Nat.le_trans hB HB2.out.size))) hBW (H4.out.mine_ge)⟩
      · have he : (er == 0) = false := by simp [her]
        have hm2 : m2 = s.m := by
          rcases s.m.yng.alloc_cases hd ⟨1, 1 + (s.xs.length : Int)⟩ with h1 | ⟨_, _, _, h1⟩
          · have := h1.2; rw [HM2.out.2] at this; rw [HM2.out.1]; exact congrArg (fun sp => ({ s.m with yng := sp } : Mm)) this
          · rw [HM2.out.2] at h1; cases h1; exact absurd rfl her
        have HS : s.step ⟨1, hd, a, b, i, x, r⟩ = s := by
          unfold St.step
          rw [if_neg (show ¬ ((1 : Int) = 0) by decide)]
          rw [if_pos rfl]
          unfold St.alloc
          rw [HR.out, if_neg her]
        have h4 := (H2.out.below HB4.out).monoK (Nat.le_succ k)
        rw [hm2] at h4
        have H4 := Lib.hid h4
        have HSS := Lib.hid HS
        clear bg bp HS h4 hm2 her
        go_wp2_with fail
        go_ret
        rw [HSS.out]
        exact ⟨rfl, ⟨{ L with V2 := V2 }, ⟨rfl, rfl, rfl, rfl, rfl⟩, H4.out⟩, HB2.out.trans (HB4.out.mono (Nat.le_trans hB HB2.out.size))⟩
end
end Go.Proofs.YtaecdpijpdfboaaGreat
