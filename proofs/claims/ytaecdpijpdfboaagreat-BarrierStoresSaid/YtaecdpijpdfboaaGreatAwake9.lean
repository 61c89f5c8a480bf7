/- The law's example holds. (printed by gen/awake.py) -/
import Derived.Test.YtaecdpijpdfboaaGreatPlay2
import Derived.Test.YtaecdpijpdfboaaGreatCov
namespace Go.Proofs.YtaecdpijpdfboaaGreat
set_option linter.unusedVariables false
set_option linter.unusedSimpArgs false
set_option linter.unusedSectionVars false
open Go.RowKit Go.Sort Go.Shelf
attribute [local go_sem] Oper.semAt_some onlyN_normal
set_option maxRecDepth 100000

def o0 : OpV := ⟨0, ⟨0, 1, 3⟩, 0, 0, 0, 0, false⟩
def o1 : OpV := ⟨1, ⟨0, 1, 0⟩, 0, 0, 0, 0, false⟩
def s1 : St := St.new.step o0
def s2 : St := s1.step o1
def b2 : Int × Mm × List Int := bst s2.m s2.cs 0 1 (adW 16777216)
theorem o0_ok : o0.Ok := ⟨by decide, by decide, by decide, by decide, by decide, by decide, ⟨by decide, by decide⟩⟩
theorem o1_ok : o1.Ok := ⟨by decide, by decide, by decide, by decide, by decide, by decide, ⟨by decide, by decide⟩⟩
theorem b2_er : b2.1 = 0 := by kernel_rfl
theorem b2_rem : b2.2.1.crossing (cardIn b2.2.2) = [3] := by kernel_rfl
theorem b2_all : b2.2.1.crossing (fun _ => true) = [3] := by kernel_rfl
theorem b2_cov : b2.2.1.crossing (fun a => !cardIn b2.2.2 a) = [] := by kernel_rfl
theorem b2_card : cardIn b2.2.2 0 = true := by kernel_rfl
/-- a slice of ints in memory -/
def SliceT (l : List Int) (v : Value) (w : World) : Prop := ∃ A c, v = .slice A l.length c ∧ l.length ≤ c ∧ Sl w 1 A l.length (ints l)
theorem SliceT.below {l : List Int} (v : Value) (w w' : World) (h : SliceT l v w) (hb : Below w.heap.size w w') : SliceT l v w' := let ⟨A, c, e, h1, h2⟩ := h; ⟨A, c, e, h1, h2.below hb⟩
theorem SliceT.own {w : World} {B : Nat} {l : List Int} {v : Value} (h : w.ownsRow B 3 1 v l.length (ints l)) : SliceT l v w := by
  obtain ⟨A, c, rfl, hl⟩ := own_shape h
  exact ⟨A, c, rfl, hl, own_sl h⟩
section
variable {w : World}
set_option maxHeartbeats 4000000 in
theorem awake_any : Calls Tryz.prog 6 #[] w fun e w' => e = .returned (.bool true) ∧ Below w.heap.size w w' := by
  have cO := open_any (w := w)
  go_enter Tryz.func6, Tryz.ntmps6
  go_wp2_with fail
  refine cO.mono ?_
  rintro e w1 ⟨L, rfl, h1, hb1⟩
  have cS := step2_any (s := St.new) h1 (by decide) (by decide) (by decide) hb1.size o0 o0_ok (by decide)
  have HB1 := Lib.hid hb1
  unfold OpV.cells o0 at cS
  clear h1 hb1 cO
  go_wp2_with fail
  refine cS.mono ?_
  rintro e w2 ⟨rfl, ⟨L2, hs2, h2⟩, hb2⟩
  have HB2 := Lib.hid (HB1.out.trans hb2)
  have cS := step2_any (s := s1) h2 (by decide) (by decide) (by decide) HB2.out.size o1 o1_ok (by decide)
  have hp2 : L2.p = L.p := hs2.1
  rw [hp2] at cS
  have HSM2 := Lib.hid hs2
  unfold OpV.cells o1 at cS
  clear h2 hb2 hs2 hp2
  go_wp2_with fail
  refine cS.mono ?_
  rintro e w3 ⟨rfl, ⟨L1, hs3, h3⟩, hb3⟩
  have HB3 := Lib.hid (HB2.out.trans hb3)
  have hp3 : L.p = L1.p := (hs3.1.trans HSM2.out.1).symm
  have H3 : Hid (LW w3 w.heap.size L1 (0 + 1 + 1) s2.m s2.cs s2.xs) := Lib.hid h3
  have HP3 : Hid (Bk w3 L1.p 41 (L1.cells s2.m s2.cs s2.xs)) := Lib.hid h3.hd
  have cF := fun w => RFromAddress_any 16777216 w
  unfold frA at cF
  rw [if_pos (show inA 16777216 = true by decide)] at cF
  rw [hp3]
  clear cS h3 hb3 hs3 hp3
  go_wp2_with fail
  refine (cF _).mono ?_
  rintro e w4 ⟨rfl, rfl⟩
  clear cF
  go_upto_region 7 with fail
  refine wp_region_adds0 9 (fun i => ([[], [0], [1], [2], [], [4], [5], [6], []] : List (List Nat)).getD i []) (EL [Ent.val (.pointer (some ⟨L1.p, 0, none⟩)), Ent.val (.pointer (some ⟨L1.p, 0, none⟩)), Ent.val (.pointer (some ⟨L1.p, 0, none⟩)), Ent.val (.agg #[.pointer (some ⟨L1.g1, 0, none⟩), .pointer (some ⟨L1.g2, 0, none⟩)]), Ent.val (.pointer (some ⟨L1.p, 0, none⟩)), Ent.val (.pointer (some ⟨L1.p, 0, none⟩)), Ent.val (.pointer (some ⟨L1.p, 2, none⟩)), Ent.val (.pointer (some ⟨L1.gt, 0, none⟩)), Ent.val (.int .u64 (adW 16777216))]) (by kernel_rfl) (by kernel_rfl) (by kernel_rfl) (by kernel_rfl) (by rfl) ?_ ?_
  · intro i hi o ho vs w5 hb1 hgr
    rcases (show i = 0 ∨ i = 1 ∨ i = 2 ∨ i = 3 ∨ i = 4 ∨ i = 5 ∨ i = 6 ∨ i = 7 ∨ i = 8 by omega) with rfl | rfl | rfl | rfl | rfl | rfl | rfl | rfl | rfl <;> cases ho
    · clear hgr
      change Made _ (Adds _ _ _) (Sem.run _ (execOp (Act.eval (frm _ _ _ [])) _) _)
      simp only [frm]
      go_simp
      exact adds_val rfl
    · have h0 : vs 0 = _ := hgr 0 (by decide)
      clear hgr
      change Made _ (Adds _ _ _) (Sem.run _ (execOp (Act.eval (Act.put (frm _ _ _ []) (some 24) (vs 0))) _) _)
      simp only [frm, h0]
      go_simp
      exact adds_val rfl
    · have h1 : vs 1 = _ := hgr 1 (by decide)
      clear hgr
      change Made _ (Adds _ _ _) (Sem.run _ (execOp (Act.eval (Act.put (frm _ _ _ []) (some 25) (vs 1))) _) _)
      simp only [frm, h1]
      go_simp
      exact adds_val rfl
    · have h2 : vs 2 = _ := hgr 2 (by decide)
      clear hgr
      change Made _ (Adds _ _ _) (Sem.run _ (execOp (Act.eval (Act.put (frm _ _ _ []) (some 26) (vs 2))) _) _)
      simp only [frm, h2]
      have hbk := HP3.out.below hb1 HP3.out.lt
      have c0 : w5.cell? ⟨L1.p, 0, none⟩ = some (.pointer (some ⟨L1.g1, 0, none⟩)) := hbk.cell 0
      have c1 : w5.cell? ⟨L1.p, 1, none⟩ = some (.pointer (some ⟨L1.g2, 0, none⟩)) := hbk.cell 1
      clear hbk
      go_simp
      exact adds_val rfl
    · clear hgr
      change Made _ (Adds _ _ _) (Sem.run _ (execOp (Act.eval (frm _ _ _ [])) _) _)
      simp only [frm]
      go_simp
      exact adds_val rfl
    · have h4 : vs 4 = _ := hgr 4 (by decide)
      clear hgr
      change Made _ (Adds _ _ _) (Sem.run _ (execOp (Act.eval (Act.put (frm _ _ _ []) (some 28) (vs 4))) _) _)
      simp only [frm, h4]
      go_simp
      exact adds_val rfl
    · have h5 : vs 5 = _ := hgr 5 (by decide)
      clear hgr
      change Made _ (Adds _ _ _) (Sem.run _ (execOp (Act.eval (Act.put (frm _ _ _ []) (some 29) (vs 5))) _) _)
      simp only [frm, h5]
      go_simp
      exact adds_val rfl
    · have h6 : vs 6 = _ := hgr 6 (by decide)
      clear hgr
      change Made _ (Adds _ _ _) (Sem.run _ (execOp (Act.eval (Act.put (frm _ _ _ []) (some 30) (vs 6))) _) _)
      simp only [frm, h6]
      have hbk := HP3.out.below hb1 HP3.out.lt
      have c0 : w5.cell? ⟨L1.p, 2, none⟩ = some (.pointer (some ⟨L1.gt, 0, none⟩)) := hbk.cell 2
      clear hbk
      go_simp
      exact adds_val rfl
    · clear hgr
      change Made _ (Adds _ _ _) (Sem.run _ (execOp (Act.eval (frm _ _ _ [])) _) _)
      simp only [frm]
      go_simp
      exact adds_val rfl
  · intro vs w5 hb1 hall hap
    have h3 : vs 3 = _ := (hall 3 (by omega)).1
    have h7 : vs 7 = _ := (hall 7 (by omega)).1
    have h8 : vs 8 = _ := (hall 8 (by omega)).1
    clear hall hap
    change wpList _ _ _ [_, _] (Act.put (Act.put (Act.put (Act.put (Act.put (Act.put (Act.put (Act.put (Act.put (frm _ _ _ []) (some 32) (vs 8)) (some 31) (vs 7)) (some 30) (vs 6)) (some 29) (vs 5)) (some 28) (vs 4)) (some 27) (vs 3)) (some 26) (vs 2)) (some 25) (vs 1)) (some 24) (vs 0)) _
    simp only [frm, h3, h7, h8]
    have H5 := Lib.hid (H3.out.below hb1)
    have HB5 := Lib.hid (HB3.out.trans (hb1.mono HB3.out.size))
    have cB := BStore_any H5.out.mr H5.out.tr (by decide) 0 1 (x := adW 16777216) ⟨by decide, by decide⟩
    have hbs : bst s2.m s2.cs 0 1 (adW 16777216) = (0, b2.2.1, b2.2.2) := by rw [← b2_er]; rfl
    rw [hbs] at cB
    unfold memV at cB
    clear hb1 hbs
    go_wp2_with fail
    refine cB.mono ?_
    rintro e w6 ⟨rfl, hm6, hc6, hk6⟩
    have h6 := H5.out.prog hm6 hc6 hk6
    have HB6 := Lib.hid (H5.out.progBelow hk6 HB5.out HB5.out.size)
    have HP6 : Hid (Bk w6 L1.p 41 (L1.cells s2.m s2.cs s2.xs)) := Lib.hid h6.hd
    have H6 := Lib.hid h6
    clear hm6 hc6 hk6 h6 cB
    go_upto_region 9 with fail
    refine wp_region_adds0 8 (fun i => ([[], [0], [1], [2], [], [4], [5], [6]] : List (List Nat)).getD i []) (EL [Ent.val (.pointer (some ⟨L1.p, 0, none⟩)), Ent.val (.pointer (some ⟨L1.p, 0, none⟩)), Ent.val (.pointer (some ⟨L1.p, 0, none⟩)), Ent.val (.agg #[.pointer (some ⟨L1.g1, 0, none⟩), .pointer (some ⟨L1.g2, 0, none⟩)]), Ent.val (.pointer (some ⟨L1.p, 0, none⟩)), Ent.val (.pointer (some ⟨L1.p, 0, none⟩)), Ent.val (.pointer (some ⟨L1.p, 2, none⟩)), Ent.val (.pointer (some ⟨L1.gt, 0, none⟩))]) (by kernel_rfl) (by kernel_rfl) (by kernel_rfl) (by kernel_rfl) (by rfl) ?_ ?_
    · intro i hi o ho vs w7 hb1 hgr
      rcases (show i = 0 ∨ i = 1 ∨ i = 2 ∨ i = 3 ∨ i = 4 ∨ i = 5 ∨ i = 6 ∨ i = 7 by omega) with rfl | rfl | rfl | rfl | rfl | rfl | rfl | rfl <;> cases ho
      · clear hgr
        change Made _ (Adds _ _ _) (Sem.run _ (execOp (Act.eval (frm _ _ _ [])) _) _)
        simp only [frm]
        go_simp
        exact adds_val rfl
      · have h0 : vs 0 = _ := hgr 0 (by decide)
        clear hgr
        change Made _ (Adds _ _ _) (Sem.run _ (execOp (Act.eval (Act.put (frm _ _ _ []) (some 35) (vs 0))) _) _)
        simp only [frm, h0]
        go_simp
        exact adds_val rfl
      · have h1 : vs 1 = _ := hgr 1 (by decide)
        clear hgr
        change Made _ (Adds _ _ _) (Sem.run _ (execOp (Act.eval (Act.put (frm _ _ _ []) (some 36) (vs 1))) _) _)
        simp only [frm, h1]
        go_simp
        exact adds_val rfl
      · have h2 : vs 2 = _ := hgr 2 (by decide)
        clear hgr
        change Made _ (Adds _ _ _) (Sem.run _ (execOp (Act.eval (Act.put (frm _ _ _ []) (some 37) (vs 2))) _) _)
        simp only [frm, h2]
        have hbk := HP6.out.below hb1 HP6.out.lt
        have c0 : w7.cell? ⟨L1.p, 0, none⟩ = some (.pointer (some ⟨L1.g1, 0, none⟩)) := hbk.cell 0
        have c1 : w7.cell? ⟨L1.p, 1, none⟩ = some (.pointer (some ⟨L1.g2, 0, none⟩)) := hbk.cell 1
        clear hbk
        go_simp
        exact adds_val rfl
      · clear hgr
        change Made _ (Adds _ _ _) (Sem.run _ (execOp (Act.eval (frm _ _ _ [])) _) _)
        simp only [frm]
        go_simp
        exact adds_val rfl
      · have h4 : vs 4 = _ := hgr 4 (by decide)
        clear hgr
        change Made _ (Adds _ _ _) (Sem.run _ (execOp (Act.eval (Act.put (frm _ _ _ []) (some 39) (vs 4))) _) _)
        simp only [frm, h4]
        go_simp
        exact adds_val rfl
      · have h5 : vs 5 = _ := hgr 5 (by decide)
        clear hgr
        change Made _ (Adds _ _ _) (Sem.run _ (execOp (Act.eval (Act.put (frm _ _ _ []) (some 40) (vs 5))) _) _)
        simp only [frm, h5]
        go_simp
        exact adds_val rfl
      · have h6 : vs 6 = _ := hgr 6 (by decide)
        clear hgr
        change Made _ (Adds _ _ _) (Sem.run _ (execOp (Act.eval (Act.put (frm _ _ _ []) (some 41) (vs 6))) _) _)
        simp only [frm, h6]
        have hbk := HP6.out.below hb1 HP6.out.lt
        have c0 : w7.cell? ⟨L1.p, 2, none⟩ = some (.pointer (some ⟨L1.gt, 0, none⟩)) := hbk.cell 2
        clear hbk
        go_simp
        exact adds_val rfl
    · intro vs w7 hb1 hall hap
      have h3 : vs 3 = _ := (hall 3 (by omega)).1
      have h7 : vs 7 = _ := (hall 7 (by omega)).1
      clear hall hap
      change wpList _ _ _ [_, _] (Act.put (Act.put (Act.put (Act.put (Act.put (Act.put (Act.put (Act.put (frm _ _ _ []) (some 42) (vs 7)) (some 41) (vs 6)) (some 40) (vs 5)) (some 39) (vs 4)) (some 38) (vs 3)) (some 37) (vs 2)) (some 36) (vs 1)) (some 35) (vs 0)) _
      simp only [frm, h3, h7]
      have H7 := Lib.hid (H6.out.below hb1)
      have HB7 := Lib.hid (HB6.out.trans (hb1.mono HB6.out.size))
      have cR := Remembered_any H7.out.mr H7.out.tr
      rw [b2_rem] at cR
      clear hb1
      go_wp2_with fail
      refine cR.mono ?_
      rintro e w8 ⟨v, rfl, hown, hb8⟩
      have H8 := Lib.hid (H7.out.below hb8)
      have HB8 := Lib.hid (HB7.out.trans (hb8.mono HB7.out.size))
      obtain ⟨A, c, rfl, hle, hsl⟩ := SliceT.own hown
      have HP8 : Hid (Bk w8 L1.p 41 (L1.cells s2.m s2.cs s2.xs)) := Lib.hid H8.out.hd
      obtain ⟨bA, oA, rfl, hlA, hcA⟩ := hsl.get (show 0 < 1 by decide)
      have HCA : Hid (w8.cell? ⟨bA, oA, none⟩ = some (.int .i64 3)) := Lib.hid (hcA 0 _ rfl)
      have hc1 : 1 ≤ c := hle
      have HLA := Lib.hid hlA
      clear hown hb8 hsl hcA hlA hle cR
      go_upto_region 10 with fail
      refine wp_region_addsG 36 (fun i => ([[], [0], [1], [2], [3], [3, 4], [3, 5], [3, 6], [3, 7], [8], [9], [9, 10], [9, 11], [9, 12], [9, 13], [9, 14], [15], [16], [16, 17], [16, 18], [16, 19], [16], [16, 21], [16, 22], [16, 23], [16, 20, 24], [16, 25], [26], [27], [27, 28], [27, 29], [27, 30], [27, 31], [27, 32], [27, 33], [27, 34]] : List (List Nat)).getD i []) (EL [Ent.val (.slice (some ⟨bA, oA, none⟩) 1 c), Ent.val (.int .i64 1), Ent.val (.bool true), Ent.val (.bool true), Ent.val (.slice (some ⟨bA, oA, none⟩) 1 c), Ent.val (.pointer (some ⟨bA, oA, none⟩)), Ent.val (.int .i64 3), Ent.val (.bool true), Ent.val (.bool true), Ent.val (.bool true), Ent.val (.pointer (some ⟨L1.p, 0, none⟩)), Ent.val (.pointer (some ⟨L1.p, 0, none⟩)), Ent.val (.pointer (some ⟨L1.p, 2, none⟩)), Ent.val (.pointer (some ⟨L1.gt, 0, none⟩)), Ent.val (.bool true), Ent.val (.bool true), Ent.val (.bool true), Ent.val (.pointer (some ⟨L1.p, 0, none⟩)), Ent.val (.pointer (some ⟨L1.p, 0, none⟩)), Ent.val (.pointer (some ⟨L1.p, 0, none⟩)), Ent.val (.agg #[.pointer (some ⟨L1.g1, 0, none⟩), .pointer (some ⟨L1.g2, 0, none⟩)]), Ent.val (.pointer (some ⟨L1.p, 0, none⟩)), Ent.val (.pointer (some ⟨L1.p, 0, none⟩)), Ent.val (.pointer (some ⟨L1.p, 2, none⟩)), Ent.val (.pointer (some ⟨L1.gt, 0, none⟩)), Ent.val (.bool true), Ent.val (.bool true), Ent.val (.bool true), Ent.val (.pointer (some ⟨L1.p, 0, none⟩)), Ent.val (.pointer (some ⟨L1.p, 0, none⟩)), Ent.val (.pointer (some ⟨L1.p, 0, none⟩)), Ent.val (.agg #[.pointer (some ⟨L1.g1, 0, none⟩), .pointer (some ⟨L1.g2, 0, none⟩)]), Ent.of (SliceT [3]) SliceT.below, Ent.val (.int .i64 1), Ent.val (.bool true), Ent.val (.bool true)]) (by kernel_rfl) (by kernel_rfl) (by kernel_rfl) (by rfl) ?_ ?_ ?_
      · intro i hi o ho g b hgb vs v w9 hR
        rcases (show i = 0 ∨ i = 1 ∨ i = 2 ∨ i = 3 ∨ i = 4 ∨ i = 5 ∨ i = 6 ∨ i = 7 ∨ i = 8 ∨ i = 9 ∨ i = 10 ∨ i = 11 ∨ i = 12 ∨ i = 13 ∨ i = 14 ∨ i = 15 ∨ i = 16 ∨ i = 17 ∨ i = 18 ∨ i = 19 ∨ i = 20 ∨ i = 21 ∨ i = 22 ∨ i = 23 ∨ i = 24 ∨ i = 25 ∨ i = 26 ∨ i = 27 ∨ i = 28 ∨ i = 29 ∨ i = 30 ∨ i = 31 ∨ i = 32 ∨ i = 33 ∨ i = 34 ∨ i = 35 by omega) with rfl | rfl | rfl | rfl | rfl | rfl | rfl | rfl | rfl | rfl | rfl | rfl | rfl | rfl | rfl | rfl | rfl | rfl | rfl | rfl | rfl | rfl | rfl | rfl | rfl | rfl | rfl | rfl | rfl | rfl | rfl | rfl | rfl | rfl | rfl | rfl <;> cases ho <;> first | (cases hgb; exact hR) | cases hgb
      · intro i hi o ho vs w9 hb1 hgr
        rcases (show i = 0 ∨ i = 1 ∨ i = 2 ∨ i = 3 ∨ i = 4 ∨ i = 5 ∨ i = 6 ∨ i = 7 ∨ i = 8 ∨ i = 9 ∨ i = 10 ∨ i = 11 ∨ i = 12 ∨ i = 13 ∨ i = 14 ∨ i = 15 ∨ i = 16 ∨ i = 17 ∨ i = 18 ∨ i = 19 ∨ i = 20 ∨ i = 21 ∨ i = 22 ∨ i = 23 ∨ i = 24 ∨ i = 25 ∨ i = 26 ∨ i = 27 ∨ i = 28 ∨ i = 29 ∨ i = 30 ∨ i = 31 ∨ i = 32 ∨ i = 33 ∨ i = 34 ∨ i = 35 by omega) with rfl | rfl | rfl | rfl | rfl | rfl | rfl | rfl | rfl | rfl | rfl | rfl | rfl | rfl | rfl | rfl | rfl | rfl | rfl | rfl | rfl | rfl | rfl | rfl | rfl | rfl | rfl | rfl | rfl | rfl | rfl | rfl | rfl | rfl | rfl | rfl <;> cases ho
        · clear hgr
          change Made _ (Adds _ _ _) (Sem.run _ (execOp (Act.eval (frm _ _ _ [])) _) _)
          simp only [frm]
          go_simp
          exact adds_val rfl
        · have h0 : vs 0 = _ := hgr 0 (by decide)
          clear hgr
          change Made _ (Adds _ _ _) (Sem.run _ (execOp (Act.eval (Act.put (frm _ _ _ []) (some 44) (vs 0))) _) _)
          simp only [frm, h0]
          go_simp
          exact adds_val rfl
        · have h1 : vs 1 = _ := hgr 1 (by decide)
          clear hgr
          change Made _ (Adds _ _ _) (Sem.run _ (execOp (Act.eval (Act.put (frm _ _ _ []) (some 45) (vs 1))) _) _)
          simp only [frm, h1]
          go_simp
          exact adds_val rfl
        · have h2 : vs 2 = _ := hgr 2 (by decide)
          clear hgr
          change Made _ (Adds _ _ _) (Sem.run _ (execOp (Act.eval (Act.put (frm _ _ _ []) (some 46) (vs 2))) _) _)
          simp only [frm, h2]
          go_simp
          exact adds_val rfl
        · have h3 : vs 3 = _ := hgr 3 (by decide)
          clear hgr
          change Made _ (Adds _ _ _) (Sem.run _ (execOp (Act.eval (Act.put (frm _ _ _ []) (some 47) (vs 3))) _) _)
          simp only [frm, h3]
          go_simp
          exact adds_val rfl
        · have h3 : vs 3 = _ := hgr 3 (by decide)
          have h4 : vs 4 = _ := hgr 4 (by decide)
          clear hgr
          change Made _ (Adds _ _ _) (Sem.run _ (execOp (Act.eval (Act.put (Act.put (frm _ _ _ []) (some 48) (vs 4)) (some 47) (vs 3))) _) _)
          simp only [frm, h3, h4]
          go_simp
          exact adds_val rfl
        · have h3 : vs 3 = _ := hgr 3 (by decide)
          have h5 : vs 5 = _ := hgr 5 (by decide)
          clear hgr
          change Made _ (Adds _ _ _) (Sem.run _ (execOp (Act.eval (Act.put (Act.put (frm _ _ _ []) (some 49) (vs 5)) (some 47) (vs 3))) _) _)
          simp only [frm, h3, h5]
          have c0 : w9.cell? ⟨bA, oA, none⟩ = some (.int .i64 3) := (hb1.cell (p := ⟨bA, oA, none⟩) HLA.out).trans HCA.out
          go_simp
          exact adds_val rfl
        · have h3 : vs 3 = _ := hgr 3 (by decide)
          have h6 : vs 6 = _ := hgr 6 (by decide)
          clear hgr
          change Made _ (Adds _ _ _) (Sem.run _ (execOp (Act.eval (Act.put (Act.put (frm _ _ _ []) (some 50) (vs 6)) (some 47) (vs 3))) _) _)
          simp only [frm, h3, h6]
          go_simp
          exact adds_val rfl
        · have h3 : vs 3 = _ := hgr 3 (by decide)
          have h7 : vs 7 = _ := hgr 7 (by decide)
          clear hgr
          change Made _ (Adds _ _ _) (Sem.run _ (execOp (Act.eval (Act.put (Act.put (frm _ _ _ []) (some 51) (vs 7)) (some 47) (vs 3))) _) _)
          simp only [frm, h3, h7]
          go_simp
          exact adds_val rfl
        · have h8 : vs 8 = _ := hgr 8 (by decide)
          clear hgr
          change Made _ (Adds _ _ _) (Sem.run _ (execOp (Act.eval (Act.put (frm _ _ _ []) (some 52) (vs 8))) _) _)
          simp only [frm, h8]
          go_simp
          exact adds_val rfl
        · have h9 : vs 9 = _ := hgr 9 (by decide)
          clear hgr
          change Made _ (Adds _ _ _) (Sem.run _ (execOp (Act.eval (Act.put (frm _ _ _ []) (some 53) (vs 9))) _) _)
          simp only [frm, h9]
          go_simp
          exact adds_val rfl
        · have h9 : vs 9 = _ := hgr 9 (by decide)
          have h10 : vs 10 = _ := hgr 10 (by decide)
          clear hgr
          change Made _ (Adds _ _ _) (Sem.run _ (execOp (Act.eval (Act.put (Act.put (frm _ _ _ []) (some 54) (vs 10)) (some 53) (vs 9))) _) _)
          simp only [frm, h9, h10]
          go_simp
          exact adds_val rfl
        · have h9 : vs 9 = _ := hgr 9 (by decide)
          have h11 : vs 11 = _ := hgr 11 (by decide)
          clear hgr
          change Made _ (Adds _ _ _) (Sem.run _ (execOp (Act.eval (Act.put (Act.put (frm _ _ _ []) (some 55) (vs 11)) (some 53) (vs 9))) _) _)
          simp only [frm, h9, h11]
          go_simp
          exact adds_val rfl
        · have h9 : vs 9 = _ := hgr 9 (by decide)
          have h12 : vs 12 = _ := hgr 12 (by decide)
          clear hgr
          change Made _ (Adds _ _ _) (Sem.run _ (execOp (Act.eval (Act.put (Act.put (frm _ _ _ []) (some 56) (vs 12)) (some 53) (vs 9))) _) _)
          simp only [frm, h9, h12]
          have hbk := HP8.out.below hb1 HP8.out.lt
          have c0 : w9.cell? ⟨L1.p, 2, none⟩ = some (.pointer (some ⟨L1.gt, 0, none⟩)) := hbk.cell 2
          clear hbk
          go_simp
          exact adds_val rfl
        · have h9 : vs 9 = _ := hgr 9 (by decide)
          have h13 : vs 13 = _ := hgr 13 (by decide)
          clear hgr
          change Made _ (Adds _ _ _) (Sem.run _ (execOp (Act.eval (Act.put (Act.put (frm _ _ _ []) (some 57) (vs 13)) (some 53) (vs 9))) _) _)
          simp only [frm, h9, h13]
          have cM := Marked_any (H8.out.below hb1).tr 0
          rw [b2_card] at cM
          go_simp
          exact adds_still cM
        · have h9 : vs 9 = _ := hgr 9 (by decide)
          have h14 : vs 14 = _ := hgr 14 (by decide)
          clear hgr
          change Made _ (Adds _ _ _) (Sem.run _ (execOp (Act.eval (Act.put (Act.put (frm _ _ _ []) (some 58) (vs 14)) (some 53) (vs 9))) _) _)
          simp only [frm, h9, h14]
          go_simp
          exact adds_val rfl
        · have h15 : vs 15 = _ := hgr 15 (by decide)
          clear hgr
          change Made _ (Adds _ _ _) (Sem.run _ (execOp (Act.eval (Act.put (frm _ _ _ []) (some 59) (vs 15))) _) _)
          simp only [frm, h15]
          go_simp
          exact adds_val rfl
        · have h16 : vs 16 = _ := hgr 16 (by decide)
          clear hgr
          change Made _ (Adds _ _ _) (Sem.run _ (execOp (Act.eval (Act.put (frm _ _ _ []) (some 60) (vs 16))) _) _)
          simp only [frm, h16]
          go_simp
          exact adds_val rfl
        · have h16 : vs 16 = _ := hgr 16 (by decide)
          have h17 : vs 17 = _ := hgr 17 (by decide)
          clear hgr
          change Made _ (Adds _ _ _) (Sem.run _ (execOp (Act.eval (Act.put (Act.put (frm _ _ _ []) (some 61) (vs 17)) (some 60) (vs 16))) _) _)
          simp only [frm, h16, h17]
          go_simp
          exact adds_val rfl
        · have h16 : vs 16 = _ := hgr 16 (by decide)
          have h18 : vs 18 = _ := hgr 18 (by decide)
          clear hgr
          change Made _ (Adds _ _ _) (Sem.run _ (execOp (Act.eval (Act.put (Act.put (frm _ _ _ []) (some 62) (vs 18)) (some 60) (vs 16))) _) _)
          simp only [frm, h16, h18]
          go_simp
          exact adds_val rfl
        · have h16 : vs 16 = _ := hgr 16 (by decide)
          have h19 : vs 19 = _ := hgr 19 (by decide)
          clear hgr
          change Made _ (Adds _ _ _) (Sem.run _ (execOp (Act.eval (Act.put (Act.put (frm _ _ _ []) (some 63) (vs 19)) (some 60) (vs 16))) _) _)
          simp only [frm, h16, h19]
          have hbk := HP8.out.below hb1 HP8.out.lt
          have c0 : w9.cell? ⟨L1.p, 0, none⟩ = some (.pointer (some ⟨L1.g1, 0, none⟩)) := hbk.cell 0
          have c1 : w9.cell? ⟨L1.p, 1, none⟩ = some (.pointer (some ⟨L1.g2, 0, none⟩)) := hbk.cell 1
          clear hbk
          go_simp
          exact adds_val rfl
        · have h16 : vs 16 = _ := hgr 16 (by decide)
          clear hgr
          change Made _ (Adds _ _ _) (Sem.run _ (execOp (Act.eval (Act.put (frm _ _ _ []) (some 60) (vs 16))) _) _)
          simp only [frm, h16]
          go_simp
          exact adds_val rfl
        · have h16 : vs 16 = _ := hgr 16 (by decide)
          have h21 : vs 21 = _ := hgr 21 (by decide)
          clear hgr
          change Made _ (Adds _ _ _) (Sem.run _ (execOp (Act.eval (Act.put (Act.put (frm _ _ _ []) (some 65) (vs 21)) (some 60) (vs 16))) _) _)
          simp only [frm, h16, h21]
          go_simp
          exact adds_val rfl
        · have h16 : vs 16 = _ := hgr 16 (by decide)
          have h22 : vs 22 = _ := hgr 22 (by decide)
          clear hgr
          change Made _ (Adds _ _ _) (Sem.run _ (execOp (Act.eval (Act.put (Act.put (frm _ _ _ []) (some 66) (vs 22)) (some 60) (vs 16))) _) _)
          simp only [frm, h16, h22]
          go_simp
          exact adds_val rfl
        · have h16 : vs 16 = _ := hgr 16 (by decide)
          have h23 : vs 23 = _ := hgr 23 (by decide)
          clear hgr
          change Made _ (Adds _ _ _) (Sem.run _ (execOp (Act.eval (Act.put (Act.put (frm _ _ _ []) (some 67) (vs 23)) (some 60) (vs 16))) _) _)
          simp only [frm, h16, h23]
          have hbk := HP8.out.below hb1 HP8.out.lt
          have c0 : w9.cell? ⟨L1.p, 2, none⟩ = some (.pointer (some ⟨L1.gt, 0, none⟩)) := hbk.cell 2
          clear hbk
          go_simp
          exact adds_val rfl
        · have h16 : vs 16 = _ := hgr 16 (by decide)
          have h20 : vs 20 = _ := hgr 20 (by decide)
          have h24 : vs 24 = _ := hgr 24 (by decide)
          clear hgr
          change Made _ (Adds _ _ _) (Sem.run _ (execOp (Act.eval (Act.put (Act.put (Act.put (frm _ _ _ []) (some 68) (vs 24)) (some 64) (vs 20)) (some 60) (vs 16))) _) _)
          simp only [frm, h16, h20, h24]
          have cM := Covered_any (H8.out.below hb1).mr (H8.out.below hb1).tr
          rw [b2_cov] at cM
          go_simp
          exact adds_below cM
        · have h16 : vs 16 = _ := hgr 16 (by decide)
          have h25 : vs 25 = _ := hgr 25 (by decide)
          clear hgr
          change Made _ (Adds _ _ _) (Sem.run _ (execOp (Act.eval (Act.put (Act.put (frm _ _ _ []) (some 69) (vs 25)) (some 60) (vs 16))) _) _)
          simp only [frm, h16, h25]
          go_simp
          exact adds_val rfl
        · have h26 : vs 26 = _ := hgr 26 (by decide)
          clear hgr
          change Made _ (Adds _ _ _) (Sem.run _ (execOp (Act.eval (Act.put (frm _ _ _ []) (some 70) (vs 26))) _) _)
          simp only [frm, h26]
          go_simp
          exact adds_val rfl
        · have h27 : vs 27 = _ := hgr 27 (by decide)
          clear hgr
          change Made _ (Adds _ _ _) (Sem.run _ (execOp (Act.eval (Act.put (frm _ _ _ []) (some 71) (vs 27))) _) _)
          simp only [frm, h27]
          go_simp
          exact adds_val rfl
        · have h27 : vs 27 = _ := hgr 27 (by decide)
          have h28 : vs 28 = _ := hgr 28 (by decide)
          clear hgr
          change Made _ (Adds _ _ _) (Sem.run _ (execOp (Act.eval (Act.put (Act.put (frm _ _ _ []) (some 72) (vs 28)) (some 71) (vs 27))) _) _)
          simp only [frm, h27, h28]
          go_simp
          exact adds_val rfl
        · have h27 : vs 27 = _ := hgr 27 (by decide)
          have h29 : vs 29 = _ := hgr 29 (by decide)
          clear hgr
          change Made _ (Adds _ _ _) (Sem.run _ (execOp (Act.eval (Act.put (Act.put (frm _ _ _ []) (some 73) (vs 29)) (some 71) (vs 27))) _) _)
          simp only [frm, h27, h29]
          go_simp
          exact adds_val rfl
        · have h27 : vs 27 = _ := hgr 27 (by decide)
          have h30 : vs 30 = _ := hgr 30 (by decide)
          clear hgr
          change Made _ (Adds _ _ _) (Sem.run _ (execOp (Act.eval (Act.put (Act.put (frm _ _ _ []) (some 74) (vs 30)) (some 71) (vs 27))) _) _)
          simp only [frm, h27, h30]
          have hbk := HP8.out.below hb1 HP8.out.lt
          have c0 : w9.cell? ⟨L1.p, 0, none⟩ = some (.pointer (some ⟨L1.g1, 0, none⟩)) := hbk.cell 0
          have c1 : w9.cell? ⟨L1.p, 1, none⟩ = some (.pointer (some ⟨L1.g2, 0, none⟩)) := hbk.cell 1
          clear hbk
          go_simp
          exact adds_val rfl
        · have h27 : vs 27 = _ := hgr 27 (by decide)
          have h31 : vs 31 = _ := hgr 31 (by decide)
          clear hgr
          change Made _ (Adds _ _ _) (Sem.run _ (execOp (Act.eval (Act.put (Act.put (frm _ _ _ []) (some 75) (vs 31)) (some 71) (vs 27))) _) _)
          simp only [frm, h27, h31]
          have cM := Crossing_any (H8.out.below hb1).mr
          rw [b2_all] at cM
          go_simp
          exact adds_call (T := SliceT [3]) (hT := SliceT.below) (ob := fun _ => none) cM fun e w2 ⟨v, he, ho, hb⟩ => ⟨v, he, SliceT.own ho, hb, (fun k hk => nomatch hk)⟩
        · have h27 : vs 27 = _ := hgr 27 (by decide)
          obtain ⟨A2, c2, h32, hl2, hs2⟩ := hgr 32 (by decide)
          clear hgr
          change Made _ (Adds _ _ _) (Sem.run _ (execOp (Act.eval (Act.put (Act.put (frm _ _ _ []) (some 76) (vs 32)) (some 71) (vs 27))) _) _)
          simp only [frm, h27, h32]
          go_simp
          exact adds_val rfl
        · have h27 : vs 27 = _ := hgr 27 (by decide)
          have h33 : vs 33 = _ := hgr 33 (by decide)
          clear hgr
          change Made _ (Adds _ _ _) (Sem.run _ (execOp (Act.eval (Act.put (Act.put (frm _ _ _ []) (some 77) (vs 33)) (some 71) (vs 27))) _) _)
          simp only [frm, h27, h33]
          go_simp
          exact adds_val rfl
        · have h27 : vs 27 = _ := hgr 27 (by decide)
          have h34 : vs 34 = _ := hgr 34 (by decide)
          clear hgr
          change Made _ (Adds _ _ _) (Sem.run _ (execOp (Act.eval (Act.put (Act.put (frm _ _ _ []) (some 78) (vs 34)) (some 71) (vs 27))) _) _)
          simp only [frm, h27, h34]
          go_simp
          exact adds_val rfl
      · intro vs w9 hb1 hall hap
        have h35 : vs 35 = _ := (hall 35 (by omega)).1
        clear hall hap
        change wpList _ _ _ [_] (Act.put (Act.put (Act.put (Act.put (Act.put (Act.put (Act.put (Act.put (Act.put (Act.put (Act.put (Act.put (Act.put (Act.put (Act.put (Act.put (Act.put (Act.put (Act.put (Act.put (Act.put (Act.put (Act.put (Act.put (Act.put (Act.put (Act.put (Act.put (Act.put (Act.put (Act.put (Act.put (Act.put (Act.put (Act.put (Act.put (frm _ _ _ []) (some 79) (vs 35)) (some 78) (vs 34)) (some 77) (vs 33)) (some 76) (vs 32)) (some 75) (vs 31)) (some 74) (vs 30)) (some 73) (vs 29)) (some 72) (vs 28)) (some 71) (vs 27)) (some 70) (vs 26)) (some 69) (vs 25)) (some 68) (vs 24)) (some 67) (vs 23)) (some 66) (vs 22)) (some 65) (vs 21)) (some 64) (vs 20)) (some 63) (vs 19)) (some 62) (vs 18)) (some 61) (vs 17)) (some 60) (vs 16)) (some 59) (vs 15)) (some 58) (vs 14)) (some 57) (vs 13)) (some 56) (vs 12)) (some 55) (vs 11)) (some 54) (vs 10)) (some 53) (vs 9)) (some 52) (vs 8)) (some 51) (vs 7)) (some 50) (vs 6)) (some 49) (vs 5)) (some 48) (vs 4)) (some 47) (vs 3)) (some 46) (vs 2)) (some 45) (vs 1)) (some 44) (vs 0)) _
        simp only [frm, h35]
        go_wp2_with fail
        go_ret
        exact ⟨rfl, HB8.out.trans (hb1.mono HB8.out.size)⟩
end
end Go.Proofs.YtaecdpijpdfboaaGreat
