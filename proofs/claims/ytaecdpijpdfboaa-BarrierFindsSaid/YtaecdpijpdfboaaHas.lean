/- BarrierFinds: the closure that looks a slot up among the remembered. (printed by gen/has.py) -/
import Derived.Test.YtaecdpijpdfboaaAwake9
import Derived.Test.YtaecdpijpdfboaaSepG
namespace Go.Proofs.Ytaecdpijpdfboaa
set_option linter.unusedVariables false
set_option linter.unusedSimpArgs false
set_option linter.unusedSectionVars false
open Go.RowKit Go.Sort Go.Shelf
attribute [local go_sem] Oper.semAt_some onlyN_normal
set_option maxRecDepth 100000

section
variable {w : World} {B k : Nat} {L : LP} {m m2 : Mm} {cs cs2 xs : List Int} {b9 b11 b6 : Nat} {at_ i : Int}
set_option maxHeartbeats 4000000 in
theorem has_any (h : LV w B L k m cs m2 cs2 xs) (h9 : Bk w b9 24 #[.pointer (some ⟨L.p, 0, none⟩)]) (h11 : Bk w b11 3 #[.int .i64 at_]) (h6 : Bk w b6 3 #[.int .i64 i]) (hr : 0 ≤ at_ ∧ at_ < 16777216 ∧ 0 ≤ i ∧ i ≤ 1000) :
    Calls Try.prog 16 #[.pointer (some ⟨b9, 0, none⟩), .pointer (some ⟨b11, 0, none⟩), .pointer (some ⟨b6, 0, none⟩)] w fun e w' => e = .returned (.bool (decide (at_ + 2 + i ∈ m.crossing (cardIn cs)))) ∧ Below w.heap.size w w' := by
  have H9 := Lib.hid h9
  have H11 := Lib.hid h11
  have H6 := Lib.hid h6
  have HP3 : Hid (Bk w L.p 41 (L.cells m2 cs2 xs)) := Lib.hid h.hd
  have HR := Lib.hid hr
  have CL : Hid ((m.crossing (cardIn cs)).length ≤ 140737488355328) := Lib.hid (h.mr.ok.crossing_len _)
  have H3 := Lib.hid h
  clear h h9 h11 h6 hr
  go_enter Try.func16, Try.ntmps16
  go_upto_region 1 with fail
  refine wp_region_all 11 (fun i => ([[], [0], [1], [2], [], [4], [5], [6], [3, 7], [8], []] : List (List Nat)).getD i []) (EL [Ent.val (.pointer (some ⟨L.p, 0, none⟩)), Ent.val (.pointer (some ⟨L.p, 0, none⟩)), Ent.val (.pointer (some ⟨L.p, 0, none⟩)), Ent.val (.agg #[.pointer (some ⟨L.g1, 0, none⟩), .pointer (some ⟨L.g2, 0, none⟩)]), Ent.val (.pointer (some ⟨L.p, 0, none⟩)), Ent.val (.pointer (some ⟨L.p, 0, none⟩)), Ent.val (.pointer (some ⟨L.p, 2, none⟩)), Ent.val (.pointer (some ⟨L.gt, 0, none⟩)), Ent.of (SliceT (m.crossing (cardIn cs))) SliceT.below, Ent.val (.int .i64 ((m.crossing (cardIn cs)).length : Int)), Ent.val (.int .i64 0)]) rfl (by kernel_rfl) (by rfl) (by kernel_rfl) (by kernel_rfl) (by rfl) ?_ ?_
  · intro i hi o ho vs w1 hb1 hgr
    rcases (show i = 0 ∨ i = 1 ∨ i = 2 ∨ i = 3 ∨ i = 4 ∨ i = 5 ∨ i = 6 ∨ i = 7 ∨ i = 8 ∨ i = 9 ∨ i = 10 by omega) with rfl | rfl | rfl | rfl | rfl | rfl | rfl | rfl | rfl | rfl | rfl <;> cases ho
    · clear hgr
      change Made _ (Adds _ _ _) (Sem.run _ (execOp (Act.eval (frm _ _ _ [])) _) _)
      simp only [frm]
      have hbk := H9.out.below hb1 H9.out.lt
      have c0 : w1.cell? ⟨b9, 0, none⟩ = some (.pointer (some ⟨L.p, 0, none⟩)) := hbk.cell 0
      clear hbk
      go_simp
      exact adds_val rfl
    · have h0 : vs 0 = _ := hgr 0 (by decide)
      clear hgr
      change Made _ (Adds _ _ _) (Sem.run _ (execOp (Act.eval (Act.put (frm _ _ _ []) (some 6) (vs 0))) _) _)
      simp only [frm, h0]
      go_simp
      exact adds_val rfl
    · have h1 : vs 1 = _ := hgr 1 (by decide)
      clear hgr
      change Made _ (Adds _ _ _) (Sem.run _ (execOp (Act.eval (Act.put (frm _ _ _ []) (some 7) (vs 1))) _) _)
      simp only [frm, h1]
      go_simp
      exact adds_val rfl
    · have h2 : vs 2 = _ := hgr 2 (by decide)
      clear hgr
      change Made _ (Adds _ _ _) (Sem.run _ (execOp (Act.eval (Act.put (frm _ _ _ []) (some 8) (vs 2))) _) _)
      simp only [frm, h2]
      have hbk := HP3.out.below hb1 HP3.out.lt
      have c0 : w1.cell? ⟨L.p, 0, none⟩ = some (.pointer (some ⟨L.g1, 0, none⟩)) := hbk.cell 0
      have c1 : w1.cell? ⟨L.p, 1, none⟩ = some (.pointer (some ⟨L.g2, 0, none⟩)) := hbk.cell 1
      clear hbk
      go_simp
      exact adds_val rfl
    · clear hgr
      change Made _ (Adds _ _ _) (Sem.run _ (execOp (Act.eval (frm _ _ _ [])) _) _)
      simp only [frm]
      have hbk := H9.out.below hb1 H9.out.lt
      have c0 : w1.cell? ⟨b9, 0, none⟩ = some (.pointer (some ⟨L.p, 0, none⟩)) := hbk.cell 0
      clear hbk
      go_simp
      exact adds_val rfl
    · have h4 : vs 4 = _ := hgr 4 (by decide)
      clear hgr
      change Made _ (Adds _ _ _) (Sem.run _ (execOp (Act.eval (Act.put (frm _ _ _ []) (some 10) (vs 4))) _) _)
      simp only [frm, h4]
      go_simp
      exact adds_val rfl
    · have h5 : vs 5 = _ := hgr 5 (by decide)
      clear hgr
      change Made _ (Adds _ _ _) (Sem.run _ (execOp (Act.eval (Act.put (frm _ _ _ []) (some 11) (vs 5))) _) _)
      simp only [frm, h5]
      go_simp
      exact adds_val rfl
    · have h6 : vs 6 = _ := hgr 6 (by decide)
      clear hgr
      change Made _ (Adds _ _ _) (Sem.run _ (execOp (Act.eval (Act.put (frm _ _ _ []) (some 12) (vs 6))) _) _)
      simp only [frm, h6]
      have hbk := HP3.out.below hb1 HP3.out.lt
      have c0 : w1.cell? ⟨L.p, 2, none⟩ = some (.pointer (some ⟨L.gt, 0, none⟩)) := hbk.cell 2
      clear hbk
      go_simp
      exact adds_val rfl
    · have h3 : vs 3 = _ := hgr 3 (by decide)
      have h7 : vs 7 = _ := hgr 7 (by decide)
      clear hgr
      change Made _ (Adds _ _ _) (Sem.run _ (execOp (Act.eval (Act.put (Act.put (frm _ _ _ []) (some 13) (vs 7)) (some 9) (vs 3))) _) _)
      simp only [frm, h3, h7]
      have cM := Remembered_any (H3.out.below hb1).mr (H3.out.below hb1).tr
      go_simp
      exact adds_call (T := SliceT (m.crossing (cardIn cs))) (hT := SliceT.below) (ob := fun _ => none) cM fun e w2 ⟨v, he, ho, hb⟩ => ⟨v, he, SliceT.own ho, hb, (fun k hk => nomatch hk)⟩
    · obtain ⟨A8, c8, h8, l8, s8⟩ := hgr 8 (by decide)
      clear hgr
      change Made _ (Adds _ _ _) (Sem.run _ (execOp (Act.eval (Act.put (frm _ _ _ []) (some 14) (vs 8))) _) _)
      simp only [frm, h8]
      go_simp
      exact adds_val rfl
    · clear hgr
      change Made _ (Adds _ _ _) (Sem.run _ (execOp (Act.eval (frm _ _ _ [])) _) _)
      simp only [frm]
      go_simp
      exact adds_val rfl
  · intro vs w1 hb1 hall hap
    obtain ⟨A8, c8, h8, l8, s8⟩ := (hall 8 (by omega)).1
    have h9 : vs 9 = _ := (hall 9 (by omega)).1
    have h10 : vs 10 = _ := (hall 10 (by omega)).1
    clear hall hap
    change wpList _ _ _ [] (Act.put (Act.put (Act.put (Act.put (Act.put (Act.put (Act.put (Act.put (Act.put (Act.put (Act.put (frm _ _ _ []) (some 16) (vs 10)) (some 15) (vs 9)) (some 14) (vs 8)) (some 13) (vs 7)) (some 12) (vs 6)) (some 11) (vs 5)) (some 10) (vs 4)) (some 9) (vs 3)) (some 8) (vs 2)) (some 7) (vs 1)) (some 6) (vs 0)) _
    simp only [frm, h8, h9, h10]
    have HB1 := Lib.hid hb1
    have HS := Lib.hid s8
    have HL := Lib.hid l8
    have hcr : ∃ R, R = m.crossing (cardIn cs) := ⟨_, rfl⟩
    obtain ⟨R, hR⟩ := hcr
    rw [← hR] at HS HL CL ⊢
    have d1 : w1.cell? ⟨b11, 0, none⟩ = some (.int .i64 at_) := (H11.out.below hb1 H11.out.lt).cell 0
    have d2 : w1.cell? ⟨b6, 0, none⟩ = some (.int .i64 i) := (H6.out.below hb1 H6.out.lt).cell 0
    have HRR := Lib.hid hR
    clear hb1 s8 l8 hR h8 h9 h10
    go_wp2_with fail
    simp only [Act.put, List.setIfInBounds_toArray, List.set_cons_succ, List.set_cons_zero]
    go_loopw [16] (fun i_ wr => ∃ q n : Nat, i_ = .int .i64 (q : Int) ∧ q ≤ R.length ∧ wr = w1.drewN n ∧ ∀ y ∈ R.take q, y ≠ at_ + 2 + i) (fun i_ _ => R.length - (intOf i_).toNat)
    case atStart => exact ⟨0, 0, rfl, Nat.zero_le _, rfl, fun y hy => by cases hy⟩
    case round =>
      obtain ⟨q, n, rfl, hq, rfl, hnin⟩ := hrel
      have HN := Lib.hid hnin
      clear hnin
      have CLo := CL.out
      have HRo := HR.out
      by_cases hlt : q < R.length
      · obtain ⟨bb, oo, rfl, hb1, hc1⟩ := HS.out.get hlt
        have e1 : w1.cell? ⟨bb, oo + q, none⟩ = some (.int .i64 R[q]) := hc1 q _ (by simp [ints, hlt])
        have t1 : R[q]? = some R[q] := List.getElem?_eq_getElem hlt
        generalize R[q] = y at e1 t1
        have HT := Lib.hid t1
        have hcc : q < c8 := Nat.lt_of_lt_of_le hlt HL.out
        clear t1 hc1
        have x1 : (Lit.int .i64 (at_ + 2)).wf = true := WalkArith.wf_i64 (by omega)
        have x2 : (Lit.int .i64 (at_ + 2 + i)).wf = true := WalkArith.wf_i64 (by omega)
        by_cases hxy : y = at_ + 2 + i
        · have HXY := Lib.hid hxy
          go_wp2_with fail
          go_ret
          rw [← HRR.out]
          exact ⟨ret_bool (decide_eq_true (HXY.out ▸ List.mem_of_getElem? HT.out)).symm, below_drewN HB1.out n⟩
        · have HXY := Lib.hid hxy
          go_wp2_with fail
          go_roundw
          case rel =>
            refine ⟨q + 1, n, by go_num, by omega, rfl, fun z hz => ?_⟩
            rw [List.take_add_one, HT.out] at hz
            rcases List.mem_append.1 hz with hz | hz
            · exact HN.out z hz
            · have hz2 : z = y := by simpa using hz
              rw [hz2]
              exact HXY.out
          case measure => simp [intOf]; omega
      · go_wp2_with fail
        go_ret
        rw [← HRR.out]
        refine ⟨ret_bool (decide_eq_false fun hm => HN.out _ (by rw [List.take_of_length_le (by omega)]; exact hm) rfl).symm, below_drewN HB1.out n⟩
end
end Go.Proofs.Ytaecdpijpdfboaa
