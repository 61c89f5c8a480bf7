/- BarrierCovers: a memory that is changed only by allocations and by Store is covered. (printed by gen/covers.py) -/
import Derived.Test.YtaecdpijpdfboaaAwake9
namespace Go.Proofs.Ytaecdpijpdfboaa
set_option linter.unusedVariables false
set_option linter.unusedSimpArgs false
set_option linter.unusedSectionVars false
open Go.RowKit Go.Sort Go.Shelf
attribute [local go_sem] Oper.semAt_some onlyN_normal
set_option maxRecDepth 100000

theorem opsOk_of {w : World} {A : Option Addr} {n : Nat} {ops : List OpV} (hs : SlR OpR w 9 A n ops) : opsOk ops := hs.all fun x r h => ⟨h.2.k0, h.2.w⟩
section
variable {w : World} {ops : List OpV} {A : Option Addr} {n c : Nat}
set_option maxHeartbeats 4000000 in
theorem covers_big (hn : 24 < n) (hb : n ≤ 140737488351232) : Calls Try.prog 3 #[.slice A n c] w fun e w' => e = .returned (.bool true) ∧ Below w.heap.size w w' := by
  have cA := fun w => awake_any (w := w)
  go_enter Try.func3, Try.ntmps3
  go_wp2_with fail
  refine (cA _).mono ?_
  rintro e w1 ⟨rfl, hb1⟩
  have HB1 := Lib.hid hb1
  clear hb1
  go_wp2_with fail
  refine (cA _).mono ?_
  rintro e w2 ⟨rfl, hb2⟩
  have HB2 := Lib.hid (HB1.out.trans (hb2.mono HB1.out.size))
  clear hb2
  go_wp2_with fail
  go_ret
  exact ⟨rfl, HB2.out⟩
set_option maxHeartbeats 4000000 in
theorem covers_main (hs : SlR OpR w 9 A n ops) (hc : n ≤ c) (hn : n ≤ 24) : Calls Try.prog 3 #[.slice A n c] w fun e w' => e = .returned (.bool true) ∧ Below w.heap.size w w' := by
  have cA := awake_any (w := w)
  have cP := fun {w1 : World} (hb : Below w.heap.size w w1) => play2_any (hs.keep hb.size (keep_below hb) OpR.keep) hc hn
  obtain ⟨s, hst⟩ : ∃ s, s = St.new.play 2 ops := ⟨_, rfl⟩
  have hcov : CovI s := hst ▸ CovI.new.play (opsOk_of hs)
  have COV := Lib.hid hcov.covered
  have OKM := Lib.hid hcov.ok
  rw [← hst] at cP
  clear hs hcov hst
  go_enter Try.func3, Try.ntmps3
  go_wp2_with fail
  refine cA.mono ?_
  rintro e w1 ⟨rfl, hb1⟩
  have HB1 := Lib.hid hb1
  have cP := cP hb1
  clear hb1 cA
  go_wp2_with fail
  refine cP.mono ?_
  rintro e w3 ⟨L, k, rfl, hk, h3, hb3⟩
  have HB3 := Lib.hid (HB1.out.trans (hb3.mono HB1.out.size))
  have HP3 : Hid (Bk w3 L.p 41 (L.cells s.m s.cs s.xs)) := Lib.hid h3.hd
  have H3 := Lib.hid h3
  clear h3 hb3 hk cP
  go_upto_region 4 with fail
  refine wp_region_addsG 29 (fun i => ([[], [0], [1], [1, 2], [1, 3], [1, 4], [1], [1, 6], [1, 7], [1, 8], [1, 5, 9], [1, 10], [11], [12], [12, 13], [12, 14], [12, 15], [12, 16], [12], [12, 18], [12, 19], [12, 20], [12], [12, 22], [12, 23], [12, 24], [12, 21, 25], [12, 17, 26], [12, 27]] : List (List Nat)).getD i []) (EL [Ent.val (.bool true), Ent.val (.bool true), Ent.val (.pointer (some ⟨L.p, 0, none⟩)), Ent.val (.pointer (some ⟨L.p, 0, none⟩)), Ent.val (.pointer (some ⟨L.p, 0, none⟩)), Ent.val (.agg #[.pointer (some ⟨L.g1, 0, none⟩), .pointer (some ⟨L.g2, 0, none⟩)]), Ent.val (.pointer (some ⟨L.p, 0, none⟩)), Ent.val (.pointer (some ⟨L.p, 0, none⟩)), Ent.val (.pointer (some ⟨L.p, 2, none⟩)), Ent.val (.pointer (some ⟨L.gt, 0, none⟩)), Ent.val (.bool true), Ent.val (.bool true), Ent.val (.bool true), Ent.val (.pointer (some ⟨L.p, 0, none⟩)), Ent.val (.pointer (some ⟨L.p, 0, none⟩)), Ent.val (.pointer (some ⟨L.p, 0, none⟩)), Ent.val (.agg #[.pointer (some ⟨L.g1, 0, none⟩), .pointer (some ⟨L.g2, 0, none⟩)]), Ent.of (SliceT (s.m.crossing fun _ => true)) SliceT.below, Ent.val (.pointer (some ⟨L.p, 0, none⟩)), Ent.val (.pointer (some ⟨L.p, 0, none⟩)), Ent.val (.pointer (some ⟨L.p, 0, none⟩)), Ent.val (.agg #[.pointer (some ⟨L.g1, 0, none⟩), .pointer (some ⟨L.g2, 0, none⟩)]), Ent.val (.pointer (some ⟨L.p, 0, none⟩)), Ent.val (.pointer (some ⟨L.p, 0, none⟩)), Ent.val (.pointer (some ⟨L.p, 2, none⟩)), Ent.val (.pointer (some ⟨L.gt, 0, none⟩)), Ent.of (SliceT (s.m.crossing (cardIn s.cs))) SliceT.below, Ent.val (.bool true), Ent.val (.bool true)]) (by kernel_rfl) (by kernel_rfl) (by kernel_rfl) (by rfl) ?_ ?_ ?_
  · intro i hi o ho g b hgb vs v w4 hR
    rcases (show i = 0 ∨ i = 1 ∨ i = 2 ∨ i = 3 ∨ i = 4 ∨ i = 5 ∨ i = 6 ∨ i = 7 ∨ i = 8 ∨ i = 9 ∨ i = 10 ∨ i = 11 ∨ i = 12 ∨ i = 13 ∨ i = 14 ∨ i = 15 ∨ i = 16 ∨ i = 17 ∨ i = 18 ∨ i = 19 ∨ i = 20 ∨ i = 21 ∨ i = 22 ∨ i = 23 ∨ i = 24 ∨ i = 25 ∨ i = 26 ∨ i = 27 ∨ i = 28 by omega) with rfl | rfl | rfl | rfl | rfl | rfl | rfl | rfl | rfl | rfl | rfl | rfl | rfl | rfl | rfl | rfl | rfl | rfl | rfl | rfl | rfl | rfl | rfl | rfl | rfl | rfl | rfl | rfl | rfl <;> cases ho <;> first | (cases hgb; exact hR) | cases hgb
  · intro i hi o ho vs w4 hb1 hgr
    rcases (show i = 0 ∨ i = 1 ∨ i = 2 ∨ i = 3 ∨ i = 4 ∨ i = 5 ∨ i = 6 ∨ i = 7 ∨ i = 8 ∨ i = 9 ∨ i = 10 ∨ i = 11 ∨ i = 12 ∨ i = 13 ∨ i = 14 ∨ i = 15 ∨ i = 16 ∨ i = 17 ∨ i = 18 ∨ i = 19 ∨ i = 20 ∨ i = 21 ∨ i = 22 ∨ i = 23 ∨ i = 24 ∨ i = 25 ∨ i = 26 ∨ i = 27 ∨ i = 28 by omega) with rfl | rfl | rfl | rfl | rfl | rfl | rfl | rfl | rfl | rfl | rfl | rfl | rfl | rfl | rfl | rfl | rfl | rfl | rfl | rfl | rfl | rfl | rfl | rfl | rfl | rfl | rfl | rfl | rfl <;> cases ho
    · clear hgr
      change Made _ (Adds _ _ _) (Sem.run _ (execOp (Act.eval (frm _ _ _ [])) _) _)
      simp only [frm]
      go_simp
      exact adds_val rfl
    · have h0 : vs 0 = _ := hgr 0 (by decide)
      clear hgr
      change Made _ (Adds _ _ _) (Sem.run _ (execOp (Act.eval (Act.put (frm _ _ _ []) (some 18) (vs 0))) _) _)
      simp only [frm, h0]
      go_simp
      exact adds_val rfl
    · have h1 : vs 1 = _ := hgr 1 (by decide)
      clear hgr
      change Made _ (Adds _ _ _) (Sem.run _ (execOp (Act.eval (Act.put (frm _ _ _ []) (some 19) (vs 1))) _) _)
      simp only [frm, h1]
      go_simp
      exact adds_val rfl
    · have h1 : vs 1 = _ := hgr 1 (by decide)
      have h2 : vs 2 = _ := hgr 2 (by decide)
      clear hgr
      change Made _ (Adds _ _ _) (Sem.run _ (execOp (Act.eval (Act.put (Act.put (frm _ _ _ []) (some 20) (vs 2)) (some 19) (vs 1))) _) _)
      simp only [frm, h1, h2]
      go_simp
      exact adds_val rfl
    · have h1 : vs 1 = _ := hgr 1 (by decide)
      have h3 : vs 3 = _ := hgr 3 (by decide)
      clear hgr
      change Made _ (Adds _ _ _) (Sem.run _ (execOp (Act.eval (Act.put (Act.put (frm _ _ _ []) (some 21) (vs 3)) (some 19) (vs 1))) _) _)
      simp only [frm, h1, h3]
      go_simp
      exact adds_val rfl
    · have h1 : vs 1 = _ := hgr 1 (by decide)
      have h4 : vs 4 = _ := hgr 4 (by decide)
      clear hgr
      change Made _ (Adds _ _ _) (Sem.run _ (execOp (Act.eval (Act.put (Act.put (frm _ _ _ []) (some 22) (vs 4)) (some 19) (vs 1))) _) _)
      simp only [frm, h1, h4]
      have hbk := HP3.out.below hb1 HP3.out.lt
      have c0 : w4.cell? ⟨L.p, 0, none⟩ = some (.pointer (some ⟨L.g1, 0, none⟩)) := hbk.cell 0
      have c1 : w4.cell? ⟨L.p, 1, none⟩ = some (.pointer (some ⟨L.g2, 0, none⟩)) := hbk.cell 1
      clear hbk
      go_simp
      exact adds_val rfl
    · have h1 : vs 1 = _ := hgr 1 (by decide)
      clear hgr
      change Made _ (Adds _ _ _) (Sem.run _ (execOp (Act.eval (Act.put (frm _ _ _ []) (some 19) (vs 1))) _) _)
      simp only [frm, h1]
      go_simp
      exact adds_val rfl
    · have h1 : vs 1 = _ := hgr 1 (by decide)
      have h6 : vs 6 = _ := hgr 6 (by decide)
      clear hgr
      change Made _ (Adds _ _ _) (Sem.run _ (execOp (Act.eval (Act.put (Act.put (frm _ _ _ []) (some 24) (vs 6)) (some 19) (vs 1))) _) _)
      simp only [frm, h1, h6]
      go_simp
      exact adds_val rfl
    · have h1 : vs 1 = _ := hgr 1 (by decide)
      have h7 : vs 7 = _ := hgr 7 (by decide)
      clear hgr
      change Made _ (Adds _ _ _) (Sem.run _ (execOp (Act.eval (Act.put (Act.put (frm _ _ _ []) (some 25) (vs 7)) (some 19) (vs 1))) _) _)
      simp only [frm, h1, h7]
      go_simp
      exact adds_val rfl
    · have h1 : vs 1 = _ := hgr 1 (by decide)
      have h8 : vs 8 = _ := hgr 8 (by decide)
      clear hgr
      change Made _ (Adds _ _ _) (Sem.run _ (execOp (Act.eval (Act.put (Act.put (frm _ _ _ []) (some 26) (vs 8)) (some 19) (vs 1))) _) _)
      simp only [frm, h1, h8]
      have hbk := HP3.out.below hb1 HP3.out.lt
      have c0 : w4.cell? ⟨L.p, 2, none⟩ = some (.pointer (some ⟨L.gt, 0, none⟩)) := hbk.cell 2
      clear hbk
      go_simp
      exact adds_val rfl
    · have h1 : vs 1 = _ := hgr 1 (by decide)
      have h5 : vs 5 = _ := hgr 5 (by decide)
      have h9 : vs 9 = _ := hgr 9 (by decide)
      clear hgr
      change Made _ (Adds _ _ _) (Sem.run _ (execOp (Act.eval (Act.put (Act.put (Act.put (frm _ _ _ []) (some 27) (vs 9)) (some 23) (vs 5)) (some 19) (vs 1))) _) _)
      simp only [frm, h1, h5, h9]
      have cM := Covered_any (H3.out.below hb1).mr (H3.out.below hb1).tr
      rw [COV.out.1] at cM
      go_simp
      exact adds_below cM
    · have h1 : vs 1 = _ := hgr 1 (by decide)
      have h10 : vs 10 = _ := hgr 10 (by decide)
      clear hgr
      change Made _ (Adds _ _ _) (Sem.run _ (execOp (Act.eval (Act.put (Act.put (frm _ _ _ []) (some 28) (vs 10)) (some 19) (vs 1))) _) _)
      simp only [frm, h1, h10]
      go_simp
      exact adds_val rfl
    · have h11 : vs 11 = _ := hgr 11 (by decide)
      clear hgr
      change Made _ (Adds _ _ _) (Sem.run _ (execOp (Act.eval (Act.put (frm _ _ _ []) (some 29) (vs 11))) _) _)
      simp only [frm, h11]
      go_simp
      exact adds_val rfl
    · have h12 : vs 12 = _ := hgr 12 (by decide)
      clear hgr
      change Made _ (Adds _ _ _) (Sem.run _ (execOp (Act.eval (Act.put (frm _ _ _ []) (some 30) (vs 12))) _) _)
      simp only [frm, h12]
      go_simp
      exact adds_val rfl
    · have h12 : vs 12 = _ := hgr 12 (by decide)
      have h13 : vs 13 = _ := hgr 13 (by decide)
      clear hgr
      change Made _ (Adds _ _ _) (Sem.run _ (execOp (Act.eval (Act.put (Act.put (frm _ _ _ []) (some 31) (vs 13)) (some 30) (vs 12))) _) _)
      simp only [frm, h12, h13]
      go_simp
      exact adds_val rfl
    · have h12 : vs 12 = _ := hgr 12 (by decide)
      have h14 : vs 14 = _ := hgr 14 (by decide)
      clear hgr
      change Made _ (Adds _ _ _) (Sem.run _ (execOp (Act.eval (Act.put (Act.put (frm _ _ _ []) (some 32) (vs 14)) (some 30) (vs 12))) _) _)
      simp only [frm, h12, h14]
      go_simp
      exact adds_val rfl
    · have h12 : vs 12 = _ := hgr 12 (by decide)
      have h15 : vs 15 = _ := hgr 15 (by decide)
      clear hgr
      change Made _ (Adds _ _ _) (Sem.run _ (execOp (Act.eval (Act.put (Act.put (frm _ _ _ []) (some 33) (vs 15)) (some 30) (vs 12))) _) _)
      simp only [frm, h12, h15]
      have hbk := HP3.out.below hb1 HP3.out.lt
      have c0 : w4.cell? ⟨L.p, 0, none⟩ = some (.pointer (some ⟨L.g1, 0, none⟩)) := hbk.cell 0
      have c1 : w4.cell? ⟨L.p, 1, none⟩ = some (.pointer (some ⟨L.g2, 0, none⟩)) := hbk.cell 1
      clear hbk
      go_simp
      exact adds_val rfl
    · have h12 : vs 12 = _ := hgr 12 (by decide)
      have h16 : vs 16 = _ := hgr 16 (by decide)
      clear hgr
      change Made _ (Adds _ _ _) (Sem.run _ (execOp (Act.eval (Act.put (Act.put (frm _ _ _ []) (some 34) (vs 16)) (some 30) (vs 12))) _) _)
      simp only [frm, h12, h16]
      have cM := Crossing_any (H3.out.below hb1).mr
      go_simp
      exact adds_call (T := SliceT (s.m.crossing fun _ => true)) (hT := SliceT.below) (ob := fun _ => none) cM fun e w2 ⟨v, he, ho, hb⟩ => ⟨v, he, SliceT.own ho, hb, (fun k hk => nomatch hk)⟩
    · have h12 : vs 12 = _ := hgr 12 (by decide)
      clear hgr
      change Made _ (Adds _ _ _) (Sem.run _ (execOp (Act.eval (Act.put (frm _ _ _ []) (some 30) (vs 12))) _) _)
      simp only [frm, h12]
      go_simp
      exact adds_val rfl
    · have h12 : vs 12 = _ := hgr 12 (by decide)
      have h18 : vs 18 = _ := hgr 18 (by decide)
      clear hgr
      change Made _ (Adds _ _ _) (Sem.run _ (execOp (Act.eval (Act.put (Act.put (frm _ _ _ []) (some 36) (vs 18)) (some 30) (vs 12))) _) _)
      simp only [frm, h12, h18]
      go_simp
      exact adds_val rfl
    · have h12 : vs 12 = _ := hgr 12 (by decide)
      have h19 : vs 19 = _ := hgr 19 (by decide)
      clear hgr
      change Made _ (Adds _ _ _) (Sem.run _ (execOp (Act.eval (Act.put (Act.put (frm _ _ _ []) (some 37) (vs 19)) (some 30) (vs 12))) _) _)
      simp only [frm, h12, h19]
      go_simp
      exact adds_val rfl
    · have h12 : vs 12 = _ := hgr 12 (by decide)
      have h20 : vs 20 = _ := hgr 20 (by decide)
      clear hgr
      change Made _ (Adds _ _ _) (Sem.run _ (execOp (Act.eval (Act.put (Act.put (frm _ _ _ []) (some 38) (vs 20)) (some 30) (vs 12))) _) _)
      simp only [frm, h12, h20]
      have hbk := HP3.out.below hb1 HP3.out.lt
      have c0 : w4.cell? ⟨L.p, 0, none⟩ = some (.pointer (some ⟨L.g1, 0, none⟩)) := hbk.cell 0
      have c1 : w4.cell? ⟨L.p, 1, none⟩ = some (.pointer (some ⟨L.g2, 0, none⟩)) := hbk.cell 1
      clear hbk
      go_simp
      exact adds_val rfl
    · have h12 : vs 12 = _ := hgr 12 (by decide)
      clear hgr
      change Made _ (Adds _ _ _) (Sem.run _ (execOp (Act.eval (Act.put (frm _ _ _ []) (some 30) (vs 12))) _) _)
      simp only [frm, h12]
      go_simp
      exact adds_val rfl
    · have h12 : vs 12 = _ := hgr 12 (by decide)
      have h22 : vs 22 = _ := hgr 22 (by decide)
      clear hgr
      change Made _ (Adds _ _ _) (Sem.run _ (execOp (Act.eval (Act.put (Act.put (frm _ _ _ []) (some 40) (vs 22)) (some 30) (vs 12))) _) _)
      simp only [frm, h12, h22]
      go_simp
      exact adds_val rfl
    · have h12 : vs 12 = _ := hgr 12 (by decide)
      have h23 : vs 23 = _ := hgr 23 (by decide)
      clear hgr
      change Made _ (Adds _ _ _) (Sem.run _ (execOp (Act.eval (Act.put (Act.put (frm _ _ _ []) (some 41) (vs 23)) (some 30) (vs 12))) _) _)
      simp only [frm, h12, h23]
      go_simp
      exact adds_val rfl
    · have h12 : vs 12 = _ := hgr 12 (by decide)
      have h24 : vs 24 = _ := hgr 24 (by decide)
      clear hgr
      change Made _ (Adds _ _ _) (Sem.run _ (execOp (Act.eval (Act.put (Act.put (frm _ _ _ []) (some 42) (vs 24)) (some 30) (vs 12))) _) _)
      simp only [frm, h12, h24]
      have hbk := HP3.out.below hb1 HP3.out.lt
      have c0 : w4.cell? ⟨L.p, 2, none⟩ = some (.pointer (some ⟨L.gt, 0, none⟩)) := hbk.cell 2
      clear hbk
      go_simp
      exact adds_val rfl
    · have h12 : vs 12 = _ := hgr 12 (by decide)
      have h21 : vs 21 = _ := hgr 21 (by decide)
      have h25 : vs 25 = _ := hgr 25 (by decide)
      clear hgr
      change Made _ (Adds _ _ _) (Sem.run _ (execOp (Act.eval (Act.put (Act.put (Act.put (frm _ _ _ []) (some 43) (vs 25)) (some 39) (vs 21)) (some 30) (vs 12))) _) _)
      simp only [frm, h12, h21, h25]
      have cM := Remembered_any (H3.out.below hb1).mr (H3.out.below hb1).tr
      go_simp
      exact adds_call (T := SliceT (s.m.crossing (cardIn s.cs))) (hT := SliceT.below) (ob := fun _ => none) cM fun e w2 ⟨v, he, ho, hb⟩ => ⟨v, he, SliceT.own ho, hb, (fun k hk => nomatch hk)⟩
    · have h12 : vs 12 = _ := hgr 12 (by decide)
      obtain ⟨A17, c17, h17, l17, s17⟩ := hgr 17 (by decide)
      obtain ⟨A26, c26, h26, l26, s26⟩ := hgr 26 (by decide)
      clear hgr
      change Made _ (Adds _ _ _) (Sem.run _ (execOp (Act.eval (Act.put (Act.put (Act.put (frm _ _ _ []) (some 44) (vs 26)) (some 35) (vs 17)) (some 30) (vs 12))) _) _)
      simp only [frm, h12, h17, h26]
      have cI := Ints_any _ _ A17 A26 c17 c26 w4 (OKM.out.crossing_len _) l17 l26 s17 s26
      rw [show eqL (s.m.crossing fun _ => true) (s.m.crossing (cardIn s.cs)) = true from decide_eq_true COV.out.2] at cI
      go_simp
      exact adds_quiet cI
    · have h12 : vs 12 = _ := hgr 12 (by decide)
      have h27 : vs 27 = _ := hgr 27 (by decide)
      clear hgr
      change Made _ (Adds _ _ _) (Sem.run _ (execOp (Act.eval (Act.put (Act.put (frm _ _ _ []) (some 45) (vs 27)) (some 30) (vs 12))) _) _)
      simp only [frm, h12, h27]
      go_simp
      exact adds_val rfl
  · intro vs w4 hb1 hall hap
    have h28 : vs 28 = _ := (hall 28 (by omega)).1
    clear hall hap
    change wpList _ _ _ [_] (Act.put (Act.put (Act.put (Act.put (Act.put (Act.put (Act.put (Act.put (Act.put (Act.put (Act.put (Act.put (Act.put (Act.put (Act.put (Act.put (Act.put (Act.put (Act.put (Act.put (Act.put (Act.put (Act.put (Act.put (Act.put (Act.put (Act.put (Act.put (Act.put (frm _ _ _ []) (some 46) (vs 28)) (some 45) (vs 27)) (some 44) (vs 26)) (some 43) (vs 25)) (some 42) (vs 24)) (some 41) (vs 23)) (some 40) (vs 22)) (some 39) (vs 21)) (some 38) (vs 20)) (some 37) (vs 19)) (some 36) (vs 18)) (some 35) (vs 17)) (some 34) (vs 16)) (some 33) (vs 15)) (some 32) (vs 14)) (some 31) (vs 13)) (some 30) (vs 12)) (some 29) (vs 11)) (some 28) (vs 10)) (some 27) (vs 9)) (some 26) (vs 8)) (some 25) (vs 7)) (some 24) (vs 6)) (some 23) (vs 5)) (some 22) (vs 4)) (some 21) (vs 3)) (some 20) (vs 2)) (some 19) (vs 1)) (some 18) (vs 0)) _
    simp only [frm, h28]
    go_wp2_with fail
    go_ret
    exact ⟨rfl, HB3.out.trans (hb1.mono HB3.out.size)⟩
theorem covers_any (hs : SlR OpR w 9 A n ops) (hc : n ≤ c) (hb : n ≤ 140737488351232) : Calls Try.prog 3 #[.slice A n c] w fun e w' => e = .returned (.bool true) ∧ Below w.heap.size w w' := by
  by_cases hn : 24 < n
  · exact covers_big hn hb
  · exact covers_main hs hc (by omega)
end
end Go.Proofs.Ytaecdpijpdfboaa
