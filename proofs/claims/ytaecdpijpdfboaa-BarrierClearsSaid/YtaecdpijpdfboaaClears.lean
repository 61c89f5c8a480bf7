/- BarrierClears: with a cleared card table nothing is remembered. (printed by gen/clears.py) -/
import Derived.Test.YtaecdpijpdfboaaAwake9
import Derived.Test.YtaecdpijpdfboaaStepA
namespace Go.Proofs.Ytaecdpijpdfboaa
set_option linter.unusedVariables false
set_option linter.unusedSimpArgs false
set_option linter.unusedSectionVars false
open Go.RowKit Go.Sort Go.Shelf
attribute [local go_sem] Oper.semAt_some onlyN_normal
set_option maxRecDepth 100000

def SliceN (n : Nat) (v : Value) (_ : World) : Prop := ∃ A c, v = .slice A n c
theorem SliceN.below {n : Nat} (v : Value) (w w' : World) (h : SliceN n v w) (_ : Below w.heap.size w w') : SliceN n v w' := h
section
variable {w : World} {ops : List OpV} {A : Option Addr} {n c : Nat}
set_option maxHeartbeats 4000000 in
theorem clears_big (hn : 24 < n) (hb : n ≤ 140737488351232) : Calls Try.prog 5 #[.slice A n c] w fun e w' => e = .returned (.bool true) ∧ Below w.heap.size w w' := by
  have cA := fun w => awake_any (w := w)
  go_enter Try.func5, Try.ntmps5
  go_wp2_with fail
  refine (cA _).mono ?_
  rintro e w1 ⟨rfl, hb1⟩
  have HB1 := Lib.hid hb1
  clear hb1
  go_wp2_with fail
  refine (cA _).mono ?_
  rintro e w2 ⟨rfl, hb2⟩
  have HB2 := Lib.hid (HB1.out.trans (hb2.mono HB1.out.size))
  clear hb2
  go_wp2_with fail
  go_ret
  exact ⟨rfl, HB2.out⟩
set_option maxHeartbeats 4000000 in
theorem clears_main (hs : SlR OpR w 9 A n ops) (hc : n ≤ c) (hn : n ≤ 24) : Calls Try.prog 5 #[.slice A n c] w fun e w' => e = .returned (.bool true) ∧ Below w.heap.size w w' := by
  have cA := awake_any (w := w)
  have cP := fun {w1 : World} (hb : Below w.heap.size w w1) => play255_any (hs.keep hb.size (keep_below hb) OpR.keep) hc hn
  obtain ⟨s, hst⟩ : ∃ s, s = St.new.play 255 ops := ⟨_, rfl⟩
  rw [← hst] at cP
  clear hs hst
  obtain ⟨q, hq⟩ : ∃ q, q = (s.m.crossing fun _ => true).length := ⟨_, rfl⟩
  have HQ := Lib.hid hq
  obtain ⟨cb, hcb⟩ : ∃ cb, cb = decide ((s.m.crossing fun _ => true) = []) := ⟨_, rfl⟩
  have hz : ((q : Int) == 0) = cb := by
    rw [hcb, hq]
    cases (s.m.crossing fun _ => true) <;> simp
    omega
  have HC0 : Hid (s.m.crossing (cardIn []) = []) := Lib.hid (by
    unfold Mm.crossing
    have : (fun s : Int × Int => ygW s.2 && cardIn [] s.1) = fun _ => false := by funext s; simp [cardIn]
    rw [this]
    simp)
  have HC1 : Hid (decide ((s.m.crossing fun a => !cardIn [] a) = []) = cb) := Lib.hid (by
    have : (fun a : Int => !cardIn [] a) = fun _ => true := by funext a; simp [cardIn]
    rw [this, hcb])
  clear hq hcb
  go_enter Try.func5, Try.ntmps5
  go_wp2_with fail
  refine cA.mono ?_
  rintro e w1 ⟨rfl, hb1⟩
  have HB1 := Lib.hid hb1
  have cP := cP hb1
  clear hb1 cA
  go_wp2_with fail
  refine cP.mono ?_
  rintro e w2 ⟨L, k, rfl, hk, h2, hb2⟩
  have HB2 := Lib.hid (HB1.out.trans (hb2.mono HB1.out.size))
  have HB2' := Lib.hid hb2
  have q1 : w2.cell? ⟨L.p, 2, none⟩ = some (.pointer (some ⟨L.gt, 0, none⟩)) := h2.hd.cell 2
  have cC := Clear_any h2.tr
  have H2 := Lib.hid h2
  clear h2 hb2 hk cP
  go_wp2_with fail
  refine cC.mono ?_
  rintro e w3 ⟨rfl, hc3, hk3⟩
  have h3 := H2.out.progC hc3 hk3
  have HB3 := Lib.hid (HB1.out.trans ((H2.out.progCBelow hk3 HB2'.out HB2'.out.size).mono HB1.out.size))
  have HP3 : Hid (Bk w3 L.p 41 (L.cells s.m s.cs s.xs)) := Lib.hid h3.hd
  have H3 := Lib.hid h3
  clear h3 hc3 hk3 cC q1
  go_upto_region 7 with fail
  refine wp_region_addsG 30 (fun i => ([[], [0], [1], [2], [], [4], [5], [6], [3, 7], [8], [9], [10], [11], [11, 12], [11, 13], [11, 14], [11], [11, 16], [11, 17], [11, 18], [11, 15, 19], [11], [11, 21], [11, 22], [11, 23], [11, 24], [11, 25], [11, 26], [11, 20, 27], [11, 28]] : List (List Nat)).getD i []) (EL [Ent.val (.pointer (some ⟨L.p, 0, none⟩)), Ent.val (.pointer (some ⟨L.p, 0, none⟩)), Ent.val (.pointer (some ⟨L.p, 0, none⟩)), Ent.val (.agg #[.pointer (some ⟨L.g1, 0, none⟩), .pointer (some ⟨L.g2, 0, none⟩)]), Ent.val (.pointer (some ⟨L.p, 0, none⟩)), Ent.val (.pointer (some ⟨L.p, 0, none⟩)), Ent.val (.pointer (some ⟨L.p, 2, none⟩)), Ent.val (.pointer (some ⟨L.gt, 0, none⟩)), Ent.of (SliceN 0) SliceN.below, Ent.val (.int .i64 0), Ent.val (.bool true), Ent.val (.bool true), Ent.val (.pointer (some ⟨L.p, 0, none⟩)), Ent.val (.pointer (some ⟨L.p, 0, none⟩)), Ent.val (.pointer (some ⟨L.p, 0, none⟩)), Ent.val (.agg #[.pointer (some ⟨L.g1, 0, none⟩), .pointer (some ⟨L.g2, 0, none⟩)]), Ent.val (.pointer (some ⟨L.p, 0, none⟩)), Ent.val (.pointer (some ⟨L.p, 0, none⟩)), Ent.val (.pointer (some ⟨L.p, 2, none⟩)), Ent.val (.pointer (some ⟨L.gt, 0, none⟩)), Ent.val (.bool cb), Ent.val (.pointer (some ⟨L.p, 0, none⟩)), Ent.val (.pointer (some ⟨L.p, 0, none⟩)), Ent.val (.pointer (some ⟨L.p, 0, none⟩)), Ent.val (.agg #[.pointer (some ⟨L.g1, 0, none⟩), .pointer (some ⟨L.g2, 0, none⟩)]), Ent.of (SliceN q) SliceN.below, Ent.val (.int .i64 q), Ent.val (.bool cb), Ent.val (.bool true), Ent.val (.bool true)]) (by kernel_rfl) (by kernel_rfl) (by kernel_rfl) (by rfl) ?_ ?_ ?_
  · intro i hi o ho g b hgb vs v w4 hR
    rcases (show i = 0 ∨ i = 1 ∨ i = 2 ∨ i = 3 ∨ i = 4 ∨ i = 5 ∨ i = 6 ∨ i = 7 ∨ i = 8 ∨ i = 9 ∨ i = 10 ∨ i = 11 ∨ i = 12 ∨ i = 13 ∨ i = 14 ∨ i = 15 ∨ i = 16 ∨ i = 17 ∨ i = 18 ∨ i = 19 ∨ i = 20 ∨ i = 21 ∨ i = 22 ∨ i = 23 ∨ i = 24 ∨ i = 25 ∨ i = 26 ∨ i = 27 ∨ i = 28 ∨ i = 29 by omega) with rfl | rfl | rfl | rfl | rfl | rfl | rfl | rfl | rfl | rfl | rfl | rfl | rfl | rfl | rfl | rfl | rfl | rfl | rfl | rfl | rfl | rfl | rfl | rfl | rfl | rfl | rfl | rfl | rfl | rfl <;> cases ho <;> first | (cases hgb; exact hR) | cases hgb
  · intro i hi o ho vs w4 hb1 hgr
    rcases (show i = 0 ∨ i = 1 ∨ i = 2 ∨ i = 3 ∨ i = 4 ∨ i = 5 ∨ i = 6 ∨ i = 7 ∨ i = 8 ∨ i = 9 ∨ i = 10 ∨ i = 11 ∨ i = 12 ∨ i = 13 ∨ i = 14 ∨ i = 15 ∨ i = 16 ∨ i = 17 ∨ i = 18 ∨ i = 19 ∨ i = 20 ∨ i = 21 ∨ i = 22 ∨ i = 23 ∨ i = 24 ∨ i = 25 ∨ i = 26 ∨ i = 27 ∨ i = 28 ∨ i = 29 by omega) with rfl | rfl | rfl | rfl | rfl | rfl | rfl | rfl | rfl | rfl | rfl | rfl | rfl | rfl | rfl | rfl | rfl | rfl | rfl | rfl | rfl | rfl | rfl | rfl | rfl | rfl | rfl | rfl | rfl | rfl <;> cases ho
    · clear hgr
      change Made _ (Adds _ _ _) (Sem.run _ (execOp (Act.eval (frm _ _ _ [])) _) _)
      simp only [frm]
      go_simp
      exact adds_val rfl
    · have h0 : vs 0 = _ := hgr 0 (by decide)
      clear hgr
      change Made _ (Adds _ _ _) (Sem.run _ (execOp (Act.eval (Act.put (frm _ _ _ []) (some 25) (vs 0))) _) _)
      simp only [frm, h0]
      go_simp
      exact adds_val rfl
    · have h1 : vs 1 = _ := hgr 1 (by decide)
      clear hgr
      change Made _ (Adds _ _ _) (Sem.run _ (execOp (Act.eval (Act.put (frm _ _ _ []) (some 26) (vs 1))) _) _)
      simp only [frm, h1]
      go_simp
      exact adds_val rfl
    · have h2 : vs 2 = _ := hgr 2 (by decide)
      clear hgr
      change Made _ (Adds _ _ _) (Sem.run _ (execOp (Act.eval (Act.put (frm _ _ _ []) (some 27) (vs 2))) _) _)
      simp only [frm, h2]
      have hbk := HP3.out.below hb1 HP3.out.lt
      have c0 : w4.cell? ⟨L.p, 0, none⟩ = some (.pointer (some ⟨L.g1, 0, none⟩)) := hbk.cell 0
      have c1 : w4.cell? ⟨L.p, 1, none⟩ = some (.pointer (some ⟨L.g2, 0, none⟩)) := hbk.cell 1
      clear hbk
      go_simp
      exact adds_val rfl
    · clear hgr
      change Made _ (Adds _ _ _) (Sem.run _ (execOp (Act.eval (frm _ _ _ [])) _) _)
      simp only [frm]
      go_simp
      exact adds_val rfl
    · have h4 : vs 4 = _ := hgr 4 (by decide)
      clear hgr
      change Made _ (Adds _ _ _) (Sem.run _ (execOp (Act.eval (Act.put (frm _ _ _ []) (some 29) (vs 4))) _) _)
      simp only [frm, h4]
      go_simp
      exact adds_val rfl
    · have h5 : vs 5 = _ := hgr 5 (by decide)
      clear hgr
      change Made _ (Adds _ _ _) (Sem.run _ (execOp (Act.eval (Act.put (frm _ _ _ []) (some 30) (vs 5))) _) _)
      simp only [frm, h5]
      go_simp
      exact adds_val rfl
    · have h6 : vs 6 = _ := hgr 6 (by decide)
      clear hgr
      change Made _ (Adds _ _ _) (Sem.run _ (execOp (Act.eval (Act.put (frm _ _ _ []) (some 31) (vs 6))) _) _)
      simp only [frm, h6]
      have hbk := HP3.out.below hb1 HP3.out.lt
      have c0 : w4.cell? ⟨L.p, 2, none⟩ = some (.pointer (some ⟨L.gt, 0, none⟩)) := hbk.cell 2
      clear hbk
      go_simp
      exact adds_val rfl
    · have h3 : vs 3 = _ := hgr 3 (by decide)
      have h7 : vs 7 = _ := hgr 7 (by decide)
      clear hgr
      change Made _ (Adds _ _ _) (Sem.run _ (execOp (Act.eval (Act.put (Act.put (frm _ _ _ []) (some 32) (vs 7)) (some 28) (vs 3))) _) _)
      simp only [frm, h3, h7]
      have cM := Remembered_any (H3.out.below hb1).mr (H3.out.below hb1).tr
      rw [HC0.out] at cM
      go_simp
      exact adds_call (T := SliceN 0) (hT := SliceN.below) (ob := fun _ => none) cM fun e w2 ⟨v, he, ho, hb⟩ => ⟨v, he, ⟨(own_shape ho).choose, (own_shape ho).choose_spec.choose, (own_shape ho).choose_spec.choose_spec.1⟩, hb, (fun k hk => nomatch hk)⟩
    · obtain ⟨A8, c8, h8⟩ := hgr 8 (by decide)
      clear hgr
      change Made _ (Adds _ _ _) (Sem.run _ (execOp (Act.eval (Act.put (frm _ _ _ []) (some 33) (vs 8))) _) _)
      simp only [frm, h8]
      go_simp
      exact adds_val rfl
    · have h9 : vs 9 = _ := hgr 9 (by decide)
      clear hgr
      change Made _ (Adds _ _ _) (Sem.run _ (execOp (Act.eval (Act.put (frm _ _ _ []) (some 34) (vs 9))) _) _)
      simp only [frm, h9]
      go_simp
      exact adds_val rfl
    · have h10 : vs 10 = _ := hgr 10 (by decide)
      clear hgr
      change Made _ (Adds _ _ _) (Sem.run _ (execOp (Act.eval (Act.put (frm _ _ _ []) (some 35) (vs 10))) _) _)
      simp only [frm, h10]
      go_simp
      exact adds_val rfl
    · have h11 : vs 11 = _ := hgr 11 (by decide)
      clear hgr
      change Made _ (Adds _ _ _) (Sem.run _ (execOp (Act.eval (Act.put (frm _ _ _ []) (some 36) (vs 11))) _) _)
      simp only [frm, h11]
      go_simp
      exact adds_val rfl
    · have h11 : vs 11 = _ := hgr 11 (by decide)
      have h12 : vs 12 = _ := hgr 12 (by decide)
      clear hgr
      change Made _ (Adds _ _ _) (Sem.run _ (execOp (Act.eval (Act.put (Act.put (frm _ _ _ []) (some 37) (vs 12)) (some 36) (vs 11))) _) _)
      simp only [frm, h11, h12]
      go_simp
      exact adds_val rfl
    · have h11 : vs 11 = _ := hgr 11 (by decide)
      have h13 : vs 13 = _ := hgr 13 (by decide)
      clear hgr
      change Made _ (Adds _ _ _) (Sem.run _ (execOp (Act.eval (Act.put (Act.put (frm _ _ _ []) (some 38) (vs 13)) (some 36) (vs 11))) _) _)
      simp only [frm, h11, h13]
      go_simp
      exact adds_val rfl
    · have h11 : vs 11 = _ := hgr 11 (by decide)
      have h14 : vs 14 = _ := hgr 14 (by decide)
      clear hgr
      change Made _ (Adds _ _ _) (Sem.run _ (execOp (Act.eval (Act.put (Act.put (frm _ _ _ []) (some 39) (vs 14)) (some 36) (vs 11))) _) _)
      simp only [frm, h11, h14]
      have hbk := HP3.out.below hb1 HP3.out.lt
      have c0 : w4.cell? ⟨L.p, 0, none⟩ = some (.pointer (some ⟨L.g1, 0, none⟩)) := hbk.cell 0
      have c1 : w4.cell? ⟨L.p, 1, none⟩ = some (.pointer (some ⟨L.g2, 0, none⟩)) := hbk.cell 1
      clear hbk
      go_simp
      exact adds_val rfl
    · have h11 : vs 11 = _ := hgr 11 (by decide)
      clear hgr
      change Made _ (Adds _ _ _) (Sem.run _ (execOp (Act.eval (Act.put (frm _ _ _ []) (some 36) (vs 11))) _) _)
      simp only [frm, h11]
      go_simp
      exact adds_val rfl
    · have h11 : vs 11 = _ := hgr 11 (by decide)
      have h16 : vs 16 = _ := hgr 16 (by decide)
      clear hgr
      change Made _ (Adds _ _ _) (Sem.run _ (execOp (Act.eval (Act.put (Act.put (frm _ _ _ []) (some 41) (vs 16)) (some 36) (vs 11))) _) _)
      simp only [frm, h11, h16]
      go_simp
      exact adds_val rfl
    · have h11 : vs 11 = _ := hgr 11 (by decide)
      have h17 : vs 17 = _ := hgr 17 (by decide)
      clear hgr
      change Made _ (Adds _ _ _) (Sem.run _ (execOp (Act.eval (Act.put (Act.put (frm _ _ _ []) (some 42) (vs 17)) (some 36) (vs 11))) _) _)
      simp only [frm, h11, h17]
      go_simp
      exact adds_val rfl
    · have h11 : vs 11 = _ := hgr 11 (by decide)
      have h18 : vs 18 = _ := hgr 18 (by decide)
      clear hgr
      change Made _ (Adds _ _ _) (Sem.run _ (execOp (Act.eval (Act.put (Act.put (frm _ _ _ []) (some 43) (vs 18)) (some 36) (vs 11))) _) _)
      simp only [frm, h11, h18]
      have hbk := HP3.out.below hb1 HP3.out.lt
      have c0 : w4.cell? ⟨L.p, 2, none⟩ = some (.pointer (some ⟨L.gt, 0, none⟩)) := hbk.cell 2
      clear hbk
      go_simp
      exact adds_val rfl
    · have h11 : vs 11 = _ := hgr 11 (by decide)
      have h15 : vs 15 = _ := hgr 15 (by decide)
      have h19 : vs 19 = _ := hgr 19 (by decide)
      clear hgr
      change Made _ (Adds _ _ _) (Sem.run _ (execOp (Act.eval (Act.put (Act.put (Act.put (frm _ _ _ []) (some 44) (vs 19)) (some 40) (vs 15)) (some 36) (vs 11))) _) _)
      simp only [frm, h11, h15, h19]
      have cM := Covered_any (H3.out.below hb1).mr (H3.out.below hb1).tr
      rw [HC1.out] at cM
      go_simp
      exact adds_below cM
    · have h11 : vs 11 = _ := hgr 11 (by decide)
      clear hgr
      change Made _ (Adds _ _ _) (Sem.run _ (execOp (Act.eval (Act.put (frm _ _ _ []) (some 36) (vs 11))) _) _)
      simp only [frm, h11]
      go_simp
      exact adds_val rfl
    · have h11 : vs 11 = _ := hgr 11 (by decide)
      have h21 : vs 21 = _ := hgr 21 (by decide)
      clear hgr
      change Made _ (Adds _ _ _) (Sem.run _ (execOp (Act.eval (Act.put (Act.put (frm _ _ _ []) (some 46) (vs 21)) (some 36) (vs 11))) _) _)
      simp only [frm, h11, h21]
      go_simp
      exact adds_val rfl
    · have h11 : vs 11 = _ := hgr 11 (by decide)
      have h22 : vs 22 = _ := hgr 22 (by decide)
      clear hgr
      change Made _ (Adds _ _ _) (Sem.run _ (execOp (Act.eval (Act.put (Act.put (frm _ _ _ []) (some 47) (vs 22)) (some 36) (vs 11))) _) _)
      simp only [frm, h11, h22]
      go_simp
      exact adds_val rfl
    · have h11 : vs 11 = _ := hgr 11 (by decide)
      have h23 : vs 23 = _ := hgr 23 (by decide)
      clear hgr
      change Made _ (Adds _ _ _) (Sem.run _ (execOp (Act.eval (Act.put (Act.put (frm _ _ _ []) (some 48) (vs 23)) (some 36) (vs 11))) _) _)
      simp only [frm, h11, h23]
      have hbk := HP3.out.below hb1 HP3.out.lt
      have c0 : w4.cell? ⟨L.p, 0, none⟩ = some (.pointer (some ⟨L.g1, 0, none⟩)) := hbk.cell 0
      have c1 : w4.cell? ⟨L.p, 1, none⟩ = some (.pointer (some ⟨L.g2, 0, none⟩)) := hbk.cell 1
      clear hbk
      go_simp
      exact adds_val rfl
    · have h11 : vs 11 = _ := hgr 11 (by decide)
      have h24 : vs 24 = _ := hgr 24 (by decide)
      clear hgr
      change Made _ (Adds _ _ _) (Sem.run _ (execOp (Act.eval (Act.put (Act.put (frm _ _ _ []) (some 49) (vs 24)) (some 36) (vs 11))) _) _)
      simp only [frm, h11, h24]
      have cM := Crossing_any (H3.out.below hb1).mr
      rw [← HQ.out] at cM
      go_simp
      exact adds_call (T := SliceN q) (hT := SliceN.below) (ob := fun _ => none) cM fun e w2 ⟨v, he, ho, hb⟩ => ⟨v, he, ⟨(own_shape ho).choose, (own_shape ho).choose_spec.choose, (own_shape ho).choose_spec.choose_spec.1⟩, hb, (fun k hk => nomatch hk)⟩
    · have h11 : vs 11 = _ := hgr 11 (by decide)
      obtain ⟨A25, c25, h25⟩ := hgr 25 (by decide)
      clear hgr
      change Made _ (Adds _ _ _) (Sem.run _ (execOp (Act.eval (Act.put (Act.put (frm _ _ _ []) (some 50) (vs 25)) (some 36) (vs 11))) _) _)
      simp only [frm, h11, h25]
      go_simp
      exact adds_val rfl
    · have h11 : vs 11 = _ := hgr 11 (by decide)
      have h26 : vs 26 = _ := hgr 26 (by decide)
      clear hgr
      change Made _ (Adds _ _ _) (Sem.run _ (execOp (Act.eval (Act.put (Act.put (frm _ _ _ []) (some 51) (vs 26)) (some 36) (vs 11))) _) _)
      simp only [frm, h11, h26]
      go_simp
      exact adds_val rfl
    · have h11 : vs 11 = _ := hgr 11 (by decide)
      have h20 : vs 20 = _ := hgr 20 (by decide)
      have h27 : vs 27 = _ := hgr 27 (by decide)
      clear hgr
      change Made _ (Adds _ _ _) (Sem.run _ (execOp (Act.eval (Act.put (Act.put (Act.put (frm _ _ _ []) (some 52) (vs 27)) (some 45) (vs 20)) (some 36) (vs 11))) _) _)
      simp only [frm, h11, h20, h27]
      go_simp
      exact adds_val rfl
    · have h11 : vs 11 = _ := hgr 11 (by decide)
      have h28 : vs 28 = _ := hgr 28 (by decide)
      clear hgr
      change Made _ (Adds _ _ _) (Sem.run _ (execOp (Act.eval (Act.put (Act.put (frm _ _ _ []) (some 53) (vs 28)) (some 36) (vs 11))) _) _)
      simp only [frm, h11, h28]
      go_simp
      exact adds_val rfl
  · intro vs w4 hb1 hall hap
    have h29 : vs 29 = _ := (hall 29 (by omega)).1
    clear hall hap
    change wpList _ _ _ [_] (Act.put (Act.put (Act.put (Act.put (Act.put (Act.put (Act.put (Act.put (Act.put (Act.put (Act.put (Act.put (Act.put (Act.put (Act.put (Act.put (Act.put (Act.put (Act.put (Act.put (Act.put (Act.put (Act.put (Act.put (Act.put (Act.put (Act.put (Act.put (Act.put (Act.put (frm _ _ _ []) (some 54) (vs 29)) (some 53) (vs 28)) (some 52) (vs 27)) (some 51) (vs 26)) (some 50) (vs 25)) (some 49) (vs 24)) (some 48) (vs 23)) (some 47) (vs 22)) (some 46) (vs 21)) (some 45) (vs 20)) (some 44) (vs 19)) (some 43) (vs 18)) (some 42) (vs 17)) (some 41) (vs 16)) (some 40) (vs 15)) (some 39) (vs 14)) (some 38) (vs 13)) (some 37) (vs 12)) (some 36) (vs 11)) (some 35) (vs 10)) (some 34) (vs 9)) (some 33) (vs 8)) (some 32) (vs 7)) (some 31) (vs 6)) (some 30) (vs 5)) (some 29) (vs 4)) (some 28) (vs 3)) (some 27) (vs 2)) (some 26) (vs 1)) (some 25) (vs 0)) _
    simp only [frm, h29]
    go_wp2_with fail
    go_ret
    exact ⟨rfl, HB3.out.trans (hb1.mono HB3.out.size)⟩
theorem clears_any (hs : SlR OpR w 9 A n ops) (hc : n ≤ c) (hb : n ≤ 140737488351232) : Calls Try.prog 5 #[.slice A n c] w fun e w' => e = .returned (.bool true) ∧ Below w.heap.size w w' := by
  by_cases hn : 24 < n
  · exact clears_big hn hb
  · exact clears_main hs hc (by omega)
end
end Go.Proofs.Ytaecdpijpdfboaa
