/- BarrierLists: Crossing, Remembered and Covered agree with the specification. (printed by gen/lists.py) -/
import Derived.Test.YtaecdpijpdfboaaGreatAwake9
import Derived.Test.YtaecdpijpdfboaaGreatStepA
import Derived.Test.YtaecdpijpdfboaaGreatRCross
namespace Go.Proofs.YtaecdpijpdfboaaGreat
set_option linter.unusedVariables false
set_option linter.unusedSimpArgs false
set_option linter.unusedSectionVars false
open Go.RowKit Go.Sort Go.Shelf
attribute [local go_sem] Oper.semAt_some onlyN_normal
set_option maxRecDepth 100000

theorem covered_len (m : Mm) (p : Int → Bool) : (((m.crossing fun _ => true).length : Int) == ((m.crossing p).length : Int)) = decide ((m.crossing fun a => !p a) = []) := by
  rw [crossing_filter m p, crossing_filter m fun a => !p a]
  generalize (m.crossing fun _ => true) = l
  by_cases h : ∀ a ∈ l, p a = true
  · have h1 : l.filter p = l := List.filter_eq_self.2 h
    have h2 : (l.filter fun a => !p a) = [] := List.filter_eq_nil_iff.2 fun a ha => by simp [h a ha]
    rw [h1, h2]
    simp
  · have h1 : (l.filter fun a => !p a) ≠ [] := fun e => h fun a ha => by simpa using List.filter_eq_nil_iff.1 e a ha
    have h2 : (l.filter p).length ≠ l.length := fun e => h (List.length_filter_eq_length_iff.1 e)
    rw [decide_eq_false h1]
    simp
    omega
section
variable {w : World} {ops : List OpV} {A : Option Addr} {n c : Nat}
set_option maxHeartbeats 4000000 in
theorem lists_big (hn : 24 < n) (hb : n ≤ 140737488351232) : Calls Tryz.prog 3 #[.slice A n c] w fun e w' => e = .returned (.bool true) ∧ Below w.heap.size w w' := by
  have cA := fun w => awake_any (w := w)
  go_enter Tryz.func3, Tryz.ntmps3
  go_wp2_with fail
  refine (cA _).mono ?_
  rintro e w1 ⟨rfl, hb1⟩
  have HB1 := Lib.hid hb1
  clear hb1
  go_wp2_with fail
  refine (cA _).mono ?_
  rintro e w2 ⟨rfl, hb2⟩
  have HB2 := Lib.hid (HB1.out.trans (hb2.mono HB1.out.size))
  clear hb2
  go_wp2_with fail
  go_ret
  exact ⟨rfl, HB2.out⟩
set_option maxHeartbeats 4000000 in
theorem lists_main (hs : SlR OpR w 9 A n ops) (hc : n ≤ c) (hn : n ≤ 24) : Calls Tryz.prog 3 #[.slice A n c] w fun e w' => e = .returned (.bool true) ∧ Below w.heap.size w w' := by
  have cA := awake_any (w := w)
  have cP := fun {w1 : World} (hb : Below w.heap.size w w1) => play255_any (hs.keep hb.size (keep_below hb) OpR.keep) hc hn
  obtain ⟨s, hst⟩ : ∃ s, s = St.new.play 255 ops := ⟨_, rfl⟩
  have hlen : s.cs.length ≤ 0 + ops.length := hst ▸ (St.play_len 255 ops St.new).1
  have hcl : s.cs.length ≤ 100000 := by have := hs.1; omega
  have HCL := Lib.hid hcl
  rw [← hst] at cP
  clear hs hst hlen hcl
  obtain ⟨la, hla⟩ : ∃ la, la = s.m.crossing fun _ => true := ⟨_, rfl⟩
  obtain ⟨lb, hlb⟩ : ∃ lb, lb = s.m.crossing (cardIn s.cs) := ⟨_, rfl⟩
  obtain ⟨cb, hcb⟩ : ∃ cb, cb = decide ((s.m.crossing fun a => !cardIn s.cs a) = []) := ⟨_, rfl⟩
  obtain ⟨ka, hka⟩ : ∃ ka, ka = la.length := ⟨_, rfl⟩
  obtain ⟨kb, hkb⟩ : ∃ kb, kb = lb.length := ⟨_, rfl⟩
  have hz : ((ka : Int) == (kb : Int)) = cb := by rw [hka, hkb, hcb, hla, hlb]; exact covered_len _ _
  have HLA := Lib.hid hla
  have HLB := Lib.hid hlb
  have HCB := Lib.hid hcb
  have HKA := Lib.hid hka
  have HKB := Lib.hid hkb
  clear hla hlb hcb hka hkb
  go_enter Tryz.func3, Tryz.ntmps3
  go_wp2_with fail
  refine cA.mono ?_
  rintro e w1 ⟨rfl, hb1⟩
  have HB1 := Lib.hid hb1
  have cP := cP hb1
  clear hb1 cA
  go_wp2_with fail
  refine cP.mono ?_
  rintro e w2 ⟨L, k, rfl, hk, h2, hb2⟩
  have HB2 := Lib.hid (HB1.out.trans (hb2.mono HB1.out.size))
  have HP2 : Hid (Bk w2 L.p 41 (L.cells s.m s.cs s.xs)) := Lib.hid h2.hd
  have H2 := Lib.hid h2
  have OK := Lib.hid h2.mr.ok
  have HLL : Hid (la.length ≤ 140737488355328 ∧ lb.length ≤ 140737488355328) := Lib.hid ⟨HLA.out ▸ OK.out.crossing_len _, HLB.out ▸ OK.out.crossing_len _⟩
  clear h2 hb2 hk cP
  go_upto_region 6 with fail
  refine wp_region_all 16 (fun i => ([[], [0], [1], [2], [3], [], [5], [6], [7], [], [9], [10], [11], [8, 12], [4], [13]] : List (List Nat)).getD i []) (EL [Ent.val (.pointer (some ⟨L.p, 0, none⟩)), Ent.val (.pointer (some ⟨L.p, 0, none⟩)), Ent.val (.pointer (some ⟨L.p, 3, none⟩)), Ent.val (.agg #[.int .i64 s.m.old.base, .int .i64 s.m.old.limit, .slice L.A1 s.m.old.ws.length L.c1, .int .i64 s.m.yng.base, .int .i64 s.m.yng.limit, .slice L.A2 s.m.yng.ws.length L.c2]), Ent.of (SliceT la) SliceT.below, Ent.val (.pointer (some ⟨L.p, 0, none⟩)), Ent.val (.pointer (some ⟨L.p, 0, none⟩)), Ent.val (.pointer (some ⟨L.p, 3, none⟩)), Ent.val (.agg #[.int .i64 s.m.old.base, .int .i64 s.m.old.limit, .slice L.A1 s.m.old.ws.length L.c1, .int .i64 s.m.yng.base, .int .i64 s.m.yng.limit, .slice L.A2 s.m.yng.ws.length L.c2]), Ent.val (.pointer (some ⟨L.p, 0, none⟩)), Ent.val (.pointer (some ⟨L.p, 0, none⟩)), Ent.val (.pointer (some ⟨L.p, 9, none⟩)), Ent.val (.agg #[.slice L.Ac s.cs.length L.cc]), Ent.of (SliceT lb) SliceT.below, Ent.same 4 (SliceT la) SliceT.below, Ent.same 13 (SliceT lb) SliceT.below]) rfl (by kernel_rfl) (by rfl) (by kernel_rfl) (by kernel_rfl) (by rfl) ?_ ?_
  · intro i hi o ho vs w3 hb1 hgr
    rcases (show i = 0 ∨ i = 1 ∨ i = 2 ∨ i = 3 ∨ i = 4 ∨ i = 5 ∨ i = 6 ∨ i = 7 ∨ i = 8 ∨ i = 9 ∨ i = 10 ∨ i = 11 ∨ i = 12 ∨ i = 13 ∨ i = 14 ∨ i = 15 by omega) with rfl | rfl | rfl | rfl | rfl | rfl | rfl | rfl | rfl | rfl | rfl | rfl | rfl | rfl | rfl | rfl <;> cases ho
    · clear hgr
      change Made _ (Adds _ _ _) (Sem.run _ (execOp (Act.eval (frm _ _ _ [])) _) _)
      simp only [frm]
      go_simp
      exact adds_val rfl
    · have h0 : vs 0 = _ := hgr 0 (by decide)
      clear hgr
      change Made _ (Adds _ _ _) (Sem.run _ (execOp (Act.eval (Act.put (frm _ _ _ []) (some 22) (vs 0))) _) _)
      simp only [frm, h0]
      go_simp
      exact adds_val rfl
    · have h1 : vs 1 = _ := hgr 1 (by decide)
      clear hgr
      change Made _ (Adds _ _ _) (Sem.run _ (execOp (Act.eval (Act.put (frm _ _ _ []) (some 23) (vs 1))) _) _)
      simp only [frm, h1]
      go_simp
      exact adds_val rfl
    · have h2 : vs 2 = _ := hgr 2 (by decide)
      clear hgr
      change Made _ (Adds _ _ _) (Sem.run _ (execOp (Act.eval (Act.put (frm _ _ _ []) (some 24) (vs 2))) _) _)
      simp only [frm, h2]
      have hbk := HP2.out.below hb1 HP2.out.lt
      have c0 : w3.cell? ⟨L.p, 3, none⟩ = some (.int .i64 s.m.old.base) := hbk.cell 3
      have c1 : w3.cell? ⟨L.p, 4, none⟩ = some (.int .i64 s.m.old.limit) := hbk.cell 4
      have c2 : w3.cell? ⟨L.p, 5, none⟩ = some (.slice L.A1 s.m.old.ws.length L.c1) := hbk.cell 5
      have c3 : w3.cell? ⟨L.p, 6, none⟩ = some (.int .i64 s.m.yng.base) := hbk.cell 6
      have c4 : w3.cell? ⟨L.p, 7, none⟩ = some (.int .i64 s.m.yng.limit) := hbk.cell 7
      have c5 : w3.cell? ⟨L.p, 8, none⟩ = some (.slice L.A2 s.m.yng.ws.length L.c2) := hbk.cell 8
      clear hbk
      go_simp
      exact adds_val rfl
    · have h3 : vs 3 = _ := hgr 3 (by decide)
      clear hgr
      change Made _ (Adds _ _ _) (Sem.run _ (execOp (Act.eval (Act.put (frm _ _ _ []) (some 25) (vs 3))) _) _)
      simp only [frm, h3]
      have cM := RCrossing_any (H2.out.below hb1).rm OK.out
      rw [← HLA.out] at cM
      unfold rmV at cM
      go_simp
      exact adds_call (T := SliceT la) (hT := SliceT.below) (ob := fun _ => none) cM fun e w2 ⟨v, he, ho, hb⟩ => ⟨v, he, SliceT.own ho, hb, (fun k hk => nomatch hk)⟩
    · clear hgr
      change Made _ (Adds _ _ _) (Sem.run _ (execOp (Act.eval (frm _ _ _ [])) _) _)
      simp only [frm]
      go_simp
      exact adds_val rfl
    · have h5 : vs 5 = _ := hgr 5 (by decide)
      clear hgr
      change Made _ (Adds _ _ _) (Sem.run _ (execOp (Act.eval (Act.put (frm _ _ _ []) (some 27) (vs 5))) _) _)
      simp only [frm, h5]
      go_simp
      exact adds_val rfl
    · have h6 : vs 6 = _ := hgr 6 (by decide)
      clear hgr
      change Made _ (Adds _ _ _) (Sem.run _ (execOp (Act.eval (Act.put (frm _ _ _ []) (some 28) (vs 6))) _) _)
      simp only [frm, h6]
      go_simp
      exact adds_val rfl
    · have h7 : vs 7 = _ := hgr 7 (by decide)
      clear hgr
      change Made _ (Adds _ _ _) (Sem.run _ (execOp (Act.eval (Act.put (frm _ _ _ []) (some 29) (vs 7))) _) _)
      simp only [frm, h7]
      have hbk := HP2.out.below hb1 HP2.out.lt
      have c0 : w3.cell? ⟨L.p, 3, none⟩ = some (.int .i64 s.m.old.base) := hbk.cell 3
      have c1 : w3.cell? ⟨L.p, 4, none⟩ = some (.int .i64 s.m.old.limit) := hbk.cell 4
      have c2 : w3.cell? ⟨L.p, 5, none⟩ = some (.slice L.A1 s.m.old.ws.length L.c1) := hbk.cell 5
      have c3 : w3.cell? ⟨L.p, 6, none⟩ = some (.int .i64 s.m.yng.base) := hbk.cell 6
      have c4 : w3.cell? ⟨L.p, 7, none⟩ = some (.int .i64 s.m.yng.limit) := hbk.cell 7
      have c5 : w3.cell? ⟨L.p, 8, none⟩ = some (.slice L.A2 s.m.yng.ws.length L.c2) := hbk.cell 8
      clear hbk
      go_simp
      exact adds_val rfl
    · clear hgr
      change Made _ (Adds _ _ _) (Sem.run _ (execOp (Act.eval (frm _ _ _ [])) _) _)
      simp only [frm]
      go_simp
      exact adds_val rfl
    · have h9 : vs 9 = _ := hgr 9 (by decide)
      clear hgr
      change Made _ (Adds _ _ _) (Sem.run _ (execOp (Act.eval (Act.put (frm _ _ _ []) (some 31) (vs 9))) _) _)
      simp only [frm, h9]
      go_simp
      exact adds_val rfl
    · have h10 : vs 10 = _ := hgr 10 (by decide)
      clear hgr
      change Made _ (Adds _ _ _) (Sem.run _ (execOp (Act.eval (Act.put (frm _ _ _ []) (some 32) (vs 10))) _) _)
      simp only [frm, h10]
      go_simp
      exact adds_val rfl
    · have h11 : vs 11 = _ := hgr 11 (by decide)
      clear hgr
      change Made _ (Adds _ _ _) (Sem.run _ (execOp (Act.eval (Act.put (frm _ _ _ []) (some 33) (vs 11))) _) _)
      simp only [frm, h11]
      have hbk := HP2.out.below hb1 HP2.out.lt
      have c0 : w3.cell? ⟨L.p, 9, none⟩ = some (.slice L.Ac s.cs.length L.cc) := hbk.cell 9
      clear hbk
      go_simp
      exact adds_val rfl
    · have h8 : vs 8 = _ := hgr 8 (by decide)
      have h12 : vs 12 = _ := hgr 12 (by decide)
      clear hgr
      change Made _ (Adds _ _ _) (Sem.run _ (execOp (Act.eval (Act.put (Act.put (frm _ _ _ []) (some 34) (vs 12)) (some 30) (vs 8))) _) _)
      simp only [frm, h8, h12]
      have cM := RRemembered_any (H2.out.below hb1).rm (H2.out.below hb1).rc HCL.out OK.out
      rw [← HLB.out] at cM
      unfold rmV at cM
      go_simp
      exact adds_call (T := SliceT lb) (hT := SliceT.below) (ob := fun _ => none) cM fun e w2 ⟨v, he, ho, hb⟩ => ⟨v, he, SliceT.own ho, hb, (fun k hk => nomatch hk)⟩
    · obtain ⟨A4, c4, h4, l4, s4⟩ := hgr 4 (by decide)
      clear hgr
      change Made _ (Adds _ _ _) (Sem.run _ (execOp (Act.eval (Act.put (frm _ _ _ []) (some 26) (vs 4))) _) _)
      simp only [frm, h4]
      go_simp
      rw [← h4]
      exact adds_same (hT := SliceT.below) ⟨A4, c4, h4, l4, s4⟩
    · obtain ⟨A13, c13, h13, l13, s13⟩ := hgr 13 (by decide)
      clear hgr
      change Made _ (Adds _ _ _) (Sem.run _ (execOp (Act.eval (Act.put (frm _ _ _ []) (some 35) (vs 13))) _) _)
      simp only [frm, h13]
      go_simp
      rw [← h13]
      exact adds_same (hT := SliceT.below) ⟨A13, c13, h13, l13, s13⟩
  · intro vs w3 hb1 hall hap
    obtain ⟨h14e, A14, c14, h14, l14, s14⟩ := (hall 14 (by omega)).1
    obtain ⟨h15e, A15, c15, h15, l15, s15⟩ := (hall 15 (by omega)).1
    clear hall hap
    change wpList _ _ _ [] (Act.put (Act.put (Act.put (Act.put (Act.put (Act.put (Act.put (Act.put (Act.put (Act.put (Act.put (Act.put (Act.put (Act.put (Act.put (Act.put (frm _ _ _ []) (some 6) (vs 15)) (some 5) (vs 14)) (some 35) (vs 13)) (some 34) (vs 12)) (some 33) (vs 11)) (some 32) (vs 10)) (some 31) (vs 9)) (some 30) (vs 8)) (some 29) (vs 7)) (some 28) (vs 6)) (some 27) (vs 5)) (some 26) (vs 4)) (some 25) (vs 3)) (some 24) (vs 2)) (some 23) (vs 1)) (some 22) (vs 0)) _
    simp only [frm, h14, h15]
    have HB3 := Lib.hid (HB2.out.trans (hb1.mono HB2.out.size))
    have HP3 := Lib.hid (HP2.out.below hb1 HP2.out.lt)
    have H3 := Lib.hid (H2.out.below hb1)
    have S14 := Lib.hid (And.intro l14 s14)
    have S15 := Lib.hid (And.intro l15 s15)
    rw [← HKA.out] at h14 ⊢
    rw [← HKB.out] at h15 ⊢
    clear hb1 l14 s14 l15 s15 h14 h15 h14e h15e
    go_upto_region 7 with fail
    simp only [Act.put, List.setIfInBounds_toArray, List.set_cons_succ, List.set_cons_zero]
    refine wp_region_addsG 37 (fun i => ([[], [0], [1], [2], [3], [], [4, 5], [6], [7], [7, 8], [7, 9], [7, 10], [7], [7, 12], [7, 13], [7, 14], [7, 11, 15], [7], [7, 16, 17], [7, 18], [19], [20], [20, 21], [20, 22], [20, 23], [20], [20, 25], [20, 26], [20, 27], [20, 24, 28], [20], [20, 30], [20], [20, 32], [20, 31, 33], [20, 29, 34], [20, 35]] : List (List Nat)).getD i []) (EL [Ent.val (.pointer (some ⟨L.p, 0, none⟩)), Ent.val (.pointer (some ⟨L.p, 0, none⟩)), Ent.val (.pointer (some ⟨L.p, 0, none⟩)), Ent.val (.agg #[.pointer (some ⟨L.g1, 0, none⟩), .pointer (some ⟨L.g2, 0, none⟩)]), Ent.of (SliceT la) SliceT.below, Ent.val (.slice A14 ka c14), Ent.val (.bool true), Ent.val (.bool true), Ent.val (.pointer (some ⟨L.p, 0, none⟩)), Ent.val (.pointer (some ⟨L.p, 0, none⟩)), Ent.val (.pointer (some ⟨L.p, 0, none⟩)), Ent.val (.agg #[.pointer (some ⟨L.g1, 0, none⟩), .pointer (some ⟨L.g2, 0, none⟩)]), Ent.val (.pointer (some ⟨L.p, 0, none⟩)), Ent.val (.pointer (some ⟨L.p, 0, none⟩)), Ent.val (.pointer (some ⟨L.p, 2, none⟩)), Ent.val (.pointer (some ⟨L.gt, 0, none⟩)), Ent.of (SliceT lb) SliceT.below, Ent.val (.slice A15 kb c15), Ent.val (.bool true), Ent.val (.bool true), Ent.val (.bool true), Ent.val (.pointer (some ⟨L.p, 0, none⟩)), Ent.val (.pointer (some ⟨L.p, 0, none⟩)), Ent.val (.pointer (some ⟨L.p, 0, none⟩)), Ent.val (.agg #[.pointer (some ⟨L.g1, 0, none⟩), .pointer (some ⟨L.g2, 0, none⟩)]), Ent.val (.pointer (some ⟨L.p, 0, none⟩)), Ent.val (.pointer (some ⟨L.p, 0, none⟩)), Ent.val (.pointer (some ⟨L.p, 2, none⟩)), Ent.val (.pointer (some ⟨L.gt, 0, none⟩)), Ent.val (.bool cb), Ent.val (.slice A14 ka c14), Ent.val (.int .i64 (ka : Int)), Ent.val (.slice A15 kb c15), Ent.val (.int .i64 (kb : Int)), Ent.val (.bool cb), Ent.val (.bool true), Ent.val (.bool true)]) (by kernel_rfl) (by kernel_rfl) (by kernel_rfl) (by rfl) ?_ ?_ ?_
    · intro i hi o ho g b hgb vs v w4 hR
      rcases (show i = 0 ∨ i = 1 ∨ i = 2 ∨ i = 3 ∨ i = 4 ∨ i = 5 ∨ i = 6 ∨ i = 7 ∨ i = 8 ∨ i = 9 ∨ i = 10 ∨ i = 11 ∨ i = 12 ∨ i = 13 ∨ i = 14 ∨ i = 15 ∨ i = 16 ∨ i = 17 ∨ i = 18 ∨ i = 19 ∨ i = 20 ∨ i = 21 ∨ i = 22 ∨ i = 23 ∨ i = 24 ∨ i = 25 ∨ i = 26 ∨ i = 27 ∨ i = 28 ∨ i = 29 ∨ i = 30 ∨ i = 31 ∨ i = 32 ∨ i = 33 ∨ i = 34 ∨ i = 35 ∨ i = 36 by omega) with rfl | rfl | rfl | rfl | rfl | rfl | rfl | rfl | rfl | rfl | rfl | rfl | rfl | rfl | rfl | rfl | rfl | rfl | rfl | rfl | rfl | rfl | rfl | rfl | rfl | rfl | rfl | rfl | rfl | rfl | rfl | rfl | rfl | rfl | rfl | rfl | rfl <;> cases ho <;> first | (cases hgb; exact hR) | cases hgb
    · intro i hi o ho vs w4 hb1 hgr
      rcases (show i = 0 ∨ i = 1 ∨ i = 2 ∨ i = 3 ∨ i = 4 ∨ i = 5 ∨ i = 6 ∨ i = 7 ∨ i = 8 ∨ i = 9 ∨ i = 10 ∨ i = 11 ∨ i = 12 ∨ i = 13 ∨ i = 14 ∨ i = 15 ∨ i = 16 ∨ i = 17 ∨ i = 18 ∨ i = 19 ∨ i = 20 ∨ i = 21 ∨ i = 22 ∨ i = 23 ∨ i = 24 ∨ i = 25 ∨ i = 26 ∨ i = 27 ∨ i = 28 ∨ i = 29 ∨ i = 30 ∨ i = 31 ∨ i = 32 ∨ i = 33 ∨ i = 34 ∨ i = 35 ∨ i = 36 by omega) with rfl | rfl | rfl | rfl | rfl | rfl | rfl | rfl | rfl | rfl | rfl | rfl | rfl | rfl | rfl | rfl | rfl | rfl | rfl | rfl | rfl | rfl | rfl | rfl | rfl | rfl | rfl | rfl | rfl | rfl | rfl | rfl | rfl | rfl | rfl | rfl | rfl <;> cases ho
      · clear hgr
        change Made _ (Adds _ _ _) (Sem.run _ (execOp (Act.eval (frm _ _ _ [])) _) _)
        simp only [frm]
        go_simp
        exact adds_val rfl
      · have h0 : vs 0 = _ := hgr 0 (by decide)
        clear hgr
        change Made _ (Adds _ _ _) (Sem.run _ (execOp (Act.eval (Act.put (frm _ _ _ []) (some 36) (vs 0))) _) _)
        simp only [frm, h0]
        go_simp
        exact adds_val rfl
      · have h1 : vs 1 = _ := hgr 1 (by decide)
        clear hgr
        change Made _ (Adds _ _ _) (Sem.run _ (execOp (Act.eval (Act.put (frm _ _ _ []) (some 37) (vs 1))) _) _)
        simp only [frm, h1]
        go_simp
        exact adds_val rfl
      · have h2 : vs 2 = _ := hgr 2 (by decide)
        clear hgr
        change Made _ (Adds _ _ _) (Sem.run _ (execOp (Act.eval (Act.put (frm _ _ _ []) (some 38) (vs 2))) _) _)
        simp only [frm, h2]
        have hbk := HP3.out.below hb1 HP3.out.lt
        have c0 : w4.cell? ⟨L.p, 0, none⟩ = some (.pointer (some ⟨L.g1, 0, none⟩)) := hbk.cell 0
        have c1 : w4.cell? ⟨L.p, 1, none⟩ = some (.pointer (some ⟨L.g2, 0, none⟩)) := hbk.cell 1
        clear hbk
        go_simp
        exact adds_val rfl
      · have h3 : vs 3 = _ := hgr 3 (by decide)
        clear hgr
        change Made _ (Adds _ _ _) (Sem.run _ (execOp (Act.eval (Act.put (frm _ _ _ []) (some 39) (vs 3))) _) _)
        simp only [frm, h3]
        have cM := Crossing_any (H3.out.below hb1).mr
        rw [← HLA.out] at cM
        go_simp
        exact adds_call (T := SliceT la) (hT := SliceT.below) (ob := fun _ => none) cM fun e w2 ⟨v, he, ho, hb⟩ => ⟨v, he, SliceT.own ho, hb, (fun k hk => nomatch hk)⟩
      · clear hgr
        change Made _ (Adds _ _ _) (Sem.run _ (execOp (Act.eval (frm _ _ _ [])) _) _)
        simp only [frm]
        go_simp
        exact adds_val rfl
      · obtain ⟨A4, c4, h4, l4, s4⟩ := hgr 4 (by decide)
        rw [← HKA.out] at h4
        have h5 : vs 5 = _ := hgr 5 (by decide)
        clear hgr
        change Made _ (Adds _ _ _) (Sem.run _ (execOp (Act.eval (Act.put (Act.put (frm _ _ _ []) (some 41) (vs 5)) (some 40) (vs 4))) _) _)
        simp only [frm, h4, h5]
        have cI := Ints_any la la A4 A14 c4 c14 w4 HLL.out.1 l4 S14.out.1 s4 (S14.out.2.below hb1)
        rw [show eqL la la = true from decide_eq_true rfl, ← HKA.out] at cI
        go_simp
        exact adds_quiet cI
      · have h6 : vs 6 = _ := hgr 6 (by decide)
        clear hgr
        change Made _ (Adds _ _ _) (Sem.run _ (execOp (Act.eval (Act.put (frm _ _ _ []) (some 42) (vs 6))) _) _)
        simp only [frm, h6]
        go_simp
        exact adds_val rfl
      · have h7 : vs 7 = _ := hgr 7 (by decide)
        clear hgr
        change Made _ (Adds _ _ _) (Sem.run _ (execOp (Act.eval (Act.put (frm _ _ _ []) (some 43) (vs 7))) _) _)
        simp only [frm, h7]
        go_simp
        exact adds_val rfl
      · have h7 : vs 7 = _ := hgr 7 (by decide)
        have h8 : vs 8 = _ := hgr 8 (by decide)
        clear hgr
        change Made _ (Adds _ _ _) (Sem.run _ (execOp (Act.eval (Act.put (Act.put (frm _ _ _ []) (some 44) (vs 8)) (some 43) (vs 7))) _) _)
        simp only [frm, h7, h8]
        go_simp
        exact adds_val rfl
      · have h7 : vs 7 = _ := hgr 7 (by decide)
        have h9 : vs 9 = _ := hgr 9 (by decide)
        clear hgr
        change Made _ (Adds _ _ _) (Sem.run _ (execOp (Act.eval (Act.put (Act.put (frm _ _ _ []) (some 45) (vs 9)) (some 43) (vs 7))) _) _)
        simp only [frm, h7, h9]
        go_simp
        exact adds_val rfl
      · have h7 : vs 7 = _ := hgr 7 (by decide)
        have h10 : vs 10 = _ := hgr 10 (by decide)
        clear hgr
        change Made _ (Adds _ _ _) (Sem.run _ (execOp (Act.eval (Act.put (Act.put (frm _ _ _ []) (some 46) (vs 10)) (some 43) (vs 7))) _) _)
        simp only [frm, h7, h10]
        have hbk := HP3.out.below hb1 HP3.out.lt
        have c0 : w4.cell? ⟨L.p, 0, none⟩ = some (.pointer (some ⟨L.g1, 0, none⟩)) := hbk.cell 0
        have c1 : w4.cell? ⟨L.p, 1, none⟩ = some (.pointer (some ⟨L.g2, 0, none⟩)) := hbk.cell 1
        clear hbk
        go_simp
        exact adds_val rfl
      · have h7 : vs 7 = _ := hgr 7 (by decide)
        clear hgr
        change Made _ (Adds _ _ _) (Sem.run _ (execOp (Act.eval (Act.put (frm _ _ _ []) (some 43) (vs 7))) _) _)
        simp only [frm, h7]
        go_simp
        exact adds_val rfl
      · have h7 : vs 7 = _ := hgr 7 (by decide)
        have h12 : vs 12 = _ := hgr 12 (by decide)
        clear hgr
        change Made _ (Adds _ _ _) (Sem.run _ (execOp (Act.eval (Act.put (Act.put (frm _ _ _ []) (some 48) (vs 12)) (some 43) (vs 7))) _) _)
        simp only [frm, h7, h12]
        go_simp
        exact adds_val rfl
      · have h7 : vs 7 = _ := hgr 7 (by decide)
        have h13 : vs 13 = _ := hgr 13 (by decide)
        clear hgr
        change Made _ (Adds _ _ _) (Sem.run _ (execOp (Act.eval (Act.put (Act.put (frm _ _ _ []) (some 49) (vs 13)) (some 43) (vs 7))) _) _)
        simp only [frm, h7, h13]
        go_simp
        exact adds_val rfl
      · have h7 : vs 7 = _ := hgr 7 (by decide)
        have h14 : vs 14 = _ := hgr 14 (by decide)
        clear hgr
        change Made _ (Adds _ _ _) (Sem.run _ (execOp (Act.eval (Act.put (Act.put (frm _ _ _ []) (some 50) (vs 14)) (some 43) (vs 7))) _) _)
        simp only [frm, h7, h14]
        have hbk := HP3.out.below hb1 HP3.out.lt
        have c0 : w4.cell? ⟨L.p, 2, none⟩ = some (.pointer (some ⟨L.gt, 0, none⟩)) := hbk.cell 2
        clear hbk
        go_simp
        exact adds_val rfl
      · have h7 : vs 7 = _ := hgr 7 (by decide)
        have h11 : vs 11 = _ := hgr 11 (by decide)
        have h15 : vs 15 = _ := hgr 15 (by decide)
        clear hgr
        change Made _ (Adds _ _ _) (Sem.run _ (execOp (Act.eval (Act.put (Act.put (Act.put (frm _ _ _ []) (some 51) (vs 15)) (some 47) (vs 11)) (some 43) (vs 7))) _) _)
        simp only [frm, h7, h11, h15]
        have cM := Remembered_any (H3.out.below hb1).mr (H3.out.below hb1).tr
        rw [← HLB.out] at cM
        go_simp
        exact adds_call (T := SliceT lb) (hT := SliceT.below) (ob := fun _ => none) cM fun e w2 ⟨v, he, ho, hb⟩ => ⟨v, he, SliceT.own ho, hb, (fun k hk => nomatch hk)⟩
      · have h7 : vs 7 = _ := hgr 7 (by decide)
        clear hgr
        change Made _ (Adds _ _ _) (Sem.run _ (execOp (Act.eval (Act.put (frm _ _ _ []) (some 43) (vs 7))) _) _)
        simp only [frm, h7]
        go_simp
        exact adds_val rfl
      · have h7 : vs 7 = _ := hgr 7 (by decide)
        obtain ⟨A16, c16, h16, l16, s16⟩ := hgr 16 (by decide)
        rw [← HKB.out] at h16
        have h17 : vs 17 = _ := hgr 17 (by decide)
        clear hgr
        change Made _ (Adds _ _ _) (Sem.run _ (execOp (Act.eval (Act.put (Act.put (Act.put (frm _ _ _ []) (some 53) (vs 17)) (some 52) (vs 16)) (some 43) (vs 7))) _) _)
        simp only [frm, h7, h16, h17]
        have cI := Ints_any lb lb A16 A15 c16 c15 w4 HLL.out.2 l16 S15.out.1 s16 (S15.out.2.below hb1)
        rw [show eqL lb lb = true from decide_eq_true rfl, ← HKB.out] at cI
        go_simp
        exact adds_quiet cI
      · have h7 : vs 7 = _ := hgr 7 (by decide)
        have h18 : vs 18 = _ := hgr 18 (by decide)
        clear hgr
        change Made _ (Adds _ _ _) (Sem.run _ (execOp (Act.eval (Act.put (Act.put (frm _ _ _ []) (some 54) (vs 18)) (some 43) (vs 7))) _) _)
        simp only [frm, h7, h18]
        go_simp
        exact adds_val rfl
      · have h19 : vs 19 = _ := hgr 19 (by decide)
        clear hgr
        change Made _ (Adds _ _ _) (Sem.run _ (execOp (Act.eval (Act.put (frm _ _ _ []) (some 55) (vs 19))) _) _)
        simp only [frm, h19]
        go_simp
        exact adds_val rfl
      · have h20 : vs 20 = _ := hgr 20 (by decide)
        clear hgr
        change Made _ (Adds _ _ _) (Sem.run _ (execOp (Act.eval (Act.put (frm _ _ _ []) (some 56) (vs 20))) _) _)
        simp only [frm, h20]
        go_simp
        exact adds_val rfl
      · have h20 : vs 20 = _ := hgr 20 (by decide)
        have h21 : vs 21 = _ := hgr 21 (by decide)
        clear hgr
        change Made _ (Adds _ _ _) (Sem.run _ (execOp (Act.eval (Act.put (Act.put (frm _ _ _ []) (some 57) (vs 21)) (some 56) (vs 20))) _) _)
        simp only [frm, h20, h21]
        go_simp
        exact adds_val rfl
      · have h20 : vs 20 = _ := hgr 20 (by decide)
        have h22 : vs 22 = _ := hgr 22 (by decide)
        clear hgr
        change Made _ (Adds _ _ _) (Sem.run _ (execOp (Act.eval (Act.put (Act.put (frm _ _ _ []) (some 58) (vs 22)) (some 56) (vs 20))) _) _)
        simp only [frm, h20, h22]
        go_simp
        exact adds_val rfl
      · have h20 : vs 20 = _ := hgr 20 (by decide)
        have h23 : vs 23 = _ := hgr 23 (by decide)
        clear hgr
        change Made _ (Adds _ _ _) (Sem.run _ (execOp (Act.eval (Act.put (Act.put (frm _ _ _ []) (some 59) (vs 23)) (some 56) (vs 20))) _) _)
        simp only [frm, h20, h23]
        have hbk := HP3.out.below hb1 HP3.out.lt
        have c0 : w4.cell? ⟨L.p, 0, none⟩ = some (.pointer (some ⟨L.g1, 0, none⟩)) := hbk.cell 0
        have c1 : w4.cell? ⟨L.p, 1, none⟩ = some (.pointer (some ⟨L.g2, 0, none⟩)) := hbk.cell 1
        clear hbk
        go_simp
        exact adds_val rfl
      · have h20 : vs 20 = _ := hgr 20 (by decide)
        clear hgr
        change Made _ (Adds _ _ _) (Sem.run _ (execOp (Act.eval (Act.put (frm _ _ _ []) (some 56) (vs 20))) _) _)
        simp only [frm, h20]
        go_simp
        exact adds_val rfl
      · have h20 : vs 20 = _ := hgr 20 (by decide)
        have h25 : vs 25 = _ := hgr 25 (by decide)
        clear hgr
        change Made _ (Adds _ _ _) (Sem.run _ (execOp (Act.eval (Act.put (Act.put (frm _ _ _ []) (some 61) (vs 25)) (some 56) (vs 20))) _) _)
        simp only [frm, h20, h25]
        go_simp
        exact adds_val rfl
      · have h20 : vs 20 = _ := hgr 20 (by decide)
        have h26 : vs 26 = _ := hgr 26 (by decide)
        clear hgr
        change Made _ (Adds _ _ _) (Sem.run _ (execOp (Act.eval (Act.put (Act.put (frm _ _ _ []) (some 62) (vs 26)) (some 56) (vs 20))) _) _)
        simp only [frm, h20, h26]
        go_simp
        exact adds_val rfl
      · have h20 : vs 20 = _ := hgr 20 (by decide)
        have h27 : vs 27 = _ := hgr 27 (by decide)
        clear hgr
        change Made _ (Adds _ _ _) (Sem.run _ (execOp (Act.eval (Act.put (Act.put (frm _ _ _ []) (some 63) (vs 27)) (some 56) (vs 20))) _) _)
        simp only [frm, h20, h27]
        have hbk := HP3.out.below hb1 HP3.out.lt
        have c0 : w4.cell? ⟨L.p, 2, none⟩ = some (.pointer (some ⟨L.gt, 0, none⟩)) := hbk.cell 2
        clear hbk
        go_simp
        exact adds_val rfl
      · have h20 : vs 20 = _ := hgr 20 (by decide)
        have h24 : vs 24 = _ := hgr 24 (by decide)
        have h28 : vs 28 = _ := hgr 28 (by decide)
        clear hgr
        change Made _ (Adds _ _ _) (Sem.run _ (execOp (Act.eval (Act.put (Act.put (Act.put (frm _ _ _ []) (some 64) (vs 28)) (some 60) (vs 24)) (some 56) (vs 20))) _) _)
        simp only [frm, h20, h24, h28]
        have cM := Covered_any (H3.out.below hb1).mr (H3.out.below hb1).tr
        rw [← HCB.out] at cM
        go_simp
        exact adds_below cM
      · have h20 : vs 20 = _ := hgr 20 (by decide)
        clear hgr
        change Made _ (Adds _ _ _) (Sem.run _ (execOp (Act.eval (Act.put (frm _ _ _ []) (some 56) (vs 20))) _) _)
        simp only [frm, h20]
        go_simp
        exact adds_val rfl
      · have h20 : vs 20 = _ := hgr 20 (by decide)
        have h30 : vs 30 = _ := hgr 30 (by decide)
        clear hgr
        change Made _ (Adds _ _ _) (Sem.run _ (execOp (Act.eval (Act.put (Act.put (frm _ _ _ []) (some 66) (vs 30)) (some 56) (vs 20))) _) _)
        simp only [frm, h20, h30]
        go_simp
        exact adds_val rfl
      · have h20 : vs 20 = _ := hgr 20 (by decide)
        clear hgr
        change Made _ (Adds _ _ _) (Sem.run _ (execOp (Act.eval (Act.put (frm _ _ _ []) (some 56) (vs 20))) _) _)
        simp only [frm, h20]
        go_simp
        exact adds_val rfl
      · have h20 : vs 20 = _ := hgr 20 (by decide)
        have h32 : vs 32 = _ := hgr 32 (by decide)
        clear hgr
        change Made _ (Adds _ _ _) (Sem.run _ (execOp (Act.eval (Act.put (Act.put (frm _ _ _ []) (some 68) (vs 32)) (some 56) (vs 20))) _) _)
        simp only [frm, h20, h32]
        go_simp
        exact adds_val rfl
      · have h20 : vs 20 = _ := hgr 20 (by decide)
        have h31 : vs 31 = _ := hgr 31 (by decide)
        have h33 : vs 33 = _ := hgr 33 (by decide)
        clear hgr
        change Made _ (Adds _ _ _) (Sem.run _ (execOp (Act.eval (Act.put (Act.put (Act.put (frm _ _ _ []) (some 69) (vs 33)) (some 67) (vs 31)) (some 56) (vs 20))) _) _)
        simp only [frm, h20, h31, h33]
        go_simp
        exact adds_val rfl
      · have h20 : vs 20 = _ := hgr 20 (by decide)
        have h29 : vs 29 = _ := hgr 29 (by decide)
        have h34 : vs 34 = _ := hgr 34 (by decide)
        clear hgr
        change Made _ (Adds _ _ _) (Sem.run _ (execOp (Act.eval (Act.put (Act.put (Act.put (frm _ _ _ []) (some 70) (vs 34)) (some 65) (vs 29)) (some 56) (vs 20))) _) _)
        simp only [frm, h20, h29, h34]
        go_simp
        exact adds_val rfl
      · have h20 : vs 20 = _ := hgr 20 (by decide)
        have h35 : vs 35 = _ := hgr 35 (by decide)
        clear hgr
        change Made _ (Adds _ _ _) (Sem.run _ (execOp (Act.eval (Act.put (Act.put (frm _ _ _ []) (some 71) (vs 35)) (some 56) (vs 20))) _) _)
        simp only [frm, h20, h35]
        go_simp
        exact adds_val rfl
    · intro vs w4 hb1 hall hap
      have h36 : vs 36 = _ := (hall 36 (by omega)).1
      clear hall hap
      change wpList _ _ _ [_] (Act.put (Act.put (Act.put (Act.put (Act.put (Act.put (Act.put (Act.put (Act.put (Act.put (Act.put (Act.put (Act.put (Act.put (Act.put (Act.put (Act.put (Act.put (Act.put (Act.put (Act.put (Act.put (Act.put (Act.put (Act.put (Act.put (Act.put (Act.put (Act.put (Act.put (Act.put (Act.put (Act.put (Act.put (Act.put (Act.put (Act.put (frm _ _ _ []) (some 72) (vs 36)) (some 71) (vs 35)) (some 70) (vs 34)) (some 69) (vs 33)) (some 68) (vs 32)) (some 67) (vs 31)) (some 66) (vs 30)) (some 65) (vs 29)) (some 64) (vs 28)) (some 63) (vs 27)) (some 62) (vs 26)) (some 61) (vs 25)) (some 60) (vs 24)) (some 59) (vs 23)) (some 58) (vs 22)) (some 57) (vs 21)) (some 56) (vs 20)) (some 55) (vs 19)) (some 54) (vs 18)) (some 53) (vs 17)) (some 52) (vs 16)) (some 51) (vs 15)) (some 50) (vs 14)) (some 49) (vs 13)) (some 48) (vs 12)) (some 47) (vs 11)) (some 46) (vs 10)) (some 45) (vs 9)) (some 44) (vs 8)) (some 43) (vs 7)) (some 42) (vs 6)) (some 41) (vs 5)) (some 40) (vs 4)) (some 39) (vs 3)) (some 38) (vs 2)) (some 37) (vs 1)) (some 36) (vs 0)) _
      simp only [frm, h36]
      go_wp2_with fail
      go_ret
      exact ⟨rfl, HB3.out.trans (hb1.mono HB3.out.size)⟩
theorem lists_any (hs : SlR OpR w 9 A n ops) (hc : n ≤ c) (hb : n ≤ 140737488351232) : Calls Tryz.prog 3 #[.slice A n c] w fun e w' => e = .returned (.bool true) ∧ Below w.heap.size w w' := by
  by_cases hn : 24 < n
  · exact lists_big hn hb
  · exact lists_main hs hc (by omega)
end
end Go.Proofs.YtaecdpijpdfboaaGreat
