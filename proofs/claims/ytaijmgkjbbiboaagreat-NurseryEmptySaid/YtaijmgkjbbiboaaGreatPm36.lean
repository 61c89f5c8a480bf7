/- Parts of the proof: Cov10, CardN. -/
import Derived.Test.YtaijmgkjbbiboaaGreatPmA
import Derived.Test.YtaijmgkjbbiboaaGreatPm15
import Derived.Test.YtaijmgkjbbiboaaGreatPm31
import Derived.Test.YtaijmgkjbbiboaaGreatPm34
import Derived.Test.YtaijmgkjbbiboaaGreatPm5
import Derived.Test.YtaijmgkjbbiboaaGreatPmSortK
set_option linter.unusedVariables false
set_option linter.unusedSimpArgs false
set_option linter.unusedSectionVars false
set_option maxRecDepth 100000
namespace Go.Proofs.YtaijmgkjbbiboaaGreat
section
open Go.RowKit Go.Sort
attribute [local go_sem] Oper.semAt_some onlyN_normal
section
variable {w : World} {B g : Nat} {s : Spc} {V : Value} {A : Option Addr} {c : Nat}
theorem Objects10_any (h : SpR w B g s V) : Calls Tryz.prog 36 #[.pointer (some ⟨g, 0, none⟩)] w fun e W' => ∃ v, e = .returned v ∧ W'.ownsRow w.heap.size 3 1 v s.objs.length (ints s.objs) ∧ Below w.heap.size w W' := callsIn_wide.1 (Objects_in 5 (by omega) h)
theorem RChk_any (h : RS w s A c) : Calls Tryz.prog 16 #[.agg #[.int .i64 s.base, .int .i64 s.limit, .slice A s.ws.length c]] w fun e w' => e = .returned (.int .i64 s.chk) ∧ Below w.heap.size w w' := by
 have hb0 : Below w.heap.size w (w.alloc (.cells #[.int .i64 s.base, .int .i64 s.limit, .slice A s.ws.length c] 33)) := (Below.refl _ _).alloc (Nat.le_refl _) _
 have HQ : Hid (Bk (w.alloc (.cells #[.int .i64 s.base, .int .i64 s.limit, .slice A s.ws.length c] 33)) w.heap.size 33 #[.int .i64 s.base, .int .i64 s.limit, .slice A s.ws.length c]) := lh (Bk.new _ _ _)
 have HS := lh (h.below hb0)
 have HB := lh hb0
 have hlim := h.lim
 have hl0 := h.l0
 have hbb := h.b0
 have HW : Hid (0 ≤ s.walk.2 ∧ s.walk.2 ≤ s.ws.length) := lh ⟨by omega, by
  have h1 := (s.walkFrom_mem s.ws.length 0 (by omega)).2.1
  rw [← Spc.walk_eq] at h1
  omega⟩
 clear h hb0
 by_cases hc : s.walk.2 = s.ws.length
 ·have hk : s.chk = 0 := by unfold Spc.chk; rw [if_pos hc]
  have hwe : s.wend = s.top := by unfold Spc.wend Spc.top; rw [hc]
  have cW := RWalk_any HS.out
  unfold rsV at cW
  rw [hwe] at cW
  rw [hk]
  clear hc hk hwe
  go_enter Tryz.func16, Tryz.ntmps16
  go_upto_region 1 with fail
  generalize w.alloc (.cells #[.int .i64 s.base, .int .i64 s.limit, .slice A s.ws.length c] 33) = w0 at *
  have q0 : w0.cell? ⟨w.heap.size, 0, none⟩ = some (.int .i64 s.base) := HQ.out.cell 0
  have q1 : w0.cell? ⟨w.heap.size, 1, none⟩ = some (.int .i64 s.limit) := HQ.out.cell 1
  have q2 : w0.cell? ⟨w.heap.size, 2, none⟩ = some (.slice A s.ws.length c) := HQ.out.cell 2
  go_wp2_with fail
  refine cW.mono ?_
  rintro e w1 ⟨v, rfl, _, hb1⟩
  have HQ1 := HQ.out.below hb1 HQ.out.lt
  have cT := RTop_any (HS.out.below hb1)
  unfold rsV at cT
  have HB1 := lh (HB.out.trans (hb1.mono HB.out.size))
  clear q0 q1 q2 cW hb1
  have q0 : w1.cell? ⟨w.heap.size, 0, none⟩ = some (.int .i64 s.base) := HQ1.cell 0
  have q1 : w1.cell? ⟨w.heap.size, 1, none⟩ = some (.int .i64 s.limit) := HQ1.cell 1
  have q2 : w1.cell? ⟨w.heap.size, 2, none⟩ = some (.slice A s.ws.length c) := HQ1.cell 2
  clear HQ1
  go_wp2_with fail
  refine cT.mono ?_
  rintro e w2 ⟨rfl, hb2⟩
  have HB2 := lh (HB1.out.trans (hb2.mono HB1.out.size))
  clear q0 q1 q2 cT hb2
  go_wp2_with fail
  go_ret
  exact ⟨rfl, HB2.out⟩
 ·have hk : s.chk = 11 := by unfold Spc.chk; rw [if_neg hc]
  have hne : s.wend ≠ s.top := by unfold Spc.wend Spc.top; omega
  have cW := RWalk_any HS.out
  unfold rsV at cW
  have de : decide (s.wend ≠ s.top) = true := decide_eq_true hne
  have de2 : (s.wend == s.top) = false := by simpa using hne
  have de3 : (s.wend != s.top) = true := by simpa using hne
  rw [hk]
  clear hc hk hne
  go_enter Tryz.func16, Tryz.ntmps16
  go_upto_region 1 with fail
  generalize w.alloc (.cells #[.int .i64 s.base, .int .i64 s.limit, .slice A s.ws.length c] 33) = w0 at *
  have q0 : w0.cell? ⟨w.heap.size, 0, none⟩ = some (.int .i64 s.base) := HQ.out.cell 0
  have q1 : w0.cell? ⟨w.heap.size, 1, none⟩ = some (.int .i64 s.limit) := HQ.out.cell 1
  have q2 : w0.cell? ⟨w.heap.size, 2, none⟩ = some (.slice A s.ws.length c) := HQ.out.cell 2
  go_wp2_with fail
  refine cW.mono ?_
  rintro e w1 ⟨v, rfl, _, hb1⟩
  have HQ1 := HQ.out.below hb1 HQ.out.lt
  have cT := RTop_any (HS.out.below hb1)
  unfold rsV at cT
  have HB1 := lh (HB.out.trans (hb1.mono HB.out.size))
  clear q0 q1 q2 cW hb1
  have q0 : w1.cell? ⟨w.heap.size, 0, none⟩ = some (.int .i64 s.base) := HQ1.cell 0
  have q1 : w1.cell? ⟨w.heap.size, 1, none⟩ = some (.int .i64 s.limit) := HQ1.cell 1
  have q2 : w1.cell? ⟨w.heap.size, 2, none⟩ = some (.slice A s.ws.length c) := HQ1.cell 2
  clear HQ1
  go_wp2_with fail
  refine cT.mono ?_
  rintro e w2 ⟨rfl, hb2⟩
  have HB2 := lh (HB1.out.trans (hb2.mono HB1.out.size))
  clear q0 q1 q2 cT hb2
  go_wp2_with fail
  go_ret
  exact ⟨rfl, HB2.out⟩
end
section
variable {w : World} {s : W10} {A1 : Option Addr} {u1 : Nat} {A2 : Option Addr} {u2 : Nat} {A : Option Addr} {u : Nat} {Ax : Option Addr} {cx : Nat} {Ah : Option Addr} {ch : Nat}
set_option maxHeartbeats 4000000 in
theorem Covered10_any (hm : RM w s.m A1 u1 A2 u2) (ok : s.m.Ok) (hrc : RC w s.cs A u) (hcl : s.cs.length ≤ 100000) : Calls Tryz.prog 15 #[.agg #[.int .i64 s.m.old.base, .int .i64 s.m.old.limit, .slice A1 s.m.old.ws.length u1, .int .i64 s.m.yng.base, .int .i64 s.m.yng.limit, .slice A2 s.m.yng.ws.length u2, .slice A s.cs.length u, .slice Ax s.xs.length cx, .slice Ah s.hs.length ch]] w fun e w' => e = .returned (.bool (decide ((s.m.crossing (cardIn s.cs)).length = (s.m.crossing fun _ => true).length))) ∧ Below w.heap.size w w' := by
 have hb0 : Below w.heap.size w (w.alloc (.cells #[.int .i64 s.m.old.base, .int .i64 s.m.old.limit, .slice A1 s.m.old.ws.length u1, .int .i64 s.m.yng.base, .int .i64 s.m.yng.limit, .slice A2 s.m.yng.ws.length u2, .slice A s.cs.length u, .slice Ax s.xs.length cx, .slice Ah s.hs.length ch] 40)) := (Below.refl _ _).alloc (Nat.le_refl _) _
 have HX : Hid (Bk (w.alloc (.cells #[.int .i64 s.m.old.base, .int .i64 s.m.old.limit, .slice A1 s.m.old.ws.length u1, .int .i64 s.m.yng.base, .int .i64 s.m.yng.limit, .slice A2 s.m.yng.ws.length u2, .slice A s.cs.length u, .slice Ax s.xs.length cx, .slice Ah s.hs.length ch] 40)) w.heap.size 40 #[.int .i64 s.m.old.base, .int .i64 s.m.old.limit, .slice A1 s.m.old.ws.length u1, .int .i64 s.m.yng.base, .int .i64 s.m.yng.limit, .slice A2 s.m.yng.ws.length u2, .slice A s.cs.length u, .slice Ax s.xs.length cx, .slice Ah s.hs.length ch]) := lh (Bk.new _ _ _)
 have HR := lh (hm.below hb0)
 have HC := lh (hrc.below hb0)
 have HB := lh hb0
 have HOK := lh ok
 have HCL := lh hcl
 obtain ⟨K1, hK1⟩ : ∃ K, K = s.m.crossing (cardIn s.cs) := ⟨_, rfl⟩
 obtain ⟨K2, hK2⟩ : ∃ K, K = s.m.crossing fun _ => true := ⟨_, rfl⟩
 rw [← hK1, ← hK2]
 have HK1 := lh hK1
 have HK2 := lh hK2
 obtain ⟨k1, hk1⟩ : ∃ k, K1.length = k := ⟨_, rfl⟩
 obtain ⟨k2, hk2⟩ : ∃ k, K2.length = k := ⟨_, rfl⟩
 rw [hk1, hk2]
 clear hm hrc ok hcl hb0 hK1 hK2
 by_cases he : k1 = k2
 ·subst he
  have HL1 := lh hk1
  have HL2 := lh hk2
  rw [show decide (k1 = k1) = true from decide_eq_true rfl]
  clear hk1 hk2
  go_enter Tryz.func15, Tryz.ntmps15
  go_upto_region 1 with fail
  generalize w.alloc (.cells #[.int .i64 s.m.old.base, .int .i64 s.m.old.limit, .slice A1 s.m.old.ws.length u1, .int .i64 s.m.yng.base, .int .i64 s.m.yng.limit, .slice A2 s.m.yng.ws.length u2, .slice A s.cs.length u, .slice Ax s.xs.length cx, .slice Ah s.hs.length ch] 40) = w0 at *
  obtain ⟨bz, hbz⟩ : ∃ bz, bz = w.heap.size := ⟨_, rfl⟩
  rw [← hbz] at HX
  rw [← hbz]
  clear hbz
  refine wp_region_adds0 11 (fun i => ([[], [0], [], [2], [1, 3], [4], [], [6], [7], [8], [5, 9]] : List (List Nat)).getD i []) (EL [Ent.val (.pointer (some ⟨bz, 0, none⟩)), Ent.val (.agg #[.int .i64 s.m.old.base, .int .i64 s.m.old.limit, .slice A1 s.m.old.ws.length u1, .int .i64 s.m.yng.base, .int .i64 s.m.yng.limit, .slice A2 s.m.yng.ws.length u2]), Ent.val (.pointer (some ⟨bz, 6, none⟩)), Ent.val (.agg #[.slice A s.cs.length u]), Ent.of (IsT w0.heap.size K1) IsT.bl, Ent.val (.int .i64 (k1 : Int)), Ent.val (.pointer (some ⟨bz, 0, none⟩)), Ent.val (.agg #[.int .i64 s.m.old.base, .int .i64 s.m.old.limit, .slice A1 s.m.old.ws.length u1, .int .i64 s.m.yng.base, .int .i64 s.m.yng.limit, .slice A2 s.m.yng.ws.length u2]), Ent.of (IsT w0.heap.size K2) IsT.bl, Ent.val (.int .i64 (k1 : Int)), Ent.val (.bool true)]) (by kernel_rfl) (by kernel_rfl) (by kernel_rfl) (by kernel_rfl) (by rfl) ?_ ?_
  ·intro i hi o ho vs w1 hb1 hgr
   rcases (show i = 0 ∨ i = 1 ∨ i = 2 ∨ i = 3 ∨ i = 4 ∨ i = 5 ∨ i = 6 ∨ i = 7 ∨ i = 8 ∨ i = 9 ∨ i = 10 by omega) with rfl | rfl | rfl | rfl | rfl | rfl | rfl | rfl | rfl | rfl | rfl <;> cases ho
   ·clear hgr
    change Made _ (Adds _ _ _) (Sem.run _ (execOp (Act.eval (frm _ _ _ [])) _) _)
    simp only [frm]
    go_simp
    exact adds_val rfl
   ·have h0 : vs 0 = _ := hgr 0 (by decide)
    clear hgr
    change Made _ (Adds _ _ _) (Sem.run _ (execOp (Act.eval (Act.put (frm _ _ _ []) (some 3) (vs 0))) _) _)
    simp only [frm, h0]
    have hbk := HX.out.below hb1 HX.out.lt
    have c0 : w1.cell? ⟨bz, 0, none⟩ = some (.int .i64 s.m.old.base) := hbk.cell 0
    have c1 : w1.cell? ⟨bz, 1, none⟩ = some (.int .i64 s.m.old.limit) := hbk.cell 1
    have c2 : w1.cell? ⟨bz, 2, none⟩ = some (.slice A1 s.m.old.ws.length u1) := hbk.cell 2
    have c3 : w1.cell? ⟨bz, 3, none⟩ = some (.int .i64 s.m.yng.base) := hbk.cell 3
    have c4 : w1.cell? ⟨bz, 4, none⟩ = some (.int .i64 s.m.yng.limit) := hbk.cell 4
    have c5 : w1.cell? ⟨bz, 5, none⟩ = some (.slice A2 s.m.yng.ws.length u2) := hbk.cell 5
    clear hbk
    go_simp
    exact adds_val rfl
   ·clear hgr
    change Made _ (Adds _ _ _) (Sem.run _ (execOp (Act.eval (frm _ _ _ [])) _) _)
    simp only [frm]
    go_simp
    exact adds_val rfl
   ·have h2 : vs 2 = _ := hgr 2 (by decide)
    clear hgr
    change Made _ (Adds _ _ _) (Sem.run _ (execOp (Act.eval (Act.put (frm _ _ _ []) (some 5) (vs 2))) _) _)
    simp only [frm, h2]
    have hbk := HX.out.below hb1 HX.out.lt
    have c0 : w1.cell? ⟨bz, 6, none⟩ = some (.slice A s.cs.length u) := hbk.cell 6
    clear hbk
    go_simp
    exact adds_val rfl
   ·have h1 : vs 1 = _ := hgr 1 (by decide)
    have h3 : vs 3 = _ := hgr 3 (by decide)
    clear hgr
    change Made _ (Adds _ _ _) (Sem.run _ (execOp (Act.eval (Act.put (Act.put (frm _ _ _ []) (some 6) (vs 3)) (some 4) (vs 1))) _) _)
    simp only [frm, h1, h3]
    have cM := RRemembered_any (HR.out.below hb1) (HC.out.below hb1) HCL.out HOK.out
    unfold rmV at cM
    rw [← HK1.out] at cM
    go_simp
    exact adds_call (T := IsT w0.heap.size K1) (hT := IsT.bl) (ob := fun _ => none) cM fun e w2 ⟨v, he, ho, hb⟩ => ⟨v, he, IsT.of ho hb1.size, hb, (fun k hk => nomatch hk)⟩
   ·obtain ⟨A4, c4, h4, hs4, hc4, hg4⟩ := hgr 4 (by decide)
    clear hgr
    change Made _ (Adds _ _ _) (Sem.run _ (execOp (Act.eval (Act.put (frm _ _ _ []) (some 7) (vs 4))) _) _)
    simp only [frm, h4, HL1.out]
    go_simp
    exact adds_val rfl
   ·clear hgr
    change Made _ (Adds _ _ _) (Sem.run _ (execOp (Act.eval (frm _ _ _ [])) _) _)
    simp only [frm]
    go_simp
    exact adds_val rfl
   ·have h6 : vs 6 = _ := hgr 6 (by decide)
    clear hgr
    change Made _ (Adds _ _ _) (Sem.run _ (execOp (Act.eval (Act.put (frm _ _ _ []) (some 9) (vs 6))) _) _)
    simp only [frm, h6]
    have hbk := HX.out.below hb1 HX.out.lt
    have c0 : w1.cell? ⟨bz, 0, none⟩ = some (.int .i64 s.m.old.base) := hbk.cell 0
    have c1 : w1.cell? ⟨bz, 1, none⟩ = some (.int .i64 s.m.old.limit) := hbk.cell 1
    have c2 : w1.cell? ⟨bz, 2, none⟩ = some (.slice A1 s.m.old.ws.length u1) := hbk.cell 2
    have c3 : w1.cell? ⟨bz, 3, none⟩ = some (.int .i64 s.m.yng.base) := hbk.cell 3
    have c4 : w1.cell? ⟨bz, 4, none⟩ = some (.int .i64 s.m.yng.limit) := hbk.cell 4
    have c5 : w1.cell? ⟨bz, 5, none⟩ = some (.slice A2 s.m.yng.ws.length u2) := hbk.cell 5
    clear hbk
    go_simp
    exact adds_val rfl
   ·have h7 : vs 7 = _ := hgr 7 (by decide)
    clear hgr
    change Made _ (Adds _ _ _) (Sem.run _ (execOp (Act.eval (Act.put (frm _ _ _ []) (some 10) (vs 7))) _) _)
    simp only [frm, h7]
    have cM := RCrossing_any (HR.out.below hb1) HOK.out
    unfold rmV at cM
    rw [← HK2.out] at cM
    go_simp
    exact adds_call (T := IsT w0.heap.size K2) (hT := IsT.bl) (ob := fun _ => none) cM fun e w2 ⟨v, he, ho, hb⟩ => ⟨v, he, IsT.of ho hb1.size, hb, (fun k hk => nomatch hk)⟩
   ·obtain ⟨A8, c8, h8, hs8, hc8, hg8⟩ := hgr 8 (by decide)
    clear hgr
    change Made _ (Adds _ _ _) (Sem.run _ (execOp (Act.eval (Act.put (frm _ _ _ []) (some 11) (vs 8))) _) _)
    simp only [frm, h8, HL2.out]
    go_simp
    exact adds_val rfl
   ·have h5 : vs 5 = _ := hgr 5 (by decide)
    have h9 : vs 9 = _ := hgr 9 (by decide)
    clear hgr
    change Made _ (Adds _ _ _) (Sem.run _ (execOp (Act.eval (Act.put (Act.put (frm _ _ _ []) (some 12) (vs 9)) (some 8) (vs 5))) _) _)
    simp only [frm, h5, h9]
    go_simp
    exact adds_val rfl
  intro vs w1 hb1 hall hap
  have h10 : vs 10 = _ := (hall 10 (by omega)).1
  clear hall hap
  change wpList _ _ _ [_] (Act.put (Act.put (Act.put (Act.put (Act.put (Act.put (Act.put (Act.put (Act.put (Act.put (Act.put (frm _ _ _ []) (some 13) (vs 10)) (some 12) (vs 9)) (some 11) (vs 8)) (some 10) (vs 7)) (some 9) (vs 6)) (some 8) (vs 5)) (some 7) (vs 4)) (some 6) (vs 3)) (some 5) (vs 2)) (some 4) (vs 1)) (some 3) (vs 0)) _
  simp only [frm, h10]
  have HB1 := lh (HB.out.trans (hb1.mono HB.out.size))
  clear hb1 h10
  go_wp2_with fail
  go_ret
  exact ⟨rfl, HB1.out⟩
 ·have HL1 := lh hk1
  have HL2 := lh hk2
  rw [show decide (k1 = k2) = false from decide_eq_false he]
  have de : ((k1 : Int) == (k2 : Int)) = false := by simpa using (fun e : (k1 : Int) = (k2 : Int) => he (by omega))
  have de2 : decide ((k1 : Int) = (k2 : Int)) = false := decide_eq_false (by omega)
  have de3 : (k1 == k2) = false := by simpa using he
  clear hk1 hk2 he
  go_enter Tryz.func15, Tryz.ntmps15
  go_upto_region 1 with fail
  generalize w.alloc (.cells #[.int .i64 s.m.old.base, .int .i64 s.m.old.limit, .slice A1 s.m.old.ws.length u1, .int .i64 s.m.yng.base, .int .i64 s.m.yng.limit, .slice A2 s.m.yng.ws.length u2, .slice A s.cs.length u, .slice Ax s.xs.length cx, .slice Ah s.hs.length ch] 40) = w0 at *
  obtain ⟨bz, hbz⟩ : ∃ bz, bz = w.heap.size := ⟨_, rfl⟩
  rw [← hbz] at HX
  rw [← hbz]
  clear hbz
  refine wp_region_adds0 11 (fun i => ([[], [0], [], [2], [1, 3], [4], [], [6], [7], [8], [5, 9]] : List (List Nat)).getD i []) (EL [Ent.val (.pointer (some ⟨bz, 0, none⟩)), Ent.val (.agg #[.int .i64 s.m.old.base, .int .i64 s.m.old.limit, .slice A1 s.m.old.ws.length u1, .int .i64 s.m.yng.base, .int .i64 s.m.yng.limit, .slice A2 s.m.yng.ws.length u2]), Ent.val (.pointer (some ⟨bz, 6, none⟩)), Ent.val (.agg #[.slice A s.cs.length u]), Ent.of (IsT w0.heap.size K1) IsT.bl, Ent.val (.int .i64 (k1 : Int)), Ent.val (.pointer (some ⟨bz, 0, none⟩)), Ent.val (.agg #[.int .i64 s.m.old.base, .int .i64 s.m.old.limit, .slice A1 s.m.old.ws.length u1, .int .i64 s.m.yng.base, .int .i64 s.m.yng.limit, .slice A2 s.m.yng.ws.length u2]), Ent.of (IsT w0.heap.size K2) IsT.bl, Ent.val (.int .i64 (k2 : Int)), Ent.val (.bool false)]) (by kernel_rfl) (by kernel_rfl) (by kernel_rfl) (by kernel_rfl) (by rfl) ?_ ?_
  ·intro i hi o ho vs w1 hb1 hgr
   rcases (show i = 0 ∨ i = 1 ∨ i = 2 ∨ i = 3 ∨ i = 4 ∨ i = 5 ∨ i = 6 ∨ i = 7 ∨ i = 8 ∨ i = 9 ∨ i = 10 by omega) with rfl | rfl | rfl | rfl | rfl | rfl | rfl | rfl | rfl | rfl | rfl <;> cases ho
   ·clear hgr
    change Made _ (Adds _ _ _) (Sem.run _ (execOp (Act.eval (frm _ _ _ [])) _) _)
    simp only [frm]
    go_simp
    exact adds_val rfl
   ·have h0 : vs 0 = _ := hgr 0 (by decide)
    clear hgr
    change Made _ (Adds _ _ _) (Sem.run _ (execOp (Act.eval (Act.put (frm _ _ _ []) (some 3) (vs 0))) _) _)
    simp only [frm, h0]
    have hbk := HX.out.below hb1 HX.out.lt
    have c0 : w1.cell? ⟨bz, 0, none⟩ = some (.int .i64 s.m.old.base) := hbk.cell 0
    have c1 : w1.cell? ⟨bz, 1, none⟩ = some (.int .i64 s.m.old.limit) := hbk.cell 1
    have c2 : w1.cell? ⟨bz, 2, none⟩ = some (.slice A1 s.m.old.ws.length u1) := hbk.cell 2
    have c3 : w1.cell? ⟨bz, 3, none⟩ = some (.int .i64 s.m.yng.base) := hbk.cell 3
    have c4 : w1.cell? ⟨bz, 4, none⟩ = some (.int .i64 s.m.yng.limit) := hbk.cell 4
    have c5 : w1.cell? ⟨bz, 5, none⟩ = some (.slice A2 s.m.yng.ws.length u2) := hbk.cell 5
    clear hbk
    go_simp
    exact adds_val rfl
   ·clear hgr
    change Made _ (Adds _ _ _) (Sem.run _ (execOp (Act.eval (frm _ _ _ [])) _) _)
    simp only [frm]
    go_simp
    exact adds_val rfl
   ·have h2 : vs 2 = _ := hgr 2 (by decide)
    clear hgr
    change Made _ (Adds _ _ _) (Sem.run _ (execOp (Act.eval (Act.put (frm _ _ _ []) (some 5) (vs 2))) _) _)
    simp only [frm, h2]
    have hbk := HX.out.below hb1 HX.out.lt
    have c0 : w1.cell? ⟨bz, 6, none⟩ = some (.slice A s.cs.length u) := hbk.cell 6
    clear hbk
    go_simp
    exact adds_val rfl
   ·have h1 : vs 1 = _ := hgr 1 (by decide)
    have h3 : vs 3 = _ := hgr 3 (by decide)
    clear hgr
    change Made _ (Adds _ _ _) (Sem.run _ (execOp (Act.eval (Act.put (Act.put (frm _ _ _ []) (some 6) (vs 3)) (some 4) (vs 1))) _) _)
    simp only [frm, h1, h3]
    have cM := RRemembered_any (HR.out.below hb1) (HC.out.below hb1) HCL.out HOK.out
    unfold rmV at cM
    rw [← HK1.out] at cM
    go_simp
    exact adds_call (T := IsT w0.heap.size K1) (hT := IsT.bl) (ob := fun _ => none) cM fun e w2 ⟨v, he, ho, hb⟩ => ⟨v, he, IsT.of ho hb1.size, hb, (fun k hk => nomatch hk)⟩
   ·obtain ⟨A4, c4, h4, hs4, hc4, hg4⟩ := hgr 4 (by decide)
    clear hgr
    change Made _ (Adds _ _ _) (Sem.run _ (execOp (Act.eval (Act.put (frm _ _ _ []) (some 7) (vs 4))) _) _)
    simp only [frm, h4, HL1.out]
    go_simp
    exact adds_val rfl
   ·clear hgr
    change Made _ (Adds _ _ _) (Sem.run _ (execOp (Act.eval (frm _ _ _ [])) _) _)
    simp only [frm]
    go_simp
    exact adds_val rfl
   ·have h6 : vs 6 = _ := hgr 6 (by decide)
    clear hgr
    change Made _ (Adds _ _ _) (Sem.run _ (execOp (Act.eval (Act.put (frm _ _ _ []) (some 9) (vs 6))) _) _)
    simp only [frm, h6]
    have hbk := HX.out.below hb1 HX.out.lt
    have c0 : w1.cell? ⟨bz, 0, none⟩ = some (.int .i64 s.m.old.base) := hbk.cell 0
    have c1 : w1.cell? ⟨bz, 1, none⟩ = some (.int .i64 s.m.old.limit) := hbk.cell 1
    have c2 : w1.cell? ⟨bz, 2, none⟩ = some (.slice A1 s.m.old.ws.length u1) := hbk.cell 2
    have c3 : w1.cell? ⟨bz, 3, none⟩ = some (.int .i64 s.m.yng.base) := hbk.cell 3
    have c4 : w1.cell? ⟨bz, 4, none⟩ = some (.int .i64 s.m.yng.limit) := hbk.cell 4
    have c5 : w1.cell? ⟨bz, 5, none⟩ = some (.slice A2 s.m.yng.ws.length u2) := hbk.cell 5
    clear hbk
    go_simp
    exact adds_val rfl
   ·have h7 : vs 7 = _ := hgr 7 (by decide)
    clear hgr
    change Made _ (Adds _ _ _) (Sem.run _ (execOp (Act.eval (Act.put (frm _ _ _ []) (some 10) (vs 7))) _) _)
    simp only [frm, h7]
    have cM := RCrossing_any (HR.out.below hb1) HOK.out
    unfold rmV at cM
    rw [← HK2.out] at cM
    go_simp
    exact adds_call (T := IsT w0.heap.size K2) (hT := IsT.bl) (ob := fun _ => none) cM fun e w2 ⟨v, he, ho, hb⟩ => ⟨v, he, IsT.of ho hb1.size, hb, (fun k hk => nomatch hk)⟩
   ·obtain ⟨A8, c8, h8, hs8, hc8, hg8⟩ := hgr 8 (by decide)
    clear hgr
    change Made _ (Adds _ _ _) (Sem.run _ (execOp (Act.eval (Act.put (frm _ _ _ []) (some 11) (vs 8))) _) _)
    simp only [frm, h8, HL2.out]
    go_simp
    exact adds_val rfl
   ·have h5 : vs 5 = _ := hgr 5 (by decide)
    have h9 : vs 9 = _ := hgr 9 (by decide)
    clear hgr
    change Made _ (Adds _ _ _) (Sem.run _ (execOp (Act.eval (Act.put (Act.put (frm _ _ _ []) (some 12) (vs 9)) (some 8) (vs 5))) _) _)
    simp only [frm, h5, h9]
    go_simp
    exact adds_val rfl
  intro vs w1 hb1 hall hap
  have h10 : vs 10 = _ := (hall 10 (by omega)).1
  clear hall hap
  change wpList _ _ _ [_] (Act.put (Act.put (Act.put (Act.put (Act.put (Act.put (Act.put (Act.put (Act.put (Act.put (Act.put (frm _ _ _ []) (some 13) (vs 10)) (some 12) (vs 9)) (some 11) (vs 8)) (some 10) (vs 7)) (some 9) (vs 6)) (some 8) (vs 5)) (some 7) (vs 4)) (some 6) (vs 3)) (some 5) (vs 2)) (some 4) (vs 1)) (some 3) (vs 0)) _
  simp only [frm, h10]
  have HB1 := lh (HB.out.trans (hb1.mono HB.out.size))
  clear hb1 h10
  go_wp2_with fail
  go_ret
  exact ⟨rfl, HB1.out⟩
end
end
section
open Go.RowKit Go.Maps Go.Sort Go.Shelf
theorem sortsA (m : Nat) : AnyZI.SortsIn Tryz.prog Tryz.sortedA_ren Fence.wide m :=
 ⟨fun blk off cap ss W hH hblk hsz => callsIn_wide.2 (AnyM.slices_Sort_int Tryz.sortA blk off cap ss W hH hblk hsz),
  fun p cap W => callsIn_wide.2 (AnyM.slices_Sort_int_none Tryz.sortA p cap W)⟩
def KeysP (w : World) (k : TypeId) (D0 : DataW Unit) (e : Ending) (w' : World) : Prop := ∃ (v : Value) (ss : List Int), e = .returned v ∧ ss.Perm (intKeys D0) ∧
 w'.ownsRow w.heap.size k 1 v ss.length ((ss.mergeSort (fun x y => decide (x ≤ y))).map encZ) ∧ (v = .slice none 0 0 ↔ ss = []) ∧ Below w.heap.size w w'
set_option maxHeartbeats 1000000 in
theorem sorted_keys (b nn : Nat) (D0 : DataW Unit) (R : Value → Option (DataW Unit × List MemPlace)) (w : World) (hown : w.ownsMap Tryz.prog 3 R b nn D0) (hmax : Maps.size D0 ≤ maxLen) (hbytes : Maps.size D0 * 8 ≤ 140737488355328) :
  Calls Tryz.prog 79 #[.map (some b)] w (KeysP w 3 D0) := by
 refine (callsIn_wide (n := 6)).1 ?_
 have hbl := hown.lt
 have hseq : SeqGives Fence.wide 2 Tryz.prog 125 #[.pointer (some ⟨w.heap.size, 0, none⟩)] encZ (fun ss => ss.Perm (intKeys D0)) (Maps.size D0) (w.alloc (.cells #[.map (some b)] 127)) :=
  AnyZI.keys_gives (ρ := Tryz.keysA_ren) { Tryz.keysA with } Fence.wide _ trivial rfl (by omega) w.heap.size b nn D0 _ (by simp) (by simp) (by
   obtain ⟨es, clock, hb, Ft, hs, hD⟩ := hown
   exact ⟨es, clock, (Below.heap_alloc _ _ b hbl).trans hb, Ft, hs, hD⟩)
 have cK : ∀ mb W, CallsIn Fence.wide 5 Tryz.prog 110 #[.map mb] W fun e w' => e = .returned (.func (.func 125) #[] #[.pointer (some ⟨W.heap.size, 0, none⟩)]) ∧ w' = W.alloc (.cells #[.map mb] 127) := fun mb W => AnyZI.keys_in Tryz.keysA Fence.wide 5 trivial rfl mb W
 have cS := AnyZI.sorted_in Tryz.sortedA Fence.wide 5 trivial trivial trivial trivial rfl (by omega) (sortsA _) (enters_of Tryz.func124 (by kernel_rfl) rfl) 125 #[.pointer (some ⟨w.heap.size, 0, none⟩)] trivial (enters_of Tryz.func125 (by kernel_rfl) rfl) _ _ hmax hbytes _ hseq
 change CallsIn _ _ Tryz.prog 109 _ _ _ at cS
 have hfK : Fence.wide.fn 110 := trivial
 have hfS : Fence.wide.fn 109 := trivial
 refine callsIn_of_wp Tryz.func79 rfl trivial ?_ rfl
 simp only [Tryz.ntmps79, List.size_toArray, List.length_cons, List.length_nil, Nat.reduceAdd, Nat.reduceSub, Array.replicate_succ, Array.replicate_zero, List.push_toArray, List.append_toArray, List.nil_append, List.cons_append]
 gi_wp2_with (first
  | (gi_at_call 110; refine (cK _ _).mono ?_; rintro e w' ⟨rfl, rfl⟩)
  | (gi_at_call 109; refine cS.mono ?_; rintro e w' ⟨v, ss, rfl, hS, hrow, hnil, hb⟩))
 go_ret
 exact ⟨v, ss, rfl, hS, ownsRow_base_a hrow (by simp), hnil, ((Below.refl _ w).alloc (Nat.le_refl _) _).trans (hb.mono (by simp))⟩
theorem MapT.keys {P : Program} {k e : TypeId} {w : World} {b n : Nat} {cs : List Int} (h : MapT P k e w b n (fun x => cs.contains x)) (hk : P.underlying k = some (.int .i64)) (hs : cs.Pairwise (· < ·)) (hw : ∀ x ∈ cs, (Lit.int .i64 x).wf = true) :
  ∃ D : DataW Unit, w.ownsMap P k (plainElem P e) b n D ∧ cs.Perm (intKeys D) ∧ Maps.size D = cs.length := by
 obtain ⟨D, hown, hD⟩ := h
 have hown2 := hown
 obtain ⟨es, rfl, hpw, _⟩ := hown.entries (int_keyed hk)
 obtain ⟨es', hD', hko⟩ := hown2.keysOf
 obtain rfl : es = es' := by simpa using hD'
 have hkeys : ∀ p ∈ es, ∃ x, p.1 = .int .i64 x := fun p hp => by obtain ⟨v, hv⟩ := hko p hp; obtain ⟨x, _, hx, _⟩ := Maps.keyOf_i64 hk hv; exact ⟨x, hx⟩
 have hperm : cs.Perm (intKeys (.map es)) := perm_intKeys hpw hkeys (hs.imp fun h e => by subst e; exact absurd h (Int.lt_irrefl _)) fun x => by
  by_cases hx : (Lit.int .i64 x).wf = true
  ·rw [(hD x hx).1]; simp
  ·constructor
   ·intro hm; exact absurd (hw x hm) hx
   ·intro hm
    rw [Maps.has_eq, List.any_eq_true] at hm
    obtain ⟨p, hp, hsk⟩ := hm
    obtain ⟨v, hv⟩ := hko p hp
    obtain ⟨y, _, hy, hwy⟩ := Maps.keyOf_i64 hk hv
    rw [hy] at hsk
    have : y = x := by simpa [Lit.sameKey] using hsk
    rw [this] at hwy
    exact absurd hwy hx
 refine ⟨_, hown, hperm, ?_⟩
 rw [hperm.length_eq]
 simp [Maps.size, intKeys]
theorem mergeSort_self {cs ss : List Int} (hs : cs.Pairwise (· < ·)) (h : ss.Perm cs) : ss.mergeSort (fun x y => decide (x ≤ y)) = cs := by
 rw [show ss.mergeSort (fun x y => decide (x ≤ y)) = cs.mergeSort (fun x y => decide (x ≤ y)) from mergeSort_of_perm_i h]
 exact List.mergeSort_of_pairwise (hs.imp fun h => by simp; omega)
def CardsP (w : World) (cs : List Int) (e : Ending) (w' : World) : Prop := ∃ v, e = .returned v ∧ w'.ownsRow w.heap.size 3 1 v cs.length (ints cs) ∧ Below w.heap.size w w'
theorem Cards_any {w : World} {B g b n : Nat} {cs : List Int} (h : CR w B g b n cs) (hs : cs.Pairwise (· < ·)) (hw : ∀ x ∈ cs, (Lit.int .i64 x).wf = true) (hl : cs.length ≤ 1000000) : Calls Tryz.prog 35 #[.pointer (some ⟨g, 0, none⟩)] w (CardsP w cs) := by
 obtain ⟨D, hown, hperm, hsz⟩ := h.mp.keys Tryz.underlying3 hs hw
 have cS := sorted_keys b n D _ w hown (by unfold maxLen; omega) (by omega)
 have c0 : w.cell? ⟨g, 0, none⟩ = some (.map (some b)) := h.hd.cell 0
 have HS := lh hs
 have HP := lh hperm
 clear h hown hs hw hperm hsz
 go_enter Tryz.func35, Tryz.ntmps35
 go_wp2_with fail
 refine cS.mono ?_
 rintro e w1 ⟨v, ss, rfl, hss, hrow, hnil, hb⟩
 have HR := lh hrow
 have HSS := lh hss
 have HB := lh hb
 clear hss hrow hnil hb cS
 go_wp2_with fail
 go_ret
 have hp := HSS.out.trans HP.out.symm
 have hr := HR.out
 rw [mergeSort_self HS.out hp, hp.length_eq] at hr
 exact ⟨v, rfl, hr, HB.out⟩
end
end Go.Proofs.YtaijmgkjbbiboaaGreat
