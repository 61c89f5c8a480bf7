/- Parts of the proof: Emp10. -/
import Derived.Test.YtaijmgkjbbiboaaGreatPmA
import Derived.Test.YtaijmgkjbbiboaaGreatPm29
import Derived.Test.YtaijmgkjbbiboaaGreatPm35
import Derived.Test.YtaijmgkjbbiboaaGreatPm36
set_option linter.unusedVariables false
set_option linter.unusedSimpArgs false
set_option linter.unusedSectionVars false
set_option maxRecDepth 100000
namespace Go.Proofs.YtaijmgkjbbiboaaGreat
section
open Go.RowKit Go.Sort
attribute [local go_sem] Oper.semAt_some onlyN_normal
theorem collect_bad {m : Mm} {chk : Int} {cs roots : List Int} (h : (m.collect chk cs roots).e ≠ 0) : (m.collect chk cs roots).out = [] := by
 unfold Mm.collect at h ⊢
 split
 ·rfl
 ·rename_i h1
  rw [if_neg h1] at h
  split
  ·rfl
  ·rename_i h2
   rw [if_neg h2] at h
   exact absurd rfl h
section
variable {w : World} {Al A3 : Option Addr} {n cl n3 c3 : Nat} {limit : Int}
theorem emp10_big (h : ¬ (n ≤ 60 ∧ n3 ≤ 20 ∧ limit ≤ 2000)) : Calls Tryz.prog 6 #[.int .i64 limit, .slice Al n cl, .slice A3 n3 c3] w fun e w' => e = .returned (.bool true) ∧ Below w.heap.size w w' := by
 have cA := awake10_any w
 by_cases hm : 60 < n ∨ 20 < n3
 ·have cM := fun {w1 : World} => Many10_any (w := w1) (Al := Al) (n := n) (cl := cl) (r := n3)
  rw [decide_eq_true hm] at cM
  clear h hm
  go_enter Tryz.func6, Tryz.ntmps6
  go_wp2_with fail
  refine cA.mono ?_
  rintro e w1 ⟨rfl, hb1⟩
  have HB1 := lh hb1
  clear hb1 cA
  go_wp2_with fail
  refine cM.mono ?_
  rintro e w2 ⟨rfl, rfl⟩
  clear cM
  go_wp2_with fail
  go_ret
  exact ⟨rfl, HB1.out⟩
 ·have cM := fun {w1 : World} => Many10_any (w := w1) (Al := Al) (n := n) (cl := cl) (r := n3)
  rw [decide_eq_false hm] at cM
  have hl : 2000 < limit := by omega
  have dl : decide (limit > 2000) = true := decide_eq_true (by omega)
  clear h hm hl
  go_enter Tryz.func6, Tryz.ntmps6
  go_wp2_with fail
  refine cA.mono ?_
  rintro e w1 ⟨rfl, hb1⟩
  have HB1 := lh hb1
  clear hb1 cA
  go_wp2_with fail
  refine cM.mono ?_
  rintro e w2 ⟨rfl, rfl⟩
  clear cM
  go_wp2_with fail
  go_ret
  exact ⟨rfl, HB1.out⟩
end
section
variable {w : World} {Al : Option Addr} {cl : Nat} {l : List OpV} {limit : Int} {roots : List Int} {Ar : Option Addr} {cr : Nat}
set_option maxHeartbeats 16000000 in
theorem emp10_main (hl : Op10 w Al l) (hcl : l.length ≤ cl) (hn : l.length ≤ 60) (h3 : Sl w 1 Ar roots.length (wds roots)) (h3c : roots.length ≤ cr) (h3u : ∀ x ∈ roots, U64 x) (h3b : ∀ b o, Ar = some ⟨b, o, none⟩ → b < w.heap.size) (hn3 : roots.length ≤ 20) (hlim : limit ≤ 2000) : Calls Tryz.prog 6 #[.int .i64 limit, .slice Al l.length cl, .slice Ar roots.length cr] w fun e w' => e = .returned (.bool true) ∧ Below w.heap.size w w' := by
 have cA := awake10_any w
 have cM := fun {w1 : World} => Many10_any (w := w1) (Al := Al) (n := l.length) (cl := cl) (r := roots.length)
 rw [decide_eq_false (show ¬ (60 < l.length ∨ 20 < roots.length) by omega)] at cM
 have cO := fun {w1 : World} (hb : Below w.heap.size w w1) => Open10_any (hl.below hb rfl) hcl (by omega) limit
 have dl : decide (limit > 2000) = false := decide_eq_false (by omega)
 have h3' := h3
 have HR0 : Hid (∀ {w1 : World}, Below w.heap.size w w1 → Sl w1 1 Ar roots.length (wds roots) ∧ ∀ b o, Ar = some ⟨b, o, none⟩ → b < w.heap.size) := lh fun hb => ⟨h3.below hb, h3b⟩
 have HRU := lh (And.intro h3c (And.intro h3u hn3))
 clear h3 h3' h3c h3u h3b hn3
 have HLN := lh (And.intro hn hlim)
 clear hl hcl hn hlim
 go_enter Tryz.func6, Tryz.ntmps6
 go_wp2_with fail
 refine cA.mono ?_
 rintro e wa ⟨rfl, hba⟩
 have HBA := lh hba
 have cO1 := cO hba
 clear hba cA cO
 go_wp2_with fail
 refine cM.mono ?_
 rintro e wb ⟨rfl, rfl⟩
 clear cM
 go_wp2_with fail
 refine cO1.mono ?_
 rintro e w2 ⟨hop, hin⟩
 obtain ⟨g1, g2, V1, V2, gt, bt, k, A1, u1, A2, u2, A, u, Ax, cx, Ah, ch, B1, rfl, hen⟩ := Env10.start hop (by have := hin.cs.len; have := HLN.out; omega)
 obtain ⟨s, hs⟩ : ∃ s, s = bld10 limit l := ⟨_, rfl⟩
 rw [← hs] at hin hen ⊢
 have HIN := lh hin
 have HEN := lh hen
 have HXL : Hid (s.xs.length ≤ 60 ∧ s.cs.length ≤ 60 ∧ s.m.size ≤ 40000000) := lh ⟨by have := hin.xl; have := HLN.out; omega, by have := hin.cs.len; have := HLN.out; omega, hin.size⟩
 clear hs
 clear hop hin hen cO1
 go_upto_region 8 with fail
 obtain ⟨w3, hw3⟩ : ∃ w3, w3 = (w2.alloc (.cells #[.pointer (some ⟨g1, 0, none⟩), .pointer (some ⟨g2, 0, none⟩)] 29)).alloc (.cells #[.int .i64 s.m.old.base, .int .i64 s.m.old.limit, .slice A1 s.m.old.ws.length u1, .int .i64 s.m.yng.base, .int .i64 s.m.yng.limit, .slice A2 s.m.yng.ws.length u2, .slice A s.cs.length u, .slice Ax s.xs.length cx, .slice Ah s.hs.length ch] 40) := ⟨_, rfl⟩
 obtain ⟨bm, hbm⟩ : ∃ bm, bm = w2.heap.size := ⟨_, rfl⟩
 obtain ⟨bx, hbx⟩ : ∃ bx, bx = w2.heap.size + 1 := ⟨_, rfl⟩
 rw [← hw3, ← hbx, ← hbm] at HEN
 rw [← hw3, ← hbx, ← hbm]
 clear hw3 hbm hbx
 have HB3 : Hid (Below w.heap.size w w3) := lh (HBA.out.trans (HEN.out.bl.mono HBA.out.size))
 have hs3 := HR0.out HB3.out
 have cC := HEN.out.collect hs3.1 HRU.out.1 (by have := HRU.out.2.2; omega) HRU.out.2.1 (fun b o e => ⟨Nat.lt_of_lt_of_le (hs3.2 b o e) HB3.out.size, fun e' => by
  have h1 := HEN.out.ge e'
  have h2 := HEN.out.h0
  have h3 := hs3.2 b o e
  have h4 := HBA.out.size
  omega⟩) HXL.out.2.2
 obtain ⟨Q1, hQ1⟩ : ∃ Q1, Q1 = ColP w3 B1 B1 g1 g2 gt bt k V1 V2 (s.m.collect s.m.yng.chk s.cs roots) := ⟨_, rfl⟩
 rw [← hQ1] at cC
 clear hs3
 have mc0 : w3.cell? ⟨bm, 0, none⟩ = some (.pointer (some ⟨g1, 0, none⟩)) := HEN.out.hm.cell 0
 have mc1 : w3.cell? ⟨bm, 1, none⟩ = some (.pointer (some ⟨g2, 0, none⟩)) := HEN.out.hm.cell 1
 go_wp2_with fail
 refine cC.mono ?_
 rintro e w6 hcp
 rw [hQ1] at hcp
 clear cC mc0 mc1 hQ1
 by_cases he : (s.m.collect s.m.yng.chk s.cs roots).e = 0
 case neg =>
  have hout := collect_bad he
  obtain ⟨v8, V1', V2', k', rfl, ho8, hen8, _, _⟩ := HEN.out.col hcp
  have HB8 := lh (HBA.out.trans (hen8.bl.mono HBA.out.size))
  rw [hout] at ho8
  obtain ⟨A8, c8, rfl, _⟩ := own_shape ho8
  obtain ⟨C, hC⟩ : ∃ C, C = s.m.collect s.m.yng.chk s.cs roots := ⟨_, rfl⟩
  rw [← hC] at he ⊢
  have de : decide (C.e ≠ 0) = true := decide_eq_true he
  have de2 : (C.e == 0) = false := by simpa using he
  have de3 : (C.e != 0) = true := by simpa using he
  clear he hC hcp hen8 hout ho8
  go_wp2_with fail
  go_ret
  exact ⟨rfl, HB8.out⟩
 case pos =>
  obtain ⟨L, U, Z, hf, _, hck, hc⟩ := collect_0 HIN.out.ok he
  rw [hc] at hcp
  obtain ⟨v6, V1', V2', k', rfl, ho6, hen6, _, _⟩ := HEN.out.col hcp
  dsimp only at hen6 ho6 ⊢
  have HF := lh hf
  obtain ⟨M, hM⟩ : ∃ M, M = (s.m.mid U Z).emp := ⟨_, rfl⟩
  rw [← hM] at hen6
  have HM := lh hM
  obtain ⟨nw, hnw⟩ : ∃ nw, nw = roots.map (s.m.mvd L (s.m.plc s.m.old.top L)) := ⟨_, rfl⟩
  rw [← hnw] at ho6
  have HNW : Hid (nw.length = roots.length ∧ (∀ x ∈ nw, ygW x = false) ∧ ∀ x ∈ nw, U64 x) := lh (by
   rw [hnw]
   refine ⟨by rw [List.length_map], hf.out_old, fun x hx => ?_⟩
   obtain ⟨y, hy, rfl⟩ := List.mem_map.1 hx
   exact Mm.mvd_u _ _ _ (HRU.out.2.1 y hy))
  obtain ⟨A6, c6, rfl, hc6⟩ := own_shape ho6
  have HE6 := lh hen6
  have HB6 := lh (HBA.out.trans (hen6.bl.mono HBA.out.size))
  have HV6 := lh (And.intro hc6 (own_sl ho6))
  have HYT : Hid (M.yng.top = M.yng.base) := lh (by rw [hM]; show _ + (([] : List Int).length : Int) = _; simp)
  have hnl : nw.length = roots.length := HNW.out.1
  rw [hnl] at HV6 ⊢
  have HML : Hid (Bk w6 bm 29 #[.pointer (some ⟨g1, 0, none⟩), .pointer (some ⟨g2, 0, none⟩)]) := lh hen6.hm
  clear he hc hcp hen6 hf hM hnw ho6 hc6 hck hnl
  go_upto_region 11 with fail
  refine wp_region_addsG 19 (fun i => ([[], [0], [1], [], [3], [4], [2, 5], [6], [7], [7, 8], [7, 9], [7, 10], [7, 11], [12], [13], [13, 14], [13], [13, 16], [13, 15, 17]] : List (List Nat)).getD i []) (EL [Ent.val (.pointer (some ⟨bm, 1, none⟩)), Ent.val (.pointer (some ⟨g2, 0, none⟩)), Ent.val (.int .i64 M.yng.base), Ent.val (.pointer (some ⟨bm, 1, none⟩)), Ent.val (.pointer (some ⟨g2, 0, none⟩)), Ent.val (.int .i64 M.yng.base), Ent.val (.bool false), Ent.val (.bool false), Ent.val (.pointer (some ⟨gt, 0, none⟩)), Ent.of (IsT w6.heap.size []) IsT.bl, Ent.val (.int .i64 0), Ent.val (.bool false), Ent.val (.bool false), Ent.val (.bool false), Ent.val (.slice A6 roots.length c6), Ent.val (.int .i64 (roots.length : Int)), Ent.val (.slice Ar roots.length cr), Ent.val (.int .i64 (roots.length : Int)), Ent.val (.bool false)]) (by kernel_rfl) (by kernel_rfl) (by kernel_rfl) (by rfl) ?_ ?_ ?_
  ·intro i hi o ho g b hgb vs v w7 hR
   rcases (show i = 0 ∨ i = 1 ∨ i = 2 ∨ i = 3 ∨ i = 4 ∨ i = 5 ∨ i = 6 ∨ i = 7 ∨ i = 8 ∨ i = 9 ∨ i = 10 ∨ i = 11 ∨ i = 12 ∨ i = 13 ∨ i = 14 ∨ i = 15 ∨ i = 16 ∨ i = 17 ∨ i = 18 by omega) with rfl | rfl | rfl | rfl | rfl | rfl | rfl | rfl | rfl | rfl | rfl | rfl | rfl | rfl | rfl | rfl | rfl | rfl | rfl <;> cases ho <;> first | (cases hgb; exact hR) | cases hgb
  ·intro i hi o ho vs w7 hb1 hgr
   rcases (show i = 0 ∨ i = 1 ∨ i = 2 ∨ i = 3 ∨ i = 4 ∨ i = 5 ∨ i = 6 ∨ i = 7 ∨ i = 8 ∨ i = 9 ∨ i = 10 ∨ i = 11 ∨ i = 12 ∨ i = 13 ∨ i = 14 ∨ i = 15 ∨ i = 16 ∨ i = 17 ∨ i = 18 by omega) with rfl | rfl | rfl | rfl | rfl | rfl | rfl | rfl | rfl | rfl | rfl | rfl | rfl | rfl | rfl | rfl | rfl | rfl | rfl <;> cases ho
   ·clear hgr
    change Made _ (Adds _ _ _) (Sem.run _ (execOp (Act.eval (frm _ _ _ [])) _) _)
    simp only [frm]
    go_simp
    exact adds_val rfl
   ·have h0 : vs 0 = _ := hgr 0 (by decide)
    clear hgr
    change Made _ (Adds _ _ _) (Sem.run _ (execOp (Act.eval (Act.put (frm _ _ _ []) (some 55) (vs 0))) _) _)
    simp only [frm, h0]
    have hbk := HML.out.below hb1 HML.out.lt
    have c0 : w7.cell? ⟨bm, 1, none⟩ = some (.pointer (some ⟨g2, 0, none⟩)) := hbk.cell 1
    clear hbk
    go_simp
    exact adds_val rfl
   ·have h1 : vs 1 = _ := hgr 1 (by decide)
    clear hgr
    change Made _ (Adds _ _ _) (Sem.run _ (execOp (Act.eval (Act.put (frm _ _ _ []) (some 56) (vs 1))) _) _)
    simp only [frm, h1]
    have cM := Top_any (HE6.out.below hb1).mr.y
    rw [HYT.out] at cM
    go_simp
    exact adds_below cM
   ·clear hgr
    change Made _ (Adds _ _ _) (Sem.run _ (execOp (Act.eval (frm _ _ _ [])) _) _)
    simp only [frm]
    go_simp
    exact adds_val rfl
   ·have h3 : vs 3 = _ := hgr 3 (by decide)
    clear hgr
    change Made _ (Adds _ _ _) (Sem.run _ (execOp (Act.eval (Act.put (frm _ _ _ []) (some 58) (vs 3))) _) _)
    simp only [frm, h3]
    have hbk := HML.out.below hb1 HML.out.lt
    have c0 : w7.cell? ⟨bm, 1, none⟩ = some (.pointer (some ⟨g2, 0, none⟩)) := hbk.cell 1
    clear hbk
    go_simp
    exact adds_val rfl
   ·have h4 : vs 4 = _ := hgr 4 (by decide)
    clear hgr
    change Made _ (Adds _ _ _) (Sem.run _ (execOp (Act.eval (Act.put (frm _ _ _ []) (some 59) (vs 4))) _) _)
    simp only [frm, h4]
    have cM := Base_any (HE6.out.below hb1).mr.y
    go_simp
    exact adds_still cM
   ·have h2 : vs 2 = _ := hgr 2 (by decide)
    have h5 : vs 5 = _ := hgr 5 (by decide)
    clear hgr
    change Made _ (Adds _ _ _) (Sem.run _ (execOp (Act.eval (Act.put (Act.put (frm _ _ _ []) (some 60) (vs 5)) (some 57) (vs 2))) _) _)
    simp only [frm, h2, h5]
    go_simp
    exact adds_val rfl
   ·have h6 : vs 6 = _ := hgr 6 (by decide)
    clear hgr
    change Made _ (Adds _ _ _) (Sem.run _ (execOp (Act.eval (Act.put (frm _ _ _ []) (some 61) (vs 6))) _) _)
    simp only [frm, h6]
    go_simp
    exact adds_val rfl
   ·have h7 : vs 7 = _ := hgr 7 (by decide)
    clear hgr
    change Made _ (Adds _ _ _) (Sem.run _ (execOp (Act.eval (Act.put (frm _ _ _ []) (some 62) (vs 7))) _) _)
    simp only [frm, h7]
    go_simp
    exact adds_val rfl
   ·have h7 : vs 7 = _ := hgr 7 (by decide)
    have h8 : vs 8 = _ := hgr 8 (by decide)
    clear hgr
    change Made _ (Adds _ _ _) (Sem.run _ (execOp (Act.eval (Act.put (Act.put (frm _ _ _ []) (some 63) (vs 8)) (some 62) (vs 7))) _) _)
    simp only [frm, h7, h8]
    have cM := Cards_any (HE6.out.below hb1).cr List.Pairwise.nil (fun x hx => by cases hx) (by decide)
    go_simp
    exact adds_call (T := IsT w6.heap.size []) (hT := IsT.bl) (ob := fun _ => none) cM fun e w2 ⟨v, he, ho, hb⟩ => ⟨v, he, IsT.of ho hb1.size, hb, (fun k hk => nomatch hk)⟩
   ·have h7 : vs 7 = _ := hgr 7 (by decide)
    obtain ⟨A9, c9, h9, hs9, hc9, hg9⟩ := hgr 9 (by decide)
    clear hgr
    change Made _ (Adds _ _ _) (Sem.run _ (execOp (Act.eval (Act.put (Act.put (frm _ _ _ []) (some 64) (vs 9)) (some 62) (vs 7))) _) _)
    simp only [frm, h7, h9]
    go_simp
    exact adds_val rfl
   ·have h7 : vs 7 = _ := hgr 7 (by decide)
    have h10 : vs 10 = _ := hgr 10 (by decide)
    clear hgr
    change Made _ (Adds _ _ _) (Sem.run _ (execOp (Act.eval (Act.put (Act.put (frm _ _ _ []) (some 65) (vs 10)) (some 62) (vs 7))) _) _)
    simp only [frm, h7, h10]
    go_simp
    exact adds_val rfl
   ·have h7 : vs 7 = _ := hgr 7 (by decide)
    have h11 : vs 11 = _ := hgr 11 (by decide)
    clear hgr
    change Made _ (Adds _ _ _) (Sem.run _ (execOp (Act.eval (Act.put (Act.put (frm _ _ _ []) (some 66) (vs 11)) (some 62) (vs 7))) _) _)
    simp only [frm, h7, h11]
    go_simp
    exact adds_val rfl
   ·have h12 : vs 12 = _ := hgr 12 (by decide)
    clear hgr
    change Made _ (Adds _ _ _) (Sem.run _ (execOp (Act.eval (Act.put (frm _ _ _ []) (some 67) (vs 12))) _) _)
    simp only [frm, h12]
    go_simp
    exact adds_val rfl
   ·have h13 : vs 13 = _ := hgr 13 (by decide)
    clear hgr
    change Made _ (Adds _ _ _) (Sem.run _ (execOp (Act.eval (Act.put (frm _ _ _ []) (some 68) (vs 13))) _) _)
    simp only [frm, h13]
    go_simp
    exact adds_val rfl
   ·have h13 : vs 13 = _ := hgr 13 (by decide)
    have h14 : vs 14 = _ := hgr 14 (by decide)
    clear hgr
    change Made _ (Adds _ _ _) (Sem.run _ (execOp (Act.eval (Act.put (Act.put (frm _ _ _ []) (some 69) (vs 14)) (some 68) (vs 13))) _) _)
    simp only [frm, h13, h14]
    go_simp
    exact adds_val rfl
   ·have h13 : vs 13 = _ := hgr 13 (by decide)
    clear hgr
    change Made _ (Adds _ _ _) (Sem.run _ (execOp (Act.eval (Act.put (frm _ _ _ []) (some 68) (vs 13))) _) _)
    simp only [frm, h13]
    go_simp
    exact adds_val rfl
   ·have h13 : vs 13 = _ := hgr 13 (by decide)
    have h16 : vs 16 = _ := hgr 16 (by decide)
    clear hgr
    change Made _ (Adds _ _ _) (Sem.run _ (execOp (Act.eval (Act.put (Act.put (frm _ _ _ []) (some 71) (vs 16)) (some 68) (vs 13))) _) _)
    simp only [frm, h13, h16]
    go_simp
    exact adds_val rfl
   ·have h13 : vs 13 = _ := hgr 13 (by decide)
    have h15 : vs 15 = _ := hgr 15 (by decide)
    have h17 : vs 17 = _ := hgr 17 (by decide)
    clear hgr
    change Made _ (Adds _ _ _) (Sem.run _ (execOp (Act.eval (Act.put (Act.put (Act.put (frm _ _ _ []) (some 72) (vs 17)) (some 70) (vs 15)) (some 68) (vs 13))) _) _)
    simp only [frm, h13, h15, h17]
    go_simp
    exact adds_val rfl
  ·intro vs w7 hb1 hall hap
   have h13 : vs 13 = _ := (hall 13 (by omega)).1
   have h18 : vs 18 = _ := (hall 18 (by omega)).1
   clear hall hap
   change wpList _ _ _ [_] (Act.put (Act.put (Act.put (Act.put (Act.put (Act.put (Act.put (Act.put (Act.put (Act.put (Act.put (Act.put (Act.put (Act.put (Act.put (Act.put (Act.put (Act.put (Act.put (frm _ _ _ []) (some 73) (vs 18)) (some 72) (vs 17)) (some 71) (vs 16)) (some 70) (vs 15)) (some 69) (vs 14)) (some 68) (vs 13)) (some 67) (vs 12)) (some 66) (vs 11)) (some 65) (vs 10)) (some 64) (vs 9)) (some 63) (vs 8)) (some 62) (vs 7)) (some 61) (vs 6)) (some 60) (vs 5)) (some 59) (vs 4)) (some 58) (vs 3)) (some 57) (vs 2)) (some 56) (vs 1)) (some 55) (vs 0)) _
   simp only [frm, h13, h18]
   have HE7 := lh (HE6.out.below hb1)
   have HV7 := lh (And.intro HV6.out.1 (HV6.out.2.below hb1))
   have HB7 := lh (HB6.out.trans (hb1.mono HB6.out.size))
   clear hb1 HML
   go_wp2_with fail
   have hrl : roots.length ≤ 20 := HRU.out.2.2
   go_loopw [14] (fun ix wr => ∃ j : Nat, ix = .int .i64 (j : Int) ∧ j ≤ roots.length ∧ Below w7.heap.size w7 wr) (fun ix _ => roots.length - (intOf ix).toNat)
   case atStart => exact ⟨0, rfl, Nat.zero_le _, Below.refl _ _⟩
   case round =>
    obtain ⟨j, rfl, hj, hb⟩ := hrel
    have HBL := lh hb
    by_cases hlt : j < roots.length
    ·have hlt2 : j < nw.length := by have := HNW.out.1; omega
     have hx : nw[j]? = some nw[j] := List.getElem?_eq_getElem hlt2
     have cY := fun w => Young_any (HNW.out.2.2 _ (List.mem_of_getElem? hx)) w
     rw [HNW.out.2.1 _ (List.mem_of_getElem? hx)] at cY
     obtain ⟨bb, oo, hA, hbl, hc⟩ := (HV7.out.2.below hb).2.resolve_left (by omega)
     have hci : wr.cell? ⟨bb, oo + j, none⟩ = some (.int .u64 nw[j]) := hc j _ (wds_get hx)
     subst hA
     have hcc := HV7.out.1
     have hic : j < c6 := by omega
     generalize nw[j] = x at *
     clear hb hx hbl hc hlt2
     go_wp2_with fail
     refine (cY _).mono ?_
     rintro e w8 ⟨rfl, rfl⟩
     clear cY
     go_wp2_with fail
     go_roundw
     case rel => exact ⟨j + 1, by go_num, by omega, HBL.out⟩
     case measure => simp [intOf]; omega
    ·have HE8 := lh (HE7.out.below hb)
     have HB8 := lh (HB7.out.trans (hb.mono HB7.out.size))
     have cV := Covered10_any (Ax := Ax) (cx := cx) (Ah := Ah) (ch := ch) HE8.out.rm HIN.out.ok HE8.out.rc (by have := HXL.out.2.1; omega)
     have xc0 : wr.cell? ⟨bx, 0, none⟩ = some (.int .i64 s.m.old.base) := HE8.out.hx.cell 0
     have xc1 : wr.cell? ⟨bx, 1, none⟩ = some (.int .i64 s.m.old.limit) := HE8.out.hx.cell 1
     have xc2 : wr.cell? ⟨bx, 2, none⟩ = some (.slice A1 s.m.old.ws.length u1) := HE8.out.hx.cell 2
     have xc3 : wr.cell? ⟨bx, 3, none⟩ = some (.int .i64 s.m.yng.base) := HE8.out.hx.cell 3
     have xc4 : wr.cell? ⟨bx, 4, none⟩ = some (.int .i64 s.m.yng.limit) := HE8.out.hx.cell 4
     have xc5 : wr.cell? ⟨bx, 5, none⟩ = some (.slice A2 s.m.yng.ws.length u2) := HE8.out.hx.cell 5
     have xc6 : wr.cell? ⟨bx, 6, none⟩ = some (.slice A s.cs.length u) := HE8.out.hx.cell 6
     have xc7 : wr.cell? ⟨bx, 7, none⟩ = some (.slice Ax s.xs.length cx) := HE8.out.hx.cell 7
     have xc8 : wr.cell? ⟨bx, 8, none⟩ = some (.slice Ah s.hs.length ch) := HE8.out.hx.cell 8
     clear hb HBL
     by_cases hcv : (s.m.crossing (cardIn s.cs)).length = (s.m.crossing fun _ => true).length
     case neg =>
      rw [decide_eq_false hcv] at cV
      clear hcv
      go_wp2_with fail
      refine cV.mono ?_
      rintro e w9 ⟨rfl, hb9⟩
      have HB9 := lh (HB8.out.trans (hb9.mono HB8.out.size))
      clear cV hb9
      go_wp2_with fail
      go_ret
      exact ⟨rfl, HB9.out⟩
     case pos =>
      rw [decide_eq_true hcv] at cV
      have HCV := lh (covered_mem hcv)
      clear hcv
      go_wp2_with fail
      refine cV.mono ?_
      rintro e w9 ⟨rfl, hb9⟩
      have HE9 := lh (HE8.out.below hb9)
      have HB9 := lh (HB8.out.trans (hb9.mono HB8.out.size))
      have cK := RChk_any HE9.out.rm.o
      clear cV hb9 xc0 xc1 xc2 xc3 xc4 xc5 xc6 xc7 xc8
      have xc0 : w9.cell? ⟨bx, 0, none⟩ = some (.int .i64 s.m.old.base) := HE9.out.hx.cell 0
      have xc1 : w9.cell? ⟨bx, 1, none⟩ = some (.int .i64 s.m.old.limit) := HE9.out.hx.cell 1
      have xc2 : w9.cell? ⟨bx, 2, none⟩ = some (.slice A1 s.m.old.ws.length u1) := HE9.out.hx.cell 2
      have xc3 : w9.cell? ⟨bx, 3, none⟩ = some (.int .i64 s.m.yng.base) := HE9.out.hx.cell 3
      have xc4 : w9.cell? ⟨bx, 4, none⟩ = some (.int .i64 s.m.yng.limit) := HE9.out.hx.cell 4
      have xc5 : w9.cell? ⟨bx, 5, none⟩ = some (.slice A2 s.m.yng.ws.length u2) := HE9.out.hx.cell 5
      have xc6 : w9.cell? ⟨bx, 6, none⟩ = some (.slice A s.cs.length u) := HE9.out.hx.cell 6
      have xc7 : w9.cell? ⟨bx, 7, none⟩ = some (.slice Ax s.xs.length cx) := HE9.out.hx.cell 7
      have xc8 : w9.cell? ⟨bx, 8, none⟩ = some (.slice Ah s.hs.length ch) := HE9.out.hx.cell 8
      by_cases hck : s.m.old.chk = 0
      case neg =>
       have hck2 : s.m.old.chk = 11 := by
        unfold Spc.chk at hck ⊢
        split
        ·rename_i hh
         rw [if_pos hh] at hck
         exact absurd rfl hck
        ·rfl
       rw [hck2] at cK
       clear hck hck2
       go_wp2_with fail
       refine cK.mono ?_
       rintro e wt ⟨rfl, hbt⟩
       have HBT := lh (HB9.out.trans (hbt.mono HB9.out.size))
       clear cK hbt
       go_wp2_with fail
       go_ret
       exact ⟨rfl, HBT.out⟩
      case pos =>
       rw [hck] at cK
       have HCK := lh hck
       clear hck
       go_wp2_with fail
       refine cK.mono ?_
       rintro e wt ⟨rfl, hbt⟩
       have HET := lh (HE9.out.below hbt)
       have HBT := lh (HB9.out.trans (hbt.mono HB9.out.size))
       have cO := Objects10_any HET.out.mr.o
       clear cK hbt xc0 xc1 xc2 xc3 xc4 xc5 xc6 xc7 xc8
       have mc0 : wt.cell? ⟨bm, 0, none⟩ = some (.pointer (some ⟨g1, 0, none⟩)) := HET.out.hm.cell 0
       have mc1 : wt.cell? ⟨bm, 1, none⟩ = some (.pointer (some ⟨g2, 0, none⟩)) := HET.out.hm.cell 1
       go_wp2_with fail
       refine cO.mono ?_
       rintro e wo ⟨vo, rfl, hoo, hbo⟩
       obtain ⟨Ao, co, rfl, hco⟩ := own_shape hoo
       have HEO := lh (HET.out.below hbo)
       have HBO := lh (HBT.out.trans (hbo.mono HBT.out.size))
       have HSO := lh (And.intro hco (own_sl hoo))
       have hol : M.old.objs.length ≤ 16777216 := objs_len HET.out.mr.ok
       have HSA : Hid (∀ a ∈ M.old.objs, (M.hdr a).1 = 0 ∧ ∀ i : Nat, (i : Int) < slotN (M.hdr a).2 → ∃ x, M.at_ (a + 2 + (i : Int)) = some x ∧ ygW x = false) := lh (by
        rw [HM.out]
        exact fun a ha => HF.out.slot_old HCK.out HCV.out ha)
       clear cO hoo hbo hco mc0 mc1
       go_wp2_with fail
       go_loopw [100] (fun ix wr => ∃ j : Nat, ix = .int .i64 (j : Int) ∧ j ≤ M.old.objs.length ∧ Below wo.heap.size wo wr) (fun ix _ => M.old.objs.length - (intOf ix).toNat)
       case atStart => exact ⟨0, rfl, Nat.zero_le _, Below.refl _ _⟩
       case round =>
        obtain ⟨j, rfl, hj, hb⟩ := hrel
        have HBL := lh hb
        have HEL := lh (HEO.out.below hb)
        by_cases hlt : j < M.old.objs.length
        ·have hx : M.old.objs[j]? = some M.old.objs[j] := List.getElem?_eq_getElem hlt
         have hsl := HSA.out _ (List.mem_of_getElem? hx)
         have hsn32 : slotN (M.hdr M.old.objs[j]).2 ≤ 30 := by
          have h1 := slotN_le (Mm.hdr_valid hsl.1)
          have h2 := wH_bound (M.hdr M.old.objs[j]).2
          omega
         have hrg := hdr_rg HEL.out.mr.ok hsl.1
         have cH := MHeader_yes HEL.out.mr _ hsl.1
         obtain ⟨bb, oo, hA, hbl, hc⟩ := (HSO.out.2.below hb).2.resolve_left (by omega)
         have hci : wr.cell? ⟨bb, oo + j, none⟩ = some (.int .i64 M.old.objs[j]) := hc j _ (ints_get hx)
         subst hA
         have hcc := HSO.out.1
         have hic : j < co := by omega
         generalize M.old.objs[j] = a at *
         obtain ⟨⟨er, hk, hc_, hf⟩, hhd⟩ : ∃ q : Int × Hdr, q = M.hdr a := ⟨_, rfl⟩
         rw [← hhd] at hsl hsn32
         simp only [← hhd] at cH
         dsimp only at hsl hsn32
         have HS30 := lh hsn32
         have HSL := lh hsl.2
         have mc0 : wr.cell? ⟨bm, 0, none⟩ = some (.pointer (some ⟨g1, 0, none⟩)) := HEL.out.hm.cell 0
         have mc1 : wr.cell? ⟨bm, 1, none⟩ = some (.pointer (some ⟨g2, 0, none⟩)) := HEL.out.hm.cell 1
         clear hb hx hbl hc hsl hhd hsn32
         go_upto_region 23 with fail
         go_wp2_with fail
         refine cH.mono ?_
         rintro e wh ⟨rfl, hbh⟩
         clear cH mc0 mc1 hci
         go_upto_region 24 with fail
         have hby := hbh.trans (((Below.refl wh.heap.size wh).alloc (Nat.le_refl _) (.cells #[.int .i64 hk, .int .i64 hc_, .int .i64 hf] 58)).mono hbh.size)
         have HK17 : Hid (Bk (wh.alloc (.cells #[.int .i64 hk, .int .i64 hc_, .int .i64 hf] 58)) wh.heap.size 58 #[.int .i64 hk, .int .i64 hc_, .int .i64 hf]) := lh (Bk.new _ _ _)
         have HBH := lh (HBL.out.trans (hby.mono HBL.out.size))
         have HEH := lh (HEL.out.below hby)
         clear hby hbh
         generalize wh.alloc (.cells #[.int .i64 hk, .int .i64 hc_, .int .i64 hf] 58) = wi at *
         obtain ⟨g17, hg17⟩ : ∃ g17, g17 = wh.heap.size := ⟨_, rfl⟩
         rw [← hg17] at HK17 ⊢
         clear hg17
         obtain ⟨N, hN⟩ : ∃ N, N = (slotN ⟨hk, hc_, hf⟩).toNat := ⟨_, rfl⟩
         have HN : Hid ((slotN ⟨hk, hc_, hf⟩ ≤ 0 ∧ N = 0) ∨ slotN ⟨hk, hc_, hf⟩ = (N : Int)) := lh (by omega)
         have cS := fun w => RSlots_any ⟨hk, hc_, hf⟩ w
         obtain ⟨sn, hsn⟩ : ∃ sn, sn = slotN ⟨hk, hc_, hf⟩ := ⟨_, rfl⟩
         rw [← hsn] at HN HSL HS30
         simp only [← hsn] at cS
         clear hN hsn
         go_wp2_with fail
         go_loopw [19] (fun ix wr => ∃ i : Nat, ix = .int .i64 (i : Int) ∧ i ≤ N ∧ Below wi.heap.size wi wr) (fun ix _ => N - (intOf ix).toNat)
         case atStart => exact ⟨0, rfl, Nat.zero_le _, Below.refl _ _⟩
         case round =>
          obtain ⟨i, rfl, hi, hb⟩ := hrel
          have HBI := lh hb
          have HEI := lh (HEH.out.below hb)
          have hkk := HK17.out.below hb HK17.out.lt
          have a0 : wr.cell? ⟨g17, 0, none⟩ = some (.int .i64 hk) := hkk.cell 0
          have a1 : wr.cell? ⟨g17, 1, none⟩ = some (.int .i64 hc_) := hkk.cell 1
          have a2 : wr.cell? ⟨g17, 2, none⟩ = some (.int .i64 hf) := hkk.cell 2
          clear hb hkk
          go_wp2_with fail
          refine (cS _).mono ?_
          rintro e ws ⟨rfl, hbs⟩
          have HBJ := lh (HBI.out.trans (hbs.mono HBI.out.size))
          have HEJ := lh (HEI.out.below hbs)
          clear hbs a0 a1 a2
          by_cases hin : (i : Int) < sn
          ·obtain ⟨x, hat, hyx⟩ := HSL.out i hin
           have hux := HEJ.out.mr.ok.at_u hat
           have cL := MLoad_of HEJ.out.mr (a + 2 + (i : Int))
           rw [hat] at cL
           unfold atV at cL
           dsimp only at cL
           have cY := fun w => Young_any hux w
           rw [hyx] at cY
           have hN2 : i < N := by have := HN.out; omega
           have hib : (i : Int) ≤ 100 := by have := HS30.out; omega
           have hw1 : IntKind.i64.wrap (a + 2) = a + 2 := IntWalk.i64_in _ (by omega)
           have hw2 : IntKind.i64.wrap (a + 2 + (i : Int)) = a + 2 + (i : Int) := IntWalk.i64_in _ (by omega)
           have mc0 : ws.cell? ⟨bm, 0, none⟩ = some (.pointer (some ⟨g1, 0, none⟩)) := HEJ.out.hm.cell 0
           have mc1 : ws.cell? ⟨bm, 1, none⟩ = some (.pointer (some ⟨g2, 0, none⟩)) := HEJ.out.hm.cell 1
           clear hat hyx hux
           go_wp2_with fail
           refine cL.mono ?_
           rintro e wl ⟨rfl, hbl⟩
           have HBW := lh (HBJ.out.trans (hbl.mono HBJ.out.size))
           clear cL hbl mc0 mc1
           go_wp2_with fail
           refine (cY _).mono ?_
           rintro e wy ⟨rfl, rfl⟩
           clear cY
           go_wp2_with fail
           go_roundw
           case rel => exact ⟨i + 1, by go_num, by omega, HBW.out⟩
           case measure => simp [intOf]; omega
          ·have HBW := lh (HBH.out.trans (HBJ.out.mono HBH.out.size))
           go_wp2_with fail
           go_roundw
           case rel => exact ⟨j + 1, by go_num, by omega, HBW.out⟩
           case measure => simp [intOf]; omega
        ·have cK := Check_any HEL.out.mr.o
         rw [show M.old.chk = 0 by rw [HM.out]; exact (HF.out.objs HCK.out).1] at cK
         have mc0 : wr.cell? ⟨bm, 0, none⟩ = some (.pointer (some ⟨g1, 0, none⟩)) := HEL.out.hm.cell 0
         have mc1 : wr.cell? ⟨bm, 1, none⟩ = some (.pointer (some ⟨g2, 0, none⟩)) := HEL.out.hm.cell 1
         clear hb
         go_wp2_with fail
         refine cK.mono ?_
         rintro e wz ⟨rfl, hbz⟩
         have HBZ := lh (HBO.out.trans ((HBL.out.trans (hbz.mono HBL.out.size)).mono HBO.out.size))
         clear cK hbz mc0 mc1
         go_wp2_with fail
         go_ret
         exact ⟨rfl, HBZ.out⟩
theorem emp10_any (hl : Op10 w Al l) (hcl : l.length ≤ cl) (h3 : Sl w 1 Ar roots.length (wds roots)) (h3c : roots.length ≤ cr) (h3u : ∀ x ∈ roots, U64 x) (h3b : ∀ b o, Ar = some ⟨b, o, none⟩ → b < w.heap.size) : Calls Tryz.prog 6 #[.int .i64 limit, .slice Al l.length cl, .slice Ar roots.length cr] w fun e w' => e = .returned (.bool true) ∧ Below w.heap.size w w' := by
 by_cases h : l.length ≤ 60 ∧ roots.length ≤ 20 ∧ limit ≤ 2000
 ·exact emp10_main hl hcl h.1 h3 h3c h3u h3b h.2.1 h.2.2
 ·exact emp10_big h
end
end
end Go.Proofs.YtaijmgkjbbiboaaGreat
