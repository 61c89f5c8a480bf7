/- CompactionAgain: whatever the input, the law returns true, and the input reads afterwards as before. The row. -/
import Derived.Test.YtjpaogapclfajaaGreatBaAgain
import Derived.Test.YtjpaogapclfajaaGreatBaDoor1
namespace Go.Proofs.YtjpaogapclfajaaGreat
set_option linter.unusedVariables false
set_option linter.unusedSimpArgs false
set_option linter.unusedSectionVars false
open Go.ChangeShapes Go.WideShapes Go.ChangeAt Go.RowKit
set_option maxRecDepth 100000 in
theorem cAgain_lifted (os : Os) (started : os.Started) (H : Type) (enc : TypeId × Value → H) :
  ReturnsInHanded {} Tryz.checked os 10 .any (Rows.compactionAgainSpec.pre6 enc Tryz.prog Tryz.f10 Rows.compactionAgainRow.domain false)
   (Rows.compactionAgainSpec.post enc Tryz.prog Tryz.f10 false true false false) := by
 refine returnsInHanded_of_change_shaped (C := Tryz.checked) own started (by kernel_rfl) Tryz.func10
  (ChangeSpec.witness6 (enc := enc) (C := Tryz.checked) false ⟨#[], #[.slice none 0 0, .slice none 0 0, .slice none 0 0], []⟩ 8 (by kernel_rfl) (by kernel_rfl) (by kernel_rfl) (by kernel_rfl)) ?_
 intro W base args ds gs before hval0 hW _ hwt _ _
 have hval : ∀ (j : Nat) t v, Tryz.f10.params[j]? = some t → args[j]? = some v → Value.okWide Tryz.prog W .any base t v := hval0
 have hW' := hW
 obtain ⟨p, q, hA0, hV, rfl, hfz, hnd⟩ := hW
 have hA : DataW.TrodAll enc Tryz.prog W 0 (fun _ => true) true Tryz.f10.params.toList args.toList ds p := hA0
 rw [Tryz.params10] at hA hval
 obtain ⟨v0, v1, v2, d0, d1, d2, p0, p1, p2, rfl, rfl, rfl, h0, h1, h2⟩ := trodAll_three hA
 obtain ⟨rfl, rfl⟩ := trodVars_none hV
 have k0 := h0
 have lt0 : ∀ x ∈ p0, x.block < W.heap.size := by obtain ⟨m, hm⟩ := k0; exact DataW.trod_lt m _ _ _ hm
 have k1 := h1
 have lt1 : ∀ x ∈ p1, x.block < W.heap.size := by obtain ⟨m, hm⟩ := k1; exact DataW.trod_lt m _ _ _ hm
 have k2 := h2
 have lt2 : ∀ x ∈ p2, x.block < W.heap.size := by obtain ⟨m, hm⟩ := k2; exact DataW.trod_lt m _ _ _ hm
 have g0 : Wgt Tryz.prog 22 d0 := wgt_of hwt (j := 0) (by rw [Tryz.params10]; rfl) rfl
 have g1 : Wgt Tryz.prog 23 d1 := wgt_of hwt (j := 1) (by rw [Tryz.params10]; rfl) rfl
 have g2 : Wgt Tryz.prog 23 d2 := wgt_of hwt (j := 2) (by rw [Tryz.params10]; rfl) rfl
 obtain ⟨A, c, ops, rfl, hc, hnb, hs⟩ := open_ops1 (hval 0 22 v0 rfl rfl) h0 g0
 obtain ⟨A1, c1, l1, rfl, hn1, hs1, hr1⟩ := open_ints1 (hval 1 23 v1 rfl rfl) h1 g1
 obtain ⟨A2, c2, l2, rfl, hn2, hs2, hr2⟩ := open_ints1 (hval 2 23 v2 rfl rfl) h2 g2
 clear hA0 hval0
 have fin : Calls Tryz.prog 10 #[.slice A ops.length c, .slice A1 l1.length c1, .slice A2 l2.length c2] W fun e w' => e = .returned (.bool true) ∧ Below W.heap.size W w' := by
  exact again_any hs hc hs1 hr1 hs2 hr2
 refine fin.mono fun e W' ⟨he, bel⟩ => ?_
 subst he
 exact ⟨_, rfl, _, _, _, [], _, [], hW', trodAll_mk1 (shut_bool Tryz.underlying4 _), (trodAll_cons_mk (Below.trod laidOut (by kernel_rfl) (of_decide_eq_true (by kernel_rfl)) k0 bel lt0) (trodAll_cons_mk (Below.trod laidOut (by kernel_rfl) (of_decide_eq_true (by kernel_rfl)) k1 bel lt1) (trodAll_cons_mk (Below.trod laidOut (by kernel_rfl) (of_decide_eq_true (by kernel_rfl)) k2 bel lt2) trodAll_mk0))), rfl, bel.frame _, fun h => by cases h⟩
theorem cAgain_holds : Rows.CompactionAgainSaid :=
 OpenClaim.holds_of_wide 10 Tryz.f10 rfl rfl rfl rfl rfl rfl rfl ⟨rfl, rfl, rfl, rfl, rfl⟩ rfl rfl rfl rfl rfl (by kernel_rfl) Tryz.func10 (by kernel_rfl)
  (of_decide_eq_true (by kernel_rfl)) (by unfold Func.isWrapper; first | (rw [if_pos (by decide +kernel)]; kernel_rfl) | (rw [if_neg (by decide +kernel)]; exact ⟨rfl, rfl⟩))
  (fun os started H enc _ => cAgain_lifted os started H enc)
#print axioms cAgain_holds
end Go.Proofs.YtjpaogapclfajaaGreat
