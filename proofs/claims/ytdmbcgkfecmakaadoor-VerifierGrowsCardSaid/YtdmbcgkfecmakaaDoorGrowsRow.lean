/- VerifierGrows: whatever the input, the law returns true, and the input reads afterwards as before. The row (its listed variables are a premise) and the card that ties them to the program's text. -/
import Derived.Test.YtdmbcgkfecmakaaDoorCards
import Derived.Test.YtdmbcgkfecmakaaDoorTie
import Derived.Test.YtdmbcgkfecmakaaDoorDoor
import Derived.Test.YtdmbcgkfecmakaaDoorGrows
namespace Go.Proofs.YtdmbcgkfecmakaaDoor
set_option linter.unusedVariables false
set_option linter.unusedSimpArgs false
set_option linter.unusedSectionVars false
open Go.ChangeShapes Go.WideShapes Go.ChangeAt Go.RowKit

set_option maxRecDepth 100000 in
theorem lGrows_lifted (os : Os) (started : os.Started) (H : Type) (enc : TypeId × Value → H) :
    ReturnsInHanded {} Tryd.checked os 12 .any (fun w args => (Rows.verifierGrowsSpec.pre enc Tryd.prog Tryd.f12 [] false w args ∧ laidMetH Tryd.prog Rows.verifierGrowsRow.laid w) ∧ sizedMet enc Tryd.prog Tryd.f12 (OpenSpec.ofChange Rows.verifierGrowsSpec) false w args)
      (Rows.verifierGrowsSpec.post enc Tryd.prog Tryd.f12 false true false false) := by
  refine returnsInHanded_of_change_and (C := Tryd.checked) (X := fun w _ => laidMetH Tryd.prog Rows.verifierGrowsRow.laid w) (fun _ _ _ hh h => h.of_heap hh) own started (by kernel_rfl) Tryd.func12
    (ChangeSpec.witness_shaped (enc := enc) (C := Tryd.checked) (os := os) (X := fun w _ => laidMetH Tryd.prog Rows.verifierGrowsRow.laid w) false (World.doorLaid Tryd.prog 400 os) #[.agg #[.slice none 0 0], .agg #[.string ⟨#[]⟩, .bool false, .slice none 0 0, .slice none 0 0]] 8 rfl (World.shaped_of_RefB (by kernel_rfl) (by kernel_rfl)) (by kernel_rfl) (by kernel_rfl) (by kernel_rfl) (door_met os _)) ?_
  intro W base args ds gs before hval0 hW _ hwt hL _
  have hval : ∀ (j : Nat) t v, Tryd.f12.params[j]? = some t → args[j]? = some v → Value.okWide Tryd.prog W .any base t v := hval0
  have hW' := hW
  obtain ⟨p, q, hA0, hV, rfl, hfz, hnd⟩ := hW
  have hA : DataW.TrodAll enc Tryd.prog W 0 (fun _ => true) true Tryd.f12.params.toList args.toList ds p := hA0
  rw [Tryd.params12] at hA hval
  obtain ⟨v0, v1, d0, d1, p0, p1, rfl, rfl, rfl, h0, h1⟩ := trodAll_two hA
  obtain ⟨rfl, rfl⟩ := trodVars_none hV
  have k0 := h0
  have lt0 : ∀ x ∈ p0, x.block < W.heap.size := by obtain ⟨m, hm⟩ := k0; exact DataW.trod_lt m _ _ _ hm
  have k1 := h1
  have lt1 : ∀ x ∈ p1, x.block < W.heap.size := by obtain ⟨m, hm⟩ := k1; exact DataW.trod_lt m _ _ _ hm
  have g0 : Wgt Tryd.prog 55 d0 := wgt_of hwt (j := 0) (by rw [Tryd.params12]; rfl) rfl
  have g1 : Wgt Tryd.prog 61 d1 := wgt_of hwt (j := 1) (by rw [Tryd.params12]; rfl) rfl
  obtain ⟨A, n, c, cs, rfl, hC⟩ := open_codeV (hval 0 55 v0 rfl rfl) h0 g0
  obtain ⟨x, F, fc, M, mc, rfl, hok, hfc, hF⟩ := open_clsV (hval 1 61 v1 rfl rfl) h1 g1
  clear hA0 hval0
  have fin : Calls Tryd.prog 12 #[.agg #[.slice A n c], .agg #[.string x.nm, .bool x.actor, .slice F x.fields.length fc, .slice M x.ms.length mc]] W fun e w' => e = .returned (.bool true) ∧ Below W.heap.size W w' := by
    exact LGrows_any hC hok hfc hF
  refine fin.mono fun e W' ⟨he, bel⟩ => ?_
  subst he
  exact ⟨_, rfl, _, _, _, [], _, [], hW', trodAll_mk1 (shut_bool Tryd.underlying4 _), (trodAll_cons_mk (Below.trod laidOut (by kernel_rfl) (of_decide_eq_true (by kernel_rfl)) k0 bel lt0) (trodAll_cons_mk (Below.trod laidOut (by kernel_rfl) (of_decide_eq_true (by kernel_rfl)) k1 bel lt1) trodAll_mk0)), rfl, bel.frame _, fun h => by cases h⟩

theorem lGrows_row : Rows.VerifierGrowsSaid :=
  OpenClaim.holds_of_wide 12 Tryd.f12 rfl rfl rfl rfl rfl rfl rfl ⟨rfl, rfl, rfl, rfl, rfl⟩ rfl rfl rfl rfl rfl (by kernel_rfl) Tryd.func12 (by kernel_rfl)
    (of_decide_eq_true (by kernel_rfl)) (by unfold Func.isWrapper; first | (rw [if_pos (by decide +kernel)]; kernel_rfl) | (rw [if_neg (by decide +kernel)]; exact ⟨rfl, rfl⟩))
    (fun os started H enc _ => lGrows_lifted os started H enc)

theorem lGrows_holds : Rows.VerifierGrowsCardSaid :=
  Claim7.holds_tied_plain_at .later [] [.data, .data, .data, .data] true (true, "3182f320abe7c109e21051a7b952acc2ace3f0d500cfccfff0c6663a8fa14c19") false
    lGrows_row (fun _ h => by cases h) (by kernel_rfl) (fun _ h => by cases h) verifierGrows_row_tie rfl ⟨rfl, rfl⟩ (by kernel_rfl) rfl
    (fun f fn hf hfn => by
      obtain rfl : f = 12 := Option.some.inj ((show Tryd.prog.funcNamed "refmesh/refmeshlaw43.VerifierGrows" = some 12 by kernel_rfl).symm.trans hf) |>.symm
      obtain rfl : fn = Tryd.f12 := (Option.some.inj (Tryd.func12.symm.trans hfn)).symm
      exact ⟨by kernel_rfl, fun j t ht => by
        rw [Tryd.params12] at ht
        have hm : t ∈ [55, 61] := by simpa using Array.mem_of_getElem? ht
        have hall : ([55, 61].all fun u => !Tryd.prog.wantsStandIn u) = true := by kernel_rfl
        exact (show Tryd.prog.wantsStandIn t = false by simpa using List.all_eq_true.1 hall t hm)⟩)
    (by kernel_rfl)
#print axioms lGrows_holds
end Go.Proofs.YtdmbcgkfecmakaaDoor
