/- CompactionCompacts: whatever the input, the law returns true, and the input reads afterwards as before. The row. -/
import Derived.Test.YtjpaogapclfajaaGreatBcA
import Derived.Test.YtjpaogapclfajaaGreatBcCompacts
import Derived.Test.YtjpaogapclfajaaGreatBcDoor1
namespace Go.Proofs.YtjpaogapclfajaaGreat
set_option linter.unusedVariables false
set_option linter.unusedSimpArgs false
set_option linter.unusedSectionVars false
open Go.ChangeShapes Go.WideShapes Go.ChangeAt Go.RowKit
set_option maxRecDepth 100000
theorem trodAll_four {H : Type} {enc : TypeId × Value → H} {P : Program} {w : World} {base : Nat} {spare : Nat → Bool} {held : Bool} {t0 t1 t2 t3 : TypeId} {args : Array Value} {ds : List (DataW H)} {ps : List MemPlace} (h : DataW.TrodAll enc P w base spare held [t0, t1, t2, t3] args.toList ds ps) :
  ∃ v0 v1 v2 v3 d0 d1 d2 d3 p0 p1 p2 p3, args = #[v0, v1, v2, v3] ∧ ds = [d0, d1, d2, d3] ∧ ps = p0 ++ (p1 ++ (p2 ++ (p3 ++ []))) ∧ DataW.Trod enc P w base spare held t0 v0 d0 p0 ∧ DataW.Trod enc P w base spare held t1 v1 d1 p1 ∧ DataW.Trod enc P w base spare held t2 v2 d2 p2 ∧ DataW.Trod enc P w base spare held t3 v3 d3 p3 := by
 obtain ⟨v0, _, d0, _, p0, _, hargs, rfl, rfl, h0, h⟩ := trodAll_cons h
 obtain ⟨v1, _, d1, _, p1, _, rfl, rfl, rfl, h1, h⟩ := trodAll_cons h
 obtain ⟨v2, _, d2, _, p2, _, rfl, rfl, rfl, h2, h⟩ := trodAll_cons h
 obtain ⟨v3, _, d3, _, p3, _, rfl, rfl, rfl, h3, h⟩ := trodAll_cons h
 obtain ⟨rfl, rfl, rfl⟩ := trodAll_nil h
 exact ⟨v0, v1, v2, v3, d0, d1, d2, d3, p0, p1, p2, p3, by cases args; simp_all, rfl, rfl, h0, h1, h2, h3⟩
def U64R (w : World) (x : Int) (r : List Value) : Prop := r = [.int .u64 x] ∧ U64 x
theorem open_u64 {H : Type} {enc : TypeId × Value → H} {w : World} {base : Nat} {spare : Nat → Bool} {held : Bool} (fuel : Nat) (cs : List Value) (x : DataW H × List MemPlace) (hlen : cs.length = 1) (h : DataW.trod enc Tryz.prog w base spare held fuel 51 cs = some x) (_ : Wgt Tryz.prog 51 x.1) : ∃ y, U64R w y cs := by
 match cs, hlen with
 | [u0], _ =>
  obtain ⟨k, e0, _, w0⟩ := DataW.trod_int Tryz.underlying51 h
  simp only [List.cons.injEq, and_true] at e0
  subst e0
  exact ⟨k, rfl, by unfold U64; simp [Lit.wf, IntKind.min, IntKind.max, IntKind.signed, IntKind.bits] at w0; omega⟩
theorem open_u64s {w : World} {H : Type} {enc : TypeId × Value → H} {base b0 : Nat} {r : _root_.Go.Reach} {spare : Nat → Bool} {held : Bool} {v : Value} {d : DataW H} {p : List MemPlace} (hv : Value.okWide Tryz.prog w r b0 28 v) (h : DataW.Trod enc Tryz.prog w base spare held 28 v d p) (hw : Wgt Tryz.prog 28 d) :
  ∃ A c l, v = .slice A l.length c ∧ l.length ≤ c ∧ Sl w 1 A l.length (wds l) ∧ ∀ x ∈ l, U64 x := by
 obtain ⟨X, l, c, rfl⟩ := Go.WideShapes.okWide_slice Tryz.underlying28 hv
 obtain ⟨fuel, hf⟩ := h
 obtain ⟨A, n, c', e, h1, h2, xs, hxs⟩ := open_slR U64R Tryz.underlying28 cellsU64 (show Tryz.prog.bytesOf 51 = 8 by kernel_rfl) (by omega) (by omega) open_u64 (show DataW.trod enc Tryz.prog w base spare held fuel 28 [.slice X l c] = some (d, p) from hf) hw
 have hall := hxs.all (P := fun x => U64 x) fun x r hr => hr.2
 obtain ⟨g1, g2⟩ := hxs
 subst g1
 refine ⟨A, c', xs, e, h1, ⟨by simp [wds], ?_⟩, hall⟩
 rcases g2 with g2 | ⟨b, o, g3, g4, g5⟩
 ·exact .inl g2
 ·refine .inr ⟨b, o, g3, g4, fun j v hv => ?_⟩
  obtain ⟨x, hx, rfl⟩ : ∃ x, xs[j]? = some x ∧ .int .u64 x = v := by simpa [wds] using hv
  obtain ⟨r, _, ⟨hr, _⟩, hc⟩ := g5 j x hx
  have := hc 0 (.int .u64 x) (by rw [hr]; rfl)
  simpa using this
set_option maxRecDepth 100000 in
theorem cCompacts_lifted (os : Os) (started : os.Started) (H : Type) (enc : TypeId × Value → H) :
  ReturnsInHanded {} Tryz.checked os 7 .any (Rows.compactionCompactsSpec.pre6 enc Tryz.prog Tryz.f7 Rows.compactionCompactsRow.domain false)
   (Rows.compactionCompactsSpec.post enc Tryz.prog Tryz.f7 false true false false) := by
 refine returnsInHanded_of_change_shaped (C := Tryz.checked) own started (by kernel_rfl) Tryz.func7
  (ChangeSpec.witness6 (enc := enc) (C := Tryz.checked) false ⟨#[], #[.slice none 0 0, .slice none 0 0, .slice none 0 0, .slice none 0 0], []⟩ 8 (by kernel_rfl) (by kernel_rfl) (by kernel_rfl) (by kernel_rfl)) ?_
 intro W base args ds gs before hval0 hW _ hwt _ _
 have hval : ∀ (j : Nat) t v, Tryz.f7.params[j]? = some t → args[j]? = some v → Value.okWide Tryz.prog W .any base t v := hval0
 have hW' := hW
 obtain ⟨p, q, hA0, hV, rfl, hfz, hnd⟩ := hW
 have hA : DataW.TrodAll enc Tryz.prog W 0 (fun _ => true) true Tryz.f7.params.toList args.toList ds p := hA0
 rw [Tryz.params7] at hA hval
 obtain ⟨v0, v1, v2, v3, d0, d1, d2, d3, p0, p1, p2, p3, rfl, rfl, rfl, h0, h1, h2, h3⟩ := trodAll_four hA
 obtain ⟨rfl, rfl⟩ := trodVars_none hV
 have k0 := h0
 have lt0 : ∀ x ∈ p0, x.block < W.heap.size := by obtain ⟨m, hm⟩ := k0; exact DataW.trod_lt m _ _ _ hm
 have k1 := h1
 have lt1 : ∀ x ∈ p1, x.block < W.heap.size := by obtain ⟨m, hm⟩ := k1; exact DataW.trod_lt m _ _ _ hm
 have k2 := h2
 have lt2 : ∀ x ∈ p2, x.block < W.heap.size := by obtain ⟨m, hm⟩ := k2; exact DataW.trod_lt m _ _ _ hm
 have k3 := h3
 have lt3 : ∀ x ∈ p3, x.block < W.heap.size := by obtain ⟨m, hm⟩ := k3; exact DataW.trod_lt m _ _ _ hm
 have g0 : Wgt Tryz.prog 22 d0 := wgt_of hwt (j := 0) (by rw [Tryz.params7]; rfl) rfl
 have g1 : Wgt Tryz.prog 23 d1 := wgt_of hwt (j := 1) (by rw [Tryz.params7]; rfl) rfl
 have g2 : Wgt Tryz.prog 23 d2 := wgt_of hwt (j := 2) (by rw [Tryz.params7]; rfl) rfl
 have g3 : Wgt Tryz.prog 28 d3 := wgt_of hwt (j := 3) (by rw [Tryz.params7]; rfl) rfl
 obtain ⟨A, c, ops, rfl, hc, hnb, hs⟩ := open_ops1 (hval 0 22 v0 rfl rfl) h0 g0
 obtain ⟨A1, c1, l1, rfl, hn1, hs1, hr1⟩ := open_ints1 (hval 1 23 v1 rfl rfl) h1 g1
 obtain ⟨A2, c2, l2, rfl, hn2, hs2, hr2⟩ := open_ints1 (hval 2 23 v2 rfl rfl) h2 g2
 obtain ⟨A3, c3, l3, rfl, hc3, hs3, hu3⟩ := open_u64s (hval 3 28 v3 rfl rfl) h3 g3
 clear hA0 hval0
 have fin : Calls Tryz.prog 7 #[.slice A ops.length c, .slice A1 l1.length c1, .slice A2 l2.length c2, .slice A3 l3.length c3] W fun e w' => e = .returned (.bool true) ∧ Below W.heap.size W w' := by
  exact compacts_any hs hc hs1 hr1 hs2 hr2 hs3 hc3 hu3
 refine fin.mono fun e W' ⟨he, bel⟩ => ?_
 subst he
 exact ⟨_, rfl, _, _, _, [], _, [], hW', trodAll_mk1 (shut_bool Tryz.underlying4 _), (trodAll_cons_mk (Below.trod laidOut (by kernel_rfl) (of_decide_eq_true (by kernel_rfl)) k0 bel lt0) (trodAll_cons_mk (Below.trod laidOut (by kernel_rfl) (of_decide_eq_true (by kernel_rfl)) k1 bel lt1) (trodAll_cons_mk (Below.trod laidOut (by kernel_rfl) (of_decide_eq_true (by kernel_rfl)) k2 bel lt2) (trodAll_cons_mk (Below.trod laidOut (by kernel_rfl) (of_decide_eq_true (by kernel_rfl)) k3 bel lt3) trodAll_mk0)))), rfl, bel.frame _, fun h => by cases h⟩
theorem cCompacts_holds : Rows.CompactionCompactsSaid :=
 OpenClaim.holds_of_wide 7 Tryz.f7 rfl rfl rfl rfl rfl rfl rfl ⟨rfl, rfl, rfl, rfl, rfl⟩ rfl rfl rfl rfl rfl (by kernel_rfl) Tryz.func7 (by kernel_rfl)
  (of_decide_eq_true (by kernel_rfl)) (by unfold Func.isWrapper; first | (rw [if_pos (by decide +kernel)]; kernel_rfl) | (rw [if_neg (by decide +kernel)]; exact ⟨rfl, rfl⟩))
  (fun os started H enc _ => cCompacts_lifted os started H enc)
#print axioms cCompacts_holds
end Go.Proofs.YtjpaogapclfajaaGreat
