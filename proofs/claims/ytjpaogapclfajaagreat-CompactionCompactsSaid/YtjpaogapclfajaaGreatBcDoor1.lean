/- Parts of the proof: Door1. -/
import Derived.HandedShaped
import Derived.JoinedOf
import Derived.OpenShut
import Derived.ProofKit
import Derived.SizedLaws
import Derived.Test.YtjpaogapclfajaaGreatBcA
import Derived.Test.YtjpaogapclfajaaGreatRows
import Derived.Test.YtjpaogapclfajaaGreatBc21
import Derived.Test.YtjpaogapclfajaaGreatBcOpsG
set_option linter.unusedVariables false
set_option linter.unusedSimpArgs false
set_option linter.unusedSectionVars false
namespace Go.Proofs.YtjpaogapclfajaaGreat
open Go.ChangeShapes Go.WideShapes Go.ChangeAt Go.RowKit Go.Deep
set_option maxRecDepth 100000
theorem own : ownKnob Tryz.prog.godebug = none := by kernel_rfl
theorem laidOut : laidOutB Tryz.prog = true := by kernel_rfl
def Op1R (w : World) (o : Op1) (r : List Value) : Prop := r = o.cells.toList ∧ o.Ok
def IntR (w : World) (x : Int) (r : List Value) : Prop := r = [.int .i64 x] ∧ -9223372036854775808 ≤ x ∧ x ≤ 9223372036854775807
theorem cellsOp1 : Tryz.prog.cellsOf 90 = 8 := by kernel_rfl
section
variable {H : Type} {enc : TypeId × Value → H} {w : World} {base : Nat} {spare : Nat → Bool} {held : Bool}
theorem open_op1 (fuel : Nat) (cs : List Value) (x : DataW H × List MemPlace) (hlen : cs.length = 8) (h : DataW.trod enc Tryz.prog w base spare held fuel 90 cs = some x) (_ : Wgt Tryz.prog 90 x.1) : ∃ y, Op1R w y cs := by
 obtain ⟨xs, n, _, _, _, hxl, hg⟩ := DataW.trod_struct Tryz.underlying90 h
 match cs, hlen with
 | [u0, u1, u2, u3, u4, u5, u6, u7], _ =>
  match xs, hxl with
  | [y0, y1, y2, y3, y4, y5], _ =>
   have h0 : DataW.trod enc Tryz.prog w base spare held n 3 (([u0, u1, u2, u3, u4, u5, u6, u7].drop 0).take (Tryz.prog.cellsOf 3)) = some y0 := hg 0 _ rfl
   have h1 : DataW.trod enc Tryz.prog w base spare held n 55 (([u0, u1, u2, u3, u4, u5, u6, u7].drop 1).take (Tryz.prog.cellsOf 55)) = some y1 := hg 1 _ rfl
   have h2 : DataW.trod enc Tryz.prog w base spare held n 3 (([u0, u1, u2, u3, u4, u5, u6, u7].drop 4).take (Tryz.prog.cellsOf 3)) = some y2 := hg 2 _ rfl
   have h3 : DataW.trod enc Tryz.prog w base spare held n 3 (([u0, u1, u2, u3, u4, u5, u6, u7].drop 5).take (Tryz.prog.cellsOf 3)) = some y3 := hg 3 _ rfl
   have h4 : DataW.trod enc Tryz.prog w base spare held n 3 (([u0, u1, u2, u3, u4, u5, u6, u7].drop 6).take (Tryz.prog.cellsOf 3)) = some y4 := hg 4 _ rfl
   have h5 : DataW.trod enc Tryz.prog w base spare held n 51 (([u0, u1, u2, u3, u4, u5, u6, u7].drop 7).take (Tryz.prog.cellsOf 51)) = some y5 := hg 5 _ rfl
   rw [cellsInt] at h0 h2 h3 h4
   rw [cellsHdr] at h1
   rw [cellsU64] at h5
   obtain ⟨k, e0, _, w0⟩ := DataW.trod_int Tryz.underlying3 (show DataW.trod enc Tryz.prog w base spare held n 3 [u0] = some y0 from h0)
   obtain ⟨hd, e1⟩ := open_hdr (show DataW.trod enc Tryz.prog w base spare held n 55 [u1, u2, u3] = some y1 from h1)
   obtain ⟨a, e2, _, w2⟩ := DataW.trod_int Tryz.underlying3 (show DataW.trod enc Tryz.prog w base spare held n 3 [u4] = some y2 from h2)
   obtain ⟨b, e3, _, w3⟩ := DataW.trod_int Tryz.underlying3 (show DataW.trod enc Tryz.prog w base spare held n 3 [u5] = some y3 from h3)
   obtain ⟨i, e4, _, w4⟩ := DataW.trod_int Tryz.underlying3 (show DataW.trod enc Tryz.prog w base spare held n 3 [u6] = some y4 from h4)
   obtain ⟨v, e5, _, w5⟩ := DataW.trod_int Tryz.underlying51 (show DataW.trod enc Tryz.prog w base spare held n 51 [u7] = some y5 from h5)
   simp only [List.cons.injEq, and_true] at e0 e1 e2 e3 e4 e5
   obtain ⟨rfl, rfl, rfl⟩ := e1
   subst e0 e2 e3 e4 e5
   have v0 : U64 v := by unfold U64; simp [Lit.wf, IntKind.min, IntKind.max, IntKind.signed, IntKind.bits] at w5; omega
   exact ⟨⟨k, hd, a, b, i, v⟩, rfl, ⟨(wf_i64b w0).1, (wf_i64b w0).2, (wf_i64b w2).1, (wf_i64b w2).2, (wf_i64b w3).1, (wf_i64b w3).2, (wf_i64b w4).1, (wf_i64b w4).2, v0⟩⟩
theorem open_int1 (fuel : Nat) (cs : List Value) (x : DataW H × List MemPlace) (hlen : cs.length = 1) (h : DataW.trod enc Tryz.prog w base spare held fuel 3 cs = some x) (_ : Wgt Tryz.prog 3 x.1) : ∃ y, IntR w y cs := by
 match cs, hlen with
 | [u0], _ =>
  obtain ⟨k, e0, _, w0⟩ := DataW.trod_int Tryz.underlying3 h
  simp only [List.cons.injEq, and_true] at e0
  subst e0
  exact ⟨k, rfl, wf_i64b w0⟩
end
section
variable {w : World}
theorem open_ops1 {H : Type} {enc : TypeId × Value → H} {base b0 : Nat} {r : _root_.Go.Reach} {spare : Nat → Bool} {held : Bool} {v : Value} {d : DataW H} {p : List MemPlace} (hv : Value.okWide Tryz.prog w r b0 22 v) (h : DataW.Trod enc Tryz.prog w base spare held 22 v d p) (hw : Wgt Tryz.prog 22 d) :
  ∃ A c ops, v = .slice A ops.length c ∧ ops.length ≤ c ∧ ops.length ≤ 140737488351232 ∧ Op1s w A ops := by
 obtain ⟨X, l, c, rfl⟩ := Go.WideShapes.okWide_slice Tryz.underlying22 hv
 obtain ⟨fuel, hf⟩ := h
 obtain ⟨A, n, c', e, h1, h2, xs, hxs⟩ := open_slR Op1R Tryz.underlying22 cellsOp1 (show Tryz.prog.bytesOf 90 = 64 by kernel_rfl) (by omega) (by omega) open_op1 (show DataW.trod enc Tryz.prog w base spare held fuel 22 [.slice X l c] = some (d, p) from hf) hw
 obtain ⟨g1, g2⟩ := hxs
 subst g1
 refine ⟨A, c', xs, e, h1, h2, ?_⟩
 rcases g2 with g2 | ⟨b, o, g3, g4, g5⟩
 ·exact .inl (List.length_eq_zero_iff.1 g2)
 ·refine .inr ⟨b, o, g3, g4, fun i x hx => ?_⟩
  obtain ⟨r, _, ⟨hr, hok⟩, hc⟩ := g5 i x hx
  exact ⟨hok, fun j v hv => hc j v (by rw [hr]; simpa using hv)⟩
theorem open_ints1 {H : Type} {enc : TypeId × Value → H} {base b0 : Nat} {r : _root_.Go.Reach} {spare : Nat → Bool} {held : Bool} {v : Value} {d : DataW H} {p : List MemPlace} (hv : Value.okWide Tryz.prog w r b0 23 v) (h : DataW.Trod enc Tryz.prog w base spare held 23 v d p) (hw : Wgt Tryz.prog 23 d) :
  ∃ A c l, v = .slice A l.length c ∧ l.length ≤ 140737488351232 ∧ IS w l A c ∧ ∀ x ∈ l, -9223372036854775808 ≤ x ∧ x ≤ 9223372036854775807 := by
 obtain ⟨X, l, c, rfl⟩ := Go.WideShapes.okWide_slice Tryz.underlying23 hv
 obtain ⟨fuel, hf⟩ := h
 obtain ⟨A, n, c', e, h1, h2, xs, hxs⟩ := open_slR IntR Tryz.underlying23 cellsInt (show Tryz.prog.bytesOf 3 = 8 by kernel_rfl) (by omega) (by omega) open_int1 (show DataW.trod enc Tryz.prog w base spare held fuel 23 [.slice X l c] = some (d, p) from hf) hw
 have hall := hxs.all (P := fun x => -9223372036854775808 ≤ x ∧ x ≤ 9223372036854775807) fun x r hr => hr.2
 obtain ⟨g1, g2⟩ := hxs
 subst g1
 refine ⟨A, c', xs, e, h2, ⟨⟨by simp [ints], ?_⟩, h1⟩, hall⟩
 rcases g2 with g2 | ⟨b, o, g3, g4, g5⟩
 ·exact .inl g2
 ·refine .inr ⟨b, o, g3, g4, fun j v hv => ?_⟩
  obtain ⟨x, hx, rfl⟩ : ∃ x, xs[j]? = some x ∧ .int .i64 x = v := by simpa [ints] using hv
  obtain ⟨r, _, ⟨hr, _⟩, hc⟩ := g5 j x hx
  have := hc 0 (.int .i64 x) (by rw [hr]; rfl)
  simpa using this
end
end Go.Proofs.YtjpaogapclfajaaGreat
