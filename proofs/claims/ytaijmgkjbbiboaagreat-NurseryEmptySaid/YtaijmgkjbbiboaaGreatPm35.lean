/- Parts of the proof: Door10, Awk10. -/
import Derived.HandedShaped
import Derived.JoinedOf
import Derived.OpenShut
import Derived.ProofKit
import Derived.SizedLaws
import Derived.Test.YtaijmgkjbbiboaaGreatPmA
import Derived.Test.YtaijmgkjbbiboaaGreatRows
import Derived.Test.YtaijmgkjbbiboaaGreatPm0
import Derived.Test.YtaijmgkjbbiboaaGreatPm34
set_option linter.unusedVariables false
set_option linter.unusedSimpArgs false
set_option linter.unusedSectionVars false
set_option maxRecDepth 100000
namespace Go.Proofs.YtaijmgkjbbiboaaGreat
section
open Go.ChangeShapes Go.WideShapes Go.ChangeAt Go.RowKit Go.Deep
theorem own : ownKnob Tryz.prog.godebug = none := by kernel_rfl
theorem laidOut : laidOutB Tryz.prog = true := by kernel_rfl
def OpR (w : World) (o : OpV) (r : List Value) : Prop := r = o.cells.toList ∧ o.Ok
theorem cellsOp : Tryz.prog.cellsOf 87 = 9 := by kernel_rfl
def IntR (w : World) (x : Int) (r : List Value) : Prop := r = [.int .i64 x] ∧ -9223372036854775808 ≤ x ∧ x ≤ 9223372036854775807
def WrdR (w : World) (x : Int) (r : List Value) : Prop := r = [.int .u64 x] ∧ U64 x
section
variable {H : Type} {enc : TypeId × Value → H} {w : World} {base : Nat} {spare : Nat → Bool} {held : Bool}
theorem open_opR (fuel : Nat) (cs : List Value) (x : DataW H × List MemPlace) (hlen : cs.length = 9) (h : DataW.trod enc Tryz.prog w base spare held fuel 87 cs = some x) (_ : Wgt Tryz.prog 87 x.1) : ∃ y, OpR w y cs := by
 obtain ⟨xs, n, _, _, _, hxl, hg⟩ := DataW.trod_struct Tryz.underlying87 h
 match cs, hlen with
 | [u0, u1, u2, u3, u4, u5, u6, u7, u8], _ =>
  match xs, hxl with
  | [y0, y1, y2, y3, y4, y5, y6], _ =>
   have h0 : DataW.trod enc Tryz.prog w base spare held n 5 (([u0, u1, u2, u3, u4, u5, u6, u7, u8].drop 0).take (Tryz.prog.cellsOf 5)) = some y0 := hg 0 _ rfl
   have h1 : DataW.trod enc Tryz.prog w base spare held n 58 (([u0, u1, u2, u3, u4, u5, u6, u7, u8].drop 1).take (Tryz.prog.cellsOf 58)) = some y1 := hg 1 _ rfl
   have h2 : DataW.trod enc Tryz.prog w base spare held n 3 (([u0, u1, u2, u3, u4, u5, u6, u7, u8].drop 4).take (Tryz.prog.cellsOf 3)) = some y2 := hg 2 _ rfl
   have h3 : DataW.trod enc Tryz.prog w base spare held n 3 (([u0, u1, u2, u3, u4, u5, u6, u7, u8].drop 5).take (Tryz.prog.cellsOf 3)) = some y3 := hg 3 _ rfl
   have h4 : DataW.trod enc Tryz.prog w base spare held n 3 (([u0, u1, u2, u3, u4, u5, u6, u7, u8].drop 6).take (Tryz.prog.cellsOf 3)) = some y4 := hg 4 _ rfl
   have h5 : DataW.trod enc Tryz.prog w base spare held n 54 (([u0, u1, u2, u3, u4, u5, u6, u7, u8].drop 7).take (Tryz.prog.cellsOf 54)) = some y5 := hg 5 _ rfl
   have h6 : DataW.trod enc Tryz.prog w base spare held n 4 (([u0, u1, u2, u3, u4, u5, u6, u7, u8].drop 8).take (Tryz.prog.cellsOf 4)) = some y6 := hg 6 _ rfl
   rw [cellsInt] at h2 h3 h4
   rw [cellsU8] at h0
   rw [cellsHdr] at h1
   rw [cellsU64] at h5
   rw [cellsBool] at h6
   obtain ⟨k, e0, _, w0⟩ := DataW.trod_int Tryz.underlying5 (show DataW.trod enc Tryz.prog w base spare held n 5 [u0] = some y0 from h0)
   obtain ⟨hd, e1⟩ := open_hdr (show DataW.trod enc Tryz.prog w base spare held n 58 [u1, u2, u3] = some y1 from h1)
   obtain ⟨a, e2, _, w2⟩ := DataW.trod_int Tryz.underlying3 (show DataW.trod enc Tryz.prog w base spare held n 3 [u4] = some y2 from h2)
   obtain ⟨b, e3, _, w3⟩ := DataW.trod_int Tryz.underlying3 (show DataW.trod enc Tryz.prog w base spare held n 3 [u5] = some y3 from h3)
   obtain ⟨i, e4, _, w4⟩ := DataW.trod_int Tryz.underlying3 (show DataW.trod enc Tryz.prog w base spare held n 3 [u6] = some y4 from h4)
   obtain ⟨v, e5, _, w5⟩ := DataW.trod_int Tryz.underlying54 (show DataW.trod enc Tryz.prog w base spare held n 54 [u7] = some y5 from h5)
   obtain ⟨r, e6, _⟩ := DataW.trod_bool Tryz.underlying4 (show DataW.trod enc Tryz.prog w base spare held n 4 [u8] = some y6 from h6)
   simp only [List.cons.injEq, and_true] at e0 e1 e2 e3 e4 e5 e6
   obtain ⟨rfl, rfl, rfl⟩ := e1
   subst e0 e2 e3 e4 e5 e6
   have k0 : 0 ≤ k ∧ k ≤ 255 := by simp [Lit.wf, IntKind.min, IntKind.max, IntKind.signed, IntKind.bits] at w0; omega
   have v0 : U64 v := by unfold U64; simp [Lit.wf, IntKind.min, IntKind.max, IntKind.signed, IntKind.bits] at w5; omega
   exact ⟨⟨k, hd, a, b, i, v, r⟩, rfl, ⟨k0.1, k0.2, (wf_i64b w2).1, (wf_i64b w2).2, (wf_i64b w3).1, (wf_i64b w3).2, v0⟩⟩
theorem open_int1 (fuel : Nat) (cs : List Value) (x : DataW H × List MemPlace) (hlen : cs.length = 1) (h : DataW.trod enc Tryz.prog w base spare held fuel 3 cs = some x) (_ : Wgt Tryz.prog 3 x.1) : ∃ y, IntR w y cs := by
 match cs, hlen with
 | [u0], _ =>
  obtain ⟨k, e0, _, w0⟩ := DataW.trod_int Tryz.underlying3 h
  simp only [List.cons.injEq, and_true] at e0
  subst e0
  exact ⟨k, rfl, wf_i64b w0⟩
theorem open_wrd1 (fuel : Nat) (cs : List Value) (x : DataW H × List MemPlace) (hlen : cs.length = 1) (h : DataW.trod enc Tryz.prog w base spare held fuel 54 cs = some x) (_ : Wgt Tryz.prog 54 x.1) : ∃ y, WrdR w y cs := by
 match cs, hlen with
 | [u0], _ =>
  obtain ⟨k, e0, _, w0⟩ := DataW.trod_int Tryz.underlying54 h
  simp only [List.cons.injEq, and_true] at e0
  subst e0
  have v0 : U64 k := by unfold U64; simp [Lit.wf, IntKind.min, IntKind.max, IntKind.signed, IntKind.bits] at w0; omega
  exact ⟨k, rfl, v0⟩
end
section
variable {w : World}
theorem open_ops10 {H : Type} {enc : TypeId × Value → H} {base b0 : Nat} {r : _root_.Go.Reach} {spare : Nat → Bool} {held : Bool} {v : Value} {d : DataW H} {p : List MemPlace} (hv : Value.okWide Tryz.prog w r b0 22 v) (h : DataW.Trod enc Tryz.prog w base spare held 22 v d p) (hw : Wgt Tryz.prog 22 d) :
  ∃ A c ops, v = .slice A ops.length c ∧ ops.length ≤ c ∧ Op10 w A ops := by
 obtain ⟨X, l, c, rfl⟩ := Go.WideShapes.okWide_slice Tryz.underlying22 hv
 obtain ⟨fuel, hf⟩ := h
 obtain ⟨A, n, c', e, h1, h2, xs, hxs⟩ := open_slR OpR Tryz.underlying22 cellsOp (show Tryz.prog.bytesOf 87 = 72 by kernel_rfl) (by omega) (by omega) open_opR (show DataW.trod enc Tryz.prog w base spare held fuel 22 [.slice X l c] = some (d, p) from hf) hw
 obtain ⟨g1, g2⟩ := hxs
 subst g1
 refine ⟨A, c', xs, e, h1, ?_⟩
 rcases g2 with g2 | ⟨b, o, g3, g4, g5⟩
 ·exact .inl (List.length_eq_zero_iff.1 g2)
 ·refine .inr ⟨b, o, g3, g4, fun i x hx => ?_⟩
  obtain ⟨r, _, ⟨hr, hok⟩, hc⟩ := g5 i x hx
  exact ⟨hok, fun j v hv => hc j v (by rw [hr]; simpa using hv)⟩
theorem open_ints10 {H : Type} {enc : TypeId × Value → H} {base b0 : Nat} {r : _root_.Go.Reach} {spare : Nat → Bool} {held : Bool} {v : Value} {d : DataW H} {p : List MemPlace} (hv : Value.okWide Tryz.prog w r b0 23 v) (h : DataW.Trod enc Tryz.prog w base spare held 23 v d p) (hw : Wgt Tryz.prog 23 d) :
  ∃ A c l, v = .slice A l.length c ∧ l.length ≤ 140737488351232 ∧ IS w l A c ∧ ∀ x ∈ l, -9223372036854775808 ≤ x ∧ x ≤ 9223372036854775807 := by
 obtain ⟨X, l, c, rfl⟩ := Go.WideShapes.okWide_slice Tryz.underlying23 hv
 obtain ⟨fuel, hf⟩ := h
 obtain ⟨A, n, c', e, h1, h2, xs, hxs⟩ := open_slR IntR Tryz.underlying23 cellsInt (show Tryz.prog.bytesOf 3 = 8 by kernel_rfl) (by omega) (by omega) open_int1 (show DataW.trod enc Tryz.prog w base spare held fuel 23 [.slice X l c] = some (d, p) from hf) hw
 have hall := hxs.all (P := fun x => -9223372036854775808 ≤ x ∧ x ≤ 9223372036854775807) fun x r hr => hr.2
 obtain ⟨g1, g2⟩ := hxs
 subst g1
 refine ⟨A, c', xs, e, h2, ⟨⟨by simp [ints], ?_⟩, h1⟩, hall⟩
 rcases g2 with g2 | ⟨b, o, g3, g4, g5⟩
 ·exact .inl g2
 ·refine .inr ⟨b, o, g3, g4, fun j v hv => ?_⟩
  obtain ⟨x, hx, rfl⟩ : ∃ x, xs[j]? = some x ∧ .int .i64 x = v := by simpa [ints] using hv
  obtain ⟨r, _, ⟨hr, _⟩, hc⟩ := g5 j x hx
  have := hc 0 (.int .i64 x) (by rw [hr]; rfl)
  simpa using this
theorem slice_lt {r : _root_.Go.Reach} {b0 : Nat} {b o n c : Nat} (hv : Value.okWide Tryz.prog w r b0 31 (.slice (some ⟨b, o, none⟩) n c)) : b < w.heap.size := by
 simp only [Value.okWide, Tryz.underlying31, Cell.okWide, Cell.ok] at hv
 have h := hv.2.2
 simp only [World.has] at h
 obtain ⟨_, _, row, cells, hs, _⟩ := h
 by_cases hb : b < w.heap.size
 ·exact hb
 ·unfold World.shape? at hs
  rw [Array.getElem?_eq_none (by omega)] at hs
  cases hs
theorem open_words10 {H : Type} {enc : TypeId × Value → H} {base b0 : Nat} {r : _root_.Go.Reach} {spare : Nat → Bool} {held : Bool} {v : Value} {d : DataW H} {p : List MemPlace} (hv : Value.okWide Tryz.prog w r b0 31 v) (h : DataW.Trod enc Tryz.prog w base spare held 31 v d p) (hw : Wgt Tryz.prog 31 d) :
  ∃ A c l, v = .slice A l.length c ∧ Sl w 1 A l.length (wds l) ∧ l.length ≤ c ∧ (∀ x ∈ l, U64 x) ∧ ∀ b o, A = some ⟨b, o, none⟩ → b < w.heap.size := by
 obtain ⟨X, l, c, rfl⟩ := Go.WideShapes.okWide_slice Tryz.underlying31 hv
 obtain ⟨fuel, hf⟩ := h
 obtain ⟨A, n, c', e, h1, h2, xs, hxs⟩ := open_slR WrdR Tryz.underlying31 cellsU64 (show Tryz.prog.bytesOf 54 = 8 by kernel_rfl) (by omega) (by omega) open_wrd1 (show DataW.trod enc Tryz.prog w base spare held fuel 31 [.slice X l c] = some (d, p) from hf) hw
 have hall := hxs.all (P := fun x => U64 x) fun x r hr => hr.2
 obtain ⟨g1, g2⟩ := hxs
 subst g1
 refine ⟨A, c', xs, e, ⟨by simp [wds], ?_⟩, h1, hall, fun b o hA => ?_⟩
 ·rcases g2 with g2 | ⟨b, o, g3, g4, g5⟩
  ·exact .inl g2
  ·refine .inr ⟨b, o, g3, g4, fun j v hv => ?_⟩
   obtain ⟨x, hx, rfl⟩ : ∃ x, xs[j]? = some x ∧ .int .u64 x = v := by simpa [wds] using hv
   obtain ⟨r, _, ⟨hr, _⟩, hc⟩ := g5 j x hx
   have := hc 0 (.int .u64 x) (by rw [hr]; rfl)
   simpa using this
 ·rw [e, hA] at hv
  exact slice_lt hv
end
end
section
open Go.RowKit Go.Sort
attribute [local go_sem] Oper.semAt_some onlyN_normal
theorem flat_getN {α : Type} {f : α → List Value} {s : Nat} (hf : ∀ x, (f x).length = s) : ∀ (l : List α) (i : Nat) (x : α), l[i]? = some x → ∀ j, j < s → (l.flatMap f)[i * s + j]? = (f x)[j]?
 | [], i, x, h, _, _ => by simp at h
 | y :: l, 0, x, h, j, hj => by
  simp at h
  subst h
  rw [List.flatMap_cons, Nat.zero_mul, Nat.zero_add, List.getElem?_append_left (by rw [hf]; exact hj)]
 | y :: l, i + 1, x, h, j, hj => by
  have ih := flat_getN hf l i x (by simpa using h) j hj
  rw [List.flatMap_cons, Nat.succ_mul, List.getElem?_append_right (by rw [hf]; omega), hf, show i * s + s + j - s = i * s + j by omega]
  exact ih
theorem Op10.ofBk {w : World} {g : Nat} {t : TypeId} {l : List OpV} (h : Bk w g t (l.flatMap fun x => x.cells.toList).toArray) (hl : ∀ x ∈ l, x.Ok) : Op10 w (some ⟨g, 0, none⟩) l :=
 .inr ⟨g, 0, rfl, h.lt, fun i x hx => ⟨hl x (List.mem_of_getElem? hx), fun j v hv => by
  have hj : j < 9 := (Array.getElem?_eq_some_iff.1 hv).1
  have e := flat_getN (f := fun x : OpV => x.cells.toList) (s := 9) (fun _ => rfl) l i x hx j hj
  have h2 := h.cell (0 + i * 9 + j)
  rw [Nat.zero_add] at h2 ⊢
  rw [h2, List.getElem?_toArray, e]
  simpa using hv⟩⟩
def oA : List OpV := [⟨1, ⟨0, 1, 1⟩, 0, 0, 0, 0, false⟩, ⟨1, ⟨0, 1, 1⟩, 0, 0, 0, 0, false⟩, ⟨1, ⟨0, 1, 1⟩, 0, 0, 0, 0, false⟩, ⟨2, ⟨0, 0, 0⟩, 0, 1, 0, 0, true⟩]
theorem oA_ok : ∀ x ∈ oA, x.Ok := by
 intro x hx
 unfold oA at hx
 simp only [List.mem_cons, List.not_mem_nil, or_false] at hx
 rcases hx with rfl | rfl | rfl | rfl <;> exact ⟨by decide, by decide, by decide, by decide, by decide, by decide, ⟨by decide, by decide⟩⟩
def cA : Col := (bld10 100 oA).m.collect (bld10 100 oA).m.yng.chk (bld10 100 oA).cs (rts10 (bld10 100 oA).xs [1, 0])
theorem cA_e : cA.e = 0 := by kernel_rfl
theorem cA_n : cA.n = 2 := by kernel_rfl
theorem cA_o : cA.out = [2, 18] := by kernel_rfl
theorem cA_y : cA.m.yng.top = 16777216 := by kernel_rfl
theorem cA_t : cA.m.old.top = 8 := by kernel_rfl
theorem cA_s : (bld10 100 oA).m.size = 12 := by kernel_rfl
theorem cA_l : oA.length = 4 := rfl
theorem adds_new {P : Program} {W : World} {vs : Nat → Value} {w w' : World} {T : Value → World → Prop} {hT : ∀ v w w', T v w → Below w.heap.size w w' → T v w'} {x : Value} (h : T x w') (hb : Below w.heap.size w w') : Made P (Adds (Ent.of (W := W) T hT) vs w) (.ok (.value x) w') := ⟨h, hb, (fun k hk => nomatch hk)⟩
set_option maxHeartbeats 16000000 in
theorem awake10_any (w : World) : Calls Tryz.prog 9 #[] w fun e w' => e = .returned (.bool true) ∧ Below w.heap.size w w' := by
 go_enter Tryz.func9, Tryz.ntmps9
 go_upto_region 2 with fail
 have hba : Below w.heap.size w (w.alloc (.cells #[.int .i64 0, .int .i64 1, .int .i64 1] 58)) := (Below.refl _ _).alloc (Nat.le_refl _) _
 have hq1 : Bk (w.alloc (.cells #[.int .i64 0, .int .i64 1, .int .i64 1] 58)) w.heap.size 58 #[.int .i64 0, .int .i64 1, .int .i64 1] := Bk.new _ _ _
 generalize w.alloc (.cells #[.int .i64 0, .int .i64 1, .int .i64 1] 58) = w1 at *
 have hlt : w.heap.size < w1.heap.size := hq1.lt
 have o0 : w1.cell? ⟨w.heap.size, 0, none⟩ = some (.int .i64 0) := hq1.cell 0
 have o1 : w1.cell? ⟨w.heap.size, 1, none⟩ = some (.int .i64 1) := hq1.cell 1
 have o2 : w1.cell? ⟨w.heap.size, 2, none⟩ = some (.int .i64 1) := hq1.cell 2
 have hb2 : Below w1.heap.size w1 (w1.alloc (.cells #[.int .u8 1, .int .i64 0, .int .i64 1, .int .i64 1, .int .i64 0, .int .i64 0, .int .i64 0, .int .u64 0, .bool false, .int .u8 1, .int .i64 0, .int .i64 1, .int .i64 1, .int .i64 0, .int .i64 0, .int .i64 0, .int .u64 0, .bool false, .int .u8 1, .int .i64 0, .int .i64 1, .int .i64 1, .int .i64 0, .int .i64 0, .int .i64 0, .int .u64 0, .bool false, .int .u8 2, .int .i64 0, .int .i64 0, .int .i64 0, .int .i64 0, .int .i64 1, .int .i64 0, .int .u64 0, .bool true] 87)) := (Below.refl _ _).alloc (Nat.le_refl _) _
 have hq : Bk (w1.alloc (.cells #[.int .u8 1, .int .i64 0, .int .i64 1, .int .i64 1, .int .i64 0, .int .i64 0, .int .i64 0, .int .u64 0, .bool false, .int .u8 1, .int .i64 0, .int .i64 1, .int .i64 1, .int .i64 0, .int .i64 0, .int .i64 0, .int .u64 0, .bool false, .int .u8 1, .int .i64 0, .int .i64 1, .int .i64 1, .int .i64 0, .int .i64 0, .int .i64 0, .int .u64 0, .bool false, .int .u8 2, .int .i64 0, .int .i64 0, .int .i64 0, .int .i64 0, .int .i64 1, .int .i64 0, .int .u64 0, .bool true] 87)) w1.heap.size 87 #[.int .u8 1, .int .i64 0, .int .i64 1, .int .i64 1, .int .i64 0, .int .i64 0, .int .i64 0, .int .u64 0, .bool false, .int .u8 1, .int .i64 0, .int .i64 1, .int .i64 1, .int .i64 0, .int .i64 0, .int .i64 0, .int .u64 0, .bool false, .int .u8 1, .int .i64 0, .int .i64 1, .int .i64 1, .int .i64 0, .int .i64 0, .int .i64 0, .int .u64 0, .bool false, .int .u8 2, .int .i64 0, .int .i64 0, .int .i64 0, .int .i64 0, .int .i64 1, .int .i64 0, .int .u64 0, .bool true] := Bk.new _ _ _
 have cO := Open10_any (Op10.ofBk (l := oA) hq oA_ok) (Nat.le_refl _) (by decide) 100
 have HB0 := lh (hba.trans (hb2.mono hba.size))
 have HQ := lh hq
 obtain ⟨Q0, hQ0⟩ : ∃ Q0, Q0 = fun (e : Ending) (w' : World) => Op10P (w1.alloc (.cells #[.int .u8 1, .int .i64 0, .int .i64 1, .int .i64 1, .int .i64 0, .int .i64 0, .int .i64 0, .int .u64 0, .bool false, .int .u8 1, .int .i64 0, .int .i64 1, .int .i64 1, .int .i64 0, .int .i64 0, .int .i64 0, .int .u64 0, .bool false, .int .u8 1, .int .i64 0, .int .i64 1, .int .i64 1, .int .i64 0, .int .i64 0, .int .i64 0, .int .u64 0, .bool false, .int .u8 2, .int .i64 0, .int .i64 0, .int .i64 0, .int .i64 0, .int .i64 1, .int .i64 0, .int .u64 0, .bool true] 87)) (bld10 100 oA) e w' ∧ In10 100 (bld10 100 oA) oA.length := ⟨_, rfl⟩
 rw [← hQ0] at cO
 replace cO : Calls Tryz.prog 12 #[.int .i64 100, .slice (some ⟨w1.heap.size, 0, none⟩) 4 4] (w1.alloc (.cells #[.int .u8 1, .int .i64 0, .int .i64 1, .int .i64 1, .int .i64 0, .int .i64 0, .int .i64 0, .int .u64 0, .bool false, .int .u8 1, .int .i64 0, .int .i64 1, .int .i64 1, .int .i64 0, .int .i64 0, .int .i64 0, .int .u64 0, .bool false, .int .u8 1, .int .i64 0, .int .i64 1, .int .i64 1, .int .i64 0, .int .i64 0, .int .i64 0, .int .u64 0, .bool false, .int .u8 2, .int .i64 0, .int .i64 0, .int .i64 0, .int .i64 0, .int .i64 1, .int .i64 0, .int .u64 0, .bool true] 87)) Q0 := cO
 clear hq hb2 hba
 go_wp2_with fail
 refine cO.mono ?_
 rintro e w2 hbp
 rw [hQ0] at hbp
 obtain ⟨hop, hin⟩ := hbp
 obtain ⟨g1, g2, V1, V2, gt, bt, k, A1, u1, A2, u2, A, u, Ax, cx, Ah, ch, B1, rfl, hen⟩ := Env10.start hop (by have := hin.cs.len; rw [cA_l] at this; omega)
 have HE : Hid (cA.e = 0 ∧ cA.n = 2 ∧ cA.out = [2, 18] ∧ cA.m.yng.top = 16777216 ∧ cA.m.old.top = 8 ∧ (bld10 100 oA).m.size = 12) := lh ⟨cA_e, cA_n, cA_o, cA_y, cA_t, cA_s⟩
 unfold cA at HE
 obtain ⟨s, hs⟩ : ∃ s, s = bld10 100 oA := ⟨_, rfl⟩
 rw [← hs] at HE hen hin ⊢
 have HEN := lh hen
 have HXL : Hid (s.xs.length ≤ 1000) := lh (by have := hin.xl; rw [cA_l] at this; omega)
 have HIN := lh hin
 clear hs hop hen hin cO hQ0 o0 o1 o2 hq1 hlt
 go_upto_region 5 with fail
 generalize (w2.alloc (.cells #[.pointer (some ⟨g1, 0, none⟩), .pointer (some ⟨g2, 0, none⟩)] 29)).alloc (.cells #[.int .i64 s.m.old.base, .int .i64 s.m.old.limit, .slice A1 s.m.old.ws.length u1, .int .i64 s.m.yng.base, .int .i64 s.m.yng.limit, .slice A2 s.m.yng.ws.length u2, .slice A s.cs.length u, .slice Ax s.xs.length cx, .slice Ah s.hs.length ch] 40) = w3 at *
 obtain ⟨bm, hbm⟩ : ∃ bm, bm = w2.heap.size := ⟨_, rfl⟩
 obtain ⟨bx, hbx⟩ : ∃ bx, bx = w2.heap.size + 1 := ⟨_, rfl⟩
 rw [← hbx, ← hbm] at HEN
 rw [← hbx, ← hbm]
 clear hbm hbx
 have HM := lh HEN.out.hm
 have HX := lh HEN.out.hx
 refine wp_region_first 5 (fun i => ([[], [], [], [], [2, 3]] : List (List Nat)).getD i []) (EL [Ent.val (.agg #[.pointer (some ⟨g1, 0, none⟩), .pointer (some ⟨g2, 0, none⟩)]), Ent.val (.pointer (some ⟨gt, 0, none⟩)), Ent.val (.agg #[.int .i64 s.m.old.base, .int .i64 s.m.old.limit, .slice A1 s.m.old.ws.length u1, .int .i64 s.m.yng.base, .int .i64 s.m.yng.limit, .slice A2 s.m.yng.ws.length u2, .slice A s.cs.length u, .slice Ax s.xs.length cx, .slice Ah s.hs.length ch]), Ent.of (IsT w3.heap.size [1, 0]) IsT.bl, Ent.of (WsT w3.heap.size (rts10 s.xs [1, 0])) WsT.bl]) rfl (by kernel_rfl) (by kernel_rfl) (by kernel_rfl) (by rfl) ?_ ?_
 ·intro i hi o ho vs w1 hb1 hgr
  rcases (show i = 0 ∨ i = 1 ∨ i = 2 ∨ i = 3 ∨ i = 4 by omega) with rfl | rfl | rfl | rfl | rfl <;> cases ho
  ·clear hgr
   change Made _ (Adds _ _ _) (Sem.run _ (execOp (Act.eval (frm _ _ _ [])) _) _)
   simp only [frm]
   have hbk := HM.out.below hb1 HM.out.lt
   have c0 : w1.cell? ⟨bm, 0, none⟩ = some (.pointer (some ⟨g1, 0, none⟩)) := hbk.cell 0
   have c1 : w1.cell? ⟨bm, 1, none⟩ = some (.pointer (some ⟨g2, 0, none⟩)) := hbk.cell 1
   clear hbk
   go_simp
   exact adds_val rfl
  ·clear hgr
   change Made _ (Adds _ _ _) (Sem.run _ (execOp (Act.eval (frm _ _ _ [])) _) _)
   simp only [frm]
   go_simp
   exact adds_val rfl
  ·clear hgr
   change Made _ (Adds _ _ _) (Sem.run _ (execOp (Act.eval (frm _ _ _ [])) _) _)
   simp only [frm]
   have hbk := HX.out.below hb1 HX.out.lt
   have c0 : w1.cell? ⟨bx, 0, none⟩ = some (.int .i64 s.m.old.base) := hbk.cell 0
   have c1 : w1.cell? ⟨bx, 1, none⟩ = some (.int .i64 s.m.old.limit) := hbk.cell 1
   have c2 : w1.cell? ⟨bx, 2, none⟩ = some (.slice A1 s.m.old.ws.length u1) := hbk.cell 2
   have c3 : w1.cell? ⟨bx, 3, none⟩ = some (.int .i64 s.m.yng.base) := hbk.cell 3
   have c4 : w1.cell? ⟨bx, 4, none⟩ = some (.int .i64 s.m.yng.limit) := hbk.cell 4
   have c5 : w1.cell? ⟨bx, 5, none⟩ = some (.slice A2 s.m.yng.ws.length u2) := hbk.cell 5
   have c6 : w1.cell? ⟨bx, 6, none⟩ = some (.slice A s.cs.length u) := hbk.cell 6
   have c7 : w1.cell? ⟨bx, 7, none⟩ = some (.slice Ax s.xs.length cx) := hbk.cell 7
   have c8 : w1.cell? ⟨bx, 8, none⟩ = some (.slice Ah s.hs.length ch) := hbk.cell 8
   clear hbk
   go_simp
   exact adds_val rfl
  ·clear hgr
   change Made _ (Adds _ _ _) (Sem.run _ (execOp (Act.eval (frm _ _ _ [])) _) _)
   simp only [frm]
   go_simp
   exact adds_new (T := IsT w3.heap.size [1, 0]) (hT := IsT.bl) ⟨_, _, rfl, Sl.new _ 3 [.int .i64 1, .int .i64 0], Nat.le_refl _, fun b o e => by cases e; exact ⟨hb1.size, by simp⟩⟩ ((Below.refl _ _).alloc (Nat.le_refl _) _)
  ·have h2 : vs 2 = _ := hgr 2 (by decide)
   obtain ⟨Ac, cc, h3, hsc, hcc, hgc⟩ := hgr 3 (by decide)
   clear hgr
   change Made _ (Adds _ _ _) (Sem.run _ (execOp (Act.eval (Act.put (Act.put (frm _ _ _ []) (some 30) (vs 3)) (some 29) (vs 2))) _) _)
   simp only [frm, h2, h3]
   have cM := (HEN.out.below hb1).roots (chs := [1, 0]) (by have := HXL.out; omega) ⟨hsc, hcc⟩ (by decide) (by intro x hx; simp at hx; rcases hx with rfl | rfl <;> decide)
   unfold Rts10P at cM
   go_simp
   exact adds_call (T := WsT w3.heap.size (rts10 s.xs [1, 0])) (hT := WsT.bl) (ob := fun _ => none) cM fun e w2 ⟨v, he, ho, hb⟩ => ⟨v, he, WsT.of ho hb1.size, hb, (fun k hk => nomatch hk)⟩
 intro vs w1 hb1 hall hap
 have h0 : vs 0 = _ := (hall 0 (by omega)).1
 have h1 : vs 1 = _ := (hall 1 (by omega)).1
 have h2 : vs 2 = _ := (hall 2 (by omega)).1
 obtain ⟨Ac, cc, h3, hsc, hcc, hgc⟩ := (hall 3 (by omega)).1
 obtain ⟨Ar, cr, h4, hsr, hcr, hgr4⟩ := (hall 4 (by omega)).1
 clear hall hap
 change wpList _ _ _ [_] (Act.put (Act.put (Act.put (Act.put (Act.put (frm _ _ _ []) (some 31) (vs 4)) (some 30) (vs 3)) (some 29) (vs 2)) (some 28) (vs 1)) (some 27) (vs 0)) _
 simp only [frm, h0, h1, h2, h3, h4]
 obtain ⟨Rt, hRt⟩ : ∃ R, R = rts10 s.xs [1, 0] := ⟨_, rfl⟩
 have hrl : Rt.length = 2 := by rw [hRt]; rfl
 have hru : ∀ x ∈ Rt, U64 x := by rw [hRt]; exact rts10_u _ _
 rw [← hRt] at HE hsr hcr
 rw [← hRt]
 have HE3 := lh (HEN.out.below hb1)
 have HRG := lh hgr4
 have hcol := HE3.out.collect hsr hcr (by omega) hru (fun b' o e => by
  have h1 := HRG.out b' o e
  exact ⟨h1.2, fun e' => by have := HEN.out.lt e'; omega⟩) (by have := HE.out.2.2.2.2.2; omega)
 obtain ⟨Q1, hQ1⟩ : ∃ Q1, Q1 = ColP w1 B1 B1 g1 g2 gt bt k V1 V2 (s.m.collect s.m.yng.chk s.cs Rt) := ⟨_, rfl⟩
 rw [← hQ1] at hcol
 clear hb1 hsr hcr hgr4 hRt hru hrl HEN HM HX
 go_wp2_with fail
 refine hcol.mono ?_
 rintro e w4 hcp
 rw [hQ1] at hcp
 obtain ⟨v, V1', V2', k', rfl, hov, hen4, _, _⟩ := HE3.out.col hcp
 have h1 := HE.out
 obtain ⟨C, hC⟩ : ∃ C, C = s.m.collect s.m.yng.chk s.cs Rt := ⟨_, rfl⟩
 rw [← hC] at hov hen4 h1 ⊢
 obtain ⟨he, hn, ho, hy, ht, _⟩ := h1
 rw [he, hn]
 have HE4 := lh hen4
 rw [ho] at hov
 obtain ⟨Av, cv, rfl, hcv⟩ := own_shape hov
 have HSV := lh (own_sl hov)
 have HT := lh (And.intro hy ht)
 clear hcol hQ1 hcp hov hen4 he hn ho hy ht hC HE HE3 HRG
 go_wp2_with fail
 simp only [normalTo]
 refine phase2_all 6 13 (fun i => ([[], [], [], [], [2, 3], [0, 1, 4], [5], [6], [6], [6], [7], [8], [9]] : List (List Nat)).getD i []) (EL [Ent.val (.agg #[.pointer (some ⟨g1, 0, none⟩), .pointer (some ⟨g2, 0, none⟩)]), Ent.val (.pointer (some ⟨gt, 0, none⟩)), Ent.val (.agg #[.int .i64 s.m.old.base, .int .i64 s.m.old.limit, .slice A1 s.m.old.ws.length u1, .int .i64 s.m.yng.base, .int .i64 s.m.yng.limit, .slice A2 s.m.yng.ws.length u2, .slice A s.cs.length u, .slice Ax s.xs.length cx, .slice Ah s.hs.length ch]), Ent.val (.slice Ac 2 cc), Ent.val (.slice Ar Rt.length cr), Ent.val (.tuple #[.slice Av 2 cv, .int .i64 2, .int .i64 0]), Ent.val (.tuple #[.slice Av 2 cv, .int .i64 2, .int .i64 0]), Ent.val (.slice Av 2 cv), Ent.val (.int .i64 2), Ent.val (.int .i64 0), Ent.val (.slice Av 2 cv), Ent.val (.int .i64 2), Ent.val (.int .i64 0)]) (by kernel_rfl) rfl (by omega) (by kernel_rfl) (by kernel_rfl) (by rfl) ?_ ?_ ?_
 ·intro i hi
  rcases (show i = 0 ∨ i = 1 ∨ i = 2 ∨ i = 3 ∨ i = 4 ∨ i = 5 by omega) with rfl | rfl | rfl | rfl | rfl | rfl <;> exact ⟨rfl, fun _ => rfl⟩
 ·intro i hmi hi o ho vs w5 hb1 hgr
  rcases (show i = 6 ∨ i = 7 ∨ i = 8 ∨ i = 9 ∨ i = 10 ∨ i = 11 ∨ i = 12 by omega) with rfl | rfl | rfl | rfl | rfl | rfl | rfl <;> cases ho
  ·have h5 : vs 5 = _ := hgr 5 (by decide)
   clear hgr
   change Made _ (Adds _ _ _) (Sem.run _ (execOp (Act.eval (Act.put (frm _ _ _ []) (some 32) (vs 5))) _) _)
   simp only [frm, h5]
   go_simp
   exact adds_val rfl
  ·have h6 : vs 6 = _ := hgr 6 (by decide)
   clear hgr
   change Made _ (Adds _ _ _) (Sem.run _ (execOp (Act.eval (Act.put (frm _ _ _ []) (some 26) (vs 6))) _) _)
   simp only [frm, h6]
   go_simp
   exact adds_val rfl
  ·have h6 : vs 6 = _ := hgr 6 (by decide)
   clear hgr
   change Made _ (Adds _ _ _) (Sem.run _ (execOp (Act.eval (Act.put (frm _ _ _ []) (some 26) (vs 6))) _) _)
   simp only [frm, h6]
   go_simp
   exact adds_val rfl
  ·have h6 : vs 6 = _ := hgr 6 (by decide)
   clear hgr
   change Made _ (Adds _ _ _) (Sem.run _ (execOp (Act.eval (Act.put (frm _ _ _ []) (some 26) (vs 6))) _) _)
   simp only [frm, h6]
   go_simp
   exact adds_val rfl
  ·have h7 : vs 7 = _ := hgr 7 (by decide)
   clear hgr
   change Made _ (Adds _ _ _) (Sem.run _ (execOp (Act.eval (Act.put (frm _ _ _ []) (some 33) (vs 7))) _) _)
   simp only [frm, h7]
   go_simp
   exact adds_val rfl
  ·have h8 : vs 8 = _ := hgr 8 (by decide)
   clear hgr
   change Made _ (Adds _ _ _) (Sem.run _ (execOp (Act.eval (Act.put (frm _ _ _ []) (some 34) (vs 8))) _) _)
   simp only [frm, h8]
   go_simp
   exact adds_val rfl
  ·have h9 : vs 9 = _ := hgr 9 (by decide)
   clear hgr
   change Made _ (Adds _ _ _) (Sem.run _ (execOp (Act.eval (Act.put (frm _ _ _ []) (some 35) (vs 9))) _) _)
   simp only [frm, h9]
   go_simp
   exact adds_val rfl
 intro vs w5 hb1 hall hap
 have h10 : vs 10 = _ := (hall 10 (by omega)).1
 have h11 : vs 11 = _ := (hall 11 (by omega)).1
 have h12 : vs 12 = _ := (hall 12 (by omega)).1
 clear hall hap
 change wpList _ _ _ [] (Act.put (Act.put (Act.put (Act.put (Act.put (Act.put (Act.put (Act.put (Act.put (Act.put (Act.put (Act.put (Act.put (frm _ _ _ []) (some 8) (vs 12)) (some 7) (vs 11)) (some 6) (vs 10)) (some 35) (vs 9)) (some 34) (vs 8)) (some 33) (vs 7)) (some 26) (vs 6)) (some 32) (vs 5)) (some 31) (vs 4)) (some 30) (vs 3)) (some 29) (vs 2)) (some 28) (vs 1)) (some 27) (vs 0)) _
 simp only [frm, h10, h11, h12]
 have HE5 := lh (HE4.out.below hb1)
 have m0 : w5.cell? ⟨bm, 0, none⟩ = some (.pointer (some ⟨g1, 0, none⟩)) := HE5.out.hm.cell 0
 have m1 : w5.cell? ⟨bm, 1, none⟩ = some (.pointer (some ⟨g2, 0, none⟩)) := HE5.out.hm.cell 1
 have hsv := HSV.out.below hb1
 obtain ⟨b, o, rfl, hbl, hc⟩ := hsv.2.resolve_left (by simp)
 have v0 : w5.cell? ⟨b, o, none⟩ = some (.int .u64 2) := hc 0 _ rfl
 have v1 : w5.cell? ⟨b, o + 1, none⟩ = some (.int .u64 18) := hc 1 _ rfl
 have cY := fun {w' : World} (hb : Below w5.heap.size w5 w') => Top_any (HE5.out.below hb).mr.y
 have cO := fun {w' : World} (hb : Below w5.heap.size w5 w') => Top_any (HE5.out.below hb).mr.o
 rw [HT.out.1] at cY
 rw [HT.out.2] at cO
 clear hb1 hsv hbl hc h10 h11 h12 HE4 HSV
 go_simp
 change Exit.then _ _ _ _ _
 go_wp2_with fail
 refine (cY (Below.refl _ _)).mono ?_
 rintro e w6 ⟨rfl, hb6⟩
 have HE6 := lh (HE5.out.below hb6)
 have HB6 := lh hb6
 have m0 : w6.cell? ⟨bm, 0, none⟩ = some (.pointer (some ⟨g1, 0, none⟩)) := HE6.out.hm.cell 0
 have m1 : w6.cell? ⟨bm, 1, none⟩ = some (.pointer (some ⟨g2, 0, none⟩)) := HE6.out.hm.cell 1
 clear hb6 cY v0 v1
 go_wp2_with fail
 refine (cO HB6.out).mono ?_
 rintro e w7 ⟨rfl, hb7⟩
 have HE7 := lh (HE6.out.below hb7)
 clear hb7 cO m0 m1
 go_wp2_with fail
 go_ret
 exact ⟨rfl, HB0.out.trans (HE7.out.bl.mono HB0.out.size)⟩
end
end Go.Proofs.YtaijmgkjbbiboaaGreat
