/- verifier.Reachable. -/
import Derived.Test.YtdmbcgkfecmakaaDoorDepths
import Derived.Test.YtdmbcgkfecmakaaDoorInts
import Derived.Maps.RangeWalk
namespace Go.Proofs.YtdmbcgkfecmakaaDoor
set_option linter.unusedVariables false
set_option linter.unusedSimpArgs false
set_option linter.unusedSectionVars false
open Go.RowKit Go.Maps Go.Deep
set_option maxRecDepth 100000

theorem Tryd.info4 : (Tryd.prog.info? 4).map (fun i => (i.zero, i.size, i.bytes)) = some (some (.bool false), 1, 1) := by kernel_rfl

def reachL (f : Nat → Option Int) (n : Nat) : List Bool := (List.range n).map fun i => (f i).isSome

def PostR (w : World) (len : Nat) (c : List Ins) (e : Ending) (w' : World) : Prop :=
  ∃ f sound most R, Fin c f sound most ∧ Below w.heap.size w w' ∧ e = .returned (.slice (some ⟨R, 0, none⟩) len len) ∧ w.heap.size ≤ R ∧ Sl w' 1 (some ⟨R, 0, none⟩) len (bools (reachL f len))

theorem grown_setCell (w : World) (g i : Nat) (v : Value) : w.grownBy (w.setCell ⟨g, i, none⟩ v) (some g) :=
  ⟨rfl, rfl, rfl, by simp [World.setCell], fun k _ hk => Below.heap_setCell _ _ _ _ (fun e => hk (by rw [e]))⟩

def leftF (f : Nat → Option Int) (left : Lit → Bool) (j : Nat) : Value := .bool ((f j).isSome && !left (.int .i64 (j : Int)))

def RngRel (w1 : World) (len d n : Nat) (D : DataW Unit) (f : Nat → Option Int) (wr : World) : Prop :=
  ∃ left cnt, wr.ranges Tryd.prog 3 (plainElem Tryd.prog 3) d (w1.heap.size + 1) n D left cnt ∧ wr.rowIs w1.heap.size 4 len (leftF f left) ∧ (∀ kl, left kl = true → Maps.has D kl = true) ∧ Below w1.heap.size w1 wr

section
variable {w : World} {v0 v1 v2 v4 : Value} {A : Option Addr} {len cap : Nat}
set_option maxHeartbeats 4000000 in
theorem Reachable_any (c : List Ins) (hc : c.length = len) (hl : len ≤ 10000) (hw : ∀ x ∈ c, (Lit.int .i64 x.1).wf = true ∧ (Lit.int .i64 x.2.1).wf = true ∧ (Lit.int .i64 x.2.2).wf = true) (hcode : Sl w 3 A len (codeCells c)) :
    Calls Tryd.prog 25 #[.agg #[v0, v1, v2, .slice A len cap, v4]] w (PostR w len c) := by
  have hmk := run_make_row' (P := Tryd.prog) 44 4 (.bool false) 1 Tryd.underlying44 Tryd.info4 rfl .i64 .i64 len (by omega) (by omega)
  go_enter Tryd.func25, Tryd.ntmps25
  go_wp2_with (first | (go_at_call 47; refine (examine_any c hc hl hw (hcode.below ((Below.refl _ _).alloc (Nat.le_refl _) _))).mono ?_; rintro e w1 ⟨g, d, n, f, sound, most, rfl, hg, hm, hn, hg1, hd1, hdg, hfin, hb⟩; have HB := Lib.hid (below_box hb); have c5 : w1.cell? ⟨g, 5, none⟩ = some (.map (some d)) := hg.cell 5; have c3 := box_kept hb 3; simp only [List.getElem?_toArray, List.getElem?_cons_zero, List.getElem?_cons_succ] at c3; have hdlt := hm.lt; have hglt : g < w1.heap.size := hg.lt; obtain ⟨D, hown, hD⟩ := hm) | (at_range; refine wpList_range_own _ rfl _ 75 rfl 3 3 (int_keyed hK3) Tryd.underlying75 (plainElem Tryd.prog 3) d n D rfl (hown.alloc _) ?_; intro w0 hrg0 hg0 hs0))
  go_frame
  simp only [World.size_alloc]
  have HF := Lib.hid hfin
  have HD := Lib.hid hD
  have hs1 := HB.out.size
  have hz0 : w0.heap.size = w1.heap.size + 2 := by rw [hs0]; simp
  have HZ := Lib.hid hz0
  have hrow0 : w0.rowIs w1.heap.size 4 len (leftF f (Maps.has D)) := by
    have h1 := (World.rowIs_made w1 (.bool false) len 4).of_block (hg0.block w1.heap.size (by simp) (by simp))
    refine h1.congr fun i hi => ?_
    have := (HD.out (i : Int) (WalkArith.wf_i64 (by omega))).1
    unfold leftF
    rw [this]
    simp [zf]
  have hb0 : Below w1.heap.size w1 w0 := ((Below.refl _ _).alloc (Nat.le_refl _) _).grown hg0 (by simp) (fun k hk => by cases hk)
  rw [World.size_alloc] at hrg0
  have HREL : Hid (RngRel w1 len d n D f w0) := ⟨Maps.has D, Maps.size D, hrg0, hrow0, fun _ h => h, hb0⟩
  clear hfin hD hg hn hg1 hd1 hdg hb c5 c3 hrg0 hrow0 hb0 hg0 hs0 hz0 hown
  go_loopw [5] (fun _ wr => RngRel w1 len d n D f wr) (fun _ wr => wr.rangeLeft d (w1.heap.size + 1))
  case atStart => exact HREL.out
  case round =>
    obtain ⟨left, cnt, hrg, hrow, hsub, hB⟩ := hrel
    have HROW := Lib.hid hrow
    have HSUB := Lib.hid hsub
    have HBB := Lib.hid hB
    clear hrow hsub hB
    go_wp2_with (at_next; refine wpList_next_ranges_ii _ rfl _ rfl 3 3 .i64 .i64 (int_keyed hK3) Tryd.underlying3 Tryd.underlying3 d (w1.heap.size + 1) n _ _ _ rfl hrg ?_ ?_)
    · intro hc0 hl0
      have HL := Lib.hid hl0
      clear hl0 hc0
      go_wp2
      go_ret
      refine ⟨f, sound, most, w1.heap.size, HF.out, HB.out.trans (HBB.out.mono hs1), rfl, hs1, ?_⟩
      refine ⟨by simp [bools, reachL], .inr ⟨_, 0, rfl, HROW.out.lt, fun j x hx => ?_⟩⟩
      have hj : j < len := by
        have := (List.getElem?_eq_some_iff.1 hx).1
        simpa [bools, reachL] using this
      rw [Nat.zero_add, HROW.out.cell hj, ← hx]
      simp [bools, reachL, hj, leftF, HL.out]
    · intro x cc w2 cnt2 hwx hwc hlx hat hrg1 hlt hg1 hs2 hen
      have hx1 := (HD.out x hwx).1
      rw [HSUB.out _ hlx] at hx1
      have hx2 : ∃ k : Nat, x = k ∧ (f k).isSome = true := by
        unfold zf at hx1
        by_cases h0 : 0 ≤ x
        · rw [if_pos h0] at hx1
          exact ⟨x.toNat, by omega, hx1.symm⟩
        · rw [if_neg h0] at hx1
          cases hx1
      obtain ⟨k, rfl, hk⟩ := hx2
      obtain ⟨e0, he0⟩ := Option.isSome_iff_exists.1 hk
      have hkl : k < len := by rw [← hc]; exact HF.out.lt k e0 he0
      have hrow2 : w2.rowIs w1.heap.size 4 len (leftF f left) := HROW.out.of_block (hg1.block _ HROW.out.lt (by simp))
      have cr := hrow2.cell hkl
      have fr := hrow2.frozen k
      have HR2 := Lib.hid hrow2
      have HG1 := Lib.hid hg1
      have HRG := Lib.hid hrg1
      have HK := Lib.hid hk
      have HLT := Lib.hid hlt
      have HRG0 := Lib.hid hrg
      clear hrow2 hg1 hrg1 hk hlt hrg hx1 he0 hat hlx hs2
      go_wp2
      go_roundw
      case rel =>
        refine ⟨_, cnt2, HRG.out.kept (row := some w1.heap.size) (grown_setCell _ _ _ _) (by simp; omega) (by simp), (HR2.out.set k _).congr fun i hi => ?_, fun kl hkl => ?_, (HBB.out.grown HG1.out HBB.out.size (fun j hj => by cases hj; omega)).setCell (by simp) _⟩
        · unfold leftF
          by_cases hik : i = k
          · subst hik
            simp [HK.out, Lit.sameKey]
          · rw [if_neg hik]
            have hne : (Lit.int .i64 (i : Int)) ≠ .int .i64 (k : Int) := by
              intro hh
              injection hh with _ hh
              omega
            simp [Maps.sameKey_ne hne]
        · simp only [Bool.and_eq_true] at hkl
          exact HSUB.out kl hkl.1
      case measure =>
        have h1 := (HRG.out.kept (row := some w1.heap.size) (grown_setCell w2 w1.heap.size k (.bool true)) (by simp; omega) (by simp)).left_eq
        have h2 := HRG0.out.left_eq
        rw [h1, h2]
        exact HLT.out
end
end Go.Proofs.YtdmbcgkfecmakaaDoor
