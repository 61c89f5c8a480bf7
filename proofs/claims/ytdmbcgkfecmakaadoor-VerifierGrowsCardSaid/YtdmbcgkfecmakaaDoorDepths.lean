/- verifier.Depths, MaxDepth, Reachable. -/
import Derived.Test.YtdmbcgkfecmakaaDoorExam
import Derived.Deep.OwnRows
namespace Go.Proofs.YtdmbcgkfecmakaaDoor
set_option linter.unusedVariables false
set_option linter.unusedSimpArgs false
set_option linter.unusedSectionVars false
open Go.RowKit Go.Maps Go.Deep
set_option maxRecDepth 100000

theorem MapI.rest {w w' : World} {b n : Nat} {f : Int → Option Int} {P : Program} {k e : TypeId} (h : MapI P k e w b n f) {B : Nat} (hb : Below B w w') (hB : b < B) : MapI P k e w' b n f := h.block (hb.block b hB)

theorem examine_any {w : World} {v0 v1 v2 v4 : Value} {A : Option Addr} {len cap : Nat} (c : List Ins) (hc : c.length = len) (hl : len ≤ 10000) (hw : ∀ x ∈ c, (Lit.int .i64 x.1).wf = true ∧ (Lit.int .i64 x.2.1).wf = true ∧ (Lit.int .i64 x.2.2).wf = true) (hcode : Sl w 3 A len (codeCells c)) :
    Calls Tryd.prog 47 #[.agg #[v0, v1, v2, .slice A len cap, v4]] w (EPost w v0 v1 v2 v4 A len cap c) := by
  rcases Nat.eq_zero_or_pos len with h | h
  · subst h
    obtain rfl := List.eq_nil_of_length_eq_zero hc
    exact examine_nil
  · exact examine_main c hc h hl hw hcode

/-- the depths as a list -/
def depthL (f : Nat → Option Int) (n : Nat) : List Int := (List.range n).map fun i => (f i).getD (-1)

def DRow (f : Nat → Option Int) (k : Nat) (j : Nat) : Value := if j < k then .int .i64 ((f j).getD (-1)) else .int .i64 0

def DRel (w1 : World) (R len : Nat) (f : Nat → Option Int) (k : Nat) (wr : World) : Prop := wr.rowIs R 3 len (DRow f k) ∧ Below R w1 wr
theorem DRel.next {w1 wr : World} {R len : Nat} {f : Nat → Option Int} {k : Nat} (h : DRel w1 R len f k wr) (u v : Value) (hv : v = .int .i64 ((f k).getD (-1))) : DRel w1 R len f (k + 1) ((wr.setCell ⟨R, k, none⟩ u).setCell ⟨R, k, none⟩ v) := by
  refine ⟨((h.1.set k u).set k v).congr fun i hi => ?_, (h.2.setCell (by simp) _).setCell (by simp) _⟩
  unfold DRow
  by_cases hik : i = k
  · subst hik; simp [hv]
  · rw [if_neg hik, if_neg hik]
    by_cases h1 : i < k
    · rw [if_pos h1, if_pos (by omega)]
    · rw [if_neg h1, if_neg (by omega)]
theorem DRel.next1 {w1 wr : World} {R len : Nat} {f : Nat → Option Int} {k : Nat} (h : DRel w1 R len f k wr) (v : Value) (hv : v = .int .i64 ((f k).getD (-1))) : DRel w1 R len f (k + 1) (wr.setCell ⟨R, k, none⟩ v) := by
  refine ⟨(h.1.set k v).congr fun i hi => ?_, h.2.setCell (by simp) _⟩
  unfold DRow
  by_cases hik : i = k
  · subst hik; simp [hv]
  · rw [if_neg hik]
    by_cases h1 : i < k
    · rw [if_pos h1, if_pos (by omega)]
    · rw [if_neg h1, if_neg (by omega)]

def DPost (w : World) (len : Nat) (c : List Ins) (e : Ending) (w' : World) : Prop :=
  ∃ f sound most, Fin c f sound most ∧ Below w.heap.size w w' ∧ (sound = false → e = .returned (.tuple #[.slice none 0 0, .int .i64 11])) ∧
    (sound = true → ∃ R cap, e = .returned (.tuple #[.slice (some ⟨R, 0, none⟩) len cap, .int .i64 0]) ∧ w.heap.size ≤ R ∧ len ≤ cap ∧ Sl w' 1 (some ⟨R, 0, none⟩) len (ints (depthL f len)))

theorem DRel.sl {w1 wr : World} {R len : Nat} {f : Nat → Option Int} (h : DRel w1 R len f len wr) : Sl wr 1 (some ⟨R, 0, none⟩) len (ints (depthL f len)) := by
  refine ⟨by simp [ints, depthL], .inr ⟨R, 0, rfl, h.1.lt, fun j x hx => ?_⟩⟩
  have hj : j < len := by
    have := (List.getElem?_eq_some_iff.1 hx).1
    simpa [ints, depthL] using this
  rw [Nat.zero_add, h.1.cell hj]
  unfold DRow
  rw [if_pos hj, ← hx]
  simp [ints, depthL, hj]

section
variable {w : World} {v0 v1 v2 v4 : Value} {A : Option Addr} {len cap : Nat}
set_option maxHeartbeats 2000000 in
theorem Depths_any (c : List Ins) (hc : c.length = len) (hl : len ≤ 10000) (hw : ∀ x ∈ c, (Lit.int .i64 x.1).wf = true ∧ (Lit.int .i64 x.2.1).wf = true ∧ (Lit.int .i64 x.2.2).wf = true) (hcode : Sl w 3 A len (codeCells c)) :
    Calls Tryd.prog 17 #[.agg #[v0, v1, v2, .slice A len cap, v4]] w (DPost w len c) := by
  have hmk := run_make_row' (P := Tryd.prog) 28 3 (.int .i64 0) 8 Tryd.underlying28 Tryd.info3 rfl .i64 .i64 len (by omega) (by omega)
  go_enter Tryd.func17, Tryd.ntmps17
  go_wp2_with (first | (go_at_call 47; refine (examine_any c hc hl hw (hcode.below ((Below.refl _ _).alloc (Nat.le_refl _) _))).mono ?_; rintro e w1 ⟨g, d, n, f, sound, most, rfl, hg, hm, hn, hg1, hd1, hdg, hfin, hb⟩; have HB := Lib.hid (below_box hb); have c6 : w1.cell? ⟨g, 6, none⟩ = some (.bool sound) := hg.cell 6; have c5 : w1.cell? ⟨g, 5, none⟩ = some (.map (some d)) := hg.cell 5; have c3 := box_kept hb 3; simp only [List.getElem?_toArray, List.getElem?_cons_zero, List.getElem?_cons_succ] at c3; have hdlt := hm.lt; rcases sound with _ | _))
  · go_ret2
    exact ⟨f, false, most, hfin, HB.out, fun _ => rfl, fun h => by cases h⟩
  · have HF := Lib.hid hfin
    have hg2 : g < w1.heap.size := hg.lt
    have hs1 := HB.out.size
    clear hfin hb hg hn hg1 hd1 hdg c3 c6
    go_loopw [22] (fun i wr => ∃ k : Nat, i = .int .i64 (k : Int) ∧ k ≤ len ∧ DRel w1 w1.heap.size len f k wr) (fun i _ => len - (intOf i).toNat)
    case atStart =>
      refine ⟨0, rfl, Nat.zero_le _, ?_, (Below.refl _ _).alloc (Nat.le_refl _) _⟩
      refine (World.rowIs_made w1 (.int .i64 0) len 3).congr fun i hi => by simp [DRow]
    case round =>
      obtain ⟨k, rfl, hk, hR⟩ := hrel
      by_cases hlt : k < len
      · have cw : wr.cell? ⟨w1.heap.size, k, none⟩ = some (DRow f k k) := hR.1.cell hlt
        have fw : wr.frozen? ⟨w1.heap.size, k, none⟩ = false := hR.1.frozen k
        have dk : DRow f k k = .int .i64 0 := if_neg (by omega)
        rw [dk] at cw
        have cg : wr.cell? ⟨g, 5, none⟩ = some (.map (some d)) := (hR.2.cell (p := ⟨g, 5, none⟩) hg2).trans c5
        have hmr := (hm.rest hR.2 hdlt).setCell (a := ⟨w1.heap.size, k, none⟩) (by simp; omega) (.int .i64 (-1))
        have hlk := hmr.look_ok hK3 hK3 hM3 hZ3 (x := (k : Int)) (WalkArith.wf_i64 (by omega))
        have hgne : g ≠ w1.heap.size := by omega
        have zk : zf f k = f k := by simp [zf]
        rw [zk] at hlk
        have HR := Lib.hid hR
        clear hR dk zk hmr hm c5
        cases hf : f k with
        | none =>
          rw [hf] at hlk
          simp only [Option.getD_none, Option.isSome_none] at hlk
          have HF2 := Lib.hid hf
          clear hf
          go_wp2
          go_roundw
          case rel => exact ⟨k + 1, by go_num, by omega, HR.out.next1 _ (by rw [HF2.out]; rfl)⟩
          case measure => simp [intOf]; omega
        | some e =>
          rw [hf] at hlk
          simp only [Option.getD_some, Option.isSome_some] at hlk
          have HF2 := Lib.hid hf
          clear hf
          go_wp2
          go_roundw
          case rel => exact ⟨k + 1, by go_num, by omega, HR.out.next _ _ (by rw [HF2.out]; rfl)⟩
          case measure => simp [intOf]; omega
      · obtain rfl : k = len := by omega
        have HR := Lib.hid hR
        clear hR
        go_wp2
        go_ret2
        exact ⟨f, true, most, HF.out, HB.out.trans (HR.out.2.mono hs1), fun h => (by cases h), fun _ => ⟨_, _, rfl, hs1, Nat.le_refl _, HR.out.sl⟩⟩
end
end Go.Proofs.YtdmbcgkfecmakaaDoor
