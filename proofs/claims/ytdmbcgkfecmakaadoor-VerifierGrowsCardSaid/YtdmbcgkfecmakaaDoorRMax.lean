/- refmeshref43.MaxDepth. -/
import Derived.Test.YtdmbcgkfecmakaaDoorRDepths
namespace Go.Proofs.YtdmbcgkfecmakaaDoor
set_option linter.unusedVariables false
set_option linter.unusedSimpArgs false
set_option linter.unusedSectionVars false
open Go.RowKit Go.Maps Go.Deep
set_option maxRecDepth 100000

def mxTo (c : List Ins) (g : Nat → Option Int) : Nat → Int
  | 0 => 0
  | k + 1 => match g k, c[k]? with
    | some d, some x => max (mxTo c g k) (max d (d - iP x + iU x))
    | _, _ => mxTo c g k

theorem mxTo_le {c : List Ins} {g : Nat → Option Int} {m : Int} (h0 : 0 ≤ m) (h : ∀ i d x, g i = some d → c[i]? = some x → d ≤ m ∧ d - iP x + iU x ≤ m) : ∀ k, mxTo c g k ≤ m
  | 0 => h0
  | k + 1 => by
    have ih := mxTo_le h0 h k
    unfold mxTo
    split
    · rename_i d x e1 e2
      have := h k d x e1 e2
      omega
    · exact ih
theorem mxTo_ge {c : List Ins} {g : Nat → Option Int} : ∀ k, 0 ≤ mxTo c g k ∧ ∀ i d x, i < k → g i = some d → c[i]? = some x → d ≤ mxTo c g k ∧ d - iP x + iU x ≤ mxTo c g k
  | 0 => ⟨Int.le_refl _, fun i d x hi => by omega⟩
  | k + 1 => by
    obtain ⟨h0, h1⟩ := mxTo_ge (c := c) (g := g) k
    constructor
    · unfold mxTo
      split
      · omega
      · exact h0
    · intro i d x hi hd hx
      by_cases hik : i = k
      · subst hik
        have e : mxTo c g (i + 1) = max (mxTo c g i) (max d (d - iP x + iU x)) := by simp [mxTo, hd, hx]
        rw [e]
        omega
      · have := h1 i d x (by omega) hd hx
        unfold mxTo
        split
        · omega
        · exact this

theorem Fin.most_eq {c : List Ins} {f : Nat → Option Int} {most : Int} (h : Fin c f true most) : mxTo c f c.length = most := by
  have h1 := mxTo_le h.most0 (h.mostLe rfl) c.length
  obtain ⟨h2, h3⟩ := mxTo_ge (c := c) (g := f) c.length
  rcases h.mostIs rfl with h4 | ⟨i, d, x, e1, e2, e3⟩
  · omega
  · have := h3 i d x (h.lt i d e1) e1 e2
    omega

section
variable {w : World} {v0 v1 v2 v4 : Value} {A : Option Addr} {len cap : Nat}
set_option maxHeartbeats 2000000 in
theorem RMaxDepth_any (c : List Ins) (hc : c.length = len) (hl : len ≤ 10000) (hw : ∀ x ∈ c, (Lit.int .i64 x.1).wf = true ∧ (Lit.int .i64 x.2.1).wf = true ∧ (Lit.int .i64 x.2.2).wf = true) (hcode : Sl w 3 A len (codeCells c))
    (f : Nat → Option Int) (hf : Good c f) (lf : ∀ D, Good c D → ∀ i d, f i = some d → D i = some d) :
    Calls Tryd.prog 21 #[.agg #[v0, v1, v2, .slice A len cap, v4]] w fun e w' => e = .returned (.int .i64 (mxTo c f len)) ∧ Below w.heap.size w w' := by
  go_enter Tryd.func21, Tryd.ntmps21
  go_wp2_with (first | (go_at_call 19; refine (RDepths_any c hc hl hw (hcode.below ((Below.refl _ _).alloc (Nat.le_refl _) _))).mono ?_; rintro e w1 ⟨g, ok, hb, hno, hyes⟩; rcases ok with _ | _; exact absurd hf ((hno rfl).2 f); obtain ⟨hg, lg, hgd, R, rcap, rfl, hR, hrc, hsl⟩ := hyes rfl; have HFG := Lib.hid (least_eq hf hg lf lg); clear hno hyes hf lf; have HB := Lib.hid (below_box hb); have c3 := box_kept hb 3; simp only [List.getElem?_toArray, List.getElem?_cons_zero, List.getElem?_cons_succ] at c3))
  go_loopw [5, 6] (fun m i wr => ∃ k n : Nat, i = .int .i64 (k : Int) ∧ k ≤ len ∧ m = .int .i64 (mxTo c g k) ∧ Below w1.heap.size w1 wr) (fun _ i _ => len - (intOf i).toNat)
  case atStart => exact ⟨0, 0, rfl, Nat.zero_le _, rfl, Below.refl _ _⟩
  case round =>
    obtain ⟨k, n, rfl, hk, rfl, hB⟩ := hrel
    by_cases hlt : k < len
    · obtain ⟨b, o, hA, hbR, hcR⟩ := hsl.get hlt
      injection hA with hA
      injection hA with e1 e2
      subst e1
      subst e2
      have cR : wr.cell? ⟨R, k, none⟩ = some (.int .i64 ((g k).getD (-1))) := by
        have := (hB.cell (p := ⟨R, 0 + k, none⟩) hbR).trans (hcR k (.int .i64 ((g k).getD (-1))) (by simp [ints, depthL, hlt]))
        rwa [Nat.zero_add] at this
      cases hgk : g k with
      | none =>
        rw [hgk] at cR
        simp only [Option.getD_none] at cR
        have HGK := Lib.hid hgk
        have HB2 := Lib.hid hB
        clear hgk hB hcR
        go_wp2
        go_roundw
        case rel => exact ⟨k + 1, 0, by go_num, by omega, by rw [mxTo, HGK.out], HB2.out⟩
        case measure => simp [intOf]; omega
      | some d =>
        rw [hgk] at cR
        simp only [Option.getD_some] at cR
        have hd := hgd k d hgk
        have d0 : 0 ≤ d := hd.2.1
        have d1 : d ≤ 64 := hd.2.2
        obtain ⟨x, hx⟩ : ∃ x, c[k]? = some x := ⟨_, List.getElem?_eq_getElem (by rw [hc]; exact hlt)⟩
        obtain ⟨hx0, hx1, hx2⟩ := codeCells_get c k x hx
        obtain ⟨cb, co, rfl, hbl, hcc⟩ := hcode.get hlt
        have hbs := HB.out.size
        have x0 : wr.cell? ⟨cb, co + k * 3, none⟩ = some (.int .i64 x.1) := (hB.cell (p := ⟨cb, co + k * 3, none⟩) (by show cb < _; omega)).trans ((HB.out.cell (p := ⟨cb, co + k * 3, none⟩) hbl).trans (hcc _ _ hx0))
        have x1 : wr.cell? ⟨cb, co + k * 3 + 1, none⟩ = some (.int .i64 x.2.1) := (hB.cell (p := ⟨cb, co + k * 3 + 1, none⟩) (by show cb < _; omega)).trans ((HB.out.cell (p := ⟨cb, co + k * 3 + 1, none⟩) hbl).trans (hcc _ _ hx1))
        have x2 : wr.cell? ⟨cb, co + k * 3 + 2, none⟩ = some (.int .i64 x.2.2) := (hB.cell (p := ⟨cb, co + k * 3 + 2, none⟩) (by show cb < _; omega)).trans ((HB.out.cell (p := ⟨cb, co + k * 3 + 2, none⟩) hbl).trans (hcc _ _ hx2))
        have c3' : wr.cell? ⟨w.heap.size, 3, none⟩ = some (.slice (some ⟨cb, co, none⟩) len cap) := (hB.cell (p := ⟨w.heap.size, 3, none⟩) (by have := hb.size; simp at this; show w.heap.size < _; omega)).trans c3
        have hp := iP_bounds x
        have q0 : 0 ≤ popsI x.1 x.2.1 x.2.2 := hp.1
        have q1 : popsI x.1 x.2.1 x.2.2 ≤ 32 := hp.2.1
        have q2 : 0 ≤ pushesI x.1 x.2.1 x.2.2 := hp.2.2.1
        have q3 : pushesI x.1 x.2.1 x.2.2 ≤ 1 := hp.2.2.2
        have hs1 : IntKind.i64.wrap (d - popsI x.1 x.2.1 x.2.2) = d - popsI x.1 x.2.1 x.2.2 := IntWalk.i64_in _ (by omega)
        have hs2 : IntKind.i64.wrap (d - popsI x.1 x.2.1 x.2.2 + pushesI x.1 x.2.1 x.2.2) = d - popsI x.1 x.2.1 x.2.2 + pushesI x.1 x.2.1 x.2.2 := IntWalk.i64_in _ (by omega)
        have hmx := fun W => run_max3 (P := Tryd.prog) #[3, 3, 3] 3 (mxTo c g k) d (d - popsI x.1 x.2.1 x.2.2 + pushesI x.1 x.2.1 x.2.2) W
        have HX := Lib.hid hx
        have HGK := Lib.hid hgk
        have HB2 := Lib.hid hB
        have hbRw : R < wr.heap.size := by have := hB.size; omega
        clear hgk hB hcR hx hx0 hx1 hx2 hcc hp hd c3 hb
        go_wp2_with (first | (go_at_call 34; refine (REffect_any _ _ _ _).mono ?_; rintro e w2 ⟨rfl, hb2⟩; have cR2 := (hb2.cell (p := ⟨R, k, none⟩) hbRw).trans cR))
        go_quiet (fail)
        go_wp2
        go_roundw
        case rel =>
          refine ⟨k + 1, 0, by go_num, by omega, ?_, below_drewN (HB2.out.trans (hb2.mono HB2.out.size)) _⟩
          simp only [mxTo, HGK.out, HX.out]
          rfl
        case measure => simp [intOf]; omega
    · obtain rfl : k = len := by omega
      have HB2 := Lib.hid hB
      clear hB
      go_wp2
      go_ret
      exact ⟨ret_int (by rw [HFG.out]), HB.out.trans (HB2.out.mono HB.out.size)⟩
end
end Go.Proofs.YtdmbcgkfecmakaaDoor
