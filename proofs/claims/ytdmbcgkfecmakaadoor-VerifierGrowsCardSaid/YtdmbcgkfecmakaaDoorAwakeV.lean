/- refmeshlaw43.awake returns true; few. -/
import Derived.Test.YtdmbcgkfecmakaaDoorRMax
import Derived.Test.YtdmbcgkfecmakaaDoorMaxDepth
import Derived.Test.YtdmbcgkfecmakaaDoorInts
namespace Go.Proofs.YtdmbcgkfecmakaaDoor
set_option linter.unusedVariables false
set_option linter.unusedSimpArgs false
set_option linter.unusedSectionVars false
open Go.RowKit Go.Maps Go.Deep
set_option maxRecDepth 100000

def c6 : List Ins := [(0, 1, 0), (19, 3, 0), (25, 0, 0), (1, 0, 0), (5, 0, 0), (25, 0, 0)]
def c2 : List Ins := [(0, 1, 0), (20, 0, 0)]
def d6 (i : Nat) : Option Int := if i = 0 then some 0 else if i = 1 then some 1 else if i = 2 then some 0 else if i = 3 then some 0 else if i = 4 then some 1 else if i = 5 then some 0 else none

theorem good6 : Good c6 d6 := by
  refine ⟨rfl, fun i d h => ?_⟩
  have hi : i = 0 ∨ i = 1 ∨ i = 2 ∨ i = 3 ∨ i = 4 ∨ i = 5 := by
    unfold d6 at h
    by_cases h0 : i = 0; · omega
    by_cases h1 : i = 1; · omega
    by_cases h2 : i = 2; · omega
    by_cases h3 : i = 3; · omega
    by_cases h4 : i = 4; · omega
    by_cases h5 : i = 5; · omega
    simp [h0, h1, h2, h3, h4, h5] at h
  rcases hi with rfl | rfl | rfl | rfl | rfl | rfl <;> (obtain rfl := Option.some.inj h)
  · exact ⟨(0, 1, 0), rfl, by decide, by decide, by decide, fun t ht => ⟨1, by have : t ∈ [(1 : Int)] := ht; simpa using this, by decide⟩⟩
  · refine ⟨(19, 3, 0), rfl, by decide, by decide, by decide, fun t ht => ?_⟩
    have : t ∈ [(2 : Int), 3] := ht
    simp at this
    rcases this with rfl | rfl
    · exact ⟨2, rfl, by decide⟩
    · exact ⟨3, rfl, by decide⟩
  · exact ⟨(25, 0, 0), rfl, by decide, by decide, by decide, fun t ht => by have : t ∈ ([] : List Int) := ht; cases this⟩
  · exact ⟨(1, 0, 0), rfl, by decide, by decide, by decide, fun t ht => ⟨4, by have : t ∈ [(4 : Int)] := ht; simpa using this, by decide⟩⟩
  · exact ⟨(5, 0, 0), rfl, by decide, by decide, by decide, fun t ht => ⟨5, by have : t ∈ [(5 : Int)] := ht; simpa using this, by decide⟩⟩
  · exact ⟨(25, 0, 0), rfl, by decide, by decide, by decide, fun t ht => by have : t ∈ ([] : List Int) := ht; cases this⟩

theorem reach6 : ∀ i, i < 6 → Reach c6 i := by
  have r0 : Reach c6 0 := .zero (by decide)
  have r1 : Reach c6 1 := .step r0 (x := (0, 1, 0)) rfl (by decide) (by decide)
  have r2 : Reach c6 2 := .step r1 (x := (19, 3, 0)) rfl (by decide) (by decide)
  have r3 : Reach c6 3 := .step r1 (x := (19, 3, 0)) rfl (by decide) (by decide)
  have r4 : Reach c6 4 := .step r3 (x := (1, 0, 0)) rfl (by decide) (by decide)
  have r5 : Reach c6 5 := .step r4 (x := (5, 0, 0)) rfl (by decide) (by decide)
  intro i hi
  have : i = 0 ∨ i = 1 ∨ i = 2 ∨ i = 3 ∨ i = 4 ∨ i = 5 := by omega
  rcases this with rfl | rfl | rfl | rfl | rfl | rfl <;> assumption

theorem fin6 {f : Nat → Option Int} {sound : Bool} {most : Int} (h : Fin c6 f sound most) : sound = true ∧ depthL f 6 = [0, 1, 0, 0, 1, 0] ∧ most = 1 := by
  have hs : sound = true := by
    cases sound with
    | true => rfl
    | false => exact absurd good6 (h.bad rfl d6)
  subst hs
  have hd : ∀ i, i < 6 → f i = d6 i := fun i hi => by
    obtain ⟨d, hd⟩ := Option.isSome_iff_exists.1 ((h.reach i).2 (reach6 i hi))
    rw [hd, h.forced rfl d6 good6 i d hd]
  have e0 := hd 0 (by omega)
  have e1 := hd 1 (by omega)
  have e2 := hd 2 (by omega)
  have e3 := hd 3 (by omega)
  have e4 := hd 4 (by omega)
  have e5 := hd 5 (by omega)
  refine ⟨rfl, ?_, ?_⟩
  · have : List.range 6 = [0, 1, 2, 3, 4, 5] := by decide
    simp only [depthL, this, List.map_cons, List.map_nil, e0, e1, e2, e3, e4, e5]
    decide
  · rw [← h.most_eq]
    have e : c6.length = 6 := rfl
    rw [e]
    simp only [mxTo, e0, e1, e2, e3, e4, e5]
    decide

theorem bad2 (D : Nat → Option Int) : ¬ Good c2 D := by
  intro h
  obtain ⟨x, hx, _, _, _, ht⟩ := h.2 0 0 h.1
  obtain rfl : (0, 1, 0) = x := Option.some.inj hx
  obtain ⟨n, e1, e2⟩ := ht 1 (by decide)
  obtain rfl : n = 1 := by omega
  obtain ⟨y, hy, _, _, _, ht2⟩ := h.2 1 _ e2
  obtain rfl : (20, 0, 0) = y := Option.some.inj hy
  obtain ⟨m, e3, e4⟩ := ht2 2 (by decide)
  have := h.lt e4
  have e : c2.length = 2 := rfl
  omega

theorem codeWf {c : List Ins} (h : c.all (fun x => (Lit.int .i64 x.1).wf && (Lit.int .i64 x.2.1).wf && (Lit.int .i64 x.2.2).wf) = true) : ∀ x ∈ c, (Lit.int .i64 x.1).wf = true ∧ (Lit.int .i64 x.2.1).wf = true ∧ (Lit.int .i64 x.2.2).wf = true := by
  intro x hx
  have := List.all_eq_true.1 h x hx
  simp only [Bool.and_eq_true] at this
  exact ⟨this.1.1, this.1.2, this.2⟩

theorem Sl.newCode (w : World) (c : List Ins) (n : Nat) (t : TypeId) (cs : List Value) (h : cs = codeCells c) (hn : c.length = n) : Sl (w.alloc (.cells cs.toArray t)) 3 (some ⟨w.heap.size, 0, none⟩) n (codeCells c) := by
  subst h
  subst hn
  exact ⟨codeCells_length c, .inr ⟨_, _, rfl, by simp, fun j x hx => by simpa using hx⟩⟩

theorem DPost.six {w : World} {e : Ending} {w' : World} (h : DPost w 6 c6 e w') : Below w.heap.size w w' ∧ ∃ R cap, e = .returned (.tuple #[.slice (some ⟨R, 0, none⟩) 6 cap, .int .i64 0]) ∧ 6 ≤ cap ∧ Sl w' 1 (some ⟨R, 0, none⟩) 6 (ints [0, 1, 0, 0, 1, 0]) := by
  obtain ⟨f, sound, most, hfin, hb, _, hyes⟩ := h
  obtain ⟨rfl, hd, _⟩ := fin6 hfin
  obtain ⟨R, cap, he, _, hc, hs⟩ := hyes rfl
  exact ⟨hb, R, cap, he, hc, hd ▸ hs⟩
theorem MPost.six {w : World} {e : Ending} {w' : World} (h : MPost w c6 e w') : Below w.heap.size w w' ∧ e = .returned (.tuple #[.int .i64 1, .int .i64 0]) := by
  obtain ⟨f, sound, most, hfin, hb, _, hyes⟩ := h
  obtain ⟨rfl, _, rfl⟩ := fin6 hfin
  exact ⟨hb, hyes rfl⟩
theorem DPost.two {w : World} {e : Ending} {w' : World} (h : DPost w 2 c2 e w') : Below w.heap.size w w' ∧ e = .returned (.tuple #[.slice none 0 0, .int .i64 11]) := by
  obtain ⟨f, sound, most, hfin, hb, hno, _⟩ := h
  cases sound with
  | true => exact absurd (hfin.good rfl) (bad2 f)
  | false => exact ⟨hb, hno rfl⟩

set_option maxHeartbeats 4000000 in
theorem awakeV (w : World) : Calls Tryd.prog 15 #[] w fun e w' => e = .returned (.bool true) ∧ Below w.heap.size w w' := by
  have hs1 := Sl.newCode w c6 6 39 [.int .i64 0, .int .i64 1, .int .i64 0, .int .i64 19, .int .i64 3, .int .i64 0, .int .i64 25, .int .i64 0, .int .i64 0, .int .i64 1, .int .i64 0, .int .i64 0, .int .i64 5, .int .i64 0, .int .i64 0, .int .i64 25, .int .i64 0, .int .i64 0] rfl rfl
  have HS1 := Lib.hid hs1
  clear hs1
  go_enter Tryd.func15, Tryd.ntmps15
  go_wp2_with fail
  refine (Depths_any c6 rfl (by decide) (codeWf (by decide)) (HS1.out.below ((Below.refl _ _).alloc (Nat.le_refl _) _))).mono ?_
  intro e w1 hpost
  obtain ⟨hb, R, cap, rfl, hcap, hsl⟩ := hpost.six
  have hs2 : Sl w1 3 (some ⟨w.heap.size, 0, none⟩) 6 (codeCells c6) := (HS1.out.below ((Below.refl _ _).alloc (Nat.le_refl _) _)).below hb
  have hm1 : Bk w1 (w.heap.size + 1) 25 #[.string ⟨#[]⟩, .int .i64 0, .int .i64 0, .slice (some ⟨w.heap.size, 0, none⟩) 6 6, .slice none 0 0] := Bk.below (Bk.newAt _ _ (by simp)) hb (by simp)
  have b0 : w1.cell? ⟨w.heap.size + 1, 0, none⟩ = some (.string ⟨#[]⟩) := hm1.cell 0
  have b1 : w1.cell? ⟨w.heap.size + 1, 1, none⟩ = some (.int .i64 0) := hm1.cell 1
  have b2 : w1.cell? ⟨w.heap.size + 1, 2, none⟩ = some (.int .i64 0) := hm1.cell 2
  have b3 : w1.cell? ⟨w.heap.size + 1, 3, none⟩ = some (.slice (some ⟨w.heap.size, 0, none⟩) 6 6) := hm1.cell 3
  have b4 : w1.cell? ⟨w.heap.size + 1, 4, none⟩ = some (.slice none 0 0) := hm1.cell 4
  have HB1 : Hid (Below w.heap.size w w1) := (((Below.refl _ _).alloc (Nat.le_refl _) _).alloc (by simp) _).trans (hb.mono (by simp; omega))
  have HSL := Lib.hid hsl
  have HS2 := Lib.hid hs2
  have hz1 : w.heap.size ≤ w1.heap.size := HB1.out.size
  clear hpost hb hs2 hm1 hsl HS1
  go_wp2_with fail
  refine (MaxDepth_any c6 rfl (by decide) (codeWf (by decide)) HS2.out).mono ?_
  intro e w2 hpost
  obtain ⟨hb, rfl⟩ := hpost.six
  have HB2 := Lib.hid (HB1.out.trans (hb.mono hz1))
  have HSL2 := Lib.hid (HSL.out.below hb)
  have hz2 : w.heap.size ≤ w2.heap.size := HB2.out.size
  have hs3 := Sl.newCode w2 c2 2 39 [.int .i64 0, .int .i64 1, .int .i64 0, .int .i64 20, .int .i64 0, .int .i64 0] rfl rfl
  have HS3 := Lib.hid hs3
  clear hpost hb hs3 b0 b1 b2 b3 b4 HS2 HSL HB1
  go_wp2_with fail
  refine (Depths_any c2 rfl (by decide) (codeWf (by decide)) HS3.out).mono ?_
  intro e w3 hpost
  obtain ⟨hb, rfl⟩ := hpost.two
  have HB3 := Lib.hid ((HB2.out.alloc hz2 _).trans (hb.mono (by simp; omega)))
  have HSL3 := Lib.hid ((HSL2.out.below ((Below.refl _ _).alloc (Nat.le_refl _) _)).below hb)
  have hz3 : w.heap.size ≤ w3.heap.size := HB3.out.size
  clear hpost hb HS3 HSL2 HB2
  go_wp2_with fail
  refine (Ints_any [0, 1, 0, 0, 1, 0] [0, 1, 0, 0, 1, 0] _ _ _ _ _ (by decide) hcap (by decide) (HSL3.out.below ((Below.refl _ _).alloc (Nat.le_refl _) _)) (Sl.new _ _ (ints [0, 1, 0, 0, 1, 0]))).mono ?_
  rintro e w4 ⟨rfl, n, rfl⟩
  have he : eqL [(0 : Int), 1, 0, 0, 1, 0] [0, 1, 0, 0, 1, 0] = true := by decide
  rw [he]
  clear he
  go_wp2
  go_ret
  exact ⟨rfl, below_drewN (HB3.out.alloc hz3 _) _⟩
end Go.Proofs.YtdmbcgkfecmakaaDoor
