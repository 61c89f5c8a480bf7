/- Package barrier: Covered, Crossing, Remembered. -/
import Derived.Test.YtaecdpijpdfboaaGreatCross
namespace Go.Proofs.YtaecdpijpdfboaaGreat
set_option linter.unusedVariables false
set_option linter.unusedSimpArgs false
set_option linter.unusedSectionVars false
open Go.RowKit Go.Sort Go.Shelf
attribute [local go_sem] Oper.semAt_some
set_option maxRecDepth 100000

theorem Crossing1_any (a : Int) (w : World) : Calls Tryz.prog 30 #[.int .i64 a] w fun e w' => e = .returned (.bool true) ∧ w = w' := by
  go_enter Tryz.func30, Tryz.ntmps30
  go_wp2_with fail
  go_ret
  exact ⟨rfl, rfl⟩
section
variable {w : World} {B g b n : Nat} {cs : List Int}
theorem Covered1_any {Bt : Nat} (h : CR w B g b n cs) (hb : Bk w Bt 32 #[.pointer (some ⟨g, 0, none⟩)]) (a : Int) : Calls Tryz.prog 31 #[.int .i64 a, .pointer (some ⟨Bt, 0, none⟩)] w fun e w' => e = .returned (.bool (!cardIn cs a)) ∧ w = w' := by
  have cM := Marked_any h a
  have hc : w.cell? ⟨Bt, 0, none⟩ = some (.pointer (some ⟨g, 0, none⟩)) := hb.cell 0
  clear h hb
  go_enter Tryz.func31, Tryz.ntmps31
  go_wp2_with (go_at_call 23; refine cM.mono ?_; rintro e w' ⟨rfl, rfl⟩)
  go_ret
  exact ⟨rfl, rfl⟩
end
section
variable {w : World} {B g1 g2 : Nat} {V1 V2 : Value} {m : Mm} {B' g b k : Nat} {cs : List Int}
abbrev memP (g1 g2 : Nat) : Array Value := #[.pointer (some ⟨g1, 0, none⟩), .pointer (some ⟨g2, 0, none⟩)]
theorem Crossing_any (h : MR w B g1 g2 V1 V2 m) :
    Calls Tryz.prog 11 #[.agg #[.pointer (some ⟨g1, 0, none⟩), .pointer (some ⟨g2, 0, none⟩)]] w fun e W' => ∃ v, e = .returned v ∧ W'.ownsRow w.heap.size 3 1 v (m.crossing fun _ => true).length (ints (m.crossing fun _ => true)) ∧ Below w.heap.size w W' := by
  refine (callsIn_wide (n := 20)).1 ?_
  refine callsIn_of_wp Tryz.func11 rfl trivial ?_ rfl
  simp only [Tryz.ntmps11, List.size_toArray, List.length_cons, List.length_nil, Nat.reduceAdd, Nat.reduceSub, Array.replicate_succ, Array.replicate_zero, List.push_toArray, List.append_toArray, List.nil_append, List.cons_append]
  have hB1 : Below w.heap.size w (w.alloc (.cells #[.pointer (some ⟨g1, 0, none⟩), .pointer (some ⟨g2, 0, none⟩)] 31)) := (Below.refl _ w).alloc (Nat.le_refl _) _
  have cC := crossing_in 19 (by omega) (h.below hB1) 30 #[] #[] (fun _ => true) (enters_of Tryz.func30 (by kernel_rfl) rfl)
    (fun W hW a => (toW (Crossing1_any a W)).mono (by rintro e W' ⟨rfl, rfl⟩; exact ⟨rfl, Below.refl _ _⟩))
  gi_wp2_with fail
  refine ⟨trivial, cC.mono ?_⟩
  rintro e w1 ⟨v, rfl, hown, hb⟩
  gi_wp2_with fail
  refine bodyPost_ret (results_tmp rfl _ _ _) rfl ?_
  exact ⟨v, rfl, ownsRow_mono hown hB1.size, below_trans1 hB1 hb⟩
theorem Remembered_any (h : MR w B g1 g2 V1 V2 m) (hc : CR w B' g b k cs) :
    Calls Tryz.prog 12 #[.agg #[.pointer (some ⟨g1, 0, none⟩), .pointer (some ⟨g2, 0, none⟩)], .pointer (some ⟨g, 0, none⟩)] w fun e W' => ∃ v, e = .returned v ∧ W'.ownsRow w.heap.size 3 1 v (m.crossing (cardIn cs)).length (ints (m.crossing (cardIn cs))) ∧ Below w.heap.size w W' := by
  refine (callsIn_wide (n := 20)).1 ?_
  refine callsIn_of_wp Tryz.func12 rfl trivial ?_ rfl
  simp only [Tryz.ntmps12, List.size_toArray, List.length_cons, List.length_nil, Nat.reduceAdd, Nat.reduceSub, Array.replicate_succ, Array.replicate_zero, List.push_toArray, List.append_toArray, List.nil_append, List.cons_append]
  have hB1 : Below w.heap.size w (w.alloc (.cells #[.pointer (some ⟨g1, 0, none⟩), .pointer (some ⟨g2, 0, none⟩)] 31)) := (Below.refl _ w).alloc (Nat.le_refl _) _
  have cC := crossing_in 19 (by omega) (h.below hB1) 23 #[.pointer (some ⟨g, 0, none⟩)] #[] (cardIn cs) (enters_of Tryz.func23 (by kernel_rfl) rfl)
    (fun W hW a => (toW (Marked_any ((hc.below hB1).below hW) a)).mono (by rintro e W' ⟨rfl, rfl⟩; exact ⟨rfl, Below.refl _ _⟩))
  gi_wp2_with fail
  refine ⟨trivial, cC.mono ?_⟩
  rintro e w1 ⟨v, rfl, hown, hb⟩
  gi_wp2_with fail
  refine bodyPost_ret (results_tmp rfl _ _ _) rfl ?_
  exact ⟨v, rfl, ownsRow_mono hown hB1.size, below_trans1 hB1 hb⟩
theorem Covered_any (h : MR w B g1 g2 V1 V2 m) (hc : CR w B' g b k cs) :
    Calls Tryz.prog 13 #[.agg #[.pointer (some ⟨g1, 0, none⟩), .pointer (some ⟨g2, 0, none⟩)], .pointer (some ⟨g, 0, none⟩)] w fun e W' => e = .returned (.bool (decide ((m.crossing fun a => !cardIn cs a) = []))) ∧ Below w.heap.size w W' := by
  refine (callsIn_wide (n := 20)).1 ?_
  refine callsIn_of_wp Tryz.func13 rfl trivial ?_ rfl
  simp only [Tryz.ntmps13, List.size_toArray, List.length_cons, List.length_nil, Nat.reduceAdd, Nat.reduceSub, Array.replicate_succ, Array.replicate_zero, List.push_toArray, List.append_toArray, List.nil_append, List.cons_append]
  have hB1 : Below w.heap.size w ((w.alloc (.cells #[.pointer (some ⟨g1, 0, none⟩), .pointer (some ⟨g2, 0, none⟩)] 31)).alloc (.cells #[.pointer (some ⟨g, 0, none⟩)] 32)) := ((Below.refl _ w).alloc (Nat.le_refl _) _).alloc (by simp) _
  have hBt : Bk ((w.alloc (.cells #[.pointer (some ⟨g1, 0, none⟩), .pointer (some ⟨g2, 0, none⟩)] 31)).alloc (.cells #[.pointer (some ⟨g, 0, none⟩)] 32)) (w.heap.size + 1) 32 #[.pointer (some ⟨g, 0, none⟩)] := Bk.here _ _ _ (by simp)
  have cC := crossing_in 19 (by omega) (h.below hB1) 31 #[] #[.pointer (some ⟨w.heap.size + 1, 0, none⟩)] (fun a => !cardIn cs a) (enters_of Tryz.func31 (by kernel_rfl) rfl)
    (fun W hW a => (toW (Covered1_any ((hc.below hB1).below hW) (hBt.below hW hBt.lt) a)).mono (by rintro e W' ⟨rfl, rfl⟩; exact ⟨rfl, Below.refl _ _⟩))
  gi_wp2_with fail
  refine ⟨trivial, cC.mono ?_⟩
  rintro e w1 ⟨v, rfl, hown, hb⟩
  obtain ⟨A, c, rfl, hle⟩ := own_shape hown
  gi_wp2_with fail
  refine bodyPost_ret (results_tmp rfl _ _ _) rfl ?_
  refine ⟨?_, below_trans1 hB1 hb⟩
  generalize (m.crossing fun a => !cardIn cs a) = L
  cases L <;> simp
  omega
end
end Go.Proofs.YtaecdpijpdfboaaGreat
