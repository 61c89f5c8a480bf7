/- Package cards: New, Mark, Marked. -/
import Derived.Test.YtaecdpijpdfboaaGreatMapT
import Derived.Test.YtaecdpijpdfboaaGreatMemQ
import Derived.Test.YtaecdpijpdfboaaGreatSpace2
namespace Go.Proofs.YtaecdpijpdfboaaGreat
set_option linter.unusedVariables false
set_option linter.unusedSimpArgs false
set_option linter.unusedSectionVars false
open Go.RowKit Go.Sort
set_option maxRecDepth 100000

theorem zero_bool (w : World) : (zeroValue 4).run Tryz.prog w = .ok (.bool false) w := by kernel_rfl
/-- the card table behind the pointer to block g, its map in block b -/
structure CR (w : World) (B g b n : Nat) (cs : List Int) : Prop where
  hd : Bk w g 96 #[.map (some b)]
  mp : MapT Tryz.prog 3 4 w b n (fun x => cs.contains x)
  ge : B ≤ g
  gm : B ≤ b
theorem CR.below {w w' : World} {B g b n : Nat} {cs : List Int} (h : CR w B g b n cs) (hb : Below w.heap.size w w') : CR w' B g b n cs :=
  ⟨h.hd.below hb h.hd.lt, h.mp.block (hb.block b h.mp.lt), h.ge, h.gm⟩
theorem CR.kp {S : Nat → Prop} {w w' : World} {B g b n : Nat} {cs : List Int} (h : CR w B g b n cs) (hb : Kp S w w') (h1 : ¬ S g) (h2 : ¬ S b) : CR w' B g b n cs :=
  ⟨h.hd.kp hb h1, h.mp.block (hb.block b h.mp.lt h2), h.ge, h.gm⟩
theorem cardIns_contains (c x : Int) : ∀ l : List Int, (cardIns c l).contains x = (if x = c then true else l.contains x)
  | [] => by
    unfold cardIns
    by_cases h : x = c <;> simp [h]
  | y :: l => by
    unfold cardIns
    split
    · have ih := cardIns_contains c x l
      simp only [List.contains_cons, ih]
      by_cases h : x = c <;> simp [h]
    · simp only [List.contains_cons]
      by_cases h : x = c <;> simp [h]
theorem cardMark_contains (cs : List Int) (a : Int) (ho : oldB a = true) (x : Int) : ((cardMark cs a).2).contains x = (if x = a / 16 then true else cs.contains x) := by
  unfold cardMark
  rw [if_neg (by rw [ho]; simp)]
  unfold cardIn
  rw [ho, Bool.true_and]
  split
  · rename_i h
    by_cases hx : x = a / 16
    · rw [if_pos hx, hx]; exact h
    · rw [if_neg hx]
  · exact cardIns_contains _ _ _
theorem oldB_iff (a : Int) : oldB a = true ↔ (0 ≤ a ∧ a < 16777216) := by unfold oldB; exact decide_eq_true_iff

section
variable {w : World} {B g b n : Nat} {cs : List Int}
theorem Marked_any (h : CR w B g b n cs) (a : Int) : Calls Tryz.prog 23 #[.pointer (some ⟨g, 0, none⟩), .int .i64 a] w fun e w' => e = .returned (.bool (cardIn cs a)) ∧ w = w' := by
  have cO := fun w => old_any a w
  cases ho : oldB a with
  | false =>
    have hk := Lib.hid (show cardIn cs a = false by unfold cardIn; rw [ho]; rfl)
    simp only [ho] at cO
    clear ho h
    go_enter Tryz.func23, Tryz.ntmps23
    go_wp2_with fail
    refine (cO _).mono ?_
    rintro e w1 ⟨rfl, rfl⟩
    go_wp2_with fail
    go_ret
    exact ⟨ret_bool hk.out.symm, rfl⟩
  | true =>
    have hk := Lib.hid (show cardIn cs a = cs.contains (a / 16) by unfold cardIn; rw [ho]; rfl)
    obtain ⟨a0, a1⟩ := (oldB_iff a).1 ho
    simp only [ho] at cO
    have c0 : w.cell? ⟨g, 0, none⟩ = some (.map (some b)) := h.hd.cell 0
    have hl := h.mp.look Tryz.underlying3 Tryz.underlying4 Tryz.underlying94 zero_bool (x := a / 16) (WalkArith.wf_i64 (by omega))
    clear ho h
    obtain ⟨bb, hbb⟩ : ∃ bb, bb = cs.contains (a / 16) := ⟨_, rfl⟩
    simp only [← hbb] at hl
    have HBB := Lib.hid hbb
    clear hbb
    go_enter Tryz.func23, Tryz.ntmps23
    go_wp2_with fail
    refine (cO _).mono ?_
    rintro e w1 ⟨rfl, rfl⟩
    go_wp2_with fail
    go_ret
    exact ⟨ret_bool (HBB.out.trans hk.out.symm), rfl⟩
def MarkP (w : World) (B g b n : Nat) (cs : List Int) (a : Int) (e : Ending) (w' : World) : Prop := e = .returned (.int .i64 (cardMark cs a).1) ∧ CR w' B g b (n + 1) (cardMark cs a).2 ∧ Kp (fun k => k = b) w w'
theorem Mark_any (h : CR w B g b n cs) (hn : n < 1000000) (a : Int) : Calls Tryz.prog 42 #[.pointer (some ⟨g, 0, none⟩), .int .i64 a] w (MarkP w B g b n cs a) := by
  have cO := fun w => old_any a w
  cases ho : oldB a with
  | false =>
    have hk := Lib.hid (show cardMark cs a = (2, cs) by unfold cardMark; rw [if_pos ho])
    simp only [ho] at cO
    have H := Lib.hid h
    clear ho h
    go_enter Tryz.func42, Tryz.ntmps42
    go_wp2_with fail
    refine (cO _).mono ?_
    rintro e w1 ⟨rfl, rfl⟩
    go_wp2_with fail
    go_ret
    unfold MarkP
    rw [hk.out]
    exact ⟨rfl, ⟨H.out.hd, H.out.mp.mono (by omega), H.out.ge, H.out.gm⟩, Kp.refl _ _⟩
  | true =>
    have hk : Hid ((cardMark cs a).1 = 0) := Lib.hid (by unfold cardMark; rw [if_neg (by rw [ho]; simp)]; split <;> rfl)
    have hct := Lib.hid (cardMark_contains cs a ho)
    obtain ⟨a0, a1⟩ := (oldB_iff a).1 ho
    simp only [ho] at cO
    have c0 : w.cell? ⟨g, 0, none⟩ = some (.map (some b)) := h.hd.cell 0
    have H := Lib.hid h
    have HW : Hid ((Lit.int .i64 (a / 16)).wf = true) := Lib.hid (WalkArith.wf_i64 (by omega))
    clear ho h
    go_enter Tryz.func42, Tryz.ntmps42
    go_wp2_with fail
    refine (cO _).mono ?_
    rintro e w1 ⟨rfl, rfl⟩
    go_wp2_with (refine wpList_set_put Tryz.underlying3 Tryz.underlying4 Tryz.underlying94 rfl (m := .tmp 11) (x := .tmp 13) (v := .const (.bool true)) rfl H.out.mp (by unfold maxLen; omega) rfl rfl rfl HW.out ?_; intro w3 hm3 hg3; have HM3 := Lib.hid hm3; have HG3 := Lib.hid hg3; clear hm3 hg3)
    go_ret
    refine ⟨by rw [hk.out]; rfl, ⟨?_, ?_, H.out.ge, H.out.gm⟩, Kp.of_grown HG3.out fun k hk => (Option.some.inj hk).symm⟩
    · refine H.out.hd.grown HG3.out fun e => ?_
      cases e
      obtain ⟨D, ⟨es, clock, h1, _⟩, _⟩ := H.out.mp
      have h2 := H.out.hd
      unfold Bk at h2
      rw [h1] at h2
      cases h2
    · exact HM3.out.congr fun x _ => (hct.out x).symm
end
end Go.Proofs.YtaecdpijpdfboaaGreat
