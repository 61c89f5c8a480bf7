/- Allocations in spaces and memories, as plain mathematics. -/
import Derived.Test.YtjpaogapclfajaaGreatMemQ
namespace Go.Proofs.YtjpaogapclfajaaGreat
set_option linter.unusedVariables false
set_option linter.unusedSimpArgs false
set_option linter.unusedSectionVars false

def frW (a : Int) : Int := if inA a = true then adW a else 0
theorem frW_u (a : Int) : U64 (frW a) := by
  unfold frW inA adW U64
  split
  · rename_i h; simp only [decide_eq_true_eq] at h; omega
  · omega
/-! ### allocations -/
theorem Spc.alloc_cases (s : Spc) (h : Hdr) (i : Id) : ((s.alloc h i).1 ≠ 0 ∧ (s.alloc h i).2.1 = s) ∨ (vH h = true ∧ vI i = true ∧ wH h ≤ s.limit - s.top ∧ s.alloc h i = (0, { s with ws := s.ws ++ ([eH h, eI i] ++ List.replicate (wH h - 2).toNat 0) }, s.top)) := by
  by_cases h1 : vH h = false ∨ vI i = false
  · left; unfold Spc.alloc; rw [if_pos h1]; exact ⟨show (1 : Int) ≠ 0 by decide, rfl⟩
  · by_cases h2 : wH h > s.limit - s.top
    · left; unfold Spc.alloc; rw [if_neg h1, if_pos h2]; exact ⟨show (8 : Int) ≠ 0 by decide, rfl⟩
    · right
      have h3 := not_or.1 h1
      refine ⟨by simpa using h3.1, by simpa using h3.2, by omega, ?_⟩
      unfold Spc.alloc
      rw [if_neg h1, if_neg h2]
theorem Spc.grown_at (s : Spc) (l : List Int) (a : Int) : ({ s with ws := s.ws ++ l } : Spc).at_ a = if s.has a = true then s.at_ a else if s.base + s.ws.length ≤ a then l[(a - s.base).toNat - s.ws.length]? else none := by
  unfold Spc.at_ Spc.has
  simp only [List.length_append, decide_eq_true_eq]
  by_cases h1 : s.base ≤ a ∧ a < s.base + s.ws.length
  · rw [if_pos (by push_cast; omega), if_pos h1, if_pos h1, List.getElem?_append_left (by omega)]
  · rw [if_neg h1]
    by_cases h2 : s.base + s.ws.length ≤ a
    · rw [if_pos h2]
      by_cases h3 : a < s.base + (s.ws.length + l.length : Nat)
      · rw [if_pos (by omega), List.getElem?_append_right (by omega)]
      · rw [if_neg (by omega), List.getElem?_eq_none (by push_cast at h3; omega)]
    · rw [if_neg h2, if_neg (by omega)]
theorem Spc.Ok.alloc {s : Spc} (h : s.Ok) (hd : Hdr) (i : Id) : (s.alloc hd i).2.1.Ok ∧ (s.alloc hd i).2.1.base = s.base ∧ (s.alloc hd i).2.1.limit = s.limit := by
  rcases s.alloc_cases hd i with ⟨_, h1⟩ | ⟨hv, hi, hl, h1⟩
  · rw [h1]; exact ⟨h, rfl, rfl⟩
  · rw [h1]
    have hw := wH_ge hv
    refine ⟨⟨fun x hx => ?_, h.b0, ?_, h.l0⟩, rfl, rfl⟩
    · simp only [List.mem_append, List.mem_cons, List.not_mem_nil, or_false, List.mem_replicate] at hx
      rcases hx with hx | (rfl | rfl) | ⟨_, rfl⟩
      · exact h.u x hx
      · exact eH_u64 hv
      · exact eI_u64 hi
      · exact ⟨by decide, by decide⟩
    · have := h.lim
      unfold Spc.top at hl
      simp only [List.length_append, List.length_cons, List.length_nil, List.length_replicate]
      push_cast
      omega
theorem Mm.Ok.alloc {m : Mm} (h : m.Ok) (y : Bool) (hd : Hdr) (i : Id) : (m.alloc y hd i).2.1.Ok := by
  unfold Mm.alloc
  split
  · have := h.y.alloc hd i
    exact ⟨h.o, this.1, h.ob, h.ol, this.2.1.trans h.yb⟩
  · have := h.o.alloc hd i
    exact ⟨this.1, h.y, this.2.1.trans h.ob, by show (m.old.alloc hd i).2.1.limit ≤ _; rw [this.2.2]; exact h.ol, h.yb⟩
end Go.Proofs.YtjpaogapclfajaaGreat
