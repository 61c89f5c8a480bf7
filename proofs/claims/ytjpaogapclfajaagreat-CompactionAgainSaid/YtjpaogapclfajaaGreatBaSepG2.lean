/- A region that draws its order: rows are built, then one operation writes, then others follow. (printed by gen/sepg2.py) -/
import Derived.Test.YtjpaogapclfajaaGreatBa11
namespace Go.Proofs.YtjpaogapclfajaaGreat
set_option linter.unusedVariables false
set_option linter.unusedSimpArgs false
set_option linter.unusedSectionVars false
open Go.RowKit
def Phase2S (P : Program) (ops : Array Oper) (Q : Exit → Act → World → Prop) (m : Nat) (a : Act) (w : World) : Prop :=
 ∀ L : Array Bool, L.size = ops.size → (∀ j, j < m → L.getD j false = true) → (∀ j, m ≤ j → j < ops.size → L.getD j true = false) → ∀ f, ((List.range ops.size).filter fun i => !L.getD i true).length = f → wpAny P .any ops Q f L a w
def normalToS (K : Act → World → Prop) (Q : Exit → Act → World → Prop) : Exit → Act → World → Prop
 | .normal, a, w => K a w
 | e, a, w => Q e a w
theorem normalTo_letsS {K : Act → World → Prop} {Q : Exit → Act → World → Prop} (h : LetsOut (normalToS K Q)) : LetsOut Q := h
theorem normalTo_normalS {K : Act → World → Prop} {Q : Exit → Act → World → Prop} {a : Act} {w : World} : normalToS K Q .normal a w = K a w := rfl
theorem wp_exitsS {P : Program} {o : Oper} {a : Act} {w : World} {K K' : Act → World → Prop} {Q Q' : Exit → Act → World → Prop} (h : o.wp P a w K Q) (hK : ∀ a w, K a w → K' a w) (hp : ∀ c a w, Q (.panic c) a w → Q' (.panic c) a w) (hl : LetsOut Q → LetsOut Q') : o.wp P a w K' Q' := by
 unfold Oper.wp at h ⊢
 generalize (execOp a.eval o).run P w = r at h
 cases r with
 | ok nx w' =>
  cases nx <;> simp only [Oper.upon] at h ⊢
  case value v => exact hK _ _ h
  case skip => exact hK _ _ h
  case defer d => exact hK _ _ h
  case row row args => exact Rows.mono h fun v w'' hv => hK _ _ hv
  case enter f args =>
   refine Calls.mono h fun e w'' he => ?_
   cases e with
   | returned v => exact hK _ _ he
   | panicked c => exact hp _ _ _ he
   | outgrown => exact hl he
 | halt x w' => cases x <;> simp only [Oper.upon] at h ⊢ <;> first | exact h.elim | exact hp _ _ _ h
section
variable {P : Program} {ops : Array Oper} {N n : Nat} {ds eats : Nat → List Nat} {fl : Nat → Bool} {md : Nat} {W : World} {B : Nat} {ini : Nat → Option Nat} {a0 : Act} {Q : Exit → Act → World → Prop} {ob : Nat → Value → Option Nat} {R : Nat → (Nat → Value) → Value → World → Prop}
theorem wpAny_fromS (hs : SepB ops N n ds eats fl md) (hmd : md ≠ 2) (m : Nat) (hN : ∀ i, i < n → ∀ d, dstOf ops i = some d → d < a0.tmps.size)
  (hgd : ∀ i, m ≤ i → i < n → ∀ o, ops[i]? = some o → ∀ g b, o.guard = some (g, b) → ∀ vs v w, R g vs v w → v = .bool b)
  (hdep : ∀ i vs vs' v w, i < n → (∀ j ∈ ds i, vs j = vs' j) → R i vs v w → R i vs' v w)
  (hloc : ∀ i vs v w w', i < n → R i vs v w → Below B W w → Below B W w' → w.heap.size ≤ w'.heap.size → (∀ k, ob i v = some k → w'.heap[k]? = w.heap[k]?) → ((∀ i, eats i = []) → Below w.heap.size w w') → R i vs v w')
  (hstep : ∀ i, m ≤ i → i < n → ∀ o, ops[i]? = some o → ∀ vs w, (∀ k, k < W.heap.size → (∀ i, ini i ≠ some k) → w.heap[k]? = W.heap[k]?) → GivenB (fun j => R j vs) ob W B (ini i) vs (ds i) w → Made P (LaysB (fun j => R j vs) ob B ini vs (eats i) i w) ((execOp (frm ops a0 vs (ds i)).eval o).run P w))
  (htail : ∀ (f : Nat) (L : Array Bool) (a : Act) (w : World) (vs : Nat → Value), SInv ops N n eats R ob W B ini a0 vs L a w → n ∈ Region.ready .any ops L → ((List.range N).filter fun i => !(L.setIfInBounds n true).getD i true).length = f → wpOp P ops Q n (wpAny P .any ops Q f (L.setIfInBounds n true)) a w) :
  ∀ (f : Nat) (L : Array Bool) (a : Act) (w : World) (vs : Nat → Value), SInv ops N n eats R ob W B ini a0 vs L a w → (∀ j, j < m → L.getD j false = true) → ((List.range N).filter fun i => !L.getD i true).length = f → wpAny P .any ops Q f L a w := by
 intro f
 induction f with
 | zero =>
  intro L a w vs inv hm hf
  have : n ∈ (List.range N).filter fun i => !L.getD i true := List.mem_filter.2 ⟨List.mem_range.2 (hs.lt hmd), by rw [inv.nlast n (Nat.le_refl _) (hs.lt hmd)]; rfl⟩
  rw [List.length_eq_zero_iff.1 hf] at this
  cases this
 | succ f ih =>
  intro L a w vs inv hm hf
  refine ⟨fun h0 => ?_, fun i hr => ?_⟩
  ·exfalso
   obtain ⟨i, _, h4, _⟩ := least_ready hs inv.lsize (hs.lt hmd) (getD_both (inv.nlast n (Nat.le_refl _) (hs.lt hmd)))
   rw [h0] at h4
   cases h4
  ·have hcnt := count_step inv.lsize hr hf
   have hlt := ready_lt hr
   rw [inv.lsize] at hlt
   by_cases hin : i < n
   ·obtain ⟨hun, o, ho, hall⟩ := mem_ready.1 hr
    have hmi : m ≤ i := by
     rcases Nat.lt_or_ge i m with h | h
     ·have := hm i h
      rw [getD_both hun] at this
      cases this
     ·exact h
    unfold wpOp
    rw [ho]
    simp only []
    have hw : Region.wanted o (yielded ops a.tmps) = true := by
     unfold Region.wanted
     cases hgb : o.guard with
     | none => rfl
     | some p =>
      obtain ⟨g, b⟩ := p
      have hgi := hs.guard i hin o ho g b hgb
      have hgl : L.getD g false = true := waits_listed hr (hs.dep i hin g hgi)
      have hgn : g < n := by
       have hw := hs.dep i hin g hgi
       unfold waits at hw
       rw [ho] at hw
       obtain ⟨e, he, hb⟩ := Array.any_eq_true'.1 hw
       simp only [Bool.and_eq_true, beq_iff_eq] at hb
       have := hs.back i (by have := hs.le; omega) o ho e he hb.1
       omega
      have hv := hgd i hmi hin o ho g b hgb _ _ _ ((inv.given hs hin hr).2.2.1 g hgi).1
      obtain ⟨d, hd⟩ := hs.dst g hgn
      have hsl := inv.slot g hgn hgl d hd (hN g hgn d hd)
      have hy : yielded ops a.tmps g = some b := by
       unfold yielded
       unfold dstOf at hd
       simp only [hd, Option.bind_some, hsl, hv]
      simp only [hy]
      exact beq_self_eq_true _
    rw [if_pos hw]
    refine .inl ?_
    have hdo : dstOf ops i = o.dst := by unfold dstOf; rw [ho]; rfl
    have hsel := Region.noSelect_spec hs.sel
    have hex : execOp a.eval o = execOp (frm ops a0 vs (ds i)).eval o := execOp_congr o (fun cs b => hsel i o cs b ho) (put_operand fun d hd => by
     have hdl : ∀ j ∈ ds i, L.getD j false = true := fun j hj => waits_listed hr (hs.dep i hin j hj)
     have hdlt : ∀ j ∈ ds i, j < n := fun j hj => by
      have hw := hs.dep i hin j hj
      unfold waits at hw
      rw [ho] at hw
      obtain ⟨e, he, hb⟩ := Array.any_eq_true'.1 hw
      simp only [Bool.and_eq_true, beq_iff_eq] at hb
      have := hs.back i (by have := hs.le; omega) o ho e he hb.1
      omega
     by_cases h : ∃ j, j < n ∧ dstOf ops j = some d
     ·obtain ⟨j, hj, hjd⟩ := h
      have hm := hs.opnd i hin o ho d hd j hj hjd
      rw [frm_slot hs vs (ds i) hdlt j hm d hjd (hN j hj d hjd), inv.slot j hj (hdl j hm) d hjd (hN j hj d hjd)]
     ·rw [frm_rest vs (ds i) d fun j hj hjd => h ⟨j, hdlt j hj, hjd⟩, inv.rest d fun j hj _ hjd => h ⟨j, hj, hjd⟩])
    refine wp_of_made (T := LaysB (fun j => R j vs) ob B ini vs (eats i) i w) (by rw [hex]; exact hstep i hmi hin o ho vs w inv.kp (inv.given hs hin hr)) fun v w' hl => ?_
    have inv' := inv.step hs hdep hloc hin hr hl
    rw [hdo] at inv'
    exact ih _ _ _ _ inv' (fun j hj => getD_set_true (hm j hj)) hcnt
   ·obtain rfl : i = n := by
     rcases Nat.lt_or_ge n i with h | h
     ·obtain ⟨g, hg⟩ := hs.late i h hlt
      have h4 := sinks_listed hr (fun k hk hkl j hj => by
       rcases Nat.lt_or_ge k n with hkn | hkn
       ·exact inv.closed k hkn hkl j hj
       ·have := getD_both (inv.nlast k hkn (by omega))
        rw [hkl] at this
        cases this) g n hg
      have h5 := getD_both (inv.nlast n (Nat.le_refl _) (by omega))
      rw [h4] at h5
      cases h5
     ·omega
    exact htail f L a w vs inv hr hcnt
theorem wp_region_firstS {id : Nat} {a0 : Act} {W : World} {l : List Oper} (n : Nat) (ds eats : Nat → List Nat) (R : Nat → Value → World → Prop) (ob : Nat → Value → Option Nat) (hm : P.follows .mixedOrders = true) (hBB : sepG true l.toArray l.length n ds eats (fun _ => false) 1 = true)
  (hb : bareB l (n + 1) = true)
  (hN : (List.range n).all (fun i => match dstOf l.toArray i with | some d => decide (d < a0.tmps.size) | none => true) = true)
  (hloc : ∀ i v w w', i < n → R i v w → Below W.heap.size W w → Below W.heap.size W w' → w.heap.size ≤ w'.heap.size → (∀ k, ob i v = some k → w'.heap[k]? = w.heap[k]?) → R i v w')
  (hstep : ∀ i, i < n → ∀ o, l[i]? = some o → ∀ vs w, Given R ob W vs (ds i) w → Made P (Lays R ob W vs (eats i) i w) ((execOp (frm l.toArray a0 vs (ds i)).eval o).run P w))
  (hend : ∀ vs w, Below W.heap.size W w → (∀ i, i < n → (∀ j, j < n → i ∉ eats j) → R i (vs i) w ∧ ∀ k, ob i (vs i) = some k → W.heap.size ≤ k ∧ k < w.heap.size) → wpList P l.toArray (normalToS (Phase2S P l.toArray Q (n + 1)) Q) ((l.drop n).take 1) (frm l.toArray a0 vs (List.range n)) w) :
  (Code.region id l.toArray true).wp P Q a0 W := by
 have hs := SepB.ofG hBB
 have hbare : ∀ i, i < n + 1 → ∀ o, l[i]? = some o → o.guard = none := fun i hi o ho => by
  have := List.all_eq_true.1 hb i (List.mem_range.2 hi)
  rw [ho] at this
  simpa using this
 have hN' : ∀ i, i < n → ∀ d, dstOf l.toArray i = some d → d < a0.tmps.size := fun i hi d hd => by
  have := List.all_eq_true.1 hN i (List.mem_range.2 hi)
  rw [hd] at this
  simpa using this
 refine wp_region_any hm ?_
 refine wpAny_pre (W := W) (R := fun i _ => R i) (ob := ob) (B := W.heap.size) (ini := fun _ => none) hs (by decide) hN' (fun i hi o ho g b hgb => by rw [hbare i (by omega) o (by simpa using ho)] at hgb; cases hgb)
  (fun _ _ _ _ _ _ _ h => h) (fun i _ v w w' a b c d e f _ => hloc i v w w' a b c d e f)
  (fun i hi o ho vs w _ hg => (hstep i hi o (by simpa using ho) vs w hg.2).mono fun v w' h => h.toB)
  (fun f L a w vs inv hr hcnt => ?_) _ _ _ _ (fun _ => undef) ⟨rfl, rfl, fun i _ h => ?_, fun _ _ => rfl, ⟨rfl, rfl, rfl, Nat.le_refl _, fun _ _ => rfl⟩, fun i _ h => ?_, fun i _ h => ?_, by simp, fun j hj hj' => by simp [hj'], Nat.le_refl _, (fun _ _ h => by cases h), (fun _ _ _ h => by cases h), (fun _ _ _ _ => rfl), fun i _ k _ j _ h => ?_, fun k _ h => ?_, fun _ _ _ => rfl, fun i _ h => ?_⟩ ?_
 ·have hall : ∀ j, j < n → L.getD j false = true := fun j hj => sinks_listed hr inv.closed _ j (hs.last (by decide) j hj rfl)
  have hae : a = frm l.toArray a0 vs (List.range n) := by
   have h1 : a.tmps = (frm l.toArray a0 vs (List.range n)).tmps := by
    refine Array.ext_getElem? fun d => ?_
    by_cases h : ∃ j, j < n ∧ dstOf l.toArray j = some d
    ·obtain ⟨j, hj, hjd⟩ := h
     rw [frm_slot hs vs (List.range n) (fun k hk => List.mem_range.1 hk) j (List.mem_range.2 hj) d hjd (hN' j hj d hjd), inv.slot j hj (hall j hj) d hjd (hN' j hj d hjd)]
    ·rw [frm_rest vs (List.range n) d fun j hj hjd => h ⟨j, List.mem_range.1 hj, hjd⟩, inv.rest d fun j hj _ hjd => h ⟨j, hj, hjd⟩]
   have h2 : a.defers = (frm l.toArray a0 vs (List.range n)).defers := by rw [frm_defers, inv.defers]
   cases a
   cases hq : frm l.toArray a0 vs (List.range n)
   rw [hq] at h1 h2
   simp only at h1 h2
   rw [h1, h2]
  have hfin := hend vs w inv.below (fun j hj hne => inv.holds j hj (hall j hj) fun m hm _ h => hne m hm h)
  rw [← hae] at hfin
  obtain ⟨hun, o, ho, _⟩ := mem_ready.1 hr
  have hol : l[n]? = some o := by simpa using ho
  have hg := hbare n (by omega) o hol
  have hlt := ready_lt hr
  rw [inv.lsize] at hlt
  have hdr : (l.drop n).take 1 = [o] := by
   rw [List.drop_eq_getElem_cons hlt]
   have := List.getElem?_eq_getElem hlt
   rw [hol] at this
   simp [← Option.some.inj this]
  rw [hdr] at hfin
  unfold wpList at hfin
  rw [if_pos (by simp [Region.wanted, hg])] at hfin
  unfold wpOp
  rw [ho]
  simp only []
  rw [if_pos (by simp [Region.wanted, hg])]
  refine hfin.imp (fun h => wp_exitsS h (fun a' w' h2 => ?_) (fun _ _ _ h => h) (fun h => h)) fun h => h
  have h3 : Phase2S P l.toArray Q (n + 1) a' w' := by simpa [wpList, normalToS] using h2
  refine h3 _ (by simp [inv.lsize]) (fun j hj => ?_) (fun j hj hj' => ?_) f (by simpa using hcnt)
  ·by_cases hjn : n = j
   ·subst hjn; exact getD_set_self (by rw [inv.lsize]; exact hlt) false
   ·exact getD_set_true (hall j (by omega))
  ·rw [getD_set_ne true (by omega)]
   exact inv.nlast j (by omega) (by simpa using hj')
 ·rw [getD_replicate_false] at h; cases h
 ·rw [getD_replicate_false] at h; cases h
 ·rw [getD_replicate_false] at h; cases h
 ·rw [getD_replicate_false] at h; cases h
 ·rw [getD_replicate_false] at h; cases h
 ·rw [getD_replicate_false] at h; cases h
 ·rw [hs.size]
  have : ((List.range l.length).filter fun i => !(Array.replicate l.length false).getD i true) = List.range l.length := by
   refine List.filter_eq_self.2 fun i hi => ?_
   have := List.mem_range.1 hi
   simp [this]
  rw [this]
  simp
theorem phase2_addsS {a0 : Act} {W : World} {l : List Oper} {Q : Exit → Act → World → Prop} (m n : Nat) (ds : Nat → List Nat) (E : Nat → Ent W) (hBB : sepG true l.toArray l.length n ds (fun _ => []) (fun _ => false) = true)
  (hgd : ∀ i, m ≤ i → i < n → ∀ o, l[i]? = some o → ∀ g b, o.guard = some (g, b) → ∀ vs v w, (E g).R vs v w → v = .bool b)
  (hmn : m ≤ n)
  (hdl : (List.range n).all (fun i => (E i).dl.all ((ds i).contains ·)) = true)
  (hN : (List.range n).all (fun i => match dstOf l.toArray i with | some d => decide (d < a0.tmps.size) | none => true) = true)
  (h0 : ∀ i, i < m → (E i).R (fun j => match dstOf l.toArray j with | some d => a0.tmps.getD d undef | none => undef) (match dstOf l.toArray i with | some d => a0.tmps.getD d undef | none => undef) W ∧ ∀ v, (E i).ob v = none)
  (hstep : ∀ i, m ≤ i → i < n → ∀ o, l[i]? = some o → ∀ vs w, Below W.heap.size W w → (∀ j ∈ ds i, (E j).R vs (vs j) w) → Made P (Adds (E i) vs w) ((execOp (frm l.toArray a0 vs (ds i)).eval o).run P w))
  (hend : ∀ vs w, Below W.heap.size W w → (∀ i, i < n → (E i).R vs (vs i) w ∧ ∀ k, (E i).ob (vs i) = some k → W.heap.size ≤ k ∧ k < w.heap.size) → (∀ i, i < n → ∀ i', i' < n → i ≠ i' → ∀ k, (E i).ob (vs i) = some k → (E i').ob (vs i') ≠ some k) → wpList P l.toArray Q (l.drop n) (frm l.toArray a0 vs (List.range n)) w) :
  Phase2S P l.toArray Q m a0 W := by
 intro L hL hl1 hl2 f hf
 have hs := SepB.ofG hBB
 have hN' : ∀ i, i < n → ∀ d, dstOf l.toArray i = some d → d < a0.tmps.size := fun i hi d hd => by
  have := List.all_eq_true.1 hN i (List.mem_range.2 hi)
  rw [hd] at this
  simpa using this
 have hsz : l.toArray.size = l.length := by simp
 have hls : ∀ j, j < n → L.getD j false = true → j < m := fun j hj h => by
  rcases Nat.lt_or_ge j m with h1 | h1
  ·exact h1
  ·have := getD_both (hl2 j h1 (by rw [hs.size]; have := hs.le; omega))
   rw [h] at this
   cases this
 refine wpAny_fromS (P := P) (W := W) (R := fun i => (E i).R) (ob := fun i => (E i).ob) (B := W.heap.size) (ini := fun _ => none) (a0 := a0) hs (by decide) m hN' (fun i hmi hi o ho => hgd i hmi hi o (by simpa using ho))
  (fun i vs vs' v w hi hj h => (E i).dep vs vs' v w (fun j hj' => hj j (by
   have := List.all_eq_true.1 (List.all_eq_true.1 hdl i (List.mem_range.2 hi)) j hj'
   simpa using this)) h)
  (fun i vs v w w' _ hR hb hb' _ _ hx => (E i).loc vs v w w' hR hb (hx fun _ => rfl))
  (fun i hmi hi o ho vs w _ hg => (hstep i hmi hi o (by simpa using ho) vs w hg.2.1 fun j hj => (hg.2.2.1 j hj).1).mono fun v w' h => ⟨h.1, h.2.1.os, h.2.1.tape, h.2.1.output, h.2.1.size, fun k hk _ => h.2.1.block k hk, fun k hk => ⟨(h.2.2 k hk).2, Nat.le_trans hg.2.1.size (h.2.2 k hk).1, .inl (h.2.2 k hk).1⟩⟩)
  (fun f L a w vs inv hr hcnt => ?_) f L a0 W (fun j => match dstOf l.toArray j with | some d => a0.tmps.getD d undef | none => undef)
  ⟨rfl, rfl, fun i hi h d hd hd' => ?_, fun _ _ => rfl, ⟨rfl, rfl, rfl, Nat.le_refl _, fun _ _ => rfl⟩, (fun i hi h _ => ⟨(h0 i (hls i hi h)).1, fun k hk => by rw [(h0 i (hls i hi h)).2] at hk; cases hk⟩), (fun i hi h _ i' hi' h' _ _ k hk => by rw [(h0 i (hls i hi h)).2] at hk; cases hk), (by rw [hL, hs.size]), fun j hj hj' => hl2 j (by omega) (by rw [hs.size]; exact hj'), Nat.le_refl _, (fun _ _ h => by cases h), (fun _ _ _ h => by cases h), (fun _ _ _ _ => rfl), (fun i _ k hk => by cases hk), fun k hk hkl i hw => ?_, (fun _ _ _ => rfl), (fun i hi h _ k hk => by rw [(h0 i (hls i hi h)).2] at hk; cases hk)⟩ hl1 (by rw [← hsz]; exact hf)
 ·have hall : ∀ j, j < n → L.getD j false = true := fun j hj => sinks_listed hr inv.closed _ j (hs.last (by decide) j hj rfl)
  have hae : a = frm l.toArray a0 vs (List.range n) := by
   have h1 : a.tmps = (frm l.toArray a0 vs (List.range n)).tmps := by
    refine Array.ext_getElem? fun d => ?_
    by_cases h : ∃ j, j < n ∧ dstOf l.toArray j = some d
    ·obtain ⟨j, hj, hjd⟩ := h
     rw [frm_slot hs vs (List.range n) (fun k hk => List.mem_range.1 hk) j (List.mem_range.2 hj) d hjd (hN' j hj d hjd), inv.slot j hj (hall j hj) d hjd (hN' j hj d hjd)]
    ·rw [frm_rest vs (List.range n) d fun j hj hjd => h ⟨j, List.mem_range.1 hj, hjd⟩, inv.rest d fun j hj _ hjd => h ⟨j, hj, hjd⟩]
   have h2 : a.defers = (frm l.toArray a0 vs (List.range n)).defers := by rw [frm_defers, inv.defers]
   cases a
   cases hq : frm l.toArray a0 vs (List.range n)
   rw [hq] at h1 h2
   simp only at h1 h2
   rw [h1, h2]
  have hfin := hend vs w inv.below (fun j hj => inv.holds j hj (hall j hj) fun m _ _ h => by cases h) fun j hj j' hj' hne => inv.apart j hj (hall j hj) (fun m _ _ h => by cases h) j' hj' (hall j' hj') (fun m _ _ h => by cases h) hne
  rw [← hae] at hfin
  have hlt := ready_lt hr
  rw [inv.lsize] at hlt
  have hc2 : ((List.range l.length).filter fun i => !L.getD i true).length = f + 1 := by
   have hmem : n ∈ (List.range l.length).filter fun j => !L.getD j true := List.mem_filter.2 ⟨List.mem_range.2 hlt, by rw [(mem_ready.1 hr).1]; rfl⟩
   obtain ⟨c, hc⟩ : ∃ c, ((List.range l.length).filter fun i => !L.getD i true).length = c + 1 := by
    cases hl : (List.range l.length).filter fun i => !L.getD i true with
    | nil => rw [hl] at hmem; cases hmem
    | cons x y => exact ⟨y.length, rfl⟩
   have := count_step (ops := l.toArray) inv.lsize hr hc
   rw [hcnt] at this
   rw [hc, this]
  have hNn : l.length - n = f + 1 := by
   have hsplit : List.range l.length = List.range n ++ (List.range (l.length - n)).map (n + ·) := by
    rw [← List.range_add]; congr 1; omega
   rw [hsplit, List.filter_append, List.length_append] at hc2
   have e1 : ((List.range n).filter fun j => !L.getD j true) = [] := by
    refine List.filter_eq_nil_iff.2 fun j hj => ?_
    have hj' := List.mem_range.1 hj
    rw [getD_both' (by rw [inv.lsize]; omega) (hall j hj')]
    simp
   have e2 : (((List.range (l.length - n)).map (n + ·)).filter fun j => !L.getD j true) = (List.range (l.length - n)).map (n + ·) := by
    refine List.filter_eq_self.2 fun j hj => ?_
    obtain ⟨j', hj', rfl⟩ := List.mem_map.1 hj
    have := List.mem_range.1 hj'
    rw [inv.nlast _ (by omega) (by omega)]
    rfl
   rw [e1, e2] at hc2
   simpa using hc2
  have := wpAny_tail (P := P) (Q := Q) hs (f + 1) n L a w hNn (Nat.le_refl _) (hs.le) inv.lsize hall (fun j hj hj' => inv.nlast j hj hj') (by simpa using hfin)
  exact this.2 n hr
 ·have : (a0.tmps)[d]? = some (a0.tmps.getD d undef) := by simp [hd']
  rw [this]
  simp only [hd]
 ·have hkm := hls k hk hkl
  have hwk := hw
  unfold waits at hwk
  cases hok : l.toArray[k]? with
  | none => rw [hok] at hwk; cases hwk
  | some o =>
   rw [hok] at hwk
   obtain ⟨e, he, hb⟩ := Array.any_eq_true'.1 hwk
   simp only [Bool.and_eq_true, beq_iff_eq] at hb
   have := hs.back k (by have := hs.le; omega) o hok e he hb.1
   exact hl1 i (by omega)
end
end Go.Proofs.YtjpaogapclfajaaGreat
