/- Parts of the proof: SepC, MonoP. -/
import Derived.Test.YtjpaogapclfajaaGreatBcA
import Derived.Test.YtjpaogapclfajaaGreatBc11
import Derived.Test.YtjpaogapclfajaaGreatBc15
set_option linter.unusedVariables false
set_option linter.unusedSimpArgs false
set_option linter.unusedSectionVars false
namespace Go.Proofs.YtjpaogapclfajaaGreat
open Go.RowKit
/-- the normal end goes on by K -/
def normalTo (K : Act → World → Prop) (Q : Exit → Act → World → Prop) : Exit → Act → World → Prop
 | .normal, a, w => K a w
 | e, a, w => Q e a w
theorem normalTo_normal {K : Act → World → Prop} {Q : Exit → Act → World → Prop} {a : Act} {w : World} : normalTo K Q .normal a w = K a w := rfl
section
variable {P : Program} {ops : Array Oper} {N n : Nat} {ds eats : Nat → List Nat} {fl : Nat → Bool} {md : Nat} {W : World} {B : Nat} {ini : Nat → Option Nat} {a0 : Act} {Q : Exit → Act → World → Prop} {ob : Nat → Value → Option Nat} {R : Nat → (Nat → Value) → Value → World → Prop}
/-- **A region that draws its order, all of whose operations only add memory.** -/
theorem wp_region_all {id : Nat} {a0 : Act} {W : World} {l : List Oper} {Q : Exit → Act → World → Prop} (n : Nat) (ds : Nat → List Nat) (E : Nat → Ent W) (hm : P.follows .mixedOrders = true) (hBB : sepG true l.toArray l.length n ds (fun _ => []) (fun _ => true) 2 = true) (hn : l.length = n) (hb : bareB l n = true)
  (hdl : (List.range n).all (fun i => (E i).dl.all ((ds i).contains ·)) = true)
  (hN : (List.range n).all (fun i => match dstOf l.toArray i with | some d => decide (d < a0.tmps.size) | none => true) = true)
  (hstep : ∀ i, i < n → ∀ o, l[i]? = some o → ∀ vs w, Below W.heap.size W w → (∀ j ∈ ds i, (E j).R vs (vs j) w) → Made P (Adds (E i) vs w) ((execOp (frm l.toArray a0 vs (ds i)).eval o).run P w))
  (hend : ∀ vs w, Below W.heap.size W w → (∀ i, i < n → (E i).R vs (vs i) w ∧ ∀ k, (E i).ob (vs i) = some k → W.heap.size ≤ k ∧ k < w.heap.size) → (∀ i, i < n → ∀ i', i' < n → i ≠ i' → ∀ k, (E i).ob (vs i) = some k → (E i').ob (vs i') ≠ some k) → wpList P l.toArray Q [] (frm l.toArray a0 vs (List.range n)) w) :
  (Code.region id l.toArray true).wp P Q a0 W := by
 have hs := SepB.ofG hBB
 have hN' : ∀ i, i < n → ∀ d, dstOf l.toArray i = some d → d < a0.tmps.size := fun i hi d hd => by
  have := List.all_eq_true.1 hN i (List.mem_range.2 hi)
  rw [hd] at this
  simpa using this
 have key : ∀ (f : Nat) (L : Array Bool) (a : Act) (w : World) (vs : Nat → Value), SInv l.toArray l.length n (fun _ => []) (fun i => (E i).R) (fun i => (E i).ob) W W.heap.size (fun _ => none) a0 vs L a w → ((List.range l.length).filter fun i => !L.getD i true).length = f → wpAny P .any l.toArray Q f L a w := by
  intro f
  induction f with
  | zero =>
   intro L a w vs inv hf
   have hall : ∀ j, j < n → L.getD j false = true := fun j hj => by
    cases h1 : L.getD j false with
    | true => rfl
    | false =>
     have h2 : L.getD j true = false := getD_in (by rw [inv.lsize]; omega) h1
     have : j ∈ (List.range l.length).filter fun i => !L.getD i true := List.mem_filter.2 ⟨List.mem_range.2 (by omega), by rw [h2]; rfl⟩
     rw [List.length_eq_zero_iff.1 hf] at this
     cases this
   have hae : a = frm l.toArray a0 vs (List.range n) := by
    have h1 : a.tmps = (frm l.toArray a0 vs (List.range n)).tmps := by
     refine Array.ext_getElem? fun d => ?_
     by_cases h : ∃ j, j < n ∧ dstOf l.toArray j = some d
     ·obtain ⟨j, hj, hjd⟩ := h
      rw [frm_slot hs vs (List.range n) (fun k hk => List.mem_range.1 hk) j (List.mem_range.2 hj) d hjd (hN' j hj d hjd), inv.slot j hj (hall j hj) d hjd (hN' j hj d hjd)]
     ·rw [frm_rest vs (List.range n) d fun j hj hjd => h ⟨j, List.mem_range.1 hj, hjd⟩, inv.rest d fun j hj _ hjd => h ⟨j, hj, hjd⟩]
    have h2 : a.defers = (frm l.toArray a0 vs (List.range n)).defers := by rw [frm_defers, inv.defers]
    cases a
    cases hq : frm l.toArray a0 vs (List.range n)
    rw [hq] at h1 h2
    simp only at h1 h2
    rw [h1, h2]
   refine ⟨List.eq_nil_iff_forall_not_mem.2 fun j hj => ?_, ?_⟩
   ·have h0 := (mem_ready.1 hj).1
    have hlt := ready_lt hj
    rw [getD_both' hlt (hall j (by rw [inv.lsize] at hlt; omega))] at h0
    cases h0
   ·rw [hae]
    exact hend vs w inv.below (fun j hj => inv.holds j hj (hall j hj) fun m _ _ h => by cases h) fun j hj j' hj' hne => inv.apart j hj (hall j hj) (fun m _ _ h => by cases h) j' hj' (hall j' hj') (fun m _ _ h => by cases h) hne
  | succ f ih =>
   intro L a w vs inv hf
   refine ⟨fun h0 => ?_, fun i hr => ?_⟩
   ·exfalso
    obtain ⟨j, hj⟩ : ∃ j, j ∈ (List.range l.length).filter fun i => !L.getD i true := by
     cases hl : (List.range l.length).filter fun i => !L.getD i true with
     | nil => rw [hl] at hf; cases hf
     | cons j l => exact ⟨j, List.mem_cons_self ..⟩
    obtain ⟨h1, h2⟩ := List.mem_filter.1 hj
    obtain ⟨i, _, h4, _⟩ := least_ready hs inv.lsize (List.mem_range.1 h1) (getD_both (by simpa using h2))
    rw [h0] at h4
    cases h4
   ·have hcnt := count_step inv.lsize hr hf
    have hlt := ready_lt hr
    rw [inv.lsize] at hlt
    have hin : i < n := by omega
    obtain ⟨hun, o, ho, hall⟩ := mem_ready.1 hr
    have hol : l[i]? = some o := by simpa using ho
    have hg : o.guard = none := by
     have := List.all_eq_true.1 hb i (List.mem_range.2 hin)
     rw [hol] at this
     simpa using this
    unfold wpOp
    rw [ho]
    simp only []
    rw [if_pos (by simp [Region.wanted, hg])]
    refine .inl ?_
    have hdo : dstOf l.toArray i = o.dst := by unfold dstOf; rw [ho]; rfl
    have hsel := Region.noSelect_spec hs.sel
    have hex : execOp a.eval o = execOp (frm l.toArray a0 vs (ds i)).eval o := execOp_congr o (fun cs b => hsel i o cs b ho) (put_operand fun d hd => by
     have hdl : ∀ j ∈ ds i, L.getD j false = true := fun j hj => waits_listed hr (hs.dep i hin j hj)
     have hdlt : ∀ j ∈ ds i, j < n := fun j hj => by
      have hw := hs.dep i hin j hj
      unfold waits at hw
      rw [ho] at hw
      obtain ⟨e, he, hb⟩ := Array.any_eq_true'.1 hw
      simp only [Bool.and_eq_true, beq_iff_eq] at hb
      have := hs.back i (by have := hs.le; omega) o ho e he hb.1
      omega
     by_cases h : ∃ j, j < n ∧ dstOf l.toArray j = some d
     ·obtain ⟨j, hj, hjd⟩ := h
      have hm := hs.opnd i hin o ho d hd j hj hjd
      rw [frm_slot hs vs (ds i) hdlt j hm d hjd (hN' j hj d hjd), inv.slot j hj (hdl j hm) d hjd (hN' j hj d hjd)]
     ·rw [frm_rest vs (ds i) d fun j hj hjd => h ⟨j, hdlt j hj, hjd⟩, inv.rest d fun j hj _ hjd => h ⟨j, hj, hjd⟩])
    have hg2 := inv.given hs hin hr
    refine wp_of_made (T := LaysB (fun j => (E j).R vs) (fun j => (E j).ob) W.heap.size (fun _ => none) vs [] i w) (by
     rw [hex]
     exact (hstep i hin o hol vs w hg2.2.1 fun j hj => (hg2.2.2.1 j hj).1).mono fun v w' h => ⟨h.1, h.2.1.os, h.2.1.tape, h.2.1.output, h.2.1.size, fun k hk _ => h.2.1.block k hk, fun k hk => ⟨(h.2.2 k hk).2, Nat.le_trans hg2.2.1.size (h.2.2 k hk).1, .inl (h.2.2 k hk).1⟩⟩) fun v w' hl => ?_
    have inv' := inv.step hs (fun i vs vs' v w hi hj h => (E i).dep vs vs' v w (fun j hj' => hj j (by
     have := List.all_eq_true.1 (List.all_eq_true.1 hdl i (List.mem_range.2 hi)) j hj'
     simpa using this)) h) (fun i vs v w w' _ hR hb hb' _ _ hx => (E i).loc vs v w w' hR hb (hx fun _ => rfl)) hin hr hl
    rw [hdo] at inv'
    exact ih _ _ _ _ inv' hcnt
 refine wp_region_any hm ?_
 refine key _ _ _ _ (fun _ => undef) ⟨rfl, rfl, fun i _ h => ?_, fun _ _ => rfl, ⟨rfl, rfl, rfl, Nat.le_refl _, fun _ _ => rfl⟩, fun i _ h => ?_, fun i _ h => ?_, by simp, fun j hj hj' => by simp [hj'], Nat.le_refl _, (fun _ _ h => by cases h), (fun _ _ _ h => by cases h), (fun _ _ _ _ => rfl), fun i _ k _ j _ h => ?_, fun k _ h => ?_, fun _ _ _ => rfl, fun i _ h => ?_⟩ ?_
 ·rw [getD_replicate_false] at h; cases h
 ·rw [getD_replicate_false] at h; cases h
 ·rw [getD_replicate_false] at h; cases h
 ·rw [getD_replicate_false] at h; cases h
 ·rw [getD_replicate_false] at h; cases h
 ·rw [getD_replicate_false] at h; cases h
 ·have : ((List.range l.length).filter fun i => !(Array.replicate l.toArray.size false).getD i true) = List.range l.length := by
   refine List.filter_eq_self.2 fun i hi => ?_
   have := List.mem_range.1 hi
   simp [this]
  rw [this]
  simp
end
end Go.Proofs.YtjpaogapclfajaaGreat
namespace Go.Proofs.YtjpaogapclfajaaGreat
open Go.RowKit
/-- what can be read off the region's text -/
def sepI (ops : Array Oper) (N : Nat) (ds : Nat → List Nat) : Bool :=
 decide (ops.size = N) && Region.noSelect ops &&
 (List.range N).all (fun i => ((ops[i]?).map (fun o => o.guard.isNone)).getD true && (ds i).all (waits ops i) &&
  (List.range N).all (fun j => ((dstOf ops i).isNone || dstOf ops i != dstOf ops j || i == j) &&
   ((ops[i]?).map fun o => o.op.operands.all fun x => match x with | .tmp t => dstOf ops j != some t || (ds i).contains j | _ => true).getD true) &&
  ((ops[i]?).map fun o => o.after.all fun e => !Region.binds .any e || decide (e.on < i)).getD true)
structure SepI (ops : Array Oper) (N : Nat) (ds : Nat → List Nat) : Prop where
 size : ops.size = N
 sel : Region.noSelect ops = true
 bare : ∀ i, i < N → ∀ o, ops[i]? = some o → o.guard = none
 back : ∀ i, i < N → ∀ o, ops[i]? = some o → ∀ e ∈ o.after, Region.binds .any e = true → e.on < i
 dep : ∀ i, i < N → ∀ j ∈ ds i, waits ops i j = true
 opnd : ∀ i, i < N → ∀ o, ops[i]? = some o → ∀ t, .tmp t ∈ o.op.operands → ∀ j, j < N → dstOf ops j = some t → j ∈ ds i
 dist : ∀ i, i < N → ∀ j, j < N → ∀ d, dstOf ops i = some d → dstOf ops j = some d → i = j
theorem SepI.of {ops : Array Oper} {N : Nat} {ds : Nat → List Nat} (h : sepI ops N ds = true) : SepI ops N ds := by
 unfold sepI at h
 rw [Bool.and_eq_true, Bool.and_eq_true] at h
 obtain ⟨⟨h1, h2⟩, h3⟩ := h
 have h1 := of_decide_eq_true h1
 have key : ∀ i, i < N → ((((ops[i]?).map (fun o => o.guard.isNone)).getD true = true ∧ (ds i).all (waits ops i) = true) ∧ (List.range N).all (fun j => ((dstOf ops i).isNone || dstOf ops i != dstOf ops j || i == j) && ((ops[i]?).map fun o => o.op.operands.all fun x => match x with | .tmp t => dstOf ops j != some t || (ds i).contains j | _ => true).getD true) = true) ∧ ((ops[i]?).map fun o => o.after.all fun e => !Region.binds .any e || decide (e.on < i)).getD true = true := fun i hi => by
  have := List.all_eq_true.1 h3 i (List.mem_range.2 hi)
  rw [Bool.and_eq_true, Bool.and_eq_true, Bool.and_eq_true] at this
  exact this
 refine ⟨h1, h2, fun i hi o ho => ?_, fun i hi o ho e he hb => ?_, fun i hi j hj => ?_, fun i hi o ho t ht j hj hd => ?_, fun i hi j hj d hdi hdj => ?_⟩
 ·have := (key i hi).1.1.1
  rw [ho] at this
  simpa using this
 ·have := (key i hi).2
  rw [ho] at this
  simp only [Option.map_some, Option.getD_some] at this
  have h5 := Array.all_eq_true'.1 this e he
  rw [hb] at h5
  simpa using h5
 ·exact List.all_eq_true.1 (key i hi).1.1.2 j hj
 ·have h4 := List.all_eq_true.1 (key i hi).1.2 j (List.mem_range.2 hj)
  rw [Bool.and_eq_true] at h4
  have h5 := h4.2
  rw [ho] at h5
  simp only [Option.map_some, Option.getD_some] at h5
  have h6 := Array.all_eq_true'.1 h5 _ ht
  simp only [hd] at h6
  simpa using h6
 ·have h4 := List.all_eq_true.1 (key i hi).1.2 j (List.mem_range.2 hj)
  rw [Bool.and_eq_true] at h4
  have h5 := h4.1
  rw [hdi, hdj] at h5
  simpa using h5
structure FInv (ops : Array Oper) (N : Nat) (I : Array Bool → (Nat → Value) → World → Prop) (a0 : Act) (vs : Nat → Value) (L : Array Bool) (a : Act) (w : World) : Prop where
 defers : a.defers = a0.defers
 size : a.tmps.size = a0.tmps.size
 slot : ∀ i, i < N → L.getD i false = true → ∀ d, dstOf ops i = some d → d < a0.tmps.size → a.tmps[d]? = some (vs i)
 rest : ∀ d, (∀ i, i < N → L.getD i false = true → dstOf ops i ≠ some d) → a.tmps[d]? = a0.tmps[d]?
 lsize : L.size = N
 inv : I L vs w
section
variable {P : Program} {ops : Array Oper} {N : Nat} {ds : Nat → List Nat} {a0 : Act}
theorem frmI_defers (vs : Nat → Value) : ∀ l, (frm ops a0 vs l).defers = a0.defers
 | [] => rfl
 | i :: l => by unfold frm; rw [put_defers, frmI_defers vs l]
theorem frmI_size (vs : Nat → Value) : ∀ l, (frm ops a0 vs l).tmps.size = a0.tmps.size
 | [] => rfl
 | i :: l => by unfold frm; rw [put_size, frmI_size vs l]
theorem frmI_slot (hs : SepI ops N ds) (vs : Nat → Value) : ∀ l, (∀ i ∈ l, i < N) → ∀ i ∈ l, ∀ d, dstOf ops i = some d → d < a0.tmps.size → (frm ops a0 vs l).tmps[d]? = some (vs i)
 | [], _, i, h, _, _, _ => by cases h
 | k :: l, hl, i, h, d, hd, hlt => by
  unfold frm
  by_cases hk : dstOf ops k = some d
  ·have e : k = i := hs.dist k (hl k (List.mem_cons_self ..)) i (hl i h) d hk hd
   subst e
   rw [hk, put_tmps, if_pos rfl, if_pos (by rw [frmI_size]; exact hlt)]
  ·have hne : i ≠ k := fun e => hk (e ▸ hd)
   have hi : i ∈ l := (List.mem_cons.1 h).resolve_left hne
   have ih := frmI_slot hs vs l (fun j hj => hl j (List.mem_cons_of_mem _ hj)) i hi d hd hlt
   cases hkd : dstOf ops k with
   | none => exact ih
   | some e =>
    rw [put_tmps, if_neg (fun h => hk (by rw [hkd, h]))]
    exact ih
theorem frmI_rest (vs : Nat → Value) : ∀ l d, (∀ i ∈ l, dstOf ops i ≠ some d) → (frm ops a0 vs l).tmps[d]? = a0.tmps[d]?
 | [], _, _ => rfl
 | k :: l, d, h => by
  unfold frm
  have ih := frmI_rest vs l d fun i hi => h i (List.mem_cons_of_mem _ hi)
  cases hkd : dstOf ops k with
  | none => exact ih
  | some e =>
   rw [put_tmps, if_neg (fun h2 => h k (List.mem_cons_self ..) (by rw [hkd, h2]))]
   exact ih
end
/-- **A region that draws its order, by an invariant over what is done.** -/
theorem wp_region_inv {P : Program} {id : Nat} {a0 : Act} {W : World} {l : List Oper} {Q : Exit → Act → World → Prop} (N : Nat) (ds : Nat → List Nat) (I : Array Bool → (Nat → Value) → World → Prop) (hm : P.follows .mixedOrders = true) (hBB : sepI l.toArray N ds = true)
  (hN : (List.range N).all (fun i => match dstOf l.toArray i with | some d => decide (d < a0.tmps.size) | none => true) = true)
  (h0 : ∀ vs, I (Array.replicate N false) vs W.drew)
  (hstep : ∀ i, i < N → ∀ o, l[i]? = some o → ∀ (L : Array Bool) vs w, L.size = N → L.getD i true = false → (∀ j, waits l.toArray i j = true → L.getD j false = true) → I L vs w →
   Made P (fun v w' => I (L.setIfInBounds i true) (fun j => if j = i then v else vs j) w') ((execOp (frm l.toArray a0 vs (ds i)).eval o).run P w))
  (hend : ∀ (L : Array Bool) vs w, L.size = N → (∀ j, j < N → L.getD j false = true) → I L vs w → wpList P l.toArray Q [] (frm l.toArray a0 vs (List.range N)) w) :
  (Code.region id l.toArray true).wp P Q a0 W := by
 have hs := SepI.of hBB
 have hN' : ∀ i, i < N → ∀ d, dstOf l.toArray i = some d → d < a0.tmps.size := fun i hi d hd => by
  have := List.all_eq_true.1 hN i (List.mem_range.2 hi)
  rw [hd] at this
  simpa using this
 have key : ∀ (f : Nat) (L : Array Bool) (a : Act) (w : World) (vs : Nat → Value), FInv l.toArray N I a0 vs L a w → ((List.range N).filter fun i => !L.getD i true).length = f → wpAny P .any l.toArray Q f L a w := by
  intro f
  induction f with
  | zero =>
   intro L a w vs inv hf
   have hall : ∀ j, j < N → L.getD j false = true := fun j hj => by
    cases h1 : L.getD j false with
    | true => rfl
    | false =>
     have h2 : L.getD j true = false := getD_in (by rw [inv.lsize]; omega) h1
     have : j ∈ (List.range N).filter fun i => !L.getD i true := List.mem_filter.2 ⟨List.mem_range.2 (by omega), by rw [h2]; rfl⟩
     rw [List.length_eq_zero_iff.1 hf] at this
     cases this
   have hae : a = frm l.toArray a0 vs (List.range N) := by
    have h1 : a.tmps = (frm l.toArray a0 vs (List.range N)).tmps := by
     refine Array.ext_getElem? fun d => ?_
     by_cases h : ∃ j, j < N ∧ dstOf l.toArray j = some d
     ·obtain ⟨j, hj, hjd⟩ := h
      rw [frmI_slot hs vs (List.range N) (fun k hk => List.mem_range.1 hk) j (List.mem_range.2 hj) d hjd (hN' j hj d hjd), inv.slot j hj (hall j hj) d hjd (hN' j hj d hjd)]
     ·rw [frmI_rest vs (List.range N) d fun j hj hjd => h ⟨j, List.mem_range.1 hj, hjd⟩, inv.rest d fun j hj _ hjd => h ⟨j, hj, hjd⟩]
    have h2 : a.defers = (frm l.toArray a0 vs (List.range N)).defers := by rw [frmI_defers, inv.defers]
    cases a
    cases hq : frm l.toArray a0 vs (List.range N)
    rw [hq] at h1 h2
    simp only at h1 h2
    rw [h1, h2]
   refine ⟨List.eq_nil_iff_forall_not_mem.2 fun j hj => ?_, ?_⟩
   ·have h0 := (mem_ready.1 hj).1
    have hlt := ready_lt hj
    rw [getD_both' hlt (hall j (by rw [inv.lsize] at hlt; omega))] at h0
    cases h0
   ·rw [hae]
    exact hend L vs w inv.lsize hall inv.inv
  | succ f ih =>
   intro L a w vs inv hf
   refine ⟨fun h0 => ?_, fun i hr => ?_⟩
   ·exfalso
    obtain ⟨j, hj⟩ : ∃ j, j ∈ (List.range N).filter fun i => !L.getD i true := by
     cases hl : (List.range N).filter fun i => !L.getD i true with
     | nil => rw [hl] at hf; cases hf
     | cons j l => exact ⟨j, List.mem_cons_self ..⟩
    obtain ⟨h1, h2⟩ := List.mem_filter.1 hj
    have hex : ∀ m, ∀ j, j < m → j < N → L.getD j true = false → ∃ i, i ∈ Region.ready .any l.toArray L := by
     intro m
     induction m with
     | zero => intro j hj; omega
     | succ m ih2 =>
      intro j hj hjN hu
      by_cases hrd : j ∈ Region.ready .any l.toArray L
      ·exact ⟨j, hrd⟩
      ·have hoj : ∃ o, l.toArray[j]? = some o := ⟨l.toArray[j]'(by rw [hs.size]; exact hjN), Array.getElem?_eq_getElem _⟩
       obtain ⟨o, ho⟩ := hoj
       have : ¬ ∀ e ∈ o.after, Region.binds .any e = true → L.getD e.on false = true := fun hall => hrd (mem_ready.2 ⟨hu, o, ho, hall⟩)
       obtain ⟨e, hne⟩ := Classical.not_forall.1 this
       obtain ⟨he, hne⟩ := Classical.not_forall.1 hne
       obtain ⟨hb, hne⟩ := Classical.not_forall.1 hne
       have hlt := hs.back j hjN o ho e he hb
       exact ih2 e.on (by omega) (by omega) (getD_in (by rw [inv.lsize]; omega) (by simpa using hne))
    obtain ⟨i, hi⟩ := hex (j + 1) j (by omega) (List.mem_range.1 h1) (by simpa using h2)
    rw [h0] at hi
    cases hi
   ·have hcnt := count_step inv.lsize hr hf
    have hlt := ready_lt hr
    rw [inv.lsize] at hlt
    obtain ⟨hun, o, ho, hall⟩ := mem_ready.1 hr
    have hol : l[i]? = some o := by simpa using ho
    have hg : o.guard = none := hs.bare i hlt o ho
    unfold wpOp
    rw [ho]
    simp only []
    rw [if_pos (by simp [Region.wanted, hg])]
    refine .inl ?_
    have hdo : dstOf l.toArray i = o.dst := by unfold dstOf; rw [ho]; rfl
    have hsel := Region.noSelect_spec hs.sel
    have hwt : ∀ j, waits l.toArray i j = true → L.getD j false = true := fun j hj => waits_listed hr hj
    have hdlt : ∀ j ∈ ds i, j < N := fun j hj => by
     have hw := hs.dep i hlt j hj
     unfold waits at hw
     rw [ho] at hw
     obtain ⟨e, he, hb⟩ := Array.any_eq_true'.1 hw
     simp only [Bool.and_eq_true, beq_iff_eq] at hb
     have := hs.back i hlt o ho e he hb.1
     omega
    have hdl : ∀ j ∈ ds i, L.getD j false = true := fun j hj => hwt j (hs.dep i hlt j hj)
    have hex : execOp a.eval o = execOp (frm l.toArray a0 vs (ds i)).eval o := execOp_congr o (fun cs b => hsel i o cs b ho) (put_operand fun d hd => by
     by_cases h : ∃ j, j < N ∧ dstOf l.toArray j = some d
     ·obtain ⟨j, hj, hjd⟩ := h
      have hm := hs.opnd i hlt o ho d hd j hj hjd
      rw [frmI_slot hs vs (ds i) hdlt j hm d hjd (hN' j hj d hjd), inv.slot j hj (hdl j hm) d hjd (hN' j hj d hjd)]
     ·rw [frmI_rest vs (ds i) d fun j hj hjd => h ⟨j, hdlt j hj, hjd⟩, inv.rest d fun j hj _ hjd => h ⟨j, hj, hjd⟩])
    refine wp_of_made (T := fun v w' => I (L.setIfInBounds i true) (fun j => if j = i then v else vs j) w') (by
     rw [hex]
     exact hstep i hlt o hol L vs w inv.lsize hun hwt inv.inv) fun v w' hl => ?_
    have hget : ∀ j, (L.setIfInBounds i true).getD j false = true → j = i ∨ L.getD j false = true := fun j hj => by
     by_cases h : i = j
     ·exact .inl h.symm
     ·rw [getD_set_ne false h] at hj; exact .inr hj
    refine ih _ _ _ (fun j => if j = i then v else vs j) ⟨by rw [put_defers, inv.defers], by rw [put_size, inv.size], fun j hj hjl d hd hdl2 => ?_, fun d hd => ?_, by simp [inv.lsize], hl⟩ hcnt
    ·by_cases hji : j = i
     ·subst hji
      rw [← hdo, hd, put_tmps, if_pos rfl, if_pos (by rw [inv.size]; exact hdl2), if_pos rfl]
     ·have hjl' := (hget j hjl).resolve_left hji
      have h1 := inv.slot j hj hjl' d hd hdl2
      rw [if_neg hji]
      cases hod : o.dst with
      | none => exact h1
      | some e =>
       rw [put_tmps, if_neg (fun h2 => hji (hs.dist j hj i hlt d hd (by rw [hdo, hod, h2])))]
       exact h1
    ·have h1 := inv.rest d fun j hj hjl => hd j hj (by
      by_cases h : i = j
      ·subst h; simp [inv.lsize, hlt]
      ·rw [getD_set_ne false h]; exact hjl)
     cases hod : o.dst with
     | none => exact h1
     | some e =>
      rw [put_tmps, if_neg (fun h2 => hd i hlt (by simp [inv.lsize, hlt]) (by rw [hdo, hod, h2]))]
      exact h1
 refine wp_region_any hm ?_
 refine key _ _ _ _ (fun _ => undef) ⟨rfl, rfl, fun i _ h => ?_, fun _ _ => rfl, by simp [hs.size], ?_⟩ ?_
 ·rw [getD_replicate_false] at h; cases h
 ·have := h0 (fun _ => undef)
  rw [← hs.size] at this
  exact this
 ·have hz := hs.size
  have : ((List.range N).filter fun i => !(Array.replicate l.toArray.size false).getD i true) = List.range N := by
   refine List.filter_eq_self.2 fun i hi => ?_
   have := List.mem_range.1 hi
   have h5 : i < l.length := by rw [← hz] at this; simpa using this
   simp [h5]
  rw [this]
  simp [← hz]
end Go.Proofs.YtjpaogapclfajaaGreat
namespace Go.Proofs.YtjpaogapclfajaaGreat
open Go.RowKit
/-- the values of what is done, where they are known ahead -/
def Vals (VL : List (Option Value)) (L : Array Bool) (vs : Nat → Value) : Prop := ∀ i v, VL[i]? = some (some v) → L.getD i false = true → vs i = v
theorem Vals.put {VL : List (Option Value)} {L : Array Bool} {vs : Nat → Value} {i : Nat} {v : Value} (h : Vals VL L vs) (hv : ∀ x, VL[i]? = some (some x) → v = x) : Vals VL (L.setIfInBounds i true) (fun j => if j = i then v else vs j) := fun k x hk hl => by
 by_cases hki : k = i
 ·subst hki
  show (if k = k then v else vs k) = x
  rw [if_pos rfl]
  exact hv x hk
 ·show (if k = i then v else vs k) = x
  rw [if_neg hki]
  rw [getD_set_ne false (fun e => hki e.symm)] at hl
  exact h k x hk hl
/-- one of two, by whether an operation is done -/
def stg {α : Type} (L : Array Bool) (i : Nat) (x y : α) : α := if L.getD i false = true then y else x
theorem stg_set {α : Type} {L : Array Bool} {i k : Nat} (x y : α) (h : i ≠ k) : stg (L.setIfInBounds i true) k x y = stg L k x y := by
 unfold stg
 rw [getD_set_ne false h]
theorem stg_new {α : Type} {L : Array Bool} {i : Nat} (x y : α) (h : i < L.size) : stg (L.setIfInBounds i true) i x y = y := by
 unfold stg
 rw [if_pos (by simp [h])]
theorem stg_old {α : Type} {L : Array Bool} {i : Nat} (x y : α) (h : L.getD i true = false) : stg L i x y = x := by
 unfold stg
 rw [if_neg]
 intro h2
 cases h3 : L[i]? <;> simp_all [Array.getD_eq_getD_getElem?]
theorem stg_done {α : Type} {L : Array Bool} {i : Nat} (x y : α) (h : L.getD i false = true) : stg L i x y = y := by unfold stg; rw [if_pos h]
theorem made_skip {P : Program} {T : Value → World → Prop} {w' : World} (h : T undef w') : Made P T (.ok .skip w') := h
theorem made_call {P : Program} {T : Value → World → Prop} {f : FuncId} {args : Array Value} {w : World} (h : Calls P f args w fun e w' => ∃ v, e = .returned v ∧ T v w') : Made P T (.ok (.enter f args) w) := h
section
variable {L : Array Bool} {vs : Nat → Value} {w w' : World} {i k nx j p : Nat} {v : Value} {T : Value → World → Prop}
/-- a fact of an operation's value, once it is done -/
def Fk (k : Nat) (T : Value → World → Prop) (L : Array Bool) (vs : Nat → Value) (w : World) : Prop := L.getD k false = true → T (vs k) w
theorem Fk.start {N : Nat} : Fk k T (Array.replicate N false) vs w := fun h => by rw [getD_replicate_false] at h; cases h
theorem Fk.keep (h : Fk k T L vs w) (hk : k ≠ i) (hT : T (vs k) w → T (vs k) w') : Fk k T (L.setIfInBounds i true) (fun j => if j = i then v else vs j) w' := fun hl => by
 rw [getD_set_ne false (fun e => hk e.symm)] at hl
 show T (if k = i then v else vs k) w'
 rw [if_neg hk]
 exact hT (h hl)
theorem Fk.new (h : T v w') : Fk i T (L.setIfInBounds i true) (fun j => if j = i then v else vs j) w' := fun _ => by
 show T (if i = i then v else vs i) w'
 rw [if_pos rfl]
 exact h
/-- a fact of an operation's value, until another one takes it over -/
def Rk (k nx : Nat) (T : Value → World → Prop) (L : Array Bool) (vs : Nat → Value) (w : World) : Prop := L.getD k false = true → L.getD nx true = false → T (vs k) w
theorem Rk.start {N : Nat} : Rk k nx T (Array.replicate N false) vs w := fun h _ => by rw [getD_replicate_false] at h; cases h
theorem Rk.keep (h : Rk k nx T L vs w) (hk : k ≠ i) (hn : nx ≠ i) (hT : T (vs k) w → T (vs k) w') : Rk k nx T (L.setIfInBounds i true) (fun j => if j = i then v else vs j) w' := fun hl hl2 => by
 rw [getD_set_ne false (fun e => hk e.symm)] at hl
 rw [getD_set_ne true (fun e => hn e.symm)] at hl2
 show T (if k = i then v else vs k) w'
 rw [if_neg hk]
 exact hT (h hl hl2)
theorem Rk.eaten (hi : i < L.size) : Rk k i T (L.setIfInBounds i true) (fun j => if j = i then v else vs j) w' := fun _ hl2 => by
 rw [getD_set_self hi] at hl2
 cases hl2
theorem Rk.new (h : T v w') : Rk i nx T (L.setIfInBounds i true) (fun j => if j = i then v else vs j) w' := fun _ _ => by
 show T (if i = i then v else vs i) w'
 rw [if_pos rfl]
 exact h
/-- the same value -/
def Sk (k j : Nat) (L : Array Bool) (vs : Nat → Value) : Prop := L.getD k false = true → vs k = vs j
theorem Sk.start {N : Nat} : Sk k j (Array.replicate N false) vs := fun h => by rw [getD_replicate_false] at h; cases h
theorem Sk.keep (h : Sk k j L vs) (hk : k ≠ i) (hj : j ≠ i ∨ L.getD k false = false) : Sk k j (L.setIfInBounds i true) (fun j => if j = i then v else vs j) := fun hl => by
 rw [getD_set_ne false (fun e => hk e.symm)] at hl
 show (if k = i then v else vs k) = (if j = i then v else vs j)
 rw [if_neg hk]
 rcases hj with hj | hj
 ·rw [if_neg hj]; exact h hl
 ·rw [hj] at hl; cases hl
theorem Sk.new (hk : j ≠ i) (h : v = vs j) : Sk i j (L.setIfInBounds i true) (fun j => if j = i then v else vs j) := fun _ => by
 show (if i = i then v else vs i) = (if j = i then v else vs j)
 rw [if_pos rfl, if_neg hk]
 exact h
/-- a part of a value -/
def Xk (k j p : Nat) (L : Array Bool) (vs : Nat → Value) : Prop := L.getD k false = true → ∃ l : Array Value, vs j = .tuple l ∧ l[p]? = some (vs k)
theorem Xk.start {N : Nat} : Xk k j p (Array.replicate N false) vs := fun h => by rw [getD_replicate_false] at h; cases h
theorem Xk.keep (h : Xk k j p L vs) (hk : k ≠ i) (hj : j ≠ i ∨ L.getD k false = false) : Xk k j p (L.setIfInBounds i true) (fun j => if j = i then v else vs j) := fun hl => by
 rw [getD_set_ne false (fun e => hk e.symm)] at hl
 show ∃ l : Array Value, (if j = i then v else vs j) = .tuple l ∧ l[p]? = some (if k = i then v else vs k)
 rw [if_neg hk]
 rcases hj with hj | hj
 ·rw [if_neg hj]; exact h hl
 ·rw [hj] at hl; cases hl
theorem Xk.new {l : Array Value} (hk : j ≠ i) (h : vs j = .tuple l) (hp : l[p]? = some v) : Xk i j p (L.setIfInBounds i true) (fun j => if j = i then v else vs j) := fun _ => by
 show ∃ l : Array Value, (if j = i then v else vs j) = .tuple l ∧ l[p]? = some (if i = i then v else vs i)
 rw [if_pos rfl, if_neg hk]
 exact ⟨l, h, hp⟩
theorem Xk.eq {x : Value} {l : Array Value} (h : Xk k j p L vs) (hl : L.getD k false = true) (hm : vs j = .tuple l) (hp : l[p]? = some x) : vs k = x := by
 obtain ⟨l', h1, h2⟩ := h hl
 rw [hm] at h1
 injection h1 with h1
 rw [← h1, hp] at h2
 exact (Option.some.inj h2).symm
end
end Go.Proofs.YtjpaogapclfajaaGreat
namespace Go.Proofs.YtjpaogapclfajaaGreat
open Go.RowKit
/-- what is done is closed under what an operation waits for -/
def Clo (ops : Array Oper) (L : Array Bool) : Prop := ∀ k j, L.getD k false = true → waits ops k j = true → L.getD j false = true
theorem Clo.nd {ops : Array Oper} {L : Array Bool} (h : Clo ops L) {i k : Nat} (hi : L.getD i false = false) (hw : waits ops k i = true) : L.getD k false = false := by
 cases hk : L.getD k false with
 | false => rfl
 | true => rw [h k i hk hw] at hi; cases hi
/-- the facts of the operations' values; nx: the operation that takes a value over -/
structure RgI (W : World) (B N : Nat) (T : Nat → Value → World → Prop) (nx : Nat → Nat) (L : Array Bool) (vs : Nat → Value) (w : World) : Prop where
 b : Below B W w
 f : ∀ k, k < N → L.getD k false = true → (nx k ≠ k → L.getD (nx k) false = false) → T k (vs k) w
section
variable {W w w' : World} {B N i : Nat} {T : Nat → Value → World → Prop} {nx : Nat → Nat} {L : Array Bool} {vs : Nat → Value} {v : Value}
theorem RgI.start : RgI W W.heap.size N T nx (Array.replicate N false) vs W.drew := ⟨(Below.refl _ _).drew, fun k _ h => by rw [getD_replicate_false] at h; cases h⟩
theorem RgI.put (h : RgI W B N T nx L vs w) (hi : i < L.size) (hb : Below B W w') (ho : ∀ k, k < N → k ≠ i → L.getD k false = true → (nx k ≠ k → nx k ≠ i ∧ L.getD (nx k) false = false) → T k (vs k) w → T k (vs k) w') (hv : T i v w') : RgI W B N T nx (L.setIfInBounds i true) (fun j => if j = i then v else vs j) w' := by
 refine ⟨hb, fun k hkN hk hn => ?_⟩
 by_cases hki : k = i
 ·subst hki
  show T k (if k = k then v else vs k) w'
  rw [if_pos rfl]
  exact hv
 ·show T k (if k = i then v else vs k) w'
  rw [if_neg hki]
  rw [getD_set_ne false (fun e => hki e.symm)] at hk
  have hn2 : nx k ≠ k → nx k ≠ i ∧ L.getD (nx k) false = false := fun hne => by
   have := hn hne
   by_cases hni : nx k = i
   ·rw [hni, getD_set_self hi] at this; cases this
   ·rw [getD_set_ne false (fun e => hni e.symm)] at this
    exact ⟨hni, this⟩
  exact ho k hkN hki hk hn2 (h.f k hkN hk fun hne => (hn2 hne).2)
theorem RgI.go (h : RgI W B N T nx L vs w) (hi : i < L.size) (hT : ∀ k, k < N → ∀ v w w', T k v w → Below w.heap.size w w' → T k v w') (hb : Below w.heap.size w w') (hv : T i v w') (hB : B ≤ w.heap.size) : RgI W B N T nx (L.setIfInBounds i true) (fun j => if j = i then v else vs j) w' :=
 h.put hi (h.b.trans (hb.mono hB)) (fun k hkN _ _ _ hk => hT k hkN _ _ _ hk hb) hv
theorem RgI.same (h : RgI W B N T nx L vs w) (hi : i < L.size) (hv : T i v w) : RgI W B N T nx (L.setIfInBounds i true) (fun j => if j = i then v else vs j) w :=
 h.put hi h.b (fun k _ _ _ _ hk => hk) hv
end
/-- a row of words that the region owns -/
def RowT (B : Nat) (e : TypeId) (n : Nat) (xs : List Value) (v : Value) (w : World) : Prop := w.ownsRow B e 1 v n xs
theorem RowT.below {B n : Nat} {e : TypeId} {xs : List Value} {v : Value} {w w' : World} (h : RowT B e n xs v w) (hb : Below w.heap.size w w') : RowT B e n xs v w' := own_local h fun k hk => hb.block k (h.lt k hk).2
end Go.Proofs.YtjpaogapclfajaaGreat
namespace Go.Proofs.YtjpaogapclfajaaGreat
open Go.RowKit Go.Sort
section
variable {m : Mm} {r r' sg wl sg' wl' : List Int}
end
/-- the answer's number -/
def erM (o : Option (List Int × List Int)) : Int := match o with | none => 11 | some _ => 0
def PtT (m : Mm) (o : Option (List Int × List Int)) (v : Value) (w : World) : Prop := match o with
 | none => v = .pointer none
 | some (sg, wl) => ∃ B g b, v = .pointer (some ⟨g, 0, none⟩) ∧ MkR w B g b m sg wl
def TpT (m : Mm) (o : Option (List Int × List Int)) (v : Value) (w : World) : Prop := ∃ p, v = .tuple #[p, .int .i64 (erM o)] ∧ PtT m o p w
theorem PtT.below {m : Mm} {o : Option (List Int × List Int)} {v : Value} {w w' : World} (h : PtT m o v w) (hb : Below w.heap.size w w') : PtT m o v w' := by
 unfold PtT at *
 split
 ·exact h
 ·obtain ⟨B, g, b, e, h1⟩ := h
  exact ⟨B, g, b, e, MkR0.below h1 hb⟩
theorem TpT.below {m : Mm} {o : Option (List Int × List Int)} {v : Value} {w w' : World} (h : TpT m o v w) (hb : Below w.heap.size w w') : TpT m o v w' := let ⟨p, e, hp⟩ := h; ⟨p, e, hp.below hb⟩
theorem TpT.of {w w' : World} {m : Mm} {o : Option (List Int × List Int)} {e : Ending} (h : MarkPost w m o e w') : Below w.heap.size w w' ∧ ∃ v, e = .returned v ∧ TpT m o v w' := by
 obtain ⟨hb, h⟩ := h
 refine ⟨hb, ?_⟩
 split at h
 ·exact ⟨_, h, _, rfl, rfl⟩
 ·obtain ⟨g, b, e, h1⟩ := h
  exact ⟨_, e, _, rfl, _, g, b, rfl, h1⟩
end Go.Proofs.YtjpaogapclfajaaGreat
