/- A region that draws its order and makes memory: one proof for each operation serves every order. Each operation's value has a property of its own, and may own one block; an operation may take over the blocks of values that it reads. -/
import Derived.Test.YtdmbcgkfecmakaaDoorMem
import Derived.StillTail
import Derived.Laws.AppendOwn
namespace Go.Proofs.YtdmbcgkfecmakaaDoor
set_option linter.unusedVariables false
set_option linter.unusedSimpArgs false
set_option linter.unusedSectionVars false
open Go.RowKit

/-- what an operation's run hands back, whatever the frame -/
def Made (P : Program) (T : Value → World → Prop) : Result Next → Prop
  | .ok (.value v) w' => T v w'
  | .ok .skip w' => T undef w'
  | .ok (.enter f args) w' => Calls P f args w' fun e w'' => ∃ v, e = .returned v ∧ T v w''
  | .ok (.row row args) w' => Rows P row args w' T
  | _ => False
theorem wp_of_made {P : Program} {T : Value → World → Prop} {o : Oper} {a : Act} {w : World} {K : Act → World → Prop} {Q : Exit → Act → World → Prop}
    (h : Made P T ((execOp a.eval o).run P w)) (hK : ∀ v w', T v w' → K (a.put o.dst v) w') : o.wp P a w K Q := by
  unfold Oper.wp
  generalize (execOp a.eval o).run P w = r at *
  cases r with
  | ok n w' =>
    cases n <;> simp only [Made] at h <;> simp only [Oper.upon]
    case value v => exact hK _ _ h
    case skip => exact hK _ _ h
    case enter f args => exact h.mono fun e w'' ⟨v, he, hT⟩ => by subst he; exact hK _ _ hT
    case row r args => exact Rows.mono h fun v w'' hT => hK _ _ hT
  | halt x w' => simp only [Made] at h
theorem made_of_wp {P : Program} {T : Value → World → Prop} {o : Oper} {a : Act} {w : World} {d : Nat} (hd : o.dst = some d) (hlt : d < a.tmps.size)
    (h : o.wp P a w (fun b w' => b.defers = a.defers ∧ T (b.eval (.tmp d)) w') (fun _ _ _ => False)) : Made P T ((execOp a.eval o).run P w) := by
  have key : ∀ v, (a.put o.dst v).eval (.tmp d) = v := fun v => by
    rw [hd]
    simp [Act.eval, Act.put, hlt]
  unfold Oper.wp at h
  generalize (execOp a.eval o).run P w = r at *
  cases r with
  | ok n w' =>
    cases n <;> simp only [Oper.upon] at h <;> simp only [Made]
    case value v => rw [key] at h; exact h.2
    case skip => rw [key] at h; exact h.2
    case defer c => have := h.1; rw [hd] at this; simp [Act.put] at this
    case row r args => exact Rows.mono h fun v w'' hT => by rw [key] at hT; exact hT.2
    case enter f args =>
      refine h.mono fun e w'' he => ?_
      cases e with
      | returned v => simp only [key] at he; exact ⟨v, rfl, he.2⟩
      | panicked c => exact he.elim
      | outgrown => obtain ⟨_, _, h⟩ := he; exact h.elim
  | halt x w' =>
    cases x <;> simp only [Oper.upon] at h

def dstOf (ops : Array Oper) (i : Nat) : Option Tmp := (ops[i]?).bind (·.dst)
def waits (ops : Array Oper) (i j : Nat) : Bool := match ops[i]? with
  | some o => o.after.any fun e => Region.binds .any e && e.on == j
  | none => false
/-- the frame with the values of some operations -/
def frm (ops : Array Oper) (a : Act) (vs : Nat → Value) : List Nat → Act
  | [] => a
  | i :: l => (frm ops a vs l).put (dstOf ops i) (vs i)
/-- what can be read off the region's text -/
structure SepB (ops : Array Oper) (n : Nat) (ds eats : Nat → List Nat) : Prop where
  size : ops.size = n + 1
  sel : Region.noSelect ops = true
  guard : ∀ i, i < n → ∀ o, ops[i]? = some o → o.guard = none
  back : ∀ i, i < n + 1 → ∀ o, ops[i]? = some o → ∀ e ∈ o.after, Region.binds .any e = true → e.on < i
  dep : ∀ i, i < n → ∀ j ∈ ds i, waits ops i j = true
  eat : ∀ i, i < n → ∀ m ∈ eats i, m ∈ ds i
  once : ∀ i, i < n → ∀ m ∈ eats i, ∀ j, j < n → m ∈ ds j → j = i
  opnd : ∀ i, i < n → ∀ o, ops[i]? = some o → ∀ t, .tmp t ∈ o.op.operands → ∀ j, j < n → dstOf ops j = some t → j ∈ ds i
  dist : ∀ i, i < n → ∀ j, j < n → ∀ d, dstOf ops i = some d → dstOf ops j = some d → i = j
  dst : ∀ i, i < n → ∃ d, dstOf ops i = some d
  last : ∀ i, i < n → waits ops n i = true
/-- the same, as a Bool -/
def sepB (ops : Array Oper) (n : Nat) (ds eats : Nat → List Nat) : Bool :=
  decide (ops.size = n + 1) && Region.noSelect ops &&
  (List.range n).all (fun i => ((ops[i]?).map (fun o => o.guard.isNone)).getD true && (dstOf ops i).isSome && (ds i).all (waits ops i) && (eats i).all ((ds i).contains ·) &&
    (List.range n).all (fun j => ((eats i).all fun m => !(ds j).contains m || j == i) && (dstOf ops i != dstOf ops j || i == j) &&
      ((ops[i]?).map fun o => o.op.operands.all fun x => match x with | .tmp t => dstOf ops j != some t || (ds i).contains j | _ => true).getD true) && waits ops n i) &&
  (List.range (n + 1)).all (fun i => ((ops[i]?).map fun o => o.after.all fun e => !Region.binds .any e || decide (e.on < i)).getD true)
theorem SepB.of {ops : Array Oper} {n : Nat} {ds eats : Nat → List Nat} (h : sepB ops n ds eats = true) : SepB ops n ds eats := by
  unfold sepB at h
  simp only [Bool.and_eq_true, decide_eq_true_eq, List.all_eq_true, List.mem_range] at h
  obtain ⟨⟨⟨h1, h2⟩, h3⟩, h4⟩ := h
  refine ⟨h1, h2, fun i hi o ho => ?_, fun i hi o ho e he hb => ?_, fun i hi j hj => ?_, fun i hi m hm => ?_, fun i hi m hm j hj hmj => ?_, fun i hi o ho t ht j hj hd => ?_, fun i hi j hj d hd hd' => ?_, fun i hi => ?_, fun i hi => ?_⟩
  · have := (h3 i hi).1.1.1.1.1
    rw [ho] at this
    simpa using this
  · have := h4 i hi
    rw [ho] at this
    simp only [Option.map_some, Option.getD_some, Array.all_eq_true_iff_forall_mem, Bool.or_eq_true, decide_eq_true_eq] at this
    rcases this e he with h | h
    · simp [hb] at h
    · exact h
  · exact (h3 i hi).1.1.1.2 j hj
  · have := (h3 i hi).1.1.2 m hm
    simpa using this
  · have := ((h3 i hi).1.2 j hj).1.1 m hm
    simp only [Bool.or_eq_true, Bool.not_eq_true', List.contains_eq_mem, decide_eq_false_iff_not, beq_iff_eq] at this
    rcases this with h | h
    · exact absurd hmj h
    · exact h
  · have := ((h3 i hi).1.2 j hj).2
    rw [ho] at this
    simp only [Option.map_some, Option.getD_some, Array.all_eq_true_iff_forall_mem] at this
    have := this _ ht
    simp only [hd, bne_self_eq_false, Bool.false_or, List.contains_eq_mem, decide_eq_true_eq] at this
    exact this
  · have := ((h3 i hi).1.2 j hj).1.2
    rw [hd, hd'] at this
    simpa using this
  · have := (h3 i hi).1.1.1.1.2
    exact Option.isSome_iff_exists.1 this
  · exact (h3 i hi).2

section
variable {P : Program} {ops : Array Oper} {n : Nat} {ds eats : Nat → List Nat} {R : Nat → Value → World → Prop} {ob : Nat → Value → Option Nat} {W : World} {a0 : Act} {Q : Exit → Act → World → Prop}

theorem frm_defers (vs : Nat → Value) : ∀ l, (frm ops a0 vs l).defers = a0.defers
  | [] => rfl
  | i :: l => by
    show ((frm ops a0 vs l).put _ _).defers = _
    unfold Act.put
    split <;> exact frm_defers vs l
theorem frm_size (vs : Nat → Value) : ∀ l, (frm ops a0 vs l).tmps.size = a0.tmps.size
  | [] => rfl
  | i :: l => by
    show ((frm ops a0 vs l).put _ _).tmps.size = _
    unfold Act.put
    split
    · simpa using frm_size vs l
    · exact frm_size vs l
theorem frm_slot (hs : SepB ops n ds eats) (vs : Nat → Value) : ∀ l, (∀ i ∈ l, i < n) → ∀ i ∈ l, ∀ d, dstOf ops i = some d → d < a0.tmps.size → (frm ops a0 vs l).tmps[d]? = some (vs i)
  | [], _, i, hi, _, _, _ => by cases hi
  | j :: l, hl, i, hi, d, hd, hlt => by
    show ((frm ops a0 vs l).put (dstOf ops j) (vs j)).tmps[d]? = _
    by_cases hij : i = j
    · subst hij
      rw [hd]
      simp only [Act.put]
      rw [Array.getElem?_setIfInBounds_self_of_lt (by rw [frm_size]; exact hlt)]
    · have hi' : i ∈ l := by
        rcases List.mem_cons.1 hi with h | h
        · exact absurd h hij
        · exact h
      obtain ⟨e, he⟩ := hs.dst j (hl j (List.mem_cons_self ..))
      have hne : e ≠ d := fun h => hij (hs.dist i (hl i hi) j (hl j (List.mem_cons_self ..)) d hd (h ▸ he))
      rw [he]
      simp only [Act.put]
      rw [Array.getElem?_setIfInBounds_ne hne]
      exact frm_slot hs vs l (fun k hk => hl k (List.mem_cons_of_mem _ hk)) i hi' d hd hlt
theorem frm_rest (vs : Nat → Value) : ∀ l d, (∀ i ∈ l, dstOf ops i ≠ some d) → (frm ops a0 vs l).tmps[d]? = a0.tmps[d]?
  | [], _, _ => rfl
  | j :: l, d, h => by
    show ((frm ops a0 vs l).put (dstOf ops j) (vs j)).tmps[d]? = _
    have hj := h j (List.mem_cons_self ..)
    cases he : dstOf ops j with
    | none => exact frm_rest vs l d fun i hi => h i (List.mem_cons_of_mem _ hi)
    | some e =>
      rw [he] at hj
      have hne : e ≠ d := fun h => hj (by rw [h])
      simp only [Act.put]
      rw [Array.getElem?_setIfInBounds_ne hne]
      exact frm_rest vs l d fun i hi => h i (List.mem_cons_of_mem _ hi)

/-- what the operation i may use: what its deps have laid -/
def Given (R : Nat → Value → World → Prop) (ob : Nat → Value → Option Nat) (W : World) (vs : Nat → Value) (l : List Nat) (w : World) : Prop :=
  Below W.heap.size W w ∧ (∀ j ∈ l, R j (vs j) w ∧ ∀ k, ob j (vs j) = some k → W.heap.size ≤ k ∧ k < w.heap.size) ∧ ∀ j ∈ l, ∀ j' ∈ l, j ≠ j' → ∀ k, ob j (vs j) = some k → ob j' (vs j') ≠ some k
/-- what it has to lay -/
def Lays (R : Nat → Value → World → Prop) (ob : Nat → Value → Option Nat) (W : World) (vs : Nat → Value) (eat : List Nat) (i : Nat) (w : World) (v : Value) (w' : World) : Prop :=
  R i v w' ∧ w'.os = w.os ∧ w'.tape = w.tape ∧ w'.output = w.output ∧ w.heap.size ≤ w'.heap.size ∧ (∀ k, k < w.heap.size → (∀ j ∈ eat, ob j (vs j) ≠ some k) → w'.heap[k]? = w.heap[k]?) ∧
  ∀ k, ob i v = some k → k < w'.heap.size ∧ W.heap.size ≤ k ∧ (w.heap.size ≤ k ∨ ∃ j ∈ eat, ob j (vs j) = some k)

structure SInv (ops : Array Oper) (n : Nat) (eats : Nat → List Nat) (R : Nat → Value → World → Prop) (ob : Nat → Value → Option Nat) (W : World) (a0 : Act) (vs : Nat → Value) (L : Array Bool) (a : Act) (w : World) : Prop where
  defers : a.defers = a0.defers
  size : a.tmps.size = a0.tmps.size
  slot : ∀ i, i < n → L.getD i false = true → ∀ d, dstOf ops i = some d → d < a0.tmps.size → a.tmps[d]? = some (vs i)
  rest : ∀ d, (∀ i, i < n → L.getD i false = true → dstOf ops i ≠ some d) → a.tmps[d]? = a0.tmps[d]?
  below : Below W.heap.size W w
  holds : ∀ i, i < n → L.getD i false = true → (∀ j, j < n → L.getD j false = true → i ∉ eats j) → R i (vs i) w ∧ ∀ k, ob i (vs i) = some k → W.heap.size ≤ k ∧ k < w.heap.size
  apart : ∀ i, i < n → L.getD i false = true → (∀ j, j < n → L.getD j false = true → i ∉ eats j) → ∀ i', i' < n → L.getD i' false = true → (∀ j, j < n → L.getD j false = true → i' ∉ eats j) → i ≠ i' → ∀ k, ob i (vs i) = some k → ob i' (vs i') ≠ some k
  lsize : L.size = n + 1
  nlast : L.getD n true = false

theorem Below.ofLays {vs : Nat → Value} {eat : List Nat} {i : Nat} {w w' : World} {v : Value} (hb : Below W.heap.size W w) (he : ∀ j ∈ eat, ∀ k, ob j (vs j) = some k → W.heap.size ≤ k) (h : Lays R ob W vs eat i w v w') : Below W.heap.size W w' := by
  obtain ⟨_, h1, h2, h3, h4, h5, _⟩ := h
  have hs := hb.size
  exact ⟨h1.trans hb.os, h2.trans hb.tape, h3.trans hb.output, Nat.le_trans hs h4, fun k hk => (h5 k (Nat.lt_of_lt_of_le hk hs) fun j hj hk' => by have := he j hj k hk'; omega).trans (hb.block k hk)⟩

theorem getD_set_self {L : Array Bool} {i : Nat} (h : i < L.size) (b : Bool) : (L.setIfInBounds i true).getD i b = true := by simp [h]
theorem ready_lt {j : Nat} {L : Array Bool} (h : j ∈ Region.ready .any ops L) : j < L.size := by
  have h0 := (mem_ready.1 h).1
  rcases Nat.lt_or_ge j L.size with h' | h'
  · exact h'
  · simp [Array.getElem?_eq_none h'] at h0
theorem waits_listed {i j : Nat} {L : Array Bool} (hr : i ∈ Region.ready .any ops L) (h : waits ops i j = true) : L.getD j false = true := by
  obtain ⟨_, o, ho, hall⟩ := mem_ready.1 hr
  unfold waits at h
  rw [ho] at h
  obtain ⟨e, he, hb⟩ := Array.any_eq_true'.1 h
  simp only [Bool.and_eq_true, beq_iff_eq] at hb
  rw [← hb.2]
  exact hall e he hb.1

/-- one operation more -/
theorem SInv.step (hs : SepB ops n ds eats) (hloc : ∀ i v w w', i < n → R i v w → Below W.heap.size W w → Below W.heap.size W w' → w.heap.size ≤ w'.heap.size → (∀ k, ob i v = some k → w'.heap[k]? = w.heap[k]?) → R i v w')
    {vs : Nat → Value} {L : Array Bool} {a : Act} {w : World} (inv : SInv ops n eats R ob W a0 vs L a w) {i : Nat} (hi : i < n) (hr : i ∈ Region.ready .any ops L) {v : Value} {w' : World} (hl : Lays R ob W vs (eats i) i w v w') :
    SInv ops n eats R ob W a0 (fun j => if j = i then v else vs j) (L.setIfInBounds i true) (a.put (dstOf ops i) v) w' := by
  have hun : L.getD i true = false := (mem_ready.1 hr).1
  have hun' : L.getD i false = false := getD_both hun
  have hlt := ready_lt hr
  have hdl : ∀ j ∈ ds i, L.getD j false = true := fun j hj => waits_listed hr (hs.dep i hi j hj)
  have hget : ∀ j, (L.setIfInBounds i true).getD j false = true → j = i ∨ L.getD j false = true := fun j hj => by
    by_cases h : i = j
    · exact .inl h.symm
    · rw [getD_set_ne false h] at hj; exact .inr hj
  have hown : ∀ j, L.getD j false = true → j ≠ i := fun j hj h => by rw [h, hun'] at hj; cases hj
  have hdlt : ∀ j ∈ ds i, j < n := fun j hj => by
    obtain ⟨_, o, ho, hall⟩ := mem_ready.1 hr
    have hw := hs.dep i hi j hj
    unfold waits at hw
    rw [ho] at hw
    obtain ⟨e, he, hb⟩ := Array.any_eq_true'.1 hw
    simp only [Bool.and_eq_true, beq_iff_eq] at hb
    have := hs.back i (by omega) o ho e he hb.1
    omega
  have hlive : ∀ j ∈ eats i, ∀ m, m < n → L.getD m false = true → j ∉ eats m := fun j hj m hm hml hjm =>
    hown m hml (hs.once i hi j hj m hm (hs.eat m hm j hjm))
  have heat : ∀ j ∈ eats i, ∀ k, ob j (vs j) = some k → W.heap.size ≤ k ∧ k < w.heap.size := fun j hj =>
    (inv.holds j (hdlt j (hs.eat i hi j hj)) (hdl j (hs.eat i hi j hj)) (hlive j hj)).2
  have hb' : Below W.heap.size W w' := Below.ofLays inv.below (fun j hj k hk => (heat j hj k hk).1) hl
  obtain ⟨hR, h1, h2, h3, h4, h5, h6⟩ := hl
  obtain ⟨d, hd⟩ := hs.dst i hi
  -- a value that is still whole is not eaten now
  have hkeep : ∀ j, j < n → L.getD j false = true → (∀ m, m < n → (L.setIfInBounds i true).getD m false = true → j ∉ eats m) →
      (∀ m, m < n → L.getD m false = true → j ∉ eats m) ∧ j ∉ eats i := fun j hj hjl h =>
    ⟨fun m hm hml => h m hm (getD_set_true hml), h i hi (getD_set_self hlt false)⟩
  have hfar : ∀ j, j < n → L.getD j false = true → (∀ m, m < n → L.getD m false = true → j ∉ eats m) → j ∉ eats i → ∀ k, ob j (vs j) = some k → w'.heap[k]? = w.heap[k]? := fun j hj hjl hjv hji k hk =>
    h5 k ((inv.holds j hj hjl hjv).2 k hk).2 fun m hm => inv.apart j hj hjl hjv m (hdlt m (hs.eat i hi m hm)) (hdl m (hs.eat i hi m hm)) (hlive m hm) (fun e => hji (e ▸ hm)) k hk
  refine ⟨?_, ?_, ?_, ?_, hb', ?_, ?_, by simp [inv.lsize], ?_⟩
  · rw [hd]; exact inv.defers
  · rw [hd]; simp [Act.put, inv.size]
  · intro j hj hjl e he hlt'
    rw [hd]
    simp only [Act.put]
    by_cases hji : j = i
    · subst hji
      rw [hd] at he
      cases he
      rw [if_pos rfl, Array.getElem?_setIfInBounds_self_of_lt (by rw [inv.size]; exact hlt')]
    · have hne : d ≠ e := fun h => hji (hs.dist j hj i hi e he (h ▸ hd))
      rw [if_neg hji, Array.getElem?_setIfInBounds_ne hne]
      exact inv.slot j hj ((hget j hjl).resolve_left hji) e he hlt'
  · intro e he
    have hne : d ≠ e := fun h => he i hi (getD_set_self hlt false) (h ▸ hd)
    rw [hd]
    simp only [Act.put]
    rw [Array.getElem?_setIfInBounds_ne hne]
    exact inv.rest e fun j hj hjl => he j hj (getD_set_true hjl)
  · intro j hj hjl hjv
    by_cases hji : j = i
    · subst hji
      simp only [if_pos]
      exact ⟨hR, fun k hk => ⟨(h6 k hk).2.1, (h6 k hk).1⟩⟩
    · simp only [if_neg hji]
      have hjl' := (hget j hjl).resolve_left hji
      obtain ⟨q1, q2⟩ := hkeep j hj hjl' hjv
      obtain ⟨r1, r2⟩ := inv.holds j hj hjl' q1
      exact ⟨hloc j _ w w' hj r1 inv.below hb' h4 (hfar j hj hjl' q1 q2), fun k hk => ⟨(r2 k hk).1, Nat.lt_of_lt_of_le (r2 k hk).2 h4⟩⟩
  · -- the blocks are apart
    have hnew : ∀ j, j < n → L.getD j false = true → (∀ m, m < n → (L.setIfInBounds i true).getD m false = true → j ∉ eats m) → ∀ k, ob i v = some k → ob j (vs j) ≠ some k := fun j hj hjl hjv k hk hk' => by
      obtain ⟨q1, q2⟩ := hkeep j hj hjl hjv
      have r2 := ((inv.holds j hj hjl q1).2 k hk').2
      rcases (h6 k hk).2.2 with h | ⟨m, hm, hmk⟩
      · omega
      · exact inv.apart m (hdlt m (hs.eat i hi m hm)) (hdl m (hs.eat i hi m hm)) (hlive m hm) j hj hjl q1 (fun e => q2 (e ▸ hm)) k hmk hk'
    intro j hj hjl hjv j' hj' hjl' hjv' hne k hk hk'
    by_cases hji : j = i
    · subst hji
      rw [if_pos rfl] at hk
      rw [if_neg (Ne.symm hne)] at hk'
      exact hnew j' hj' ((hget j' hjl').resolve_left (Ne.symm hne)) hjv' k hk hk'
    · rw [if_neg hji] at hk
      have hjl2 := (hget j hjl).resolve_left hji
      by_cases hji' : j' = i
      · subst hji'
        rw [if_pos rfl] at hk'
        exact hnew j hj hjl2 hjv k hk' hk
      · rw [if_neg hji'] at hk'
        exact inv.apart j hj hjl2 (hkeep j hj hjl2 hjv).1 j' hj' ((hget j' hjl').resolve_left hji') (hkeep j' hj' ((hget j' hjl').resolve_left hji') hjv').1 hne k hk hk'
  · rw [getD_set_ne true (by omega)]; exact inv.nlast

theorem SInv.given (hs : SepB ops n ds eats) {vs : Nat → Value} {L : Array Bool} {a : Act} {w : World} (inv : SInv ops n eats R ob W a0 vs L a w) {i : Nat} (hi : i < n) (hr : i ∈ Region.ready .any ops L) : Given R ob W vs (ds i) w := by
  have hun' : L.getD i false = false := getD_both (mem_ready.1 hr).1
  have hdl : ∀ j ∈ ds i, L.getD j false = true := fun j hj => waits_listed hr (hs.dep i hi j hj)
  have hdlt : ∀ j ∈ ds i, j < n := fun j hj => by
    obtain ⟨_, o, ho, hall⟩ := mem_ready.1 hr
    have hw := hs.dep i hi j hj
    unfold waits at hw
    rw [ho] at hw
    obtain ⟨e, he, hb⟩ := Array.any_eq_true'.1 hw
    simp only [Bool.and_eq_true, beq_iff_eq] at hb
    have := hs.back i (by omega) o ho e he hb.1
    omega
  have hlive : ∀ j ∈ ds i, ∀ m, m < n → L.getD m false = true → j ∉ eats m := fun j hj m hm hml hjm => by
    have := hs.once m hm j hjm i hi hj
    rw [← this, hun'] at hml
    cases hml
  exact ⟨inv.below, fun j hj => inv.holds j (hdlt j hj) (hdl j hj) (hlive j hj), fun j hj j' hj' hne => inv.apart j (hdlt j hj) (hdl j hj) (hlive j hj) j' (hdlt j' hj') (hdl j' hj') (hlive j' hj') hne⟩

theorem put_operand {vs : Nat → Value} {l : List Nat} {a : Act} {o : Oper} (ht : ∀ d, .tmp d ∈ o.op.operands → a.tmps[d]? = (frm ops a0 vs l).tmps[d]?) : ∀ x ∈ o.op.operands, a.eval x = (frm ops a0 vs l).eval x := by
  intro x hx
  cases x with
  | tmp d =>
    have := ht d hx
    simp only [Act.eval, Array.getD_eq_getD_getElem?, this]
  | const v => rfl
  | global g => rfl
  | func f => rfl

theorem wpAny_sep (hs : SepB ops n ds eats) (hN : ∀ i, i < n → ∀ d, dstOf ops i = some d → d < a0.tmps.size)
    (hloc : ∀ i v w w', i < n → R i v w → Below W.heap.size W w → Below W.heap.size W w' → w.heap.size ≤ w'.heap.size → (∀ k, ob i v = some k → w'.heap[k]? = w.heap[k]?) → R i v w')
    (hstep : ∀ i, i < n → ∀ o, ops[i]? = some o → ∀ vs w, Given R ob W vs (ds i) w → Made P (Lays R ob W vs (eats i) i w) ((execOp (frm ops a0 vs (ds i)).eval o).run P w))
    (hend : ∀ vs w, Below W.heap.size W w → (∀ i, i < n → (∀ j, j < n → i ∉ eats j) → R i (vs i) w ∧ ∀ k, ob i (vs i) = some k → W.heap.size ≤ k ∧ k < w.heap.size) →
      (∀ i, i < n → (∀ j, j < n → i ∉ eats j) → ∀ i', i' < n → (∀ j, j < n → i' ∉ eats j) → i ≠ i' → ∀ k, ob i (vs i) = some k → ob i' (vs i') ≠ some k) → wpOp P ops Q n (fun a w => Q .normal a w) (frm ops a0 vs (List.range n)) w) :
    ∀ (f : Nat) (L : Array Bool) (a : Act) (w : World) (vs : Nat → Value), SInv ops n eats R ob W a0 vs L a w → ((List.range (n + 1)).filter fun i => !L.getD i true).length = f → wpAny P .any ops Q f L a w := by
  intro f
  induction f with
  | zero =>
    intro L a w vs inv hf
    have : n ∈ (List.range (n + 1)).filter fun i => !L.getD i true := List.mem_filter.2 ⟨List.mem_range.2 (by omega), by rw [inv.nlast]; rfl⟩
    rw [List.length_eq_zero_iff.1 hf] at this
    cases this
  | succ f ih =>
    intro L a w vs inv hf
    have hcnt : ∀ i, i ∈ Region.ready .any ops L → ((List.range (n + 1)).filter fun j => !(L.setIfInBounds i true).getD j true).length = f := fun i hr => by
      have hlt := ready_lt hr
      have hun := (mem_ready.1 hr).1
      have h1 : ((List.range (n + 1)).filter fun j => !(L.setIfInBounds i true).getD j true) = ((List.range (n + 1)).filter fun j => !L.getD j true).filter (· != i) := by
        rw [List.filter_filter]
        refine List.filter_congr fun j hj => ?_
        by_cases h : i = j
        · subst h
          rw [getD_set_self hlt]
          simp
        · rw [getD_set_ne true h]
          simp [Ne.symm h]
      rw [h1]
      have hnd : ((List.range (n + 1)).filter fun j => !L.getD j true).Nodup := List.nodup_range.filter _
      have hmem : i ∈ (List.range (n + 1)).filter fun j => !L.getD j true := List.mem_filter.2 ⟨List.mem_range.2 (by rw [inv.lsize] at hlt; exact hlt), by rw [hun]; rfl⟩
      rw [← List.Nodup.erase_eq_filter hnd, List.length_erase_of_mem hmem, hf]
      rfl
    refine ⟨fun h0 => ?_, fun i hr => ?_⟩
    · -- the least operation that has not come up is ready
      exfalso
      have key : ∀ m, m ≤ n → (∀ j, j < m → L.getD j false = true) → False := by
        intro m
        induction hm : n - m using Nat.strongRecOn generalizing m with
        | _ k ihk =>
          intro hmn hall
          cases hl : L.getD m true with
          | true =>
            have hmn' : m ≠ n := fun h => by rw [h, inv.nlast] at hl; cases hl
            have hl' : L.getD m false = true := by
              have : m < L.size := by rw [inv.lsize]; omega
              simp [this] at hl ⊢
              exact hl
            exact ihk (n - (m + 1)) (by omega) (m + 1) rfl (by omega) fun j hj => by
              by_cases h : j = m
              · subst h; exact hl'
              · exact hall j (by omega)
          | false =>
            have : m ∈ Region.ready .any ops L := by
              have hlt : m < ops.size := by rw [hs.size]; omega
              exact mem_ready.2 ⟨hl, ops[m], Array.getElem?_eq_getElem hlt, fun e he hb => hall _ (hs.back m (by omega) _ (Array.getElem?_eq_getElem hlt) e he hb)⟩
            rw [h0] at this
            cases this
      exact key 0 (Nat.zero_le _) fun j hj => by omega
    · have hlt := ready_lt hr
      rw [inv.lsize] at hlt
      by_cases hin : i < n
      · obtain ⟨hun, o, ho, hall⟩ := mem_ready.1 hr
        unfold wpOp
        rw [ho]
        simp only []
        have hg := hs.guard i hin o ho
        have hw : Region.wanted o (yielded ops a.tmps) = true := by simp [Region.wanted, hg]
        rw [if_pos hw]
        refine .inl ?_
        have hdo : dstOf ops i = o.dst := by unfold dstOf; rw [ho]; rfl
        have hsel := Region.noSelect_spec hs.sel
        have hex : execOp a.eval o = execOp (frm ops a0 vs (ds i)).eval o := execOp_congr o (fun cs b => hsel i o cs b ho) (put_operand fun d hd => by
          have hdl : ∀ j ∈ ds i, L.getD j false = true := fun j hj => waits_listed hr (hs.dep i hin j hj)
          have hdlt : ∀ j ∈ ds i, j < n := fun j hj => by
            have hw := hs.dep i hin j hj
            unfold waits at hw
            rw [ho] at hw
            obtain ⟨e, he, hb⟩ := Array.any_eq_true'.1 hw
            simp only [Bool.and_eq_true, beq_iff_eq] at hb
            have := hs.back i (by omega) o ho e he hb.1
            omega
          by_cases h : ∃ j, j < n ∧ dstOf ops j = some d
          · obtain ⟨j, hj, hjd⟩ := h
            have hm := hs.opnd i hin o ho d hd j hj hjd
            rw [frm_slot hs vs (ds i) hdlt j hm d hjd (hN j hj d hjd), inv.slot j hj (hdl j hm) d hjd (hN j hj d hjd)]
          · rw [frm_rest vs (ds i) d fun j hj hjd => h ⟨j, hdlt j hj, hjd⟩, inv.rest d fun j hj _ hjd => h ⟨j, hj, hjd⟩])
        refine wp_of_made (T := Lays R ob W vs (eats i) i w) (by rw [hex]; exact hstep i hin o ho vs w (inv.given hs hin hr)) fun v w' hl => ?_
        have inv' := inv.step hs hloc hin hr hl
        rw [hdo] at inv'
        exact ih _ _ _ _ inv' (hcnt i hr)
      · obtain rfl : i = n := by omega
        have hall : ∀ j, j < i → L.getD j false = true := fun j hj => waits_listed hr (hs.last j hj)
        have hae : a = frm ops a0 vs (List.range i) := by
          have h1 : a.tmps = (frm ops a0 vs (List.range i)).tmps := by
            refine Array.ext_getElem? fun d => ?_
            by_cases h : ∃ j, j < i ∧ dstOf ops j = some d
            · obtain ⟨j, hj, hjd⟩ := h
              rw [frm_slot hs vs (List.range i) (fun k hk => List.mem_range.1 hk) j (List.mem_range.2 hj) d hjd (hN j hj d hjd), inv.slot j hj (hall j hj) d hjd (hN j hj d hjd)]
            · rw [frm_rest vs (List.range i) d fun j hj hjd => h ⟨j, List.mem_range.1 hj, hjd⟩, inv.rest d fun j hj _ hjd => h ⟨j, hj, hjd⟩]
          have h2 : a.defers = (frm ops a0 vs (List.range i)).defers := by rw [frm_defers, inv.defers]
          cases a
          cases hq : frm ops a0 vs (List.range i)
          rw [hq] at h1 h2
          simp only at h1 h2
          rw [h1, h2]
        have hf0 : f = 0 := by
          have := hcnt i hr
          have hnil : ((List.range (i + 1)).filter fun j => !(L.setIfInBounds i true).getD j true) = [] := by
            refine List.filter_eq_nil_iff.2 fun j hj => ?_
            have hj' := List.mem_range.1 hj
            by_cases h : i = j
            · subst h
              rw [getD_set_self (by rw [inv.lsize]; omega)]
              simp
            · rw [getD_set_ne true h]
              have hl := hall j (by omega)
              have : j < L.size := by rw [inv.lsize]; omega
              simp [this] at hl ⊢
              exact hl
          rw [hnil] at this
          exact this.symm
        subst hf0
        rw [hae]
        refine wpOp_mono (fun a' w' h => ?_) (hend vs w inv.below (fun j hj hv => inv.holds j hj (hall j hj) fun m hm _ => hv m hm) fun j hj hv j' hj' hv' hne => inv.apart j hj (hall j hj) (fun m hm _ => hv m hm) j' hj' (hall j' hj') (fun m hm _ => hv' m hm) hne)
        refine ⟨?_, h⟩
        refine List.eq_nil_iff_forall_not_mem.2 fun j hj => ?_
        have h0 := (mem_ready.1 hj).1
        have hlt := ready_lt hj
        simp only [Array.size_setIfInBounds, inv.lsize] at hlt
        by_cases h : i = j
        · subst h
          rw [getD_set_self (by rw [inv.lsize]; omega)] at h0
          cases h0
        · rw [getD_set_ne true h] at h0
          have hl := hall j (by omega)
          have : j < L.size := by rw [inv.lsize]; omega
          simp [this] at hl h0
          rw [hl] at h0
          cases h0

/-- **A region that draws its order**: the operations but the last are proved one by one, the last behind all. -/
theorem wp_region_sep {id : Nat} {a0 : Act} {W : World} {l : List Oper} (n : Nat) (ds eats : Nat → List Nat) (R : Nat → Value → World → Prop) (ob : Nat → Value → Option Nat) (hm : P.follows .mixedOrders = true) (hB : sepB l.toArray n ds eats = true)
    (hN : (List.range n).all (fun i => match dstOf l.toArray i with | some d => decide (d < a0.tmps.size) | none => true) = true)
    (hloc : ∀ i v w w', i < n → R i v w → Below W.heap.size W w → Below W.heap.size W w' → w.heap.size ≤ w'.heap.size → (∀ k, ob i v = some k → w'.heap[k]? = w.heap[k]?) → R i v w')
    (hstep : ∀ i, i < n → ∀ o, l[i]? = some o → ∀ vs w, Given R ob W vs (ds i) w → Made P (Lays R ob W vs (eats i) i w) ((execOp (frm l.toArray a0 vs (ds i)).eval o).run P w))
    (hend : ∀ vs w, Below W.heap.size W w → (∀ i, i < n → (∀ j, j < n → i ∉ eats j) → R i (vs i) w ∧ ∀ k, ob i (vs i) = some k → W.heap.size ≤ k ∧ k < w.heap.size) →
      (∀ i, i < n → (∀ j, j < n → i ∉ eats j) → ∀ i', i' < n → (∀ j, j < n → i' ∉ eats j) → i ≠ i' → ∀ k, ob i (vs i) = some k → ob i' (vs i') ≠ some k) → wpList P l.toArray Q (l.drop n) (frm l.toArray a0 vs (List.range n)) w) :
    (Code.region id l.toArray true).wp P Q a0 W := by
  have hs := SepB.of hB
  have hsz : l.length = n + 1 := by simpa using hs.size
  refine wp_region_any hm ?_
  refine wpAny_sep (W := W) hs (fun i hi d hd => ?_) hloc (fun i hi o ho => hstep i hi o (by simpa using ho)) (fun vs w h1 h2 h3 => ?_) _ _ _ _ (fun _ => undef) ⟨rfl, rfl, fun i _ h => ?_, fun _ _ => rfl, ⟨rfl, rfl, rfl, Nat.le_refl _, fun _ _ => rfl⟩, fun i _ h => ?_, fun i _ h => ?_, by simp [hsz], by simp [hsz]⟩ ?_
  · have := List.all_eq_true.1 hN i (List.mem_range.2 hi)
    rw [hd] at this
    simpa using this
  · have := hend vs w h1 h2 h3
    have hl : l.drop n = [l[n]'(by omega)] := by
      rw [List.drop_eq_getElem_cons (by omega), List.drop_eq_nil_of_le (by omega)]
    rw [hl] at this
    unfold wpOp
    have : l.toArray[n]? = some (l[n]'(by omega)) := by simp [hsz]
    rw [this]
    simp only []
    assumption
  · rw [getD_replicate_false] at h; cases h
  · rw [getD_replicate_false] at h; cases h
  · rw [getD_replicate_false] at h; cases h
  · rw [hs.size]
    have : ((List.range (n + 1)).filter fun i => !(Array.replicate (n + 1) false).getD i true) = List.range (n + 1) := by
      refine List.filter_eq_self.2 fun i hi => ?_
      have := List.mem_range.1 hi
      simp [this]
    rw [this]
    simp
end
end Go.Proofs.YtdmbcgkfecmakaaDoor
