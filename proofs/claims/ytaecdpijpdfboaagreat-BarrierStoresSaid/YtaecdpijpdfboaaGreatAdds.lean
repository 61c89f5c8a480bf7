/- What operations of a region that only adds memory leave. -/
import Derived.Test.YtaecdpijpdfboaaGreatSep
namespace Go.Proofs.YtaecdpijpdfboaaGreat
set_option linter.unusedVariables false
set_option linter.unusedSimpArgs false
set_option linter.unusedSectionVars false
open Go.RowKit
section
variable {P : Program} {W w w1 : World} {vs : Nat → Value}
def Ent.of (T : Value → World → Prop) (hT : ∀ v w w', T v w → Below w.heap.size w w' → T v w') (ob : Value → Option Nat := fun _ => none) : Ent W := ⟨[], fun _ v w => T v w, ob, fun _ v w w' h _ hb => hT v w w' h hb, fun _ _ _ _ _ h => h⟩
def Ent.ex (T : Value → Prop) : Ent W := ⟨[], fun _ v _ => T v, fun _ => none, fun _ _ _ _ h _ _ => h, fun _ _ _ _ _ h => h⟩
def Ent.val (x : Value) : Ent W := Ent.ex fun v => v = x
def Ent.blk (t : TypeId) (cs : Array Value) : Ent W := Ent.of (fun v w => ∃ g, v = .pointer (some ⟨g, 0, none⟩) ∧ Bk w g t cs) (fun v w w' ⟨g, e, h⟩ hb => ⟨g, e, h.below hb h.lt⟩) blkOf
/-- the same value as another operation's, of which something is known -/
def Ent.same (m : Nat) (T : Value → World → Prop) (hT : ∀ v w w', T v w → Below w.heap.size w w' → T v w') : Ent W := ⟨[m], fun vs v w => v = vs m ∧ T v w, fun _ => none, fun _ v w w' h _ hb => ⟨h.1, hT v w w' h.2 hb⟩, fun vs vs' v w hj h => ⟨h.1.trans (hj m (List.mem_singleton_self m)), h.2⟩⟩
/-- a part of another operation's value -/
def Ent.ext (m k : Nat) : Ent W := ⟨[m], fun vs v _ => ∃ l : Array Value, vs m = .tuple l ∧ l[k]? = some v, fun _ => none, fun _ _ _ _ h _ _ => h, fun vs vs' v w hj ⟨l, h1, h2⟩ => ⟨l, (hj m (List.mem_singleton_self m)).symm.trans h1, h2⟩⟩
theorem ext_eq {m k : Nat} {v x : Value} {l : Array Value} (h : (Ent.ext (W := W) m k).R vs v w) (hm : vs m = .tuple l) (hl : l[k]? = some x) : v = x := by
  obtain ⟨l', h1, h2⟩ := h
  rw [hm] at h1
  injection h1 with h1
  rw [← h1, hl] at h2
  exact (Option.some.inj h2).symm
def EL (l : List (Ent W)) (i : Nat) : Ent W := l.getD i (Ent.val undef)
/-- what the operation leaves -/
def Adds (E : Ent W) (vs : Nat → Value) (w : World) (v : Value) (w' : World) : Prop := E.R vs v w' ∧ Below w.heap.size w w' ∧ ∀ k, E.ob v = some k → w.heap.size ≤ k ∧ k < w'.heap.size
theorem adds_val {X x : Value} (h : x = X) : Made P (Adds (Ent.val (W := W) X) vs w) (.ok (.value x) w) := ⟨h, Below.refl _ _, (fun k hk => nomatch hk)⟩
theorem adds_ex {T : Value → Prop} {x : Value} (h : T x) : Made P (Adds (Ent.ex (W := W) T) vs w) (.ok (.value x) w) := ⟨h, Below.refl _ _, (fun k hk => nomatch hk)⟩
theorem adds_of {T : Value → World → Prop} {hT : ∀ v w w', T v w → Below w.heap.size w w' → T v w'} {x : Value} (h : T x w) : Made P (Adds (Ent.of (W := W) T hT) vs w) (.ok (.value x) w) := ⟨h, Below.refl _ _, (fun k hk => nomatch hk)⟩
theorem adds_same {m : Nat} {T : Value → World → Prop} {hT : ∀ v w w', T v w → Below w.heap.size w w' → T v w'} (h : T (vs m) w) : Made P (Adds (Ent.same (W := W) m T hT) vs w) (.ok (.value (vs m)) w) := ⟨⟨rfl, h⟩, Below.refl _ _, (fun k hk => nomatch hk)⟩
theorem adds_ext {m k : Nat} {l : Array Value} {x : Value} (h : vs m = .tuple l) (hl : l[k]? = some x) : Made P (Adds (Ent.ext (W := W) m k) vs w) (.ok (.value x) w) := ⟨⟨l, h, hl⟩, Below.refl _ _, (fun k hk => nomatch hk)⟩
theorem adds_blk {t : TypeId} {cs : Array Value} : Made P (Adds (Ent.blk (W := W) t cs) vs w) (.ok (.value (.pointer (some ⟨w.heap.size, 0, none⟩))) (w.alloc (.cells cs t))) :=
  ⟨⟨_, rfl, Bk.new _ _ _⟩, (Below.refl _ _).alloc (Nat.le_refl _) _, (fun k hk => by cases hk; exact ⟨Nat.le_refl _, by simp⟩)⟩
theorem adds_quiet {f : FuncId} {args : Array Value} {X : Value} (h : Calls P f args w fun e w' => e = .returned X ∧ ∃ n, w' = w.drewN n) : Made P (Adds (Ent.val (W := W) X) vs w) (.ok (.enter f args) w) :=
  h.mono fun e w' ⟨he, n, hw⟩ => ⟨_, he, rfl, by subst hw; exact below_drewN (Below.refl _ _) n, (fun k hk => nomatch hk)⟩
theorem adds_still {f : FuncId} {args : Array Value} {X : Value} (h : Calls P f args w fun e w' => e = .returned X ∧ w = w') : Made P (Adds (Ent.val (W := W) X) vs w) (.ok (.enter f args) w) :=
  h.mono fun e w' ⟨he, hw⟩ => ⟨_, he, rfl, by subst hw; exact Below.refl _ _, (fun k hk => nomatch hk)⟩
theorem adds_below {f : FuncId} {args : Array Value} {X : Value} (h : Calls P f args w fun e w' => e = .returned X ∧ Below w.heap.size w w') : Made P (Adds (Ent.val (W := W) X) vs w) (.ok (.enter f args) w) :=
  h.mono fun e w' ⟨he, hb⟩ => ⟨_, he, rfl, hb, (fun k hk => nomatch hk)⟩
theorem adds_call {f : FuncId} {args : Array Value} {T : Value → World → Prop} {hT : ∀ v w w', T v w → Below w.heap.size w w' → T v w'} {ob : Value → Option Nat} {Q : Ending → World → Prop} (h : Calls P f args w Q) (hQ : ∀ e w', Q e w' → ∃ v, e = .returned v ∧ T v w' ∧ Below w.heap.size w w' ∧ ∀ k, ob v = some k → w.heap.size ≤ k ∧ k < w'.heap.size) : Made P (Adds (Ent.of (W := W) T hT ob) vs w) (.ok (.enter f args) w) :=
  h.mono fun e w' hq => let ⟨v, he, h1, h2, h3⟩ := hQ e w' hq; ⟨v, he, h1, h2, h3⟩
/-- .. without guarded operations -/
theorem wp_region_adds0 {id : Nat} {a0 : Act} {W : World} {l : List Oper} {Q : Exit → Act → World → Prop} (n : Nat) (ds : Nat → List Nat) (E : Nat → Ent W) (hm : P.follows .mixedOrders = true) (hBB : sepG true l.toArray l.length n ds (fun _ => []) = true) (hb : sepB l.toArray l.length n ds (fun _ => []) = true)
    (hdl : (List.range n).all (fun i => (E i).dl.all ((ds i).contains ·)) = true)
    (hN : (List.range n).all (fun i => match dstOf l.toArray i with | some d => decide (d < a0.tmps.size) | none => true) = true)
    (hstep : ∀ i, i < n → ∀ o, l[i]? = some o → ∀ vs w, Below W.heap.size W w → (∀ j ∈ ds i, (E j).R vs (vs j) w) → Made P (Adds (E i) vs w) ((execOp (frm l.toArray a0 vs (ds i)).eval o).run P w))
    (hend : ∀ vs w, Below W.heap.size W w → (∀ i, i < n → (E i).R vs (vs i) w ∧ ∀ k, (E i).ob (vs i) = some k → W.heap.size ≤ k ∧ k < w.heap.size) → (∀ i, i < n → ∀ i', i' < n → i ≠ i' → ∀ k, (E i).ob (vs i) = some k → (E i').ob (vs i') ≠ some k) → wpList P l.toArray Q (l.drop n) (frm l.toArray a0 vs (List.range n)) w) :
    (Code.region id l.toArray true).wp P Q a0 W :=
  wp_region_adds n ds E hm hBB (fun i hi o ho g b hgb => by rw [sepB_bare hb i hi o (by simpa using ho)] at hgb; cases hgb) hdl hN hstep hend
end
end Go.Proofs.YtaecdpijpdfboaaGreat
