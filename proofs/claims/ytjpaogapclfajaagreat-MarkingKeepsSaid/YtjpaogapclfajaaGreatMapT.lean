/- Maps from int to bool that hold nothing but true: sets of ints. -/
import Derived.Test.YtjpaogapclfajaaGreatMem
import Derived.Maps.Own
import Derived.Maps.OwnOps
import Derived.Maps.OwnSet
namespace Go.Proofs.YtjpaogapclfajaaGreat
set_option linter.unusedVariables false
set_option linter.unusedSimpArgs false
set_option linter.unusedSectionVars false
open Go.RowKit Go.Maps

def insB (f : Int → Bool) (n : Int) : Int → Bool := fun k => if k = n then true else f k

theorem plainElem_bool_inv {P : Program} {e : TypeId} (he : P.underlying e = some .bool) {v : Value} {z : DataW Unit × List MemPlace} (h : plainElem P e v = some z) : ∃ x, v = .bool x ∧ z = (.lit (.bool x), []) := by
  unfold plainElem at h
  rw [he] at h
  cases v <;> simp at h
  subst h
  exact ⟨_, rfl, rfl⟩

section
variable {P : Program} {k e t : TypeId} {w w' : World} {b n : Nat} {f : Int → Bool}

/-- Block b is a map of at most n entries whose keys are those of f, each of them with the value true. -/
def MapT (P : Program) (k e : TypeId) (w : World) (b n : Nat) (f : Int → Bool) : Prop :=
  ∃ D : DataW Unit, w.ownsMap P k (plainElem P e) b n D ∧ ∀ x, (Lit.int .i64 x).wf = true → Maps.has D (.int .i64 x) = f x ∧ D.atKey (.int .i64 x) (.lit (.bool false)) = .lit (.bool (f x))

theorem MapT.made (P : Program) (k e : TypeId) (w : World) : MapT P k e (w.alloc (.map #[] 0)) w.heap.size 0 (fun _ => false) :=
  ⟨_, World.ownsMap_made _ _ _ _, fun x _ => ⟨rfl, rfl⟩⟩
theorem MapT.mono (h : MapT P k e w b n f) {m : Nat} (hm : n ≤ m) : MapT P k e w b m f := let ⟨D, h1, h2⟩ := h; ⟨D, h1.mono hm, h2⟩
theorem MapT.lt (h : MapT P k e w b n f) : b < w.heap.size := let ⟨_, h1, _⟩ := h; h1.lt
theorem MapT.block (h : MapT P k e w b n f) (hb : w'.heap[b]? = w.heap[b]?) : MapT P k e w' b n f := by
  obtain ⟨D, ⟨es, clock, h1, h2⟩, h3⟩ := h
  exact ⟨D, ⟨es, clock, hb.trans h1, h2⟩, h3⟩
theorem MapT.congr {g : Int → Bool} (h : MapT P k e w b n f) (hg : ∀ x, (Lit.int .i64 x).wf = true → f x = g x) : MapT P k e w b n g :=
  let ⟨D, h1, h2⟩ := h; ⟨D, h1, fun x hx => by rw [← hg x hx]; exact h2 x hx⟩

variable (hk : P.underlying k = some (.int .i64)) (he : P.underlying e = some .bool) (ht : P.underlying t = some (.map k e)) (hz : ∀ w, (zeroValue e).run P w = .ok (.bool false) w)
include hk he ht

theorem MapT.put (h : MapT P k e w b n f) (hn : n < maxLen) {x : Int} (hx : (Lit.int .i64 x).wf = true) :
    ∃ w', (Instr.mapUpdate t (.map (some b)) (.int .i64 x) (.bool true)).run P w = .ok () w' ∧ MapT P k e w' b (n + 1) (insB f x) ∧ w.grownBy w' (some b) := by
  obtain ⟨D, h1, h2⟩ := h
  obtain ⟨w', r1, r2, r3⟩ := h1.update (int_keyed hk) ht hn (keyOf_int_mk hk hx) (plainElem_bool he true)
  refine ⟨w', r1, ⟨_, r2, fun z hz => ?_⟩, r3⟩
  have hm := h1.isMap
  unfold insB
  by_cases hzx : z = x
  · subst hzx
    rw [if_pos rfl]
    have hkl : WideAt.IsKeyLit (.int .i64 z) := trivial
    exact ⟨has_put_same hm hkl _, atKey_put_same hm hkl _ _⟩
  · rw [if_neg hzx]
    have hne : (Lit.int .i64 z) ≠ Lit.int .i64 x := by intro hh; injection hh with _ hh; exact hzx hh
    rw [has_put_other hne, atKey_put_other hne]
    exact h2 z hz
theorem wpList_set_put {ops : Array Oper} {rest : List Oper} {o : Oper} {a : Act} {Q : Exit → Act → World → Prop}
    (hg : o.guard = none) {m x v : Operand} (hop : o.op = Op.mapUpdate t m x v) (h : MapT P k e w b n f) (hn : n < maxLen) {i : Int}
    (hm : a.eval m = .map (some b)) (hi : a.eval x = .int .i64 i) (hj : a.eval v = .bool true) (wi : (Lit.int .i64 i).wf = true)
    (hK : ∀ w', MapT P k e w' b (n + 1) (insB f i) → w.grownBy w' (some b) → wpList P ops Q rest (a.put o.dst undef) w') :
    wpList P ops Q (o :: rest) a w := by
  obtain ⟨w', r1, r2, r3⟩ := h.put hk he ht hn wi
  refine wpList_plain hg fun K' hK' => ?_
  unfold Oper.wp execOp
  simp only [hop, hm, hi, hj, Sem.run_bind, r1, Result.andThen_ok]
  exact hK' _ _ (hK w' r2 r3)
include hz
theorem MapT.look (h : MapT P k e w b n f) {x : Int} (hx : (Lit.int .i64 x).wf = true) : (Instr.lookup t (.map (some b)) (.int .i64 x) false).run P w = .ok (.bool (f x)) w := by
  obtain ⟨D, h1, h2⟩ := h
  obtain ⟨v, ps, r1, r2⟩ := h1.lookup (int_keyed hk) ht (hz w) (plainElem_bool he false) (keyOf_int_mk hk hx)
  obtain ⟨c, rfl, hc⟩ := plainElem_bool_inv he r2
  rw [(h2 x hx).2] at hc
  simp only [Prod.mk.injEq] at hc
  have := hc.1
  injection this with this
  injection this with this
  rw [r1, this]
end
end Go.Proofs.YtjpaogapclfajaaGreat
