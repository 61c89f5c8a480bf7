/- Maps from int to int, as functions. -/
import Derived.Test.YtjpaogapclfajaaGreatMem
import Derived.Maps.Own
import Derived.Maps.OwnOps
import Derived.Maps.OwnSet
namespace Go.Proofs.YtjpaogapclfajaaGreat
set_option linter.unusedVariables false
set_option linter.unusedSimpArgs false
set_option linter.unusedSectionVars false
open Go.RowKit Go.Maps

def updZ (f : Int → Option Int) (n d : Int) : Int → Option Int := fun k => if k = n then some d else f k

section
variable {P : Program} {k e t : TypeId} {w w' : World} {b n : Nat} {f : Int → Option Int}

/-- Block b is a map of at most n entries that maps as f says. -/
def MapI (P : Program) (k e : TypeId) (w : World) (b n : Nat) (f : Int → Option Int) : Prop :=
  ∃ D : DataW Unit, w.ownsMap P k (plainElem P e) b n D ∧ ∀ x, (Lit.int .i64 x).wf = true → Maps.has D (.int .i64 x) = (f x).isSome ∧ D.atKey (.int .i64 x) (.lit (.int .i64 0)) = .lit (.int .i64 ((f x).getD 0))

theorem MapI.made (P : Program) (k e : TypeId) (w : World) : MapI P k e (w.alloc (.map #[] 0)) w.heap.size 0 (fun _ => none) :=
  ⟨_, World.ownsMap_made _ _ _ _, fun x _ => ⟨rfl, rfl⟩⟩
theorem MapI.mono (h : MapI P k e w b n f) {m : Nat} (hm : n ≤ m) : MapI P k e w b m f := let ⟨D, h1, h2⟩ := h; ⟨D, h1.mono hm, h2⟩
theorem MapI.lt (h : MapI P k e w b n f) : b < w.heap.size := let ⟨_, h1, _⟩ := h; h1.lt
theorem MapI.kept {row : Option Nat} (h : MapI P k e w b n f) (hg : w.grownBy w' row) (hne : some b ≠ row) : MapI P k e w' b n f := let ⟨D, h1, h2⟩ := h; ⟨D, h1.kept hg hne, h2⟩
theorem MapI.alloc (h : MapI P k e w b n f) (o : Obj) : MapI P k e (w.alloc o) b n f := let ⟨D, h1, h2⟩ := h; ⟨D, h1.alloc o, h2⟩
theorem MapI.drew (h : MapI P k e w b n f) : MapI P k e w.drew b n f := h
theorem MapI.drewN (h : MapI P k e w b n f) (i : Nat) : MapI P k e (w.drewN i) b n f := h
theorem MapI.setCell (h : MapI P k e w b n f) {a : Addr} (ha : b ≠ a.block) (u : Value) : MapI P k e (w.setCell a u) b n f := let ⟨D, h1, h2⟩ := h; ⟨D, h1.setCell ha u, h2⟩
theorem MapI.block (h : MapI P k e w b n f) (hb : w'.heap[b]? = w.heap[b]?) : MapI P k e w' b n f := by
  obtain ⟨D, ⟨es, clock, h1, h2⟩, h3⟩ := h
  exact ⟨D, ⟨es, clock, hb.trans h1, h2⟩, h3⟩
theorem MapI.congr {g : Int → Option Int} (h : MapI P k e w b n f) (hg : ∀ x, (Lit.int .i64 x).wf = true → f x = g x) : MapI P k e w b n g :=
  let ⟨D, h1, h2⟩ := h; ⟨D, h1, fun x hx => by rw [← hg x hx]; exact h2 x hx⟩

variable (hk : P.underlying k = some (.int .i64)) (he : P.underlying e = some (.int .i64)) (ht : P.underlying t = some (.map k e)) (hz : ∀ w, (zeroValue e).run P w = .ok (.int .i64 0) w)
include hk he ht

theorem MapI.put (h : MapI P k e w b n f) (hn : n < maxLen) {x y : Int} (hx : (Lit.int .i64 x).wf = true) (hy : (Lit.int .i64 y).wf = true) :
    ∃ w', (Instr.mapUpdate t (.map (some b)) (.int .i64 x) (.int .i64 y)).run P w = .ok () w' ∧ MapI P k e w' b (n + 1) (updZ f x y) ∧ w.grownBy w' (some b) := by
  obtain ⟨D, h1, h2⟩ := h
  obtain ⟨w', r1, r2, r3⟩ := h1.update (int_keyed hk) ht hn (keyOf_int_mk hk hx) (plainElem_int he hy)
  refine ⟨w', r1, ⟨_, r2, fun z hz => ?_⟩, r3⟩
  have hm := h1.isMap
  unfold updZ
  by_cases hzx : z = x
  · subst hzx
    rw [if_pos rfl]
    have hkl : WideAt.IsKeyLit (.int .i64 z) := trivial
    exact ⟨has_put_same hm hkl _, atKey_put_same hm hkl _ _⟩
  · rw [if_neg hzx]
    have hne : (Lit.int .i64 z) ≠ Lit.int .i64 x := by intro hh; injection hh with _ hh; exact hzx hh
    rw [has_put_other hne, atKey_put_other hne]
    exact h2 z hz

theorem wpList_map_put {ops : Array Oper} {rest : List Oper} {o : Oper} {a : Act} {Q : Exit → Act → World → Prop}
    (hg : o.guard = none) {m x v : Operand} (hop : o.op = Op.mapUpdate t m x v) (h : MapI P k e w b n f) (hn : n < maxLen) {i j : Int}
    (hm : a.eval m = .map (some b)) (hi : a.eval x = .int .i64 i) (hj : a.eval v = .int .i64 j) (wi : (Lit.int .i64 i).wf = true) (wj : (Lit.int .i64 j).wf = true)
    (hK : ∀ w', MapI P k e w' b (n + 1) (updZ f i j) → w.grownBy w' (some b) → wpList P ops Q rest (a.put o.dst undef) w') :
    wpList P ops Q (o :: rest) a w := by
  obtain ⟨w', r1, r2, r3⟩ := h.put hk he ht hn wi wj
  refine wpList_plain hg fun K' hK' => ?_
  unfold Oper.wp execOp
  simp only [hop, hm, hi, hj, Sem.run_bind, r1, Result.andThen_ok]
  exact hK' _ _ (hK w' r2 r3)

include hz
theorem MapI.look (h : MapI P k e w b n f) {x : Int} (hx : (Lit.int .i64 x).wf = true) : (Instr.lookup t (.map (some b)) (.int .i64 x) false).run P w = .ok (.int .i64 ((f x).getD 0)) w := by
  obtain ⟨D, h1, h2⟩ := h
  obtain ⟨c, r1, r2, _⟩ := h1.lookup_int (int_keyed hk) ht he (hz w) (keyOf_int_mk hk hx)
  rw [(h2 x hx).2] at r2
  injection r2 with r2
  injection r2 with _ r2
  rw [r1, r2]
theorem MapI.look_ok (h : MapI P k e w b n f) {x : Int} (hx : (Lit.int .i64 x).wf = true) : (Instr.lookup t (.map (some b)) (.int .i64 x) true).run P w = .ok (.tuple #[.int .i64 ((f x).getD 0), .bool (f x).isSome]) w := by
  obtain ⟨D, h1, h2⟩ := h
  obtain ⟨v, ps, r1, r2⟩ := h1.look_ok (int_keyed hk) ht (hz w) (plainElem_int he (by decide)) (keyOf_int_mk hk hx)
  obtain ⟨c, rfl, hc, _⟩ := plainElem_int_inv he r2
  rw [(h2 x hx).1] at r1
  rw [(h2 x hx).2] at hc
  simp only [Prod.mk.injEq] at hc
  have := hc.1
  injection this with this
  injection this with _ this
  rw [r1, this]
theorem wpList_map_look {ops : Array Oper} {rest : List Oper} {o : Oper} {a : Act} {Q : Exit → Act → World → Prop}
    (hg : o.guard = none) {m x : Operand} (hop : o.op = Op.lookup t m x false) (h : MapI P k e w b n f) {i : Int}
    (hm : a.eval m = .map (some b)) (hi : a.eval x = .int .i64 i) (wi : (Lit.int .i64 i).wf = true)
    (hK : wpList P ops Q rest (a.put o.dst (.int .i64 ((f i).getD 0))) w) :
    wpList P ops Q (o :: rest) a w := by
  refine wpList_plain hg fun K' hK' => ?_
  unfold Oper.wp execOp
  simp only [hop, hm, hi, Sem.run_bind, h.look hk he ht hz wi, Result.andThen_ok]
  exact hK' _ _ hK
theorem wpList_map_look_ok {ops : Array Oper} {rest : List Oper} {o : Oper} {a : Act} {Q : Exit → Act → World → Prop}
    (hg : o.guard = none) {m x : Operand} (hop : o.op = Op.lookup t m x true) (h : MapI P k e w b n f) {i : Int}
    (hm : a.eval m = .map (some b)) (hi : a.eval x = .int .i64 i) (wi : (Lit.int .i64 i).wf = true)
    (hK : wpList P ops Q rest (a.put o.dst (.tuple #[.int .i64 ((f i).getD 0), .bool (f i).isSome])) w) :
    wpList P ops Q (o :: rest) a w := by
  refine wpList_plain hg fun K' hK' => ?_
  unfold Oper.wp execOp
  simp only [hop, hm, hi, Sem.run_bind, h.look_ok hk he ht hz wi, Result.andThen_ok]
  exact hK' _ _ hK
end
end Go.Proofs.YtjpaogapclfajaaGreat
