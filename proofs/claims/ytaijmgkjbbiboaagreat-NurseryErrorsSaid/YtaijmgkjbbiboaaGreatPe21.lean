/- Parts of the proof: SepP, BarQ, StepH, Map, MarkA, MarkV, RBldA. -/
import Derived.BigQuiet
import Derived.Deep.AppendLies
import Derived.Deep.DeepCutAuto
import Derived.Deep.QuietTactic
import Derived.Maps.AppendAt
import Derived.Maps.Own
import Derived.Maps.OwnOps
import Derived.Maps.OwnSet
import Derived.Test.YtaijmgkjbbiboaaGreatPeA
import Derived.Test.YtaijmgkjbbiboaaGreatPe0
import Derived.Test.YtaijmgkjbbiboaaGreatPe14
import Derived.Test.YtaijmgkjbbiboaaGreatPe15
import Derived.Test.YtaijmgkjbbiboaaGreatPe16
import Derived.Test.YtaijmgkjbbiboaaGreatPe17
import Derived.Test.YtaijmgkjbbiboaaGreatPe18
import Derived.Test.YtaijmgkjbbiboaaGreatPe19
import Derived.Test.YtaijmgkjbbiboaaGreatPe20
import Derived.Test.YtaijmgkjbbiboaaGreatPe7
set_option linter.unusedVariables false
set_option linter.unusedSimpArgs false
set_option linter.unusedSectionVars false
set_option maxRecDepth 100000
namespace Go.Proofs.YtaijmgkjbbiboaaGreat
section
open Go.RowKit
theorem phase2_all {P : Program} {a0 : Act} {W : World} {l : List Oper} {Q : Exit → Act → World → Prop} (m n : Nat) (ds : Nat → List Nat) (E : Nat → Ent W) (hBB : sepG true l.toArray l.length n ds (fun _ => []) (fun _ => true) 2 = true) (hn : l.length = n) (hmn : m ≤ n) (hb : bareB l n = true)
  (hdl : (List.range n).all (fun i => (E i).dl.all ((ds i).contains ·)) = true)
  (hN : (List.range n).all (fun i => match dstOf l.toArray i with | some d => decide (d < a0.tmps.size) | none => true) = true)
  (h0 : ∀ i, i < m → (E i).R (fun j => match dstOf l.toArray j with | some d => a0.tmps.getD d undef | none => undef) (match dstOf l.toArray i with | some d => a0.tmps.getD d undef | none => undef) W ∧ ∀ v, (E i).ob v = none)
  (hstep : ∀ i, m ≤ i → i < n → ∀ o, l[i]? = some o → ∀ vs w, Below W.heap.size W w → (∀ j ∈ ds i, (E j).R vs (vs j) w) → Made P (Adds (E i) vs w) ((execOp (frm l.toArray a0 vs (ds i)).eval o).run P w))
  (hend : ∀ vs w, Below W.heap.size W w → (∀ i, i < n → (E i).R vs (vs i) w ∧ ∀ k, (E i).ob (vs i) = some k → W.heap.size ≤ k ∧ k < w.heap.size) → (∀ i, i < n → ∀ i', i' < n → i ≠ i' → ∀ k, (E i).ob (vs i) = some k → (E i').ob (vs i') ≠ some k) → wpList P l.toArray Q [] (frm l.toArray a0 vs (List.range n)) w) :
  Phase2 P l.toArray Q m a0 W := by
 have hs := SepB.ofG hBB
 have hN' : ∀ i, i < n → ∀ d, dstOf l.toArray i = some d → d < a0.tmps.size := fun i hi d hd => by
  have := List.all_eq_true.1 hN i (List.mem_range.2 hi)
  rw [hd] at this
  simpa using this
 have key : ∀ (f : Nat) (L : Array Bool) (a : Act) (w : World) (vs : Nat → Value), SInv l.toArray l.length n (fun _ => []) (fun i => (E i).R) (fun i => (E i).ob) W W.heap.size (fun _ => none) a0 vs L a w → (∀ j, j < m → L.getD j false = true) → ((List.range l.length).filter fun i => !L.getD i true).length = f → wpAny P .any l.toArray Q f L a w := by
  intro f
  induction f with
  | zero =>
   intro L a w vs inv hm hf
   have hall : ∀ j, j < n → L.getD j false = true := fun j hj => by
    cases h1 : L.getD j false with
    | true => rfl
    | false =>
     have h2 : L.getD j true = false := getD_in (by rw [inv.lsize]; omega) h1
     have : j ∈ (List.range l.length).filter fun i => !L.getD i true := List.mem_filter.2 ⟨List.mem_range.2 (by omega), by rw [h2]; rfl⟩
     rw [List.length_eq_zero_iff.1 hf] at this
     cases this
   have hae : a = frm l.toArray a0 vs (List.range n) := by
    have h1 : a.tmps = (frm l.toArray a0 vs (List.range n)).tmps := by
     refine Array.ext_getElem? fun d => ?_
     by_cases h : ∃ j, j < n ∧ dstOf l.toArray j = some d
     ·obtain ⟨j, hj, hjd⟩ := h
      rw [frm_slot hs vs (List.range n) (fun k hk => List.mem_range.1 hk) j (List.mem_range.2 hj) d hjd (hN' j hj d hjd), inv.slot j hj (hall j hj) d hjd (hN' j hj d hjd)]
     ·rw [frm_rest vs (List.range n) d fun j hj hjd => h ⟨j, List.mem_range.1 hj, hjd⟩, inv.rest d fun j hj _ hjd => h ⟨j, hj, hjd⟩]
    have h2 : a.defers = (frm l.toArray a0 vs (List.range n)).defers := by rw [frm_defers, inv.defers]
    cases a
    cases hq : frm l.toArray a0 vs (List.range n)
    rw [hq] at h1 h2
    simp only at h1 h2
    rw [h1, h2]
   refine ⟨List.eq_nil_iff_forall_not_mem.2 fun j hj => ?_, ?_⟩
   ·have h0 := (mem_ready.1 hj).1
    have hlt := ready_lt hj
    rw [getD_both' hlt (hall j (by rw [inv.lsize] at hlt; omega))] at h0
    cases h0
   ·rw [hae]
    exact hend vs w inv.below (fun j hj => inv.holds j hj (hall j hj) fun m _ _ h => by cases h) fun j hj j' hj' hne => inv.apart j hj (hall j hj) (fun m _ _ h => by cases h) j' hj' (hall j' hj') (fun m _ _ h => by cases h) hne
  | succ f ih =>
   intro L a w vs inv hm hf
   refine ⟨fun h0 => ?_, fun i hr => ?_⟩
   ·exfalso
    obtain ⟨j, hj⟩ : ∃ j, j ∈ (List.range l.length).filter fun i => !L.getD i true := by
     cases hl : (List.range l.length).filter fun i => !L.getD i true with
     | nil => rw [hl] at hf; cases hf
     | cons j l => exact ⟨j, List.mem_cons_self ..⟩
    obtain ⟨h1, h2⟩ := List.mem_filter.1 hj
    obtain ⟨i, _, h4, _⟩ := least_ready hs inv.lsize (List.mem_range.1 h1) (getD_both (by simpa using h2))
    rw [h0] at h4
    cases h4
   ·have hcnt := count_step inv.lsize hr hf
    have hlt := ready_lt hr
    rw [inv.lsize] at hlt
    have hin : i < n := by omega
    obtain ⟨hun, o, ho, hall⟩ := mem_ready.1 hr
    have hmi : m ≤ i := by
     rcases Nat.lt_or_ge i m with h | h
     ·have := hm i h
      rw [getD_both hun] at this
      cases this
     ·exact h
    have hol : l[i]? = some o := by simpa using ho
    have hg : o.guard = none := by
     have := List.all_eq_true.1 hb i (List.mem_range.2 hin)
     rw [hol] at this
     simpa using this
    unfold wpOp
    rw [ho]
    simp only []
    rw [if_pos (by simp [Region.wanted, hg])]
    refine .inl ?_
    have hdo : dstOf l.toArray i = o.dst := by unfold dstOf; rw [ho]; rfl
    have hsel := Region.noSelect_spec hs.sel
    have hex : execOp a.eval o = execOp (frm l.toArray a0 vs (ds i)).eval o := execOp_congr o (fun cs b => hsel i o cs b ho) (put_operand fun d hd => by
     have hdl : ∀ j ∈ ds i, L.getD j false = true := fun j hj => waits_listed hr (hs.dep i hin j hj)
     have hdlt : ∀ j ∈ ds i, j < n := fun j hj => by
      have hw := hs.dep i hin j hj
      unfold waits at hw
      rw [ho] at hw
      obtain ⟨e, he, hb⟩ := Array.any_eq_true'.1 hw
      simp only [Bool.and_eq_true, beq_iff_eq] at hb
      have := hs.back i (by have := hs.le; omega) o ho e he hb.1
      omega
     by_cases h : ∃ j, j < n ∧ dstOf l.toArray j = some d
     ·obtain ⟨j, hj, hjd⟩ := h
      have hm := hs.opnd i hin o ho d hd j hj hjd
      rw [frm_slot hs vs (ds i) hdlt j hm d hjd (hN' j hj d hjd), inv.slot j hj (hdl j hm) d hjd (hN' j hj d hjd)]
     ·rw [frm_rest vs (ds i) d fun j hj hjd => h ⟨j, hdlt j hj, hjd⟩, inv.rest d fun j hj _ hjd => h ⟨j, hj, hjd⟩])
    have hg2 := inv.given hs hin hr
    refine wp_of_made (T := LaysB (fun j => (E j).R vs) (fun j => (E j).ob) W.heap.size (fun _ => none) vs [] i w) (by
     rw [hex]
     exact (hstep i hmi hin o hol vs w hg2.2.1 fun j hj => (hg2.2.2.1 j hj).1).mono fun v w' h => ⟨h.1, h.2.1.os, h.2.1.tape, h.2.1.output, h.2.1.size, fun k hk _ => h.2.1.block k hk, fun k hk => ⟨(h.2.2 k hk).2, Nat.le_trans hg2.2.1.size (h.2.2 k hk).1, .inl (h.2.2 k hk).1⟩⟩) fun v w' hl => ?_
    have inv' := inv.step hs (fun i vs vs' v w hi hj h => (E i).dep vs vs' v w (fun j hj' => hj j (by
     have := List.all_eq_true.1 (List.all_eq_true.1 hdl i (List.mem_range.2 hi)) j hj'
     simpa using this)) h) (fun i vs v w w' _ hR hb hb' _ _ hx => (E i).loc vs v w w' hR hb (hx fun _ => rfl)) hin hr hl
    rw [hdo] at inv'
    exact ih _ _ _ _ inv' (fun j hj => getD_set_true (hm j hj)) hcnt
 intro L hL hl1 hl2 f hf
 have hls : ∀ j, j < n → L.getD j false = true → j < m := fun j hj h => by
  rcases Nat.lt_or_ge j m with h1 | h1
  ·exact h1
  ·have := getD_both (hl2 j h1 (by rw [hs.size]; have := hs.le; omega))
   rw [h] at this
   cases this
 refine key f L a0 W (fun j => match dstOf l.toArray j with | some d => a0.tmps.getD d undef | none => undef)
  ⟨rfl, rfl, fun i hi h d hd hd' => ?_, fun _ _ => rfl, ⟨rfl, rfl, rfl, Nat.le_refl _, fun _ _ => rfl⟩, (fun i hi h _ => ⟨(h0 i (hls i hi h)).1, fun k hk => by rw [(h0 i (hls i hi h)).2] at hk; cases hk⟩), (fun i hi h _ i' hi' h' _ _ k hk => by rw [(h0 i (hls i hi h)).2] at hk; cases hk), (by rw [hL, hs.size]), fun j hj hj' => hl2 j (by omega) (by rw [hs.size]; exact hj'), Nat.le_refl _, (fun _ _ h => by cases h), (fun _ _ _ h => by cases h), (fun _ _ _ _ => rfl), (fun i _ k hk => by cases hk), fun k hk hkl i hw => ?_, (fun _ _ _ => rfl), (fun i hi h _ k hk => by rw [(h0 i (hls i hi h)).2] at hk; cases hk)⟩ hl1 (by simpa using hf)
 ·have : (a0.tmps)[d]? = some (a0.tmps.getD d undef) := by simp [hd']
  rw [this]
  simp only [hd]
 ·have hkm := hls k hk hkl
  have hwk := hw
  unfold waits at hwk
  cases hok : l.toArray[k]? with
  | none => rw [hok] at hwk; cases hwk
  | some o =>
   rw [hok] at hwk
   obtain ⟨e, he, hb⟩ := Array.any_eq_true'.1 hwk
   simp only [Bool.and_eq_true, beq_iff_eq] at hb
   have := hs.back k (by have := hs.le; omega) o hok e he hb.1
   exact hl1 i (by omega)
end
section
open Go.RowKit
structure FindI (s : St) : Prop where
 ok : s.m.Ok
 til : s.m.old.walk.2 = s.m.old.ws.length
 mem : ∀ x ∈ s.xs, x < 16777216 → x ∈ s.m.old.objs
theorem Spc.walkN_len (s : Spc) : ∀ f i, (s.walkN f i).1.length ≤ f
 | 0, i => Nat.le_refl _
 | f + 1, i => by
  unfold Spc.walkN
  split
  ·exact Nat.zero_le _
  ·exact Nat.succ_le_succ (Spc.walkN_len s f _)
theorem slotN_31 {m : Mm} (a : Int) : (slotN (m.hdr a).2).toNat ≤ 31 := by
 by_cases h : (m.hdr a).1 = 0
 ·have := vH_bound (Mm.hdr_valid h)
  unfold slotN
  split
  ·omega
  ·split <;> omega
 ·rw [Mm.hdr_zero h]
  decide
theorem flatMap_len {α β : Type} (f : α → List β) (c : Nat) : ∀ l : List α, (∀ a ∈ l, (f a).length ≤ c) → (l.flatMap f).length ≤ l.length * c
 | [], _ => by simp
 | a :: l, h => by
  rw [List.flatMap_cons, List.length_append, List.length_cons, Nat.succ_mul]
  have h1 := h a (List.mem_cons_self ..)
  have h2 := flatMap_len f c l fun b hb => h b (List.mem_cons_of_mem _ hb)
  omega
end
section
open Go.RowKit Go.Sort Go.Shelf
attribute [local go_sem] Oper.semAt_some
def OpV.cells (o : OpV) : Array Value := #[.int .u8 o.k, .int .i64 o.h.k, .int .i64 o.h.c, .int .i64 o.h.f, .int .i64 o.a, .int .i64 o.b, .int .i64 o.i, .int .u64 o.w, .bool o.r]
structure OpV.Ok (o : OpV) : Prop where
 k0 : 0 ≤ o.k
 k1 : o.k ≤ 255
 a0 : -9223372036854775808 ≤ o.a
 a1 : o.a ≤ 9223372036854775807
 b0 : -9223372036854775808 ≤ o.b
 b1 : o.b ≤ 9223372036854775807
 w : U64 o.w
theorem RC.form {w : World} {cs : List Int} {A : Option Addr} {c : Nat} (h : RC w cs A c) : A = none ∨ ∃ b o, A = some ⟨b, o, none⟩ ∧ b < w.heap.size := by
 rcases h.s.sl.2 with h0 | ⟨b, o, e, hb, _⟩
 ·exact .inl (h.n (List.length_eq_zero_iff.1 h0)).1
 ·exact .inr ⟨b, o, e, hb⟩
section
variable {w : World} {B k : Nat} {L : LP} {s : St}
end
end
section
open Go.RowKit Go.Sort Go.Shelf
end
section
open Go.RowKit Go.Maps
def updZ (f : Int → Option Int) (n d : Int) : Int → Option Int := fun k => if k = n then some d else f k
section
variable {P : Program} {k e t : TypeId} {w w' : World} {b n : Nat} {f : Int → Option Int}
/-- Block b is a map of at most n entries that maps as f says. -/
def MapI (P : Program) (k e : TypeId) (w : World) (b n : Nat) (f : Int → Option Int) : Prop :=
 ∃ D : DataW Unit, w.ownsMap P k (plainElem P e) b n D ∧ ∀ x, (Lit.int .i64 x).wf = true → Maps.has D (.int .i64 x) = (f x).isSome ∧ D.atKey (.int .i64 x) (.lit (.int .i64 0)) = .lit (.int .i64 ((f x).getD 0))
theorem MapI.made (P : Program) (k e : TypeId) (w : World) : MapI P k e (w.alloc (.map #[] 0)) w.heap.size 0 (fun _ => none) :=
 ⟨_, World.ownsMap_made _ _ _ _, fun x _ => ⟨rfl, rfl⟩⟩
theorem MapI.mono (h : MapI P k e w b n f) {m : Nat} (hm : n ≤ m) : MapI P k e w b m f := let ⟨D, h1, h2⟩ := h; ⟨D, h1.mono hm, h2⟩
theorem MapI.lt (h : MapI P k e w b n f) : b < w.heap.size := let ⟨_, h1, _⟩ := h; h1.lt
theorem MapI.block (h : MapI P k e w b n f) (hb : w'.heap[b]? = w.heap[b]?) : MapI P k e w' b n f := by
 obtain ⟨D, ⟨es, clock, h1, h2⟩, h3⟩ := h
 exact ⟨D, ⟨es, clock, hb.trans h1, h2⟩, h3⟩
theorem MapI.congr {g : Int → Option Int} (h : MapI P k e w b n f) (hg : ∀ x, (Lit.int .i64 x).wf = true → f x = g x) : MapI P k e w b n g :=
 let ⟨D, h1, h2⟩ := h; ⟨D, h1, fun x hx => by rw [← hg x hx]; exact h2 x hx⟩
variable (hk : P.underlying k = some (.int .i64)) (he : P.underlying e = some (.int .i64)) (ht : P.underlying t = some (.map k e)) (hz : ∀ w, (zeroValue e).run P w = .ok (.int .i64 0) w)
include hk he ht
theorem MapI.put (h : MapI P k e w b n f) (hn : n < maxLen) {x y : Int} (hx : (Lit.int .i64 x).wf = true) (hy : (Lit.int .i64 y).wf = true) :
  ∃ w', (Instr.mapUpdate t (.map (some b)) (.int .i64 x) (.int .i64 y)).run P w = .ok () w' ∧ MapI P k e w' b (n + 1) (updZ f x y) ∧ w.grownBy w' (some b) := by
 obtain ⟨D, h1, h2⟩ := h
 obtain ⟨w', r1, r2, r3⟩ := h1.update (int_keyed hk) ht hn (keyOf_int_mk hk hx) (plainElem_int he hy)
 refine ⟨w', r1, ⟨_, r2, fun z hz => ?_⟩, r3⟩
 have hm := h1.isMap
 unfold updZ
 by_cases hzx : z = x
 ·subst hzx
  rw [if_pos rfl]
  have hkl : WideAt.IsKeyLit (.int .i64 z) := trivial
  exact ⟨has_put_same hm hkl _, atKey_put_same hm hkl _ _⟩
 ·rw [if_neg hzx]
  have hne : (Lit.int .i64 z) ≠ Lit.int .i64 x := by intro hh; injection hh with _ hh; exact hzx hh
  rw [has_put_other hne, atKey_put_other hne]
  exact h2 z hz
theorem wpList_map_put {ops : Array Oper} {rest : List Oper} {o : Oper} {a : Act} {Q : Exit → Act → World → Prop}
  (hg : o.guard = none) {m x v : Operand} (hop : o.op = Op.mapUpdate t m x v) (h : MapI P k e w b n f) (hn : n < maxLen) {i j : Int}
  (hm : a.eval m = .map (some b)) (hi : a.eval x = .int .i64 i) (hj : a.eval v = .int .i64 j) (wi : (Lit.int .i64 i).wf = true) (wj : (Lit.int .i64 j).wf = true)
  (hK : ∀ w', MapI P k e w' b (n + 1) (updZ f i j) → w.grownBy w' (some b) → wpList P ops Q rest (a.put o.dst undef) w') :
  wpList P ops Q (o :: rest) a w := by
 obtain ⟨w', r1, r2, r3⟩ := h.put hk he ht hn wi wj
 refine wpList_plain hg fun K' hK' => ?_
 unfold Oper.wp execOp
 simp only [hop, hm, hi, hj, Sem.run_bind, r1, Result.andThen_ok]
 exact hK' _ _ (hK w' r2 r3)
include hz
theorem MapI.look (h : MapI P k e w b n f) {x : Int} (hx : (Lit.int .i64 x).wf = true) : (Instr.lookup t (.map (some b)) (.int .i64 x) false).run P w = .ok (.int .i64 ((f x).getD 0)) w := by
 obtain ⟨D, h1, h2⟩ := h
 obtain ⟨c, r1, r2, _⟩ := h1.lookup_int (int_keyed hk) ht he (hz w) (keyOf_int_mk hk hx)
 rw [(h2 x hx).2] at r2
 injection r2 with r2
 injection r2 with _ r2
 rw [r1, r2]
theorem MapI.look_ok (h : MapI P k e w b n f) {x : Int} (hx : (Lit.int .i64 x).wf = true) : (Instr.lookup t (.map (some b)) (.int .i64 x) true).run P w = .ok (.tuple #[.int .i64 ((f x).getD 0), .bool (f x).isSome]) w := by
 obtain ⟨D, h1, h2⟩ := h
 obtain ⟨v, ps, r1, r2⟩ := h1.look_ok (int_keyed hk) ht (hz w) (plainElem_int he (by decide)) (keyOf_int_mk hk hx)
 obtain ⟨c, rfl, hc, _⟩ := plainElem_int_inv he r2
 rw [(h2 x hx).1] at r1
 rw [(h2 x hx).2] at hc
 simp only [Prod.mk.injEq] at hc
 have := hc.1
 injection this with this
 injection this with _ this
 rw [r1, this]
end
end
section
open Go.RowKit Go.Maps
attribute [local go_sem] Oper.semAt_some
theorem hKI : Tryz.prog.underlying 3 = some (.int .i64) := by kernel_rfl
theorem hMI : Tryz.prog.underlying 104 = some (.map 3 3) := by kernel_rfl
theorem hZI (w : World) : (zeroValue 3).run Tryz.prog w = .ok (.int .i64 0) w := by kernel_rfl
/-- the memory whose old space is a space -/
def Mm.one (s : Spc) : Mm := ⟨s, Spc.new 16777216 0⟩
theorem MapI.ne_bk {P : Program} {k e t : TypeId} {w : World} {b n g : Nat} {f : Int → Option Int} {cs : Array Value} (h : MapI P k e w b n f) (hk : Bk w g t cs) : g ≠ b := fun e => by
 subst e
 obtain ⟨D, ⟨es, clock, h1, _⟩, _⟩ := h
 unfold Bk at hk
 rw [h1] at hk
 cases hk
theorem MapI.ne_own {P : Program} {k e t : TypeId} {w : World} {b n B s m : Nat} {f : Int → Option Int} {V : Value} {xs : List Value} (h : MapI P k e w b n f) (hl : w.ownsRow B t s V m xs) : V.ownBlock ≠ some b := fun he => by
 obtain ⟨_, ⟨rfl, _⟩ | ⟨g', cap, cur, rfl, _, h4, _⟩⟩ := hl
 ·cases he
 ·injection he with he; exact h.ne_bk (show Bk w g' _ cur from h4) he
section
variable {w : World} {B g1 g2 : Nat} {V1 V2 : Value} {m : Mm}
end
section
variable {w : World} {B g1 g2 Bm g b n : Nat} {V1 V2 : Value} {m : Mm} {f : Int → Option Int} {ws : Int}
theorem MHdr_of (h : MR w B g1 g2 V1 V2 m) (a : Int) : Calls Tryz.prog 21 #[.agg #[.pointer (some ⟨g1, 0, none⟩), .pointer (some ⟨g2, 0, none⟩)], .int .i64 a] w fun e w' => e = .returned (.tuple #[.agg #[.int .i64 (m.hdr a).2.k, .int .i64 (m.hdr a).2.c, .int .i64 (m.hdr a).2.f], .int .i64 (m.hdr a).1]) ∧ Below w.heap.size w w' := MHeader_any h a
end
end
section
open Go.RowKit Go.Maps
attribute [local go_sem] Oper.semAt_some
theorem Tryz.infoI : (Tryz.prog.info? 3).map (fun i => (i.zero, i.size, i.bytes)) = some (some (.int .i64 0), 1, 8) := by kernel_rfl
/-- the row behind block N does not lie in block T -/
def ApartR (w : World) (N T : Nat) : Prop := ∀ v, w.cell? ⟨N, 0, none⟩ = some v → v.ownBlock ≠ some T
/-- what the closure leaves alone -/
structure FR (Ns g b : Nat) (w w' : World) : Prop where
 sz : w.heap.size ≤ w'.heap.size
 bk : ∀ T, T < w.heap.size → T ≠ g → T ≠ b → T ≠ Ns → ApartR w Ns T → w'.heap[T]? = w.heap[T]? ∧ ApartR w' Ns T
section
variable {Ns g b : Nat} {w w1 w2 : World}
theorem FR.refl : FR Ns g b w w := ⟨Nat.le_refl _, fun T _ _ _ _ h => ⟨rfl, h⟩⟩
theorem FR.trans (h : FR Ns g b w w1) (h' : FR Ns g b w1 w2) : FR Ns g b w w2 :=
 ⟨Nat.le_trans h.sz h'.sz, fun T h0 h1 h2 h3 h4 => by
  obtain ⟨e1, a1⟩ := h.bk T h0 h1 h2 h3 h4
  obtain ⟨e2, a2⟩ := h'.bk T (Nat.lt_of_lt_of_le h0 h.sz) h1 h2 h3 a1
  exact ⟨e2.trans e1, a2⟩⟩
theorem FR.kp (hk : Kp (fun k => k = g ∨ k = b) w w1) (hN : Ns < w.heap.size) (h1 : Ns ≠ g) (h2 : Ns ≠ b) : FR Ns g b w w1 :=
 ⟨hk.size, fun T h0 t1 t2 _ h4 => ⟨hk.block T h0 (fun e => e.elim t1 t2), fun v hv => h4 v (by
  rw [← hv]
  exact (World.cell?_of_block (w := w) (a := ⟨Ns, 0, none⟩) (hk.block Ns hN fun e => e.elim h1 h2)).symm)⟩⟩
theorem FR.below (hb : Below w.heap.size w w1) (hN : Ns < w.heap.size) : FR Ns g b w w1 :=
 ⟨hb.size, fun T h0 _ _ _ h4 => ⟨hb.block T h0, fun v hv => h4 v (by
  rw [← hv]
  exact (World.cell?_of_block (w := w) (a := ⟨Ns, 0, none⟩) (hb.block Ns hN)).symm)⟩⟩
end
theorem ownRow_bk {w : World} {B g n s : Nat} {e t : TypeId} {V : Value} {xs : List Value} {c : Array Value} (hl : w.ownsRow B e s V n xs) (h : Bk w g t c) (ht : t ≠ e) : V.ownBlock ≠ some g := fun he => by
 obtain ⟨_, ⟨rfl, _⟩ | ⟨g2, cap, cur, rfl, _, h4, _⟩⟩ := hl
 ·cases he
 ·injection he with he
  change g2 = g at he
  rw [he] at h4
  unfold Bk at h
  rw [h] at h4
  injection h4 with h4
  injection h4 with _ h4
  exact ht h4
theorem Bk.neT {w : World} {g g' : Nat} {t t' : TypeId} {C C' : Array Value} (h : Bk w g t C) (h' : Bk w g' t' C') (ht : t ≠ t') : g ≠ g' := fun e => by
 subst e
 unfold Bk at h h'
 rw [h] at h'
 cases h'
 exact ht rfl
section
variable {w w' : World} {B B1 Nm Nx Ns g b g1 gy : Nat} {V1 V2 : Value} {m : Mm} {k : List Int × List Int}
end
section
variable {w : World} {B B1 Nm Nx Ns g b g1 gy : Nat} {V1 V2 : Value} {m : Mm} {k : List Int × List Int} {l : List Int} {A : Option Addr} {c : Nat}
end
end
section
open Go.RowKit Go.Sort
attribute [local go_sem] Oper.semAt_some onlyN_normal
section
variable {w : World} {l : List Int} {A : Option Addr} {c : Nat}
set_option maxHeartbeats 1000000 in
theorem Pick10_any (h : IS w l A c) (hl : l.length ≤ 1000000) (a : Int) (ha : -9223372036854775808 ≤ a ∧ a ≤ 9223372036854775807) : Calls Tryz.prog 47 #[.slice A l.length c, .int .i64 a] w fun e w' => e = .returned (.int .i64 (objAt l a)) ∧ w = w' := by
 by_cases he : l = []
 ·subst he
  have hk := lh (objAt_nil a)
  clear h
  go_enter Tryz.func47, Tryz.ntmps47
  go_wp2_with fail
  go_ret
  rw [hk.out]
  exact ⟨rfl, rfl⟩
 ·have hp : 0 < l.length := List.length_pos_iff.2 he
  have hn : ((l.length : Int) == 0) = false := by simp; exact he
  obtain ⟨hi, hie⟩ := objI_lt he a
  obtain ⟨b, o, rfl, hbl, hcc⟩ := h.sl.get hi
  obtain ⟨x, hx⟩ : ∃ x, l[objI l a]? = some x := ⟨_, List.getElem?_eq_getElem hi⟩
  have cx : w.cell? ⟨b, o + objI l a, none⟩ = some (.int .i64 x) := hcc _ _ (ints_get hx)
  have hk := lh (show objAt l a = x by unfold objAt; rw [hx])
  have hic : objI l a < c := by have := h.cap; omega
  obtain ⟨i, hii⟩ : ∃ i, i = objI l a := ⟨_, rfl⟩
  rw [← hii] at hi hie cx hic
  have hN : 0 < (l.length : Int) := by omega
  have hr1 : -(l.length : Int) < a.tmod l.length := Int.lt_tmod_of_pos a hN
  have hr2 : a.tmod l.length < (l.length : Int) := Int.tmod_lt_of_pos a hN
  have hne : (l.length : Int) ≠ 0 := by omega
  clear h he hcc hx hii
  generalize l.length = N at *
  obtain ⟨r, hr⟩ : ∃ r, r = a.tmod (N : Int) := ⟨_, rfl⟩
  rw [← hr] at hie hr1 hr2
  have hrr : a.tmod (N : Int) = r := hr.symm
  have dn : decide (N ≤ i) = false := decide_eq_false (by omega)
  by_cases hr0 : r < 0
  ·have e1 : (r + (N : Int)).tmod N = r + (N : Int) := Int.tmod_eq_of_lt (by omega) (by omega)
   rw [e1] at hie
   have hrn : r + (N : Int) = (i : Int) := hie.symm
   have hwr : IntKind.i64.wrap (r + (N : Int)) = (i : Int) := by rw [hrn]; exact IntWalk.i64_in _ (by omega)
   have dl : decide ((i : Int) < 0) = false := decide_eq_false (by omega)
   clear e1 hie hr
   go_enter Tryz.func47, Tryz.ntmps47
   go_wp2_with fail
   go_ret
   rw [hk.out]
   exact ⟨rfl, rfl⟩
  ·have e1 : (r + (N : Int)).tmod N = r := by
    rw [Int.tmod_eq_emod_of_nonneg (by omega), Int.add_emod_right]
    exact Int.emod_eq_of_lt (by omega) hr2
   rw [e1] at hie
   subst hie
   have dl : decide ((i : Int) < 0) = false := decide_eq_false (by omega)
   have hi3 : a.tmod (N : Int) = (i : Int) := hrr
   clear e1 hr hrr
   go_enter Tryz.func47, Tryz.ntmps47
   go_wp2_with fail
   go_ret
   rw [hk.out]
   exact ⟨rfl, rfl⟩
end
def hcs (hs : List Hdr) : List Value := hs.flatMap fun h => [.int .i64 h.k, .int .i64 h.c, .int .i64 h.f]
theorem hcs_app (hs : List Hdr) (h : Hdr) : hcs (hs ++ [h]) = hcs hs ++ [.int .i64 h.k, .int .i64 h.c, .int .i64 h.f] := by simp [hcs]
structure P15 where
 W : World
 B : Nat
 Nx : Nat
 bo : Nat
 xs : List Int
 hs : List Hdr
 Vx : Value
 Vh : Value
 Tv : Value
 ad : Int
 hd : Hdr
 c0 : Value
 c1 : Value
 c2 : Value
 c3 : Value
 c4 : Value
 c5 : Value
 d0 : Value
 d1 : Value
 d2 : Value
 d3 : Value
 d4 : Value
 d5 : Value
def P15.VL (p : P15) : List (Option Value) := [some (.agg #[p.d0, p.d1, p.d2, p.d3, p.d4, p.d5]), some (.pointer (some ⟨p.Nx, 7, none⟩)), some p.Vx, some (.int .i64 p.ad), none, none, some (.pointer (some ⟨p.Nx, 8, none⟩)), some p.Vh, some (.pointer (some ⟨p.bo, 1, none⟩)), some (.agg #[.int .i64 p.hd.k, .int .i64 p.hd.c, .int .i64 p.hd.f]), none, none, some (.pointer (some ⟨p.Nx, 0, none⟩)), none, some (.pointer (some ⟨p.Nx, 7, none⟩)), none, some (.pointer (some ⟨p.Nx, 8, none⟩)), none]
def P15.cx (p : P15) (L : Array Bool) (vs : Nat → Value) : Array Value := #[stg L 13 p.c0 p.d0, stg L 13 p.c1 p.d1, stg L 13 p.c2 p.d2, stg L 13 p.c3 p.d3, stg L 13 p.c4 p.d4, stg L 13 p.c5 p.d5, p.Tv, stg L 15 p.Vx (vs 5), stg L 17 p.Vh (vs 11)]
structure R15 (p : P15) (L : Array Bool) (vs : Nat → Value) (w : World) : Prop where
 v : Vals p.VL L vs
 k : Kp (fun k => k = p.Nx ∨ p.Vx.ownBlock = some k ∨ p.Vh.ownBlock = some k) p.W w
 b4 : L.getD 4 false = true → L.getD 5 false = false → ∃ g, vs 4 = .slice (some ⟨g, 0, none⟩) 1 1 ∧ Bk w g 3 #[.int .i64 p.ad] ∧ p.W.heap.size ≤ g
 b10 : L.getD 10 false = true → L.getD 11 false = false → ∃ g, vs 10 = .slice (some ⟨g, 0, none⟩) 1 1 ∧ Bk w g 58 #[.int .i64 p.hd.k, .int .i64 p.hd.c, .int .i64 p.hd.f] ∧ p.W.heap.size ≤ g
 r5 : L.getD 5 false = false → w.ownsRow p.B 3 1 p.Vx p.xs.length (ints p.xs)
 q5 : L.getD 5 false = true → w.ownsRow p.B 3 1 (vs 5) (p.xs.length + 1) (ints p.xs ++ [.int .i64 p.ad]) ∧ ∀ q, (vs 5).ownBlock = some q → p.Vx.ownBlock = some q ∨ p.W.heap.size ≤ q
 r11 : L.getD 11 false = false → w.ownsRow p.B 58 3 p.Vh p.hs.length (hcs p.hs)
 q11 : L.getD 11 false = true → w.ownsRow p.B 58 3 (vs 11) (p.hs.length + 1) (hcs p.hs ++ [.int .i64 p.hd.k, .int .i64 p.hd.c, .int .i64 p.hd.f]) ∧ ∀ q, (vs 11).ownBlock = some q → p.Vh.ownBlock = some q ∨ p.W.heap.size ≤ q
 x : Bk w p.Nx 40 (p.cx L vs)
section
variable {p : P15} {L : Array Bool} {vs : Nat → Value} {w w' : World} {i : Nat} {v : Value}
theorem updV {i k : Nat} {v : Value} {vs : Nat → Value} (h : k ≠ i) : (fun j => if j = i then v else vs j) k = vs k := if_neg h
theorem P15.cx_set (p : P15) (L : Array Bool) (vs : Nat → Value) {i : Nat} (v : Value) (h5 : i ≠ 5) (h11 : i ≠ 11) (h13 : i ≠ 13) (h15 : i ≠ 15) (h17 : i ≠ 17) : p.cx (L.setIfInBounds i true) (fun j => if j = i then v else vs j) = p.cx L vs := by
 unfold P15.cx
 simp only [stg_set _ _ h13, stg_set _ _ h15, stg_set _ _ h17, updV (v := v) (vs := vs) (Ne.symm h5), updV (v := v) (vs := vs) (Ne.symm h11)]
/-- an operation that only reads -/
theorem R15.pure (h : R15 p L vs w) (hi : i ≠ 4 ∧ i ≠ 5 ∧ i ≠ 10 ∧ i ≠ 11 ∧ i ≠ 13 ∧ i ≠ 15 ∧ i ≠ 17) (hv : ∀ x, p.VL[i]? = some (some x) → v = x) : R15 p (L.setIfInBounds i true) (fun j => if j = i then v else vs j) w := by
 obtain ⟨h4, h5, h10, h11, h13, h15, h17⟩ := hi
 refine ⟨h.v.put hv, h.k, ?_, ?_, ?_, ?_, ?_, ?_, ?_⟩
 ·rw [getD_set_ne false h4, getD_set_ne false h5, if_neg (Ne.symm h4)]; exact h.b4
 ·rw [getD_set_ne false h10, getD_set_ne false h11, if_neg (Ne.symm h10)]; exact h.b10
 ·rw [getD_set_ne false h5]; exact h.r5
 ·rw [getD_set_ne false h5, if_neg (Ne.symm h5)]; exact h.q5
 ·rw [getD_set_ne false h11]; exact h.r11
 ·rw [getD_set_ne false h11, if_neg (Ne.symm h11)]; exact h.q11
 ·rw [p.cx_set L vs v h5 h11 h13 h15 h17]; exact h.x
theorem R15.b (h : R15 p L vs w) {o : Obj} (hw : w' = w.alloc o) : (∀ {g : Nat} {t : TypeId} {C : Array Value}, Bk w g t C → Bk w' g t C) ∧ (∀ {B n z : Nat} {e : TypeId} {V : Value} {xs : List Value}, w.ownsRow B e z V n xs → w'.ownsRow B e z V n xs) ∧ Kp (fun k => k = p.Nx ∨ p.Vx.ownBlock = some k ∨ p.Vh.ownBlock = some k) p.W w' := by
 subst hw
 have hb : Below w.heap.size w (w.alloc o) := (Below.refl _ _).alloc (Nat.le_refl _) _
 exact ⟨fun h => h.alloc _, fun h => own_local h fun k hk => hb.block k (h.lt k hk).2, h.k.trans (Kp.of_below (S := fun k => k = p.Nx ∨ p.Vx.ownBlock = some k ∨ p.Vh.ownBlock = some k) hb) fun _ _ e => e⟩
theorem R15.alloc4 (h : R15 p L vs w) (hl : 4 < L.size) : R15 p (L.setIfInBounds 4 true) (fun j => if j = 4 then .slice (some ⟨w.heap.size, 0, none⟩) 1 1 else vs j) (w.alloc (.cells #[.int .i64 p.ad] 3)) := by
 obtain ⟨hB, hO, hK⟩ := h.b (o := .cells #[.int .i64 p.ad] 3) rfl
 refine ⟨h.v.put (fun x hx => by cases hx), hK, fun _ _ => ⟨w.heap.size, rfl, Bk.new _ _ _, h.k.size⟩, ?_, ?_, ?_, ?_, ?_, ?_⟩
 ·rw [getD_set_ne false (by decide), getD_set_ne false (by decide)]; simp only [Nat.reduceEqDiff, ↓reduceIte]
  exact fun a b => let ⟨g, e, h1, h2⟩ := h.b10 a b; ⟨g, e, hB h1, h2⟩
 ·rw [getD_set_ne false (by decide)]; exact fun a => hO (h.r5 a)
 ·rw [getD_set_ne false (by decide)]; simp only [Nat.reduceEqDiff, ↓reduceIte]; exact fun a => ⟨hO (h.q5 a).1, (h.q5 a).2⟩
 ·rw [getD_set_ne false (by decide)]; exact fun a => hO (h.r11 a)
 ·rw [getD_set_ne false (by decide)]; simp only [Nat.reduceEqDiff, ↓reduceIte]; exact fun a => ⟨hO (h.q11 a).1, (h.q11 a).2⟩
 ·rw [p.cx_set L vs _ (by decide) (by decide) (by decide) (by decide) (by decide)]; exact hB h.x
theorem R15.alloc10 (h : R15 p L vs w) (hl : 10 < L.size) : R15 p (L.setIfInBounds 10 true) (fun j => if j = 10 then .slice (some ⟨w.heap.size, 0, none⟩) 1 1 else vs j) (w.alloc (.cells #[.int .i64 p.hd.k, .int .i64 p.hd.c, .int .i64 p.hd.f] 58)) := by
 obtain ⟨hB, hO, hK⟩ := h.b (o := .cells #[.int .i64 p.hd.k, .int .i64 p.hd.c, .int .i64 p.hd.f] 58) rfl
 refine ⟨h.v.put (fun x hx => by cases hx), hK, ?_, fun _ _ => ⟨w.heap.size, rfl, Bk.new _ _ _, h.k.size⟩, ?_, ?_, ?_, ?_, ?_⟩
 ·rw [getD_set_ne false (by decide), getD_set_ne false (by decide)]; simp only [Nat.reduceEqDiff, ↓reduceIte]
  exact fun a b => let ⟨g, e, h1, h2⟩ := h.b4 a b; ⟨g, e, hB h1, h2⟩
 ·rw [getD_set_ne false (by decide)]; exact fun a => hO (h.r5 a)
 ·rw [getD_set_ne false (by decide)]; simp only [Nat.reduceEqDiff, ↓reduceIte]; exact fun a => ⟨hO (h.q5 a).1, (h.q5 a).2⟩
 ·rw [getD_set_ne false (by decide)]; exact fun a => hO (h.r11 a)
 ·rw [getD_set_ne false (by decide)]; simp only [Nat.reduceEqDiff, ↓reduceIte]; exact fun a => ⟨hO (h.q11 a).1, (h.q11 a).2⟩
 ·rw [p.cx_set L vs _ (by decide) (by decide) (by decide) (by decide) (by decide)]; exact hB h.x
theorem own_grown {w w' : World} {B n z : Nat} {e : TypeId} {V : Value} {xs : List Value} {b : Option Nat} (h : w.ownsRow B e z V n xs) (hg : w.grownBy w' b) (hn : ∀ k, V.ownBlock = some k → b ≠ some k) : w'.ownsRow B e z V n xs :=
 own_local h fun k hk => hg.block k (h.lt k hk).2 fun e => hn k hk e.symm
theorem own_own_ne {w : World} {B B' n n' z z' : Nat} {e e' : TypeId} {V V' : Value} {xs xs' : List Value} (h : w.ownsRow B e z V n xs) (h' : w.ownsRow B' e' z' V' n' xs') (he : e ≠ e') : ∀ k, V.ownBlock = some k → V'.ownBlock ≠ some k := fun k hk hk' => by
 obtain ⟨_, ⟨rfl, _⟩ | ⟨g, cap, cur, rfl, _, h4, _⟩⟩ := h
 ·cases hk
 ·injection hk with hk
  subst hk
  exact ownRow_bk h' (show Bk w _ e cur from h4) he hk'
theorem R15.app5 (h : R15 p L vs w) (hl : 5 < L.size) (hu : L.getD 5 false = false) (hu15 : L.getD 15 false = false) (ho : w'.ownsRow p.B 3 1 v (p.xs.length + 1) (ints p.xs ++ [.int .i64 p.ad])) (hg : w.grownBy w' p.Vx.ownBlock) (hloc : v.ownBlock = p.Vx.ownBlock ∨ v.ownBlock = some w.heap.size) :
  R15 p (L.setIfInBounds 5 true) (fun j => if j = 5 then v else vs j) w' := by
 have hr := h.r5 hu
 have hnS : ∀ {g : Nat} {t : TypeId} {C : Array Value}, Bk w g t C → t ≠ 3 → some g ≠ p.Vx.ownBlock := fun hb ht e => ownRow_bk hr hb ht e.symm
 refine ⟨h.v.put (fun x hx => by cases hx), h.k.trans (Kp.of_grown (S := fun k => p.Vx.ownBlock = some k) hg fun k hk => hk) (fun _ _ e => .inr (.inl e)), ?_, ?_, ?_, ?_, ?_, ?_, ?_⟩
 ·intro _ e; rw [getD_set_self hl] at e; cases e
 ·rw [getD_set_ne false (by decide), getD_set_ne false (by decide)]; simp only [Nat.reduceEqDiff, ↓reduceIte]
  exact fun a b => let ⟨g, e, h1, h2⟩ := h.b10 a b; ⟨g, e, h1.grown hg (hnS h1 (by decide)), h2⟩
 ·intro e; rw [getD_set_self hl] at e; cases e
 ·intro _
  refine ⟨ho, fun q hq => ?_⟩
  have hq : v.ownBlock = some q := hq
  rcases hloc with e | e
  ·rw [e] at hq; exact .inl hq
  ·rw [e] at hq
   cases hq
   exact .inr h.k.size
 ·rw [getD_set_ne false (by decide)]
  exact fun a => own_grown (h.r11 a) hg (own_own_ne (h.r11 a) hr (by decide))
 ·rw [getD_set_ne false (by decide)]; simp only [Nat.reduceEqDiff, ↓reduceIte]
  exact fun a => ⟨own_grown (h.q11 a).1 hg (own_own_ne (h.q11 a).1 hr (by decide)), (h.q11 a).2⟩
 ·have e : p.cx (L.setIfInBounds 5 true) (fun j => if j = 5 then v else vs j) = p.cx L vs := by
   unfold P15.cx
   simp only [stg_set _ _ (show (5 : Nat) ≠ 13 by decide), stg_set _ _ (show (5 : Nat) ≠ 15 by decide), stg_set _ _ (show (5 : Nat) ≠ 17 by decide), updV (v := v) (vs := vs) (show (11 : Nat) ≠ 5 by decide)]
   simp only [stg, hu15, Bool.false_eq_true, if_false]
  rw [e]
  exact h.x.grown hg (hnS h.x (by decide))
theorem R15.app11 (h : R15 p L vs w) (hl : 11 < L.size) (hu : L.getD 11 false = false) (hu17 : L.getD 17 false = false) (ho : w'.ownsRow p.B 58 3 v (p.hs.length + 1) (hcs p.hs ++ [.int .i64 p.hd.k, .int .i64 p.hd.c, .int .i64 p.hd.f])) (hg : w.grownBy w' p.Vh.ownBlock) (hloc : v.ownBlock = p.Vh.ownBlock ∨ v.ownBlock = some w.heap.size) :
  R15 p (L.setIfInBounds 11 true) (fun j => if j = 11 then v else vs j) w' := by
 have hr := h.r11 hu
 have hnS : ∀ {g : Nat} {t : TypeId} {C : Array Value}, Bk w g t C → t ≠ 58 → some g ≠ p.Vh.ownBlock := fun hb ht e => ownRow_bk hr hb ht e.symm
 refine ⟨h.v.put (fun x hx => by cases hx), h.k.trans (Kp.of_grown (S := fun k => p.Vh.ownBlock = some k) hg fun k hk => hk) (fun _ _ e => .inr (.inr e)), ?_, ?_, ?_, ?_, ?_, ?_, ?_⟩
 ·rw [getD_set_ne false (by decide), getD_set_ne false (by decide)]; simp only [Nat.reduceEqDiff, ↓reduceIte]
  exact fun a b => let ⟨g, e, h1, h2⟩ := h.b4 a b; ⟨g, e, h1.grown hg (hnS h1 (by decide)), h2⟩
 ·intro _ e; rw [getD_set_self hl] at e; cases e
 ·rw [getD_set_ne false (by decide)]
  exact fun a => own_grown (h.r5 a) hg (own_own_ne (h.r5 a) hr (by decide))
 ·rw [getD_set_ne false (by decide)]; simp only [Nat.reduceEqDiff, ↓reduceIte]
  exact fun a => ⟨own_grown (h.q5 a).1 hg (own_own_ne (h.q5 a).1 hr (by decide)), (h.q5 a).2⟩
 ·intro e; rw [getD_set_self hl] at e; cases e
 ·intro _
  refine ⟨ho, fun q hq => ?_⟩
  have hq : v.ownBlock = some q := hq
  rcases hloc with e | e
  ·rw [e] at hq; exact .inl hq
  ·rw [e] at hq
   cases hq
   exact .inr h.k.size
 ·have e : p.cx (L.setIfInBounds 11 true) (fun j => if j = 11 then v else vs j) = p.cx L vs := by
   unfold P15.cx
   simp only [stg_set _ _ (show (11 : Nat) ≠ 13 by decide), stg_set _ _ (show (11 : Nat) ≠ 15 by decide), stg_set _ _ (show (11 : Nat) ≠ 17 by decide), updV (v := v) (vs := vs) (show (5 : Nat) ≠ 11 by decide)]
   simp only [stg, hu17, Bool.false_eq_true, if_false]
  rw [e]
  exact h.x.grown hg (hnS h.x (by decide))
/-- a store into the world -/
theorem R15.st (h : R15 p L vs w) (hi : i ≠ 4 ∧ i ≠ 5 ∧ i ≠ 10 ∧ i ≠ 11) (hv : ∀ x, p.VL[i]? = some (some x) → v = x) (hk : Kp (fun k => k = p.Nx) w w') (hx : Bk w' p.Nx 40 (p.cx (L.setIfInBounds i true) (fun j => if j = i then v else vs j))) (hN : p.Nx < p.W.heap.size) : R15 p (L.setIfInBounds i true) (fun j => if j = i then v else vs j) w' := by
 obtain ⟨h4, h5, h10, h11⟩ := hi
 have hne : ∀ {B n z : Nat} {e : TypeId} {V : Value} {xs : List Value}, w.ownsRow B e z V n xs → e ≠ 40 → w'.ownsRow B e z V n xs := fun hr he => own_local hr fun k hk' => hk.block k (hr.lt k hk').2 fun e => ownRow_bk hr h.x (Ne.symm he) (e ▸ hk')
 refine ⟨h.v.put hv, h.k.trans hk (fun _ _ e => .inl e), ?_, ?_, ?_, ?_, ?_, ?_, hx⟩
 ·rw [getD_set_ne false h4, getD_set_ne false h5, if_neg (Ne.symm h4)]
  exact fun a b => let ⟨g, e, h1, h2⟩ := h.b4 a b; ⟨g, e, h1.kp hk (fun e => by omega), h2⟩
 ·rw [getD_set_ne false h10, getD_set_ne false h11, if_neg (Ne.symm h10)]
  exact fun a b => let ⟨g, e, h1, h2⟩ := h.b10 a b; ⟨g, e, h1.kp hk (fun e => by omega), h2⟩
 ·rw [getD_set_ne false h5]; exact fun a => hne (h.r5 a) (by decide)
 ·rw [getD_set_ne false h5, if_neg (Ne.symm h5)]; exact fun a => ⟨hne (h.q5 a).1 (by decide), (h.q5 a).2⟩
 ·rw [getD_set_ne false h11]; exact fun a => hne (h.r11 a) (by decide)
 ·rw [getD_set_ne false h11, if_neg (Ne.symm h11)]; exact fun a => ⟨hne (h.q11 a).1 (by decide), (h.q11 a).2⟩
theorem R15.st13 (h : R15 p L vs w) (hl : 13 < L.size) (hN : p.Nx < p.W.heap.size) : R15 p (L.setIfInBounds 13 true) (fun j => if j = 13 then undef else vs j) ((((((w.setCell ⟨p.Nx, 0, none⟩ p.d0).setCell ⟨p.Nx, 1, none⟩ p.d1).setCell ⟨p.Nx, 2, none⟩ p.d2).setCell ⟨p.Nx, 3, none⟩ p.d3).setCell ⟨p.Nx, 4, none⟩ p.d4).setCell ⟨p.Nx, 5, none⟩ p.d5) := by
 have k1 : ∀ (w : World) (q : Nat) (v : Value), Kp (fun k => k = p.Nx) w (w.setCell ⟨p.Nx, q, none⟩ v) := fun w q v => Kp.setCell _ _ _ rfl
 have tr : ∀ {a b c : World}, Kp (fun k => k = p.Nx) a b → Kp (fun k => k = p.Nx) b c → Kp (fun k => k = p.Nx) a c := fun h1 h2 => h1.trans h2 fun _ _ e => e
 refine h.st (by decide) (fun x hx => by cases hx) (tr (tr (tr (tr (tr (k1 _ _ _) (k1 _ _ _)) (k1 _ _ _)) (k1 _ _ _)) (k1 _ _ _)) (k1 _ _ _)) ?_ hN
 have h1 := (((((h.x.set 0 p.d0).set 1 p.d1).set 2 p.d2).set 3 p.d3).set 4 p.d4).set 5 p.d5
 unfold P15.cx at h1 ⊢
 simp only [stg_new _ _ hl, stg_set _ _ (show (13 : Nat) ≠ 15 by decide), stg_set _ _ (show (13 : Nat) ≠ 17 by decide), updV (v := undef) (vs := vs) (show (5 : Nat) ≠ 13 by decide), updV (v := undef) (vs := vs) (show (11 : Nat) ≠ 13 by decide)]
 exact h1
theorem R15.st15 (h : R15 p L vs w) (hl : 15 < L.size) (hN : p.Nx < p.W.heap.size) : R15 p (L.setIfInBounds 15 true) (fun j => if j = 15 then undef else vs j) (w.setCell ⟨p.Nx, 7, none⟩ (vs 5)) := by
 refine h.st (by decide) (fun x hx => by cases hx) (Kp.setCell _ _ _ rfl) ?_ hN
 have h1 := h.x.set 7 (vs 5)
 unfold P15.cx at h1 ⊢
 simp only [stg_new _ _ hl, stg_set _ _ (show (15 : Nat) ≠ 13 by decide), stg_set _ _ (show (15 : Nat) ≠ 17 by decide), updV (v := undef) (vs := vs) (show (5 : Nat) ≠ 15 by decide), updV (v := undef) (vs := vs) (show (11 : Nat) ≠ 15 by decide)]
 exact h1
theorem R15.st17 (h : R15 p L vs w) (hl : 17 < L.size) (hN : p.Nx < p.W.heap.size) : R15 p (L.setIfInBounds 17 true) (fun j => if j = 17 then undef else vs j) (w.setCell ⟨p.Nx, 8, none⟩ (vs 11)) := by
 refine h.st (by decide) (fun x hx => by cases hx) (Kp.setCell _ _ _ rfl) ?_ hN
 have h1 := h.x.set 8 (vs 11)
 unfold P15.cx at h1 ⊢
 simp only [stg_new _ _ hl, stg_set _ _ (show (17 : Nat) ≠ 13 by decide), stg_set _ _ (show (17 : Nat) ≠ 15 by decide), updV (v := undef) (vs := vs) (show (5 : Nat) ≠ 17 by decide), updV (v := undef) (vs := vs) (show (11 : Nat) ≠ 17 by decide)]
 exact h1
end
end
end Go.Proofs.YtaijmgkjbbiboaaGreat
