/- slices.Grow at words: room for more, what was there stays. -/
import Derived.Test.YtjpaogapclfajaaGreatSpace2
import Derived.Lib.AppendZerosOnto
import Derived.Lib.SliceRun
import Derived.Lib.Walk
namespace Go.Proofs.YtjpaogapclfajaaGreat
set_option linter.unusedVariables false
set_option linter.unusedSimpArgs false
set_option linter.unusedSectionVars false
open Go.RowKit Go.Sort
set_option maxRecDepth 100000

theorem i_word : (Tryz.prog.info? 51).map (fun i => (i.zero, i.size, i.bytes)) = some (some (.int .u64 0), 1, 8) := by kernel_rfl
def GrowP (w : World) (B l k : Nat) (V : Value) (xs : List Value) (e : Ending) (w' : World) : Prop :=
  ∃ g cap cur, e = .returned (.slice (some ⟨g, 0, none⟩) l cap) ∧ Bk w' g 51 cur ∧ l + k ≤ cap ∧ cap ≤ maxLen ∧ cur.size = cap ∧ cur.toList.take l = xs ∧ B ≤ g ∧ (V.ownBlock = some g ∨ w.heap.size ≤ g) ∧ Below w.heap.size w w'
set_option maxHeartbeats 1000000 in
theorem Grow_room {w : World} {g l c k : Nat} (hlc : l ≤ c) (hc : c ≤ maxLen) (hk : k ≤ 100) (hroom : l + k ≤ c) :
    Calls Tryz.prog 101 #[.slice (some ⟨g, 0, none⟩) l c, .int .i64 k] w fun e w' => e = .returned (.slice (some ⟨g, 0, none⟩) l c) ∧ w = w' := by
  unfold maxLen at hc
  have h1 : ¬ ((k : Int) < 0) := by omega
  have h2 : wrap64 ((c : Int) - (l : Int)) = (c : Int) - (l : Int) := by unfold wrap64; omega
  have h3 : wrap64 ((k : Int) - ((c : Int) - (l : Int))) = (k : Int) - ((c : Int) - (l : Int)) := by unfold wrap64; omega
  have h4 : ¬ ((k : Int) - ((c : Int) - (l : Int)) > 0) := by omega
  go_enter Tryz.func101, Tryz.ntmps101
  go_wp2
  go_ret
  exact ⟨rfl, rfl⟩
set_option maxHeartbeats 4000000 in
theorem Grow_grow {w : World} (base : Option Addr) (l c k : Nat) (cs : List Value) (hlc : l ≤ c) (hk : k ≤ 100) (hroom : c < l + k) (hbig : (l + k) * 8 ≤ 140737488355328)
    (hcl : cs.length = c) (hnil : base = none → c = 0) (hcs : ∀ a, base = some a → ∀ j v, cs[j]? = some v → w.cell? (a.add j) = some v) :
    Calls Tryz.prog 101 #[.slice base l c, .int .i64 k] w fun e w' => ∃ G, l + k ≤ G ∧ G ≤ maxLen ∧
      e = .returned (.slice (some ⟨w.heap.size, 0, none⟩) l G) ∧
      w.drew.alloc (.cells (cs.toArray ++ Builtin.zeroCells #[.int .u64 0] (l + k - c) ++ Builtin.zeroCells #[.int .u64 0] (G - (l + k))) 51) = w' := by
  obtain ⟨i0, hi0, hz0, hs0, hby⟩ := info_parts i_word
  have h1 : ¬ ((k : Int) < 0) := by omega
  have h2 : wrap64 ((c : Int) - (l : Int)) = (c : Int) - (l : Int) := by unfold wrap64; omega
  have h3 : wrap64 ((k : Int) - ((c : Int) - (l : Int))) = (k : Int) - ((c : Int) - (l : Int)) := by unfold wrap64; omega
  have h4 : (k : Int) - ((c : Int) - (l : Int)) > 0 := by omega
  have hck : c + (l + k - c) = l + k := by omega
  have hold : (Builtin.firstCells i0.size c (.slice base c c)).run Tryz.prog w.drew = .ok cs.toArray w.drew := by
    cases base with
    | none =>
      have h0 := hnil rfl
      subst h0
      have hc0 : cs = [] := List.length_eq_zero_iff.1 hcl
      rw [hc0]
      exact run_firstCells_none w.drew i0.size 0 0 0
    | some a => exact run_firstCells_some w.drew i0.size c a c c cs (by rw [hs0]; omega) (fun j v hj => hcs a rfl j v hj)
  have hrz : ∀ ty, (Builtin.append_ #[28, 3] ty #[.slice base c c, .int .i64 ((k : Int) - ((c : Int) - (l : Int)))]).run Tryz.prog w =
      .ok (.slice (some ⟨w.heap.size, 0, none⟩) (l + k) (grownCap w (l + k) c 51)) (w.drew.alloc (.cells (cs.toArray ++ Builtin.zeroCells #[.int .u64 0] (l + k - c) ++ Builtin.zeroCells #[.int .u64 0] (grownCap w (l + k) c 51 - (l + k))) 51)) := fun ty => by
    have h := Lib.run_append_grow_zeros w 28 3 ty 51 i0 (.int .u64 0) .i64 .i64 Tryz.underlying28 Tryz.underlying3 hi0 hz0 base c c cs hold (l + k - c) (by omega) (by omega) (by omega) (by omega)
      (by rw [hby]; omega)
      (by rw [hck]; exact growslice_fits hroom (by rw [hby]; exact hbig))
    rw [hck] at h
    rw [show (k : Int) - ((c : Int) - (l : Int)) = ((l + k - c : Nat) : Int) by omega]
    exact h
  have hGn : l + k ≤ grownCap w (l + k) c 51 := grownCap_ge w _ _ _
  have hG63 : grownCap w (l + k) c 51 ≤ maxLen := grownCap_le_maxLen w (l + k) c 51 (by unfold maxLen; omega)
  obtain ⟨G, hG⟩ : ∃ G, G = grownCap w (l + k) c 51 := ⟨_, rfl⟩
  rw [← hG] at hrz hGn hG63
  have HG := Lib.hid hG63
  unfold maxLen at hG63
  clear hold hck hG hcs hcl hi0 hz0 hs0 hby
  go_enter Tryz.func101, Tryz.ntmps101
  cases base with
  | none =>
    have h0 := hnil rfl
    subst h0
    obtain rfl : l = 0 := by omega
    go_wp2_with (at_builtin; refine Lib.wpList_append_run _ rfl _ _ _ _ rfl _ _ rfl rfl _ _ (hrz _) ?_)
    all_goals (go_ret; exact ⟨G, by omega, HG.out, rfl, rfl⟩)
  | some a =>
    obtain ⟨ab, ao, asp⟩ := a
    go_wp2_with (at_builtin; refine Lib.wpList_append_run _ rfl _ _ _ _ rfl _ _ rfl rfl _ _ (hrz _) ?_)
    all_goals (go_ret; exact ⟨G, hGn, HG.out, rfl, rfl⟩)
theorem Grow_any {w : World} {B l k : Nat} {V : Value} {xs : List Value} (h : w.ownsRow B 51 1 V l xs) (hB : B ≤ w.heap.size) (h0 : 0 < k) (hk : k ≤ 100) (hl : l ≤ 4294967296) :
    Calls Tryz.prog 101 #[V, .int .i64 k] w (GrowP w B l k V xs) := by
  have fin : ∀ {base : Option Addr} {c : Nat} (cs : List Value), l ≤ c → cs.length = c → c < l + k → (base = none → c = 0) → (∀ a, base = some a → ∀ j v, cs[j]? = some v → w.cell? (a.add j) = some v) → cs.take l = xs → Calls Tryz.prog 101 #[.slice base l c, .int .i64 k] w (GrowP w B l k V xs) := fun {base c} cs hlc hcl hroom hnil hcs ht => by
    refine (Grow_grow base l c k cs hlc hk hroom (by omega) hcl hnil hcs).mono ?_
    rintro e w' ⟨G, h1, h2, rfl, rfl⟩
    refine ⟨w.heap.size, G, _, rfl, Bk.here _ _ _ rfl, h1, h2, ?_, ?_, hB, .inr (Nat.le_refl _), ?_⟩
    · simp [Builtin.zeroCells, hcl]; omega
    · rw [← ht]
      simp only [Array.toList_append, List.append_assoc]
      rw [List.take_append_of_le_length (by simp [hcl]; omega)]
    · exact (below_drewN (Below.refl w.heap.size w) 1).alloc (Nat.le_refl _) _
  obtain ⟨h1, ⟨rfl, rfl⟩ | ⟨g, cap, cur, rfl, h3, h4, h5, h6, h7, h8⟩⟩ := h
  · have : xs = [] := List.length_eq_zero_iff.1 (by simpa using h1)
    subst this
    exact fin [] (by omega) rfl (by omega) (fun _ => rfl) (fun a ha => by cases ha) rfl
  · by_cases hr : l + k ≤ cap
    · refine (Grow_room h5 h6 hk hr).mono ?_
      rintro e w' ⟨rfl, rfl⟩
      exact ⟨g, cap, cur, rfl, h4, hr, h6, by simpa using h7, by simpa using h8, h3, .inl rfl, Below.refl _ _⟩
    · refine fin cur.toList h5 (by simpa using h7) (by omega) (fun h => by cases h) (fun a ha j v hj => ?_) (by simpa using h8)
      cases ha
      exact Bk.cellsAdd h4 j v hj

theorem zero_word (w : World) : (zeroValue 51).run Tryz.prog w = .ok (.int .u64 0) w := by kernel_rfl
theorem made_clear {P : Program} {w : World} {T : Value → World → Prop} {o : Oper} {a : Act} (x : Operand) (t : TypeId) (ho : o.op = .call { callee := .builtin .clear, args := #[x], argTypes := #[t] }) {e : TypeId} {z : Value} (ht : P.underlying t = some (.slice e)) (hv : ∀ w, (zeroValue e).run P w = .ok z w) (hz : z.cells = #[z]) (h1 : z.oneCell' = true)
    {b off n c : Nat} (hx : a.eval x = .slice (some ⟨b, off, none⟩) n c) (hn : 0 < n) (hc : ∀ j, j < n → (w.cell? ⟨b, off + j, none⟩).isSome = true) (hf : ∀ j, j < n → w.frozen? ⟨b, off + j, none⟩ = false)
    (h : T (.tuple #[]) (w.setCells b off (List.replicate n z))) : Made P T ((execOp a.eval o).run P w) := by
  have hrun := Lib.run_clear_slice w t e o.type z ht hv hz h1 b off n c hn hc hf
  unfold execOp
  simp only [ho, resolve, invoke, builtin, Sem.run_bind, Sem.run_pure, Result.andThen_ok, List.map_toArray, List.map_cons, List.map_nil, hx, hrun]
  exact h
theorem wpList_clear {P : Program} {w : World} {ops : Array Oper} {rest : List Oper} {o : Oper} {a : Act} {Q : Exit → Act → World → Prop} (hgd : o.guard = none) (x : Operand) (t : TypeId) (ho : o.op = .call { callee := .builtin .clear, args := #[x], argTypes := #[t] }) {e : TypeId} {z : Value} (ht : P.underlying t = some (.slice e)) (hv : ∀ w, (zeroValue e).run P w = .ok z w) (hz : z.cells = #[z]) (h1 : z.oneCell' = true)
    {b off n c : Nat} (hx : a.eval x = .slice (some ⟨b, off, none⟩) n c) (hn : 0 < n) (hc : ∀ j, j < n → (w.cell? ⟨b, off + j, none⟩).isSome = true) (hf : ∀ j, j < n → w.frozen? ⟨b, off + j, none⟩ = false)
    (h : wpList P ops Q rest (a.put o.dst (.tuple #[])) (w.setCells b off (List.replicate n z))) : wpList P ops Q (o :: rest) a w :=
  wpList_plain hgd fun _ hK => wp_of_made (T := fun v' w' => wpList P ops Q rest (a.put o.dst v') w') (made_clear x t ho ht hv hz h1 hx hn hc hf h) fun v w' hT => hK _ _ hT

theorem Bk.setCells {g : Nat} {t : TypeId} : ∀ (vs : List Value) (o : Nat) (w : World) (cs : Array Value), Bk w g t cs → o + vs.length ≤ cs.size → ∃ cs' : Array Value, Bk (w.setCells g o vs) g t cs' ∧ cs'.toList = cs.toList.take o ++ vs ++ cs.toList.drop (o + vs.length)
  | [], o, w, cs, h, hl => ⟨cs, h, by simp⟩
  | v :: vs, o, w, cs, h, hl => by
    simp only [List.length_cons] at hl
    obtain ⟨cs', h1, h2⟩ := Bk.setCells vs (o + 1) _ _ (h.set o v) (by simp; omega)
    refine ⟨cs', h1, h2.trans ?_⟩
    rw [Array.toList_setIfInBounds, List.take_set, List.drop_set_of_lt (by omega)]
    rw [List.take_succ_eq_append_getElem (by simp; omega), List.set_append_right _ _ (by simp; omega)]
    rw [show o + 1 + vs.length = o + (vs.length + 1) by omega]
    simp [Nat.min_eq_left (show o ≤ cs.size by omega)]
theorem Kp.setCells {S : Nat → Prop} {g : Nat} (hg : S g) : ∀ (vs : List Value) (o : Nat) (w : World), Kp S w (w.setCells g o vs)
  | [], _, w => Kp.refl S w
  | v :: vs, o, w => (Kp.setCell w ⟨g, o, none⟩ v hg).trans (Kp.setCells hg vs (o + 1) _) fun _ _ h => h
end Go.Proofs.YtjpaogapclfajaaGreat
