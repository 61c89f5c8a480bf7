/- Package barrier: slots, crossing. -/
import Derived.Test.YtaecdpijpdfboaaGreatSlots
namespace Go.Proofs.YtaecdpijpdfboaaGreat
set_option linter.unusedVariables false
set_option linter.unusedSimpArgs false
set_option linter.unusedSectionVars false
open Go.RowKit Go.Sort Go.Shelf
attribute [local go_sem] Oper.semAt_some
set_option maxRecDepth 100000

theorem KpO.of_below {Bo : Nat} {X Y : World} (hb : Below X.heap.size X Y) : KpO Bo X Y :=
  ⟨fun _ _ _ _ _ h => h.below hb h.lt, fun v hv => ⟨v, hv.below hb hv.lt, fun k hk => .inl hk⟩, hb.size⟩
theorem KpQ.trans {Bo : Nat} {X Y Z : World} (h : KpQ Bo X Y) (h' : KpQ Bo Y Z) : KpQ Bo X Z := fun hX => by
  have h1 := h hX
  obtain ⟨v, hv⟩ := hX
  obtain ⟨v', hv', _⟩ := h1.out v hv
  exact h1.trans (h' ⟨v', hv'⟩) ⟨v, hv⟩
theorem KpQ.putObj {Bo : Nat} (W : World) (l : Nat) (o o' : Obj) (hl : W.heap[l]? = some o) (ho : o.isCells = false) : KpQ Bo W (W.putObj l o') := fun _ => by
  have key : ∀ k t cs, Bk W k t cs → some k ≠ some l := fun k t cs hk e => by
    injection e with e
    unfold Bk at hk
    rw [e, hl] at hk
    cases hk
    cases ho
  exact ⟨fun k t cs _ _ h => h.grown (grownBy_putObj' W l o') (key _ _ _ h), fun v hv => ⟨v, hv.grown (grownBy_putObj' W l o') (key _ _ _ hv), fun k hk => .inl hk⟩, by simp⟩
theorem slots_stops {B g1 g2 Bm Bo : Nat} {V1 V2 : Value} {m : Mm} (n : Nat) (hn : 6 ≤ n) (w : World) (h : MR w B g1 g2 V1 V2 m) (hb : Bk w Bm 31 #[.pointer (some ⟨g1, 0, none⟩), .pointer (some ⟨g2, 0, none⟩)]) (hO : Bk w Bo 27 #[.slice none 0 0]) :
    SeqStopsK Fence.wide n Tryz.prog 93 #[.pointer (some ⟨Bm, 0, none⟩)] enc3 (KpQ Bo) (fun ys => fst3 ys = m.slots) (fun pre => fst3 pre <+: m.slots) m.slots.length w :=
  fun l J Jx W hW hJ _ hY h0 => slots1_in n hn l J Jx W (h.below hW) (hb.below hW hb.lt) (hO.below hW hO.lt) hJ hY h0
theorem slots_any (v1 v2 : Value) (w : World) : Calls Tryz.prog 63 #[.agg #[v1, v2]] w fun e w' => e = .returned (.func (.func 93) #[] #[.pointer (some ⟨w.heap.size, 0, none⟩)]) ∧ w.alloc (.cells #[v1, v2] 31) = w' := by
  go_enter Tryz.func63, Tryz.ntmps63
  go_wp2_with fail
  go_ret
  exact ⟨rfl, rfl⟩
theorem slots_len (m : Mm) : m.slots.length ≤ 30 * m.old.objs.length := by
  unfold Mm.slots
  induction m.old.objs with
  | nil => simp
  | cons a l ih =>
    have h1 : (m.slotsAt a).length ≤ 30 := by
      unfold Mm.slotsAt
      refine Nat.le_trans (List.length_filterMap_le _ _) ?_
      have := slotN_bound (m := m) (a := a)
      simp
      omega
    simp only [List.flatMap_cons, List.length_append, List.length_cons]
    omega
/-- the addresses among what has come -/
def crF (p : Int → Bool) (pre : List Slot) : List Int := ((fst3 pre).filter fun s => ygW s.2 && p s.1).map (·.1)
theorem crF_snoc (p : Int → Bool) (pre : List Slot) (x : Slot) : crF p (pre ++ [x]) = crF p pre ++ if ygW x.1.2 && p x.1.1 then [x.1.1] else [] := by
  unfold crF
  rw [fst3_snoc, List.filter_append, List.map_append]
  congr 1
  cases h : (ygW x.1.2 && p x.1.1) <;> simp [h]
theorem crF_length (p : Int → Bool) (pre : List Slot) : (crF p pre).length ≤ pre.length := by
  unfold crF fst3
  rw [List.length_map]
  exact Nat.le_trans (List.length_filter_le _ _) (by simp)
theorem ownsRow_mono {w : World} {base base' : Nat} {e : TypeId} {size : Nat} {v : Value} {n : Nat} {xs : List Value} (h : w.ownsRow base e size v n xs) (hb : base' ≤ base) : w.ownsRow base' e size v n xs :=
  ⟨h.1, h.2.imp id fun ⟨g, cap, cur, h1, h2, h3⟩ => ⟨g, cap, cur, h1, Nat.le_trans hb h2, h3⟩⟩
theorem KpO.app {X w1 : World} {Bo : Nat} {tmp : Obj} {v v' : Value} (hB : Bk X Bo 27 #[v]) (hg : (X.alloc tmp).grownBy w1 v.ownBlock) (hv : v'.ownBlock = v.ownBlock ∨ v'.ownBlock = some (X.heap.size + 1)) (hN : Bk (w1.setCell ⟨Bo, 0, none⟩ v') Bo 27 #[v']) (hs : X.heap.size ≤ (w1.setCell ⟨Bo, 0, none⟩ v').heap.size) : KpO Bo X (w1.setCell ⟨Bo, 0, none⟩ v') := by
  refine ⟨fun k t cs hk hn hc => ?_, fun u hu => ?_, hs⟩
  · exact ((hc.alloc tmp).grown hg (fun e => hn v hB e.symm)).far (p := ⟨Bo, 0, none⟩) (by show k ≠ Bo; exact hk) _
  · have : u = v := by unfold Bk at hu hB; rw [hu] at hB; injection hB with h1; injection h1 with h1; simpa using h1
    subst this
    refine ⟨v', hN, fun k hk => ?_⟩
    rcases hv with e | e
    · exact .inl (by rw [← e]; exact hk)
    · rw [e] at hk; injection hk with hk; right; omega
section
variable {w : World} {B g1 g2 : Nat} {V1 V2 : Value} {m : Mm}
set_option maxHeartbeats 4000000 in
theorem crossing_in (n : Nat) (hn : 8 ≤ n) (h : MR w B g1 g2 V1 V2 m) (f : Nat) (bnd cap : Array Value) (p : Int → Bool) (hE : ∀ args w, (callFunc f args).run Tryz.prog w = .ok (.enter f args) w)
    (hp : ∀ W, Below w.heap.size w W → ∀ a, CallsIn Fence.wide (n - 1 - 1 - 1) Tryz.prog f (bnd.push (.int .i64 a) ++ cap) W fun e W' => e = .returned (.bool (p a)) ∧ Below W.heap.size W W') :
    CallsIn Fence.wide n Tryz.prog 29 #[.agg #[.pointer (some ⟨g1, 0, none⟩), .pointer (some ⟨g2, 0, none⟩)], .func (.func f) bnd cap] w fun e W' => ∃ v, e = .returned v ∧ W'.ownsRow w.heap.size 3 1 v (m.crossing p).length (ints (m.crossing p)) ∧ Below w.heap.size w W' := by
  have h1 : 1 ≤ n := by omega
  obtain ⟨i0, hi, hz0, hz1, hz2⟩ := info_parts i_int
  refine callsIn_of_wp_marks Tryz.func29 rfl trivial ?_ rfl
  simp only [Tryz.ntmps29, List.size_toArray, List.length_cons, List.length_nil, Nat.reduceAdd, Nat.reduceSub, Array.replicate_succ, Array.replicate_zero, List.push_toArray, List.append_toArray, List.nil_append, List.cons_append]
  gi_wp2_with fail
  refine ⟨trivial, (toW (slots_any _ _ _)).mono ?_⟩
  rintro e w' ⟨rfl, rfl⟩
  gi_wp2_with fail
  have hB1 : Below w.heap.size w ((w.alloc (.cells #[.pointer (some ⟨g1, 0, none⟩), .pointer (some ⟨g2, 0, none⟩)] 31)).alloc (.cells #[.func (.func f) bnd cap] 63)) := ((Below.refl _ w).alloc (Nat.le_refl _) _).alloc (by simp) _
  have cP : Bk ((w.alloc (.cells #[.pointer (some ⟨g1, 0, none⟩), .pointer (some ⟨g2, 0, none⟩)] 31)).alloc (.cells #[.func (.func f) bnd cap] 63)) (w.heap.size + 1) 63 #[.func (.func f) bnd cap] := Bk.here _ _ _ (by simp)
  have sA : ((w.alloc (.cells #[.pointer (some ⟨g1, 0, none⟩), .pointer (some ⟨g2, 0, none⟩)] 31)).alloc (.cells #[.func (.func f) bnd cap] 63)).heap.size = w.heap.size + 1 + 1 := by simp
  generalize hA : ((w.alloc (.cells #[.pointer (some ⟨g1, 0, none⟩), .pointer (some ⟨g2, 0, none⟩)] 31)).alloc (.cells #[.func (.func f) bnd cap] 63)) = wA at hB1 cP sA ⊢
  have bO := Boxed.new wA 27 (.slice none 0 0)
  have hB0 : Below wA.heap.size wA ((wA.alloc (.cells #[.slice none 0 0] 27)).alloc (.cells #[.pointer (some ⟨g1, 0, none⟩), .pointer (some ⟨g2, 0, none⟩)] 31)) := ((Below.refl _ wA).alloc (Nat.le_refl _) _).alloc (by simp) _
  have hMR := (h.below hB1).below hB0
  have hBm : Bk ((wA.alloc (.cells #[.slice none 0 0] 27)).alloc (.cells #[.pointer (some ⟨g1, 0, none⟩), .pointer (some ⟨g2, 0, none⟩)] 31)) (wA.heap.size + 1) 31 #[.pointer (some ⟨g1, 0, none⟩), .pointer (some ⟨g2, 0, none⟩)] := Bk.here _ _ _ (by simp)
  have hBo : Bk ((wA.alloc (.cells #[.slice none 0 0] 27)).alloc (.cells #[.pointer (some ⟨g1, 0, none⟩), .pointer (some ⟨g2, 0, none⟩)] 31)) wA.heap.size 27 #[.slice none 0 0] := bO.alloc _
  have hsl := slots_len m
  have hol := m.old.objs_length
  have hl1 := h.o.lim
  have hl2 := h.o.l0
  have hl0 := h.o.b0
  rw [show w.heap.size + 1 + 1 = wA.heap.size from sA.symm]
  have SA := Lib.hid sA
  have h3 : 1 ≤ n - 1 - 1 := by omega
  clear sA hA
  refine wpIn_rangeFunc_ownG rfl h1 (gf := 93) (lb := #[.pointer (some ⟨wA.heap.size + 1, 0, none⟩)]) rfl trivial (enters_of Tryz.func93 (by kernel_rfl) rfl)
    (slots_stops (n - 1) (by omega) _ hMR hBm hBo) (fun h k => h.trans k) (fun W l o o' hl ho hc _ => KpQ.putObj W l o o' ho hc) (Below.refl _ _) (fun x => by unfold enc3; rfl)
    (fun pre W => ((∃ v, Boxed W wA.heap.size 27 v ∧ W.ownsRow wA.heap.size 3 1 v (crF p pre).length (ints (crF p pre)) ∧ True) ∧ Below wA.heap.size wA W))
    (fun _ _ _ => False)
    (OwnFrom.and (Own.from (holdsRow_own wA.heap.size wA.heap.size 27 3 1 (fun pre => (crF p pre).length) (fun pre => ints (crF p pre)) (fun _ _ => True)) _) (ownFrom_below (Nat.le_refl _) (by simp; omega)))
    (fun _ _ _ _ _ hs _ _ => hs)
    ⟨⟨_, bO.alloc _, World.ownsRow_nil _ _ _ _, trivial⟩, hB0⟩
    (fun x => { tmps := #[.agg #[.pointer (some ⟨g1, 0, none⟩), .pointer (some ⟨g2, 0, none⟩)], .func (.func f) bnd cap, .pointer (some ⟨w.heap.size, 0, none⟩), .pointer (some ⟨w.heap.size + 1, 0, none⟩), .slice none 0 0, .pointer (some ⟨wA.heap.size, 0, none⟩), .int .i64 x.1.1, .int .u64 x.1.2, .agg #[.pointer (some ⟨g1, 0, none⟩), .pointer (some ⟨g2, 0, none⟩)], .func (.func 93) #[] #[.pointer (some ⟨wA.heap.size + 1, 0, none⟩)], .int .i64 x.1.1, .int .u64 x.1.2, undef, undef, undef, undef, undef, undef, undef, undef, undef, undef, undef, undef], defers := [] }) ?assign ?body ?done ?stop
  case assign =>
    intro l x W K hK
    unfold enc3
    gi_wp2
    exact hK
  case body =>
    rintro l pre ⟨⟨a, x⟩, hu⟩ W ⟨⟨v, hv, hrow, -⟩, hB⟩ hlt
    have hc := hv.cell
    have hpl := crF_length p pre
    have cY := (toW (n := n - 1 - 1 - 1) (young_any hu W)).inRound l
    have cF : W.cell? ⟨w.heap.size + 1, 0, none⟩ = some (.func (.func f) bnd cap) := (cP.below hB (by have := SA.out; omega)).cell 0
    cases hy : ygW x with
    | false =>
      simp only [hy] at cY
      gi_wp2_with fail
      refine ⟨trivial, cY.mono ?_⟩
      rintro e W2 ⟨rfl, rfl⟩
      gi_wp2_with fail
      refine ⟨nofun, ?_⟩
      gi_wp2_with fail
      refine ⟨KeepsFrom.refl _ _, fun _ => KpO.of_below (Below.refl _ _), ⟨v, hv, by rw [crF_snoc]; simp [hy]; exact hrow, trivial⟩, hB⟩
    | true =>
      simp only [hy] at cY
      have hPP := (hp W (hB1.trans (hB.mono (by have := SA.out; omega))) a).inRound l
      gi_wp2_with fail
      refine ⟨trivial, cY.mono ?_⟩
      rintro e W2 ⟨rfl, rfl⟩
      gi_wp2_with fail
      refine ⟨trivial, ?_⟩
      refine hPP.mono ?_
      rintro e W2 ⟨rfl, hb2⟩
      have hv2 : Boxed W2 wA.heap.size 27 v := Bk.below (show Bk W _ _ _ from hv) hb2 hv.lt
      have hrow2 := own_local hrow fun k hk => hb2.block k (hrow.lt k hk).2
      have hB2 := hB.trans (hb2.mono hB.size)
      have hKF : ∀ N, KeepsFrom N W W2 := fun N => (KeepsOthers.of_grownBy (grownBy_of_below hb2) (fun _ _ e => by cases e)).from _
      have hKQ : KpO wA.heap.size W W2 := KpO.of_below hb2
      have hc2 := hv2.cell
      cases hpa : p a with
      | false =>
        gi_wp2_with fail
        refine ⟨hKF _, fun _ => hKQ, ⟨v, hv2, by rw [crF_snoc]; simp [hy, hpa]; exact hrow2, trivial⟩, hB2⟩
      | true =>
        gi_wp2_with (gi_at_builtin; refine wpListIn_append_own_at _ rfl _ _ 27 rfl wA.heap.size 3 i0 (.int .i64 0) 1 8 Tryz.underlying27 hi hz0 hz1 hz2 rfl (by decide) _ _ _ rfl (hrow2.alloc _) ⟨W2.heap.size, 0, none⟩ 1 1 [.int .i64 a] rfl rfl (cell_one_new _ _ _) (by simp [Value.oneCell']) (by unfold maxLen; omega) (by omega) (by have := hB2.size; simp; omega) ?_; intro v' w1 hown' hgrow _ hvo; obtain ⟨g', cap', rfl⟩ := ownsRow_succ hown'; obtain ⟨hv1, hv3, hr3, hk3, hb3⟩ := hv2.appended (by decide) hrow2 hB2.size (Nat.le_refl _) hown' hgrow; have hc1 := hv1.cell; have hf1 := hv1.frozen)
        refine ⟨(hKF _).trans (hk3.from _), fun _ => hKQ.trans (KpO.app hv2 hgrow (hvo.imp (fun e => e) (fun e => e.trans (by simp))) hv3 (Nat.le_trans hb3.size (Nat.le_refl _))) ⟨v, hv⟩, ⟨_, hv3, by rw [crF_snoc]; simpa [ints, hy, hpa] using hr3, trivial⟩, hB2.trans hb3⟩
  case done =>
    rintro D ys W hD hys ⟨⟨v, hv, hrow, -⟩, hB⟩ hK
    have hc := hv.cell
    gi_wp2
    refine ⟨by simp, .inl ⟨_, _, rfl, run_takeDeferred hK, ?_⟩⟩
    refine ⟨_, results_tmp rfl _ _ _, v, rfl, ?_, (hB1.trans (hB.mono (by have := SA.out; omega))).trans (belowK_b (w := w) (Nat.le_refl _) W D _ _ (by have := SA.out; simp at hD; omega) hK rfl rfl)⟩
    have e : crF p ys = m.crossing p := by unfold crF Mm.crossing; rw [hys]
    rw [← e]
    exact ownsRow_mono (ownsRow_putObj hrow _ hK rfl) (by have := SA.out; omega)
  case stop =>
    rintro D c pre W _ _ h _
    exact h.elim
end
end Go.Proofs.YtaecdpijpdfboaaGreat
