/- Package space: Objects. -/
import Derived.Test.YtaecdpijpdfboaaGreatWalk
import Derived.RangeFuncBox
import Derived.Maps.AppendAt
namespace Go.Proofs.YtaecdpijpdfboaaGreat
set_option linter.unusedVariables false
set_option linter.unusedSimpArgs false
set_option linter.unusedSectionVars false
open Go.RowKit Go.Sort Go.Shelf
attribute [local go_sem] Oper.semAt_some
set_option maxRecDepth 100000

theorem Spc.walkN_length (s : Spc) : ∀ f i, (s.walkN f i).1.length ≤ f
  | 0, i => Nat.le_refl _
  | f + 1, i => by
    unfold Spc.walkN
    split
    · simp
    · have := Spc.walkN_length s f (i + s.size i)
      simp
      exact this
theorem Spc.rst_length (s : Spc) : (s.rst 0).length ≤ s.ws.length + 1 := by
  have := Spc.walkN_length s s.ws.length 0
  unfold Spc.rst Spc.walkFrom
  simp
  exact this
/-- the addresses of the objects among what has come -/
def objF (pre : List (Int × Bool)) : List Int := (pre.filter (·.2)).map (·.1)
theorem objF_hit (pre : List (Int × Bool)) (a : Int) : objF (pre ++ [(a, true)]) = objF pre ++ [a] := by simp [objF]
theorem objF_miss (pre : List (Int × Bool)) (a : Int) : objF (pre ++ [(a, false)]) = objF pre := by simp [objF]
theorem objF_length (pre : List (Int × Bool)) : (objF pre).length ≤ pre.length := by simp [objF]; exact List.length_filter_le _ _
theorem objF_rst (s : Spc) : objF (s.rst 0) = s.objs := by
  unfold Spc.rst Spc.objs Spc.walk objF
  rw [List.filter_append, List.map_append]
  have h1 : ((s.walkFrom 0).1.map (fun (j : Nat) => (s.base + (j : Int), true))).filter (·.2) = (s.walkFrom 0).1.map (fun (j : Nat) => (s.base + (j : Int), true)) := List.filter_eq_self.2 fun x hx => by
    obtain ⟨j, _, rfl⟩ := List.mem_map.1 hx
    rfl
  rw [h1]
  simp [Spc.walkFrom]
theorem SpR.belowN {W W' : World} {B g n₀ : Nat} {s : Spc} {V : Value} (h : SpR W B g s V) (hb : Below n₀ W W') (h1 : g < n₀) (h2 : ∀ k, V.ownBlock = some k → k < n₀) : SpR W' B g s V :=
  ⟨h.hd.below hb h1, own_local h.own fun k hk => hb.block k (h2 k hk), h.ge, h.u, h.b0, h.lim, h.l0⟩
theorem own_ne_type {W : World} {base size n g : Nat} {e t : TypeId} {v : Value} {xs : List Value} {cs : Array Value} (h : W.ownsRow base e size v n xs) (hk : Bk W g t cs) (ht : t ≠ e) : some g ≠ v.ownBlock := fun he => by
  obtain ⟨_, ⟨rfl, _⟩ | ⟨g2, cap, cur, rfl, _, h4, _⟩⟩ := h
  · cases he
  · injection he with he
    change g = g2 at he
    rw [← he] at h4
    unfold Bk at hk
    rw [hk] at h4
    injection h4 with h4
    injection h4 with _ h4
    exact ht h4

section
variable {w : World} {B g : Nat} {s : Spc} {V : Value}
set_option maxHeartbeats 4000000 in
theorem Objects_in (n : Nat) (hn : 5 ≤ n) (h : SpR w B g s V) :
    CallsIn Fence.wide n Tryz.prog 94 #[.pointer (some ⟨g, 0, none⟩)] w fun e W' => ∃ v, e = .returned v ∧ W'.ownsRow w.heap.size 3 1 v s.objs.length (ints s.objs) ∧ Below w.heap.size w W' := by
  have h1 : 1 ≤ n := by omega
  obtain ⟨i0, hi, hz0, hz1, hz2⟩ := info_parts i_int
  have hrl := s.rst_length
  have hl1 := h.lim
  have hl2 := h.l0
  have hl0 := h.b0
  have hgl := h.hd.lt
  have hvl : ∀ k, V.ownBlock = some k → k < w.heap.size := fun k hk => (h.own.lt k hk).2
  refine callsIn_of_wp_marks Tryz.func94 rfl trivial ?_ rfl
  simp only [Tryz.ntmps94, List.size_toArray, List.length_cons, List.length_nil, Nat.reduceAdd, Nat.reduceSub, Array.replicate_succ, Array.replicate_zero, List.push_toArray, List.append_toArray, List.nil_append, List.cons_append]
  gi_wp2_with fail
  refine ⟨trivial, (toW (walk_any g _)).mono ?_⟩
  rintro e w' ⟨rfl, rfl⟩
  gi_wp2_with fail
  have bO := Boxed.new w 27 (.slice none 0 0)
  have hB0 : Below w.heap.size w ((w.alloc (.cells #[.slice none 0 0] 27)).alloc (.cells #[.pointer (some ⟨g, 0, none⟩)] 29)) := ((Below.refl _ w).alloc (Nat.le_refl _) _).alloc (by simp) _
  have hWQ : WQ B g (w.heap.size + 1) s V ((w.alloc (.cells #[.slice none 0 0] 27)).alloc (.cells #[.pointer (some ⟨g, 0, none⟩)] 29)) := ⟨h.below hB0, Bk.here _ _ _ (by simp)⟩
  refine wpIn_rangeFunc_ownG rfl h1 (gf := 111) (lb := #[.pointer (some ⟨w.heap.size + 1, 0, none⟩)]) rfl trivial (enters_of Tryz.func111 (by kernel_rfl) rfl)
    (walk_stops (n - 1) (by omega) _ hWQ) (fun h k hx => k (h hx)) (fun W l o o' hl ho hc _ hq => hq.putObj ho hc) (Below.refl _ _) (fun x => by unfold enc2; rfl)
    (fun pre W => ((∃ v, Boxed W w.heap.size 27 v ∧ W.ownsRow w.heap.size 3 1 v (objF pre).length (ints (objF pre)) ∧ True) ∧ Below w.heap.size w W))
    (fun _ _ _ => False)
    (OwnFrom.and (Own.from (holdsRow_own w.heap.size w.heap.size 27 3 1 (fun pre => (objF pre).length) (fun pre => ints (objF pre)) (fun _ _ => True)) _) (ownFrom_below (Nat.le_refl _) (by simp; omega)))
    (fun _ _ _ _ _ hs _ _ => hs)
    ⟨⟨_, bO.alloc _, World.ownsRow_nil _ _ _ _, trivial⟩, hB0⟩
    (fun x => { tmps := #[.pointer (some ⟨g, 0, none⟩), undef, .slice none 0 0, .pointer (some ⟨w.heap.size, 0, none⟩), .int .i64 x.1, .bool x.2, .pointer (some ⟨g, 0, none⟩), .func (.func 111) #[] #[.pointer (some ⟨w.heap.size + 1, 0, none⟩)], .int .i64 x.1, .bool x.2, undef, undef, undef, undef, undef, undef], defers := [] }) ?assign ?body ?done ?stop
  case assign =>
    intro l x W K hK
    unfold enc2
    gi_wp2
    exact hK
  case body =>
    rintro l pre ⟨a, b⟩ W ⟨⟨v, hv, hrow, -⟩, hB⟩ hlt
    have hc := hv.cell
    have hpl := objF_length pre
    cases b with
    | true =>
      gi_wp2_with (gi_at_builtin; refine wpListIn_append_own _ rfl _ _ 27 rfl w.heap.size 3 i0 (.int .i64 0) 1 8 Tryz.underlying27 hi hz0 hz1 hz2 rfl (by decide) _ _ _ rfl (hrow.alloc _) ⟨W.heap.size, 0, none⟩ 1 1 [.int .i64 a] rfl rfl (cell_one_new _ _ _) (by simp [Value.oneCell']) (by unfold maxLen; omega) (by omega) (by have := hB.size; simp; omega) ?_; intro v' w1 hown' hgrow _; obtain ⟨g', cap', rfl⟩ := ownsRow_succ hown'; obtain ⟨hv1, hv2, hr2, hk2, hb2⟩ := hv.appended (by decide) hrow hB.size (Nat.le_refl _) hown' hgrow; have hc1 := hv1.cell; have hf1 := hv1.frozen)
      refine ⟨hk2.from _, fun hq => ⟨hq.s.belowN hb2 hgl hvl, ?_⟩, ⟨_, hv2, by rw [objF_hit]; simpa [ints] using hr2, trivial⟩, hB.trans hb2⟩
      exact ((hq.b.alloc _).grown hgrow (own_ne_type hrow hq.b (by decide))).far (p := ⟨w.heap.size, 0, none⟩) (by show w.heap.size + 1 ≠ w.heap.size; omega) _
    | false =>
      gi_wp2_with fail
      exact ⟨KeepsFrom.refl _ _, fun hq => hq, ⟨v, hv, by rw [objF_miss]; exact hrow, trivial⟩, hB⟩
  case done =>
    rintro D ys W hD rfl ⟨⟨v, hv, hrow, -⟩, hB⟩ hK
    have hc := hv.cell
    gi_wp2
    refine ⟨by simp, .inl ⟨_, _, rfl, run_takeDeferred hK, ?_⟩⟩
    refine ⟨_, results_tmp rfl _ _ _, v, rfl, ?_, hB.trans (belowK_b (w := w) (Nat.le_refl _) W D _ _ (by simp at hD; omega) hK rfl rfl)⟩
    rw [← objF_rst]
    exact ownsRow_putObj hrow _ hK rfl
  case stop =>
    rintro D c pre W _ _ h _
    exact h.elim
end
end Go.Proofs.YtaecdpijpdfboaaGreat
