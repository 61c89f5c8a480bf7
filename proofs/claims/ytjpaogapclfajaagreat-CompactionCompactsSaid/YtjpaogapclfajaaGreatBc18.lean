/- Parts of the proof: Walk, Objects. -/
import Derived.LoopIn
import Derived.LoopNIn
import Derived.Maps.AppendAt
import Derived.OwnWalkIn
import Derived.RangeFuncBound
import Derived.RangeFuncBox
import Derived.RangeFuncCalls
import Derived.RangeFuncLeaves
import Derived.RangeFuncNested
import Derived.Shelf.Abstract
import Derived.Shelf.RegionOpen
import Derived.TacticsInMore
import Derived.Test.YtjpaogapclfajaaGreatBcA
import Derived.Test.YtjpaogapclfajaaGreatBc17
set_option linter.unusedVariables false
set_option linter.unusedSimpArgs false
set_option linter.unusedSectionVars false
namespace Go.Proofs.YtjpaogapclfajaaGreat
open Go.RowKit Go.Sort Go.Shelf
attribute [local go_sem] Oper.semAt_some
set_option maxRecDepth 100000
/-- what a walk yields from an index on -/
def Spc.rst (s : Spc) (i : Nat) : List (Int × Bool) := (s.walkFrom i).1.map (fun (j : Nat) => (s.base + (j : Int), true)) ++ [(s.base + ((s.walkFrom i).2 : Int), false)]
theorem Spc.rst_zero (s : Spc) {i : Nat} (h : s.size i = 0) : s.rst i = [(s.base + (i : Int), false)] := by unfold Spc.rst; rw [Spc.walkFrom_zero s h]; rfl
theorem Spc.rst_pos (s : Spc) {i : Nat} (h : s.size i ≠ 0) : s.rst i = (s.base + (i : Int), true) :: s.rst (i + s.size i) := by unfold Spc.rst; rw [Spc.walkFrom_pos s h]; rfl
theorem grownBy_of_below {w w' : World} (h : Below w.heap.size w w') : w.grownBy w' none := ⟨h.os, h.tape, h.output, h.size, fun k hk _ => h.block k hk⟩
theorem toW {n : Nat} {P : Program} {f : FuncId} {args : Array Value} {w : World} {R : Ending → World → Prop} (h : Calls P f args w R) : CallsIn Fence.wide n P f args w R := callsIn_wide.2 h
def enc2 (x : Int × Bool) : Array Value := #[.int .i64 x.1, .bool x.2]
/-- what the iterator reads: the space and the variable that leads to it -/
structure WQ (B g Bn : Nat) (s : Spc) (V : Value) (W : World) : Prop where
 s : SpR W B g s V
 b : Bk W Bn 25 #[.pointer (some ⟨g, 0, none⟩)]
theorem WQ.below {B g Bn : Nat} {s : Spc} {V : Value} {W W' : World} (h : WQ B g Bn s V W) (hb : Below W.heap.size W W') : WQ B g Bn s V W' := ⟨h.s.below hb, h.b.below hb h.b.lt⟩
theorem SpR.grown {B g : Nat} {s : Spc} {V : Value} {W W' : World} {row : Option Nat} (h : SpR W B g s V) (hg : W.grownBy W' row) (h1 : some g ≠ row) (h2 : ∀ k, V.ownBlock = some k → some k ≠ row) : SpR W' B g s V :=
 ⟨h.hd.grown hg h1, own_local h.own fun k hk => hg.block k (h.own.lt k hk).2 (h2 k hk), h.ge, h.u, h.b0, h.lim, h.l0⟩
theorem SpR.own_cells {B g : Nat} {s : Spc} {V : Value} {W : World} (h : SpR W B g s V) {k : Nat} (hk : V.ownBlock = some k) : ∃ cur, Bk W k 51 cur := by
 obtain ⟨_, ⟨rfl, _⟩ | ⟨g', cap, cur, rfl, _, h4, _⟩⟩ := h.own
 ·cases hk
 ·injection hk with hk
  exact ⟨cur, by rw [← hk]; exact h4⟩
theorem WQ.putObj {B g Bn : Nat} {s : Spc} {V : Value} {W : World} (h : WQ B g Bn s V W) {l : Nat} {o o' : Obj} (hl : W.heap[l]? = some o) (ho : o.isCells = false) : WQ B g Bn s V (W.putObj l o') := by
 have key : ∀ k t cs, Bk W k t cs → some k ≠ some l := fun k t cs hk e => by
  injection e with e
  unfold Bk at hk
  rw [e, hl] at hk
  cases hk
  cases ho
 refine ⟨h.s.grown (grownBy_putObj' W l o') (key _ _ _ h.s.hd) fun k hk => ?_, h.b.grown (grownBy_putObj' W l o') (key _ _ _ h.b)⟩
 obtain ⟨cur, hc⟩ := h.s.own_cells hk
 exact key _ _ _ hc
set_option maxHeartbeats 2000000 in
theorem walk1_in {B g Bn : Nat} {s : Spc} {V : Value} (n : Nat) (hn : 2 ≤ n) (l : Nat) (J Jx : List (Int × Bool) → World → Prop) (W : World) (hW : WQ B g Bn s V W) (hJ : AbidesFrom W.heap.size J)
  (hY : ∀ pre x W1, J pre W1 → pre.length < (s.rst 0).length → YieldAt Fence.wide (n - 1) Tryz.prog l (enc2 x) W1 fun e W' =>
   (e = .returned (.bool true) ∧ J (pre ++ [x]) W' ∧ (WQ B g Bn s V W1 → WQ B g Bn s V W')) ∨ (e = .returned (.bool false) ∧ Jx (pre ++ [x]) W'))
  (h0 : J [] W) :
  CallsIn Fence.wide n Tryz.prog 127 #[.func (.yield l) #[] #[], .pointer (some ⟨Bn, 0, none⟩)] W fun e W' => (∃ v, e = .returned v) ∧ ((∃ ys, ys = s.rst 0 ∧ J ys W') ∨ (∃ pre, pre <+: s.rst 0 ∧ Jx pre W')) := by
 have b0 := hW.s.b0
 have b1 := hW.s.lim
 have b2 := hW.s.l0
 have HW := lh hW
 have HJ := lh hJ
 have HY := lh hY
 have H0 := lh h0
 have cN : W.cell? ⟨Bn, 0, none⟩ = some (.pointer (some ⟨g, 0, none⟩)) := hW.b.cell 0
 have cS0 := toW (n := n - 1) (size_any hW.s 0 (Nat.zero_le _))
 simp only [Int.natCast_zero, Int.ofNat_zero, Int.cast_ofNat_Int] at cS0
 clear hW hJ hY h0
 refine callsIn_of_wp Tryz.func127 rfl trivial ?_ rfl
 simp only [Tryz.ntmps127, List.size_toArray, List.length_cons, List.length_nil, Nat.reduceAdd, Nat.reduceSub, Array.replicate_succ, Array.replicate_zero, List.push_toArray, List.append_toArray, List.nil_append, List.cons_append]
 have h1n : 1 ≤ n := by omega
 gi_wp2_with fail
 refine ⟨trivial, cS0.mono ?_⟩
 rintro e w1 ⟨rfl, hb⟩
 have HB1 := lh (HW.out.below hb)
 have HJ1 := lh (HJ.out _ _ _ _ H0.out (grownBy_of_below hb) (fun r e => by cases e))
 have HG1 := lh hb.size
 clear hb cN
 gi_wp2_with fail
 gi_loopw [3, 4] (fun i nn wr => ∃ (idx : Nat) (pre : List (Int × Bool)), idx ≤ s.ws.length ∧ i = .int .i64 (idx : Int) ∧ nn = .int .i64 (s.size idx : Int) ∧ s.rst 0 = pre ++ s.rst idx ∧ J pre wr ∧ WQ B g Bn s V wr) (fun i _ _ => s.ws.length - (intOf i).toNat)
 case atStart => exact ⟨0, [], Nat.zero_le _, rfl, rfl, rfl, HJ1.out, HB1.out⟩
 case round =>
  obtain ⟨idx, pre, hidx, rfl, rfl, hrst, hJp, hbw⟩ := hrel
  have hr : wr.cell? ⟨Bn, 0, none⟩ = some (.pointer (some ⟨g, 0, none⟩)) := hbw.b.cell 0
  have hr0 : wr.cell? ⟨g, 0, none⟩ = some (.int .i64 s.base) := hbw.s.hd.cell 0
  have HBW := lh hbw
  have HJP := lh hJp
  have HR := lh hrst
  clear hbw hJp hrst
  by_cases hz : s.size idx = 0
  ·have HZ := lh hz
   have hr1 := Spc.rst_zero s hz
   obtain ⟨fn, tmps, assign, body, hy, hRd⟩ := HY.out pre (s.base + (idx : Int), false) wr HJP.out (by rw [HR.out, hr1]; simp)
   unfold enc2 at hy
   dsimp only at hy
   have HR1 := lh (HR.out.trans (by rw [hr1]))
   simp only [hz]
   clear hr1 hz
   gi_wp2_with fail
   refine hRd.mono ?_
   rintro e W3 (⟨rfl, hJ3, hk3⟩ | ⟨rfl, hJx3⟩)
   ·gi_wp2_with fail
    go_end0
    exact ⟨⟨_, rfl⟩, .inl ⟨_, rfl, by rw [HR1.out]; exact hJ3⟩⟩
   ·gi_wp2_with fail
    go_end0
    exact ⟨⟨_, rfl⟩, .inr ⟨_, by rw [HR1.out]; exact List.prefix_refl _, hJx3⟩⟩
  ·have HZ := lh hz
   have hsz := s.size_le idx
   obtain ⟨hs4, hs5, hs6⟩ : 4 ≤ s.size idx ∧ idx + s.size idx ≤ s.ws.length ∧ s.size idx ≤ 32 := by omega
   have hr1 := Spc.rst_pos s hz
   obtain ⟨fn, tmps, assign, body, hy, hRd⟩ := HY.out pre (s.base + (idx : Int), true) wr HJP.out (by rw [HR.out, hr1]; simp)
   unfold enc2 at hy
   dsimp only at hy
   have HR1 : Hid (s.rst 0 = (pre ++ [(s.base + (idx : Int), true)]) ++ s.rst (idx + s.size idx)) := lh (HR.out.trans (by rw [hr1]; simp))
   obtain ⟨sz, hszE⟩ : ∃ sz, sz = s.size idx := ⟨_, rfl⟩
   rw [← hszE] at hs4 hs5 hs6 HR1 ⊢
   clear hr1 hz hsz hszE
   gi_wp2_with fail
   refine hRd.mono ?_
   rintro e W3 (⟨rfl, hJ3, hk3⟩ | ⟨rfl, hJx3⟩)
   ·have HB3 := lh (hk3 HBW.out)
    have HJ3 := lh hJ3
    have cS := toW (n := n - 1) (size_any HB3.out.s (idx + sz) hs5)
    have hr : W3.cell? ⟨Bn, 0, none⟩ = some (.pointer (some ⟨g, 0, none⟩)) := HB3.out.b.cell 0
    simp only [Int.natCast_add] at cS
    clear hJ3 hk3
    gi_wp2_with fail
    refine ⟨trivial, cS.mono ?_⟩
    rintro e w4 ⟨rfl, hb⟩
    have HJ4 := lh (HJ.out _ _ _ _ HJ3.out (grownBy_of_below hb) (fun r e => by cases e))
    have HB4 := lh (HB3.out.below hb)
    clear hb
    gi_wp2_with fail
    go_roundw
    case rel => exact ⟨idx + sz, _, hs5, by simp, rfl, HR1.out, HJ4.out, HB4.out⟩
    case measure => simp [intOf]; omega
   ·gi_wp2_with fail
    refine bodyPost_ret (results_none rfl _ _ _) rfl ?_
    exact ⟨⟨_, rfl⟩, .inr ⟨_, ⟨_, HR1.out.symm⟩, hJx3⟩⟩
theorem walk_stops {B g Bn : Nat} {s : Spc} {V : Value} (n : Nat) (hn : 2 ≤ n) (w : World) (h : WQ B g Bn s V w) :
  SeqStopsK Fence.wide n Tryz.prog 127 #[.pointer (some ⟨Bn, 0, none⟩)] enc2 (fun X Y => WQ B g Bn s V X → WQ B g Bn s V Y) (fun ys => ys = s.rst 0) (fun pre => pre <+: s.rst 0) (s.rst 0).length w :=
 fun l J Jx W hW hJ _ hY h0 => walk1_in n hn l J Jx W (h.below hW) hJ hY h0
theorem walk_any (g : Nat) (w : World) : Calls Tryz.prog 95 #[.pointer (some ⟨g, 0, none⟩)] w fun e w' => e = .returned (.func (.func 127) #[] #[.pointer (some ⟨w.heap.size, 0, none⟩)]) ∧ w.alloc (.cells #[.pointer (some ⟨g, 0, none⟩)] 25) = w' := by
 go_enter Tryz.func95, Tryz.ntmps95
 go_wp2_with fail
 go_ret
 exact ⟨rfl, rfl⟩
end Go.Proofs.YtjpaogapclfajaaGreat
namespace Go.Proofs.YtjpaogapclfajaaGreat
open Go.RowKit Go.Sort Go.Shelf
attribute [local go_sem] Oper.semAt_some
set_option maxRecDepth 100000
theorem Spc.walkN_length (s : Spc) : ∀ f i, (s.walkN f i).1.length ≤ f
 | 0, i => Nat.le_refl _
 | f + 1, i => by
  unfold Spc.walkN
  split
  ·simp
  ·have := Spc.walkN_length s f (i + s.size i)
   simp
   exact this
theorem Spc.rst_length (s : Spc) : (s.rst 0).length ≤ s.ws.length + 1 := by
 have := Spc.walkN_length s s.ws.length 0
 unfold Spc.rst Spc.walkFrom
 simp
 exact this
/-- the addresses of the objects among what has come -/
def objF (pre : List (Int × Bool)) : List Int := (pre.filter (·.2)).map (·.1)
theorem objF_hit (pre : List (Int × Bool)) (a : Int) : objF (pre ++ [(a, true)]) = objF pre ++ [a] := by simp [objF]
theorem objF_miss (pre : List (Int × Bool)) (a : Int) : objF (pre ++ [(a, false)]) = objF pre := by simp [objF]
theorem objF_length (pre : List (Int × Bool)) : (objF pre).length ≤ pre.length := by simp [objF]; exact List.length_filter_le _ _
theorem objF_rst (s : Spc) : objF (s.rst 0) = s.objs := by
 unfold Spc.rst Spc.objs Spc.walk objF
 rw [List.filter_append, List.map_append]
 have h1 : ((s.walkFrom 0).1.map (fun (j : Nat) => (s.base + (j : Int), true))).filter (·.2) = (s.walkFrom 0).1.map (fun (j : Nat) => (s.base + (j : Int), true)) := List.filter_eq_self.2 fun x hx => by
  obtain ⟨j, _, rfl⟩ := List.mem_map.1 hx
  rfl
 rw [h1]
 simp [Spc.walkFrom]
theorem SpR.belowN {W W' : World} {B g n₀ : Nat} {s : Spc} {V : Value} (h : SpR W B g s V) (hb : Below n₀ W W') (h1 : g < n₀) (h2 : ∀ k, V.ownBlock = some k → k < n₀) : SpR W' B g s V :=
 ⟨h.hd.below hb h1, own_local h.own fun k hk => hb.block k (h2 k hk), h.ge, h.u, h.b0, h.lim, h.l0⟩
theorem own_ne_type {W : World} {base size n g : Nat} {e t : TypeId} {v : Value} {xs : List Value} {cs : Array Value} (h : W.ownsRow base e size v n xs) (hk : Bk W g t cs) (ht : t ≠ e) : some g ≠ v.ownBlock := fun he => by
 obtain ⟨_, ⟨rfl, _⟩ | ⟨g2, cap, cur, rfl, _, h4, _⟩⟩ := h
 ·cases he
 ·injection he with he
  change g = g2 at he
  rw [← he] at h4
  unfold Bk at hk
  rw [hk] at h4
  injection h4 with h4
  injection h4 with _ h4
  exact ht h4
section
variable {w : World} {B g : Nat} {s : Spc} {V : Value}
set_option maxHeartbeats 4000000 in
theorem Objects_in (n : Nat) (hn : 5 ≤ n) (h : SpR w B g s V) :
  CallsIn Fence.wide n Tryz.prog 48 #[.pointer (some ⟨g, 0, none⟩)] w fun e W' => ∃ v, e = .returned v ∧ W'.ownsRow w.heap.size 3 1 v s.objs.length (ints s.objs) ∧ Below w.heap.size w W' := by
 have h1 : 1 ≤ n := by omega
 obtain ⟨i0, hi, hz0, hz1, hz2⟩ := info_parts i_int
 have hrl := s.rst_length
 have hl1 := h.lim
 have hl2 := h.l0
 have hl0 := h.b0
 have hgl := h.hd.lt
 have hvl : ∀ k, V.ownBlock = some k → k < w.heap.size := fun k hk => (h.own.lt k hk).2
 refine callsIn_of_wp_marks Tryz.func48 rfl trivial ?_ rfl
 simp only [Tryz.ntmps48, List.size_toArray, List.length_cons, List.length_nil, Nat.reduceAdd, Nat.reduceSub, Array.replicate_succ, Array.replicate_zero, List.push_toArray, List.append_toArray, List.nil_append, List.cons_append]
 gi_wp2_with fail
 refine ⟨trivial, (toW (walk_any g _)).mono ?_⟩
 rintro e w' ⟨rfl, rfl⟩
 gi_wp2_with fail
 have bO := Boxed.new w 23 (.slice none 0 0)
 have hB0 : Below w.heap.size w ((w.alloc (.cells #[.slice none 0 0] 23)).alloc (.cells #[.pointer (some ⟨g, 0, none⟩)] 25)) := ((Below.refl _ w).alloc (Nat.le_refl _) _).alloc (by simp) _
 have hWQ : WQ B g (w.heap.size + 1) s V ((w.alloc (.cells #[.slice none 0 0] 23)).alloc (.cells #[.pointer (some ⟨g, 0, none⟩)] 25)) := ⟨h.below hB0, Bk.here _ _ _ (by simp)⟩
 refine wpIn_rangeFunc_ownG rfl h1 (gf := 127) (lb := #[.pointer (some ⟨w.heap.size + 1, 0, none⟩)]) rfl trivial (enters_of Tryz.func127 (by kernel_rfl) rfl)
  (walk_stops (n - 1) (by omega) _ hWQ) (fun h k hx => k (h hx)) (fun W l o o' hl ho hc _ hq => hq.putObj ho hc) (Below.refl _ _) (fun x => by unfold enc2; rfl)
  (fun pre W => ((∃ v, Boxed W w.heap.size 23 v ∧ W.ownsRow w.heap.size 3 1 v (objF pre).length (ints (objF pre)) ∧ True) ∧ Below w.heap.size w W))
  (fun _ _ _ => False)
  (OwnFrom.and (Own.from (holdsRow_own w.heap.size w.heap.size 23 3 1 (fun pre => (objF pre).length) (fun pre => ints (objF pre)) (fun _ _ => True)) _) (ownFrom_below (Nat.le_refl _) (by simp; omega)))
  (fun _ _ _ _ _ hs _ _ => hs)
  ⟨⟨_, bO.alloc _, World.ownsRow_nil _ _ _ _, trivial⟩, hB0⟩
  (fun x => { tmps := #[.pointer (some ⟨g, 0, none⟩), undef, .slice none 0 0, .pointer (some ⟨w.heap.size, 0, none⟩), .int .i64 x.1, .bool x.2, .pointer (some ⟨g, 0, none⟩), .func (.func 127) #[] #[.pointer (some ⟨w.heap.size + 1, 0, none⟩)], .int .i64 x.1, .bool x.2, undef, undef, undef, undef, undef, undef], defers := [] }) ?assign ?body ?done ?stop
 case assign =>
  intro l x W K hK
  unfold enc2
  gi_wp2
  exact hK
 case body =>
  rintro l pre ⟨a, b⟩ W ⟨⟨v, hv, hrow, -⟩, hB⟩ hlt
  have hc := hv.cell
  have hpl := objF_length pre
  cases b with
  | true =>
   gi_wp2_with (gi_at_builtin; refine wpListIn_append_own _ rfl _ _ 23 rfl w.heap.size 3 i0 (.int .i64 0) 1 8 Tryz.underlying23 hi hz0 hz1 hz2 rfl (by decide) _ _ _ rfl (hrow.alloc _) ⟨W.heap.size, 0, none⟩ 1 1 [.int .i64 a] rfl rfl (cell_one_new _ _ _) (by simp [Value.oneCell']) (by unfold maxLen; omega) (by omega) (by have := hB.size; simp; omega) ?_; intro v' w1 hown' hgrow _; obtain ⟨g', cap', rfl⟩ := ownsRow_succ hown'; obtain ⟨hv1, hv2, hr2, hk2, hb2⟩ := hv.appended (by decide) hrow hB.size (Nat.le_refl _) hown' hgrow; have hc1 := hv1.cell; have hf1 := hv1.frozen)
   refine ⟨hk2.from _, fun hq => ⟨hq.s.belowN hb2 hgl hvl, ?_⟩, ⟨_, hv2, by rw [objF_hit]; simpa [ints] using hr2, trivial⟩, hB.trans hb2⟩
   exact ((hq.b.alloc _).grown hgrow (own_ne_type hrow hq.b (by decide))).far (p := ⟨w.heap.size, 0, none⟩) (by show w.heap.size + 1 ≠ w.heap.size; omega) _
  | false =>
   gi_wp2_with fail
   exact ⟨KeepsFrom.refl _ _, fun hq => hq, ⟨v, hv, by rw [objF_miss]; exact hrow, trivial⟩, hB⟩
 case done =>
  rintro D ys W hD rfl ⟨⟨v, hv, hrow, -⟩, hB⟩ hK
  have hc := hv.cell
  gi_wp2
  refine ⟨by simp, .inl ⟨_, _, rfl, run_takeDeferred hK, ?_⟩⟩
  refine ⟨_, results_tmp rfl _ _ _, v, rfl, ?_, hB.trans (belowK_b (w := w) (Nat.le_refl _) W D _ _ (by simp at hD; omega) hK rfl rfl)⟩
  rw [← objF_rst]
  exact ownsRow_putObj hrow _ hK rfl
 case stop =>
  rintro D c pre W _ _ h _
  exact h.elim
end
end Go.Proofs.YtjpaogapclfajaaGreat
