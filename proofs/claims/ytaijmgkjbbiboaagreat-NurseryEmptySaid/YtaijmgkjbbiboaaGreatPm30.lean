/- Parts of the proof: TrE, Clone, StepE. -/
import Derived.Lib.SliceRun
import Derived.RangeFuncNested
import Derived.Test.YtaijmgkjbbiboaaGreatPmA
import Derived.Test.YtaijmgkjbbiboaaGreatPm18
import Derived.Test.YtaijmgkjbbiboaaGreatPm19
import Derived.Test.YtaijmgkjbbiboaaGreatPm21
import Derived.Test.YtaijmgkjbbiboaaGreatPm28
import Derived.Test.YtaijmgkjbbiboaaGreatPm29
import Derived.Test.YtaijmgkjbbiboaaGreatPm4
import Derived.Test.YtaijmgkjbbiboaaGreatPm5
set_option linter.unusedVariables false
set_option linter.unusedSimpArgs false
set_option linter.unusedSectionVars false
set_option maxRecDepth 100000
namespace Go.Proofs.YtaijmgkjbbiboaaGreat
section
open Go.RowKit Go.Sort Go.Shelf
attribute [local go_sem] Oper.semAt_some
theorem walk_zero {s : Spc} (h0 : s.ws = []) : s.walk.2 = 0 := by
 have e : s.walk = s.walkFrom 0 := rfl
 rw [e, Spc.walkFrom_zero s (i := 0) (by have := s.size_le 0; rw [h0] at this; simp at this; omega)]
section
variable {w W : World} {B g : Nat} {s : Spc} {V : Value}
theorem keepsF {n : Nat} {W W1 W2 : World} (h : KeepsFrom n W W1) (h' : KeepsFrom n W1 W2) : KeepsFrom n W W2 := h.trans h'
theorem truncE_end (hsW : SpR W B g s V) (hb4 : Bk W (w.heap.size + 1 + 1) 47 #[.int .i64 0]) (hB : Below w.heap.size w W) (hgl : g < w.heap.size) (hvl : ∀ k, V.ownBlock = some k → k < w.heap.size) {N : Nat} (hN : w.heap.size + 1 + 1 < N) :
  KeepsFrom N W (((W.setCell ⟨g, 2, none⟩ V).setCell ⟨w.heap.size + 1 + 1, 0, none⟩ (.int .i64 0)).drew) ∧ (Exit.ret = .ret ∧ Bk (((W.setCell ⟨g, 2, none⟩ V).setCell ⟨w.heap.size + 1 + 1, 0, none⟩ (.int .i64 0)).drew) (w.heap.size + 1 + 1) 47 #[.int .i64 0]) ∧ SpR (((W.setCell ⟨g, 2, none⟩ V).setCell ⟨w.heap.size + 1 + 1, 0, none⟩ (.int .i64 0)).drew) B g s V ∧ Kp (fun k => k = g) w (((W.setCell ⟨g, 2, none⟩ V).setCell ⟨w.heap.size + 1 + 1, 0, none⟩ (.int .i64 0)).drew) := by
 have hbg : ∀ k, V.ownBlock = some k → k ≠ g := fun k hk e => hsW.hd_ne (by rw [hk, e])
 refine ⟨⟨by simp [World.setCell, World.drew], fun k o hk ho _ => ?_⟩, ⟨rfl, ?_⟩, ⟨?_, ?_, hsW.ge, hsW.u, hsW.b0, hsW.lim, hsW.l0⟩, ?_⟩
 ·have hkl : k < W.heap.size := (Array.getElem?_eq_some_iff.1 ho).1
  exact (Below.heap_setCell (W.setCell ⟨g, 2, none⟩ V) ⟨w.heap.size + 1 + 1, 0, none⟩ (.int .i64 0) k (by show k ≠ w.heap.size + 1 + 1; omega)).trans ((Below.heap_setCell W ⟨g, 2, none⟩ _ k (by show k ≠ g; omega)).trans ho)
 ·exact (hb4.far (p := ⟨g, 2, none⟩) (by show w.heap.size + 1 + 1 ≠ g; omega) _).set 0 _
 ·exact (hsW.hd.set 2 V).far (p := ⟨w.heap.size + 1 + 1, 0, none⟩) (by show g ≠ w.heap.size + 1 + 1; omega) _
 ·refine own_local hsW.own fun k hk => ?_
  have := hvl k hk
  exact (Below.heap_setCell (W.setCell ⟨g, 2, none⟩ V) ⟨w.heap.size + 1 + 1, 0, none⟩ (.int .i64 0) k (by show k ≠ w.heap.size + 1 + 1; omega)).trans (Below.heap_setCell W ⟨g, 2, none⟩ _ k (hbg k hk))
 ·have k1 := Kp.setCell (S := fun k => k = g ∨ k = w.heap.size + 1 + 1) W ⟨g, 2, none⟩ V (.inl rfl)
  have k2 := (k1.trans (Kp.setCell (S := fun k => k = g ∨ k = w.heap.size + 1 + 1) _ ⟨w.heap.size + 1 + 1, 0, none⟩ (.int .i64 0) (.inr rfl)) fun _ _ e => e).drew
  have k3 : Kp (fun k => k = g) w W := ⟨hB.os, hB.tape, hB.output, hB.size, fun k hk _ => hB.block k hk⟩
  exact k3.trans k2 fun k hk e => e.resolve_right (by omega)
end
section
variable {w : World} {B g : Nat} {s : Spc} {V : Value}
set_option maxHeartbeats 4000000 in
theorem TruncE_in (n : Nat) (hn : 5 ≤ n) (h : SpR w B g s V) (h0 : s.ws = []) :
  CallsIn Fence.wide n Tryz.prog 61 #[.pointer (some ⟨g, 0, none⟩), .int .i64 s.base] w (TruP w B g s V) := by
 have h1 : 1 ≤ n := by omega
 have hl1 := h.lim
 have hl2 := h.l0
 have hl0 := h.b0
 have hgl := h.hd.lt
 have hvl : ∀ k, V.ownBlock = some k → k < w.heap.size := fun k hk => (h.own.lt k hk).2
 have hwl : s.ws.length = 0 := by rw [h0]; rfl
 have htop : s.top = s.base := by unfold Spc.top; rw [hwl]; simp
 have hV : V = .slice none 0 0 ∨ ∃ bb cap, V = .slice (some ⟨bb, 0, none⟩) 0 cap := by
  obtain ⟨_, ⟨h1, _⟩ | ⟨g', cap', cur, hv, _⟩⟩ := h.own
  ·exact .inl h1
  ·rw [hwl] at hv; exact .inr ⟨g', cap', hv⟩
 have hse : ({ s with ws := [] } : Spc) = s := by cases s; cases h0; rfl
 unfold TruP
 rw [hse]
 refine callsIn_of_wp_marks Tryz.func61 rfl trivial ?_ rfl
 simp only [Tryz.ntmps61, List.size_toArray, List.length_cons, List.length_nil, Nat.reduceAdd, Nat.reduceSub, Array.replicate_succ, Array.replicate_zero, List.push_toArray, List.append_toArray, List.nil_append, List.cons_append]
 gi_wp2_with fail
 refine ⟨trivial, (toW (walk_any g _)).mono ?_⟩
 rintro e w' ⟨rfl, rfl⟩
 gi_wp2_with fail
 have hB0 : Below w.heap.size w ((((w.alloc (.cells #[.pointer (some ⟨g, 0, none⟩)] 27)).alloc (.cells #[.int .i64 s.base] 3)).alloc (.cells #[.int .i64 0] 47)).alloc (.cells #[.pointer (some ⟨g, 0, none⟩)] 27)) := ((((Below.refl _ w).alloc (Nat.le_refl _) _).alloc (by simp) _).alloc (by simp; omega) _).alloc (by simp; omega) _
 have hK2 : Bk ((((w.alloc (.cells #[.pointer (some ⟨g, 0, none⟩)] 27)).alloc (.cells #[.int .i64 s.base] 3)).alloc (.cells #[.int .i64 0] 47)).alloc (.cells #[.pointer (some ⟨g, 0, none⟩)] 27)) w.heap.size 27 #[.pointer (some ⟨g, 0, none⟩)] := (((Bk.here _ _ _ (by simp)).alloc _).alloc _).alloc _
 have hK3 : Bk ((((w.alloc (.cells #[.pointer (some ⟨g, 0, none⟩)] 27)).alloc (.cells #[.int .i64 s.base] 3)).alloc (.cells #[.int .i64 0] 47)).alloc (.cells #[.pointer (some ⟨g, 0, none⟩)] 27)) (w.heap.size + 1) 3 #[.int .i64 s.base] := ((Bk.here _ _ _ (by simp)).alloc _).alloc _
 have hK4 : Bk ((((w.alloc (.cells #[.pointer (some ⟨g, 0, none⟩)] 27)).alloc (.cells #[.int .i64 s.base] 3)).alloc (.cells #[.int .i64 0] 47)).alloc (.cells #[.pointer (some ⟨g, 0, none⟩)] 27)) (w.heap.size + 1 + 1) 47 #[.int .i64 0] := (Bk.here _ _ _ (by simp)).alloc _
 have hK5 : Bk ((((w.alloc (.cells #[.pointer (some ⟨g, 0, none⟩)] 27)).alloc (.cells #[.int .i64 s.base] 3)).alloc (.cells #[.int .i64 0] 47)).alloc (.cells #[.pointer (some ⟨g, 0, none⟩)] 27)) (w.heap.size + 1 + 1 + 1) 27 #[.pointer (some ⟨g, 0, none⟩)] := Bk.here _ _ _ (by simp)
 generalize ((((w.alloc (.cells #[.pointer (some ⟨g, 0, none⟩)] 27)).alloc (.cells #[.int .i64 s.base] 3)).alloc (.cells #[.int .i64 0] 47)).alloc (.cells #[.pointer (some ⟨g, 0, none⟩)] 27)) = w4 at hB0 hK2 hK3 hK4 hK5 ⊢
 have hs4 := h.below hB0
 have hz4 := hK5.lt
 refine wpIn_rangeFunc_ownG rfl h1 (gf := 111) (lb := #[.pointer (some ⟨w.heap.size + 1 + 1 + 1, 0, none⟩)]) rfl trivial (enters_of Tryz.func111 (by kernel_rfl) rfl)
  (walk_stops (n - 1) (by omega) _ ⟨hs4, hK5⟩) (fun h k hx => k (h hx)) (fun W l o o' hl ho hc _ hq => hq.putObj ho hc) (Below.refl _ _) (fun x => by unfold enc2; rfl)
  (fun pre W => (((∀ x ∈ pre, x.1 ≠ s.base) ∧ Bk W (w.heap.size + 1 + 1) 47 #[.int .i64 0]) ∧ Bk W w.heap.size 27 #[.pointer (some ⟨g, 0, none⟩)]) ∧ (Bk W (w.heap.size + 1) 3 #[.int .i64 s.base] ∧ Bk W (w.heap.size + 1 + 1 + 1) 27 #[.pointer (some ⟨g, 0, none⟩)]) ∧ Below w.heap.size w W)
  (fun c _ W => (c = .ret ∧ Bk W (w.heap.size + 1 + 1) 47 #[.int .i64 0]) ∧ SpR W B g s V ∧ Kp (fun k => k = g) w W)
  (OwnFrom.and (OwnFrom.and (OwnFrom.and ownF_const ownF_bk) ownF_bk) (OwnFrom.and (OwnFrom.and ownF_bk ownF_bk) (ownFrom_below (Nat.le_refl _) (by omega))))
  (fun c => OwnFrom.and (OwnFrom.and (ownF_const (p := fun _ => c = .ret)) ownF_bk) (OwnFrom.and ownF_spr (ownF_kp (by omega))))
  ⟨⟨⟨(fun x hx => by cases hx), hK4⟩, hK2⟩, ⟨hK3, hK5⟩, hB0⟩
  (fun x => { tmps := #[.pointer (some ⟨g, 0, none⟩), .int .i64 s.base, .pointer (some ⟨w.heap.size, 0, none⟩), .pointer (some ⟨w.heap.size + 1, 0, none⟩), .pointer (some ⟨w.heap.size + 1 + 1, 0, none⟩), .int .i64 x.1, .bool x.2, .pointer (some ⟨g, 0, none⟩), .func (.func 111) #[] #[.pointer (some ⟨w.heap.size + 1 + 1 + 1, 0, none⟩)], .int .i64 x.1, .bool x.2, undef, undef, undef, undef, undef, undef, undef, undef, undef, undef, undef, undef, undef, undef, undef, undef, undef, undef, undef, undef, undef, undef, undef, undef, undef, undef], defers := [] }) ?assign ?body ?done ?stop
 case assign =>
  intro l x W K hK
  unfold enc2
  gi_wp2
  exact hK
 case body =>
  rintro l pre ⟨a, b⟩ W ⟨⟨⟨hpre, hb4⟩, hb2⟩, ⟨hb3, hb5⟩, hB⟩ hlt
  have c2 := hb2.cell 0
  have c3 := hb3.cell 0
  have c4 := hb4.cell 0
  simp only [List.getElem?_toArray, List.getElem?_cons_zero] at c2 c3 c4
  have hsW := h.below hB
  by_cases hab : a = s.base
  ·subst hab
   have s0 := hsW.hd.cell 0
   have s2 := hsW.hd.cell 2
   have f2 := hsW.hd.free 2
   simp only [List.getElem?_toArray, List.getElem?_cons_zero, List.getElem?_cons_succ] at s0 s2
   have hw0 : IntKind.i64.wrap 0 = 0 := rfl
   have hsub : IntKind.i64.wrap (s.base - s.base) = 0 := by rw [Int.sub_self]; rfl
   have hsub : IntKind.i64.wrap (s.base - s.base) = 0 := by rw [Int.sub_self]; rfl
   have e2 : (s.base == s.base) = true := by simp
   have HSW := lh hsW
   have HB4 := lh hb4
   have HBB := lh hB
   cases b with
   | true =>
    rcases hV with rfl | ⟨bb, cap, rfl⟩
    ·have hc0 : (0 : Int) ≤ (0 : Int) := by omega
     gi_wp2_with (refine wpListIn_pass (fun _ => trivial) rfl ?_)
     refine wpIn_still_tail 12 (by kernel_rfl) (by kernel_rfl) (by rfl) ?_
     simp only [List.take_succ_cons, List.take_zero, List.drop_succ_cons, List.drop_zero]
     repeat still_step
     try refine wpStill_nil ?_
     change wpList _ _ _ _ _ W.drew
     go_wp2_with fail
     refine ⟨rfl, ?_⟩
     have c6 : ((W.setCell ⟨g, 2, none⟩ (.slice none 0 0)).drew).cell? ⟨w.heap.size + 1 + 1, 0, none⟩ = some (.int .i64 0) := (HB4.out.far (p := ⟨g, 2, none⟩) (by show w.heap.size + 1 + 1 ≠ g; omega) _).cell 0
     have f6 : ((W.setCell ⟨g, 2, none⟩ (.slice none 0 0)).drew).frozen? ⟨w.heap.size + 1 + 1, 0, none⟩ = false := (HB4.out.far (p := ⟨g, 2, none⟩) (by show w.heap.size + 1 + 1 ≠ g; omega) _).free 0
     gi_wp2_with fail
     have hend := truncE_end HSW.out HB4.out HBB.out hgl hvl (N := w4.heap.size) (by omega)
     exact ⟨hend.1, ⟨rfl, hend.2.1.2⟩, hend.2.2.1, hend.2.2.2⟩
    ·have hc0 : (0 : Int) ≤ (cap : Int) := by omega
     gi_wp2_with (refine wpListIn_pass (fun _ => trivial) rfl ?_)
     refine wpIn_still_tail 12 (by kernel_rfl) (by kernel_rfl) (by rfl) ?_
     simp only [List.take_succ_cons, List.take_zero, List.drop_succ_cons, List.drop_zero]
     repeat still_step
     try refine wpStill_nil ?_
     change wpList _ _ _ _ _ W.drew
     go_wp2_with fail
     refine ⟨rfl, ?_⟩
     have c6 : ((W.setCell ⟨g, 2, none⟩ (.slice (some ⟨bb, 0, none⟩) 0 cap)).drew).cell? ⟨w.heap.size + 1 + 1, 0, none⟩ = some (.int .i64 0) := (HB4.out.far (p := ⟨g, 2, none⟩) (by show w.heap.size + 1 + 1 ≠ g; omega) _).cell 0
     have f6 : ((W.setCell ⟨g, 2, none⟩ (.slice (some ⟨bb, 0, none⟩) 0 cap)).drew).frozen? ⟨w.heap.size + 1 + 1, 0, none⟩ = false := (HB4.out.far (p := ⟨g, 2, none⟩) (by show w.heap.size + 1 + 1 ≠ g; omega) _).free 0
     gi_wp2_with fail
     have hend := truncE_end HSW.out HB4.out HBB.out hgl hvl (N := w4.heap.size) (by omega)
     exact ⟨hend.1, ⟨rfl, hend.2.1.2⟩, hend.2.2.1, hend.2.2.2⟩
   | false =>
    have cT := (toW (n := n - 1 - 1 - 1) (Top_any hsW)).inRound l
    have e3 : (s.base == s.top) = true := by rw [htop]; simp
    rcases hV with rfl | ⟨bb, cap, rfl⟩
    ·have hc0 : (0 : Int) ≤ (0 : Int) := by omega
     gi_wp2_with (refine wpListIn_pass (fun _ => trivial) rfl ?_)
     refine ⟨trivial, nofun, cT.mono ?_⟩
     rintro e W2 ⟨rfl, hbT⟩
     have HSW := lh (hsW.below hbT)
     have HB4 := lh (hb4.below hbT hb4.lt)
     have HBB := lh (hB.trans (hbT.mono hB.size))
     have HKF := lh ((KeepsOthers.of_grownBy (grownBy_of_below hbT) (fun _ _ e => by cases e)).from w4.heap.size)
     have c2 : W2.cell? ⟨w.heap.size, 0, none⟩ = some (.pointer (some ⟨g, 0, none⟩)) := (hb2.below hbT hb2.lt).cell 0
     have c3 : W2.cell? ⟨w.heap.size + 1, 0, none⟩ = some (.int .i64 s.base) := (hb3.below hbT hb3.lt).cell 0
     have s0 : W2.cell? ⟨g, 0, none⟩ = some (.int .i64 s.base) := HSW.out.hd.cell 0
     have s2 : W2.cell? ⟨g, 2, none⟩ = some (.slice none 0 0) := HSW.out.hd.cell 2
     have f2 : W2.frozen? ⟨g, 2, none⟩ = false := HSW.out.hd.free 2
     gi_wp2_with fail
     refine wpIn_still_tail 12 (by kernel_rfl) (by kernel_rfl) (by rfl) ?_
     simp only [List.take_succ_cons, List.take_zero, List.drop_succ_cons, List.drop_zero]
     repeat still_step
     try refine wpStill_nil ?_
     change wpList _ _ _ _ _ W2.drew
     go_wp2_with fail
     refine ⟨rfl, ?_⟩
     have c6 : ((W2.setCell ⟨g, 2, none⟩ (.slice none 0 0)).drew).cell? ⟨w.heap.size + 1 + 1, 0, none⟩ = some (.int .i64 0) := (HB4.out.far (p := ⟨g, 2, none⟩) (by show w.heap.size + 1 + 1 ≠ g; omega) _).cell 0
     have f6 : ((W2.setCell ⟨g, 2, none⟩ (.slice none 0 0)).drew).frozen? ⟨w.heap.size + 1 + 1, 0, none⟩ = false := (HB4.out.far (p := ⟨g, 2, none⟩) (by show w.heap.size + 1 + 1 ≠ g; omega) _).free 0
     gi_wp2_with fail
     have hend := truncE_end HSW.out HB4.out HBB.out hgl hvl (N := w4.heap.size) (by omega)
     exact ⟨keepsF HKF.out hend.1, ⟨rfl, hend.2.1.2⟩, hend.2.2.1, hend.2.2.2⟩
    ·have hc0 : (0 : Int) ≤ (cap : Int) := by omega
     gi_wp2_with (refine wpListIn_pass (fun _ => trivial) rfl ?_)
     refine ⟨trivial, nofun, cT.mono ?_⟩
     rintro e W2 ⟨rfl, hbT⟩
     have HSW := lh (hsW.below hbT)
     have HB4 := lh (hb4.below hbT hb4.lt)
     have HBB := lh (hB.trans (hbT.mono hB.size))
     have HKF := lh ((KeepsOthers.of_grownBy (grownBy_of_below hbT) (fun _ _ e => by cases e)).from w4.heap.size)
     have c2 : W2.cell? ⟨w.heap.size, 0, none⟩ = some (.pointer (some ⟨g, 0, none⟩)) := (hb2.below hbT hb2.lt).cell 0
     have c3 : W2.cell? ⟨w.heap.size + 1, 0, none⟩ = some (.int .i64 s.base) := (hb3.below hbT hb3.lt).cell 0
     have s0 : W2.cell? ⟨g, 0, none⟩ = some (.int .i64 s.base) := HSW.out.hd.cell 0
     have s2 : W2.cell? ⟨g, 2, none⟩ = some (.slice (some ⟨bb, 0, none⟩) 0 cap) := HSW.out.hd.cell 2
     have f2 : W2.frozen? ⟨g, 2, none⟩ = false := HSW.out.hd.free 2
     gi_wp2_with fail
     refine wpIn_still_tail 12 (by kernel_rfl) (by kernel_rfl) (by rfl) ?_
     simp only [List.take_succ_cons, List.take_zero, List.drop_succ_cons, List.drop_zero]
     repeat still_step
     try refine wpStill_nil ?_
     change wpList _ _ _ _ _ W2.drew
     go_wp2_with fail
     refine ⟨rfl, ?_⟩
     have c6 : ((W2.setCell ⟨g, 2, none⟩ (.slice (some ⟨bb, 0, none⟩) 0 cap)).drew).cell? ⟨w.heap.size + 1 + 1, 0, none⟩ = some (.int .i64 0) := (HB4.out.far (p := ⟨g, 2, none⟩) (by show w.heap.size + 1 + 1 ≠ g; omega) _).cell 0
     have f6 : ((W2.setCell ⟨g, 2, none⟩ (.slice (some ⟨bb, 0, none⟩) 0 cap)).drew).frozen? ⟨w.heap.size + 1 + 1, 0, none⟩ = false := (HB4.out.far (p := ⟨g, 2, none⟩) (by show w.heap.size + 1 + 1 ≠ g; omega) _).free 0
     gi_wp2_with fail
     have hend := truncE_end HSW.out HB4.out HBB.out hgl hvl (N := w4.heap.size) (by omega)
     exact ⟨keepsF HKF.out hend.1, ⟨rfl, hend.2.1.2⟩, hend.2.2.1, hend.2.2.2⟩
  ·have e1 : (a == s.base) = false := by simp [hab]
   gi_wp2_with (refine wpListIn_pass (fun _ => trivial) rfl ?_)
   exact ⟨KeepsFrom.refl _ _, fun hq => hq, ⟨⟨fun x hx he => by
    rcases List.mem_append.1 hx with hx | hx
    ·exact hpre x hx he
    ·rw [List.mem_singleton.1 hx] at he
     exact absurd he hab, hb4⟩, hb2⟩, ⟨hb3, hb5⟩, hB⟩
 case done =>
  rintro D ys W hD rfl ⟨⟨⟨hpre, hb4⟩, hb2⟩, ⟨hb3, hb5⟩, hB⟩ hK
  exact absurd rfl (hpre (s.base, false) (by
   have h1 := rst_last s
   have h2 := walk_zero h0
   rw [h2] at h1
   simpa using h1))
 case stop =>
  rintro D c pre W hD hSp ⟨⟨rfl, hb4⟩, hsp, hkp⟩ hK
  have c4 := hb4.cell 0
  simp only [List.getElem?_toArray, List.getElem?_cons_zero] at c4
  gi_wp2
  refine ⟨by simp, .inl ⟨_, _, rfl, run_takeDeferred hK, ?_⟩⟩
  have hno : ∀ {k : Nat} {t : TypeId} {cs : Array Value}, Bk W k t cs → some k ≠ some D := fun {k t cs} hk e => by
   injection e with e
   unfold Bk at hk
   rw [e, hK] at hk
   cases hk
  have hg := grownBy_putObj' W D (.deferred none)
  have c5 : (W.putObj D (.deferred none)).cell? ⟨w.heap.size + 1 + 1, 0, none⟩ = some (.int .i64 0) := (hb4.grown hg (hno hb4)).cell 0
  refine ⟨.int .i64 0, by simp [results, Tryz.results61, go_sem, c5], rfl, V, ?_, fun k hk => hk, ?_⟩
  ·refine hsp.grown hg (hno hsp.hd) fun k hk => ?_
   obtain ⟨cur, hc⟩ := hsp.own_cells hk
   exact hno hc
  ·exact ⟨hg.os.trans hkp.os, hg.tape.trans hkp.tape, hg.output.trans hkp.output, Nat.le_trans hkp.size hg.size, fun k hk hn => (hg.block k (Nat.lt_of_lt_of_le hk hkp.size) fun e => by injection e with e; omega).trans (hkp.block k hk hn)⟩
theorem TruncE_base (h : SpR w B g s V) (h0 : s.ws = []) : Calls Tryz.prog 61 #[.pointer (some ⟨g, 0, none⟩), .int .i64 s.base] w (TruP w B g s V) := callsIn_wide.1 (TruncE_in 5 (by omega) h h0)
end
end
section
open Go.RowKit
attribute [local go_sem] Oper.semAt_some
def OwnT (B n : Nat) (xs : List Value) (v : Value) (w : World) : Prop := w.ownsRow B 54 1 v n xs
theorem OwnT.below {B n : Nat} {xs : List Value} (v : Value) (w w' : World) (h : OwnT B n xs v w) (hb : Below w.heap.size w w') : OwnT B n xs v w' := own_local h fun k hk => hb.block k (h.lt k hk).2
section
variable {w : World} {B g : Nat} {s : Spc} {V : Value}
set_option maxHeartbeats 1000000 in
theorem sClone_any {A : Option Addr} {c : Nat} {l : List Int} (h : w.ownsRow B 54 1 (.slice A l.length c) l.length (wds l)) (hl : l.length ≤ 4294967297) :
  Calls Tryz.prog 104 #[.slice A l.length c] w fun e w' => ∃ v, e = .returned v ∧ OwnT w.heap.size l.length (wds l) v w' ∧ Below w.heap.size w w' := by
 cases A with
 | none =>
  have h0 : l.length = 0 ∧ c = 0 := by
   obtain ⟨_, ⟨h2, h3⟩ | ⟨g', cap', cur, hv, _⟩⟩ := h
   ·injection h2 with _ e1 e2; exact ⟨e1, e2⟩
   ·cases hv
  obtain ⟨hl0, rfl⟩ := h0
  obtain rfl : l = [] := List.length_eq_zero_iff.1 hl0
  clear h hl hl0
  go_enter Tryz.func104, Tryz.ntmps104
  have q := fun w n c => Lib.run_eql_slice_nil w 31 _ none n c 0 0 Tryz.underlying31
  go_wp2_with fail
  go_ret
  exact ⟨_, rfl, World.ownsRow_nil _ _ _ _, Below.refl _ _⟩
 | some ad =>
  obtain ⟨i0, hi, hz0, hz1, hz2⟩ := info_parts i_word
  have HI := lh (And.intro hi (And.intro hz0 (And.intro hz1 hz2)))
  have hbe : Below w.heap.size w (w.alloc (.cells #[] 54)) := (Below.refl _ _).alloc (Nat.le_refl _) _
  have HBE := lh hbe
  have hwe : (w.alloc (.cells #[] 54)).ownsRow w.heap.size 54 1 (.slice (some ⟨w.heap.size, 0, none⟩) 0 0) 0 [] := ownEmpty 1 (Bk.new _ _ _) (Nat.le_refl _)
  have HWE := lh hwe
  have HS := lh (own_sl h)
  clear h hi hz0 hz1 hz2 hbe hwe
  have q := fun w n c => Lib.run_eql_slice_nil w 31 _ (some ad) n c 0 0 Tryz.underlying31
  go_enter Tryz.func104, Tryz.ntmps104
  go_wp2_with (at_builtin; refine wpList_app rfl (.tmp 5) (.tmp 6) 31 rfl Tryz.underlying31 HI.out.1 HI.out.2.1 HI.out.2.2.1 HI.out.2.2.2 rfl (by decide) (n := 0) (xs := []) rfl HWE.out (A := some ad) (m := l.length) (c := c) (news := wds l) rfl (HS.out.below HBE.out) (wds_one _) (by unfold maxLen; omega) (by omega) (by simp) ?_; intro v2 w2 ho2 hg2 h42; simp only [Nat.zero_add, List.nil_append] at ho2; have HO2 := lh ho2; have HB2 : Hid (Below w.heap.size w w2) := lh (HBE.out.grown hg2 (by simp) (fun k hk => by cases hk; exact Nat.le_refl _)); clear ho2 hg2 h42)
  go_ret
  exact ⟨_, rfl, HO2.out, HB2.out⟩
/-- the copy of a space, in blocks of its own -/
def CloneP (w : World) (s : Spc) (e : Ending) (w' : World) : Prop := ∃ g' V', e = .returned (.pointer (some ⟨g', 0, none⟩)) ∧ SpR w' w.heap.size g' s V' ∧ w.heap.size ≤ g' ∧ Below w.heap.size w w'
set_option maxHeartbeats 4000000 in
theorem SpClone_any (h : SpR w B g s V) : Calls Tryz.prog 56 #[.pointer (some ⟨g, 0, none⟩)] w (CloneP w s) := by
 obtain ⟨A, c, rfl, hle⟩ := own_shape h.own
 have HK : Hid (Bk w g 123 #[.int .i64 s.base, .int .i64 s.limit, .slice A s.ws.length c]) := lh h.hd
 have cC := fun w1 (hb : Below w.heap.size w w1) => sClone_any ((h.below hb).own) (by have := h.lim; have := h.l0; have := h.b0; omega)
 have HCC := lh cC
 have H := lh h
 clear h cC
 go_enter Tryz.func56, Tryz.ntmps56
 go_upto_region 1 with fail
 refine wp_region_adds0 13 (fun i => ([[], [0], [1], [2], [], [4], [5], [6], [], [8], [9], [10], [11]] : List (List Nat)).getD i []) (EL [Ent.val (.pointer (some ⟨g, 0, none⟩)), Ent.val (.pointer (some ⟨g, 0, none⟩)), Ent.val (.pointer (some ⟨g, 0, none⟩)), Ent.val (.int .i64 s.base), Ent.val (.pointer (some ⟨g, 0, none⟩)), Ent.val (.pointer (some ⟨g, 0, none⟩)), Ent.val (.pointer (some ⟨g, 1, none⟩)), Ent.val (.int .i64 s.limit), Ent.val (.pointer (some ⟨g, 0, none⟩)), Ent.val (.pointer (some ⟨g, 0, none⟩)), Ent.val (.pointer (some ⟨g, 2, none⟩)), Ent.val (.slice A s.ws.length c), Ent.of (OwnT w.heap.size s.ws.length (wds s.ws)) OwnT.below]) (by kernel_rfl) (by kernel_rfl) (by kernel_rfl) (by kernel_rfl) (by rfl) ?_ ?_
 ·intro i hi o ho vs w1 hb1 hgr
  rcases (show i = 0 ∨ i = 1 ∨ i = 2 ∨ i = 3 ∨ i = 4 ∨ i = 5 ∨ i = 6 ∨ i = 7 ∨ i = 8 ∨ i = 9 ∨ i = 10 ∨ i = 11 ∨ i = 12 by omega) with rfl | rfl | rfl | rfl | rfl | rfl | rfl | rfl | rfl | rfl | rfl | rfl | rfl <;> cases ho
  ·clear hgr
   change Made _ (Adds _ _ _) (Sem.run _ (execOp (Act.eval (frm _ _ _ [])) _) _)
   simp only [frm]
   go_simp
   exact adds_val rfl
  ·have h0 : vs 0 = _ := hgr 0 (by decide)
   clear hgr
   change Made _ (Adds _ _ _) (Sem.run _ (execOp (Act.eval (Act.put (frm _ _ _ []) (some 3) (vs 0))) _) _)
   simp only [frm, h0]
   go_simp
   exact adds_val rfl
  ·have h1 : vs 1 = _ := hgr 1 (by decide)
   clear hgr
   change Made _ (Adds _ _ _) (Sem.run _ (execOp (Act.eval (Act.put (frm _ _ _ []) (some 4) (vs 1))) _) _)
   simp only [frm, h1]
   go_simp
   exact adds_val rfl
  ·have h2 : vs 2 = _ := hgr 2 (by decide)
   clear hgr
   change Made _ (Adds _ _ _) (Sem.run _ (execOp (Act.eval (Act.put (frm _ _ _ []) (some 5) (vs 2))) _) _)
   simp only [frm, h2]
   have hbk := HK.out.below hb1 HK.out.lt
   have c0 : w1.cell? ⟨g, 0, none⟩ = some (.int .i64 s.base) := hbk.cell 0
   clear hbk
   go_simp
   exact adds_val rfl
  ·clear hgr
   change Made _ (Adds _ _ _) (Sem.run _ (execOp (Act.eval (frm _ _ _ [])) _) _)
   simp only [frm]
   go_simp
   exact adds_val rfl
  ·have h4 : vs 4 = _ := hgr 4 (by decide)
   clear hgr
   change Made _ (Adds _ _ _) (Sem.run _ (execOp (Act.eval (Act.put (frm _ _ _ []) (some 7) (vs 4))) _) _)
   simp only [frm, h4]
   go_simp
   exact adds_val rfl
  ·have h5 : vs 5 = _ := hgr 5 (by decide)
   clear hgr
   change Made _ (Adds _ _ _) (Sem.run _ (execOp (Act.eval (Act.put (frm _ _ _ []) (some 8) (vs 5))) _) _)
   simp only [frm, h5]
   go_simp
   exact adds_val rfl
  ·have h6 : vs 6 = _ := hgr 6 (by decide)
   clear hgr
   change Made _ (Adds _ _ _) (Sem.run _ (execOp (Act.eval (Act.put (frm _ _ _ []) (some 9) (vs 6))) _) _)
   simp only [frm, h6]
   have hbk := HK.out.below hb1 HK.out.lt
   have c0 : w1.cell? ⟨g, 1, none⟩ = some (.int .i64 s.limit) := hbk.cell 1
   clear hbk
   go_simp
   exact adds_val rfl
  ·clear hgr
   change Made _ (Adds _ _ _) (Sem.run _ (execOp (Act.eval (frm _ _ _ [])) _) _)
   simp only [frm]
   go_simp
   exact adds_val rfl
  ·have h8 : vs 8 = _ := hgr 8 (by decide)
   clear hgr
   change Made _ (Adds _ _ _) (Sem.run _ (execOp (Act.eval (Act.put (frm _ _ _ []) (some 11) (vs 8))) _) _)
   simp only [frm, h8]
   go_simp
   exact adds_val rfl
  ·have h9 : vs 9 = _ := hgr 9 (by decide)
   clear hgr
   change Made _ (Adds _ _ _) (Sem.run _ (execOp (Act.eval (Act.put (frm _ _ _ []) (some 12) (vs 9))) _) _)
   simp only [frm, h9]
   go_simp
   exact adds_val rfl
  ·have h10 : vs 10 = _ := hgr 10 (by decide)
   clear hgr
   change Made _ (Adds _ _ _) (Sem.run _ (execOp (Act.eval (Act.put (frm _ _ _ []) (some 13) (vs 10))) _) _)
   simp only [frm, h10]
   have hbk := HK.out.below hb1 HK.out.lt
   have c0 : w1.cell? ⟨g, 2, none⟩ = some (.slice A s.ws.length c) := hbk.cell 2
   clear hbk
   go_simp
   exact adds_val rfl
  ·have h11 : vs 11 = _ := hgr 11 (by decide)
   clear hgr
   change Made _ (Adds _ _ _) (Sem.run _ (execOp (Act.eval (Act.put (frm _ _ _ []) (some 14) (vs 11))) _) _)
   simp only [frm, h11]
   have cM := HCC.out _ hb1
   go_simp
   exact adds_call (T := OwnT w.heap.size s.ws.length (wds s.ws)) (hT := OwnT.below) (ob := fun _ => none) cM fun e w2 ⟨v, he, ho, hb⟩ => ⟨v, he, ownBase ho hb1.size, hb, (fun k hk => nomatch hk)⟩
 ·intro vs w1 hb1 hall hap
  have h3 : vs 3 = _ := (hall 3 (by omega)).1
  have h7 : vs 7 = _ := (hall 7 (by omega)).1
  have hown12 : w1.ownsRow w.heap.size 54 1 (vs 12) s.ws.length (wds s.ws) := (hall 12 (by omega)).1; obtain ⟨A12, c12, h12, _⟩ := own_shape hown12; rw [h12] at hown12
  clear hall hap
  change wpList _ _ _ [_, _, _] (Act.put (Act.put (Act.put (Act.put (Act.put (Act.put (Act.put (Act.put (Act.put (Act.put (Act.put (Act.put (Act.put (frm _ _ _ []) (some 15) (vs 12)) (some 14) (vs 11)) (some 13) (vs 10)) (some 12) (vs 9)) (some 11) (vs 8)) (some 10) (vs 7)) (some 9) (vs 6)) (some 8) (vs 5)) (some 7) (vs 4)) (some 6) (vs 3)) (some 5) (vs 2)) (some 4) (vs 1)) (some 3) (vs 0)) _
  simp only [frm, h3, h7, h12]
  have HB1 := lh hb1
  have H12 := lh hown12
  clear hb1 hown12
  go_wp2_with fail
  go_ret
  have hal : Below w1.heap.size w1 (w1.alloc (.cells #[.int .i64 s.base, .int .i64 s.limit, .slice A12 s.ws.length c12] 123)) := (Below.refl _ _).alloc (Nat.le_refl _) _
  exact ⟨_, _, rfl, ⟨Bk.new _ _ _, own_local H12.out fun k hk => hal.block k (H12.out.lt k hk).2, HB1.out.size, H.out.u, H.out.b0, H.out.lim, H.out.l0⟩, HB1.out.size, HB1.out.trans (hal.mono HB1.out.size)⟩
end
end
section
open Go.RowKit Go.Maps Go.MapKept
theorem MapT.clear {P : Program} {k e t : TypeId} {w : World} {b n : Nat} {f : Int → Bool} (ht : P.underlying t = some (.map k e)) (h : MapT P k e w b n f) : ∃ w', (∀ ty, (Builtin.clear_ #[t] ty #[.map (some b)]).run P w = .ok (.tuple #[]) w') ∧ MapT P k e w' b 0 (fun _ => false) ∧ w.grownBy w' (some b) := by
 obtain ⟨D, ⟨es, clock, hb, _⟩, _⟩ := h
 refine ⟨{ w with heap := w.heap.setIfInBounds b (.map #[] clock) }, fun ty => ?_, ⟨.map [], ⟨#[], clock, (heap_set hb).1, ⟨by simp, stamped_empty clock, by simp⟩, Nat.le_refl _, rfl⟩, fun x _ => ⟨rfl, rfl⟩⟩, ?_⟩
 ·simp [Builtin.clear_, run_underlying ht, MapKept.run_getObj_map hb, MapKept.run_setObj_map _ hb, Result.andThen]
 ·exact ⟨rfl, rfl, rfl, by simp, fun k hk hne => (heap_set hb).2 k (fun e => hne (by rw [e]))⟩
section
variable {w : World} {B g b n : Nat} {cs : List Int}
theorem Clear_any (h : CR w B g b n cs) : Calls Tryz.prog 62 #[.pointer (some ⟨g, 0, none⟩)] w fun e w' => e = .returned (.tuple #[]) ∧ CR w' B g b 0 [] ∧ Kp (fun k => k = b) w w' := by
 obtain ⟨w2, hr, hm, hg⟩ := h.mp.clear Tryz.underlying127
 have c0 : w.cell? ⟨g, 0, none⟩ = some (.map (some b)) := h.hd.cell 0
 have H := lh h
 have HM := lh hm
 have HG := lh hg
 clear h hm hg
 go_enter Tryz.func62, Tryz.ntmps62
 go_wp2_with fail
 go_end0
 refine ⟨rfl, ⟨?_, HM.out.congr fun x _ => rfl, H.out.ge, H.out.gm⟩, Kp.of_grown HG.out fun k hk => (Option.some.inj hk).symm⟩
 refine H.out.hd.grown HG.out fun e => ?_
 cases e
 obtain ⟨D, ⟨es, clock, h1, _⟩, _⟩ := H.out.mp
 have h2 := H.out.hd
 unfold Bk at h2
 rw [h1] at h2
 cases h2
end
end
section
open Go.RowKit Go.Sort Go.Shelf
section
variable {w w' w0 : World} {B k : Nat} {L : LP} {m m' : Mm} {cs cs' xs : List Int}
end
section
variable {w w2 w4 : World} {B k : Nat} {L : LP} {m2 m3 m' : Mm} {cs2 cs3 cs' xs : List Int} {A1 A2 A : Option Addr} {c1 c2 c : Nat}
end
end
end Go.Proofs.YtaijmgkjbbiboaaGreat
