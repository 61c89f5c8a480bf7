/- Package space: walk, Objects. -/
import Derived.Test.YtaecdpijpdfboaaGreatSize
import Derived.RangeFuncNested
import Derived.RangeFuncBound
import Derived.RangeFuncCalls
import Derived.RangeFuncLeaves
import Derived.Shelf.Abstract
import Derived.Shelf.RegionOpen
import Derived.OwnWalkIn
import Derived.TacticsInMore
import Derived.LoopNIn
import Derived.LoopIn
namespace Go.Proofs.YtaecdpijpdfboaaGreat
set_option linter.unusedVariables false
set_option linter.unusedSimpArgs false
set_option linter.unusedSectionVars false
open Go.RowKit Go.Sort Go.Shelf
attribute [local go_sem] Oper.semAt_some
set_option maxRecDepth 100000

/-- what a walk yields from an index on -/
def Spc.rst (s : Spc) (i : Nat) : List (Int × Bool) := (s.walkFrom i).1.map (fun (j : Nat) => (s.base + (j : Int), true)) ++ [(s.base + ((s.walkFrom i).2 : Int), false)]
theorem Spc.rst_zero (s : Spc) {i : Nat} (h : s.size i = 0) : s.rst i = [(s.base + (i : Int), false)] := by unfold Spc.rst; rw [Spc.walkFrom_zero s h]; rfl
theorem Spc.rst_pos (s : Spc) {i : Nat} (h : s.size i ≠ 0) : s.rst i = (s.base + (i : Int), true) :: s.rst (i + s.size i) := by unfold Spc.rst; rw [Spc.walkFrom_pos s h]; rfl
theorem grownBy_of_below {w w' : World} (h : Below w.heap.size w w') : w.grownBy w' none := ⟨h.os, h.tape, h.output, h.size, fun k hk _ => h.block k hk⟩
theorem toW {n : Nat} {P : Program} {f : FuncId} {args : Array Value} {w : World} {R : Ending → World → Prop} (h : Calls P f args w R) : CallsIn Fence.wide n P f args w R := callsIn_wide.2 h
def enc2 (x : Int × Bool) : Array Value := #[.int .i64 x.1, .bool x.2]

/-- what the iterator reads: the space and the variable that leads to it -/
structure WQ (B g Bn : Nat) (s : Spc) (V : Value) (W : World) : Prop where
  s : SpR W B g s V
  b : Bk W Bn 29 #[.pointer (some ⟨g, 0, none⟩)]
theorem WQ.below {B g Bn : Nat} {s : Spc} {V : Value} {W W' : World} (h : WQ B g Bn s V W) (hb : Below W.heap.size W W') : WQ B g Bn s V W' := ⟨h.s.below hb, h.b.below hb h.b.lt⟩
theorem SpR.grown {B g : Nat} {s : Spc} {V : Value} {W W' : World} {row : Option Nat} (h : SpR W B g s V) (hg : W.grownBy W' row) (h1 : some g ≠ row) (h2 : ∀ k, V.ownBlock = some k → some k ≠ row) : SpR W' B g s V :=
  ⟨h.hd.grown hg h1, own_local h.own fun k hk => hg.block k (h.own.lt k hk).2 (h2 k hk), h.ge, h.u, h.b0, h.lim, h.l0⟩
theorem SpR.own_cells {B g : Nat} {s : Spc} {V : Value} {W : World} (h : SpR W B g s V) {k : Nat} (hk : V.ownBlock = some k) : ∃ cur, Bk W k 51 cur := by
  obtain ⟨_, ⟨rfl, _⟩ | ⟨g', cap, cur, rfl, _, h4, _⟩⟩ := h.own
  · cases hk
  · injection hk with hk
    exact ⟨cur, by rw [← hk]; exact h4⟩
theorem WQ.putObj {B g Bn : Nat} {s : Spc} {V : Value} {W : World} (h : WQ B g Bn s V W) {l : Nat} {o o' : Obj} (hl : W.heap[l]? = some o) (ho : o.isCells = false) : WQ B g Bn s V (W.putObj l o') := by
  have key : ∀ k t cs, Bk W k t cs → some k ≠ some l := fun k t cs hk e => by
    injection e with e
    unfold Bk at hk
    rw [e, hl] at hk
    cases hk
    cases ho
  refine ⟨h.s.grown (grownBy_putObj' W l o') (key _ _ _ h.s.hd) fun k hk => ?_, h.b.grown (grownBy_putObj' W l o') (key _ _ _ h.b)⟩
  obtain ⟨cur, hc⟩ := h.s.own_cells hk
  exact key _ _ _ hc
set_option maxHeartbeats 2000000 in
theorem walk1_in {B g Bn : Nat} {s : Spc} {V : Value} (n : Nat) (hn : 2 ≤ n) (l : Nat) (J Jx : List (Int × Bool) → World → Prop) (W : World) (hW : WQ B g Bn s V W) (hJ : AbidesFrom W.heap.size J)
    (hY : ∀ pre x W1, J pre W1 → pre.length < (s.rst 0).length → YieldAt Fence.wide (n - 1) Tryz.prog l (enc2 x) W1 fun e W' =>
      (e = .returned (.bool true) ∧ J (pre ++ [x]) W' ∧ (WQ B g Bn s V W1 → WQ B g Bn s V W')) ∨ (e = .returned (.bool false) ∧ Jx (pre ++ [x]) W'))
    (h0 : J [] W) :
    CallsIn Fence.wide n Tryz.prog 111 #[.func (.yield l) #[] #[], .pointer (some ⟨Bn, 0, none⟩)] W fun e W' => (∃ v, e = .returned v) ∧ ((∃ ys, ys = s.rst 0 ∧ J ys W') ∨ (∃ pre, pre <+: s.rst 0 ∧ Jx pre W')) := by
  have b0 := hW.s.b0
  have b1 := hW.s.lim
  have b2 := hW.s.l0
  have HW := Lib.hid hW
  have HJ := Lib.hid hJ
  have HY := Lib.hid hY
  have H0 := Lib.hid h0
  have cN : W.cell? ⟨Bn, 0, none⟩ = some (.pointer (some ⟨g, 0, none⟩)) := hW.b.cell 0
  have cS0 := toW (n := n - 1) (size_any hW.s 0 (Nat.zero_le _))
  simp only [Int.natCast_zero, Int.ofNat_zero, Int.cast_ofNat_Int] at cS0
  clear hW hJ hY h0
  refine callsIn_of_wp Tryz.func111 rfl trivial ?_ rfl
  simp only [Tryz.ntmps111, List.size_toArray, List.length_cons, List.length_nil, Nat.reduceAdd, Nat.reduceSub, Array.replicate_succ, Array.replicate_zero, List.push_toArray, List.append_toArray, List.nil_append, List.cons_append]
  have h1n : 1 ≤ n := by omega
  gi_wp2_with fail
  refine ⟨trivial, cS0.mono ?_⟩
  rintro e w1 ⟨rfl, hb⟩
  have HB1 := Lib.hid (HW.out.below hb)
  have HJ1 := Lib.hid (HJ.out _ _ _ _ H0.out (grownBy_of_below hb) (fun r e => by cases e))
  have HG1 := Lib.hid hb.size
  clear hb cN
  gi_wp2_with fail
  gi_loopw [3, 4] (fun i nn wr => ∃ (idx : Nat) (pre : List (Int × Bool)), idx ≤ s.ws.length ∧ i = .int .i64 (idx : Int) ∧ nn = .int .i64 (s.size idx : Int) ∧ s.rst 0 = pre ++ s.rst idx ∧ J pre wr ∧ WQ B g Bn s V wr) (fun i _ _ => s.ws.length - (intOf i).toNat)
  case atStart => exact ⟨0, [], Nat.zero_le _, rfl, rfl, rfl, HJ1.out, HB1.out⟩
  case round =>
    obtain ⟨idx, pre, hidx, rfl, rfl, hrst, hJp, hbw⟩ := hrel
    have hr : wr.cell? ⟨Bn, 0, none⟩ = some (.pointer (some ⟨g, 0, none⟩)) := hbw.b.cell 0
    have hr0 : wr.cell? ⟨g, 0, none⟩ = some (.int .i64 s.base) := hbw.s.hd.cell 0
    have HBW := Lib.hid hbw
    have HJP := Lib.hid hJp
    have HR := Lib.hid hrst
    clear hbw hJp hrst
    by_cases hz : s.size idx = 0
    · have HZ := Lib.hid hz
      have hr1 := Spc.rst_zero s hz
      obtain ⟨fn, tmps, assign, body, hy, hRd⟩ := HY.out pre (s.base + (idx : Int), false) wr HJP.out (by rw [HR.out, hr1]; simp)
      unfold enc2 at hy
      dsimp only at hy
      have HR1 := Lib.hid (HR.out.trans (by rw [hr1]))
      simp only [hz]
      clear hr1 hz
      gi_wp2_with fail
      refine hRd.mono ?_
      rintro e W3 (⟨rfl, hJ3, hk3⟩ | ⟨rfl, hJx3⟩)
      · gi_wp2_with fail
        go_end0
        exact ⟨⟨_, rfl⟩, .inl ⟨_, rfl, by rw [HR1.out]; exact hJ3⟩⟩
      · gi_wp2_with fail
        go_end0
        exact ⟨⟨_, rfl⟩, .inr ⟨_, by rw [HR1.out]; exact List.prefix_refl _, hJx3⟩⟩
    · have HZ := Lib.hid hz
      have hsz := s.size_le idx
      obtain ⟨hs4, hs5, hs6⟩ : 4 ≤ s.size idx ∧ idx + s.size idx ≤ s.ws.length ∧ s.size idx ≤ 32 := by omega
      have hr1 := Spc.rst_pos s hz
      obtain ⟨fn, tmps, assign, body, hy, hRd⟩ := HY.out pre (s.base + (idx : Int), true) wr HJP.out (by rw [HR.out, hr1]; simp)
      unfold enc2 at hy
      dsimp only at hy
      have HR1 : Hid (s.rst 0 = (pre ++ [(s.base + (idx : Int), true)]) ++ s.rst (idx + s.size idx)) := Lib.hid (HR.out.trans (by rw [hr1]; simp))
      obtain ⟨sz, hszE⟩ : ∃ sz, sz = s.size idx := ⟨_, rfl⟩
      rw [← hszE] at hs4 hs5 hs6 HR1 ⊢
      clear hr1 hz hsz hszE
      gi_wp2_with fail
      refine hRd.mono ?_
      rintro e W3 (⟨rfl, hJ3, hk3⟩ | ⟨rfl, hJx3⟩)
      · have HB3 := Lib.hid (hk3 HBW.out)
        have HJ3 := Lib.hid hJ3
        have cS := toW (n := n - 1) (size_any HB3.out.s (idx + sz) hs5)
        have hr : W3.cell? ⟨Bn, 0, none⟩ = some (.pointer (some ⟨g, 0, none⟩)) := HB3.out.b.cell 0
        simp only [Int.natCast_add] at cS
        clear hJ3 hk3
        gi_wp2_with fail
        refine ⟨trivial, cS.mono ?_⟩
        rintro e w4 ⟨rfl, hb⟩
        have HJ4 := Lib.hid (HJ.out _ _ _ _ HJ3.out (grownBy_of_below hb) (fun r e => by cases e))
        have HB4 := Lib.hid (HB3.out.below hb)
        clear hb
        gi_wp2_with fail
        go_roundw
        case rel => exact ⟨idx + sz, _, hs5, by simp, rfl, HR1.out, HJ4.out, HB4.out⟩
        case measure => simp [intOf]; omega
      · gi_wp2_with fail
        refine bodyPost_ret (results_none rfl _ _ _) rfl ?_
        exact ⟨⟨_, rfl⟩, .inr ⟨_, ⟨_, HR1.out.symm⟩, hJx3⟩⟩
theorem walk_stops {B g Bn : Nat} {s : Spc} {V : Value} (n : Nat) (hn : 2 ≤ n) (w : World) (h : WQ B g Bn s V w) :
    SeqStopsK Fence.wide n Tryz.prog 111 #[.pointer (some ⟨Bn, 0, none⟩)] enc2 (fun X Y => WQ B g Bn s V X → WQ B g Bn s V Y) (fun ys => ys = s.rst 0) (fun pre => pre <+: s.rst 0) (s.rst 0).length w :=
  fun l J Jx W hW hJ _ hY h0 => walk1_in n hn l J Jx W (h.below hW) hJ hY h0
theorem walk_any (g : Nat) (w : World) : Calls Tryz.prog 104 #[.pointer (some ⟨g, 0, none⟩)] w fun e w' => e = .returned (.func (.func 111) #[] #[.pointer (some ⟨w.heap.size, 0, none⟩)]) ∧ w.alloc (.cells #[.pointer (some ⟨g, 0, none⟩)] 29) = w' := by
  go_enter Tryz.func104, Tryz.ntmps104
  go_wp2_with fail
  go_ret
  exact ⟨rfl, rfl⟩
end Go.Proofs.YtaecdpijpdfboaaGreat
