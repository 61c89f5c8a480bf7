/- Law 11: the example of the chapter, as plain mathematics. Law 11: awake. (printed by gen/awk1.py) -/
import Derived.Test.YtjpaogapclfajaaGreatBldP
import Derived.Test.YtjpaogapclfajaaGreatMarkA
import Derived.Test.YtjpaogapclfajaaGreatBuild1
import Derived.Test.YtjpaogapclfajaaGreatMarkW
import Derived.Test.YtjpaogapclfajaaGreatSepF
namespace Go.Proofs.YtjpaogapclfajaaGreat
set_option linter.unusedVariables false
set_option linter.unusedSimpArgs false
open Go.RowKit
def oA : List Op1 := [⟨0, ⟨0, 1, 3⟩, 0, 0, 0, 0⟩, ⟨0, ⟨2, 0, 1⟩, 0, 0, 0, 0⟩, ⟨0, ⟨0, 1, 0⟩, 0, 0, 0, 0⟩, ⟨3, ⟨0, 0, 0⟩, 2, 0, 0, 0⟩, ⟨1, ⟨0, 0, 0⟩, 0, 1, 0, 0⟩, ⟨1, ⟨0, 0, 0⟩, 1, 2, 0, 0⟩]
theorem oA_len : (bld1 oA).2.length = 3 := by kernel_rfl
theorem oA_ws : (bld1 oA).1.old.ws.length = 13 := by kernel_rfl
theorem oA_x : (Mm.one (bld1 oA).1.old).marks [frW 0] = some ([0, 5], [9]) := by kernel_rfl
theorem oA_y : (Mm.one (bld1 oA).1.old).marks [frW 0, frW 9] = some ([0, 9, 5], []) := by kernel_rfl
theorem oA_w : wSum (Mm.one (bld1 oA).1.old) [0, 9, 5] = 13 := by kernel_rfl
theorem oA_ok : ∀ x ∈ oA, x.Ok := by
  intro x hx
  unfold oA at hx
  simp only [List.mem_cons, List.not_mem_nil, or_false] at hx
  rcases hx with rfl | rfl | rfl | rfl | rfl | rfl <;> exact ⟨by decide, by decide, by decide, by decide, by decide, by decide, by decide, by decide, ⟨by decide, by decide⟩⟩
end Go.Proofs.YtjpaogapclfajaaGreat
namespace Go.Proofs.YtjpaogapclfajaaGreat
set_option linter.unusedVariables false
set_option linter.unusedSimpArgs false
set_option linter.unusedSectionVars false
open Go.RowKit Go.Sort
attribute [local go_sem] Oper.semAt_some onlyN_normal
set_option maxRecDepth 100000

theorem flat_get {α β : Type} {f : α → List β} {s : Nat} (hf : ∀ x, (f x).length = s) : ∀ (l : List α) (i : Nat) (x : α), l[i]? = some x → ∀ j, j < s → (l.flatMap f)[i * s + j]? = (f x)[j]?
  | [], i, x, h, _, _ => by cases h
  | y :: l, 0, x, h, j, hj => by
    simp at h
    subst h
    rw [List.flatMap_cons, Nat.zero_mul, Nat.zero_add, List.getElem?_append_left (by rw [hf]; exact hj)]
  | y :: l, i + 1, x, h, j, hj => by
    have ih := flat_get hf l i x (by simpa using h) j hj
    rw [List.flatMap_cons, List.getElem?_append_right (by rw [hf, Nat.succ_mul]; omega), hf, show (i + 1) * s + j - s = i * s + j by rw [Nat.succ_mul]; omega]
    exact ih
theorem Op1s.ofBk {w : World} {g : Nat} {t : TypeId} {l : List Op1} (h : Bk w g t (l.flatMap fun x => x.cells.toList).toArray) (hl : ∀ x ∈ l, x.Ok) : Op1s w (some ⟨g, 0, none⟩) l :=
  .inr ⟨g, 0, rfl, h.lt, fun i x hx => ⟨hl x (List.mem_of_getElem? hx), fun j v hv => by
    have hj : j < 8 := (Array.getElem?_eq_some_iff.1 hv).1
    have e := flat_get (f := fun x : Op1 => x.cells.toList) (s := 8) (fun _ => rfl) l i x hx j hj
    have h2 := h.cell (0 + i * 8 + j)
    rw [Nat.zero_add] at h2 ⊢
    rw [h2, List.getElem?_toArray, e]
    simpa using hv⟩⟩
/-- what Mark hands back, within a region -/
def MkT (m : Mm) (o : Option (List Int × List Int)) (v : Value) (w : World) : Prop := match o with
  | none => v = .tuple #[.pointer none, .int .i64 11]
  | some (sg, wl) => ∃ B g b, v = .tuple #[.pointer (some ⟨g, 0, none⟩), .int .i64 0] ∧ MkR w B g b m sg wl
theorem MkT.below {m : Mm} {o : Option (List Int × List Int)} (v : Value) (w w' : World) (h : MkT m o v w) (hb : Below w.heap.size w w') : MkT m o v w' := by
  unfold MkT at *
  split
  · exact h
  · obtain ⟨B, g, b, e, h1⟩ := h
    exact ⟨B, g, b, e, MkR0.below h1 hb⟩
theorem MkT.of {w w' : World} {m : Mm} {o : Option (List Int × List Int)} {e : Ending} (h : MarkPost w m o e w') : ∃ v, e = .returned v ∧ MkT m o v w' ∧ Below w.heap.size w w' ∧ ∀ k, (fun _ => none : Value → Option Nat) v = some k → w.heap.size ≤ k ∧ k < w'.heap.size := by
  obtain ⟨hb, h⟩ := h
  split at h
  · exact ⟨_, h, rfl, hb, (fun k hk => nomatch hk)⟩
  · obtain ⟨g, b, e, h1⟩ := h
    exact ⟨_, e, ⟨_, g, b, rfl, h1⟩, hb, (fun k hk => nomatch hk)⟩
section
variable {P : Program} {W w : World} {vs : Nat → Value}
def Ent.sl (t : TypeId) (cs : Array Value) (n : Nat) : Ent W := Ent.of (fun v w => ∃ g, v = .slice (some ⟨g, 0, none⟩) n n ∧ Bk w g t cs) (fun v w w' ⟨g, e, h⟩ hb => ⟨g, e, h.below hb h.lt⟩)
theorem adds_sl {t : TypeId} {cs : Array Value} {n : Nat} : Made P (Adds (Ent.sl (W := W) t cs n) vs w) (.ok (.value (.slice (some ⟨w.heap.size, 0, none⟩) n n)) (w.alloc (.cells cs t))) :=
  ⟨⟨_, rfl, Bk.new _ _ _⟩, (Below.refl _ _).alloc (Nat.le_refl _) _, (fun k hk => nomatch hk)⟩
end
theorem Sl.ofCells {w : World} {g : Nat} {t : TypeId} {l : List Value} (h : Bk w g t l.toArray) : Sl w 1 (some ⟨g, 0, none⟩) l.length l := ⟨by simp, .inr ⟨g, 0, rfl, h.lt, fun j x hx => by rw [Nat.zero_add, h.cell]; simpa using hx⟩⟩
section
variable {w : World}
set_option maxHeartbeats 8000000 in
theorem awake1_any : Calls Tryz.prog 13 #[] w fun e w' => e = .returned (.bool true) ∧ Below w.heap.size w w' := by
  go_enter Tryz.func13, Tryz.ntmps13
  go_upto_region 2 with fail
  have hq : Bk (w.alloc (.cells (oA.flatMap fun x => x.cells.toList).toArray 90)) w.heap.size 90 (oA.flatMap fun x => x.cells.toList).toArray := Bk.new _ _ _
  have cB := Build_any (Op1s.ofBk hq oA_ok) (by decide) (Nat.le_refl _)
  have HB0 : Hid (Below w.heap.size w (w.alloc (.cells (oA.flatMap fun x => x.cells.toList).toArray 90))) := Lib.hid ((Below.refl _ _).alloc (Nat.le_refl _) _)
  clear hq
  go_wp2_with fail
  refine cB.mono ?_
  rintro e w1 ⟨g1, g2, V1, V2, A1, e1, A2, e2, A, c, rfl, hmr, hrm, his, hap, hb1, -⟩
  clear cB
  have hl3 : (bld1 oA).2.length = 3 := oA_len
  have HMR := Lib.hid hmr
  have HB1 := Lib.hid (HB0.out.trans (hb1.mono HB0.out.size))
  obtain ⟨q, hq⟩ : ∃ q, q = bld1 oA := ⟨_, rfl⟩
  rw [← hq] at HMR ⊢
  rw [hq, hl3, ← hq]
  have HQ := Lib.hid hq
  clear hmr hrm his hap hb1 HB0 hl3 hq
  go_upto_region 5 with fail

  have hal : Below w1.heap.size w1 ((w1.alloc (.cells #[.pointer (some ⟨g1, 0, none⟩), .pointer (some ⟨g2, 0, none⟩)] 27)).alloc (.cells #[.int .i64 q.1.old.base, .int .i64 q.1.old.limit, .slice A1 q.1.old.ws.length e1, .int .i64 q.1.yng.base, .int .i64 q.1.yng.limit, .slice A2 q.1.yng.ws.length e2] 32)) := ((Below.refl _ _).alloc (Nat.le_refl _) _).alloc (by simp) _
  have HBM : Hid (Bk ((w1.alloc (.cells #[.pointer (some ⟨g1, 0, none⟩), .pointer (some ⟨g2, 0, none⟩)] 27)).alloc (.cells #[.int .i64 q.1.old.base, .int .i64 q.1.old.limit, .slice A1 q.1.old.ws.length e1, .int .i64 q.1.yng.base, .int .i64 q.1.yng.limit, .slice A2 q.1.yng.ws.length e2] 32)) w1.heap.size 27 #[.pointer (some ⟨g1, 0, none⟩), .pointer (some ⟨g2, 0, none⟩)]) := Lib.hid ((Bk.new _ _ _).alloc _)
  have H2 := Lib.hid (HMR.out.below hal)
  have HB2 := Lib.hid (HB1.out.trans (hal.mono HB1.out.size))
  clear hal HMR HB1
  generalize (w1.alloc (.cells #[.pointer (some ⟨g1, 0, none⟩), .pointer (some ⟨g2, 0, none⟩)] 27)).alloc (.cells #[.int .i64 q.1.old.base, .int .i64 q.1.old.limit, .slice A1 q.1.old.ws.length e1, .int .i64 q.1.yng.base, .int .i64 q.1.yng.limit, .slice A2 q.1.yng.ws.length e2] 32) = w2 at *
  generalize w1.heap.size = bm at *
  have hok := H2.out.ok
  have cM := fun {w5 : World} (hb : Below w2.heap.size w2 w5) {Al : Option Addr} {l : List Int} (hs : Sl w5 1 Al l.length (wds l)) (hll : l.length ≤ 1000) (hu : ∀ x ∈ l, U64 x) (hA : ∀ b o, Al = some ⟨b, o, none⟩ → b < w5.heap.size) => Mark_all (H2.out.below hb).o hok.ob hok.ol (Nat.le_trans (by have := H2.out.o.ge; have := H2.out.o.hd.lt; omega) hb.size) hs (Nat.le_refl _) (by omega) hu hA (by have h1 := hok.o.lim; have h2 := hok.ol; have h3 := hok.ob; omega)
  clear hok
  have cW := fun a w => Word_any a w
  have oax : (Mm.one q.1.old).marks [frW 0] = some ([0, 5], [9]) := by rw [HQ.out]; exact oA_x
  have oay : (Mm.one q.1.old).marks [frW 0, frW 9] = some ([0, 9, 5], []) := by rw [HQ.out]; exact oA_y
  have OAX := Lib.hid oax
  have OAY := Lib.hid oay
  clear oax oay
  refine wp_region_addsF0 8 (fun i => ([[], [0], [], [2], [1, 3], [4], [5], [5]] : List (List Nat)).getD i []) [7] (EL [Ent.val (.pointer (some ⟨bm, 0, none⟩)), Ent.val (.pointer (some ⟨g1, 0, none⟩)), Ent.val (.int .u64 (frW 0)), Ent.sl 51 #[.int .u64 (frW 0)] 1, Ent.of (MkT (Mm.one q.1.old) (some ([0, 5], [9]))) MkT.below, Ent.same 4 (MkT (Mm.one q.1.old) (some ([0, 5], [9]))) MkT.below, Ent.ext 5 0, Ent.ext 5 1]) (by kernel_rfl) (by kernel_rfl) (by kernel_rfl) (by kernel_rfl) (by kernel_rfl) (by rfl) ?_ ?_
  · intro i hi o ho vs w3 hb1 hgr
    rcases (show i = 0 ∨ i = 1 ∨ i = 2 ∨ i = 3 ∨ i = 4 ∨ i = 5 ∨ i = 6 ∨ i = 7 by omega) with rfl | rfl | rfl | rfl | rfl | rfl | rfl | rfl <;> cases ho
    · clear hgr
      change Made _ (Adds _ _ _) (Sem.run _ (execOp (Act.eval (frm _ _ _ [])) _) _)
      simp only [frm]
      go_simp
      exact adds_val rfl
    · have h0 : vs 0 = _ := hgr 0 (by decide)
      clear hgr
      change Made _ (Adds _ _ _) (Sem.run _ (execOp (Act.eval (Act.put (frm _ _ _ []) (some 35) (vs 0))) _) _)
      simp only [frm, h0]
      have hbk := HBM.out.below hb1 HBM.out.lt
      have c0 : w3.cell? ⟨bm, 0, none⟩ = some (.pointer (some ⟨g1, 0, none⟩)) := hbk.cell 0
      clear hbk
      go_simp
      exact adds_val rfl
    · clear hgr
      change Made _ (Adds _ _ _) (Sem.run _ (execOp (Act.eval (frm _ _ _ [])) _) _)
      simp only [frm]
      go_simp
      exact adds_still (cW _ _)
    · have h2 : vs 2 = _ := hgr 2 (by decide)
      clear hgr
      change Made _ (Adds _ _ _) (Sem.run _ (execOp (Act.eval (Act.put (frm _ _ _ []) (some 37) (vs 2))) _) _)
      simp only [frm, h2]
      go_simp
      exact adds_sl
    · have h1 : vs 1 = _ := hgr 1 (by decide)
      obtain ⟨gs, h3, hbs⟩ := hgr 3 (by decide)
      clear hgr
      change Made _ (Adds _ _ _) (Sem.run _ (execOp (Act.eval (Act.put (Act.put (frm _ _ _ []) (some 38) (vs 3)) (some 36) (vs 1))) _) _)
      simp only [frm, h1, h3]
      have cM2 := cM hb1 (Al := some ⟨gs, 0, none⟩) (l := [frW 0]) (by have := Sl.ofCells hbs; exact this) (by decide) (fun x hx => by simp only [List.mem_cons, List.not_mem_nil, or_false] at hx; rcases hx with rfl <;> exact frW_u _) (fun b o e => by cases e; exact hbs.lt)
      rw [OAX.out] at cM2
      clear hbs
      go_simp
      exact adds_call (T := MkT (Mm.one q.1.old) (some ([0, 5], [9]))) (hT := MkT.below) (ob := fun _ => none) cM2 fun e w' h => MkT.of h
    · obtain ⟨Bx, gx, bx, h4, hmk⟩ := hgr 4 (by decide)
      clear hgr
      change Made _ (Adds _ _ _) (Sem.run _ (execOp (Act.eval (Act.put (frm _ _ _ []) (some 39) (vs 4))) _) _)
      simp only [frm, h4]
      go_simp
      rw [← h4]
      exact adds_same (hT := MkT.below) ⟨Bx, gx, bx, h4, hmk⟩
    · obtain ⟨h5e, Bx, gx, bx, h5, hmk⟩ := hgr 5 (by decide)
      clear hgr
      change Made _ (Adds _ _ _) (Sem.run _ (execOp (Act.eval (Act.put (frm _ _ _ []) (some 34) (vs 5))) _) _)
      simp only [frm, h5]
      go_simp
      exact adds_ext h5 rfl
    · obtain ⟨h5e, Bx, gx, bx, h5, hmk⟩ := hgr 5 (by decide)
      clear hgr
      change Made _ (Adds _ _ _) (Sem.run _ (execOp (Act.eval (Act.put (frm _ _ _ []) (some 34) (vs 5))) _) _)
      simp only [frm, h5]
      go_simp
      exact adds_ext h5 rfl
  · intro vs w3 hb1 hall hap
    obtain ⟨Bx, gx, bx, h4, hmk⟩ := (hall 4 (by omega)).1
    have h5e := (hall 5 (by omega)).1.1
    have h6 : vs 6 = .pointer (some ⟨gx, 0, none⟩) := ext_eq (hall 6 (by omega)).1 (h5e.trans h4) rfl
    have h7 : vs 7 = .int .i64 0 := ext_eq (hall 7 (by omega)).1 (h5e.trans h4) rfl
    clear hall hap
    change wpList _ _ _ [_, _] (Act.put (Act.put (Act.put (Act.put (Act.put (Act.put (Act.put (Act.put (frm _ _ _ []) (some 41) (vs 7)) (some 40) (vs 6)) (some 34) (vs 5)) (some 39) (vs 4)) (some 38) (vs 3)) (some 37) (vs 2)) (some 36) (vs 1)) (some 35) (vs 0)) _
    simp only [frm, h4, h6, h7]
    have HMX := Lib.hid hmk
    have H3 := Lib.hid (H2.out.below hb1)
    have HB3 := Lib.hid (HB2.out.trans (hb1.mono HB2.out.size))
    have HBM3 := Lib.hid (HBM.out.below hb1 HBM.out.lt)
    clear hmk hb1 cM h5e h4 h6 h7
    have cH0 := Has_any HMX.out 0 (by omega)
    rw [show ([0, 5] : List Int).contains 0 = true from rfl] at cH0
    have cH5 := Has_any HMX.out 5 (by omega)
    rw [show ([0, 5] : List Int).contains 5 = true from rfl] at cH5
    have cH9 := Has_any HMX.out 9 (by omega)
    rw [show ([0, 5] : List Int).contains 9 = false from rfl] at cH9
    have cK9 := Weak_any HMX.out 9 (by omega)
    rw [show (!([0, 5] : List Int).contains 9 && ([9] : List Int).contains 9) = true from rfl] at cK9
    go_wp2_with fail
    rw [onlyN_normal]
    go_upto_region 8 with (first | (go_at_call 20; (with_reducible refine cH0.mono ?_); rintro e w4 ⟨rfl, rfl⟩) | (go_at_call 20; (with_reducible refine cH5.mono ?_); rintro e w4 ⟨rfl, rfl⟩) | (go_at_call 20; (with_reducible refine cH9.mono ?_); rintro e w4 ⟨rfl, rfl⟩) | (go_at_call 22; (with_reducible refine cK9.mono ?_); rintro e w4 ⟨rfl, rfl⟩))
    clear cH0 cH5 cH9 cK9 HMX
    have hok := H3.out.ok
    have cM := fun {w5 : World} (hb : Below w3.heap.size w3 w5) {Al : Option Addr} {l : List Int} (hs : Sl w5 1 Al l.length (wds l)) (hll : l.length ≤ 1000) (hu : ∀ x ∈ l, U64 x) (hA : ∀ b o, Al = some ⟨b, o, none⟩ → b < w5.heap.size) => Mark_all (H3.out.below hb).o hok.ob hok.ol (Nat.le_trans (by have := H3.out.o.ge; have := H3.out.o.hd.lt; omega) hb.size) hs (Nat.le_refl _) (by omega) hu hA (by have h1 := hok.o.lim; have h2 := hok.ol; have h3 := hok.ob; omega)
    clear hok
    refine wp_region_addsF0 9 (fun i => ([[], [0], [], [], [2, 3], [1, 4], [5], [6], [6]] : List (List Nat)).getD i []) [8] (EL [Ent.val (.pointer (some ⟨bm, 0, none⟩)), Ent.val (.pointer (some ⟨g1, 0, none⟩)), Ent.val (.int .u64 (frW 0)), Ent.val (.int .u64 (frW 9)), Ent.sl 51 #[.int .u64 (frW 0), .int .u64 (frW 9)] 2, Ent.of (MkT (Mm.one q.1.old) (some ([0, 9, 5], []))) MkT.below, Ent.same 5 (MkT (Mm.one q.1.old) (some ([0, 9, 5], []))) MkT.below, Ent.ext 6 0, Ent.ext 6 1]) (by kernel_rfl) (by kernel_rfl) (by kernel_rfl) (by kernel_rfl) (by kernel_rfl) (by rfl) ?_ ?_
    · intro i hi o ho vs w4 hb1 hgr
      rcases (show i = 0 ∨ i = 1 ∨ i = 2 ∨ i = 3 ∨ i = 4 ∨ i = 5 ∨ i = 6 ∨ i = 7 ∨ i = 8 by omega) with rfl | rfl | rfl | rfl | rfl | rfl | rfl | rfl | rfl <;> cases ho
      · clear hgr
        change Made _ (Adds _ _ _) (Sem.run _ (execOp (Act.eval (frm _ _ _ [])) _) _)
        simp only [frm]
        go_simp
        exact adds_val rfl
      · have h0 : vs 0 = _ := hgr 0 (by decide)
        clear hgr
        change Made _ (Adds _ _ _) (Sem.run _ (execOp (Act.eval (Act.put (frm _ _ _ []) (some 68) (vs 0))) _) _)
        simp only [frm, h0]
        have hbk := HBM3.out.below hb1 HBM3.out.lt
        have c0 : w4.cell? ⟨bm, 0, none⟩ = some (.pointer (some ⟨g1, 0, none⟩)) := hbk.cell 0
        clear hbk
        go_simp
        exact adds_val rfl
      · clear hgr
        change Made _ (Adds _ _ _) (Sem.run _ (execOp (Act.eval (frm _ _ _ [])) _) _)
        simp only [frm]
        go_simp
        exact adds_still (cW _ _)
      · clear hgr
        change Made _ (Adds _ _ _) (Sem.run _ (execOp (Act.eval (frm _ _ _ [])) _) _)
        simp only [frm]
        go_simp
        exact adds_still (cW _ _)
      · have h2 : vs 2 = _ := hgr 2 (by decide)
        have h3 : vs 3 = _ := hgr 3 (by decide)
        clear hgr
        change Made _ (Adds _ _ _) (Sem.run _ (execOp (Act.eval (Act.put (Act.put (frm _ _ _ []) (some 71) (vs 3)) (some 70) (vs 2))) _) _)
        simp only [frm, h2, h3]
        go_simp
        exact adds_sl
      · have h1 : vs 1 = _ := hgr 1 (by decide)
        obtain ⟨gt, h4, hbt⟩ := hgr 4 (by decide)
        clear hgr
        change Made _ (Adds _ _ _) (Sem.run _ (execOp (Act.eval (Act.put (Act.put (frm _ _ _ []) (some 72) (vs 4)) (some 69) (vs 1))) _) _)
        simp only [frm, h1, h4]
        have cM2 := cM hb1 (Al := some ⟨gt, 0, none⟩) (l := [frW 0, frW 9]) (by have := Sl.ofCells hbt; exact this) (by decide) (fun x hx => by simp only [List.mem_cons, List.not_mem_nil, or_false] at hx; rcases hx with rfl | rfl <;> exact frW_u _) (fun b o e => by cases e; exact hbt.lt)
        rw [OAY.out] at cM2
        clear hbt
        go_simp
        exact adds_call (T := MkT (Mm.one q.1.old) (some ([0, 9, 5], []))) (hT := MkT.below) (ob := fun _ => none) cM2 fun e w' h => MkT.of h
      · obtain ⟨Bx, gy9, by9, h5, hmk⟩ := hgr 5 (by decide)
        clear hgr
        change Made _ (Adds _ _ _) (Sem.run _ (execOp (Act.eval (Act.put (frm _ _ _ []) (some 73) (vs 5))) _) _)
        simp only [frm, h5]
        go_simp
        rw [← h5]
        exact adds_same (hT := MkT.below) ⟨Bx, gy9, by9, h5, hmk⟩
      · obtain ⟨h6e, Bx, gy9, by9, h6, hmk⟩ := hgr 6 (by decide)
        clear hgr
        change Made _ (Adds _ _ _) (Sem.run _ (execOp (Act.eval (Act.put (frm _ _ _ []) (some 67) (vs 6))) _) _)
        simp only [frm, h6]
        go_simp
        exact adds_ext h6 rfl
      · obtain ⟨h6e, Bx, gy9, by9, h6, hmk⟩ := hgr 6 (by decide)
        clear hgr
        change Made _ (Adds _ _ _) (Sem.run _ (execOp (Act.eval (Act.put (frm _ _ _ []) (some 67) (vs 6))) _) _)
        simp only [frm, h6]
        go_simp
        exact adds_ext h6 rfl
    · intro vs w4 hb1 hall hap
      obtain ⟨Bx, gy9, by9, h5, hmk⟩ := (hall 5 (by omega)).1
      have h6e := (hall 6 (by omega)).1.1
      have h7 : vs 7 = .pointer (some ⟨gy9, 0, none⟩) := ext_eq (hall 7 (by omega)).1 (h6e.trans h5) rfl
      have h8 : vs 8 = .int .i64 0 := ext_eq (hall 8 (by omega)).1 (h6e.trans h5) rfl
      clear hall hap
      change wpList _ _ _ [_, _] (Act.put (Act.put (Act.put (Act.put (Act.put (Act.put (Act.put (Act.put (Act.put (frm _ _ _ []) (some 75) (vs 8)) (some 74) (vs 7)) (some 67) (vs 6)) (some 73) (vs 5)) (some 72) (vs 4)) (some 71) (vs 3)) (some 70) (vs 2)) (some 69) (vs 1)) (some 68) (vs 0)) _
      simp only [frm, h5, h7, h8]
      have HMY := Lib.hid hmk
      have HB4 := Lib.hid (HB3.out.trans (hb1.mono HB3.out.size))
      clear hmk hb1 cM cW h6e h5 h7 h8
      have cH9 := Has_any HMY.out 9 (by omega)
      rw [show ([0, 9, 5] : List Int).contains 9 = true from rfl] at cH9
      have cK9 := Weak_any HMY.out 9 (by omega)
      rw [show (!([0, 9, 5] : List Int).contains 9 && ([] : List Int).contains 9) = false from rfl] at cK9
      have cQ := Words_mk HMY.out
      have hws : wSum (Mm.one q.1.old) ([0, 9, 5] ++ []) = 13 := by rw [HQ.out]; exact oA_w
      rw [hws] at cQ
      clear hws
      go_wp2_with fail
      rw [onlyN_normal]
      go_wp2_with (first | (go_at_call 20; (with_reducible refine cH9.mono ?_); rintro e w5 ⟨rfl, rfl⟩) | (go_at_call 22; (with_reducible refine cK9.mono ?_); rintro e w5 ⟨rfl, rfl⟩) | (go_at_call 26; (with_reducible refine cQ.mono ?_); rintro e w5 ⟨rfl, rfl⟩))
      go_ret
      exact ⟨rfl, HB4.out⟩
end
end Go.Proofs.YtjpaogapclfajaaGreat
