/- BarrierFinds: a young reference that is stored into an old object is found until another value is stored there. (printed by gen/finds.py) -/
import Derived.Test.YtaecdpijpdfboaaHas
import Derived.Test.YtaecdpijpdfboaaCovers
import Derived.Test.YtaecdpijpdfboaaObject
namespace Go.Proofs.Ytaecdpijpdfboaa
set_option linter.unusedVariables false
set_option linter.unusedSimpArgs false
set_option linter.unusedSectionVars false
open Go.RowKit Go.Sort Go.Shelf
attribute [local go_sem] Oper.semAt_some onlyN_normal
set_option maxRecDepth 100000

theorem bst_split (m : Mm) (cs : List Int) (a i x : Int) : ∃ er m2 cs2, bst m cs a i x = (er, m2, cs2) := ⟨_, _, _, rfl⟩
theorem objAt_mem2 (xs : List Int) (a : Int) (h : 0 ≤ objAt xs a) : objAt xs a ∈ xs := by
  rcases objAt_or xs a with h1 | h1
  · omega
  · exact h1
theorem finds_first {s : St} (hF : FindI s) {a i at_ : Int} {m2 : Mm} {cs2 : List Int} (hat : objAt s.xs a = at_) (h0 : ¬ at_ < 0) (h1 : ¬ 16777216 ≤ at_) (hr : bst s.m s.cs at_ i 67108866 = (0, m2, cs2)) :
    m2.Ok ∧ at_ ∈ m2.old.objs ∧ m2.fldE at_ i = 0 ∧ (0 ≤ i ∧ i ≤ 1000) ∧ at_ + 2 + i ∈ m2.crossing (cardIn cs2) := by
  have he : s.m.fldE at_ i = 0 := by
    by_cases he : s.m.fldE at_ i = 0
    · exact he
    · exfalso
      unfold bst at hr
      rw [if_pos he] at hr
      exact he (congrArg Prod.fst hr)
  have hx : U64 67108866 := by unfold U64; omega
  have hm : at_ ∈ s.m.old.objs := hF.mem at_ (hat ▸ objAt_mem2 s.xs a (by omega)) (by omega)
  have := bst_found hF.ok s.cs hm he hx
  rw [hr] at this
  obtain ⟨g1, g2, g3, g4⟩ := Mm.fldE_ok he
  have hv := vH_bound (Mm.hdr_valid g1)
  refine ⟨this.2.1, this.2.2.1, this.2.2.2.1, ⟨g3, by omega⟩, this.2.2.2.2.2 (by decide)⟩
theorem u64_young : U64 67108866 := by unfold U64; omega
section
variable {w : World} {ops : List OpV} {A : Option Addr} {n c : Nat} {a i x : Int}
set_option maxHeartbeats 4000000 in
theorem finds_big (hn : 24 < n) (hb : n ≤ 140737488351232) : Calls Try.prog 4 #[.slice A n c, .int .i64 a, .int .i64 i, .int .u64 x] w fun e w' => e = .returned (.bool true) ∧ Below w.heap.size w w' := by
  have cA := fun w => awake_any (w := w)
  go_enter Try.func4, Try.ntmps4
  go_wp2_with fail
  have HB0 : Hid (Below w.heap.size w (w.alloc (.cells #[.int .i64 i] 3))) := Lib.hid ((Below.refl _ w).alloc (Nat.le_refl _) _)
  generalize w.alloc (.cells #[.int .i64 i] 3) = w0 at HB0 ⊢
  refine (cA _).mono ?_
  rintro e w1 ⟨rfl, hb1⟩
  have HB1 := Lib.hid (HB0.out.trans (hb1.mono HB0.out.size))
  clear hb1
  go_wp2_with fail
  refine (cA _).mono ?_
  rintro e w2 ⟨rfl, hb2⟩
  have HB2 := Lib.hid (HB1.out.trans (hb2.mono HB1.out.size))
  clear hb2
  go_wp2_with fail
  go_ret
  exact ⟨rfl, HB2.out⟩
set_option maxHeartbeats 4000000 in
theorem finds_main (hs : SlR OpR w 9 A n ops) (hc : n ≤ c) (hn : n ≤ 24) (ha : -9223372036854775808 ≤ a ∧ a ≤ 9223372036854775807) (hi : -9223372036854775808 ≤ i ∧ i ≤ 9223372036854775807) (hx : U64 x) : Calls Try.prog 4 #[.slice A n c, .int .i64 a, .int .i64 i, .int .u64 x] w fun e w' => e = .returned (.bool true) ∧ Below w.heap.size w w' := by
  have cA := fun w => awake_any (w := w)
  have cF : ∀ w, Calls Try.prog 14 #[.int .i64 16777216] w fun e w' => e = .returned (.tuple #[.int .u64 67108866, .int .i64 0]) ∧ w = w' := fun w => RFromAddress_any 16777216 w
  have cP := fun {w1 : World} (hb : Below w.heap.size w w1) => play2_any (hs.keep hb.size (keep_below hb) OpR.keep) hc hn
  obtain ⟨s, hst⟩ : ∃ s, s = St.new.play 2 ops := ⟨_, rfl⟩
  have FI : Hid (FindI s) := Lib.hid (hst ▸ FindI.new.play (opsOk_of hs))
  have HLX : Hid (s.cs.length ≤ 24 ∧ s.xs.length ≤ 24) := Lib.hid (by
    have h1 := St.play_len 2 ops St.new
    have h2 := hs.1
    rw [← hst] at h1
    have e1 : St.new.cs.length = 0 := rfl
    have e2 : St.new.xs.length = 0 := rfl
    omega)
  rw [← hst] at cP
  have HA := Lib.hid ha
  have HI := Lib.hid hi
  have HX := Lib.hid hx
  obtain ⟨at_, hat⟩ : ∃ at_, objAt s.xs a = at_ := ⟨_, rfl⟩
  have HAT := Lib.hid hat
  obtain ⟨er, m2, cs2, hr⟩ := bst_split s.m s.cs at_ i 67108866
  obtain ⟨er2, m3, cs3, hr2⟩ := bst_split m2 cs2 at_ i x
  have HR := Lib.hid hr
  have HR2 := Lib.hid hr2
  clear hs hst ha hi hx hat hr hr2
  go_enter Try.func4, Try.ntmps4
  go_wp2_with fail
  have HB0 : Hid (Below w.heap.size w (w.alloc (.cells #[.int .i64 i] 3))) := Lib.hid ((Below.refl _ w).alloc (Nat.le_refl _) _)
  have H60 : Hid (Bk (w.alloc (.cells #[.int .i64 i] 3)) w.heap.size 3 #[.int .i64 i]) := Lib.hid (Bk.here _ _ _ rfl)
  generalize w.alloc (.cells #[.int .i64 i] 3) = w0 at HB0 H60 ⊢
  refine (cA _).mono ?_
  rintro e w1 ⟨rfl, hb1⟩
  have HB1 := Lib.hid (HB0.out.trans (hb1.mono HB0.out.size))
  have H61 := Lib.hid (H60.out.below hb1 H60.out.lt)
  have cP := cP HB1.out
  clear hb1 cA
  go_wp2_with fail
  refine cP.mono ?_
  rintro e w3 ⟨L, k, rfl, hk, h3, hb3⟩
  have HC3 := Lib.hid hb3
  have H63 := Lib.hid (H61.out.below hb3 H61.out.lt)
  have H3 := Lib.hid h3
  have HK : Hid (k ≤ 24) := Lib.hid hk
  clear h3 hb3 hk cP
  go_wp2_with fail
  have HC4 : Hid (Below w1.heap.size w1 (w3.alloc (.cells #[.pointer (some ⟨L.p, 0, none⟩)] 24))) := Lib.hid (HC3.out.trans (((Below.refl _ w3).alloc (Nat.le_refl _) _).mono HC3.out.size))
  have H94 : Hid (Bk (w3.alloc (.cells #[.pointer (some ⟨L.p, 0, none⟩)] 24)) w3.heap.size 24 #[.pointer (some ⟨L.p, 0, none⟩)]) := Lib.hid (Bk.here _ _ _ rfl)
  have H64 : Hid (Bk (w3.alloc (.cells #[.pointer (some ⟨L.p, 0, none⟩)] 24)) w.heap.size 3 #[.int .i64 i]) := Lib.hid (H63.out.below ((Below.refl _ w3).alloc (Nat.le_refl _) _) H63.out.lt)
  have H4 : Hid (LW (w3.alloc (.cells #[.pointer (some ⟨L.p, 0, none⟩)] 24)) w1.heap.size L k s.m s.cs s.xs) := Lib.hid (H3.out.below ((Below.refl _ w3).alloc (Nat.le_refl _) _))
  generalize w3.alloc (.cells #[.pointer (some ⟨L.p, 0, none⟩)] 24) = w4 at HC4 H94 H64 H4 ⊢
  generalize w3.heap.size = b9 at H94 ⊢
  refine (object_any H4.out (by have := HLX.out; omega) a HA.out).mono ?_
  rintro e w5 ⟨rfl, nn, hw5⟩
  rw [HAT.out]
  have hb5 : Below w4.heap.size w4 w5 := hw5 ▸ below_drewN (Below.refl _ w4) nn
  have HC5 := Lib.hid (HC4.out.trans (hb5.mono HC4.out.size))
  have H95 := Lib.hid (H94.out.below hb5 H94.out.lt)
  have H65 := Lib.hid (H64.out.below hb5 H64.out.lt)
  have H5 := Lib.hid (H4.out.below hb5)
  clear hb5 hw5
  go_wp2_with fail
  have hb6 : Below w5.heap.size w5 (w5.alloc (.cells #[.int .i64 at_] 3)) := (Below.refl _ w5).alloc (Nat.le_refl _) _
  have HC6 : Hid (Below w1.heap.size w1 (w5.alloc (.cells #[.int .i64 at_] 3))) := Lib.hid (HC5.out.trans (hb6.mono HC5.out.size))
  have H116 : Hid (Bk (w5.alloc (.cells #[.int .i64 at_] 3)) w5.heap.size 3 #[.int .i64 at_]) := Lib.hid (Bk.here _ _ _ rfl)
  have H96 := Lib.hid (H95.out.below hb6 H95.out.lt)
  have H66 := Lib.hid (H65.out.below hb6 H65.out.lt)
  have H6 := Lib.hid (H5.out.below hb6)
  clear hb6
  generalize w5.alloc (.cells #[.int .i64 at_] 3) = w6 at HC6 H116 H96 H66 H6 ⊢
  generalize w5.heap.size = b11 at H116 ⊢
  refine (cF _).mono ?_
  rintro e w7 ⟨rfl, rfl⟩
  have HP6 : Hid (Bk w6 L.p 41 (L.cells s.m s.cs s.xs)) := Lib.hid H6.out.hd
  clear cF
  go_upto_region 8 with fail
  by_cases h0 : at_ < 0
  · have e1 : w6.cell? ⟨b11, 0, none⟩ = some (.int .i64 at_) := H116.out.cell 0
    go_wp2_with (go_quiet (fail))
    go_ret
    exact ⟨rfl, HB1.out.trans ((below_drewN HC6.out _).mono HB1.out.size)⟩
  by_cases h1 : 16777216 ≤ at_
  · have e1 : w6.cell? ⟨b11, 0, none⟩ = some (.int .i64 at_) := H116.out.cell 0
    go_wp2_with (go_quiet (fail))
    go_ret
    exact ⟨rfl, HB1.out.trans ((below_drewN HC6.out _).mono HB1.out.size)⟩
  refine wp_region_addsG 18 (fun i => ([[], [0], [1], [2], [2, 3], [2, 4], [5], [6], [6, 7], [6, 8], [6, 9], [6], [6, 11], [6, 12], [6, 13], [6], [6], [6]] : List (List Nat)).getD i []) (EL [Ent.val (.int .i64 at_), Ent.val (.bool false), Ent.val (.bool false), Ent.val (.int .i64 at_), Ent.val (.bool false), Ent.val (.bool false), Ent.val (.bool false), Ent.val (.pointer (some ⟨L.p, 0, none⟩)), Ent.val (.pointer (some ⟨L.p, 0, none⟩)), Ent.val (.pointer (some ⟨L.p, 0, none⟩)), Ent.val (.agg #[.pointer (some ⟨L.g1, 0, none⟩), .pointer (some ⟨L.g2, 0, none⟩)]), Ent.val (.pointer (some ⟨L.p, 0, none⟩)), Ent.val (.pointer (some ⟨L.p, 0, none⟩)), Ent.val (.pointer (some ⟨L.p, 2, none⟩)), Ent.val (.pointer (some ⟨L.gt, 0, none⟩)), Ent.val (.int .i64 at_), Ent.val (.int .i64 i), Ent.val (.int .u64 67108866)]) (by kernel_rfl) (by kernel_rfl) (by kernel_rfl) (by rfl) ?_ ?_ ?_
  · intro i hi o ho g b hgb vs v w7 hR
    rcases (show i = 0 ∨ i = 1 ∨ i = 2 ∨ i = 3 ∨ i = 4 ∨ i = 5 ∨ i = 6 ∨ i = 7 ∨ i = 8 ∨ i = 9 ∨ i = 10 ∨ i = 11 ∨ i = 12 ∨ i = 13 ∨ i = 14 ∨ i = 15 ∨ i = 16 ∨ i = 17 by omega) with rfl | rfl | rfl | rfl | rfl | rfl | rfl | rfl | rfl | rfl | rfl | rfl | rfl | rfl | rfl | rfl | rfl | rfl <;> cases ho <;> first | (cases hgb; exact hR) | cases hgb
  · intro i hi o ho vs w7 hb1 hgr
    rcases (show i = 0 ∨ i = 1 ∨ i = 2 ∨ i = 3 ∨ i = 4 ∨ i = 5 ∨ i = 6 ∨ i = 7 ∨ i = 8 ∨ i = 9 ∨ i = 10 ∨ i = 11 ∨ i = 12 ∨ i = 13 ∨ i = 14 ∨ i = 15 ∨ i = 16 ∨ i = 17 by omega) with rfl | rfl | rfl | rfl | rfl | rfl | rfl | rfl | rfl | rfl | rfl | rfl | rfl | rfl | rfl | rfl | rfl | rfl <;> cases ho
    · clear hgr
      change Made _ (Adds _ _ _) (Sem.run _ (execOp (Act.eval (frm _ _ _ [])) _) _)
      simp only [frm]
      have hbk := H116.out.below hb1 H116.out.lt
      have c0 : w7.cell? ⟨b11, 0, none⟩ = some (.int .i64 at_) := hbk.cell 0
      clear hbk
      go_simp
      exact adds_val rfl
    · have h0 : vs 0 = _ := hgr 0 (by decide)
      clear hgr
      change Made _ (Adds _ _ _) (Sem.run _ (execOp (Act.eval (Act.put (frm _ _ _ []) (some 37) (vs 0))) _) _)
      simp only [frm, h0]
      go_simp
      exact adds_val rfl
    · have h1 : vs 1 = _ := hgr 1 (by decide)
      clear hgr
      change Made _ (Adds _ _ _) (Sem.run _ (execOp (Act.eval (Act.put (frm _ _ _ []) (some 38) (vs 1))) _) _)
      simp only [frm, h1]
      go_simp
      exact adds_val rfl
    · have h2 : vs 2 = _ := hgr 2 (by decide)
      clear hgr
      change Made _ (Adds _ _ _) (Sem.run _ (execOp (Act.eval (Act.put (frm _ _ _ []) (some 39) (vs 2))) _) _)
      simp only [frm, h2]
      have hbk := H116.out.below hb1 H116.out.lt
      have c0 : w7.cell? ⟨b11, 0, none⟩ = some (.int .i64 at_) := hbk.cell 0
      clear hbk
      go_simp
      exact adds_val rfl
    · have h2 : vs 2 = _ := hgr 2 (by decide)
      have h3 : vs 3 = _ := hgr 3 (by decide)
      clear hgr
      change Made _ (Adds _ _ _) (Sem.run _ (execOp (Act.eval (Act.put (Act.put (frm _ _ _ []) (some 40) (vs 3)) (some 39) (vs 2))) _) _)
      simp only [frm, h2, h3]
      go_simp
      exact adds_val rfl
    · have h2 : vs 2 = _ := hgr 2 (by decide)
      have h4 : vs 4 = _ := hgr 4 (by decide)
      clear hgr
      change Made _ (Adds _ _ _) (Sem.run _ (execOp (Act.eval (Act.put (Act.put (frm _ _ _ []) (some 41) (vs 4)) (some 39) (vs 2))) _) _)
      simp only [frm, h2, h4]
      go_simp
      exact adds_val rfl
    · have h5 : vs 5 = _ := hgr 5 (by decide)
      clear hgr
      change Made _ (Adds _ _ _) (Sem.run _ (execOp (Act.eval (Act.put (frm _ _ _ []) (some 42) (vs 5))) _) _)
      simp only [frm, h5]
      go_simp
      exact adds_val rfl
    · have h6 : vs 6 = _ := hgr 6 (by decide)
      clear hgr
      change Made _ (Adds _ _ _) (Sem.run _ (execOp (Act.eval (Act.put (frm _ _ _ []) (some 43) (vs 6))) _) _)
      simp only [frm, h6]
      have hbk := H96.out.below hb1 H96.out.lt
      have c0 : w7.cell? ⟨b9, 0, none⟩ = some (.pointer (some ⟨L.p, 0, none⟩)) := hbk.cell 0
      clear hbk
      go_simp
      exact adds_val rfl
    · have h6 : vs 6 = _ := hgr 6 (by decide)
      have h7 : vs 7 = _ := hgr 7 (by decide)
      clear hgr
      change Made _ (Adds _ _ _) (Sem.run _ (execOp (Act.eval (Act.put (Act.put (frm _ _ _ []) (some 44) (vs 7)) (some 43) (vs 6))) _) _)
      simp only [frm, h6, h7]
      go_simp
      exact adds_val rfl
    · have h6 : vs 6 = _ := hgr 6 (by decide)
      have h8 : vs 8 = _ := hgr 8 (by decide)
      clear hgr
      change Made _ (Adds _ _ _) (Sem.run _ (execOp (Act.eval (Act.put (Act.put (frm _ _ _ []) (some 45) (vs 8)) (some 43) (vs 6))) _) _)
      simp only [frm, h6, h8]
      go_simp
      exact adds_val rfl
    · have h6 : vs 6 = _ := hgr 6 (by decide)
      have h9 : vs 9 = _ := hgr 9 (by decide)
      clear hgr
      change Made _ (Adds _ _ _) (Sem.run _ (execOp (Act.eval (Act.put (Act.put (frm _ _ _ []) (some 46) (vs 9)) (some 43) (vs 6))) _) _)
      simp only [frm, h6, h9]
      have hbk := HP6.out.below hb1 HP6.out.lt
      have c0 : w7.cell? ⟨L.p, 0, none⟩ = some (.pointer (some ⟨L.g1, 0, none⟩)) := hbk.cell 0
      have c1 : w7.cell? ⟨L.p, 1, none⟩ = some (.pointer (some ⟨L.g2, 0, none⟩)) := hbk.cell 1
      clear hbk
      go_simp
      exact adds_val rfl
    · have h6 : vs 6 = _ := hgr 6 (by decide)
      clear hgr
      change Made _ (Adds _ _ _) (Sem.run _ (execOp (Act.eval (Act.put (frm _ _ _ []) (some 43) (vs 6))) _) _)
      simp only [frm, h6]
      have hbk := H96.out.below hb1 H96.out.lt
      have c0 : w7.cell? ⟨b9, 0, none⟩ = some (.pointer (some ⟨L.p, 0, none⟩)) := hbk.cell 0
      clear hbk
      go_simp
      exact adds_val rfl
    · have h6 : vs 6 = _ := hgr 6 (by decide)
      have h11 : vs 11 = _ := hgr 11 (by decide)
      clear hgr
      change Made _ (Adds _ _ _) (Sem.run _ (execOp (Act.eval (Act.put (Act.put (frm _ _ _ []) (some 48) (vs 11)) (some 43) (vs 6))) _) _)
      simp only [frm, h6, h11]
      go_simp
      exact adds_val rfl
    · have h6 : vs 6 = _ := hgr 6 (by decide)
      have h12 : vs 12 = _ := hgr 12 (by decide)
      clear hgr
      change Made _ (Adds _ _ _) (Sem.run _ (execOp (Act.eval (Act.put (Act.put (frm _ _ _ []) (some 49) (vs 12)) (some 43) (vs 6))) _) _)
      simp only [frm, h6, h12]
      go_simp
      exact adds_val rfl
    · have h6 : vs 6 = _ := hgr 6 (by decide)
      have h13 : vs 13 = _ := hgr 13 (by decide)
      clear hgr
      change Made _ (Adds _ _ _) (Sem.run _ (execOp (Act.eval (Act.put (Act.put (frm _ _ _ []) (some 50) (vs 13)) (some 43) (vs 6))) _) _)
      simp only [frm, h6, h13]
      have hbk := HP6.out.below hb1 HP6.out.lt
      have c0 : w7.cell? ⟨L.p, 2, none⟩ = some (.pointer (some ⟨L.gt, 0, none⟩)) := hbk.cell 2
      clear hbk
      go_simp
      exact adds_val rfl
    · have h6 : vs 6 = _ := hgr 6 (by decide)
      clear hgr
      change Made _ (Adds _ _ _) (Sem.run _ (execOp (Act.eval (Act.put (frm _ _ _ []) (some 43) (vs 6))) _) _)
      simp only [frm, h6]
      have hbk := H116.out.below hb1 H116.out.lt
      have c0 : w7.cell? ⟨b11, 0, none⟩ = some (.int .i64 at_) := hbk.cell 0
      clear hbk
      go_simp
      exact adds_val rfl
    · have h6 : vs 6 = _ := hgr 6 (by decide)
      clear hgr
      change Made _ (Adds _ _ _) (Sem.run _ (execOp (Act.eval (Act.put (frm _ _ _ []) (some 43) (vs 6))) _) _)
      simp only [frm, h6]
      have hbk := H66.out.below hb1 H66.out.lt
      have c0 : w7.cell? ⟨w.heap.size, 0, none⟩ = some (.int .i64 i) := hbk.cell 0
      clear hbk
      go_simp
      exact adds_val rfl
    · have h6 : vs 6 = _ := hgr 6 (by decide)
      clear hgr
      change Made _ (Adds _ _ _) (Sem.run _ (execOp (Act.eval (Act.put (frm _ _ _ []) (some 43) (vs 6))) _) _)
      simp only [frm, h6]
      go_simp
      exact adds_val rfl
  · intro vs w7 hb1 hall hap
    have h6 : vs 6 = _ := (hall 6 (by omega)).1
    have h10 : vs 10 = _ := (hall 10 (by omega)).1
    have h14 : vs 14 = _ := (hall 14 (by omega)).1
    have h15 : vs 15 = _ := (hall 15 (by omega)).1
    have h16 : vs 16 = _ := (hall 16 (by omega)).1
    have h17 : vs 17 = _ := (hall 17 (by omega)).1
    clear hall hap
    change wpList _ _ _ [_, _, _] (Act.put (Act.put (Act.put (Act.put (Act.put (Act.put (Act.put (Act.put (Act.put (Act.put (Act.put (Act.put (Act.put (Act.put (Act.put (Act.put (Act.put (Act.put (frm _ _ _ []) (some 54) (vs 17)) (some 53) (vs 16)) (some 52) (vs 15)) (some 51) (vs 14)) (some 50) (vs 13)) (some 49) (vs 12)) (some 48) (vs 11)) (some 47) (vs 10)) (some 46) (vs 9)) (some 45) (vs 8)) (some 44) (vs 7)) (some 43) (vs 6)) (some 42) (vs 5)) (some 41) (vs 4)) (some 40) (vs 3)) (some 39) (vs 2)) (some 38) (vs 1)) (some 37) (vs 0)) _
    simp only [frm, h6, h10, h14, h15, h16, h17]
    have H7 := Lib.hid (H6.out.below hb1)
    have HC7 := Lib.hid (HC6.out.trans (hb1.mono HC6.out.size))
    have H97 := Lib.hid (H96.out.below hb1 H96.out.lt)
    have H117 := Lib.hid (H116.out.below hb1 H116.out.lt)
    have H67 := Lib.hid (H66.out.below hb1 H66.out.lt)
    have HK2 : k < 1000000 := by have := HK.out; omega
    have cB := BStore_any H7.out.mr H7.out.tr HK2 at_ i u64_young
    rw [HR.out] at cB
    unfold memV at cB
    clear hb1
    go_wp2_with fail
    refine cB.mono ?_
    rintro e w8 ⟨rfl, hm2, hc2, hk2⟩
    have H8 := Lib.hid (H7.out.prog hm2 hc2 hk2)
    have HC8 := Lib.hid (H7.out.progBelow hk2 HC7.out HC7.out.size)
    have H98 := Lib.hid (H7.out.progBk hk2 H97.out (by decide))
    have H118 := Lib.hid (H7.out.progBk hk2 H117.out (by decide))
    have H68 := Lib.hid (H7.out.progBk hk2 H67.out (by decide))
    clear hm2 hc2 hk2 cB
    by_cases he : er = 0
    · subst he
      have FP := Lib.hid (finds_first FI.out HAT.out (by omega) (by omega) HR.out)
      have cH := has_any H8.out H98.out H118.out H68.out ⟨by omega, by omega, FP.out.2.2.2.1.1, FP.out.2.2.2.1.2⟩
      rw [decide_eq_true FP.out.2.2.2.2] at cH
      go_wp2_with fail
      refine cH.mono ?_
      rintro e w9 ⟨rfl, hb9⟩
      have H9 := Lib.hid (H8.out.below hb9)
      have HC9 := Lib.hid (HC8.out.trans (hb9.mono HC8.out.size))
      have H99 := Lib.hid (H98.out.below hb9 H98.out.lt)
      have H119 := Lib.hid (H118.out.below hb9 H118.out.lt)
      have H69 := Lib.hid (H68.out.below hb9 H68.out.lt)
      clear hb9 cH
      have HP9 : Hid (Bk w9 L.p 41 (L.cells s.m s.cs s.xs)) := Lib.hid H9.out.hd
      have HK3 : Hid (k + 1 < 1000000) := Lib.hid (by have := HK.out; omega)
      have hfd := bst_found FP.out.1 cs2 FP.out.2.1 FP.out.2.2.1 HX.out
      rw [HR2.out] at hfd
      have HF := Lib.hid hfd
      have he4 : er2 = 0 := hfd.1
      subst he4
      clear hfd
      go_upto_region 13 with fail
      refine wp_region_first 11 (fun i => ([[], [0], [1], [2], [], [4], [5], [6], [], [], []] : List (List Nat)).getD i []) (EL [Ent.val (.pointer (some ⟨L.p, 0, none⟩)), Ent.val (.pointer (some ⟨L.p, 0, none⟩)), Ent.val (.pointer (some ⟨L.p, 0, none⟩)), Ent.val (.agg #[.pointer (some ⟨L.g1, 0, none⟩), .pointer (some ⟨L.g2, 0, none⟩)]), Ent.val (.pointer (some ⟨L.p, 0, none⟩)), Ent.val (.pointer (some ⟨L.p, 0, none⟩)), Ent.val (.pointer (some ⟨L.p, 2, none⟩)), Ent.val (.pointer (some ⟨L.gt, 0, none⟩)), Ent.val (.int .i64 at_), Ent.val (.int .i64 i), Ent.val (.int .u64 x)]) rfl (by kernel_rfl) (by kernel_rfl) (by kernel_rfl) (by rfl) ?_ ?_
      · intro i hi o ho vs w10 hb1 hgr
        rcases (show i = 0 ∨ i = 1 ∨ i = 2 ∨ i = 3 ∨ i = 4 ∨ i = 5 ∨ i = 6 ∨ i = 7 ∨ i = 8 ∨ i = 9 ∨ i = 10 by omega) with rfl | rfl | rfl | rfl | rfl | rfl | rfl | rfl | rfl | rfl | rfl <;> cases ho
        · clear hgr
          change Made _ (Adds _ _ _) (Sem.run _ (execOp (Act.eval (frm _ _ _ [])) _) _)
          simp only [frm]
          have hbk := H99.out.below hb1 H99.out.lt
          have c0 : w10.cell? ⟨b9, 0, none⟩ = some (.pointer (some ⟨L.p, 0, none⟩)) := hbk.cell 0
          clear hbk
          go_simp
          exact adds_val rfl
        · have h0 : vs 0 = _ := hgr 0 (by decide)
          clear hgr
          change Made _ (Adds _ _ _) (Sem.run _ (execOp (Act.eval (Act.put (frm _ _ _ []) (some 62) (vs 0))) _) _)
          simp only [frm, h0]
          go_simp
          exact adds_val rfl
        · have h1 : vs 1 = _ := hgr 1 (by decide)
          clear hgr
          change Made _ (Adds _ _ _) (Sem.run _ (execOp (Act.eval (Act.put (frm _ _ _ []) (some 63) (vs 1))) _) _)
          simp only [frm, h1]
          go_simp
          exact adds_val rfl
        · have h2 : vs 2 = _ := hgr 2 (by decide)
          clear hgr
          change Made _ (Adds _ _ _) (Sem.run _ (execOp (Act.eval (Act.put (frm _ _ _ []) (some 64) (vs 2))) _) _)
          simp only [frm, h2]
          have hbk := HP9.out.below hb1 HP9.out.lt
          have c0 : w10.cell? ⟨L.p, 0, none⟩ = some (.pointer (some ⟨L.g1, 0, none⟩)) := hbk.cell 0
          have c1 : w10.cell? ⟨L.p, 1, none⟩ = some (.pointer (some ⟨L.g2, 0, none⟩)) := hbk.cell 1
          clear hbk
          go_simp
          exact adds_val rfl
        · clear hgr
          change Made _ (Adds _ _ _) (Sem.run _ (execOp (Act.eval (frm _ _ _ [])) _) _)
          simp only [frm]
          have hbk := H99.out.below hb1 H99.out.lt
          have c0 : w10.cell? ⟨b9, 0, none⟩ = some (.pointer (some ⟨L.p, 0, none⟩)) := hbk.cell 0
          clear hbk
          go_simp
          exact adds_val rfl
        · have h4 : vs 4 = _ := hgr 4 (by decide)
          clear hgr
          change Made _ (Adds _ _ _) (Sem.run _ (execOp (Act.eval (Act.put (frm _ _ _ []) (some 66) (vs 4))) _) _)
          simp only [frm, h4]
          go_simp
          exact adds_val rfl
        · have h5 : vs 5 = _ := hgr 5 (by decide)
          clear hgr
          change Made _ (Adds _ _ _) (Sem.run _ (execOp (Act.eval (Act.put (frm _ _ _ []) (some 67) (vs 5))) _) _)
          simp only [frm, h5]
          go_simp
          exact adds_val rfl
        · have h6 : vs 6 = _ := hgr 6 (by decide)
          clear hgr
          change Made _ (Adds _ _ _) (Sem.run _ (execOp (Act.eval (Act.put (frm _ _ _ []) (some 68) (vs 6))) _) _)
          simp only [frm, h6]
          have hbk := HP9.out.below hb1 HP9.out.lt
          have c0 : w10.cell? ⟨L.p, 2, none⟩ = some (.pointer (some ⟨L.gt, 0, none⟩)) := hbk.cell 2
          clear hbk
          go_simp
          exact adds_val rfl
        · clear hgr
          change Made _ (Adds _ _ _) (Sem.run _ (execOp (Act.eval (frm _ _ _ [])) _) _)
          simp only [frm]
          have hbk := H119.out.below hb1 H119.out.lt
          have c0 : w10.cell? ⟨b11, 0, none⟩ = some (.int .i64 at_) := hbk.cell 0
          clear hbk
          go_simp
          exact adds_val rfl
        · clear hgr
          change Made _ (Adds _ _ _) (Sem.run _ (execOp (Act.eval (frm _ _ _ [])) _) _)
          simp only [frm]
          have hbk := H69.out.below hb1 H69.out.lt
          have c0 : w10.cell? ⟨w.heap.size, 0, none⟩ = some (.int .i64 i) := hbk.cell 0
          clear hbk
          go_simp
          exact adds_val rfl
        · clear hgr
          change Made _ (Adds _ _ _) (Sem.run _ (execOp (Act.eval (frm _ _ _ [])) _) _)
          simp only [frm]
          go_simp
          exact adds_val rfl
      · intro vs w10 hb1 hall hap
        have h0 : vs 0 = _ := (hall 0 (by omega)).1
        have h1 : vs 1 = _ := (hall 1 (by omega)).1
        have h2 : vs 2 = _ := (hall 2 (by omega)).1
        have h3 : vs 3 = _ := (hall 3 (by omega)).1
        have h4 : vs 4 = _ := (hall 4 (by omega)).1
        have h5 : vs 5 = _ := (hall 5 (by omega)).1
        have h6 : vs 6 = _ := (hall 6 (by omega)).1
        have h7 : vs 7 = _ := (hall 7 (by omega)).1
        have h8 : vs 8 = _ := (hall 8 (by omega)).1
        have h9 : vs 9 = _ := (hall 9 (by omega)).1
        have h10 : vs 10 = _ := (hall 10 (by omega)).1
        clear hall hap
        change wpList _ _ _ [_] (Act.put (Act.put (Act.put (Act.put (Act.put (Act.put (Act.put (Act.put (Act.put (Act.put (Act.put (frm _ _ _ []) (some 72) (vs 10)) (some 71) (vs 9)) (some 70) (vs 8)) (some 69) (vs 7)) (some 68) (vs 6)) (some 67) (vs 5)) (some 66) (vs 4)) (some 65) (vs 3)) (some 64) (vs 2)) (some 63) (vs 1)) (some 62) (vs 0)) _
        simp only [frm, h0, h1, h2, h3, h4, h5, h6, h7, h8, h9, h10]
        have H10 := Lib.hid (H9.out.below hb1)
        have HC10 := Lib.hid (HC9.out.trans (hb1.mono HC9.out.size))
        have H910 := Lib.hid (H99.out.below hb1 H99.out.lt)
        have H1110 := Lib.hid (H119.out.below hb1 H119.out.lt)
        have H610 := Lib.hid (H69.out.below hb1 H69.out.lt)
        have cB2 := BStore_any H10.out.mr H10.out.tr HK3.out at_ i HX.out
        rw [HR2.out] at cB2
        unfold memV at cB2
        clear hb1
        go_wp2_with fail
        refine cB2.mono ?_
        rintro e w11 ⟨rfl, hm3, hc3, hk3⟩
        have H11 := Lib.hid (H10.out.prog hm3 hc3 hk3)
        have HC11 := Lib.hid (H10.out.progBelow hk3 HC10.out HC10.out.size)
        have H911 := Lib.hid (H10.out.progBk hk3 H910.out (by decide))
        have H1111 := Lib.hid (H10.out.progBk hk3 H1110.out (by decide))
        have H611 := Lib.hid (H10.out.progBk hk3 H610.out (by decide))
        clear hm3 hc3 hk3 cB2
        have HY : Hid (decide (at_ + 2 + i ∈ m3.crossing (cardIn cs3)) = ygW x) := Lib.hid (by
          have h5 := HF.out.2.2.2.2
          cases hy : ygW x
          · exact decide_eq_false fun hm => by rw [h5.1 hm] at hy; cases hy
          · exact decide_eq_true (h5.2 hy))
        go_wp2_with fail
        simp only [normalTo]
        refine phase2_adds 12 20 (fun i => ([[], [0], [1], [2], [], [4], [5], [6], [], [], [], [3, 7, 8, 9, 10], [11], [12], [13], [13, 14], [13], [13, 16], [13, 15, 17], [13, 18]] : List (List Nat)).getD i []) (EL [Ent.val (.pointer (some ⟨L.p, 0, none⟩)), Ent.val (.pointer (some ⟨L.p, 0, none⟩)), Ent.val (.pointer (some ⟨L.p, 0, none⟩)), Ent.val (.agg #[.pointer (some ⟨L.g1, 0, none⟩), .pointer (some ⟨L.g2, 0, none⟩)]), Ent.val (.pointer (some ⟨L.p, 0, none⟩)), Ent.val (.pointer (some ⟨L.p, 0, none⟩)), Ent.val (.pointer (some ⟨L.p, 2, none⟩)), Ent.val (.pointer (some ⟨L.gt, 0, none⟩)), Ent.val (.int .i64 at_), Ent.val (.int .i64 i), Ent.val (.int .u64 x), Ent.val (.int .i64 0), Ent.val (.bool true), Ent.val (.bool true), Ent.val (.func (.func 16) #[] #[.pointer (some ⟨b9, 0, none⟩), .pointer (some ⟨b11, 0, none⟩), .pointer (some ⟨w.heap.size, 0, none⟩)]), Ent.val (.bool (ygW x)), Ent.val (.int .u64 x), Ent.val (.bool (ygW x)), Ent.val (.bool true), Ent.val (.bool true)]) (by kernel_rfl) ?_ (by omega) (by kernel_rfl) (by rfl) ?_ ?_ ?_
        · intro i hmi hi o ho g b hgb vs v w12 hR
          rcases (show i = 12 ∨ i = 13 ∨ i = 14 ∨ i = 15 ∨ i = 16 ∨ i = 17 ∨ i = 18 ∨ i = 19 by omega) with rfl | rfl | rfl | rfl | rfl | rfl | rfl | rfl <;> cases ho <;> first | (cases hgb; exact hR) | cases hgb
        · intro i hi
          rcases (show i = 0 ∨ i = 1 ∨ i = 2 ∨ i = 3 ∨ i = 4 ∨ i = 5 ∨ i = 6 ∨ i = 7 ∨ i = 8 ∨ i = 9 ∨ i = 10 ∨ i = 11 by omega) with rfl | rfl | rfl | rfl | rfl | rfl | rfl | rfl | rfl | rfl | rfl | rfl <;> exact ⟨rfl, fun _ => rfl⟩
        · intro i hmi hi o ho vs w12 hb1 hgr
          rcases (show i = 12 ∨ i = 13 ∨ i = 14 ∨ i = 15 ∨ i = 16 ∨ i = 17 ∨ i = 18 ∨ i = 19 by omega) with rfl | rfl | rfl | rfl | rfl | rfl | rfl | rfl <;> cases ho
          · have h11 : vs 11 = _ := hgr 11 (by decide)
            clear hgr
            change Made _ (Adds _ _ _) (Sem.run _ (execOp (Act.eval (Act.put (frm _ _ _ []) (some 73) (vs 11))) _) _)
            simp only [frm, h11]
            go_simp
            exact adds_val rfl
          · have h12 : vs 12 = _ := hgr 12 (by decide)
            clear hgr
            change Made _ (Adds _ _ _) (Sem.run _ (execOp (Act.eval (Act.put (frm _ _ _ []) (some 74) (vs 12))) _) _)
            simp only [frm, h12]
            go_simp
            exact adds_val rfl
          · have h13 : vs 13 = _ := hgr 13 (by decide)
            clear hgr
            change Made _ (Adds _ _ _) (Sem.run _ (execOp (Act.eval (Act.put (frm _ _ _ []) (some 75) (vs 13))) _) _)
            simp only [frm, h13]
            go_simp
            exact adds_val rfl
          · have h13 : vs 13 = _ := hgr 13 (by decide)
            have h14 : vs 14 = _ := hgr 14 (by decide)
            clear hgr
            change Made _ (Adds _ _ _) (Sem.run _ (execOp (Act.eval (Act.put (Act.put (frm _ _ _ []) (some 76) (vs 14)) (some 75) (vs 13))) _) _)
            simp only [frm, h13, h14]
            have cM := has_any (H11.out.below hb1) (H911.out.below hb1 H911.out.lt) (H1111.out.below hb1 H1111.out.lt) (H611.out.below hb1 H611.out.lt) ⟨by omega, by omega, FP.out.2.2.2.1.1, FP.out.2.2.2.1.2⟩
            rw [HY.out] at cM
            go_simp
            exact adds_below cM
          · have h13 : vs 13 = _ := hgr 13 (by decide)
            clear hgr
            change Made _ (Adds _ _ _) (Sem.run _ (execOp (Act.eval (Act.put (frm _ _ _ []) (some 75) (vs 13))) _) _)
            simp only [frm, h13]
            go_simp
            exact adds_val rfl
          · have h13 : vs 13 = _ := hgr 13 (by decide)
            have h16 : vs 16 = _ := hgr 16 (by decide)
            clear hgr
            change Made _ (Adds _ _ _) (Sem.run _ (execOp (Act.eval (Act.put (Act.put (frm _ _ _ []) (some 78) (vs 16)) (some 75) (vs 13))) _) _)
            simp only [frm, h13, h16]
            have cY := (Young_any HX.out w12).mono (R' := fun e w' => e = .returned (.bool (ygW x)) ∧ Below w12.heap.size w12 w') (by rintro e w' ⟨rfl, rfl⟩; exact ⟨rfl, Below.refl _ _⟩)
            go_simp
            exact adds_below cY
          · have h13 : vs 13 = _ := hgr 13 (by decide)
            have h15 : vs 15 = _ := hgr 15 (by decide)
            have h17 : vs 17 = _ := hgr 17 (by decide)
            clear hgr
            change Made _ (Adds _ _ _) (Sem.run _ (execOp (Act.eval (Act.put (Act.put (Act.put (frm _ _ _ []) (some 79) (vs 17)) (some 77) (vs 15)) (some 75) (vs 13))) _) _)
            simp only [frm, h13, h15, h17]
            go_simp
            exact adds_val rfl
          · have h13 : vs 13 = _ := hgr 13 (by decide)
            have h18 : vs 18 = _ := hgr 18 (by decide)
            clear hgr
            change Made _ (Adds _ _ _) (Sem.run _ (execOp (Act.eval (Act.put (Act.put (frm _ _ _ []) (some 80) (vs 18)) (some 75) (vs 13))) _) _)
            simp only [frm, h13, h18]
            go_simp
            exact adds_val rfl
        · intro vs w12 hb1 hall hap
          have h19 : vs 19 = _ := (hall 19 (by omega)).1
          clear hall hap
          change wpList _ _ _ [_] (Act.put (Act.put (Act.put (Act.put (Act.put (Act.put (Act.put (Act.put (Act.put (Act.put (Act.put (Act.put (Act.put (Act.put (Act.put (Act.put (Act.put (Act.put (Act.put (Act.put (frm _ _ _ []) (some 81) (vs 19)) (some 80) (vs 18)) (some 79) (vs 17)) (some 78) (vs 16)) (some 77) (vs 15)) (some 76) (vs 14)) (some 75) (vs 13)) (some 74) (vs 12)) (some 73) (vs 11)) (some 72) (vs 10)) (some 71) (vs 9)) (some 70) (vs 8)) (some 69) (vs 7)) (some 68) (vs 6)) (some 67) (vs 5)) (some 66) (vs 4)) (some 65) (vs 3)) (some 64) (vs 2)) (some 63) (vs 1)) (some 62) (vs 0)) _
          simp only [frm, h19]
          go_wp2_with fail
          go_ret
          exact ⟨rfl, HB1.out.trans ((HC11.out.trans (hb1.mono HC11.out.size)).mono HB1.out.size)⟩
    · have he2 : (er == 0) = false := by simp [he]
      have he3 : (er != 0) = true := by simp [he]
      go_wp2_with fail
      go_ret
      exact ⟨rfl, HB1.out.trans (HC8.out.mono HB1.out.size)⟩
theorem finds_any (hs : SlR OpR w 9 A n ops) (hc : n ≤ c) (hb : n ≤ 140737488351232) (ha : -9223372036854775808 ≤ a ∧ a ≤ 9223372036854775807) (hi : -9223372036854775808 ≤ i ∧ i ≤ 9223372036854775807) (hx : U64 x) : Calls Try.prog 4 #[.slice A n c, .int .i64 a, .int .i64 i, .int .u64 x] w fun e w' => e = .returned (.bool true) ∧ Below w.heap.size w w' := by
  by_cases hn : 24 < n
  · exact finds_big hn hb
  · exact finds_main hs hc (by omega) ha hi hx
end
end Go.Proofs.Ytaecdpijpdfboaa
