/- BarrierMarks: whatever the input, the law returns true, and the input reads afterwards as before. The row. -/
import Derived.Test.YtaecdpijpdfboaaGreatAwake9
import Derived.Test.YtaecdpijpdfboaaGreatStepA
import Derived.Test.YtaecdpijpdfboaaGreatCardL
import Derived.Test.YtaecdpijpdfboaaGreatSepG
import Derived.Test.YtaecdpijpdfboaaGreatDoorP
namespace Go.Proofs.YtaecdpijpdfboaaGreat
set_option linter.unusedVariables false
set_option linter.unusedSimpArgs false
set_option linter.unusedSectionVars false
open Go.RowKit Go.Sort Go.Shelf
attribute [local go_sem] Oper.semAt_some onlyN_normal
set_option maxRecDepth 100000

set_option maxHeartbeats 1000000 in
theorem Same_any (l m : List Int) (A B : Option Addr) (c d : Nat) (w : World) (hl : l.length ≤ 140737488355328) (hc : l.length ≤ c) (hd : m.length ≤ d) (h1 : Sl w 1 A l.length (ints l)) (h2 : Sl w 1 B m.length (ints m)) :
    Calls Tryz.prog 16 #[.slice A l.length c, .slice B m.length d] w fun e w' => e = .returned (.bool (eqL l m)) ∧ ∃ n, w' = w.drewN n := by
  by_cases hlen : l.length = m.length
  · have hb : ((l.length : Int) != (m.length : Int)) = false := by rw [hlen]; simp
    go_enter Tryz.func16, Tryz.ntmps16
    have HL := Lib.hid hlen
    clear hlen
    go_wp2
    go_loopw [5] (fun i wr => ∃ k n : Nat, i = .int .i64 (k : Int) ∧ k ≤ l.length ∧ wr = w.drewN n ∧ l.take k = m.take k) (fun i _ => l.length - (intOf i).toNat)
    case atStart => exact ⟨0, 0, rfl, Nat.zero_le _, rfl, rfl⟩
    case round =>
      obtain ⟨k, n, rfl, hk, rfl, htk⟩ := hrel
      by_cases hlt : k < l.length
      · obtain ⟨b, o, rfl, hb1, hc1⟩ := h1.get hlt
        obtain ⟨b', o', rfl, hb2, hc2⟩ := h2.get (HL.out ▸ hlt)
        have hlt2 : k < m.length := HL.out ▸ hlt
        have e1 : w.cell? ⟨b, o + k, none⟩ = some (.int .i64 l[k]) := hc1 k _ (by simp [ints, hlt])
        have e2 : w.cell? ⟨b', o' + k, none⟩ = some (.int .i64 m[k]) := hc2 k _ (by simp [ints, hlt2])
        have t1 : l[k]? = some l[k] := List.getElem?_eq_getElem hlt
        have t2 : m[k]? = some m[k] := List.getElem?_eq_getElem hlt2
        generalize l[k] = x at e1 t1
        generalize m[k] = y at e2 t2
        have HT := Lib.hid (And.intro t1 t2)
        have HK := Lib.hid htk
        have hcc : k < c := by omega
        have hdd : k < d := by omega
        clear t1 t2 htk hc1 hc2 h1 h2
        by_cases hxy : x = y
        · have hb3 : (x != y) = false := by simp [hxy]
          have HX := Lib.hid hxy
          clear hxy
          go_wp2
          go_quiet (fail)
          go_wp2
          go_roundw
          case rel =>
            refine ⟨k + 1, _, by go_num, by omega, rfl, ?_⟩
            rw [List.take_add_one, List.take_add_one, HT.out.1, HT.out.2, HK.out, HX.out]
          case measure => simp [intOf]; omega
        · have hb3 : (x != y) = true := by simp [hxy]
          have HX := Lib.hid hxy
          clear hxy
          go_wp2
          go_quiet (fail)
          go_wp2
          go_ret
          exact ⟨ret_bool (decide_eq_false (list_ne_of_get HT.out.1 HT.out.2 HX.out)).symm, _, World.drewN_drewN _ _ _⟩
      · obtain rfl : k = l.length := by omega
        have HK := Lib.hid htk
        clear htk
        go_wp2
        go_ret
        refine ⟨ret_bool (decide_eq_true ?_).symm, _, rfl⟩
        have := HK.out
        rwa [List.take_length, HL.out, List.take_length] at this
  · have hb : ((l.length : Int) != (m.length : Int)) = true := by simp; omega
    have HL := Lib.hid hlen
    clear hlen
    go_enter Tryz.func16, Tryz.ntmps16
    go_wp2
    go_ret
    exact ⟨ret_bool (decide_eq_false (fun h => HL.out (by rw [h]))).symm, 0, rfl⟩
theorem CardsI.bst {m : Mm} {cs : List Int} (h : CardsI cs) (a i x : Int) : CardsI (bst m cs a i x).2.2 := by
  unfold Go.Proofs.YtaecdpijpdfboaaGreat.bst
  split
  · exact h
  · split
    · exact h.mark _
    · exact h
theorem CardsI.step {s : St} (h : CardsI s.cs) (o : OpV) : CardsI (s.step o).cs := by
  have ha : ∀ y hd, CardsI (s.alloc y hd).cs := fun y hd => by unfold St.alloc; split <;> exact h
  unfold St.step
  split
  · exact ha _ _
  · split
    · exact ha _ _
    · split
      · exact h.bst _ _ _
      · split
        · exact h
        · split
          · exact h
          · split
            · exact h.mark _
            · split
              · exact CardsI.nil
              · split
                · exact h
                · split
                  · exact h
                  · exact h
theorem CardsI.play (most : Int) : ∀ (l : List OpV) (s : St), CardsI s.cs → CardsI (s.play most l).cs
  | [], _, h => h
  | o :: l, s, h => by
    show CardsI (St.play most (if o.k ≤ most then s.step o else s) l).cs
    refine CardsI.play most l _ ?_
    split
    · exact h.step o
    · exact h
theorem take_contains (l : List Int) {q : Nat} (h : q < l.length) (y : Int) : (l.take (q + 1)).contains y = ((l.take q).contains y || y == l[q]) := by
  rw [List.take_add_one, List.getElem?_eq_getElem h, List.contains_append]
  congr 1
  simp
  rfl
/-- what a Store does to the cards -/
theorem bst_cards (m : Mm) (ok : m.Ok) (cs : List Int) (a i : Int) {x : Int} : ((bst m cs a i x).1 ≠ 0 ∨ 16777216 ≤ a ∨ ygW x = false → (bst m cs a i x).2.2 = cs) ∧
    ((bst m cs a i x).1 = 0 → a < 16777216 → ygW x = true → m.fldE a i = 0 ∧ oldB (a + 2 + i) = true ∧ (bst m cs a i x).2.2 = (cardMark cs (a + 2 + i)).2) := by
  unfold Go.Proofs.YtaecdpijpdfboaaGreat.bst
  by_cases he : m.fldE a i = 0
  · rw [if_neg (by simp [he])]
    obtain ⟨h1, h2, h3⟩ := ok.fld_has he
    by_cases hs : m.old.has a = true ∧ ygW x = true
    · rw [if_pos hs]
      have ho := ok.old_lt hs.1
      have ho2 := ok.old_lt (h3.trans hs.1)
      have hb : oldB (a + 2 + i) = true := (oldB_iff _).2 (by omega)
      have hm : (cardMark cs (a + 2 + i)).1 = 0 := by unfold cardMark; rw [if_neg (by rw [hb]; simp)]; split <;> rfl
      refine ⟨fun h => ?_, fun _ _ _ => ⟨he, hb, rfl⟩⟩
      rcases h with h | h | h
      · exact absurd hm h
      · omega
      · rw [hs.2] at h; cases h
    · rw [if_neg hs]
      refine ⟨fun _ => rfl, fun _ ha hy => ?_⟩
      exfalso
      refine hs ⟨?_, hy⟩
      unfold Mm.has Mm.sp at h1
      cases hh : m.old.has a with
      | true => rfl
      | false =>
        rw [if_neg (by rw [hh]; simp)] at h1
        have := ok.yng_ge h1
        omega
  · rw [if_pos he]
    exact ⟨fun _ => rfl, fun h => absurd h he⟩
section
variable {w : World} {ops : List OpV} {A : Option Addr} {n c : Nat} {a i x : Int}
set_option maxHeartbeats 4000000 in
theorem marks_big (hn : 24 < n) (hb : n ≤ 140737488351232) : Calls Tryz.prog 5 #[.slice A n c, .int .i64 a, .int .i64 i, .int .u64 x] w fun e w' => e = .returned (.bool true) ∧ Below w.heap.size w w' := by
  have cA := fun w => awake_any (w := w)
  go_enter Tryz.func5, Tryz.ntmps5
  go_wp2_with fail
  refine (cA _).mono ?_
  rintro e w1 ⟨rfl, hb1⟩
  have HB1 := Lib.hid hb1
  clear hb1
  go_wp2_with fail
  refine (cA _).mono ?_
  rintro e w2 ⟨rfl, hb2⟩
  have HB2 := Lib.hid (HB1.out.trans (hb2.mono HB1.out.size))
  clear hb2
  go_wp2_with fail
  go_ret
  exact ⟨rfl, HB2.out⟩
set_option maxHeartbeats 8000000 in
theorem marks_main (hs : SlR OpR w 9 A n ops) (hc : n ≤ c) (hn : n ≤ 24) (ha : -9223372036854775808 ≤ a ∧ a ≤ 9223372036854775807) (hi : -9223372036854775808 ≤ i ∧ i ≤ 9223372036854775807) (hx : U64 x) : Calls Tryz.prog 5 #[.slice A n c, .int .i64 a, .int .i64 i, .int .u64 x] w fun e w' => e = .returned (.bool true) ∧ Below w.heap.size w w' := by
  have cA := awake_any (w := w)
  have cP := fun {w1 : World} (hb : Below w.heap.size w w1) => play255_any (hs.keep hb.size (keep_below hb) OpR.keep) hc hn
  obtain ⟨s, hst⟩ : ∃ s, s = St.new.play 255 ops := ⟨_, rfl⟩
  have hlen : s.cs.length ≤ 0 + ops.length ∧ s.xs.length ≤ 0 + ops.length := hst ▸ St.play_len 255 ops St.new
  have hcl : s.cs.length ≤ 24 := by have := hs.1; omega
  have hxl : s.xs.length ≤ 24 := by have := hs.1; omega
  have hci : CardsI s.cs := hst ▸ CardsI.play 255 ops St.new CardsI.nil
  have HCI := Lib.hid hci
  have HXL := Lib.hid hxl
  have HA := Lib.hid ha
  have HX := Lib.hid hx
  have cY := fun w => Young_any hx w
  rw [← hst] at cP
  clear hs hst hlen hci hxl ha hi hx
  go_enter Tryz.func5, Tryz.ntmps5
  go_wp2_with fail
  refine cA.mono ?_
  rintro e w1 ⟨rfl, hb1⟩
  have HB1 := Lib.hid hb1
  have cP := cP hb1
  clear hb1 cA
  go_wp2_with fail
  refine cP.mono ?_
  rintro e w2 ⟨L, k, rfl, hk, h2, hb2⟩
  have HK2 : Hid (k < 1000000) := Lib.hid (by omega)
  have HB2 := Lib.hid hb2
  have OK := Lib.hid h2.mr.ok
  have H2 := Lib.hid h2
  have cO := object_any h2 (Nat.le_trans HXL.out (by decide)) a HA.out
  obtain ⟨at_, hat⟩ : ∃ at_, at_ = objAt s.xs a := ⟨_, rfl⟩
  rw [← hat] at cO
  clear h2 hb2 hk cP hat
  go_wp2_with fail
  refine cO.mono ?_
  rintro e w3 ⟨rfl, n3, rfl⟩
  have H3 := Lib.hid (H2.out.drewN n3)
  have HB3 := Lib.hid (below_drewN HB2.out n3)
  have HP3 := Lib.hid H3.out.hd
  have q2 : (w2.drewN n3).cell? ⟨L.p, 2, none⟩ = some (.pointer (some ⟨L.gt, 0, none⟩)) := HP3.out.cell 2
  have cC := Cards_any H3.out.tr HCI.out.1 HCI.out.wf (by omega)
  clear cO
  generalize w2.drewN n3 = w3 at *
  go_wp2_with fail
  refine cC.mono ?_
  rintro e w4 ⟨v4, rfl, ho4, hb4⟩
  obtain ⟨A4, c4, rfl, hc4⟩ := own_shape ho4
  have H4 := Lib.hid (H3.out.below hb4)
  have HB4 := Lib.hid (HB3.out.trans (hb4.mono HB3.out.size))
  have HO4 : Hid (w4.ownsRow w1.heap.size 3 1 (.slice A4 s.cs.length c4) s.cs.length (ints s.cs)) := Lib.hid (by
    obtain ⟨h1, h2⟩ := ho4
    refine ⟨h1, h2.imp id ?_⟩
    rintro ⟨g, cap, cur, e, hg, hr⟩
    exact ⟨g, cap, cur, e, Nat.le_trans HB3.out.size hg, hr⟩)
  have HP4 := Lib.hid (HP3.out.below hb4 HP3.out.lt)
  clear ho4 hb4 cC q2
  go_upto_region 8 with fail
  refine wp_region_adds0 11 (fun i => ([[], [0], [1], [2], [], [4], [5], [6], [], [], []] : List (List Nat)).getD i []) (EL [Ent.val (.pointer (some ⟨L.p, 0, none⟩)), Ent.val (.pointer (some ⟨L.p, 0, none⟩)), Ent.val (.pointer (some ⟨L.p, 0, none⟩)), Ent.val (.agg #[.pointer (some ⟨L.g1, 0, none⟩), .pointer (some ⟨L.g2, 0, none⟩)]), Ent.val (.pointer (some ⟨L.p, 0, none⟩)), Ent.val (.pointer (some ⟨L.p, 0, none⟩)), Ent.val (.pointer (some ⟨L.p, 2, none⟩)), Ent.val (.pointer (some ⟨L.gt, 0, none⟩)), Ent.val (.int .i64 at_), Ent.val (.int .i64 i), Ent.val (.int .u64 x)]) (by kernel_rfl) (by kernel_rfl) (by kernel_rfl) (by kernel_rfl) (by rfl) ?_ ?_
  · intro i hi o ho vs w5 hb1 hgr
    rcases (show i = 0 ∨ i = 1 ∨ i = 2 ∨ i = 3 ∨ i = 4 ∨ i = 5 ∨ i = 6 ∨ i = 7 ∨ i = 8 ∨ i = 9 ∨ i = 10 by omega) with rfl | rfl | rfl | rfl | rfl | rfl | rfl | rfl | rfl | rfl | rfl <;> cases ho
    · clear hgr
      change Made _ (Adds _ _ _) (Sem.run _ (execOp (Act.eval (frm _ _ _ [])) _) _)
      simp only [frm]
      go_simp
      exact adds_val rfl
    · have h0 : vs 0 = _ := hgr 0 (by decide)
      clear hgr
      change Made _ (Adds _ _ _) (Sem.run _ (execOp (Act.eval (Act.put (frm _ _ _ []) (some 44) (vs 0))) _) _)
      simp only [frm, h0]
      go_simp
      exact adds_val rfl
    · have h1 : vs 1 = _ := hgr 1 (by decide)
      clear hgr
      change Made _ (Adds _ _ _) (Sem.run _ (execOp (Act.eval (Act.put (frm _ _ _ []) (some 45) (vs 1))) _) _)
      simp only [frm, h1]
      go_simp
      exact adds_val rfl
    · have h2 : vs 2 = _ := hgr 2 (by decide)
      clear hgr
      change Made _ (Adds _ _ _) (Sem.run _ (execOp (Act.eval (Act.put (frm _ _ _ []) (some 46) (vs 2))) _) _)
      simp only [frm, h2]
      have hbk := HP4.out.below hb1 HP4.out.lt
      have c0 : w5.cell? ⟨L.p, 0, none⟩ = some (.pointer (some ⟨L.g1, 0, none⟩)) := hbk.cell 0
      have c1 : w5.cell? ⟨L.p, 1, none⟩ = some (.pointer (some ⟨L.g2, 0, none⟩)) := hbk.cell 1
      clear hbk
      go_simp
      exact adds_val rfl
    · clear hgr
      change Made _ (Adds _ _ _) (Sem.run _ (execOp (Act.eval (frm _ _ _ [])) _) _)
      simp only [frm]
      go_simp
      exact adds_val rfl
    · have h4 : vs 4 = _ := hgr 4 (by decide)
      clear hgr
      change Made _ (Adds _ _ _) (Sem.run _ (execOp (Act.eval (Act.put (frm _ _ _ []) (some 48) (vs 4))) _) _)
      simp only [frm, h4]
      go_simp
      exact adds_val rfl
    · have h5 : vs 5 = _ := hgr 5 (by decide)
      clear hgr
      change Made _ (Adds _ _ _) (Sem.run _ (execOp (Act.eval (Act.put (frm _ _ _ []) (some 49) (vs 5))) _) _)
      simp only [frm, h5]
      go_simp
      exact adds_val rfl
    · have h6 : vs 6 = _ := hgr 6 (by decide)
      clear hgr
      change Made _ (Adds _ _ _) (Sem.run _ (execOp (Act.eval (Act.put (frm _ _ _ []) (some 50) (vs 6))) _) _)
      simp only [frm, h6]
      have hbk := HP4.out.below hb1 HP4.out.lt
      have c0 : w5.cell? ⟨L.p, 2, none⟩ = some (.pointer (some ⟨L.gt, 0, none⟩)) := hbk.cell 2
      clear hbk
      go_simp
      exact adds_val rfl
    · clear hgr
      change Made _ (Adds _ _ _) (Sem.run _ (execOp (Act.eval (frm _ _ _ [])) _) _)
      simp only [frm]
      go_simp
      exact adds_val rfl
    · clear hgr
      change Made _ (Adds _ _ _) (Sem.run _ (execOp (Act.eval (frm _ _ _ [])) _) _)
      simp only [frm]
      go_simp
      exact adds_val rfl
    · clear hgr
      change Made _ (Adds _ _ _) (Sem.run _ (execOp (Act.eval (frm _ _ _ [])) _) _)
      simp only [frm]
      go_simp
      exact adds_val rfl
  · intro vs w5 hb1 hall hap
    have h3 : vs 3 = _ := (hall 3 (by omega)).1
    have h7 : vs 7 = _ := (hall 7 (by omega)).1
    have h8 : vs 8 = _ := (hall 8 (by omega)).1
    have h9 : vs 9 = _ := (hall 9 (by omega)).1
    have h10 : vs 10 = _ := (hall 10 (by omega)).1
    clear hall hap
    change wpList _ _ _ [_, _] (Act.put (Act.put (Act.put (Act.put (Act.put (Act.put (Act.put (Act.put (Act.put (Act.put (Act.put (frm _ _ _ []) (some 54) (vs 10)) (some 53) (vs 9)) (some 52) (vs 8)) (some 51) (vs 7)) (some 50) (vs 6)) (some 49) (vs 5)) (some 48) (vs 4)) (some 47) (vs 3)) (some 46) (vs 2)) (some 45) (vs 1)) (some 44) (vs 0)) _
    simp only [frm, h3, h7, h8, h9, h10]
    have H5 := Lib.hid (H4.out.below hb1)
    have HB5 := Lib.hid (HB4.out.trans (hb1.mono HB4.out.size))
    have HO5 := Lib.hid (own_local HO4.out fun k hk => hb1.block k (HO4.out.lt k hk).2)
    obtain ⟨er, m2, cs2, hr⟩ : ∃ er m2 cs2, bst s.m s.cs at_ i x = (er, m2, cs2) := ⟨_, _, _, rfl⟩
    have hBC := bst_cards s.m OK.out s.cs at_ i (x := x)
    have hci2 : CardsI (bst s.m s.cs at_ i x).2.2 := HCI.out.bst at_ i x
    have hcl2 : (bst s.m s.cs at_ i x).2.2.length ≤ s.cs.length + 1 := by
      unfold Go.Proofs.YtaecdpijpdfboaaGreat.bst
      split
      · exact Nat.le_succ _
      · split
        · exact cardMark_len _ _
        · exact Nat.le_succ _
    have cB := BStore_any H5.out.mr H5.out.tr HK2.out at_ i HX.out
    rw [hr] at cB hBC hci2 hcl2
    simp only at hBC hci2 hcl2
    have HBC := Lib.hid hBC
    have HCI2 := Lib.hid hci2
    unfold memV at cB
    clear hb1 hr hci2 hBC
    go_wp2_with fail
    refine cB.mono ?_
    rintro e w6 ⟨rfl, hm6, hc6, hk6⟩
    simp only at hm6 hc6 ⊢
    have h6 := H5.out.prog hm6 hc6 hk6
    have HB6 := Lib.hid (H5.out.progBelow hk6 HB5.out HB5.out.size)
    have HO6 := Lib.hid (own_local HO5.out fun k hk => hk6.block k (HO5.out.lt k hk).2 fun hs => by
      rcases hs with (hs | hs) | hs
      · exact own_int_ne HO5.out H5.out.mr.o k hk hs
      · exact own_int_ne HO5.out H5.out.mr.y k hk hs
      · exact own_int_map HO5.out H5.out.tr.mp (hs ▸ hk))
    have q2 : w6.cell? ⟨L.p, 2, none⟩ = some (.pointer (some ⟨L.gt, 0, none⟩)) := h6.hd.cell 2
    have cC := Cards_any h6.tr HCI2.out.1 HCI2.out.wf (by omega)
    have H6 := Lib.hid h6
    clear hm6 hc6 hk6 h6 cB
    go_wp2_with fail
    refine cC.mono ?_
    rintro e w7 ⟨v7, rfl, ho7, hb7⟩
    obtain ⟨A7, c7, rfl, hc7⟩ := own_shape ho7
    have H7 := Lib.hid (H6.out.below hb7)
    have HB7 := Lib.hid (HB1.out.trans ((HB6.out.trans (hb7.mono HB6.out.size)).mono HB1.out.size))
    have HO7 := Lib.hid (own_local HO6.out fun k hk => hb7.block k (HO6.out.lt k hk).2)
    have HS7 := Lib.hid (own_sl HO7.out)
    have HT7 := Lib.hid (own_sl ho7)
    clear ho7 hb7 cC q2
    have SAME : cs2 = s.cs → Hid (Calls Tryz.prog 16 #[.slice A4 s.cs.length c4, .slice A7 cs2.length c7] w7 fun e w' => e = .returned (.bool true) ∧ ∃ n, w' = w7.drewN n) := fun he => Lib.hid (by
      have := Same_any s.cs cs2 A4 A7 c4 c7 w7 (by omega) hc4 hc7 HS7.out HT7.out
      rw [show eqL s.cs cs2 = true from decide_eq_true he.symm] at this
      exact this)
    have HSAME := Lib.hid SAME
    clear SAME
    by_cases he : er = 0
    · subst he
      by_cases h24 : 16777216 ≤ at_
      · have cS := (HSAME.out (HBC.out.1 (.inr (.inl h24)))).out
        have hd24 : decide (16777216 ≤ at_) = true := decide_eq_true h24
        clear cY
        simp only []
        go_at_K
        iterate 44 (first | go_values | go_skip | go_guarded | go_step | go_upon)
        go_wp2_with (go_at_call 16; refine cS.mono ?_; rintro e w8 ⟨rfl, n8, rfl⟩)
        go_ret
        exact ⟨rfl, below_drewN HB7.out _⟩
      · have hlt24 : at_ < 16777216 := by omega
        have hd24 : decide (16777216 ≤ at_) = false := decide_eq_false h24
        cases hy : ygW x with
        | false =>
          have cS := (HSAME.out (HBC.out.1 (.inr (.inr hy)))).out
          rw [hy] at cY
          simp only []
          go_at_K
          iterate 30 (first | go_values | go_skip | go_guarded | go_step | go_upon)
          go_wp2_with fail
          refine (cY _).mono ?_
          rintro e w8 ⟨rfl, rfl⟩
          simp only []
          go_at_K
          iterate 8 (first | go_values | go_skip | go_guarded | go_step | go_upon)
          go_wp2_with (go_at_call 16; refine cS.mono ?_; rintro e w9 ⟨rfl, n8, rfl⟩)
          go_ret
          exact ⟨rfl, below_drewN HB7.out _⟩
        | true =>
          rw [hy] at cY
          have HQ := Lib.hid (HBC.out.2 rfl hlt24 hy)
          clear HBC HSAME
          go_wp2_with fail
          refine (cY _).mono ?_
          rintro e w8 ⟨rfl, rfl⟩
          clear cY
          obtain ⟨hfe, hob, hcs2⟩ := HQ.out
          obtain ⟨hb0, hb1, hb2, hb3⟩ := Mm.fldE_bound OK.out.o OK.out.y hfe
          have hoI := (oldB_iff _).1 hob
          obtain ⟨cd, hcd⟩ : ∃ cd, cd = (at_ + 2 + i) / 16 := ⟨_, rfl⟩
          have hcin : cardIn cs2 (at_ + 2 + i) = true := by
            unfold cardIn
            rw [hob, hcs2, cardMark_contains _ _ hob, if_pos rfl]
            rfl
          have HMEM : Hid (∀ y, y ∈ cs2 → y = cd ∨ y ∈ s.cs) := Lib.hid fun y hy => by
            have := cardMark_contains s.cs (at_ + 2 + i) hob y
            rw [← hcs2] at this
            have h1 : cs2.contains y = true := by simpa using hy
            rw [h1] at this
            split at this
            · rename_i hq
              exact .inl (hq.trans hcd.symm)
            · exact .inr (by simpa using this.symm)
          have cK := Marked_any H7.out.tr (at_ + 2 + i)
          rw [hcin] at cK
          have hqd : (at_ + 2 + i).tdiv 16 = cd := by rw [hcd, Int.tdiv_eq_ediv_of_nonneg (by omega)]
          have hcd0 : 0 ≤ cd := by omega
          have hcd1 : cd < 4294967296 := by omega
          have q7 : w7.cell? ⟨L.p, 2, none⟩ = some (.pointer (some ⟨L.gt, 0, none⟩)) := H7.out.hd.cell 2
          have hlen2 : cs2.length ≤ s.cs.length + 1 := hcl2
          have HCSE := Lib.hid hcs2
          clear hcs2 hcin hcd hob
          go_wp2_with fail
          refine cK.mono ?_
          rintro e w8 ⟨rfl, rfl⟩
          clear cK q7
          go_wp2_with fail
          have hl2 : cs2.length ≤ 25 := by omega
          have HL2 := Lib.hid hlen2
          clear hcl2 hlen2 hfe hb0 hb1 hb2 hb3 hoI hlt24 hd24 hy hcd0 hcd1
          go_loopw [92] (fun i_ wr => ∃ j : Nat, i_ = .int .i64 (j : Int) ∧ j ≤ cs2.length ∧ wr = w7) (fun i_ _ => cs2.length - (intOf i_).toNat)
          case atStart => exact ⟨0, rfl, Nat.zero_le _, rfl⟩
          case round =>
            obtain ⟨j, rfl, hj, rfl⟩ := hrel
            by_cases hlt : j < cs2.length
            · obtain ⟨b, o, rfl, hbl, hcell⟩ := HT7.out.get hlt
              have e1 : wr.cell? ⟨b, o + j, none⟩ = some (.int .i64 cs2[j]) := hcell j _ (by simp [ints, hlt])
              have hor := HMEM.out cs2[j] (List.getElem_mem hlt)
              generalize cs2[j] = y at *
              have HOR := Lib.hid hor
              have hjc : j < c7 := by omega
              clear hcell hor hbl
              go_wp2_with fail
              go_loopw [18, 101] (fun v i_ wz => ∃ q : Nat, i_ = .int .i64 (q : Int) ∧ q ≤ s.cs.length ∧ wz = wr ∧ v = .bool (decide (y = cd) || (s.cs.take q).contains y)) (fun _ i_ _ => s.cs.length - (intOf i_).toNat)
              case atStart => exact ⟨0, rfl, Nat.zero_le _, rfl, by simp; rfl⟩
              case round =>
                obtain ⟨q, rfl, hq, rfl, rfl⟩ := hrel
                by_cases hlq : q < s.cs.length
                · obtain ⟨b', o', rfl, hbl', hcell'⟩ := HS7.out.get hlq
                  have e2 : wr.cell? ⟨b', o' + q, none⟩ = some (.int .i64 s.cs[q]) := hcell' q _ (by simp [ints, hlq])
                  have hx : s.cs[q]? = some s.cs[q] := List.getElem?_eq_getElem hlq
                  have hT : (s.cs.take (q + 1)).contains y = ((s.cs.take q).contains y || y == s.cs[q]) := by
                    exact take_contains s.cs hlq y
                  generalize s.cs[q] = z at *
                  have HT := Lib.hid hT
                  have hqc : q < c4 := by omega
                  clear hx hT hcell' hbl' e1
                  generalize hK : (decide (y = cd) || (s.cs.take q).contains y) = K
                  have HK := Lib.hid hK
                  clear hK
                  cases K with
                  | true =>
                    go_wp2_with fail
                    go_roundw
                    case rel =>
                      refine ⟨q + 1, by go_num, by omega, trivial, ?_⟩
                      rw [HT.out, ← Bool.or_assoc, HK.out]; rfl
                    case measure => simp [intOf]; omega
                  | false =>
                    go_wp2_with fail
                    go_roundw
                    case rel =>
                      refine ⟨q + 1, by go_num, by omega, trivial, ?_⟩
                      rw [HT.out, ← Bool.or_assoc, HK.out]; rfl
                    case measure => simp [intOf]; omega
                · obtain rfl : q = s.cs.length := by omega
                  have hK : (decide (y = cd) || (s.cs.take s.cs.length).contains y) = true := by
                    rw [List.take_length]
                    rcases HOR.out with h | h
                    · simp [h]
                    · simp [h]
                  rw [hK]
                  clear hK
                  go_wp2_with fail
                  go_roundw
                  case rel => exact ⟨j + 1, by go_num, by omega, trivial⟩
                  case measure => simp [intOf]; omega
            · obtain rfl : j = cs2.length := by omega
              have hl3 := HL2.out
              go_wp2_with fail
              go_ret
              exact ⟨ret_bool (by simp; omega), HB7.out⟩
    · have he1 : (er == 0) = false := by simp [he]
      have he2 : (er != 0) = true := by simp [he]
      have cS := (HSAME.out (HBC.out.1 (.inl he))).out
      clear cY he
      go_wp2_with fail
      refine cS.mono ?_
      rintro e w8 ⟨rfl, n8, rfl⟩
      go_wp2_with fail
      go_ret
      exact ⟨rfl, below_drewN HB7.out _⟩
theorem marks_any (hs : SlR OpR w 9 A n ops) (hc : n ≤ c) (hb : n ≤ 140737488351232) (ha : -9223372036854775808 ≤ a ∧ a ≤ 9223372036854775807) (hi : -9223372036854775808 ≤ i ∧ i ≤ 9223372036854775807) (hx : U64 x) : Calls Tryz.prog 5 #[.slice A n c, .int .i64 a, .int .i64 i, .int .u64 x] w fun e w' => e = .returned (.bool true) ∧ Below w.heap.size w w' := by
  by_cases hn : 24 < n
  · exact marks_big hn hb
  · exact marks_main hs hc (by omega) ha hi hx
end
end Go.Proofs.YtaecdpijpdfboaaGreat

namespace Go.Proofs.YtaecdpijpdfboaaGreat
set_option linter.unusedVariables false
set_option linter.unusedSimpArgs false
set_option linter.unusedSectionVars false
open Go.ChangeShapes Go.WideShapes Go.ChangeAt Go.RowKit

set_option maxRecDepth 100000 in
theorem bMarks_lifted (os : Os) (started : os.Started) (H : Type) (enc : TypeId × Value → H) :
    ReturnsInHanded {} Tryz.checked os 5 .any (Rows.barrierMarksSpec.pre6 enc Tryz.prog Tryz.f5 Rows.barrierMarksRow.domain false)
      (Rows.barrierMarksSpec.post enc Tryz.prog Tryz.f5 false true false false) := by
  refine returnsInHanded_of_change_shaped (C := Tryz.checked) own started (by kernel_rfl) Tryz.func5
    (ChangeSpec.witness6 (enc := enc) (C := Tryz.checked) false ⟨#[], #[.slice none 0 0, .int .i64 0, .int .i64 0, .int .u64 0], []⟩ 8 (by kernel_rfl) (by kernel_rfl) (by kernel_rfl) (by kernel_rfl)) ?_
  intro W base args ds gs before hval0 hW _ hwt _ _
  have hval : ∀ (j : Nat) t v, Tryz.f5.params[j]? = some t → args[j]? = some v → Value.okWide Tryz.prog W .any base t v := hval0
  have hW' := hW
  obtain ⟨p, q, hA0, hV, rfl, hfz, hnd⟩ := hW
  have hA : DataW.TrodAll enc Tryz.prog W 0 (fun _ => true) true Tryz.f5.params.toList args.toList ds p := hA0
  rw [Tryz.params5] at hA hval
  obtain ⟨v0, v1, v2, v3, d0, d1, d2, d3, p0, p1, p2, p3, rfl, rfl, rfl, h0, h1, h2, h3⟩ := trodAll_four hA
  obtain ⟨rfl, rfl⟩ := trodVars_none hV
  have k0 := h0
  have lt0 : ∀ x ∈ p0, x.block < W.heap.size := by obtain ⟨m, hm⟩ := k0; exact DataW.trod_lt m _ _ _ hm
  have k1 := h1
  have lt1 : ∀ x ∈ p1, x.block < W.heap.size := by obtain ⟨m, hm⟩ := k1; exact DataW.trod_lt m _ _ _ hm
  have k2 := h2
  have lt2 : ∀ x ∈ p2, x.block < W.heap.size := by obtain ⟨m, hm⟩ := k2; exact DataW.trod_lt m _ _ _ hm
  have k3 := h3
  have lt3 : ∀ x ∈ p3, x.block < W.heap.size := by obtain ⟨m, hm⟩ := k3; exact DataW.trod_lt m _ _ _ hm
  have g0 : Wgt Tryz.prog 22 d0 := wgt_of hwt (j := 0) (by rw [Tryz.params5]; rfl) rfl
  obtain ⟨A, n, c, ops, rfl, hc, hnb, hs⟩ := open_ops (hval 0 22 v0 rfl rfl) h0 g0
  obtain ⟨a, rfl, rfl, rfl, wa⟩ := open_int Tryz.underlying3 (hval 1 3 v1 rfl rfl) h1
  obtain ⟨i, rfl, rfl, rfl, wi⟩ := open_int Tryz.underlying3 (hval 2 3 v2 rfl rfl) h2
  obtain ⟨x, rfl, rfl, rfl, wx⟩ := open_int Tryz.underlying51 (hval 3 51 v3 rfl rfl) h3
  have hx : U64 x := by unfold U64; simp [Lit.wf, IntKind.min, IntKind.max, IntKind.signed, IntKind.bits] at wx; omega
  clear hA0 hval0
  have fin : Calls Tryz.prog 5 #[.slice A n c, .int .i64 a, .int .i64 i, .int .u64 x] W fun e w' => e = .returned (.bool true) ∧ Below W.heap.size W w' := by
    exact marks_any hs hc (by omega) (wf_i64b wa) (wf_i64b wi) hx
  refine fin.mono fun e W' ⟨he, bel⟩ => ?_
  subst he
  exact ⟨_, rfl, _, _, _, [], _, [], hW', trodAll_mk1 (shut_bool Tryz.underlying4 _), (trodAll_cons_mk (Below.trod laidOut (by kernel_rfl) (of_decide_eq_true (by kernel_rfl)) k0 bel lt0) (trodAll_cons_mk (Below.trod laidOut (by kernel_rfl) (of_decide_eq_true (by kernel_rfl)) k1 bel lt1) (trodAll_cons_mk (Below.trod laidOut (by kernel_rfl) (of_decide_eq_true (by kernel_rfl)) k2 bel lt2) (trodAll_cons_mk (Below.trod laidOut (by kernel_rfl) (of_decide_eq_true (by kernel_rfl)) k3 bel lt3) trodAll_mk0)))), rfl, bel.frame _, fun h => by cases h⟩

theorem bMarks_holds : Rows.BarrierMarksSaid :=
  OpenClaim.holds_of_wide 5 Tryz.f5 rfl rfl rfl rfl rfl rfl rfl ⟨rfl, rfl, rfl, rfl, rfl⟩ rfl rfl rfl rfl rfl (by kernel_rfl) Tryz.func5 (by kernel_rfl)
    (of_decide_eq_true (by kernel_rfl)) (by unfold Func.isWrapper; first | (rw [if_pos (by decide +kernel)]; kernel_rfl) | (rw [if_neg (by decide +kernel)]; exact ⟨rfl, rfl⟩))
    (fun os started H enc _ => bMarks_lifted os started H enc)
#print axioms bMarks_holds
end Go.Proofs.YtaecdpijpdfboaaGreat
