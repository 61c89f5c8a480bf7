/- BarrierStores: after any operations the cards are the reference's, and every word reads alike. (printed by gen/stores.py) -/
import Derived.Test.YtaecdpijpdfboaaGreatAwake9
import Derived.Test.YtaecdpijpdfboaaGreatStepA
import Derived.Test.YtaecdpijpdfboaaGreatCardL
import Derived.Test.YtaecdpijpdfboaaGreatSepG
import Derived.Test.YtaecdpijpdfboaaGreatDoorP
namespace Go.Proofs.YtaecdpijpdfboaaGreat
set_option linter.unusedVariables false
set_option linter.unusedSimpArgs false
set_option linter.unusedSectionVars false
open Go.RowKit Go.Sort Go.Shelf
attribute [local go_sem] Oper.semAt_some onlyN_normal
set_option maxRecDepth 100000

set_option maxHeartbeats 1000000 in
theorem Same_any (l m : List Int) (A B : Option Addr) (c d : Nat) (w : World) (hl : l.length ≤ 140737488355328) (hc : l.length ≤ c) (hd : m.length ≤ d) (h1 : Sl w 1 A l.length (ints l)) (h2 : Sl w 1 B m.length (ints m)) :
    Calls Tryz.prog 16 #[.slice A l.length c, .slice B m.length d] w fun e w' => e = .returned (.bool (eqL l m)) ∧ ∃ n, w' = w.drewN n := by
  by_cases hlen : l.length = m.length
  · have hb : ((l.length : Int) != (m.length : Int)) = false := by rw [hlen]; simp
    go_enter Tryz.func16, Tryz.ntmps16
    have HL := Lib.hid hlen
    clear hlen
    go_wp2
    go_loopw [5] (fun i wr => ∃ k n : Nat, i = .int .i64 (k : Int) ∧ k ≤ l.length ∧ wr = w.drewN n ∧ l.take k = m.take k) (fun i _ => l.length - (intOf i).toNat)
    case atStart => exact ⟨0, 0, rfl, Nat.zero_le _, rfl, rfl⟩
    case round =>
      obtain ⟨k, n, rfl, hk, rfl, htk⟩ := hrel
      by_cases hlt : k < l.length
      · obtain ⟨b, o, rfl, hb1, hc1⟩ := h1.get hlt
        obtain ⟨b', o', rfl, hb2, hc2⟩ := h2.get (HL.out ▸ hlt)
        have hlt2 : k < m.length := HL.out ▸ hlt
        have e1 : w.cell? ⟨b, o + k, none⟩ = some (.int .i64 l[k]) := hc1 k _ (by simp [ints, hlt])
        have e2 : w.cell? ⟨b', o' + k, none⟩ = some (.int .i64 m[k]) := hc2 k _ (by simp [ints, hlt2])
        have t1 : l[k]? = some l[k] := List.getElem?_eq_getElem hlt
        have t2 : m[k]? = some m[k] := List.getElem?_eq_getElem hlt2
        generalize l[k] = x at e1 t1
        generalize m[k] = y at e2 t2
        have HT := Lib.hid (And.intro t1 t2)
        have HK := Lib.hid htk
        have hcc : k < c := by omega
        have hdd : k < d := by omega
        clear t1 t2 htk hc1 hc2 h1 h2
        by_cases hxy : x = y
        · have hb3 : (x != y) = false := by simp [hxy]
          have HX := Lib.hid hxy
          clear hxy
          go_wp2
          go_quiet (fail)
          go_wp2
          go_roundw
          case rel =>
            refine ⟨k + 1, _, by go_num, by omega, rfl, ?_⟩
            rw [List.take_add_one, List.take_add_one, HT.out.1, HT.out.2, HK.out, HX.out]
          case measure => simp [intOf]; omega
        · have hb3 : (x != y) = true := by simp [hxy]
          have HX := Lib.hid hxy
          clear hxy
          go_wp2
          go_quiet (fail)
          go_wp2
          go_ret
          exact ⟨ret_bool (decide_eq_false (list_ne_of_get HT.out.1 HT.out.2 HX.out)).symm, _, World.drewN_drewN _ _ _⟩
      · obtain rfl : k = l.length := by omega
        have HK := Lib.hid htk
        clear htk
        go_wp2
        go_ret
        refine ⟨ret_bool (decide_eq_true ?_).symm, _, rfl⟩
        have := HK.out
        rwa [List.take_length, HL.out, List.take_length] at this
  · have hb : ((l.length : Int) != (m.length : Int)) = true := by simp; omega
    have HL := Lib.hid hlen
    clear hlen
    go_enter Tryz.func16, Tryz.ntmps16
    go_wp2
    go_ret
    exact ⟨ret_bool (decide_eq_false (fun h => HL.out (by rw [h]))).symm, 0, rfl⟩
theorem CardsI.bst {m : Mm} {cs : List Int} (h : CardsI cs) (a i x : Int) : CardsI (bst m cs a i x).2.2 := by
  unfold Go.Proofs.YtaecdpijpdfboaaGreat.bst
  split
  · exact h
  · split
    · exact h.mark _
    · exact h
theorem CardsI.step {s : St} (h : CardsI s.cs) (o : OpV) : CardsI (s.step o).cs := by
  have ha : ∀ y hd, CardsI (s.alloc y hd).cs := fun y hd => by unfold St.alloc; split <;> exact h
  unfold St.step
  split
  · exact ha _ _
  · split
    · exact ha _ _
    · split
      · exact h.bst _ _ _
      · split
        · exact h
        · split
          · exact h
          · split
            · exact h.mark _
            · split
              · exact CardsI.nil
              · split
                · exact h
                · split
                  · exact h
                  · exact h
theorem CardsI.play (most : Int) : ∀ (l : List OpV) (s : St), CardsI s.cs → CardsI (s.play most l).cs
  | [], _, h => h
  | o :: l, s, h => by
    show CardsI (St.play most (if o.k ≤ most then s.step o else s) l).cs
    refine CardsI.play most l _ ?_
    split
    · exact h.step o
    · exact h
section
variable {w : World} {ops : List OpV} {A : Option Addr} {n c : Nat}
set_option maxHeartbeats 4000000 in
theorem stores_big (hn : 24 < n) (hb : n ≤ 140737488351232) : Calls Tryz.prog 4 #[.slice A n c] w fun e w' => e = .returned (.bool true) ∧ Below w.heap.size w w' := by
  have cA := fun w => awake_any (w := w)
  go_enter Tryz.func4, Tryz.ntmps4
  go_wp2_with fail
  refine (cA _).mono ?_
  rintro e w1 ⟨rfl, hb1⟩
  have HB1 := Lib.hid hb1
  clear hb1
  go_wp2_with fail
  refine (cA _).mono ?_
  rintro e w2 ⟨rfl, hb2⟩
  have HB2 := Lib.hid (HB1.out.trans (hb2.mono HB1.out.size))
  clear hb2
  go_wp2_with fail
  go_ret
  exact ⟨rfl, HB2.out⟩
set_option maxHeartbeats 8000000 in
theorem stores_main (hs : SlR OpR w 9 A n ops) (hc : n ≤ c) (hn : n ≤ 24) : Calls Tryz.prog 4 #[.slice A n c] w fun e w' => e = .returned (.bool true) ∧ Below w.heap.size w w' := by
  have cA := awake_any (w := w)
  have HS0 := Lib.hid hs
  clear hs
  go_enter Tryz.func4, Tryz.ntmps4
  go_wp2_with fail
  refine cA.mono ?_
  rintro e w1 ⟨rfl, hb1⟩
  have HB1 := Lib.hid hb1
  have HS := Lib.hid (HS0.out.keep hb1.size (keep_below hb1) OpR.keep)
  have cO := open_any (w := w1)
  clear hb1 cA HS0
  go_wp2_with fail
  refine cO.mono ?_
  rintro e w2 ⟨L, rfl, h2, hb2⟩
  have H2 := Lib.hid h2
  have HB2 := Lib.hid hb2
  clear h2 hb2 cO
  go_wp2_with fail
  go_loopw [30] (fun i wr => ∃ (j k : Nat) (L' : LP), i = .int .i64 (j : Int) ∧ j ≤ n ∧ k ≤ j ∧ L'.p = L.p ∧ LW wr w1.heap.size L' k (St.new.play 255 (ops.take j)).m (St.new.play 255 (ops.take j)).cs (St.new.play 255 (ops.take j)).xs ∧ Below w1.heap.size w1 wr) (fun i _ => n - (intOf i).toNat)
  case atStart => exact ⟨0, 0, L, rfl, Nat.zero_le _, Nat.le_refl _, rfl, H2.out, HB2.out⟩
  case round =>
    obtain ⟨j, k, L', rfl, hj, hkj, hlp, hlw, hbw⟩ := hrel
    have hlen : (St.new.play 255 (ops.take j)).cs.length ≤ 0 + (ops.take j).length ∧ (St.new.play 255 (ops.take j)).xs.length ≤ 0 + (ops.take j).length := St.play_len 255 (ops.take j) St.new
    have hto : (ops.take j).length ≤ j := List.length_take_le _ _
    have hci : CardsI (St.new.play 255 (ops.take j)).cs := CardsI.play 255 (ops.take j) St.new CardsI.nil
    have HL := Lib.hid hlw
    have HBW := Lib.hid hbw
    have HLP := Lib.hid hlp
    have HLN : Hid ((St.new.play 255 (ops.take j)).cs.length ≤ 24 ∧ (St.new.play 255 (ops.take j)).xs.length ≤ 24) := Lib.hid (by omega)
    have HCI := Lib.hid hci
    clear hlw hbw hlp hlen hto hci
    by_cases hlt : j < n
    · obtain ⟨b, o, x, r, rfl, hbl, hx, hr, ⟨hrc, hok⟩, hcell⟩ := HS.out.get hlt
      have cell : ∀ q v, r[q]? = some v → wr.cell? ⟨b, o + j * 9 + q, none⟩ = some v := fun q v hv => (HBW.out.cell (p := ⟨b, o + j * 9 + q, none⟩) hbl).trans (hcell q v hv)
      rw [hrc] at cell
      have c0 : wr.cell? ⟨b, o + j * 9, none⟩ = some (.int .u8 x.k) := cell 0 _ rfl
      have c1 : wr.cell? ⟨b, o + j * 9 + 1, none⟩ = some (.int .i64 x.h.k) := cell 1 _ rfl
      have c2 : wr.cell? ⟨b, o + j * 9 + 2, none⟩ = some (.int .i64 x.h.c) := cell 2 _ rfl
      have c3 : wr.cell? ⟨b, o + j * 9 + 3, none⟩ = some (.int .i64 x.h.f) := cell 3 _ rfl
      have c4 : wr.cell? ⟨b, o + j * 9 + 4, none⟩ = some (.int .i64 x.a) := cell 4 _ rfl
      have c5 : wr.cell? ⟨b, o + j * 9 + 5, none⟩ = some (.int .i64 x.b) := cell 5 _ rfl
      have c6 : wr.cell? ⟨b, o + j * 9 + 6, none⟩ = some (.int .i64 x.i) := cell 6 _ rfl
      have c7 : wr.cell? ⟨b, o + j * 9 + 7, none⟩ = some (.int .u64 x.w) := cell 7 _ rfl
      have c8 : wr.cell? ⟨b, o + j * 9 + 8, none⟩ = some (.bool x.r) := cell 8 _ rfl
      have hk2 : x.k ≤ 255 := hok.k1
      have HT : Hid (St.new.play 255 (ops.take (j + 1)) = (St.new.play 255 (ops.take j)).step x) := Lib.hid (by
        have hj2 : j < ops.length := by rw [HS.out.1]; exact hlt
        have e : ops.take (j + 1) = ops.take j ++ [x] := by
          rw [List.take_add_one, hx]
          rfl
        rw [e, St.play_snoc, if_pos hk2])
      have HOK := Lib.hid hok
      have HC2 := Lib.hid (HCI.out.step x)
      clear cell hrc hcell hx hr hok hk2
      go_upto_region 9 with fail
      have hb3 : Below wr.heap.size wr (wr.alloc (.cells #[.int .u8 x.k, .int .i64 x.h.k, .int .i64 x.h.c, .int .i64 x.h.f, .int .i64 x.a, .int .i64 x.b, .int .i64 x.i, .int .u64 x.w, .bool x.r] 53)) := (Below.refl _ wr).alloc (Nat.le_refl _) _
      have H3 := Lib.hid (HL.out.below hb3)
      have HB3 := Lib.hid (HBW.out.trans (hb3.mono HBW.out.size))
      have HX : Hid (Bk (wr.alloc (.cells #[.int .u8 x.k, .int .i64 x.h.k, .int .i64 x.h.c, .int .i64 x.h.f, .int .i64 x.a, .int .i64 x.b, .int .i64 x.i, .int .u64 x.w, .bool x.r] 53)) wr.heap.size 53 #[.int .u8 x.k, .int .i64 x.h.k, .int .i64 x.h.c, .int .i64 x.h.f, .int .i64 x.a, .int .i64 x.b, .int .i64 x.i, .int .u64 x.w, .bool x.r]) := Lib.hid (Bk.here _ _ _ rfl)
      clear hb3 c0 c1 c2 c3 c4 c5 c6 c7 c8
      generalize wr.alloc (.cells #[.int .u8 x.k, .int .i64 x.h.k, .int .i64 x.h.c, .int .i64 x.h.f, .int .i64 x.a, .int .i64 x.b, .int .i64 x.i, .int .u64 x.w, .bool x.r] 53) = w3 at H3 HB3 HX ⊢
      generalize wr.heap.size = bx at HX ⊢

      refine wp_region_first 2 (fun i => ([[], []] : List (List Nat)).getD i []) (EL [Ent.val (.pointer (some ⟨L.p, 0, none⟩)), Ent.val (.agg #[.int .u8 x.k, .int .i64 x.h.k, .int .i64 x.h.c, .int .i64 x.h.f, .int .i64 x.a, .int .i64 x.b, .int .i64 x.i, .int .u64 x.w, .bool x.r])]) rfl (by kernel_rfl) (by kernel_rfl) (by kernel_rfl) (by rfl) ?_ ?_
      · intro i hi o ho vs w4 hb1 hgr
        rcases (show i = 0 ∨ i = 1 by omega) with rfl | rfl <;> cases ho
        · clear hgr
          change Made _ (Adds _ _ _) (Sem.run _ (execOp (Act.eval (frm _ _ _ [])) _) _)
          simp only [frm]
          go_simp
          exact adds_val rfl
        · clear hgr
          change Made _ (Adds _ _ _) (Sem.run _ (execOp (Act.eval (frm _ _ _ [])) _) _)
          simp only [frm]
          have hbk := HX.out.below hb1 HX.out.lt
          have c0 : w4.cell? ⟨bx, 0, none⟩ = some (.int .u8 x.k) := hbk.cell 0
          have c1 : w4.cell? ⟨bx, 1, none⟩ = some (.int .i64 x.h.k) := hbk.cell 1
          have c2 : w4.cell? ⟨bx, 2, none⟩ = some (.int .i64 x.h.c) := hbk.cell 2
          have c3 : w4.cell? ⟨bx, 3, none⟩ = some (.int .i64 x.h.f) := hbk.cell 3
          have c4 : w4.cell? ⟨bx, 4, none⟩ = some (.int .i64 x.a) := hbk.cell 4
          have c5 : w4.cell? ⟨bx, 5, none⟩ = some (.int .i64 x.b) := hbk.cell 5
          have c6 : w4.cell? ⟨bx, 6, none⟩ = some (.int .i64 x.i) := hbk.cell 6
          have c7 : w4.cell? ⟨bx, 7, none⟩ = some (.int .u64 x.w) := hbk.cell 7
          have c8 : w4.cell? ⟨bx, 8, none⟩ = some (.bool x.r) := hbk.cell 8
          clear hbk
          go_simp
          exact adds_val rfl
      · intro vs w4 hb1 hall hap
        have h0 : vs 0 = _ := (hall 0 (by omega)).1
        have h1 : vs 1 = _ := (hall 1 (by omega)).1
        clear hall hap
        change wpList _ _ _ [_] (Act.put (Act.put (frm _ _ _ []) (some 35) (vs 1)) (some 34) (vs 0)) _
        simp only [frm, h0, h1]
        have H4 := Lib.hid (H3.out.below hb1)
        have HB4 := Lib.hid (HB3.out.trans (hb1.mono HB3.out.size))
        have cS := step_any H4.out (Nat.le_trans HLN.out.2 (by decide)) (Nat.le_trans HLN.out.1 (by decide)) (by omega) HB4.out.size x HOK.out
        rw [HLP.out] at cS
        unfold OpV.cells at cS
        clear hb1
        go_wp2_with fail
        refine cS.mono ?_
        rintro e w5 ⟨rfl, ⟨L3, hs2, h5⟩, hb5⟩
        obtain ⟨s2, hs2e⟩ : ∃ s2, s2 = (St.new.play 255 (ops.take j)).step x := ⟨_, rfl⟩
        rw [← hs2e] at h5
        have HCI2 : Hid (CardsI s2.cs) := Lib.hid (hs2e ▸ HC2.out)
        have HT2 : Hid (St.new.play 255 (ops.take (j + 1)) = s2) := Lib.hid (hs2e ▸ HT.out)
        have HLN2 : Hid (s2.cs.length ≤ 24) := Lib.hid (by
          have := (St.play_len 255 (ops.take (j + 1)) St.new).1
          rw [HT2.out] at this
          have h0 : St.new.cs.length = 0 := rfl
          have h1 : (ops.take (j + 1)).length ≤ j + 1 := List.length_take_le _ _
          omega)
        have hp3 : L3.p = L.p := hs2.1.trans HLP.out
        have HP3 := Lib.hid hp3
        have hbk := h5.hd
        rw [hp3] at hbk
        have HK := Lib.hid hbk
        have H5 := Lib.hid h5
        have HB5 := Lib.hid (HB4.out.trans (hb5.mono (Nat.le_refl _)))
        clear hs2 h5 hb5 hs2e hp3 hbk cS HT HC2
        go_wp2_with fail
        simp only [normalTo]
        refine phase2_adds 3 17 (fun i => ([[], [], [0, 1], [2], [3], [4], [4, 5], [4, 6], [4, 7], [4, 8], [4], [4, 10], [4, 11], [4, 12], [4, 13], [4, 9, 14], [4, 15]] : List (List Nat)).getD i []) (EL [Ent.val (.pointer (some ⟨L.p, 0, none⟩)), Ent.val (.agg #[.int .u8 x.k, .int .i64 x.h.k, .int .i64 x.h.c, .int .i64 x.h.f, .int .i64 x.a, .int .i64 x.b, .int .i64 x.i, .int .u64 x.w, .bool x.r]), Ent.val (.bool true), Ent.val (.bool false), Ent.val (.bool false), Ent.val (.pointer (some ⟨L.p, 0, none⟩)), Ent.val (.pointer (some ⟨L.p, 0, none⟩)), Ent.val (.pointer (some ⟨L.p, 2, none⟩)), Ent.val (.pointer (some ⟨L3.gt, 0, none⟩)), Ent.of (SliceT s2.cs) SliceT.below, Ent.val (.pointer (some ⟨L.p, 0, none⟩)), Ent.val (.pointer (some ⟨L.p, 0, none⟩)), Ent.val (.pointer (some ⟨L.p, 9, none⟩)), Ent.val (.pointer (some ⟨L.p, 9, none⟩)), Ent.val (.slice L3.Ac s2.cs.length L3.cc), Ent.val (.bool true), Ent.val (.bool false)]) (by kernel_rfl) ?_ (by omega) (by kernel_rfl) (by rfl) ?_ ?_ ?_
        · intro i hmi hi o ho g b hgb vs v w6 hR
          rcases (show i = 3 ∨ i = 4 ∨ i = 5 ∨ i = 6 ∨ i = 7 ∨ i = 8 ∨ i = 9 ∨ i = 10 ∨ i = 11 ∨ i = 12 ∨ i = 13 ∨ i = 14 ∨ i = 15 ∨ i = 16 by omega) with rfl | rfl | rfl | rfl | rfl | rfl | rfl | rfl | rfl | rfl | rfl | rfl | rfl | rfl <;> cases ho <;> first | (cases hgb; exact hR) | cases hgb
        · intro i hi
          rcases (show i = 0 ∨ i = 1 ∨ i = 2 by omega) with rfl | rfl | rfl <;> exact ⟨rfl, fun _ => rfl⟩
        · intro i hmi hi o ho vs w6 hb1 hgr
          rcases (show i = 3 ∨ i = 4 ∨ i = 5 ∨ i = 6 ∨ i = 7 ∨ i = 8 ∨ i = 9 ∨ i = 10 ∨ i = 11 ∨ i = 12 ∨ i = 13 ∨ i = 14 ∨ i = 15 ∨ i = 16 by omega) with rfl | rfl | rfl | rfl | rfl | rfl | rfl | rfl | rfl | rfl | rfl | rfl | rfl | rfl <;> cases ho
          · have h2 : vs 2 = _ := hgr 2 (by decide)
            clear hgr
            change Made _ (Adds _ _ _) (Sem.run _ (execOp (Act.eval (Act.put (frm _ _ _ []) (some 36) (vs 2))) _) _)
            simp only [frm, h2]
            go_simp
            exact adds_val rfl
          · have h3 : vs 3 = _ := hgr 3 (by decide)
            clear hgr
            change Made _ (Adds _ _ _) (Sem.run _ (execOp (Act.eval (Act.put (frm _ _ _ []) (some 37) (vs 3))) _) _)
            simp only [frm, h3]
            go_simp
            exact adds_val rfl
          · have h4 : vs 4 = _ := hgr 4 (by decide)
            clear hgr
            change Made _ (Adds _ _ _) (Sem.run _ (execOp (Act.eval (Act.put (frm _ _ _ []) (some 38) (vs 4))) _) _)
            simp only [frm, h4]
            go_simp
            exact adds_val rfl
          · have h4 : vs 4 = _ := hgr 4 (by decide)
            have h5 : vs 5 = _ := hgr 5 (by decide)
            clear hgr
            change Made _ (Adds _ _ _) (Sem.run _ (execOp (Act.eval (Act.put (Act.put (frm _ _ _ []) (some 39) (vs 5)) (some 38) (vs 4))) _) _)
            simp only [frm, h4, h5]
            go_simp
            exact adds_val rfl
          · have h4 : vs 4 = _ := hgr 4 (by decide)
            have h6 : vs 6 = _ := hgr 6 (by decide)
            clear hgr
            change Made _ (Adds _ _ _) (Sem.run _ (execOp (Act.eval (Act.put (Act.put (frm _ _ _ []) (some 40) (vs 6)) (some 38) (vs 4))) _) _)
            simp only [frm, h4, h6]
            go_simp
            exact adds_val rfl
          · have h4 : vs 4 = _ := hgr 4 (by decide)
            have h7 : vs 7 = _ := hgr 7 (by decide)
            clear hgr
            change Made _ (Adds _ _ _) (Sem.run _ (execOp (Act.eval (Act.put (Act.put (frm _ _ _ []) (some 41) (vs 7)) (some 38) (vs 4))) _) _)
            simp only [frm, h4, h7]
            have hbk := HK.out.below hb1 HK.out.lt
            have c0 : w6.cell? ⟨L.p, 2, none⟩ = some (.pointer (some ⟨L3.gt, 0, none⟩)) := hbk.cell 2
            clear hbk
            go_simp
            exact adds_val rfl
          · have h4 : vs 4 = _ := hgr 4 (by decide)
            have h8 : vs 8 = _ := hgr 8 (by decide)
            clear hgr
            change Made _ (Adds _ _ _) (Sem.run _ (execOp (Act.eval (Act.put (Act.put (frm _ _ _ []) (some 42) (vs 8)) (some 38) (vs 4))) _) _)
            simp only [frm, h4, h8]
            have cM := Cards_any (H5.out.below hb1).tr HCI2.out.1 HCI2.out.wf (by have := HLN2.out; omega)
            go_simp
            exact adds_call (T := SliceT s2.cs) (hT := SliceT.below) (ob := fun _ => none) cM fun e w2 ⟨v, he, ho, hb⟩ => ⟨v, he, SliceT.own ho, hb, (fun k hk => nomatch hk)⟩
          · have h4 : vs 4 = _ := hgr 4 (by decide)
            clear hgr
            change Made _ (Adds _ _ _) (Sem.run _ (execOp (Act.eval (Act.put (frm _ _ _ []) (some 38) (vs 4))) _) _)
            simp only [frm, h4]
            go_simp
            exact adds_val rfl
          · have h4 : vs 4 = _ := hgr 4 (by decide)
            have h10 : vs 10 = _ := hgr 10 (by decide)
            clear hgr
            change Made _ (Adds _ _ _) (Sem.run _ (execOp (Act.eval (Act.put (Act.put (frm _ _ _ []) (some 44) (vs 10)) (some 38) (vs 4))) _) _)
            simp only [frm, h4, h10]
            go_simp
            exact adds_val rfl
          · have h4 : vs 4 = _ := hgr 4 (by decide)
            have h11 : vs 11 = _ := hgr 11 (by decide)
            clear hgr
            change Made _ (Adds _ _ _) (Sem.run _ (execOp (Act.eval (Act.put (Act.put (frm _ _ _ []) (some 45) (vs 11)) (some 38) (vs 4))) _) _)
            simp only [frm, h4, h11]
            go_simp
            exact adds_val rfl
          · have h4 : vs 4 = _ := hgr 4 (by decide)
            have h12 : vs 12 = _ := hgr 12 (by decide)
            clear hgr
            change Made _ (Adds _ _ _) (Sem.run _ (execOp (Act.eval (Act.put (Act.put (frm _ _ _ []) (some 46) (vs 12)) (some 38) (vs 4))) _) _)
            simp only [frm, h4, h12]
            go_simp
            exact adds_val rfl
          · have h4 : vs 4 = _ := hgr 4 (by decide)
            have h13 : vs 13 = _ := hgr 13 (by decide)
            clear hgr
            change Made _ (Adds _ _ _) (Sem.run _ (execOp (Act.eval (Act.put (Act.put (frm _ _ _ []) (some 47) (vs 13)) (some 38) (vs 4))) _) _)
            simp only [frm, h4, h13]
            have hbk := HK.out.below hb1 HK.out.lt
            have c0 : w6.cell? ⟨L.p, 9, none⟩ = some (.slice L3.Ac s2.cs.length L3.cc) := hbk.cell 9
            clear hbk
            go_simp
            exact adds_val rfl
          · have h4 : vs 4 = _ := hgr 4 (by decide)
            obtain ⟨A9, c9, h9, l9, s9⟩ := hgr 9 (by decide)
            have h14 : vs 14 = _ := hgr 14 (by decide)
            clear hgr
            change Made _ (Adds _ _ _) (Sem.run _ (execOp (Act.eval (Act.put (Act.put (Act.put (frm _ _ _ []) (some 48) (vs 14)) (some 43) (vs 9)) (some 38) (vs 4))) _) _)
            simp only [frm, h4, h9, h14]
            have hrc := (H5.out.below hb1).rc
            have cM := Same_any s2.cs s2.cs A9 L3.Ac c9 L3.cc w6 (by have := HLN2.out; omega) l9 hrc.s.cap s9 hrc.s.sl
            rw [show eqL s2.cs s2.cs = true from decide_eq_true rfl] at cM
            go_simp
            exact adds_quiet cM
          · have h4 : vs 4 = _ := hgr 4 (by decide)
            have h15 : vs 15 = _ := hgr 15 (by decide)
            clear hgr
            change Made _ (Adds _ _ _) (Sem.run _ (execOp (Act.eval (Act.put (Act.put (frm _ _ _ []) (some 49) (vs 15)) (some 38) (vs 4))) _) _)
            simp only [frm, h4, h15]
            go_simp
            exact adds_val rfl
        · intro vs w6 hb1 hall hap
          have h4 : vs 4 = _ := (hall 4 (by omega)).1
          have h16 : vs 16 = _ := (hall 16 (by omega)).1
          clear hall hap
          change wpList _ _ _ [_] (Act.put (Act.put (Act.put (Act.put (Act.put (Act.put (Act.put (Act.put (Act.put (Act.put (Act.put (Act.put (Act.put (Act.put (Act.put (Act.put (Act.put (frm _ _ _ []) (some 50) (vs 16)) (some 49) (vs 15)) (some 48) (vs 14)) (some 47) (vs 13)) (some 46) (vs 12)) (some 45) (vs 11)) (some 44) (vs 10)) (some 43) (vs 9)) (some 42) (vs 8)) (some 41) (vs 7)) (some 40) (vs 6)) (some 39) (vs 5)) (some 38) (vs 4)) (some 37) (vs 3)) (some 36) (vs 2)) (some 35) (vs 1)) (some 34) (vs 0)) _
          simp only [frm, h4, h16]
          have H6 := Lib.hid (H5.out.below hb1)
          have HB6 := Lib.hid (HB5.out.trans (hb1.mono HB5.out.size))
          clear hb1
          go_wp2_with fail
          go_roundw
          case rel => exact ⟨j + 1, k + 1, L3, by go_num, by omega, by omega, HP3.out, by rw [HT2.out]; exact H6.out, HB6.out⟩
          case measure => simp [intOf]; omega
    · obtain rfl : n = j := by omega
      generalize St.new.play 255 (ops.take n) = s at *
      have HBK := Lib.hid (HLP.out ▸ HL.out.hd)
      clear HB2 H2
      go_wp2_with fail
      have hb3 : Below wr.heap.size wr (wr.alloc (.cells #[.int .i64 0, .int .i64 16777216] 3)) := (Below.refl _ wr).alloc (Nat.le_refl _) _
      have H3 := Lib.hid (HL.out.below hb3)
      have HB3 := Lib.hid (HBW.out.trans (hb3.mono HBW.out.size))
      have HX : Hid (Bk (wr.alloc (.cells #[.int .i64 0, .int .i64 16777216] 3)) wr.heap.size 3 #[.int .i64 0, .int .i64 16777216]) := Lib.hid (Bk.here _ _ _ rfl)
      have HBK3 := Lib.hid (HBK.out.below hb3 HBK.out.lt)
      clear hb3 HL HBW HBK
      generalize wr.alloc (.cells #[.int .i64 0, .int .i64 16777216] 3) = w3 at H3 HB3 HX HBK3 ⊢
      generalize wr.heap.size = gb at HX ⊢
      go_loopw [55] (fun i_ wz => ∃ j : Nat, i_ = .int .i64 (j : Int) ∧ j ≤ 2 ∧ Hid (LW wz w1.heap.size L' k s.m s.cs s.xs) ∧ Hid (Below w1.heap.size w1 wz) ∧ Hid (Bk wz gb 3 #[.int .i64 0, .int .i64 16777216]) ∧ Hid (Bk wz L.p 41 (L'.cells s.m s.cs s.xs))) (fun i_ _ => 2 - (intOf i_).toNat)
      case atStart => exact ⟨0, rfl, by omega, H3, HB3, HX, HBK3⟩
      case round =>
        obtain ⟨j, rfl, hj2, HZ, HBZ, HXZ, HKZ⟩ := hrel
        by_cases hlt2 : j < 2
        · have hj3 : (j : Int) < 2 := by omega
          obtain ⟨base, hba, hbb, e1⟩ : ∃ base : Int, 0 ≤ base ∧ base ≤ 16777216 ∧ wr.cell? ⟨gb, j, none⟩ = some (.int .i64 base) := by
            rcases (show j = 0 ∨ j = 1 by omega) with rfl | rfl
            · exact ⟨0, by omega, by omega, HXZ.out.cell 0⟩
            · exact ⟨16777216, by omega, by omega, HXZ.out.cell 1⟩
          go_wp2_with fail
          clear e1
          go_loopw [59] (fun i_ wz => ∃ q : Nat, i_ = .int .i64 (q : Int) ∧ q ≤ 60 ∧ Hid (LW wz w1.heap.size L' k s.m s.cs s.xs) ∧ Hid (Below w1.heap.size w1 wz) ∧ Hid (Bk wz gb 3 #[.int .i64 0, .int .i64 16777216]) ∧ Hid (Bk wz L.p 41 (L'.cells s.m s.cs s.xs))) (fun i_ _ => 60 - (intOf i_).toNat)
          case atStart => exact ⟨0, rfl, by omega, HZ, HBZ, HXZ, HKZ⟩
          case round =>
            clear HZ HBZ HXZ HKZ
            obtain ⟨q, rfl, hq, HZ, HBZ, HXZ, HKZ⟩ := hrel
            by_cases hlq : q < 60
            · have hq3 : (q : Int) < 60 := by omega
              have q0 : wr.cell? ⟨L.p, 0, none⟩ = some (.pointer (some ⟨L'.g1, 0, none⟩)) := HKZ.out.cell 0
              have q1 : wr.cell? ⟨L.p, 1, none⟩ = some (.pointer (some ⟨L'.g2, 0, none⟩)) := HKZ.out.cell 1
              have cM := MLoad_any HZ.out.mr (base + q)
              unfold memV at cM
              go_wp2_with fail
              refine cM.mono ?_
              rintro e w4 ⟨rfl, hb4⟩
              have H4 := Lib.hid (HZ.out.below hb4)
              have HB4 := Lib.hid (HBZ.out.trans (hb4.mono HBZ.out.size))
              have HX4 := Lib.hid (HXZ.out.below hb4 HXZ.out.lt)
              have HK4 := Lib.hid (HKZ.out.below hb4 HKZ.out.lt)
              clear hb4 cM q0 q1
              have q3 : w4.cell? ⟨L.p, 3, none⟩ = some (.int .i64 s.m.old.base) := HK4.out.cell 3
              have q4 : w4.cell? ⟨L.p, 4, none⟩ = some (.int .i64 s.m.old.limit) := HK4.out.cell 4
              have q5 : w4.cell? ⟨L.p, 5, none⟩ = some (.slice L'.A1 s.m.old.ws.length L'.c1) := HK4.out.cell 5
              have q6 : w4.cell? ⟨L.p, 6, none⟩ = some (.int .i64 s.m.yng.base) := HK4.out.cell 6
              have q7 : w4.cell? ⟨L.p, 7, none⟩ = some (.int .i64 s.m.yng.limit) := HK4.out.cell 7
              have q8 : w4.cell? ⟨L.p, 8, none⟩ = some (.slice L'.A2 s.m.yng.ws.length L'.c2) := HK4.out.cell 8
              have cR := RLoad_any H4.out.rm (base + q)
              unfold rmV at cR
              obtain ⟨v, er, hv⟩ : ∃ v er, atV (s.m.at_ (base + q)) = .tuple #[.int .u64 v, .int .i64 er] := by
                unfold atV
                split
                · exact ⟨_, _, rfl⟩
                · exact ⟨_, _, rfl⟩
              rw [hv] at cR ⊢
              clear hv
              go_wp2_with fail
              refine cR.mono ?_
              rintro e w5 ⟨rfl, hb5⟩
              have H5 := Lib.hid (H4.out.below hb5)
              have HB5 := Lib.hid (HB4.out.trans (hb5.mono HB4.out.size))
              have HX5 := Lib.hid (HX4.out.below hb5 HX4.out.lt)
              have HK5 := Lib.hid (HK4.out.below hb5 HK4.out.lt)
              clear hb5 cR q3 q4 q5 q6 q7 q8
              go_wp2_with fail
              go_roundw
              case rel => exact ⟨q + 1, by go_num, by omega, H5, HB5, HX5, HK5⟩
              case measure => simp [intOf]; omega
            · obtain rfl : q = 60 := by omega
              go_wp2_with fail
              go_roundw
              case rel => exact ⟨j + 1, by go_num, by omega, HZ, HBZ, HXZ, HKZ⟩
              case measure => simp [intOf]; omega
        · go_wp2_with fail
          go_ret
          exact ⟨rfl, HB1.out.trans (HBZ.out.mono HB1.out.size)⟩
theorem stores_any (hs : SlR OpR w 9 A n ops) (hc : n ≤ c) (hb : n ≤ 140737488351232) : Calls Tryz.prog 4 #[.slice A n c] w fun e w' => e = .returned (.bool true) ∧ Below w.heap.size w w' := by
  by_cases hn : 24 < n
  · exact stores_big hn hb
  · exact stores_main hs hc (by omega)
end
end Go.Proofs.YtaecdpijpdfboaaGreat
namespace Go.Proofs.YtaecdpijpdfboaaGreat
set_option linter.unusedVariables false
set_option linter.unusedSimpArgs false
set_option linter.unusedSectionVars false
open Go.ChangeShapes Go.WideShapes Go.ChangeAt Go.RowKit

set_option maxRecDepth 100000 in
theorem bStores_lifted (os : Os) (started : os.Started) (H : Type) (enc : TypeId × Value → H) :
    ReturnsInHanded {} Tryz.checked os 4 .any (Rows.barrierStoresSpec.pre6 enc Tryz.prog Tryz.f4 Rows.barrierStoresRow.domain false)
      (Rows.barrierStoresSpec.post enc Tryz.prog Tryz.f4 false true false false) := by
  refine returnsInHanded_of_change_shaped (C := Tryz.checked) own started (by kernel_rfl) Tryz.func4
    (ChangeSpec.witness6 (enc := enc) (C := Tryz.checked) false ⟨#[], #[.slice none 0 0], []⟩ 8 (by kernel_rfl) (by kernel_rfl) (by kernel_rfl) (by kernel_rfl)) ?_
  intro W base args ds gs before hval0 hW _ hwt _ _
  have hval : ∀ (j : Nat) t v, Tryz.f4.params[j]? = some t → args[j]? = some v → Value.okWide Tryz.prog W .any base t v := hval0
  have hW' := hW
  obtain ⟨p, q, hA0, hV, rfl, hfz, hnd⟩ := hW
  have hA : DataW.TrodAll enc Tryz.prog W 0 (fun _ => true) true Tryz.f4.params.toList args.toList ds p := hA0
  rw [Tryz.params4] at hA hval
  obtain ⟨v0, d0, rfl, rfl, h0⟩ := trodAll_one hA
  obtain ⟨rfl, rfl⟩ := trodVars_none hV
  have k0 := h0
  have lt0 : ∀ x ∈ p, x.block < W.heap.size := by obtain ⟨m, hm⟩ := k0; exact DataW.trod_lt m _ _ _ hm
  have g0 : Wgt Tryz.prog 22 d0 := wgt_of hwt (j := 0) (by rw [Tryz.params4]; rfl) rfl
  obtain ⟨A, n, c, ops, rfl, hc, hnb, hs⟩ := open_ops (hval 0 22 v0 rfl rfl) h0 g0
  clear hA0 hval0
  have fin : Calls Tryz.prog 4 #[.slice A n c] W fun e w' => e = .returned (.bool true) ∧ Below W.heap.size W w' := by
    exact stores_any hs hc (by omega)
  refine fin.mono fun e W' ⟨he, bel⟩ => ?_
  subst he
  exact ⟨_, rfl, _, _, _, [], _, [], hW', trodAll_mk1 (shut_bool Tryz.underlying4 _), (trodAll_cons_mk (Below.trod laidOut (by kernel_rfl) (of_decide_eq_true (by kernel_rfl)) k0 bel lt0) trodAll_mk0), rfl, bel.frame _, fun h => by cases h⟩

theorem bStores_holds : Rows.BarrierStoresSaid :=
  OpenClaim.holds_of_wide 4 Tryz.f4 rfl rfl rfl rfl rfl rfl rfl ⟨rfl, rfl, rfl, rfl, rfl⟩ rfl rfl rfl rfl rfl (by kernel_rfl) Tryz.func4 (by kernel_rfl)
    (of_decide_eq_true (by kernel_rfl)) (by unfold Func.isWrapper; first | (rw [if_pos (by decide +kernel)]; kernel_rfl) | (rw [if_neg (by decide +kernel)]; exact ⟨rfl, rfl⟩))
    (fun os started H enc _ => bStores_lifted os started H enc)
#print axioms bStores_holds
end Go.Proofs.YtaecdpijpdfboaaGreat
