/- BarrierOrder: the crossing slots are old addresses in increasing order, each holds a young reference, and the remembered ones are among them. (printed by gen/order.py) -/
import Derived.Test.YtaecdpijpdfboaaAwake9
import Derived.Test.YtaecdpijpdfboaaStepA
import Derived.Test.YtaecdpijpdfboaaOrderP
import Derived.Test.YtaecdpijpdfboaaSepG
namespace Go.Proofs.Ytaecdpijpdfboaa
set_option linter.unusedVariables false
set_option linter.unusedSimpArgs false
set_option linter.unusedSectionVars false
open Go.RowKit Go.Sort Go.Shelf
attribute [local go_sem] Oper.semAt_some onlyN_normal
set_option maxRecDepth 100000

section
variable {w : World} {ops : List OpV} {A : Option Addr} {n c : Nat}
set_option maxHeartbeats 4000000 in
theorem order_big (hn : 24 < n) (hb : n ≤ 140737488351232) : Calls Try.prog 6 #[.slice A n c] w fun e w' => e = .returned (.bool true) ∧ Below w.heap.size w w' := by
  have cA := fun w => awake_any (w := w)
  go_enter Try.func6, Try.ntmps6
  go_wp2_with fail
  refine (cA _).mono ?_
  rintro e w1 ⟨rfl, hb1⟩
  have HB1 := Lib.hid hb1
  clear hb1
  go_wp2_with fail
  refine (cA _).mono ?_
  rintro e w2 ⟨rfl, hb2⟩
  have HB2 := Lib.hid (HB1.out.trans (hb2.mono HB1.out.size))
  clear hb2
  go_wp2_with fail
  go_ret
  exact ⟨rfl, HB2.out⟩
set_option maxHeartbeats 4000000 in
theorem order_main (hs : SlR OpR w 9 A n ops) (hc : n ≤ c) (hn : n ≤ 24) : Calls Try.prog 6 #[.slice A n c] w fun e w' => e = .returned (.bool true) ∧ Below w.heap.size w w' := by
  have cA := awake_any (w := w)
  have cP := fun {w1 : World} (hb : Below w.heap.size w w1) => play255_any (hs.keep hb.size (keep_below hb) OpR.keep) hc hn
  obtain ⟨s, hst⟩ : ∃ s, s = St.new.play 255 ops := ⟨_, rfl⟩
  rw [← hst] at cP
  have hmm := @run_makeMap Try.prog
  clear hs hst
  go_enter Try.func6, Try.ntmps6
  go_wp2_with fail
  refine cA.mono ?_
  rintro e w1 ⟨rfl, hb1⟩
  have HB1 := Lib.hid hb1
  have cP := cP hb1
  clear hb1 cA
  go_wp2_with fail
  refine cP.mono ?_
  rintro e w2 ⟨L, k, rfl, hk, h2, hb2⟩
  have HB2 := Lib.hid (HB1.out.trans (hb2.mono HB1.out.size))
  have q1 : w2.cell? ⟨L.p, 0, none⟩ = some (.pointer (some ⟨L.g1, 0, none⟩)) := h2.hd.cell 0
  have q2 : w2.cell? ⟨L.p, 1, none⟩ = some (.pointer (some ⟨L.g2, 0, none⟩)) := h2.hd.cell 1
  have cC := Crossing_any h2.mr
  have OK := Lib.hid h2.mr.ok
  have H2 := Lib.hid h2
  obtain ⟨cr, hcr⟩ : ∃ cr, cr = s.m.crossing fun _ => true := ⟨_, rfl⟩
  have HCR := Lib.hid hcr
  rw [← hcr] at cC
  have hlen := OK.out.crossing_len2 fun _ => true
  rw [← hcr] at hlen
  clear h2 hb2 hk cP hcr
  go_wp2_with fail
  refine cC.mono ?_
  rintro e w3 ⟨v, rfl, hown, hb⟩
  obtain ⟨A3, c3, rfl, hlc⟩ := own_shape hown
  have HSL3 := Lib.hid (own_sl hown)
  have HB3 := Lib.hid (HB2.out.trans (hb.mono HB2.out.size))
  have H3 := Lib.hid (H2.out.below hb)
  clear hb hown cC q1 q2
  go_wp2_with fail
  have HM4 : Hid (MapT Try.prog 3 4 (w3.alloc (.map #[] 0)) w3.heap.size 0 (fun _ => false)) := Lib.hid (MapT.made _ _ _ _)
  have hb4 : Below w3.heap.size w3 (w3.alloc (.map #[] 0)) := (Below.refl _ _).alloc (Nat.le_refl _) _
  have HB4 := Lib.hid hb4
  clear hb4
  generalize w3.alloc (.map #[] 0) = w4 at *
  go_loopw [36] (fun i_ wr => ∃ j : Nat, i_ = .int .i64 (j : Int) ∧ j ≤ cr.length ∧ Hid (MapT Try.prog 3 4 wr w3.heap.size j (fun x => (cr.take j).contains x)) ∧ Hid (Below w3.heap.size w3 wr)) (fun i_ _ => cr.length - (intOf i_).toNat)
  case atStart => exact ⟨0, rfl, Nat.zero_le _, HM4, HB4⟩
  case round =>
    obtain ⟨j, rfl, hj, HM, HB⟩ := hrel
    by_cases hlt : j < cr.length
    · obtain ⟨b, o, rfl, hbl, hcell⟩ := HSL3.out.get hlt
      have hx : cr[j]? = some cr[j] := List.getElem?_eq_getElem hlt
      have hmem : cr[j] ∈ cr := List.getElem_mem hlt
      have e1 : wr.cell? ⟨b, o + j, none⟩ = some (.int .i64 cr[j]) := (HB.out.cell (p := ⟨b, o + j, none⟩) hbl).trans (hcell j _ (by simp [ints, hx]))
      have hinc := OK.out.crossing_inc fun _ => true
      rw [← HCR.out] at hinc
      have e0 : 0 < j → ∃ y, w3.cell? ⟨b, o + (j - 1), none⟩ = some (.int .i64 y) ∧ y < cr[j] := fun h0 => by
        have hlt1 : j - 1 < cr.length := by omega
        refine ⟨cr[j - 1], hcell (j - 1) _ (by simp [ints, List.getElem?_eq_getElem hlt1]), ?_⟩
        exact (List.pairwise_iff_getElem.1 hinc) (j - 1) j hlt1 hlt (by omega)
      have hT : cr.take (j + 1) = cr.take j ++ [cr[j]] := by rw [List.take_add_one, hx]; rfl
      generalize cr[j] = a at *
      obtain ⟨⟨x, hax, hxu, hxy⟩, hold, hu1, hu2⟩ := OK.out.crossing_all (HCR.out ▸ hmem)
      clear hu1 hu2
      have hjc : j < c3 := by omega
      have hjl : (j : Int) < 536870912 := by omega
      have h5 := H3.out.below HB.out
      have H5 := Lib.hid h5
      have cL := MLoad_any h5.mr a
      rw [hax] at cL
      unfold atV memV at cL
      have cY := fun w => Young_any hxu w
      rw [hxy] at cY
      have q0 : wr.cell? ⟨L.p, 0, none⟩ = some (.pointer (some ⟨L.g1, 0, none⟩)) := h5.hd.cell 0
      have q1 : wr.cell? ⟨L.p, 1, none⟩ = some (.pointer (some ⟨L.g2, 0, none⟩)) := h5.hd.cell 1
      have HX := Lib.hid hx
      have HT := Lib.hid hT
      have HLX := Lib.hid hold
      have HHB := Lib.hid (H3.out.mr.ok.old_lt hold)
      have HE0 := Lib.hid e0
      have HCC := Lib.hid hcell
      clear hx hmem hinc hT hax hxu hxy hold e0 h5 hcell
      go_wp2_with fail
      refine cL.mono ?_
      rintro e w6 ⟨rfl, hb6⟩
      have HB6 := Lib.hid (HB.out.trans (hb6.mono HB.out.size))
      have HM6 := Lib.hid (HM.out.block (hb6.block _ HM.out.lt))
      have h6 := H5.out.below hb6
      have H6 := Lib.hid h6
      have r0 : w6.cell? ⟨L.p, 0, none⟩ = some (.pointer (some ⟨L.g1, 0, none⟩)) := h6.hd.cell 0
      clear hb6 h6 cL q0 q1 e1
      go_wp2_with fail
      refine (cY _).mono ?_
      rintro e w7 ⟨rfl, rfl⟩
      clear cY
      go_wp2_with fail
      have cO := Contains_any H6.out.mr.o a
      rw [HLX.out] at cO
      refine cO.mono ?_
      rintro e w8 ⟨rfl, hb8⟩
      have HB8 := Lib.hid (HB6.out.trans (hb8.mono HB6.out.size))
      have HM8 := Lib.hid (HM6.out.block (hb8.block _ HM6.out.lt))
      have hb68 := hb8
      have HW : Hid ((Lit.int .i64 a).wf = true) := Lib.hid (WalkArith.wf_i64 (by have := HHB.out; omega))
      have HLE : Hid (∀ z v, w6.cell? ⟨b, z, none⟩ = some v → w8.cell? ⟨b, z, none⟩ = some v) := Lib.hid (fun z v hv => (hb68.cell (p := ⟨b, z, none⟩) (cell_lt hv)).trans hv)
      clear hb8 hb68 cO r0
      have HLM : Hid (j < maxLen) := Lib.hid (by unfold maxLen; omega)
      by_cases hj0 : 0 < j
      · obtain ⟨y, hy, hya⟩ := HE0.out hj0
        have e2 : w8.cell? ⟨b, o + (j - 1), none⟩ = some (.int .i64 y) := (HB8.out.cell (p := ⟨b, o + (j - 1), none⟩) hbl).trans hy
        have hj1 : (0 : Int) < (j : Int) := by omega
        have hj2 : j - 1 < c3 := by omega
        have hyn : ¬ (a ≤ y) := by omega
        have hd0 : decide (0 < j) = true := decide_eq_true hj0
        have hd1 : decide ((0 : Int) < (j : Int)) = true := decide_eq_true hj1
        clear hy hlen
        simp only []
        go_at_K
        go_wp2_with (at_mapUpdate; refine wpList_set_put Try.underlying3 Try.underlying4 Try.underlying54 rfl (m := .tmp 80) (x := .tmp 81) (v := .const (.bool true)) rfl HM8.out HLM.out rfl rfl rfl HW.out ?_; intro w9 hm9 hg9; have HM9 := Lib.hid hm9; have HG9 := Lib.hid hg9; clear hm9 hg9)
        go_roundw
        case rel => exact ⟨j + 1, by go_num, by omega, Lib.hid (HM9.out.congr fun z _ => by rw [HT.out]; unfold insB; by_cases hz : z = a <;> simp [hz]), Lib.hid ((Below.refl _ _).trans (HB8.out.grown HG9.out HB8.out.size (fun k hk => by simp at hk; omega)))⟩
        case measure => simp [intOf]; omega
      · have hj1 : ¬ ((0 : Int) < (j : Int)) := by omega
        have hd0 : decide (0 < j) = false := decide_eq_false hj0
        have hd1 : decide ((0 : Int) < (j : Int)) = false := decide_eq_false hj1
        clear hlen
        simp only []
        go_at_K
        go_wp2_with (at_mapUpdate; refine wpList_set_put Try.underlying3 Try.underlying4 Try.underlying54 rfl (m := .tmp 80) (x := .tmp 81) (v := .const (.bool true)) rfl HM8.out HLM.out rfl rfl rfl HW.out ?_; intro w9 hm9 hg9; have HM9 := Lib.hid hm9; have HG9 := Lib.hid hg9; clear hm9 hg9)
        go_roundw
        case rel => exact ⟨j + 1, by go_num, by omega, Lib.hid (HM9.out.congr fun z _ => by rw [HT.out]; unfold insB; by_cases hz : z = a <;> simp [hz]), Lib.hid ((Below.refl _ _).trans (HB8.out.grown HG9.out HB8.out.size (fun k hk => by simp at hk; omega)))⟩
        case measure => simp [intOf]; omega
    · obtain rfl : j = cr.length := by omega
      have hTK : cr.take cr.length = cr := List.take_length
      rw [hTK] at HM
      have h5 := H3.out.below HB.out
      have HP5 : Hid (Bk wr L.p 41 (L.cells s.m s.cs s.xs)) := Lib.hid h5.hd
      have H5 := Lib.hid h5
      have HB5 := Lib.hid (HB3.out.trans (HB.out.mono HB3.out.size))
      have hge : ¬ ((cr.length : Int) < (cr.length : Int)) := Int.lt_irrefl _
      obtain ⟨R, hR⟩ : ∃ R, R = s.m.crossing (cardIn s.cs) := ⟨_, rfl⟩
      have HR := Lib.hid hR
      have HRL : Hid (R.length ≤ 536870912) := Lib.hid (by rw [hR]; exact OK.out.crossing_len2 _)
      clear h5 hTK hlt hR hlen
      go_wp2_with fail

      refine wp_region_all 11 (fun i => ([[], [0], [1], [2], [], [4], [5], [6], [3, 7], [8], []] : List (List Nat)).getD i []) (EL [Ent.val (.pointer (some ⟨L.p, 0, none⟩)), Ent.val (.pointer (some ⟨L.p, 0, none⟩)), Ent.val (.pointer (some ⟨L.p, 0, none⟩)), Ent.val (.agg #[.pointer (some ⟨L.g1, 0, none⟩), .pointer (some ⟨L.g2, 0, none⟩)]), Ent.val (.pointer (some ⟨L.p, 0, none⟩)), Ent.val (.pointer (some ⟨L.p, 0, none⟩)), Ent.val (.pointer (some ⟨L.p, 2, none⟩)), Ent.val (.pointer (some ⟨L.gt, 0, none⟩)), Ent.of (SliceT R) SliceT.below, Ent.val (.int .i64 (R.length : Int)), Ent.val (.int .i64 0)]) rfl (by kernel_rfl) (by rfl) (by kernel_rfl) (by kernel_rfl) (by rfl) ?_ ?_
      · intro i hi o ho vs w7 hb1 hgr
        rcases (show i = 0 ∨ i = 1 ∨ i = 2 ∨ i = 3 ∨ i = 4 ∨ i = 5 ∨ i = 6 ∨ i = 7 ∨ i = 8 ∨ i = 9 ∨ i = 10 by omega) with rfl | rfl | rfl | rfl | rfl | rfl | rfl | rfl | rfl | rfl | rfl <;> cases ho
        · clear hgr
          change Made _ (Adds _ _ _) (Sem.run _ (execOp (Act.eval (frm _ _ _ [])) _) _)
          simp only [frm]
          go_simp
          exact adds_val rfl
        · have h0 : vs 0 = _ := hgr 0 (by decide)
          clear hgr
          change Made _ (Adds _ _ _) (Sem.run _ (execOp (Act.eval (Act.put (frm _ _ _ []) (some 83) (vs 0))) _) _)
          simp only [frm, h0]
          go_simp
          exact adds_val rfl
        · have h1 : vs 1 = _ := hgr 1 (by decide)
          clear hgr
          change Made _ (Adds _ _ _) (Sem.run _ (execOp (Act.eval (Act.put (frm _ _ _ []) (some 84) (vs 1))) _) _)
          simp only [frm, h1]
          go_simp
          exact adds_val rfl
        · have h2 : vs 2 = _ := hgr 2 (by decide)
          clear hgr
          change Made _ (Adds _ _ _) (Sem.run _ (execOp (Act.eval (Act.put (frm _ _ _ []) (some 85) (vs 2))) _) _)
          simp only [frm, h2]
          have hbk := HP5.out.below hb1 HP5.out.lt
          have c0 : w7.cell? ⟨L.p, 0, none⟩ = some (.pointer (some ⟨L.g1, 0, none⟩)) := hbk.cell 0
          have c1 : w7.cell? ⟨L.p, 1, none⟩ = some (.pointer (some ⟨L.g2, 0, none⟩)) := hbk.cell 1
          clear hbk
          go_simp
          exact adds_val rfl
        · clear hgr
          change Made _ (Adds _ _ _) (Sem.run _ (execOp (Act.eval (frm _ _ _ [])) _) _)
          simp only [frm]
          go_simp
          exact adds_val rfl
        · have h4 : vs 4 = _ := hgr 4 (by decide)
          clear hgr
          change Made _ (Adds _ _ _) (Sem.run _ (execOp (Act.eval (Act.put (frm _ _ _ []) (some 87) (vs 4))) _) _)
          simp only [frm, h4]
          go_simp
          exact adds_val rfl
        · have h5 : vs 5 = _ := hgr 5 (by decide)
          clear hgr
          change Made _ (Adds _ _ _) (Sem.run _ (execOp (Act.eval (Act.put (frm _ _ _ []) (some 88) (vs 5))) _) _)
          simp only [frm, h5]
          go_simp
          exact adds_val rfl
        · have h6 : vs 6 = _ := hgr 6 (by decide)
          clear hgr
          change Made _ (Adds _ _ _) (Sem.run _ (execOp (Act.eval (Act.put (frm _ _ _ []) (some 89) (vs 6))) _) _)
          simp only [frm, h6]
          have hbk := HP5.out.below hb1 HP5.out.lt
          have c0 : w7.cell? ⟨L.p, 2, none⟩ = some (.pointer (some ⟨L.gt, 0, none⟩)) := hbk.cell 2
          clear hbk
          go_simp
          exact adds_val rfl
        · have h3 : vs 3 = _ := hgr 3 (by decide)
          have h7 : vs 7 = _ := hgr 7 (by decide)
          clear hgr
          change Made _ (Adds _ _ _) (Sem.run _ (execOp (Act.eval (Act.put (Act.put (frm _ _ _ []) (some 90) (vs 7)) (some 86) (vs 3))) _) _)
          simp only [frm, h3, h7]
          have cM := Remembered_any (H5.out.below hb1).mr (H5.out.below hb1).tr
          rw [← HR.out] at cM
          go_simp
          exact adds_call (T := SliceT R) (hT := SliceT.below) (ob := fun _ => none) cM fun e w2 ⟨v, he, ho, hb⟩ => ⟨v, he, SliceT.own ho, hb, (fun k hk => nomatch hk)⟩
        · obtain ⟨A8, c8, h8, l8, s8⟩ := hgr 8 (by decide)
          clear hgr
          change Made _ (Adds _ _ _) (Sem.run _ (execOp (Act.eval (Act.put (frm _ _ _ []) (some 91) (vs 8))) _) _)
          simp only [frm, h8]
          go_simp
          exact adds_val rfl
        · clear hgr
          change Made _ (Adds _ _ _) (Sem.run _ (execOp (Act.eval (frm _ _ _ [])) _) _)
          simp only [frm]
          go_simp
          exact adds_val rfl
      · intro vs w7 hb1 hall hap
        obtain ⟨A8, c8, h8, l8, s8⟩ := (hall 8 (by omega)).1
        have h9 : vs 9 = _ := (hall 9 (by omega)).1
        have h10 : vs 10 = _ := (hall 10 (by omega)).1
        clear hall hap
        change wpList _ _ _ [] (Act.put (Act.put (Act.put (Act.put (Act.put (Act.put (Act.put (Act.put (Act.put (Act.put (Act.put (frm _ _ _ []) (some 93) (vs 10)) (some 92) (vs 9)) (some 91) (vs 8)) (some 90) (vs 7)) (some 89) (vs 6)) (some 88) (vs 5)) (some 87) (vs 4)) (some 86) (vs 3)) (some 85) (vs 2)) (some 84) (vs 1)) (some 83) (vs 0)) _
        simp only [frm, h8, h9, h10]
        have HB7 := Lib.hid (HB5.out.trans (hb1.mono HB5.out.size))
        have HM7 := Lib.hid (HM.out.block (hb1.block _ HM.out.lt))
        have h7 := H5.out.below hb1
        have cK := fun a => Marked_any h7.tr a
        have q1 : w7.cell? ⟨L.p, 2, none⟩ = some (.pointer (some ⟨L.gt, 0, none⟩)) := h7.hd.cell 2
        have HS := Lib.hid s8
        have HL := Lib.hid l8
        clear hb1 s8 l8 h7 h8 h9 h10
        go_wp2_with fail
        simp only [Act.put, List.setIfInBounds_toArray, List.set_cons_succ, List.set_cons_zero]
        go_loopw [93] (fun i_ wz => ∃ q : Nat, i_ = .int .i64 (q : Int) ∧ q ≤ R.length ∧ wz = w7) (fun i_ _ => R.length - (intOf i_).toNat)
        case atStart => exact ⟨0, rfl, Nat.zero_le _, rfl⟩
        case round =>
          obtain ⟨q, rfl, hq, rfl⟩ := hrel
          have hrl := HRL.out
          have HLo := HL.out
          by_cases hlt : q < R.length
          · obtain ⟨bb, oo, rfl, hb1, hc1⟩ := HS.out.get hlt
            have e1 := hc1 q (.int .i64 R[q]) (by simp [ints, hlt])
            have hm : R[q] ∈ s.m.crossing (cardIn s.cs) := HR.out ▸ List.getElem_mem hlt
            generalize R[q] = a at *
            obtain ⟨_, hold, hp, hall⟩ := OK.out.crossing_all hm
            have hab := OK.out.old_lt hold
            have hl := HM7.out.look Try.underlying3 Try.underlying4 Try.underlying54 zero_bool (x := a) (WalkArith.wf_i64 (by omega))
            rw [show cr.contains a = true by rw [HCR.out]; simpa using hall] at hl
            have cK := cK a
            rw [hp] at cK
            have hcc : q < c8 := Nat.lt_of_lt_of_le hlt HLo
            clear hc1 hm hold hp hall hab
            go_wp2_with fail
            refine cK.mono ?_
            rintro e w9 ⟨rfl, rfl⟩
            clear cK
            go_wp2_with fail
            go_roundw
            case rel => exact ⟨q + 1, by go_num, by omega, trivial⟩
            case measure => simp [intOf]; omega
          · go_wp2_with fail
            go_ret
            exact ⟨rfl, HB7.out⟩
theorem order_any (hs : SlR OpR w 9 A n ops) (hc : n ≤ c) (hb : n ≤ 140737488351232) : Calls Try.prog 6 #[.slice A n c] w fun e w' => e = .returned (.bool true) ∧ Below w.heap.size w w' := by
  by_cases hn : 24 < n
  · exact order_big hn hb
  · exact order_main hs hc (by omega)
end
end Go.Proofs.Ytaecdpijpdfboaa
