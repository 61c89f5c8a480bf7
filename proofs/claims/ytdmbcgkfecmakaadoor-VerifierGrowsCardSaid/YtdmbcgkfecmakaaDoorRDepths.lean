/- refmeshref43.Depths. -/
import Derived.Test.YtdmbcgkfecmakaaDoorReg22
namespace Go.Proofs.YtdmbcgkfecmakaaDoor
set_option linter.unusedVariables false
set_option linter.unusedSimpArgs false
set_option linter.unusedSectionVars false
open Go.RowKit Go.Maps Go.Deep
set_option maxRecDepth 100000

section
variable {w : World} {v0 v1 v2 v4 : Value} {A : Option Addr} {len cap : Nat}

set_option maxHeartbeats 4000000 in
theorem RDepths_any (c : List Ins) (hc : c.length = len) (hl : len ≤ 10000) (hw : ∀ x ∈ c, (Lit.int .i64 x.1).wf = true ∧ (Lit.int .i64 x.2.1).wf = true ∧ (Lit.int .i64 x.2.2).wf = true) (hcode : Sl w 3 A len (codeCells c)) :
    Calls Tryd.prog 19 #[.agg #[v0, v1, v2, .slice A len cap, v4]] w (RDPost w len c) := by
  have hmk := run_make_row' (P := Tryd.prog) 28 3 (.int .i64 0) 8 Tryd.underlying28 Tryd.info3 rfl .i64 .i64 len (by omega) (by omega)
  rcases Nat.eq_zero_or_pos len with h0 | h0
  · subst h0
    have hz : ∀ D, ¬ Good c D := fun D hD => by
      have := hD.lt hD.1
      omega
    simp only [Int.natCast_zero] at hmk
    go_enter Tryd.func19, Tryd.ntmps19
    go_wp2
    go_ret2
    exact RDPost.no (((Below.refl _ _).alloc (Nat.le_refl _) _).alloc (by simp) _) hz
  · have hl0 : ((len : Int) == 0) = false := by simp; omega
    have HC := Lib.hid hc
    have HS := Lib.hid (RInv.start c (by omega))
    have hR0 : RW w ((w.alloc (.cells #[v0, v1, v2, .slice A len cap, v4] 25)).alloc (.cells (madeCells #[.int .i64 0] len) 3)) w.heap.size v0 v1 v2 v4 A len cap (fillF 1) := by
      refine ⟨?_, (Bk.new _ _ _).alloc _, ((Below.refl _ _).alloc (Nat.le_refl _) _).alloc (by simp) _, by simp⟩
      have := World.rowIs_made (w.alloc (.cells #[v0, v1, v2, .slice A len cap, v4] 25)) (.int .i64 0) len 3
      rw [World.size_alloc] at this
      exact this.congr fun i hi => by
        unfold fillF
        by_cases h1 : i = 0
        · simp [h1]
        · simp [h1]
    have HR0 := Lib.hid hR0
    clear hR0 hc
    go_enter Tryd.func19, Tryd.ntmps19
    go_wp2
    go_loopw [5] (fun i wr => ∃ k : Nat, i = .int .i64 (k : Int) ∧ 1 ≤ k ∧ k ≤ len ∧ RW w wr w.heap.size v0 v1 v2 v4 A len cap (fillF k)) (fun i _ => len - (intOf i).toNat)
    case atStart => exact ⟨1, rfl, Nat.le_refl _, h0, HR0.out⟩
    case round =>
      obtain ⟨k, rfl, hk1, hk, hR⟩ := hrel
      by_cases hlt : k < len
      · have cw : wr.cell? ⟨w.heap.size + 1, k, none⟩ = some (fillF k k) := hR.row.cell hlt
        have fw : wr.frozen? ⟨w.heap.size + 1, k, none⟩ = false := hR.row.frozen k
        have HR := Lib.hid hR
        clear hR
        go_wp2
        go_roundw
        case rel =>
          refine ⟨k + 1, by go_num, by omega, by omega, HR.out.set k _ fun j hj => ?_⟩
          unfold fillF
          by_cases h1 : j = k
          · rw [if_pos h1, if_neg (by omega), if_pos (by omega)]
          · rw [if_neg h1]
            by_cases h2 : j = 0
            · rw [if_pos h2, if_pos h2]
            · rw [if_neg h2, if_neg h2]
              by_cases h3 : j < k
              · rw [if_pos h3, if_pos (by omega)]
              · rw [if_neg h3, if_neg (by omega)]
        case measure => simp [intOf]; omega
      · obtain rfl : len = k := by omega
        have hR1 : RW w wr w.heap.size v0 v1 v2 v4 A len cap (rowG (upd (fun _ => none) 0 0)) := ⟨hR.row.congr fun j hj => by
          unfold fillF rowG
          by_cases h1 : j = 0
          · simp [h1, upd]
          · simp [h1, upd, hj], hR.box, hR.bel, hR.sz⟩
        have HR1 := Lib.hid hR1
        clear hR hR1 HR0
        go_wp2
        go_loopg [6] (len + 1) (fun q ch wr => ∃ b g, ch = .bool b ∧ RInv c g ∧ RW w wr w.heap.size v0 v1 v2 v4 A len cap (rowG g) ∧ (b = false → Good c g) ∧ len - card g len + (if b then 1 else 0) ≤ q)
        case atStart => exact ⟨true, _, rfl, HS.out, HR1.out, fun h => (by cases h), by simp⟩
        case round =>
          obtain ⟨bb, g, rfl, hinv, hR, hgood, hq⟩ := hrel
          cases bb with
          | false =>
            have HG := Lib.hid (And.intro hinv (And.intro hR (hgood rfl)))
            clear hinv hR hgood hq
            go_wp2
            go_ret2
            exact ⟨g, true, HG.out.2.1.bel, fun h => (by cases h), fun _ => ⟨HG.out.2.2, HG.out.1.forced, HG.out.1.dom, _, _, rfl, by omega, Nat.le_refl _, HG.out.2.1.sl⟩⟩
          | true =>
            have HI := Lib.hid hinv
            have HR2 := Lib.hid hR
            have HQ := Lib.hid hq
            clear hinv hR hgood hq
            obtain ⟨qo, hqo⟩ : ∃ qo, qo = gk := ⟨gk, rfl⟩
            subst hqo
            go_wp2
            go_loopg [6, 7] (len) (fun q ch i wr => ∃ b g' k, ch = .bool b ∧ i = .int .i64 (k : Nat) ∧ k + q = len ∧ Sweep c g g' b k ∧ RW w wr w.heap.size v0 v1 v2 v4 A len cap (rowG g'))
            case atStart => exact ⟨false, g, 0, rfl, rfl, by omega, Sweep.start HI.out, HR2.out⟩
            case round =>
              obtain ⟨ch, g', k, rfl, rfl, hkq, hsw, hR⟩ := hrel
              cases gk with
              | zero =>
                obtain rfl : k = len := hkq
                have HSW := Lib.hid hsw
                have HR3 := Lib.hid hR
                clear hsw hR
                go_wp2_with fail
                go_roundg (k - card g' k + (if ch then 1 else 0))
                case measure =>
                  have h1 := HSW.out.cle
                  have h2 := HSW.out.more
                  have h3 := HQ.out
                  have h4 := card_le g' k
                  rw [HC.out] at h1 h2
                  simp at h3
                  cases ch with
                  | true => have := h2 rfl; simp; omega
                  | false => simp; omega
                case rel =>
                  refine ⟨ch, g', rfl, HSW.out.inv, HR3.out, fun hch => ?_, Nat.le_refl _⟩
                  subst hch
                  have := HSW.out
                  rw [← HC.out] at this
                  exact this.fin
              | succ q =>
                have hkl : k < len := by omega
                have cr : wr.cell? ⟨w.heap.size + 1, k, none⟩ = some (rowG g' k) := hR.row.cell hkl
                cases hgk : g' k with
                | none =>
                  have e : rowG g' k = .int .i64 (-1) := by simp [rowG, hgk]
                  rw [e] at cr
                  have HSW := Lib.hid hsw
                  have HR3 := Lib.hid hR
                  have HGK := Lib.hid hgk
                  clear hsw hR hgk e
                  go_wp2_with fail
                  go_roundg q
                  case measure => omega
                  case rel => exact ⟨ch, g', k + 1, rfl, by go_num, by omega, HSW.out.skip HGK.out, HR3.out⟩
                | some d =>
                  have e : rowG g' k = .int .i64 d := by simp [rowG, hgk]
                  have hd := (hsw.inv.dom k d hgk).2
                  have d0 := hd.1
                  have d1 := hd.2
                  have hdn : ¬ d < 0 := by omega
                  rw [e] at cr
                  obtain ⟨x, hx⟩ : ∃ x, c[k]? = some x := ⟨_, List.getElem?_eq_getElem (by rw [HC.out]; exact hkl)⟩
                  obtain ⟨hx0, hx1, hx2⟩ := codeCells_get c k x hx
                  obtain ⟨cb, co, rfl, hbl, hcc⟩ := hcode.get hkl
                  have x0 : w.cell? ⟨cb, co + k * 3, none⟩ = some (.int .i64 x.1) := hcc _ _ hx0
                  have x1 : w.cell? ⟨cb, co + k * 3 + 1, none⟩ = some (.int .i64 x.2.1) := hcc _ _ hx1
                  have x2 : w.cell? ⟨cb, co + k * 3 + 2, none⟩ = some (.int .i64 x.2.2) := hcc _ _ hx2
                  have z0 := (hR.bel.cell (p := ⟨cb, co + k * 3, none⟩) hbl).trans x0
                  have z1 := (hR.bel.cell (p := ⟨cb, co + k * 3 + 1, none⟩) hbl).trans x1
                  have z2 := (hR.bel.cell (p := ⟨cb, co + k * 3 + 2, none⟩) hbl).trans x2
                  have cbx : wr.cell? ⟨w.heap.size, 3, none⟩ = some (.slice (some ⟨cb, co, none⟩) len cap) := hR.box.cell 3
                  have hp := iP_bounds x
                  have q0 : 0 ≤ popsI x.1 x.2.1 x.2.2 := hp.1
                  have q1 : popsI x.1 x.2.1 x.2.2 ≤ 32 := hp.2.1
                  have q2 : 0 ≤ pushesI x.1 x.2.1 x.2.2 := hp.2.2.1
                  have q3 : pushesI x.1 x.2.1 x.2.2 ≤ 1 := hp.2.2.2
                  have HRK := Lib.hid e
                  have HSW := Lib.hid hsw
                  have HR3 := Lib.hid hR
                  have HGK := Lib.hid hgk
                  have HX := Lib.hid hx
                  clear hsw hR hgk e hx hx0 hx1 hx2 hcc hp hd hcode
                  by_cases hbad : iV x = false ∨ d < iP x ∨ 64 < d - iP x + iU x
                  · have HBAD := Lib.hid (HSW.out.inv.bad HGK.out HX.out hbad)
                    rcases hbad with hv | hv | hv
                    · have hv' : validB x.1 x.2.1 x.2.2 = false := hv
                      clear hv
                      go_wp2_with (first | (go_at_call 34; refine (REffect_any _ _ _ _).mono ?_; rintro e w2 ⟨rfl, hb2⟩; have hr2 := HR3.out.below hb2; have cb2 : w2.cell? ⟨w.heap.size, 3, none⟩ = some (.slice (some ⟨cb, co, none⟩) len cap) := hr2.box.cell 3; have a0 := (hr2.bel.cell (p := ⟨cb, co + k * 3, none⟩) hbl).trans x0; have a1 := (hr2.bel.cell (p := ⟨cb, co + k * 3 + 1, none⟩) hbl).trans x1; have a2 := (hr2.bel.cell (p := ⟨cb, co + k * 3 + 2, none⟩) hbl).trans x2) | (go_at_call 37; refine (RValid_any _ _ _ _).mono ?_; rintro e w3 ⟨rfl, hb3⟩; have hr3 := hr2.below hb3; have cr3 : w3.cell? ⟨w.heap.size + 1, k, none⟩ = some (.int .i64 d) := (hr3.row.cell hkl).trans (congrArg some HRK.out); have cb3 : w3.cell? ⟨w.heap.size, 3, none⟩ = some (.slice (some ⟨cb, co, none⟩) len cap) := hr3.box.cell 3; have k0 := (hr3.bel.cell (p := ⟨cb, co + k * 3, none⟩) hbl).trans x0; have k1 := (hr3.bel.cell (p := ⟨cb, co + k * 3 + 1, none⟩) hbl).trans x1; have k2 := (hr3.bel.cell (p := ⟨cb, co + k * 3 + 2, none⟩) hbl).trans x2))
                      go_ret2
                      exact RDPost.no hr3.bel HBAD.out
                    · by_cases hvv : validB x.1 x.2.1 x.2.2 = true
                      · have hv' : d < popsI x.1 x.2.1 x.2.2 := hv
                        clear hv
                        go_wp2_with (first | (go_at_call 34; refine (REffect_any _ _ _ _).mono ?_; rintro e w2 ⟨rfl, hb2⟩; have hr2 := HR3.out.below hb2; have cb2 : w2.cell? ⟨w.heap.size, 3, none⟩ = some (.slice (some ⟨cb, co, none⟩) len cap) := hr2.box.cell 3; have a0 := (hr2.bel.cell (p := ⟨cb, co + k * 3, none⟩) hbl).trans x0; have a1 := (hr2.bel.cell (p := ⟨cb, co + k * 3 + 1, none⟩) hbl).trans x1; have a2 := (hr2.bel.cell (p := ⟨cb, co + k * 3 + 2, none⟩) hbl).trans x2) | (go_at_call 37; refine (RValid_any _ _ _ _).mono ?_; rintro e w3 ⟨rfl, hb3⟩; have hr3 := hr2.below hb3; have cr3 : w3.cell? ⟨w.heap.size + 1, k, none⟩ = some (.int .i64 d) := (hr3.row.cell hkl).trans (congrArg some HRK.out); have cb3 : w3.cell? ⟨w.heap.size, 3, none⟩ = some (.slice (some ⟨cb, co, none⟩) len cap) := hr3.box.cell 3; have k0 := (hr3.bel.cell (p := ⟨cb, co + k * 3, none⟩) hbl).trans x0; have k1 := (hr3.bel.cell (p := ⟨cb, co + k * 3 + 1, none⟩) hbl).trans x1; have k2 := (hr3.bel.cell (p := ⟨cb, co + k * 3 + 2, none⟩) hbl).trans x2))
                        go_ret2
                        exact RDPost.no hr3.bel HBAD.out
                      · have hvv' : validB x.1 x.2.1 x.2.2 = false := by simpa using hvv
                        clear hvv hv
                        go_wp2_with (first | (go_at_call 34; refine (REffect_any _ _ _ _).mono ?_; rintro e w2 ⟨rfl, hb2⟩; have hr2 := HR3.out.below hb2; have cb2 : w2.cell? ⟨w.heap.size, 3, none⟩ = some (.slice (some ⟨cb, co, none⟩) len cap) := hr2.box.cell 3; have a0 := (hr2.bel.cell (p := ⟨cb, co + k * 3, none⟩) hbl).trans x0; have a1 := (hr2.bel.cell (p := ⟨cb, co + k * 3 + 1, none⟩) hbl).trans x1; have a2 := (hr2.bel.cell (p := ⟨cb, co + k * 3 + 2, none⟩) hbl).trans x2) | (go_at_call 37; refine (RValid_any _ _ _ _).mono ?_; rintro e w3 ⟨rfl, hb3⟩; have hr3 := hr2.below hb3; have cr3 : w3.cell? ⟨w.heap.size + 1, k, none⟩ = some (.int .i64 d) := (hr3.row.cell hkl).trans (congrArg some HRK.out); have cb3 : w3.cell? ⟨w.heap.size, 3, none⟩ = some (.slice (some ⟨cb, co, none⟩) len cap) := hr3.box.cell 3; have k0 := (hr3.bel.cell (p := ⟨cb, co + k * 3, none⟩) hbl).trans x0; have k1 := (hr3.bel.cell (p := ⟨cb, co + k * 3 + 1, none⟩) hbl).trans x1; have k2 := (hr3.bel.cell (p := ⟨cb, co + k * 3 + 2, none⟩) hbl).trans x2))
                        go_ret2
                        exact RDPost.no hr3.bel HBAD.out
                    · by_cases hvv : validB x.1 x.2.1 x.2.2 = true
                      · by_cases hpp : d < popsI x.1 x.2.1 x.2.2
                        · clear hv
                          go_wp2_with (first | (go_at_call 34; refine (REffect_any _ _ _ _).mono ?_; rintro e w2 ⟨rfl, hb2⟩; have hr2 := HR3.out.below hb2; have cb2 : w2.cell? ⟨w.heap.size, 3, none⟩ = some (.slice (some ⟨cb, co, none⟩) len cap) := hr2.box.cell 3; have a0 := (hr2.bel.cell (p := ⟨cb, co + k * 3, none⟩) hbl).trans x0; have a1 := (hr2.bel.cell (p := ⟨cb, co + k * 3 + 1, none⟩) hbl).trans x1; have a2 := (hr2.bel.cell (p := ⟨cb, co + k * 3 + 2, none⟩) hbl).trans x2) | (go_at_call 37; refine (RValid_any _ _ _ _).mono ?_; rintro e w3 ⟨rfl, hb3⟩; have hr3 := hr2.below hb3; have cr3 : w3.cell? ⟨w.heap.size + 1, k, none⟩ = some (.int .i64 d) := (hr3.row.cell hkl).trans (congrArg some HRK.out); have cb3 : w3.cell? ⟨w.heap.size, 3, none⟩ = some (.slice (some ⟨cb, co, none⟩) len cap) := hr3.box.cell 3; have k0 := (hr3.bel.cell (p := ⟨cb, co + k * 3, none⟩) hbl).trans x0; have k1 := (hr3.bel.cell (p := ⟨cb, co + k * 3 + 1, none⟩) hbl).trans x1; have k2 := (hr3.bel.cell (p := ⟨cb, co + k * 3 + 2, none⟩) hbl).trans x2))
                          go_ret2
                          exact RDPost.no hr3.bel HBAD.out
                        · have hv' : 64 < d - popsI x.1 x.2.1 x.2.2 + pushesI x.1 x.2.1 x.2.2 := hv
                          clear hv
                          go_wp2_with (first | (go_at_call 34; refine (REffect_any _ _ _ _).mono ?_; rintro e w2 ⟨rfl, hb2⟩; have hr2 := HR3.out.below hb2; have cb2 : w2.cell? ⟨w.heap.size, 3, none⟩ = some (.slice (some ⟨cb, co, none⟩) len cap) := hr2.box.cell 3; have a0 := (hr2.bel.cell (p := ⟨cb, co + k * 3, none⟩) hbl).trans x0; have a1 := (hr2.bel.cell (p := ⟨cb, co + k * 3 + 1, none⟩) hbl).trans x1; have a2 := (hr2.bel.cell (p := ⟨cb, co + k * 3 + 2, none⟩) hbl).trans x2) | (go_at_call 37; refine (RValid_any _ _ _ _).mono ?_; rintro e w3 ⟨rfl, hb3⟩; have hr3 := hr2.below hb3; have cr3 : w3.cell? ⟨w.heap.size + 1, k, none⟩ = some (.int .i64 d) := (hr3.row.cell hkl).trans (congrArg some HRK.out); have cb3 : w3.cell? ⟨w.heap.size, 3, none⟩ = some (.slice (some ⟨cb, co, none⟩) len cap) := hr3.box.cell 3; have k0 := (hr3.bel.cell (p := ⟨cb, co + k * 3, none⟩) hbl).trans x0; have k1 := (hr3.bel.cell (p := ⟨cb, co + k * 3 + 1, none⟩) hbl).trans x1; have k2 := (hr3.bel.cell (p := ⟨cb, co + k * 3 + 2, none⟩) hbl).trans x2))
                          go_ret2
                          exact RDPost.no hr3.bel HBAD.out
                      · have hvv' : validB x.1 x.2.1 x.2.2 = false := by simpa using hvv
                        clear hvv hv
                        go_wp2_with (first | (go_at_call 34; refine (REffect_any _ _ _ _).mono ?_; rintro e w2 ⟨rfl, hb2⟩; have hr2 := HR3.out.below hb2; have cb2 : w2.cell? ⟨w.heap.size, 3, none⟩ = some (.slice (some ⟨cb, co, none⟩) len cap) := hr2.box.cell 3; have a0 := (hr2.bel.cell (p := ⟨cb, co + k * 3, none⟩) hbl).trans x0; have a1 := (hr2.bel.cell (p := ⟨cb, co + k * 3 + 1, none⟩) hbl).trans x1; have a2 := (hr2.bel.cell (p := ⟨cb, co + k * 3 + 2, none⟩) hbl).trans x2) | (go_at_call 37; refine (RValid_any _ _ _ _).mono ?_; rintro e w3 ⟨rfl, hb3⟩; have hr3 := hr2.below hb3; have cr3 : w3.cell? ⟨w.heap.size + 1, k, none⟩ = some (.int .i64 d) := (hr3.row.cell hkl).trans (congrArg some HRK.out); have cb3 : w3.cell? ⟨w.heap.size, 3, none⟩ = some (.slice (some ⟨cb, co, none⟩) len cap) := hr3.box.cell 3; have k0 := (hr3.bel.cell (p := ⟨cb, co + k * 3, none⟩) hbl).trans x0; have k1 := (hr3.bel.cell (p := ⟨cb, co + k * 3 + 1, none⟩) hbl).trans x1; have k2 := (hr3.bel.cell (p := ⟨cb, co + k * 3 + 2, none⟩) hbl).trans x2))
                        go_ret2
                        exact RDPost.no hr3.bel HBAD.out
                  · have hvv : validB x.1 x.2.1 x.2.2 = true := by
                      cases hq : validB x.1 x.2.1 x.2.2 with
                      | true => rfl
                      | false => exact absurd (.inl hq) hbad
                    have hp1 : ¬ d < popsI x.1 x.2.1 x.2.2 := fun h => hbad (.inr (.inl h))
                    have hp2 : ¬ 64 < d - popsI x.1 x.2.1 x.2.2 + pushesI x.1 x.2.1 x.2.2 := fun h => hbad (.inr (.inr h))
                    clear hbad
                    go_wp2_with (first | (go_at_call 34; refine (REffect_any _ _ _ _).mono ?_; rintro e w2 ⟨rfl, hb2⟩; have hr2 := HR3.out.below hb2; have cb2 : w2.cell? ⟨w.heap.size, 3, none⟩ = some (.slice (some ⟨cb, co, none⟩) len cap) := hr2.box.cell 3; have a0 := (hr2.bel.cell (p := ⟨cb, co + k * 3, none⟩) hbl).trans x0; have a1 := (hr2.bel.cell (p := ⟨cb, co + k * 3 + 1, none⟩) hbl).trans x1; have a2 := (hr2.bel.cell (p := ⟨cb, co + k * 3 + 2, none⟩) hbl).trans x2) | (go_at_call 37; refine (RValid_any _ _ _ _).mono ?_; rintro e w3 ⟨rfl, hb3⟩; have hr3 := hr2.below hb3; have cr3 : w3.cell? ⟨w.heap.size + 1, k, none⟩ = some (.int .i64 d) := (hr3.row.cell hkl).trans (congrArg some HRK.out); have cb3 : w3.cell? ⟨w.heap.size, 3, none⟩ = some (.slice (some ⟨cb, co, none⟩) len cap) := hr3.box.cell 3; have k0 := (hr3.bel.cell (p := ⟨cb, co + k * 3, none⟩) hbl).trans x0; have k1 := (hr3.bel.cell (p := ⟨cb, co + k * 3 + 1, none⟩) hbl).trans x1; have k2 := (hr3.bel.cell (p := ⟨cb, co + k * 3 + 2, none⟩) hbl).trans x2) | (go_at_call 35; refine (RTargets_ex _ _ _ _ _ (by omega) (by omega)).mono ?_; rintro e w6 ⟨ts, HT, A6, c6, rfl, hc6, hs6, hb6, hA6⟩))
                    have hr6 := hr3.below hb6
                    have HR6 := Lib.hid hr6
                    have HS6 := Lib.hid hs6
                    have hlen2 : ts.length ≤ 2 := by rw [HT.out]; exact targetsI_len _ _ _ _
                    have hA7 : ∀ b o, A6 = some ⟨b, o, none⟩ → w.heap.size + 1 < b := fun b o h => by
                      have h1 := hA6 b o h
                      have h2 := hr3.row.lt
                      omega
                    have HA7 := Lib.hid hA7
                    have HC6 := Lib.hid hc6
                    have HKQ := Lib.hid hkq
                    have hg3 : RW w w6 w.heap.size v0 v1 v2 v4 (some ⟨cb, co, none⟩) len cap (rowG g') := hr6
                    have HK3 := Lib.hid (And.intro hvv (And.intro hp1 hp2))
                    clear hr6 hs6 hA6 hA7 hc6 hkq hb6 hg3 hr3 hb3 hr2 hb2 cb2 a0 a1 a2 cr3 cb3 k0 k1 k2 z0 z1 z2 cr cbx hvv HR3 hp1 hp2 hdn
                    obtain ⟨qi, hqi⟩ : ∃ qi, qi = q := ⟨q, rfl⟩
                    subst hqi
                    go_loopg [6, 11] (ts.length) (fun q ch2 i wr => ∃ b g2 j, ch2 = .bool b ∧ i = .int .i64 (j : Nat) ∧ j + q = ts.length ∧ Within c g g' g2 ch b k d x j ∧ RW w wr w.heap.size v0 v1 v2 v4 (some ⟨cb, co, none⟩) len cap (rowG g2) ∧ Sl wr 1 A6 ts.length (ints ts))
                    case atStart => exact ⟨ch, g', 0, rfl, rfl, by omega, Within.start x HSW.out HGK.out, HR6.out, HS6.out⟩
                    case round =>
                      obtain ⟨b2, g2, j, rfl, rfl, hjq, hwi, hR, hS⟩ := hrel
                      cases gk with
                      | zero =>
                        obtain rfl : j = ts.length := hjq
                        have HWI := Lib.hid hwi
                        have HR7 := Lib.hid hR
                        clear hwi hR hS
                        go_wp2_with fail
                        go_roundg qi
                        case measure => omega
                        case rel =>
                          refine ⟨b2, g2, k + 1, rfl, by go_num, by have := HKQ.out; omega, ?_, HR7.out⟩
                          have h1 := HK3.out
                          exact HWI.out.finish HSW.out (by rw [HT.out]; rfl) HX.out h1.1 h1.2.1 h1.2.2
                      | succ q =>
                        have hjl : j < ts.length := by omega
                        have hjl2 : (j : Int) < ts.length := by omega
                        obtain ⟨tb, tof, rfl, htb, htc⟩ := hS.get hjl
                        obtain ⟨t, ht⟩ : ∃ t, ts[j]? = some t := ⟨_, List.getElem?_eq_getElem hjl⟩
                        have ct : wr.cell? ⟨tb, tof + j, none⟩ = some (.int .i64 t) := htc j _ (by simp [ints, ht])
                        have hj6 : j < c6 := by have := HC6.out; omega
                        have htbn := HA7.out tb tof rfl
                        have htne : tb ≠ w.heap.size + 1 := by omega
                        have ht' : (iT x k)[j]? = some t := by rw [← ht, HT.out]; rfl
                        have htm : t ∈ iT x k := List.mem_of_getElem? ht'
                        have ck : wr.cell? ⟨w.heap.size + 1, k, none⟩ = some (.int .i64 d) := by
                          rw [hR.row.cell hkl]
                          simp [rowG, hwi.at_]
                        have HWI := Lib.hid hwi
                        have HR7 := Lib.hid hR
                        have HS7 := Lib.hid hS
                        have HTJ := Lib.hid ht'
                        have HTM := Lib.hid htm
                        clear hwi hR hS ht ht' htm htc htb
                        by_cases hneg : t < 0
                        · have HBAD := Lib.hid (HWI.out.inv.out HWI.out.at_ HX.out HTM.out (.inl hneg))
                          go_upto_region 22 with fail
                          refine reg22_neg hjl hj6 ct hneg ?_
                          intros
                          go_wp2
                          go_ret2
                          exact RDPost.no (below_drewN HR7.out.bel _) HBAD.out
                        · by_cases hbig : (len : Int) ≤ t
                          · have HBAD := Lib.hid (HWI.out.inv.out HWI.out.at_ HX.out HTM.out (.inr (by rw [HC.out]; exact hbig)))
                            go_upto_region 22 with fail
                            refine reg22_big hjl hj6 ct hneg hbig ?_
                            intros
                            go_wp2
                            go_ret2
                            exact RDPost.no (below_drewN HR7.out.bel _) HBAD.out
                          · obtain ⟨n, rfl⟩ := Int.eq_ofNat_of_zero_le (show 0 ≤ t by omega)
                            have hnl : n < len := by omega
                            have cn : wr.cell? ⟨w.heap.size + 1, n, none⟩ = some (rowG g2 n) := HR7.out.row.cell hnl
                            have fn : wr.frozen? ⟨w.heap.size + 1, n, none⟩ = false := HR7.out.row.frozen n
                            clear hneg hbig
                            cases hgn : g2 n with
                            | some was =>
                              have e : rowG g2 n = .int .i64 was := by simp [rowG, hgn]
                              have hw0 := (HWI.out.inv.dom n was hgn).2.1
                              have hwn : ¬ was < 0 := by omega
                              rw [e] at cn
                              by_cases heq : was = d - popsI x.1 x.2.1 x.2.2 + pushesI x.1 x.2.1 x.2.2
                              · have hb1 : (was != d - popsI x.1 x.2.1 x.2.2 + pushesI x.1 x.2.1 x.2.2) = false := by simp [heq]
                                have HGN := Lib.hid (hgn.trans (congrArg some heq))
                                clear hgn heq e
                                go_upto_region 22 with fail
                                refine reg22_eq hjl hj6 hnl ct cn hwn ck hkl d0 d1 q0 q1 q2 q3 hb1 ?_
                                intros
                                go_wp2
                                go_roundg q
                                case measure => omega
                                case rel => exact ⟨b2, g2, j + 1, rfl, by go_num, by omega, HWI.out.keep HTJ.out HGN.out, HR7.out.drewN _, HS7.out.drewN _⟩
                              · have hb1 : (was != d - popsI x.1 x.2.1 x.2.2 + pushesI x.1 x.2.1 x.2.2) = true := by simp [heq]
                                have HBAD := Lib.hid (HWI.out.inv.clash HWI.out.at_ HX.out HTM.out hgn heq)
                                clear hgn heq e
                                go_upto_region 22 with fail
                                refine reg22_ne hjl hj6 hnl ct cn hwn ck hkl d0 d1 q0 q1 q2 q3 hb1 ?_
                                intros
                                go_wp2
                                go_ret2
                                exact RDPost.no (below_drewN HR7.out.bel _) HBAD.out
                            | none =>
                              have e : rowG g2 n = .int .i64 (-1) := by simp [rowG, hgn]
                              rw [e] at cn
                              have HGN := Lib.hid hgn
                              clear hgn e
                              go_upto_region 22 with fail
                              refine reg22_none hjl hj6 hnl ct cn ?_
                              intros
                              go_upto_region 25 with fail
                              refine reg25_any hjl hj6 hnl ct cn fn ck hkl d0 d1 q0 q1 q2 q3 ?_
                              intros
                              go_wp2
                              go_roundg q
                              case measure => omega
                              case rel =>
                                have hle := HK3.out
                                refine ⟨true, _, j + 1, rfl, by go_num, by omega, HWI.out.new HX.out HTJ.out HGN.out (by rw [HC.out]; exact hnl) hle.2.1 hle.2.2, ((HR7.out.drewN _).set n _ fun i hi => ?_).drew, ?_⟩
                                · unfold rowG upd
                                  by_cases hin : i = n
                                  · subst hin; simp; rfl
                                  · simp [hin]
                                · refine ⟨HS7.out.1, .inr ⟨tb, tof, rfl, ?_, fun i y hy => ?_⟩⟩
                                  · have := cell_lt ct
                                    simpa [World.setCell] using this
                                  · rcases HS7.out.2 with h0 | ⟨b', o', hA', _, hc'⟩
                                    · omega
                                    · injection hA' with hA'
                                      injection hA' with e1 e2
                                      subst e1
                                      subst e2
                                      exact (World.cell?_setCell_other _ ⟨w.heap.size + 1, n, none⟩ ⟨tb, tof + i, none⟩ _ (by simp)).trans (hc' i y hy)
end
end Go.Proofs.YtdmbcgkfecmakaaDoor
