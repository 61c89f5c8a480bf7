/- Law 12: CompactionPlans. (printed by gen/plans.py) -/
import Derived.Test.YtjpaogapclfajaaGreatBa31
import Derived.Test.YtjpaogapclfajaaGreatBaRPl12
namespace Go.Proofs.YtjpaogapclfajaaGreat
set_option linter.unusedVariables false
set_option linter.unusedSimpArgs false
set_option linter.unusedSectionVars false
open Go.RowKit Go.Sort
attribute [local go_sem] Oper.semAt_some onlyN_normal
set_option maxRecDepth 100000
section
variable {w : World} {Al A1 A2 : Option Addr} {n cl n1 c1 n2 c2 : Nat}
theorem plans_big (h : ¬ (n ≤ 40 ∧ n1 ≤ 10 ∧ n2 ≤ 10)) : Calls Tryz.prog 6 #[.slice Al n cl, .slice A1 n1 c1, .slice A2 n2 c2] w fun e w' => e = .returned (.bool true) ∧ Below w.heap.size w w' := by
 have cF := few_any (w := w) (Al := Al) (A1 := A1) (A2 := A2) (n := n) (cl := cl) (n1 := n1) (c1 := c1) (n2 := n2) (c2 := c2)
 rw [decide_eq_false h] at cF
 have cA := awake12_any (w := w)
 clear h
 go_enter Tryz.func6, Tryz.ntmps6
 go_wp2_with fail
 refine cF.mono ?_
 rintro e w1 ⟨rfl, rfl⟩
 go_wp2_with fail
 refine cA.mono ?_
 rintro e w1 ⟨rfl, hb1⟩
 have HB1 := Lib.hid hb1
 clear hb1 cA cF
 go_wp2_with fail
 go_ret
 exact ⟨rfl, HB1.out⟩
end
section
variable {w : World} {l : List Op1} {Al : Option Addr} {cl : Nat} {ch wk : List Int} {A1c A2c : Option Addr} {c1 c2 : Nat}
set_option maxHeartbeats 16000000 in
theorem plans_main (hl : Op1s w Al l) (hcl : l.length ≤ cl) (hn : l.length ≤ 40) (h1 : IS w ch A1c c1) (hr1 : ∀ x ∈ ch, -9223372036854775808 ≤ x ∧ x ≤ 9223372036854775807) (hn1 : ch.length ≤ 10) (h2 : IS w wk A2c c2) (hr2 : ∀ x ∈ wk, -9223372036854775808 ≤ x ∧ x ≤ 9223372036854775807) (hn2 : wk.length ≤ 10) : Calls Tryz.prog 6 #[.slice Al l.length cl, .slice A1c ch.length c1, .slice A2c wk.length c2] w fun e w' => e = .returned (.bool true) ∧ Below w.heap.size w w' := by
 have cF := few_any (w := w) (Al := Al) (A1 := A1c) (A2 := A2c) (n := l.length) (cl := cl) (n1 := ch.length) (c1 := c1) (n2 := wk.length) (c2 := c2)
 rw [decide_eq_true ⟨hn, hn1, hn2⟩] at cF
 have cB := build12_any hl hcl hn h1 hr1 hn1 h2 hr2 hn2
 have cA := fun w => awake12_any (w := w)
 clear hl hcl h1 hr1 h2 hr2
 go_enter Tryz.func6, Tryz.ntmps6
 go_wp2_with fail
 refine cF.mono ?_
 rintro e w0 ⟨rfl, rfl⟩
 go_wp2_with fail
 refine cB.mono ?_
 rintro e w2 hbp
 unfold Bd12P at hbp
 obtain ⟨q, hq⟩ : ∃ q, q = bld1 l := ⟨_, rfl⟩
 rw [← hq] at hbp
 obtain ⟨ra, hra⟩ : ∃ ra, ra = rts1 q.2 ch := ⟨_, rfl⟩
 obtain ⟨rk, hrk⟩ : ∃ rk, rk = rts1 q.2 wk := ⟨_, rfl⟩
 rw [← hra, ← hrk] at hbp
 clear hq hra hrk cB cF
 cases hm : (Mm.one q.1.old).marks ra with
 | none =>
  rw [hm] at hbp
  obtain ⟨⟨y0, y1, y2, y3, y4, y5, y6, y7, y8, y9, ya, yb, rfl⟩, hb⟩ := hbp
  have HB := Lib.hid hb
  clear hm hb
  go_wp2_with fail
  refine (cA _).mono ?_
  rintro e w3 ⟨rfl, hb3⟩
  have HB3 := Lib.hid hb3
  clear hb3
  go_wp2_with fail
  go_ret
  exact ⟨rfl, HB.out.trans ((((Below.refl _ _).alloc (Nat.le_refl _) _).trans (HB3.out.mono (by simp))).mono HB.out.size)⟩
 | some pr =>
  obtain ⟨sg, wl0⟩ := pr
  rw [hm] at hbp
  dsimp only at hbp
  obtain ⟨g, V, A1, e1, gm, bm, Am, cm, Ar, cr, Aw, cw, rfl, hen⟩ := hbp
  obtain ⟨wl, hwl⟩ : ∃ wl, wl = (Mm.one q.1.old).kpx sg wl0 rk := ⟨_, rfl⟩
  rw [← hwl] at hen ⊢
  obtain ⟨s, hs⟩ : ∃ s, s = q.1.old := ⟨_, rfl⟩
  rw [← hs] at hen ⊢
  obtain ⟨ms, hms⟩ : ∃ ms, ms = srtI (sg ++ wl) := ⟨_, rfl⟩
  rw [← hms]
  have HEN := Lib.hid hen
  have HMS := Lib.hid hms
  clear hm hwl hs hms hen
  go_upto_region 6 with fail
  have hbx : Below w2.heap.size w2 (w2.alloc (.cells #[.pointer (some ⟨g, 0, none⟩), .int .i64 s.base, .int .i64 s.limit, .slice A1 s.ws.length e1, .pointer (some ⟨gm, 0, none⟩), .slice Am ms.length cm, .slice Ar ra.length cr, .slice Aw rk.length cw] 64)) := (Below.refl _ _).alloc (Nat.le_refl _) _
  have HT : Hid (Bk (w2.alloc (.cells #[.pointer (some ⟨g, 0, none⟩), .int .i64 s.base, .int .i64 s.limit, .slice A1 s.ws.length e1, .pointer (some ⟨gm, 0, none⟩), .slice Am ms.length cm, .slice Ar ra.length cr, .slice Aw rk.length cw] 64)) w2.heap.size 64 #[.pointer (some ⟨g, 0, none⟩), .int .i64 s.base, .int .i64 s.limit, .slice A1 s.ws.length e1, .pointer (some ⟨gm, 0, none⟩), .slice Am ms.length cm, .slice Ar ra.length cr, .slice Aw rk.length cw]) := Lib.hid (Bk.new _ _ _)
  have HE3 := Lib.hid (HEN.out.below hbx)
  have hgt : w.heap.size ≤ w2.heap.size := HEN.out.bl.size
  clear hbx HEN
  generalize w2.alloc (.cells #[.pointer (some ⟨g, 0, none⟩), .int .i64 s.base, .int .i64 s.limit, .slice A1 s.ws.length e1, .pointer (some ⟨gm, 0, none⟩), .slice Am ms.length cm, .slice Ar ra.length cr, .slice Aw rk.length cw] 64) = w3 at *
  generalize w2.heap.size = gt at *
  have cP := HE3.out.plan
  rw [← HMS.out] at cP
  unfold PlanP at cP
  have d0 : w3.cell? ⟨gt, 0, none⟩ = some (.pointer (some ⟨g, 0, none⟩)) := HT.out.cell 0
  have d4 : w3.cell? ⟨gt, 4, none⟩ = some (.pointer (some ⟨gm, 0, none⟩)) := HT.out.cell 4
  cases hpl : s.plan ms with
  | none =>
   rw [hpl] at cP
   dsimp only at cP
   have HPL := Lib.hid hpl
   clear hpl
   go_wp2_with fail
   refine cP.mono ?_
   rintro e w4 ⟨hb4, rfl⟩
   have HE4 := Lib.hid (HE3.out.below hb4)
   have HT4 := Lib.hid (HT.out.below hb4 HT.out.lt)
   have HB4 := Lib.hid hb4
   clear cP d0 d4 hb4
   have cR := HE4.out.rplan
   rw [← HMS.out] at cR
   unfold RPlanP at cR
   rw [HPL.out] at cR
   dsimp only at cR
   have d1 : w4.cell? ⟨gt, 1, none⟩ = some (.int .i64 s.base) := HT4.out.cell 1
   have d2 : w4.cell? ⟨gt, 2, none⟩ = some (.int .i64 s.limit) := HT4.out.cell 2
   have d3 : w4.cell? ⟨gt, 3, none⟩ = some (.slice A1 s.ws.length e1) := HT4.out.cell 3
   have d5 : w4.cell? ⟨gt, 5, none⟩ = some (.slice Am ms.length cm) := HT4.out.cell 5
   go_wp2_with fail
   refine cR.mono ?_
   rintro e w5 ⟨hb5, rfl⟩
   have HE5 := Lib.hid (HE4.out.below hb5)
   clear cR hb5 d1 d2 d3 d5
   go_wp2_with fail
   refine (cA _).mono ?_
   rintro e w6 ⟨rfl, hb6⟩
   have HB6 := Lib.hid hb6
   clear hb6
   go_wp2_with fail
   go_ret
   exact ⟨rfl, HE5.out.bl.trans (HB6.out.mono HE5.out.bl.size)⟩
  | some ns =>
   rw [hpl] at cP
   dsimp only at cP
   have HPL := Lib.hid hpl
   clear hpl
   go_wp2_with fail
   refine cP.mono ?_
   rintro e w4 ⟨hb4, v1, v2, rfl, ho1, ho2⟩
   have HE4 := Lib.hid (HE3.out.below hb4)
   have HT4 := Lib.hid (HT.out.below hb4 HT.out.lt)
   have HB4 := Lib.hid hb4
   have HO1 := Lib.hid ho1
   have HO2 := Lib.hid ho2
   clear cP d0 d4 hb4 ho1 ho2
   have cR := HE4.out.rplan
   rw [← HMS.out] at cR
   unfold RPlanP at cR
   rw [HPL.out] at cR
   dsimp only at cR
   obtain ⟨Ax, cx, rfl, hcx⟩ := own_shape HO1.out
   obtain ⟨Ay, cy, rfl, hcy⟩ := own_shape HO2.out
   have d1 : w4.cell? ⟨gt, 1, none⟩ = some (.int .i64 s.base) := HT4.out.cell 1
   have d2 : w4.cell? ⟨gt, 2, none⟩ = some (.int .i64 s.limit) := HT4.out.cell 2
   have d3 : w4.cell? ⟨gt, 3, none⟩ = some (.slice A1 s.ws.length e1) := HT4.out.cell 3
   have d5 : w4.cell? ⟨gt, 5, none⟩ = some (.slice Am ms.length cm) := HT4.out.cell 5
   go_wp2_with fail
   refine cR.mono ?_
   rintro e w5 ⟨hb5, v3, rfl, ho3⟩
   obtain ⟨Az, cz, rfl, hcz⟩ := own_shape ho3
   have HE5 := Lib.hid (HE4.out.below hb5)
   have HT5 := Lib.hid (HT4.out.below hb5 HT4.out.lt)
   have hsx := Lib.hid ((own_sl HO1.out).below hb5)
   have hsy := Lib.hid ((own_sl HO2.out).below hb5)
   have hsz := Lib.hid (own_sl ho3)
   have hml : ms.length ≤ 16777216 := by rw [HMS.out, srtI_len]; exact HE5.out.mln
   have hnl : ns.length ≤ 16777216 := by
    have h := HPL.out
    unfold Spc.plan at h
    split at h
    ·cases h
     rw [newsL_len]
     exact hml
    ·cases h
   have HMI : Hid (IS w5 ms Am cm) := Lib.hid (by rw [HMS.out]; exact HE5.out.ms)
   have cS1 := Same8_t (l := ms) (m := ms) (c := cx) (d := cm) (by omega) hcx HMI.out.cap hsx.out HMI.out.sl
   rw [show eqL ms ms = true from decide_eq_true rfl] at cS1
   have d5' : w5.cell? ⟨gt, 5, none⟩ = some (.slice Am ms.length cm) := HT5.out.cell 5
   clear cR hb5 d1 d2 d3 d5 ho3 HO1 HO2 HT4 HE4
   go_wp2_with fail
   refine cS1.mono ?_
   rintro e w6 ⟨rfl, hb6⟩
   have HE6 := Lib.hid (HE5.out.below hb6)
   have cS2 := Same8_t (l := ns) (m := ns) (c := cy) (d := cz) (by omega) hcy hcz (hsy.out.below hb6) (hsz.out.below hb6)
   rw [show eqL ns ns = true from decide_eq_true rfl] at cS2
   clear cS1 hb6 d5'
   go_wp2_with fail
   refine cS2.mono ?_
   rintro e w7 ⟨rfl, hb7⟩
   have HE7 := Lib.hid (HE6.out.below hb7)
   clear cS2 hb7
   go_wp2_with fail
   refine (cA _).mono ?_
   rintro e w8 ⟨rfl, hb8⟩
   have HB8 := Lib.hid hb8
   clear hb8
   go_wp2_with fail
   go_ret
   exact ⟨rfl, HE7.out.bl.trans (HB8.out.mono HE7.out.bl.size)⟩
theorem plans_any (hl : Op1s w Al l) (hcl : l.length ≤ cl) (h1 : IS w ch A1c c1) (hr1 : ∀ x ∈ ch, -9223372036854775808 ≤ x ∧ x ≤ 9223372036854775807) (h2 : IS w wk A2c c2) (hr2 : ∀ x ∈ wk, -9223372036854775808 ≤ x ∧ x ≤ 9223372036854775807) : Calls Tryz.prog 6 #[.slice Al l.length cl, .slice A1c ch.length c1, .slice A2c wk.length c2] w fun e w' => e = .returned (.bool true) ∧ Below w.heap.size w w' := by
 by_cases h : l.length ≤ 40 ∧ ch.length ≤ 10 ∧ wk.length ≤ 10
 ·exact plans_main hl hcl h.1 h1 hr1 h.2.1 h2 hr2 h.2.2
 ·exact plans_big h
end
end Go.Proofs.YtjpaogapclfajaaGreat
