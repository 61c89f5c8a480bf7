/- Law 12: CompactionSlides. (printed by gen/slides.py) -/
import Derived.Test.YtjpaogapclfajaaGreatBa31
import Derived.Test.YtjpaogapclfajaaGreatBaTgt
namespace Go.Proofs.YtjpaogapclfajaaGreat
set_option linter.unusedVariables false
set_option linter.unusedSimpArgs false
set_option linter.unusedSectionVars false
open Go.RowKit Go.Sort
attribute [local go_sem] Oper.semAt_some onlyN_normal
set_option maxRecDepth 100000
theorem wSum_prm (m : Mm) {l l' : List Int} (h : l.Perm l') : wSum m l = wSum m l' := by
 unfold wSum
 induction h with
 | nil => rfl
 | cons x _ ih => simp [ih]
 | swap x y l => simp; omega
 | trans _ _ ih1 ih2 => exact ih1.trans ih2
section
variable {w : World} {Al A1 A2 : Option Addr} {n cl n1 c1 n2 c2 : Nat}
theorem slides_big (h : ¬ (n ≤ 40 ∧ n1 ≤ 10 ∧ n2 ≤ 10)) : Calls Tryz.prog 9 #[.slice Al n cl, .slice A1 n1 c1, .slice A2 n2 c2] w fun e w' => e = .returned (.bool true) ∧ Below w.heap.size w w' := by
 have cF := few_any (w := w) (Al := Al) (A1 := A1) (A2 := A2) (n := n) (cl := cl) (n1 := n1) (c1 := c1) (n2 := n2) (c2 := c2)
 rw [decide_eq_false h] at cF
 have cA := awake12_any (w := w)
 clear h
 go_enter Tryz.func9, Tryz.ntmps9
 go_wp2_with fail
 refine cF.mono ?_
 rintro e w1 ⟨rfl, rfl⟩
 go_wp2_with fail
 refine cA.mono ?_
 rintro e w1 ⟨rfl, hb1⟩
 have HB1 := Lib.hid hb1
 clear hb1 cA cF
 go_wp2_with fail
 go_ret
 exact ⟨rfl, HB1.out⟩
end
section
variable {w : World} {l : List Op1} {Al : Option Addr} {cl : Nat} {ch wk : List Int} {A1c A2c : Option Addr} {c1 c2 : Nat}
set_option maxHeartbeats 16000000 in
theorem slides_main (hl : Op1s w Al l) (hcl : l.length ≤ cl) (hn : l.length ≤ 40) (h1 : IS w ch A1c c1) (hr1 : ∀ x ∈ ch, -9223372036854775808 ≤ x ∧ x ≤ 9223372036854775807) (hn1 : ch.length ≤ 10) (h2 : IS w wk A2c c2) (hr2 : ∀ x ∈ wk, -9223372036854775808 ≤ x ∧ x ≤ 9223372036854775807) (hn2 : wk.length ≤ 10) : Calls Tryz.prog 9 #[.slice Al l.length cl, .slice A1c ch.length c1, .slice A2c wk.length c2] w fun e w' => e = .returned (.bool true) ∧ Below w.heap.size w w' := by
 have cF := few_any (w := w) (Al := Al) (A1 := A1c) (A2 := A2c) (n := l.length) (cl := cl) (n1 := ch.length) (c1 := c1) (n2 := wk.length) (c2 := c2)
 rw [decide_eq_true ⟨hn, hn1, hn2⟩] at cF
 have cB := build12_any hl hcl hn h1 hr1 hn1 h2 hr2 hn2
 have cA := fun w => awake12_any (w := w)
 clear hl hcl h1 hr1 h2 hr2
 go_enter Tryz.func9, Tryz.ntmps9
 go_wp2_with fail
 refine cF.mono ?_
 rintro e w0 ⟨rfl, rfl⟩
 go_wp2_with fail
 refine cB.mono ?_
 rintro e w2 hbp
 unfold Bd12P at hbp
 obtain ⟨q, hq⟩ : ∃ q, q = bld1 l := ⟨_, rfl⟩
 rw [← hq] at hbp
 obtain ⟨ra, hra⟩ : ∃ ra, ra = rts1 q.2 ch := ⟨_, rfl⟩
 obtain ⟨rk, hrk⟩ : ∃ rk, rk = rts1 q.2 wk := ⟨_, rfl⟩
 rw [← hra, ← hrk] at hbp
 clear hq hra hrk cB cF
 cases hm : (Mm.one q.1.old).marks ra with
 | none =>
  rw [hm] at hbp
  obtain ⟨⟨y0, y1, y2, y3, y4, y5, y6, y7, y8, y9, ya, yb, rfl⟩, hb⟩ := hbp
  have HB := Lib.hid hb
  clear hm hb
  go_wp2_with fail
  refine (cA _).mono ?_
  rintro e w3 ⟨rfl, hb3⟩
  have HB3 := Lib.hid hb3
  clear hb3
  go_wp2_with fail
  go_ret
  exact ⟨rfl, HB.out.trans ((((Below.refl _ _).alloc (Nat.le_refl _) _).trans (HB3.out.mono (by simp))).mono HB.out.size)⟩
 | some pr =>
  obtain ⟨sg, wl0⟩ := pr
  rw [hm] at hbp
  dsimp only at hbp
  obtain ⟨g, V, A1, e1, gm, bm, Am, cm, Ar, cr, Aw, cw, rfl, hen⟩ := hbp
  obtain ⟨wl, hwl⟩ : ∃ wl, wl = (Mm.one q.1.old).kpx sg wl0 rk := ⟨_, rfl⟩
  rw [← hwl] at hen ⊢
  obtain ⟨s, hs⟩ : ∃ s, s = q.1.old := ⟨_, rfl⟩
  rw [← hs] at hen ⊢
  obtain ⟨ms, hms⟩ : ∃ ms, ms = srtI (sg ++ wl) := ⟨_, rfl⟩
  rw [← hms]
  have HEN := Lib.hid hen
  have HMS := Lib.hid hms
  clear hm hwl hs hms hen
  go_upto_region 6 with fail
  have hbx : Below w2.heap.size w2 (w2.alloc (.cells #[.pointer (some ⟨g, 0, none⟩), .int .i64 s.base, .int .i64 s.limit, .slice A1 s.ws.length e1, .pointer (some ⟨gm, 0, none⟩), .slice Am ms.length cm, .slice Ar ra.length cr, .slice Aw rk.length cw] 64)) := (Below.refl _ _).alloc (Nat.le_refl _) _
  have HT : Hid (Bk (w2.alloc (.cells #[.pointer (some ⟨g, 0, none⟩), .int .i64 s.base, .int .i64 s.limit, .slice A1 s.ws.length e1, .pointer (some ⟨gm, 0, none⟩), .slice Am ms.length cm, .slice Ar ra.length cr, .slice Aw rk.length cw] 64)) w2.heap.size 64 #[.pointer (some ⟨g, 0, none⟩), .int .i64 s.base, .int .i64 s.limit, .slice A1 s.ws.length e1, .pointer (some ⟨gm, 0, none⟩), .slice Am ms.length cm, .slice Ar ra.length cr, .slice Aw rk.length cw]) := Lib.hid (Bk.new _ _ _)
  have HE3 := Lib.hid (HEN.out.below hbx)
  have hgt : w.heap.size ≤ w2.heap.size := HEN.out.bl.size
  clear hbx HEN
  generalize w2.alloc (.cells #[.pointer (some ⟨g, 0, none⟩), .int .i64 s.base, .int .i64 s.limit, .slice A1 s.ws.length e1, .pointer (some ⟨gm, 0, none⟩), .slice Am ms.length cm, .slice Ar ra.length cr, .slice Aw rk.length cw] 64) = w3 at *
  generalize w2.heap.size = gt at *
  have cP := HE3.out.plan
  rw [← HMS.out] at cP
  unfold PlanP at cP
  have d0 : w3.cell? ⟨gt, 0, none⟩ = some (.pointer (some ⟨g, 0, none⟩)) := HT.out.cell 0
  have d4 : w3.cell? ⟨gt, 4, none⟩ = some (.pointer (some ⟨gm, 0, none⟩)) := HT.out.cell 4
  cases hpl : s.plan ms with
  | none =>
   rw [hpl] at cP
   dsimp only at cP
   have HPL := Lib.hid hpl
   clear hpl
   go_wp2_with fail
   refine cP.mono ?_
   rintro e w4 ⟨hb4, rfl⟩
   have HE4 := Lib.hid (HE3.out.below hb4)
   have HT4 := Lib.hid (HT.out.below hb4 HT.out.lt)
   have HB4 := Lib.hid hb4
   clear cP d0 d4 hb4
   go_wp2_with fail
   refine (cA _).mono ?_
   rintro e w6 ⟨rfl, hb6⟩
   have HB6 := Lib.hid hb6
   clear hb6
   go_wp2_with fail
   go_ret
   exact ⟨rfl, HE4.out.bl.trans (HB6.out.mono HE4.out.bl.size)⟩
  | some ns =>
   rw [hpl] at cP
   dsimp only at cP
   have HPL := Lib.hid hpl
   clear hpl
   go_wp2_with fail
   refine cP.mono ?_
   rintro e w4 ⟨hb4, v1, v2, rfl, ho1, ho2⟩
   have HE4 := Lib.hid (HE3.out.below hb4)
   have HT4 := Lib.hid (HT.out.below hb4 HT.out.lt)
   have HB4 := Lib.hid hb4
   have HO1 := Lib.hid ho1
   have HO2 := Lib.hid ho2
   clear cP d0 d4 hb4 ho1 ho2
   have hpl2 := Spc.plan_some (by rw [HMS.out]; exact srtI_lt HE4.out.mks.nd) HPL.out
   have HP := Lib.hid hpl2.1
   have HN := Lib.hid hpl2.2
   have HK4 : Hid (∀ a ∈ ms, ((Mm.one s).hdr a).1 = 0 ∧ ((Mm.one s).hdr a).2.k ≠ 4) := Lib.hid fun a ha => HE4.out.mks.hdr a (by rw [HMS.out] at ha; exact (srtI_mem _ a).1 ha)
   have hml : ms.length ≤ 16777216 := by rw [HMS.out, srtI_len]; exact HE4.out.mln
   have HNL : Hid (ns.length = ms.length) := Lib.hid (by rw [hpl2.2, newsL_len])
   have HB0 := Lib.hid HE4.out.b0
   have HL0 := Lib.hid HE4.out.l0
   have HOK := Lib.hid HE4.out.sp.ok
   clear hpl2
   obtain ⟨Ax, cx, rfl, hcx⟩ := own_shape HO1.out
   obtain ⟨Ay, cy, rfl, hcy⟩ := own_shape HO2.out
   have hsx := Lib.hid (own_sl HO1.out)
   have hsy := Lib.hid (own_sl HO2.out)
   obtain ⟨at_, hat⟩ : ∃ at_ : Nat → Int, at_ = fun j => s.base + wSum (Mm.one s) (ms.take j) := ⟨_, rfl⟩
   have HA0 : Hid (s.base = at_ 0) := Lib.hid (by rw [hat]; show s.base = s.base + wSum (Mm.one s) (ms.take 0); rw [List.take_zero, wSum_nil]; omega)
   have HAN : Hid (at_ ms.length = s.base + wSum (Mm.one s) ms) := Lib.hid (by rw [hat]; dsimp only; rw [List.take_length])
   have HAS : Hid (∀ (j : Nat) (a : Int), ms[j]? = some a → at_ (j + 1) = at_ j + wH ((Mm.one s).hdr a).2 ∧ ns[j]? = some (at_ j) ∧ at_ j ≤ a) := Lib.hid fun j a ha => by
    rw [hat]
    refine ⟨?_, ?_, HP.out.below j a ha⟩
    ·dsimp only
     rw [wSum_take _ ha]
     omega
    ·rw [HN.out]
     exact newsL_get (List.getElem?_eq_some_iff.1 ha).1
   have HAR : Hid (∀ j : Nat, 0 ≤ at_ j ∧ at_ j ≤ 16777216) := Lib.hid fun j => by
    have h1 := (wSum_rg (Mm.one s) (ms.take j)).1
    have h2 := wSum_take_le (m := Mm.one s) (l := ms) (fun a ha => by have := HP.out.wk ha; omega) j
    have h3 := HP.out.sum
    have h4 := HOK.out.lim
    have h5 := HB0.out
    have h6 := HL0.out
    unfold Spc.top at h3
    rw [hat]
    dsimp only
    omega
   have cBs := Base_any HE4.out.sp
   have d0 : w4.cell? ⟨gt, 0, none⟩ = some (.pointer (some ⟨g, 0, none⟩)) := HT4.out.cell 0
   clear hat
   go_wp2_with fail
   refine cBs.mono ?_
   rintro e w5 ⟨rfl, rfl⟩
   clear cBs d0
   go_wp2_with fail
   go_loopw [13, 60] (fun u i wr => ∃ j : Nat, i = .int .i64 (j : Int) ∧ j ≤ ms.length ∧ u = .int .i64 (at_ j) ∧ Below w4.heap.size w4 wr) (fun _ i _ => ms.length - (intOf i).toNat)
   case atStart => exact ⟨0, rfl, Nat.zero_le _, by rw [← HA0.out], Below.refl _ _⟩
   case round =>
    obtain ⟨j, rfl, hj, rfl, hbr⟩ := hrel
    have HBR := Lib.hid hbr
    have hbs := hbr.size
    have HER := Lib.hid (HE4.out.below hbr)
    have HTR := Lib.hid (HT4.out.below hbr HT4.out.lt)
    by_cases hlt : j < ms.length
    ·have t0 : ms[j]? = some ms[j] := List.getElem?_eq_getElem hlt
     obtain ⟨bx, ox, hAx, hbxl, hccx⟩ := (hsx.out.below hbr).get hlt
     obtain ⟨by_, oy, hAy, hbyl, hccy⟩ := (hsy.out.below hbr).get (by rw [HNL.out]; exact hlt)
     obtain ⟨hs1, hs2, hs3⟩ := HAS.out j _ t0
     have ex : wr.cell? ⟨bx, ox + j, none⟩ = some (.int .i64 ms[j]) := hccx j _ (ints_get t0)
     have ey : wr.cell? ⟨by_, oy + j, none⟩ = some (.int .i64 (at_ j)) := hccy j _ (ints_get hs2)
     have hm := List.getElem_mem hlt
     have hpv : ∀ j', j = j' + 1 → ∃ y, y < ms[j] ∧ wr.cell? ⟨bx, ox + j', none⟩ = some (.int .i64 y) := fun j' hj' => by
      have t9 : ms[j']? = some ms[j'] := List.getElem?_eq_getElem (by omega)
      refine ⟨ms[j'], ?_, hccx j' _ (ints_get t9)⟩
      exact List.pairwise_iff_getElem.1 HP.out.inc j' j (by omega) hlt (by omega)
     generalize ms[j] = x at ex t0 hs1 hs3 hm hpv
     obtain ⟨h0, h4⟩ := HK4.out x hm
     have hrg := HER.out.mks.rg HER.out.ok x (by have := hm; rw [HMS.out] at this; exact (srtI_mem _ x).1 this)
     have cH := fun {w9 : World} (hb : Below wr.heap.size wr w9) => header12_any (HER.out.below hb).sp HB0.out HL0.out (HER.out.below hb).bl.size h0 hrg
     obtain ⟨hd, hhd⟩ : ∃ hd, hd = ((Mm.one s).hdr x).2 := ⟨_, rfl⟩
     obtain ⟨i, hi⟩ : ∃ i, i = (Mm.one s).idOf x := ⟨_, rfl⟩
     simp only [← hhd, ← hi] at cH
     rw [← hhd] at hs1
     have HS1 := Lib.hid hs1
     have hcj : j < cx := by omega
     have hcjy : j < cy := by have := HNL.out; omega
     have hjI : (j : Int) < (ms.length : Int) := by omega
     have hr1 := HAR.out j
     have hr2 := HAR.out (j + 1)
     have HEX := Lib.hid (And.intro hbxl ex)
     have HEY := Lib.hid (And.intro hbyl ey)
     have HPV := Lib.hid hpv
     have HAx := Lib.hid hAx
     have HAy := Lib.hid hAy
     clear hbr t0 hccx hccy hs1 hs2 hm hpv h0 h4 hrg hhd hi ex ey hbxl hbyl
     subst hAx
     subst hAy
     clear HAx HAy
     go_upto_region 13 with fail
     refine wp_region_addsF0 12 (fun i => ([[], [0], [], [], [2, 3], [4], [1, 5], [6], [7], [7], [], []] : List (List Nat)).getD i []) [9] (EL [Ent.val (.pointer (some ⟨gt, 0, none⟩)), Ent.val (.pointer (some ⟨g, 0, none⟩)), Ent.val (.slice (some ⟨bx, ox, none⟩) ms.length cx), Ent.val (.int .i64 (j : Int)), Ent.val (.pointer (some ⟨bx, ox + j, none⟩)), Ent.val (.int .i64 x), Ent.val (.tuple #[.agg #[.int .i64 hd.k, .int .i64 hd.c, .int .i64 hd.f], .agg #[.int .i64 i.m, .int .i64 i.s]]), Ent.val (.tuple #[.agg #[.int .i64 hd.k, .int .i64 hd.c, .int .i64 hd.f], .agg #[.int .i64 i.m, .int .i64 i.s]]), Ent.val (.agg #[.int .i64 hd.k, .int .i64 hd.c, .int .i64 hd.f]), Ent.val (.agg #[.int .i64 i.m, .int .i64 i.s]), Ent.blk 55 #[.int .i64 0, .int .i64 0, .int .i64 0], Ent.blk 79 #[.int .i64 0, .int .i64 0]]) (by kernel_rfl) (by kernel_rfl) (by kernel_rfl) (by kernel_rfl) (by kernel_rfl) (by rfl) ?_ ?_
     ·intro i hi o ho vs w9 hb1 hgr
      rcases (show i = 0 ∨ i = 1 ∨ i = 2 ∨ i = 3 ∨ i = 4 ∨ i = 5 ∨ i = 6 ∨ i = 7 ∨ i = 8 ∨ i = 9 ∨ i = 10 ∨ i = 11 by omega) with rfl | rfl | rfl | rfl | rfl | rfl | rfl | rfl | rfl | rfl | rfl | rfl <;> cases ho
      ·clear hgr
       change Made _ (Adds _ _ _) (Sem.run _ (execOp (Act.eval (frm _ _ _ [])) _) _)
       simp only [frm]
       go_simp
       exact adds_val rfl
      ·have h0 : vs 0 = _ := hgr 0 (by decide)
       clear hgr
       change Made _ (Adds _ _ _) (Sem.run _ (execOp (Act.eval (Act.put (frm _ _ _ []) (some 64) (vs 0))) _) _)
       simp only [frm, h0]
       have hbk := HTR.out.below hb1 HTR.out.lt
       have c0 : w9.cell? ⟨gt, 0, none⟩ = some (.pointer (some ⟨g, 0, none⟩)) := hbk.cell 0
       clear hbk
       go_simp
       exact adds_val rfl
      ·clear hgr
       change Made _ (Adds _ _ _) (Sem.run _ (execOp (Act.eval (frm _ _ _ [])) _) _)
       simp only [frm]
       go_simp
       exact adds_val rfl
      ·clear hgr
       change Made _ (Adds _ _ _) (Sem.run _ (execOp (Act.eval (frm _ _ _ [])) _) _)
       simp only [frm]
       go_simp
       exact adds_val rfl
      ·have h2 : vs 2 = _ := hgr 2 (by decide)
       have h3 : vs 3 = _ := hgr 3 (by decide)
       clear hgr
       change Made _ (Adds _ _ _) (Sem.run _ (execOp (Act.eval (Act.put (Act.put (frm _ _ _ []) (some 67) (vs 3)) (some 66) (vs 2))) _) _)
       simp only [frm, h2, h3]
       go_simp
       exact adds_val rfl
      ·have h4 : vs 4 = _ := hgr 4 (by decide)
       clear hgr
       change Made _ (Adds _ _ _) (Sem.run _ (execOp (Act.eval (Act.put (frm _ _ _ []) (some 68) (vs 4))) _) _)
       simp only [frm, h4]
       have e4 : w9.cell? ⟨bx, ox + j, none⟩ = some (.int .i64 x) := ((bcell hb1).1 _ _ HEX.out.1).trans HEX.out.2
       go_simp
       exact adds_val rfl
      ·have h1 : vs 1 = _ := hgr 1 (by decide)
       have h5 : vs 5 = _ := hgr 5 (by decide)
       clear hgr
       change Made _ (Adds _ _ _) (Sem.run _ (execOp (Act.eval (Act.put (Act.put (frm _ _ _ []) (some 69) (vs 5)) (some 65) (vs 1))) _) _)
       simp only [frm, h1, h5]
       have cH1 := cH hb1
       go_simp
       exact adds_below cH1
      ·have h6 : vs 6 = _ := hgr 6 (by decide)
       clear hgr
       change Made _ (Adds _ _ _) (Sem.run _ (execOp (Act.eval (Act.put (frm _ _ _ []) (some 70) (vs 6))) _) _)
       simp only [frm, h6]
       go_simp
       exact adds_val rfl
      ·have h7 : vs 7 = _ := hgr 7 (by decide)
       clear hgr
       change Made _ (Adds _ _ _) (Sem.run _ (execOp (Act.eval (Act.put (frm _ _ _ []) (some 63) (vs 7))) _) _)
       simp only [frm, h7]
       go_simp
       exact adds_val rfl
      ·have h7 : vs 7 = _ := hgr 7 (by decide)
       clear hgr
       change Made _ (Adds _ _ _) (Sem.run _ (execOp (Act.eval (Act.put (frm _ _ _ []) (some 63) (vs 7))) _) _)
       simp only [frm, h7]
       go_simp
       exact adds_val rfl
      ·clear hgr
       change Made _ (Adds _ _ _) (Sem.run _ (execOp (Act.eval (frm _ _ _ [])) _) _)
       simp only [frm]
       go_simp
       exact adds_blk
      ·clear hgr
       change Made _ (Adds _ _ _) (Sem.run _ (execOp (Act.eval (frm _ _ _ [])) _) _)
       simp only [frm]
       go_simp
       exact adds_blk
     ·intro vs w9 hb1 hall hap
      obtain ⟨⟨g10, h10, k10⟩, q10⟩ := hall 10 (by omega)
      have r10 : wr.heap.size ≤ g10 ∧ g10 < w9.heap.size := q10 g10 (by rw [h10]; rfl)
      clear q10
      obtain ⟨⟨g11, h11, k11⟩, q11⟩ := hall 11 (by omega)
      have r11 : wr.heap.size ≤ g11 ∧ g11 < w9.heap.size := q11 g11 (by rw [h11]; rfl)
      clear q11
      have h8 : vs 8 = _ := (hall 8 (by omega)).1
      have h9 : vs 9 = _ := (hall 9 (by omega)).1
      clear hall hap
      change wpList _ _ _ [_, _] (Act.put (Act.put (Act.put (Act.put (Act.put (Act.put (Act.put (Act.put (Act.put (Act.put (Act.put (Act.put (frm _ _ _ []) (some 16) (vs 11)) (some 15) (vs 10)) (some 72) (vs 9)) (some 71) (vs 8)) (some 63) (vs 7)) (some 70) (vs 6)) (some 69) (vs 5)) (some 68) (vs 4)) (some 67) (vs 3)) (some 66) (vs 2)) (some 65) (vs 1)) (some 64) (vs 0)) _
      simp only [frm, h8, h9, h10, h11]
      have HB9 := Lib.hid (HBR.out.trans (hb1.mono hbs))
      have HB9x := Lib.hid hb1
      have HK10 := Lib.hid k10
      have HK11 := Lib.hid k11
      have r10s := r10
      have r11s := r11
      have d0 : w9.cell? ⟨g10, 0, none⟩ = some (.int .i64 0) := k10.cell 0
      have d1 : w9.cell? ⟨g10, 1, none⟩ = some (.int .i64 0) := k10.cell 1
      have d2 : w9.cell? ⟨g10, 2, none⟩ = some (.int .i64 0) := k10.cell 2
      have f0 := k10.free 0
      have f1 := k10.free 1
      have f2 := k10.free 2
      have z0 : w9.cell? ⟨g11, 0, none⟩ = some (.int .i64 0) := k11.cell 0
      have z1 : w9.cell? ⟨g11, 1, none⟩ = some (.int .i64 0) := k11.cell 1
      have v0 := k11.free 0
      have v1 := k11.free 1
      have hne : g11 ≠ g10 := Bk.neT k11 k10 (by decide)
      clear hb1 k10 k11 r10 r11 h8 h9 h10 h11 cH
      go_wp2_with fail
      rw [onlyN_normal]
      have hbx : Below wr.heap.size wr (((((w9.setCell ⟨g10, 0, none⟩ (.int .i64 hd.k)).setCell ⟨g10, 1, none⟩ (.int .i64 hd.c)).setCell ⟨g10, 2, none⟩ (.int .i64 hd.f)).setCell ⟨g11, 0, none⟩ (.int .i64 i.m)).setCell ⟨g11, 1, none⟩ (.int .i64 i.s)) := ((((HB9x.out.setCell (p := ⟨g10, 0, none⟩) r10s.1 _).setCell (p := ⟨g10, 1, none⟩) r10s.1 _).setCell (p := ⟨g10, 2, none⟩) r10s.1 _).setCell (p := ⟨g11, 0, none⟩) r11s.1 _).setCell (p := ⟨g11, 1, none⟩) r11s.1 _
      have HKX : Hid (Bk (((((w9.setCell ⟨g10, 0, none⟩ (.int .i64 hd.k)).setCell ⟨g10, 1, none⟩ (.int .i64 hd.c)).setCell ⟨g10, 2, none⟩ (.int .i64 hd.f)).setCell ⟨g11, 0, none⟩ (.int .i64 i.m)).setCell ⟨g11, 1, none⟩ (.int .i64 i.s)) g10 55 #[.int .i64 hd.k, .int .i64 hd.c, .int .i64 hd.f]) := Lib.hid (((HK10.out.set3 (.int .i64 hd.k) (.int .i64 hd.c) (.int .i64 hd.f)).far (p := ⟨g11, 0, none⟩) (fun e => hne e.symm) _).far (p := ⟨g11, 1, none⟩) (fun e => hne e.symm) _)
      have HBX := Lib.hid hbx
      clear hbx HB9 HB9x HK10 HK11 r10s r11s d0 d1 d2 f0 f1 f2 z0 z1 v0 v1 hne
      generalize ((((w9.setCell ⟨g10, 0, none⟩ (.int .i64 hd.k)).setCell ⟨g10, 1, none⟩ (.int .i64 hd.c)).setCell ⟨g10, 2, none⟩ (.int .i64 hd.f)).setCell ⟨g11, 0, none⟩ (.int .i64 i.m)).setCell ⟨g11, 1, none⟩ (.int .i64 i.s) = wx at *
      have ex : wx.cell? ⟨bx, ox + j, none⟩ = some (.int .i64 x) := ((bcell HBX.out).1 _ _ HEX.out.1).trans HEX.out.2
      have ey : wx.cell? ⟨by_, oy + j, none⟩ = some (.int .i64 (at_ j)) := ((bcell HBX.out).1 _ _ HEY.out.1).trans HEY.out.2
      have hjn : (j : Int) < (ns.length : Int) := by have := HNL.out; omega
      have g1 : decide ((j : Int) ≥ (ns.length : Int)) = false := decide_eq_false (by omega)
      have g1' : decide ((ns.length : Int) ≤ (j : Int)) = false := decide_eq_false (by omega)
      have g1n : decide (ns.length ≤ j) = false := decide_eq_false (by omega)
      have g2 : decide (at_ j > x) = false := decide_eq_false (by omega)
      have g2' : decide (x < at_ j) = false := decide_eq_false (by omega)
      have cW := RWords_of hd
      have hwb := wH_bound hd
      have HWB : Hid (IntKind.i64.wrap (at_ j + wH hd) = at_ (j + 1)) := Lib.hid (by rw [HS1.out]; exact IntWalk.i64_in _ (by omega))
      have HJ := Lib.hid (And.intro hj hlt)
      have k0 : wx.cell? ⟨g10, 0, none⟩ = some (.int .i64 hd.k) := HKX.out.cell 0
      have k1 : wx.cell? ⟨g10, 1, none⟩ = some (.int .i64 hd.c) := HKX.out.cell 1
      have k2 : wx.cell? ⟨g10, 2, none⟩ = some (.int .i64 hd.f) := HKX.out.cell 2
      rcases Nat.eq_zero_or_pos j with hj0 | hj0
      ·have i3 : decide ((0 : Int) < (j : Int)) = false := decide_eq_false (by omega)
       have i3' : decide ((j : Int) > 0) = false := decide_eq_false (by omega)
       have i3n : decide (0 < j) = false := decide_eq_false (by omega)
       clear hr1 hr2 hs3 hwb hj0
       go_wp2_with fail
       go_quiet (fail)
       go_wp2_with fail
       have hwv := HWB.out
       refine (cW _).mono ?_
       rintro e w7 ⟨rfl, hb7⟩
       have hb7x : Below wx.heap.size wx w7 := (below_drewN (Below.refl _ _) _).trans hb7
       have HB7 := Lib.hid (HBR.out.trans ((HBX.out.trans (hb7x.mono HBX.out.size)).mono hbs))
       clear hb7 hb7x cW
       go_wp2_with fail
       go_roundw
       case rel => exact ⟨j + 1, by go_num, by have := HJ.out; omega, rfl, HB7.out⟩
       case measure => have := HJ.out; simp [intOf]; omega
      ·obtain ⟨j', hj'⟩ : ∃ j', j = j' + 1 := ⟨j - 1, by omega⟩
       obtain ⟨y, hy, hc⟩ := HPV.out j' hj'
       have ep : wx.cell? ⟨bx, ox + j', none⟩ = some (.int .i64 y) := ((bcell HBX.out).1 _ _ (cell_lt hc)).trans hc
       have i3 : decide ((0 : Int) < (j : Int)) = true := decide_eq_true (by omega)
       have i3' : decide ((j : Int) > 0) = true := decide_eq_true (by omega)
       have i3n : decide (0 < j) = true := decide_eq_true (by omega)
       have i2 : IntKind.i64.wrap ((j : Int) - 1) = (j' : Int) := by rw [show (j : Int) - 1 = (j' : Int) by omega]; exact IntWalk.i64_in _ (by omega)
       have g3 : decide (x ≤ y) = false := decide_eq_false (by omega)
       have i4 : (j' : Int) < (ms.length : Int) := by omega
       have i5 : j' < cx := by omega
       clear hr1 hr2 hs3 hwb hj0 hj' hy hc
       go_wp2_with fail
       go_quiet (fail)
       go_wp2_with fail
       have hwv := HWB.out
       refine (cW _).mono ?_
       rintro e w7 ⟨rfl, hb7⟩
       have hb7x : Below wx.heap.size wx w7 := (below_drewN (Below.refl _ _) _).trans hb7
       have HB7 := Lib.hid (HBR.out.trans ((HBX.out.trans (hb7x.mono HBX.out.size)).mono hbs))
       clear hb7 hb7x cW
       go_wp2_with fail
       go_roundw
       case rel => exact ⟨j + 1, by go_num, by have := HJ.out; omega, rfl, HB7.out⟩
       case measure => have := HJ.out; simp [intOf]; omega
    ·obtain rfl : j = ms.length := by omega
     have hjI : ¬ ((ms.length : Nat) : Int) < (ms.length : Int) := by omega
     clear hbr
     have cC := HER.out.compact (⟨rfl, .inl rfl⟩ : Sl wr 1 none ([] : List Int).length (wds [])) (Nat.le_refl _) (fun x hx => by cases hx) (by decide)
     rw [← HMS.out] at cC
     unfold CmpP at cC
     rw [HPL.out, updL_of (l := []) (fun x hx => by cases hx)] at cC
     dsimp only at cC
     have hg3 : g < w3.heap.size := HE3.out.sp.hd.lt
     have HV3 : Hid (∀ k, V.ownBlock = some k → k < w3.heap.size) := Lib.hid fun k hk => (HE3.out.sp.own.lt k hk).2
     have d0 : wr.cell? ⟨gt, 0, none⟩ = some (.pointer (some ⟨g, 0, none⟩)) := HTR.out.cell 0
     have d4 : wr.cell? ⟨gt, 4, none⟩ = some (.pointer (some ⟨gm, 0, none⟩)) := HTR.out.cell 4
     go_wp2_with fail
     refine cC.mono ?_
     rintro e w5 ⟨v, V', rfl, ho5, hsp, hva, hvv, hkp⟩
     have HC5 := Lib.hid (HER.out.cpd hsp hkp)
     have HO5 := Lib.hid ho5
     have HT5 : Hid (Bk w5 gt 64 #[.pointer (some ⟨g, 0, none⟩), .int .i64 s.base, .int .i64 s.limit, .slice A1 s.ws.length e1, .pointer (some ⟨gm, 0, none⟩), .slice Am ms.length cm, .slice Ar ra.length cr, .slice Aw rk.length cw]) := Lib.hid (HTR.out.kp hkp fun e => by
      rcases e with e | e
      ·exact Bk.neT HTR.out HER.out.sp.hd (by decide) e
      ·exact HER.out.sp.own_ne HTR.out (by decide) e)
     have hne : ∀ k, w3.heap.size ≤ k → ¬ (k = g ∨ V.ownBlock = some k) := fun k hk e => by
      rcases e with e | e
      ·omega
      ·have := HV3.out k e; omega
     have HNE := Lib.hid hne
     have HKP := Lib.hid hkp
     clear cC d0 d4 ho5 hsp hva hvv hkp hne HV3
     have hcb : (s.cmp ms).base = s.base := rfl
     have hct : (s.cmp ms).top = at_ ms.length := by rw [cmp_top HP.out, HAN.out]
     have hws : wSum (Mm.one s) (sg ++ wl) = wSum (Mm.one s) ms := by rw [HMS.out]; exact (wSum_prm _ (srtI_perm _)).symm
     have hwp : IntKind.i64.wrap (s.base + wSum (Mm.one s) ms) = at_ ms.length := by
      have := HAR.out ms.length
      rw [← HAN.out]
      exact IntWalk.i64_in _ (by omega)
     have cBs := fun dd os => Calls.regrown_of (w := w5) ((Base_any (HC5.out.sp.below (below_regrown w5 dd os))).mono fun e w' ⟨h, hw⟩ => ⟨h, by subst hw; exact Below.refl _ _⟩)
     have cWd := fun dd os => Calls.regrown_of (w := w5) ((Words_mk (show MkR (grow (redrawn w5 dd) os) w.heap.size gm bm (Mm.one s) sg wl from MkR0.below HC5.out.mx (below_regrown w5 dd os))).mono fun e w' ⟨h, hw⟩ => ⟨h, by subst hw; exact Below.refl _ _⟩)
     have cTp := fun dd os => Calls.regrown_of (w := w5) (Top_any (HC5.out.sp.below (below_regrown w5 dd os)))
     have cAw := fun dd os => Calls.regrown_of (w := w5) (awake12_any (w := grow (redrawn w5 dd) os))
     simp only [hcb] at cBs
     simp only [hws] at cWd
     simp only [hct] at cTp
     have hat : decide (at_ ms.length = at_ ms.length) = true := decide_eq_true rfl
     have e0 : w5.cell? ⟨gt, 0, none⟩ = some (.pointer (some ⟨g, 0, none⟩)) := HT5.out.cell 0
     have e4 : w5.cell? ⟨gt, 4, none⟩ = some (.pointer (some ⟨gm, 0, none⟩)) := HT5.out.cell 4
     have k0 := cell_regrown e0
     have k4 := cell_regrown e4
     have hnl := HNL.out
     clear hcb hct hws HKP HNE HO5
     rw [hnl]
     clear hnl
     go_wp2_with fail
     refine wp_region_quiet_below (by kernel_rfl) (by kernel_rfl) ?_
     repeat (first | go_big_quiet_step ((first | (go_at_call 43; exact cBs _ _) | (go_at_call 26; exact cWd _ _) | (go_at_call 19; exact cTp _ _) | (go_at_call 34; exact cAw _ _))) | quiet_step ((first | (go_at_call 43; exact cBs _ _) | (go_at_call 26; exact cWd _ _) | (go_at_call 19; exact cTp _ _) | (go_at_call 34; exact cAw _ _))))
     refine wpQuiet_nil ?_
     intro w7 hw'
     have hb7 := quiet_below_one hw'
     have HB7 := Lib.hid hb7
     clear hw' hb7 cBs cWd cTp cAw k0 k4 e0 e4
     go_wp2_with fail
     go_ret
     exact ⟨rfl, HC5.out.bl.trans (HB7.out.mono HC5.out.bl.size)⟩
theorem slides_any (hl : Op1s w Al l) (hcl : l.length ≤ cl) (h1 : IS w ch A1c c1) (hr1 : ∀ x ∈ ch, -9223372036854775808 ≤ x ∧ x ≤ 9223372036854775807) (h2 : IS w wk A2c c2) (hr2 : ∀ x ∈ wk, -9223372036854775808 ≤ x ∧ x ≤ 9223372036854775807) : Calls Tryz.prog 9 #[.slice Al l.length cl, .slice A1c ch.length c1, .slice A2c wk.length c2] w fun e w' => e = .returned (.bool true) ∧ Below w.heap.size w w' := by
 by_cases h : l.length ≤ 40 ∧ ch.length ≤ 10 ∧ wk.length ≤ 10
 ·exact slides_main hl hcl h.1 h1 hr1 h.2.1 h2 hr2 h.2.2
 ·exact slides_big h
end
end Go.Proofs.YtjpaogapclfajaaGreat
