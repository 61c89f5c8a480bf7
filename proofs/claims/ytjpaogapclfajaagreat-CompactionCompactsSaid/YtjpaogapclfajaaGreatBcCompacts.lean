/- Law 12: CompactionCompacts. (printed by gen/compacts.py) -/
import Derived.Test.YtjpaogapclfajaaGreatBc30
import Derived.Test.YtjpaogapclfajaaGreatBcA
import Derived.Test.YtjpaogapclfajaaGreatBcEqs
import Derived.Test.YtjpaogapclfajaaGreatBcR12b
import Derived.Test.YtjpaogapclfajaaGreatBcSameO
namespace Go.Proofs.YtjpaogapclfajaaGreat
set_option linter.unusedVariables false
set_option linter.unusedSimpArgs false
set_option linter.unusedSectionVars false
open Go.RowKit Go.Sort
attribute [local go_sem] Oper.semAt_some onlyN_normal
set_option maxRecDepth 100000
def CPR (W : World) (x1 x2 x4 x5 x7 : Value) (n1 n2 n3 : Nat) (ys zs us : List Value) : Nat → Value → World → Prop
 | 0, v, w => w.ownsRow W.heap.size 51 1 v 0 []
 | 1, v, _ => v = x1
 | 2, v, _ => v = x2
 | 3, v, w => w.ownsRow W.heap.size 51 1 v (0 + n1) ([] ++ ys)
 | 4, v, _ => v = x4
 | 5, v, _ => v = x5
 | 6, v, w => w.ownsRow W.heap.size 51 1 v (0 + n1 + n2) ([] ++ ys ++ zs)
 | 7, v, _ => v = x7
 | 8, v, w => w.ownsRow W.heap.size 51 1 v (0 + n1 + n2 + n3) ([] ++ ys ++ zs ++ us)
 | _, _, _ => False
def CPO : Nat → Value → Option Nat
 | 0, v => blkOf v
 | 3, v => blkOf v
 | 6, v => blkOf v
 | 8, v => blkOf v
 | _, _ => none
def CPds : Nat → List Nat
 | 2 => [1]
 | 3 => [0, 2]
 | 5 => [4]
 | 6 => [3, 5]
 | 8 => [6, 7]
 | _ => []
def CPeat : Nat → List Nat
 | 3 => [0]
 | 6 => [3]
 | 8 => [6]
 | _ => []
theorem CPR_loc {W : World} {x1 x2 x4 x5 x7 : Value} {n1 n2 n3 : Nat} {ys zs us : List Value} (i : Nat) (v : Value) (w w' : World) (hi : i < 9) (h : CPR W x1 x2 x4 x5 x7 n1 n2 n3 ys zs us i v w) (hk : ∀ k, CPO i v = some k → w'.heap[k]? = w.heap[k]?) : CPR W x1 x2 x4 x5 x7 n1 n2 n3 ys zs us i v w' := by
 rcases (show i = 0 ∨ i = 1 ∨ i = 2 ∨ i = 3 ∨ i = 4 ∨ i = 5 ∨ i = 6 ∨ i = 7 ∨ i = 8 by omega) with rfl | rfl | rfl | rfl | rfl | rfl | rfl | rfl | rfl
 ·exact own_local h fun k' h' => hk k' ((own_blk h).trans h')
 ·exact h
 ·exact h
 ·exact own_local h fun k' h' => hk k' ((own_blk h).trans h')
 ·exact h
 ·exact h
 ·exact own_local h fun k' h' => hk k' ((own_blk h).trans h')
 ·exact h
 ·exact own_local h fun k' h' => hk k' ((own_blk h).trans h')
theorem cmp_rmovd {s : Spc} {roots weak sg wl ms : List Int} (hP : s.Pl ms) (hk : Mks s roots weak sg wl) (hm : ∀ a ∈ ms, a ∈ sg ++ wl) : ms.flatMap ((Mm.one s).rmovd s.base ms) = (s.cmp ms).ws := by
 unfold Spc.cmp
 dsimp only
 rw [List.flatMap_def, List.flatMap_def]
 congr 1
 refine List.map_congr_left fun a ha => rmovd_eq (Spc.objs_obj (hP.ob a ha)).1 ?_
 by_cases h3 : ((Mm.one s).hdr a).2.k = 3
 ·exact .inr h3
 ·exact .inl (hk.good.2 a (hm a ha) h3)
section
variable {w : World} {Al A1 A2 A3 : Option Addr} {n cl n1 c1 n2 c2 n3 c3 : Nat}
theorem compacts_big (h : ¬ (n ≤ 40 ∧ n1 ≤ 10 ∧ n2 ≤ 10) ∨ ((n ≤ 40 ∧ n1 ≤ 10 ∧ n2 ≤ 10) ∧ 10 < n3)) : Calls Tryz.prog 7 #[.slice Al n cl, .slice A1 n1 c1, .slice A2 n2 c2, .slice A3 n3 c3] w fun e w' => e = .returned (.bool true) ∧ Below w.heap.size w w' := by
 have cF := few_any (w := w) (Al := Al) (A1 := A1) (A2 := A2) (n := n) (cl := cl) (n1 := n1) (c1 := c1) (n2 := n2) (c2 := c2)
 have cA := awake12_any (w := w)
 rcases h with h | ⟨h, h3⟩
 rw [decide_eq_false h] at cF
 rotate_left
 rw [decide_eq_true h] at cF
 have d3 : decide ((10 : Int) < (n3 : Int)) = true := decide_eq_true (by omega)
 clear h3
 all_goals
  clear h
  go_enter Tryz.func7, Tryz.ntmps7
  go_wp2_with fail
  refine cF.mono ?_
  rintro e w1 ⟨rfl, rfl⟩
  go_wp2_with fail
  refine cA.mono ?_
  rintro e w1 ⟨rfl, hb1⟩
  have HB1 := lh hb1
  clear hb1 cA cF
  go_wp2_with fail
  go_ret
  exact ⟨rfl, HB1.out⟩
end
section
variable {w : World} {l : List Op1} {Al : Option Addr} {cl : Nat} {ch wk : List Int} {A1c A2c A3c : Option Addr} {c1 c2 c3 : Nat} {more : List Int}
set_option maxHeartbeats 16000000 in
theorem compacts_main (hl : Op1s w Al l) (hcl : l.length ≤ cl) (hn : l.length ≤ 40) (h1 : IS w ch A1c c1) (hr1 : ∀ x ∈ ch, -9223372036854775808 ≤ x ∧ x ≤ 9223372036854775807) (hn1 : ch.length ≤ 10) (h2 : IS w wk A2c c2) (hr2 : ∀ x ∈ wk, -9223372036854775808 ≤ x ∧ x ≤ 9223372036854775807) (hn2 : wk.length ≤ 10) (h3 : Sl w 1 A3c more.length (wds more)) (hc3 : more.length ≤ c3) (hu3 : ∀ x ∈ more, U64 x) (hn3 : more.length ≤ 10) : Calls Tryz.prog 7 #[.slice Al l.length cl, .slice A1c ch.length c1, .slice A2c wk.length c2, .slice A3c more.length c3] w fun e w' => e = .returned (.bool true) ∧ Below w.heap.size w w' := by
 have cF := few_any (w := w) (Al := Al) (A1 := A1c) (A2 := A2c) (n := l.length) (cl := cl) (n1 := ch.length) (c1 := c1) (n2 := wk.length) (c2 := c2)
 rw [decide_eq_true ⟨hn, hn1, hn2⟩] at cF
 have cB := build12_any hl hcl hn h1 hr1 hn1 h2 hr2 hn2
 have cA := fun w => awake12_any (w := w)
 have HM3 := lh h3
 have HU3 := lh hu3
 have d3 : decide ((10 : Int) < (more.length : Int)) = false := decide_eq_false (by omega)
 clear hl hcl h1 hr1 h2 hr2 h3 hu3
 go_enter Tryz.func7, Tryz.ntmps7
 go_wp2_with fail
 refine cF.mono ?_
 rintro e w0 ⟨rfl, rfl⟩
 go_wp2_with fail
 refine cB.mono ?_
 rintro e w2 hbp
 unfold Bd12P at hbp
 obtain ⟨q, hq⟩ : ∃ q, q = bld1 l := ⟨_, rfl⟩
 rw [← hq] at hbp
 obtain ⟨ra, hra⟩ : ∃ ra, ra = rts1 q.2 ch := ⟨_, rfl⟩
 obtain ⟨rk, hrk⟩ : ∃ rk, rk = rts1 q.2 wk := ⟨_, rfl⟩
 rw [← hra, ← hrk] at hbp
 clear hq hra hrk cB cF
 cases hm : (Mm.one q.1.old).marks ra with
 | none =>
  rw [hm] at hbp
  obtain ⟨⟨y0, y1, y2, y3, y4, y5, y6, y7, y8, y9, ya, yb, rfl⟩, hb⟩ := hbp
  have HB := lh hb
  clear hm hb
  go_wp2_with fail
  refine (cA _).mono ?_
  rintro e w3 ⟨rfl, hb3⟩
  have HB3 := lh hb3
  clear hb3
  go_wp2_with fail
  go_ret
  exact ⟨rfl, HB.out.trans ((((Below.refl _ _).alloc (Nat.le_refl _) _).trans (HB3.out.mono (by simp))).mono HB.out.size)⟩
 | some pr =>
  obtain ⟨sg, wl0⟩ := pr
  rw [hm] at hbp
  dsimp only at hbp
  obtain ⟨g, V, A1, e1, gm, bm, Am, cm, Ar, cr, Aw, cw, rfl, hen⟩ := hbp
  obtain ⟨wl, hwl⟩ : ∃ wl, wl = (Mm.one q.1.old).kpx sg wl0 rk := ⟨_, rfl⟩
  rw [← hwl] at hen ⊢
  obtain ⟨s, hs⟩ : ∃ s, s = q.1.old := ⟨_, rfl⟩
  rw [← hs] at hen ⊢
  obtain ⟨ms, hms⟩ : ∃ ms, ms = srtI (sg ++ wl) := ⟨_, rfl⟩
  rw [← hms]
  have HEN := lh hen
  have HMS := lh hms
  clear hm hwl hs hms hen
  go_upto_region 6 with fail
  have hbx : Below w2.heap.size w2 (w2.alloc (.cells #[.pointer (some ⟨g, 0, none⟩), .int .i64 s.base, .int .i64 s.limit, .slice A1 s.ws.length e1, .pointer (some ⟨gm, 0, none⟩), .slice Am ms.length cm, .slice Ar ra.length cr, .slice Aw rk.length cw] 64)) := (Below.refl _ _).alloc (Nat.le_refl _) _
  have HT : Hid (Bk (w2.alloc (.cells #[.pointer (some ⟨g, 0, none⟩), .int .i64 s.base, .int .i64 s.limit, .slice A1 s.ws.length e1, .pointer (some ⟨gm, 0, none⟩), .slice Am ms.length cm, .slice Ar ra.length cr, .slice Aw rk.length cw] 64)) w2.heap.size 64 #[.pointer (some ⟨g, 0, none⟩), .int .i64 s.base, .int .i64 s.limit, .slice A1 s.ws.length e1, .pointer (some ⟨gm, 0, none⟩), .slice Am ms.length cm, .slice Ar ra.length cr, .slice Aw rk.length cw]) := lh (Bk.new _ _ _)
  have HE3 := lh (HEN.out.below hbx)
  have hgt : w.heap.size ≤ w2.heap.size := HEN.out.bl.size
  clear hbx HEN
  generalize w2.alloc (.cells #[.pointer (some ⟨g, 0, none⟩), .int .i64 s.base, .int .i64 s.limit, .slice A1 s.ws.length e1, .pointer (some ⟨gm, 0, none⟩), .slice Am ms.length cm, .slice Ar ra.length cr, .slice Aw rk.length cw] 64) = w3 at *
  generalize w2.heap.size = gt at *
  have HRT := lh HE3.out.rt
  have HWK := lh HE3.out.wk
  have HM3x := lh (HM3.out.below HE3.out.bl)
  have hrc := HE3.out.rc
  have hwc := HE3.out.wc
  have hrl := HE3.out.rl
  have hkl := HE3.out.kl
  obtain ⟨i0, hi, hz0, hz1, hz2⟩ := info_parts i_word
  have HI := lh (And.intro hi (And.intro hz0 (And.intro hz1 hz2)))
  clear hi hz0 hz1 hz2
  refine wp_region_sep 9 CPds CPeat (CPR w3 (.pointer (some ⟨gt, 6, none⟩)) (.slice Ar ra.length cr) (.pointer (some ⟨gt, 7, none⟩)) (.slice Aw rk.length cw) (.slice A3c more.length c3) ra.length rk.length more.length (wds ra) (wds rk) (wds more)) CPO (by kernel_rfl) (by kernel_rfl) (by rfl) (fun i v w1 w2 hi h h1 h2 _ hk => CPR_loc i v w1 w2 hi h hk) ?_ ?_
  ·intro i hi o ho vs w1 hg
   have hWs := hg.1.size
   have hbk := HT.out.below hg.1 HT.out.lt
   have d6 : w1.cell? ⟨gt, 6, none⟩ = some (.slice Ar ra.length cr) := hbk.cell 6
   have d7 : w1.cell? ⟨gt, 7, none⟩ = some (.slice Aw rk.length cw) := hbk.cell 7
   have HG := lh hg
   have hgr := hg.2.1
   clear hg hbk
   rcases (show i = 0 ∨ i = 1 ∨ i = 2 ∨ i = 3 ∨ i = 4 ∨ i = 5 ∨ i = 6 ∨ i = 7 ∨ i = 8 by omega) with rfl | rfl | rfl | rfl | rfl | rfl | rfl | rfl | rfl <;> cases ho
   ·clear hgr
    change Made _ _ (Sem.run _ (execOp (Act.eval (frm _ _ _ [])) _) _)
    simp only [frm]
    go_simp
    refine made_ok ?_
    exact lays_alloc (ownEmpty 1 (Bk.new _ _ _) hWs) rfl hWs
   ·clear hgr
    change Made _ _ (Sem.run _ (execOp (Act.eval (frm _ _ _ [])) _) _)
    simp only [frm]
    go_simp
    exact made_ok (lays_pure rfl rfl)
   ·have h1 : vs 1 = _ := (hgr 1 (by simp [CPds])).1
    clear hgr
    change Made _ _ (Sem.run _ (execOp (Act.eval (Act.put (frm _ _ _ []) (some 50) (vs 1))) _) _)
    simp only [frm, h1]
    go_simp
    exact made_ok (lays_pure rfl rfl)
   ·have hown0 := (hgr 0 (by simp [CPds])).1
    obtain ⟨A0, c10, h0, _⟩ := own_shape hown0
    have h2 : vs 2 = _ := (hgr 2 (by simp [CPds])).1
    clear hgr
    change Made _ _ (Sem.run _ (execOp (Act.eval (Act.put (Act.put (frm _ _ _ []) (some 51) (vs 2)) (some 49) (vs 0))) _) _)
    simp only [frm, h0, h2]
    rw [h0] at hown0
    refine made_append (.tmp 49) (.tmp 51) 28 rfl Tryz.underlying28 HI.out.1 HI.out.2.1 HI.out.2.2.1 HI.out.2.2.2 rfl (by decide) (v := .slice A0 0 c10) (n := 0) (xs := []) rfl hown0 (A := Ar) (m := ra.length) (c := cr) (news := wds ra) rfl (HRT.out.below HG.out.1) (wds_one _) (by unfold maxLen; omega) (by omega) hWs fun v' w' ho hgr2 h4' => ?_
    exact lays_append HG.out (j := 0) (by simp [CPeat]) (by simp [CPds]) hown0 (by rw [h0]; rfl) hgr2 ho h4' ho rfl
   ·clear hgr
    change Made _ _ (Sem.run _ (execOp (Act.eval (frm _ _ _ [])) _) _)
    simp only [frm]
    go_simp
    exact made_ok (lays_pure rfl rfl)
   ·have h4 : vs 4 = _ := (hgr 4 (by simp [CPds])).1
    clear hgr
    change Made _ _ (Sem.run _ (execOp (Act.eval (Act.put (frm _ _ _ []) (some 53) (vs 4))) _) _)
    simp only [frm, h4]
    go_simp
    exact made_ok (lays_pure rfl rfl)
   ·have hown3 := (hgr 3 (by simp [CPds])).1
    obtain ⟨A3, c13, h3, _⟩ := own_shape hown3
    have h5 : vs 5 = _ := (hgr 5 (by simp [CPds])).1
    clear hgr
    change Made _ _ (Sem.run _ (execOp (Act.eval (Act.put (Act.put (frm _ _ _ []) (some 54) (vs 5)) (some 52) (vs 3))) _) _)
    simp only [frm, h3, h5]
    replace hown3 : w1.ownsRow w3.heap.size 51 1 (vs 3) (0 + ra.length) ([] ++ wds ra) := hown3
    rw [h3] at hown3
    refine made_append (.tmp 52) (.tmp 54) 28 rfl Tryz.underlying28 HI.out.1 HI.out.2.1 HI.out.2.2.1 HI.out.2.2.2 rfl (by decide) (v := .slice A3 (0 + ra.length) c13) (n := (0 + ra.length)) (xs := ([] ++ wds ra)) rfl hown3 (A := Aw) (m := rk.length) (c := cw) (news := wds rk) rfl (HWK.out.below HG.out.1) (wds_one _) (by unfold maxLen; omega) (by omega) hWs fun v' w' ho hgr2 h4' => ?_
    exact lays_append HG.out (j := 3) (by simp [CPeat]) (by simp [CPds]) hown3 (by rw [h3]; rfl) hgr2 ho h4' ho rfl
   ·clear hgr
    change Made _ _ (Sem.run _ (execOp (Act.eval (frm _ _ _ [])) _) _)
    simp only [frm]
    go_simp
    exact made_ok (lays_pure rfl rfl)
   ·have hown6 := (hgr 6 (by simp [CPds])).1
    obtain ⟨A6, c16, h6, _⟩ := own_shape hown6
    have h7 : vs 7 = _ := (hgr 7 (by simp [CPds])).1
    clear hgr
    change Made _ _ (Sem.run _ (execOp (Act.eval (Act.put (Act.put (frm _ _ _ []) (some 56) (vs 7)) (some 55) (vs 6))) _) _)
    simp only [frm, h6, h7]
    replace hown6 : w1.ownsRow w3.heap.size 51 1 (vs 6) (0 + ra.length + rk.length) ([] ++ wds ra ++ wds rk) := hown6
    rw [h6] at hown6
    refine made_append (.tmp 55) (.tmp 56) 28 rfl Tryz.underlying28 HI.out.1 HI.out.2.1 HI.out.2.2.1 HI.out.2.2.2 rfl (by decide) (v := .slice A6 (0 + ra.length + rk.length) c16) (n := (0 + ra.length + rk.length)) (xs := ([] ++ wds ra ++ wds rk)) rfl hown6 (A := A3c) (m := more.length) (c := c3) (news := wds more) rfl (HM3x.out.below HG.out.1) (wds_one _) (by unfold maxLen; omega) (by omega) hWs fun v' w' ho hgr2 h4' => ?_
    exact lays_append HG.out (j := 6) (by simp [CPeat]) (by simp [CPds]) hown6 (by rw [h6]; rfl) hgr2 ho h4' ho rfl
  ·intro vs w4 hb hall hap
   obtain ⟨hown10, q10⟩ := hall 8 (by omega) (by decide)
   replace hown10 : w4.ownsRow w3.heap.size 51 1 (vs 8) (0 + ra.length + rk.length + more.length) ([] ++ wds ra ++ wds rk ++ wds more) := hown10
   rw [show ([] ++ wds ra ++ wds rk ++ wds more : List Value) = wds (ra ++ rk ++ more) by simp [wds]] at hown10
   obtain ⟨l', hl⟩ : ∃ l', l' = ra ++ rk ++ more := ⟨_, rfl⟩
   rw [show 0 + ra.length + rk.length + more.length = l'.length by rw [hl]; simp; omega, ← hl] at hown10
   obtain ⟨A10, c10, h10, hc10⟩ := own_shape hown10
   rw [h10] at hown10
   change wpList _ _ _ [_] (Act.put (Act.put (Act.put (Act.put (Act.put (Act.put (Act.put (Act.put (Act.put (frm _ _ _ []) (some 57) (vs 8)) (some 56) (vs 7)) (some 55) (vs 6)) (some 54) (vs 5)) (some 53) (vs 4)) (some 52) (vs 3)) (some 51) (vs 2)) (some 50) (vs 1)) (some 49) (vs 0)) _
   simp only [frm, h10]
   have HE4 := lh (HE3.out.below hb)
   have HT4 := lh (HT.out.below hb HT.out.lt)
   have HSL := lh (own_sl hown10)
   have HL4 := lh hown10
   have hll : l'.length ≤ 30 := by rw [hl]; simp; omega
   have HLU : Hid (∀ x ∈ l', U64 x) := lh (by
    rw [hl]
    intro x hx
    rcases List.mem_append.1 hx with hx | hx
    ·rcases List.mem_append.1 hx with hx | hx
     ·exact HE3.out.ru x hx
     ·exact HE3.out.wu x hx
    ·exact HU3.out x hx)
   have cC := HE4.out.compact HSL.out hc10 HLU.out (by omega)
   rw [← HMS.out] at cC
   have hml : ms.length ≤ 16777216 := by rw [HMS.out, srtI_len]; exact HE4.out.mln
   have hinc : ms.Pairwise (· < ·) := by rw [HMS.out]; exact srtI_lt HE4.out.mks.nd
   have HB0 := lh HE4.out.b0
   have HL0 := lh HE4.out.l0
   have d0 : w4.cell? ⟨gt, 0, none⟩ = some (.pointer (some ⟨g, 0, none⟩)) := HT4.out.cell 0
   have d4 : w4.cell? ⟨gt, 4, none⟩ = some (.pointer (some ⟨gm, 0, none⟩)) := HT4.out.cell 4
   clear hall hap q10 hb hown10 h10 hl
   go_wp2_with fail
   refine cC.mono ?_
   rintro e w5 hc5
   have HPLQ : Hid True := lh trivial
   unfold CmpP at hc5
   clear cC d0 d4
   cases hpl : s.plan ms with
   | none =>
    rw [hpl] at hc5
    dsimp only at hc5
    obtain ⟨rfl, hb5⟩ := hc5
    have HE5 := lh (HE4.out.below hb5)
    have HT5 := lh (HT4.out.below hb5 HT4.out.lt)
    have cR := RCompact_any HE5.out.rs HB0.out HL0.out (by have := HE5.out.ms; rw [← HMS.out] at this; exact this) hml hinc (HSL.out.below hb5) hc10 HLU.out (by omega)
    unfold RCmpP at cR
    rw [hpl] at cR
    dsimp only at cR
    have d1 : w5.cell? ⟨gt, 1, none⟩ = some (.int .i64 s.base) := HT5.out.cell 1
    have d2 : w5.cell? ⟨gt, 2, none⟩ = some (.int .i64 s.limit) := HT5.out.cell 2
    have d3 : w5.cell? ⟨gt, 3, none⟩ = some (.slice A1 s.ws.length e1) := HT5.out.cell 3
    have d5 : w5.cell? ⟨gt, 5, none⟩ = some (.slice Am ms.length cm) := HT5.out.cell 5
    clear hpl hb5 HE4 HT4 HPLQ
    go_wp2_with fail
    refine cR.mono ?_
    rintro e w6 ⟨hb6, rfl⟩
    have HE6 := lh (HE5.out.below hb6)
    have HT6 := lh (HT5.out.below hb6 HT5.out.lt)
    clear cR hb6 d1 d2 d3 d5 HE5 HT5
    go_upto_region 9 with fail
    have hbx : Below w6.heap.size w6 (w6.alloc (.cells #[.int .i64 s.base, .int .i64 s.limit, .slice A1 s.ws.length e1] 30)) := (Below.refl _ _).alloc (Nat.le_refl _) _
    have HK16 : Hid (Bk (w6.alloc (.cells #[.int .i64 s.base, .int .i64 s.limit, .slice A1 s.ws.length e1] 30)) w6.heap.size 30 #[.int .i64 s.base, .int .i64 s.limit, .slice A1 s.ws.length e1]) := lh (Bk.new _ _ _)
    have HBX := lh hbx
    have HT7 := lh (HT6.out.below hbx HT6.out.lt)
    clear hbx
    generalize w6.alloc (.cells #[.int .i64 s.base, .int .i64 s.limit, .slice A1 s.ws.length e1] 30) = w7 at *
    obtain ⟨g16, hg16⟩ : ∃ g16, g16 = w6.heap.size := ⟨_, rfl⟩
    rw [← hg16] at HK16 ⊢
    clear hg16
    have cW := Words6_t (w := w7) (l := []) (m := []) (A := none) (B := none) (c := 0) (d := 0) (by decide) (Nat.le_refl _) (Nat.le_refl _) ⟨rfl, .inl rfl⟩ ⟨rfl, .inl rfl⟩
    rw [show eqL ([] : List Int) [] = true from rfl] at cW
    go_wp2_with fail
    refine cW.mono ?_
    rintro e w8 ⟨rfl, hb8⟩
    have HB8 := lh (HBX.out.trans (hb8.mono HBX.out.size))
    have cS := SameO_any (HE6.out.sp.below HB8.out) HE6.out.b0 HE6.out.l0 (HE6.out.rs.below HB8.out)
    have u0 : w8.cell? ⟨g16, 0, none⟩ = some (.int .i64 s.base) := (HK16.out.below hb8 HK16.out.lt).cell 0
    have u1 : w8.cell? ⟨g16, 1, none⟩ = some (.int .i64 s.limit) := (HK16.out.below hb8 HK16.out.lt).cell 1
    have u2 : w8.cell? ⟨g16, 2, none⟩ = some (.slice A1 s.ws.length e1) := (HK16.out.below hb8 HK16.out.lt).cell 2
    have d0 : w8.cell? ⟨gt, 0, none⟩ = some (.pointer (some ⟨g, 0, none⟩)) := (HT7.out.below hb8 HT7.out.lt).cell 0
    clear cW hb8 HK16 HT7
    go_wp2_with fail
    refine cS.mono ?_
    rintro e w9 ⟨rfl, hb9⟩
    have HB9 := lh (HB8.out.trans (hb9.mono HB8.out.size))
    clear cS hb9 u0 u1 u2 d0
    go_wp2_with fail
    refine (cA _).mono ?_
    rintro e w10 ⟨rfl, hb10⟩
    have HB10 := lh (HB9.out.trans (hb10.mono HB9.out.size))
    clear hb10
    go_wp2_with fail
    go_ret
    exact ⟨rfl, HE6.out.bl.trans (HB10.out.mono HE6.out.bl.size)⟩
   | some ns =>
    rw [hpl] at hc5
    cases hup : (Mm.one s).updL s.base ms l' with
    | none =>
     rw [hup] at hc5
     dsimp only at hc5
     obtain ⟨rfl, hb5⟩ := hc5
     have HE5 := lh (HE4.out.below hb5)
     have HT5 := lh (HT4.out.below hb5 HT4.out.lt)
     have cR := RCompact_any HE5.out.rs HB0.out HL0.out (by have := HE5.out.ms; rw [← HMS.out] at this; exact this) hml hinc (HSL.out.below hb5) hc10 HLU.out (by omega)
     unfold RCmpP at cR
     rw [hpl, hup] at cR
     dsimp only at cR
     have d1 : w5.cell? ⟨gt, 1, none⟩ = some (.int .i64 s.base) := HT5.out.cell 1
     have d2 : w5.cell? ⟨gt, 2, none⟩ = some (.int .i64 s.limit) := HT5.out.cell 2
     have d3 : w5.cell? ⟨gt, 3, none⟩ = some (.slice A1 s.ws.length e1) := HT5.out.cell 3
     have d5 : w5.cell? ⟨gt, 5, none⟩ = some (.slice Am ms.length cm) := HT5.out.cell 5
     clear hpl hup hb5 HE4 HT4 HPLQ
     go_wp2_with fail
     refine cR.mono ?_
     rintro e w6 ⟨hb6, rfl⟩
     have HE6 := lh (HE5.out.below hb6)
     have HT6 := lh (HT5.out.below hb6 HT5.out.lt)
     clear cR hb6 d1 d2 d3 d5 HE5 HT5
     go_upto_region 9 with fail
     have hbx : Below w6.heap.size w6 (w6.alloc (.cells #[.int .i64 s.base, .int .i64 s.limit, .slice A1 s.ws.length e1] 30)) := (Below.refl _ _).alloc (Nat.le_refl _) _
     have HK16 : Hid (Bk (w6.alloc (.cells #[.int .i64 s.base, .int .i64 s.limit, .slice A1 s.ws.length e1] 30)) w6.heap.size 30 #[.int .i64 s.base, .int .i64 s.limit, .slice A1 s.ws.length e1]) := lh (Bk.new _ _ _)
     have HBX := lh hbx
     have HT7 := lh (HT6.out.below hbx HT6.out.lt)
     clear hbx
     generalize w6.alloc (.cells #[.int .i64 s.base, .int .i64 s.limit, .slice A1 s.ws.length e1] 30) = w7 at *
     obtain ⟨g16, hg16⟩ : ∃ g16, g16 = w6.heap.size := ⟨_, rfl⟩
     rw [← hg16] at HK16 ⊢
     clear hg16
     have cW := Words6_t (w := w7) (l := []) (m := []) (A := none) (B := none) (c := 0) (d := 0) (by decide) (Nat.le_refl _) (Nat.le_refl _) ⟨rfl, .inl rfl⟩ ⟨rfl, .inl rfl⟩
     rw [show eqL ([] : List Int) [] = true from rfl] at cW
     go_wp2_with fail
     refine cW.mono ?_
     rintro e w8 ⟨rfl, hb8⟩
     have HB8 := lh (HBX.out.trans (hb8.mono HBX.out.size))
     have cS := SameO_any (HE6.out.sp.below HB8.out) HE6.out.b0 HE6.out.l0 (HE6.out.rs.below HB8.out)
     have u0 : w8.cell? ⟨g16, 0, none⟩ = some (.int .i64 s.base) := (HK16.out.below hb8 HK16.out.lt).cell 0
     have u1 : w8.cell? ⟨g16, 1, none⟩ = some (.int .i64 s.limit) := (HK16.out.below hb8 HK16.out.lt).cell 1
     have u2 : w8.cell? ⟨g16, 2, none⟩ = some (.slice A1 s.ws.length e1) := (HK16.out.below hb8 HK16.out.lt).cell 2
     have d0 : w8.cell? ⟨gt, 0, none⟩ = some (.pointer (some ⟨g, 0, none⟩)) := (HT7.out.below hb8 HT7.out.lt).cell 0
     clear cW hb8 HK16 HT7
     go_wp2_with fail
     refine cS.mono ?_
     rintro e w9 ⟨rfl, hb9⟩
     have HB9 := lh (HB8.out.trans (hb9.mono HB8.out.size))
     clear cS hb9 u0 u1 u2 d0
     go_wp2_with fail
     refine (cA _).mono ?_
     rintro e w10 ⟨rfl, hb10⟩
     have HB10 := lh (HB9.out.trans (hb10.mono HB9.out.size))
     clear hb10
     go_wp2_with fail
     go_ret
     exact ⟨rfl, HE6.out.bl.trans (HB10.out.mono HE6.out.bl.size)⟩
    | some out =>
     rw [hup] at hc5
     dsimp only at hc5
     obtain ⟨v, V', rfl, ho5, hsp, hva, hvv, hkp⟩ := hc5
     have HC5 := lh (HE4.out.cpd hsp hkp)
     have HT5 : Hid (Bk w5 gt 64 #[.pointer (some ⟨g, 0, none⟩), .int .i64 s.base, .int .i64 s.limit, .slice A1 s.ws.length e1, .pointer (some ⟨gm, 0, none⟩), .slice Am ms.length cm, .slice Ar ra.length cr, .slice Aw rk.length cw]) := lh (HT4.out.kp hkp fun e => by
      rcases e with e | e
      ·exact Bk.neT HT4.out HE4.out.sp.hd (by decide) e
      ·exact HE4.out.sp.own_ne HT4.out (by decide) e)
     have hg3 : g < w3.heap.size := HE3.out.sp.hd.lt
     have HL5 := lh (own_local HL4.out (w' := w5) fun k hk => hkp.block k (HL4.out.lt k hk).2 fun e => by
      have h1 := (HL4.out.lt k hk).1
      rcases e with e | e
      ·omega
      ·have := (HE3.out.sp.own.lt k e).2; omega)
     have hpl2 := Spc.plan_some hinc hpl
     have HRM : Hid (ms.flatMap ((Mm.one s).rmovd s.base ms) = (s.cmp ms).ws) := lh (cmp_rmovd hpl2.1 HE4.out.mks fun a ha => by rw [HMS.out] at ha; exact (srtI_mem _ a).1 ha)
     have hco := cmp_ok HE4.out.sp.ok hpl2.1
     have HCO := lh hco
     have cR := RCompact_any HC5.out.rs HB0.out HL0.out (by have := HC5.out.ms; rw [← HMS.out] at this; exact this) hml hinc (own_sl HL5.out) hc10 HLU.out (by omega)
     unfold RCmpP at cR
     rw [hpl, hup] at cR
     dsimp only at cR
     rw [HRM.out] at cR
     obtain ⟨Av, cv, rfl, hcv⟩ := own_shape ho5
     have hou : out.length ≤ 30 := by rw [updL_len hup]; omega
     have HO5 := lh ho5
     have HB0c : Hid ((s.cmp ms).base = 0) := lh HE4.out.b0
     have HL0c : Hid ((s.cmp ms).limit ≤ 16777216) := lh HE4.out.l0
     have d1 : w5.cell? ⟨gt, 1, none⟩ = some (.int .i64 s.base) := HT5.out.cell 1
     have d2 : w5.cell? ⟨gt, 2, none⟩ = some (.int .i64 s.limit) := HT5.out.cell 2
     have d3 : w5.cell? ⟨gt, 3, none⟩ = some (.slice A1 s.ws.length e1) := HT5.out.cell 3
     have d5 : w5.cell? ⟨gt, 5, none⟩ = some (.slice Am ms.length cm) := HT5.out.cell 5
     clear ho5 hsp hva hvv hkp hpl2 hco HE4 HT4 HPLQ hpl hup HL4 HSL
     go_wp2_with fail
     refine cR.mono ?_
     rintro e w6 ⟨hb6, A6, c6, v6, rfl, hw6, hr6⟩
     obtain ⟨Ar6, cr6, rfl, hcr6⟩ := own_shape hr6
     have HC6 := lh (HC5.out.below hb6)
     have HT6 := lh (HT5.out.below hb6 HT5.out.lt)
     have HS6 := lh (own_sl hr6)
     have HSA := lh ((own_sl HO5.out).below hb6)
     have hcap6 : (s.cmp ms).ws.length ≤ c6 := by
      obtain ⟨A', c', he, hc'⟩ := own_shape hw6
      injection he with e1 e2 e3
      omega
     have HRS6 : Hid (RS w6 (s.cmp ms) A6 c6) := lh ⟨own_sl hw6, hcap6, HCO.out.u, HCO.out.b0, HCO.out.lim, HCO.out.l0, fun b o e => (hw6.lt b (by rw [e]; rfl)).2⟩
     clear cR hb6 d1 d2 d3 d5 HC5 HT5 HL5 HO5 hw6 hr6 hcap6
     go_upto_region 9 with fail
     have hbx : Below w6.heap.size w6 (w6.alloc (.cells #[.int .i64 s.base, .int .i64 s.limit, .slice A6 (s.cmp ms).ws.length c6] 30)) := (Below.refl _ _).alloc (Nat.le_refl _) _
     have HK16 : Hid (Bk (w6.alloc (.cells #[.int .i64 s.base, .int .i64 s.limit, .slice A6 (s.cmp ms).ws.length c6] 30)) w6.heap.size 30 #[.int .i64 s.base, .int .i64 s.limit, .slice A6 (s.cmp ms).ws.length c6]) := lh (Bk.new _ _ _)
     have HBX := lh hbx
     have HT7 := lh (HT6.out.below hbx HT6.out.lt)
     clear hbx
     generalize w6.alloc (.cells #[.int .i64 s.base, .int .i64 s.limit, .slice A6 (s.cmp ms).ws.length c6] 30) = w7 at *
     obtain ⟨g16, hg16⟩ : ∃ g16, g16 = w6.heap.size := ⟨_, rfl⟩
     rw [← hg16] at HK16 ⊢
     clear hg16
     have cW := Words6_t (w := w7) (l := out) (m := out) (A := Av) (B := Ar6) (c := cv) (d := cr6) (by omega) hcv hcr6 (HSA.out.below HBX.out) (HS6.out.below HBX.out)
     rw [show eqL out out = true from decide_eq_true rfl] at cW
     go_wp2_with fail
     refine cW.mono ?_
     rintro e w8 ⟨rfl, hb8⟩
     have HB8 := lh (HBX.out.trans (hb8.mono HBX.out.size))
     have cS := SameO_any (HC6.out.sp.below HB8.out) HB0c.out HL0c.out (HRS6.out.below HB8.out)
     have u0 : w8.cell? ⟨g16, 0, none⟩ = some (.int .i64 s.base) := (HK16.out.below hb8 HK16.out.lt).cell 0
     have u1 : w8.cell? ⟨g16, 1, none⟩ = some (.int .i64 s.limit) := (HK16.out.below hb8 HK16.out.lt).cell 1
     have u2 : w8.cell? ⟨g16, 2, none⟩ = some (.slice A6 (s.cmp ms).ws.length c6) := (HK16.out.below hb8 HK16.out.lt).cell 2
     have d0 : w8.cell? ⟨gt, 0, none⟩ = some (.pointer (some ⟨g, 0, none⟩)) := (HT7.out.below hb8 HT7.out.lt).cell 0
     clear cW hb8 HK16 HT7
     go_wp2_with fail
     refine cS.mono ?_
     rintro e w9 ⟨rfl, hb9⟩
     have HB9 := lh (HB8.out.trans (hb9.mono HB8.out.size))
     clear cS hb9 u0 u1 u2 d0
     go_wp2_with fail
     refine (cA _).mono ?_
     rintro e w10 ⟨rfl, hb10⟩
     have HB10 := lh (HB9.out.trans (hb10.mono HB9.out.size))
     clear hb10
     go_wp2_with fail
     go_ret
     exact ⟨rfl, HC6.out.bl.trans (HB10.out.mono HC6.out.bl.size)⟩
theorem compacts_any (hl : Op1s w Al l) (hcl : l.length ≤ cl) (h1 : IS w ch A1c c1) (hr1 : ∀ x ∈ ch, -9223372036854775808 ≤ x ∧ x ≤ 9223372036854775807) (h2 : IS w wk A2c c2) (hr2 : ∀ x ∈ wk, -9223372036854775808 ≤ x ∧ x ≤ 9223372036854775807) (h3 : Sl w 1 A3c more.length (wds more)) (hc3 : more.length ≤ c3) (hu3 : ∀ x ∈ more, U64 x) : Calls Tryz.prog 7 #[.slice Al l.length cl, .slice A1c ch.length c1, .slice A2c wk.length c2, .slice A3c more.length c3] w fun e w' => e = .returned (.bool true) ∧ Below w.heap.size w w' := by
 by_cases h : l.length ≤ 40 ∧ ch.length ≤ 10 ∧ wk.length ≤ 10
 ·by_cases hm : more.length ≤ 10
  ·exact compacts_main hl hcl h.1 h1 hr1 h.2.1 h2 hr2 h.2.2 h3 hc3 hu3 hm
  ·exact compacts_big (.inr ⟨h, by omega⟩)
 ·exact compacts_big (.inl h)
end
end Go.Proofs.YtjpaogapclfajaaGreat
