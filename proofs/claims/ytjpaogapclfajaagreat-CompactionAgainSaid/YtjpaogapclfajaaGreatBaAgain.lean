/- Law 12: CompactionAgain. (printed by gen/again.py) -/
import Derived.Test.YtjpaogapclfajaaGreatBa31
import Derived.Test.YtjpaogapclfajaaGreatBaClone
import Derived.Test.YtjpaogapclfajaaGreatBaSepG2
namespace Go.Proofs.YtjpaogapclfajaaGreat
set_option linter.unusedVariables false
set_option linter.unusedSimpArgs false
set_option linter.unusedSectionVars false
open Go.RowKit Go.Sort
attribute [local go_sem] Oper.semAt_some onlyN_normal
set_option maxRecDepth 100000
def AGR (W : World) (x0 x1 x2 x3 x5 x6 x8 x9 : Value) (n1 n2 : Nat) (ys zs : List Value) : Nat → Value → World → Prop
 | 0, v, _ => v = x0
 | 1, v, _ => v = x1
 | 2, v, _ => v = x2
 | 3, v, _ => v = x3
 | 4, v, w => w.ownsRow W.heap.size 51 1 v 0 []
 | 5, v, _ => v = x5
 | 6, v, _ => v = x6
 | 7, v, w => w.ownsRow W.heap.size 51 1 v (0 + n1) ([] ++ ys)
 | 8, v, _ => v = x8
 | 9, v, _ => v = x9
 | 10, v, w => w.ownsRow W.heap.size 51 1 v (0 + n1 + n2) ([] ++ ys ++ zs)
 | _, _, _ => False
def AGO : Nat → Value → Option Nat
 | 4, v => blkOf v
 | 7, v => blkOf v
 | 10, v => blkOf v
 | _, _ => none
def AGds : Nat → List Nat
 | 1 => [0]
 | 3 => [2]
 | 6 => [5]
 | 7 => [4, 6]
 | 9 => [8]
 | 10 => [7, 9]
 | _ => []
def AGeat : Nat → List Nat
 | 7 => [4]
 | 10 => [7]
 | _ => []
theorem AGR_loc {W : World} {x0 x1 x2 x3 x5 x6 x8 x9 : Value} {n1 n2 : Nat} {ys zs : List Value} (i : Nat) (v : Value) (w w' : World) (hi : i < 11) (h : AGR W x0 x1 x2 x3 x5 x6 x8 x9 n1 n2 ys zs i v w) (hk : ∀ k, AGO i v = some k → w'.heap[k]? = w.heap[k]?) : AGR W x0 x1 x2 x3 x5 x6 x8 x9 n1 n2 ys zs i v w' := by
 rcases (show i = 0 ∨ i = 1 ∨ i = 2 ∨ i = 3 ∨ i = 4 ∨ i = 5 ∨ i = 6 ∨ i = 7 ∨ i = 8 ∨ i = 9 ∨ i = 10 by omega) with rfl | rfl | rfl | rfl | rfl | rfl | rfl | rfl | rfl | rfl | rfl
 ·exact h
 ·exact h
 ·exact h
 ·exact h
 ·exact own_local h fun k' h' => hk k' ((own_blk h).trans h')
 ·exact h
 ·exact h
 ·exact own_local h fun k' h' => hk k' ((own_blk h).trans h')
 ·exact h
 ·exact h
 ·exact own_local h fun k' h' => hk k' ((own_blk h).trans h')
theorem Sl.pre {w : World} {A : Option Addr} {xs ys : List Int} {n : Nat} (h : Sl w 1 A n (wds (xs ++ ys))) (hn : n = (xs ++ ys).length) : Sl w 1 A xs.length (wds xs) := by
 refine ⟨by simp [wds], ?_⟩
 rcases h.2 with h0 | ⟨b, o, e, hb, hc⟩
 ·left
  rw [hn, List.length_append] at h0
  omega
 ·refine .inr ⟨b, o, e, hb, fun j x hx => hc j x ?_⟩
  unfold wds at hx ⊢
  rw [List.map_append, List.getElem?_append_left (List.getElem?_eq_some_iff.1 hx).1]
  exact hx
theorem Sl.suf {w : World} {g o : Nat} {xs ys : List Int} {n : Nat} (h : Sl w 1 (some ⟨g, o, none⟩) n (wds (xs ++ ys))) (hn : n = (xs ++ ys).length) : Sl w 1 (some ⟨g, o + xs.length, none⟩) ys.length (wds ys) := by
 refine ⟨by simp [wds], ?_⟩
 rcases Nat.eq_zero_or_pos ys.length with h0 | h0
 ·exact .inl h0
 ·rcases h.2 with h1 | ⟨b, o', e, hb, hc⟩
  ·rw [hn, List.length_append] at h1
   omega
  ·cases e
   refine .inr ⟨g, _, rfl, hb, fun j x hx => ?_⟩
   have := hc (xs.length + j) x (by
    unfold wds at hx ⊢
    rw [List.map_append, List.getElem?_append_right (by simp)]
    simpa using hx)
   rw [← Nat.add_assoc] at this
   exact this
/-- marks within a region -/
def TpD (B : Nat) (m : Mm) (sg wl : List Int) (v : Value) (w : World) : Prop := ∃ g b, v = .tuple #[.pointer (some ⟨g, 0, none⟩), .int .i64 0] ∧ MkR w B g b m sg wl
theorem TpD.bl {B : Nat} {m : Mm} {sg wl : List Int} (v : Value) (w w' : World) (h : TpD B m sg wl v w) (hb : Below w.heap.size w w') : TpD B m sg wl v w' := by
 obtain ⟨g, b, e, h1⟩ := h
 exact ⟨g, b, e, MkR0.below h1 hb⟩
section
variable {w : World} {Al A1 A2 : Option Addr} {n cl n1 c1 n2 c2 : Nat}
theorem again_big (h : ¬ (n ≤ 40 ∧ n1 ≤ 10 ∧ n2 ≤ 10)) : Calls Tryz.prog 10 #[.slice Al n cl, .slice A1 n1 c1, .slice A2 n2 c2] w fun e w' => e = .returned (.bool true) ∧ Below w.heap.size w w' := by
 have cF := few_any (w := w) (Al := Al) (A1 := A1) (A2 := A2) (n := n) (cl := cl) (n1 := n1) (c1 := c1) (n2 := n2) (c2 := c2)
 rw [decide_eq_false h] at cF
 have cA := awake12_any (w := w)
 clear h
 go_enter Tryz.func10, Tryz.ntmps10
 go_wp2_with fail
 refine cF.mono ?_
 rintro e w1 ⟨rfl, rfl⟩
 go_wp2_with fail
 refine cA.mono ?_
 rintro e w1 ⟨rfl, hb1⟩
 have HB1 := Lib.hid hb1
 clear hb1 cA cF
 go_wp2_with fail
 go_ret
 exact ⟨rfl, HB1.out⟩
end
section
variable {w : World} {l : List Op1} {Al : Option Addr} {cl : Nat} {ch wk : List Int} {A1c A2c : Option Addr} {c1 c2 : Nat}
set_option maxHeartbeats 16000000 in
theorem again_main (hl : Op1s w Al l) (hcl : l.length ≤ cl) (hn : l.length ≤ 40) (h1 : IS w ch A1c c1) (hr1 : ∀ x ∈ ch, -9223372036854775808 ≤ x ∧ x ≤ 9223372036854775807) (hn1 : ch.length ≤ 10) (h2 : IS w wk A2c c2) (hr2 : ∀ x ∈ wk, -9223372036854775808 ≤ x ∧ x ≤ 9223372036854775807) (hn2 : wk.length ≤ 10) : Calls Tryz.prog 10 #[.slice Al l.length cl, .slice A1c ch.length c1, .slice A2c wk.length c2] w fun e w' => e = .returned (.bool true) ∧ Below w.heap.size w w' := by
 have cF := few_any (w := w) (Al := Al) (A1 := A1c) (A2 := A2c) (n := l.length) (cl := cl) (n1 := ch.length) (c1 := c1) (n2 := wk.length) (c2 := c2)
 rw [decide_eq_true ⟨hn, hn1, hn2⟩] at cF
 have cB := build12_any hl hcl hn h1 hr1 hn1 h2 hr2 hn2
 have cA := fun w => awake12_any (w := w)
 clear hl hcl h1 hr1 h2 hr2
 go_enter Tryz.func10, Tryz.ntmps10
 go_wp2_with fail
 refine cF.mono ?_
 rintro e w0 ⟨rfl, rfl⟩
 go_wp2_with fail
 refine cB.mono ?_
 rintro e w2 hbp
 unfold Bd12P at hbp
 obtain ⟨q, hq⟩ : ∃ q, q = bld1 l := ⟨_, rfl⟩
 rw [← hq] at hbp
 obtain ⟨ra, hra⟩ : ∃ ra, ra = rts1 q.2 ch := ⟨_, rfl⟩
 obtain ⟨rk, hrk⟩ : ∃ rk, rk = rts1 q.2 wk := ⟨_, rfl⟩
 rw [← hra, ← hrk] at hbp
 clear hq hra hrk cB cF
 cases hm : (Mm.one q.1.old).marks ra with
 | none =>
  rw [hm] at hbp
  obtain ⟨⟨y0, y1, y2, y3, y4, y5, y6, y7, y8, y9, ya, yb, rfl⟩, hb⟩ := hbp
  have HB := Lib.hid hb
  clear hm hb
  go_wp2_with fail
  refine (cA _).mono ?_
  rintro e w3 ⟨rfl, hb3⟩
  have HB3 := Lib.hid hb3
  clear hb3
  go_wp2_with fail
  go_ret
  exact ⟨rfl, HB.out.trans ((((Below.refl _ _).alloc (Nat.le_refl _) _).trans (HB3.out.mono (by simp))).mono HB.out.size)⟩
 | some pr =>
  obtain ⟨sg, wl0⟩ := pr
  rw [hm] at hbp
  dsimp only at hbp
  obtain ⟨g, V, A1, e1, gm, bm, Am, cm, Ar, cr, Aw, cw, rfl, hen⟩ := hbp
  obtain ⟨wl, hwl⟩ : ∃ wl, wl = (Mm.one q.1.old).kpx sg wl0 rk := ⟨_, rfl⟩
  rw [← hwl] at hen ⊢
  obtain ⟨s, hs⟩ : ∃ s, s = q.1.old := ⟨_, rfl⟩
  rw [← hs] at hen ⊢
  obtain ⟨ms, hms⟩ : ∃ ms, ms = srtI (sg ++ wl) := ⟨_, rfl⟩
  rw [← hms]
  have HEN := Lib.hid hen
  have HMS := Lib.hid hms
  clear hm hwl hs hms hen
  go_upto_region 6 with fail
  have hbx : Below w2.heap.size w2 (w2.alloc (.cells #[.pointer (some ⟨g, 0, none⟩), .int .i64 s.base, .int .i64 s.limit, .slice A1 s.ws.length e1, .pointer (some ⟨gm, 0, none⟩), .slice Am ms.length cm, .slice Ar ra.length cr, .slice Aw rk.length cw] 64)) := (Below.refl _ _).alloc (Nat.le_refl _) _
  have HT : Hid (Bk (w2.alloc (.cells #[.pointer (some ⟨g, 0, none⟩), .int .i64 s.base, .int .i64 s.limit, .slice A1 s.ws.length e1, .pointer (some ⟨gm, 0, none⟩), .slice Am ms.length cm, .slice Ar ra.length cr, .slice Aw rk.length cw] 64)) w2.heap.size 64 #[.pointer (some ⟨g, 0, none⟩), .int .i64 s.base, .int .i64 s.limit, .slice A1 s.ws.length e1, .pointer (some ⟨gm, 0, none⟩), .slice Am ms.length cm, .slice Ar ra.length cr, .slice Aw rk.length cw]) := Lib.hid (Bk.new _ _ _)
  have HE3 := Lib.hid (HEN.out.below hbx)
  have hgt : w.heap.size ≤ w2.heap.size := HEN.out.bl.size
  clear hbx HEN
  generalize w2.alloc (.cells #[.pointer (some ⟨g, 0, none⟩), .int .i64 s.base, .int .i64 s.limit, .slice A1 s.ws.length e1, .pointer (some ⟨gm, 0, none⟩), .slice Am ms.length cm, .slice Ar ra.length cr, .slice Aw rk.length cw] 64) = w3 at *
  generalize w2.heap.size = gt at *
  have HRT := Lib.hid HE3.out.rt
  have HWK := Lib.hid HE3.out.wk
  have hrc := HE3.out.rc
  have hwc := HE3.out.wc
  have hrl := HE3.out.rl
  have hkl := HE3.out.kl
  obtain ⟨i0, hi, hz0, hz1, hz2⟩ := info_parts i_word
  have HI := Lib.hid (And.intro hi (And.intro hz0 (And.intro hz1 hz2)))
  clear hi hz0 hz1 hz2
  refine wp_region_firstS 11 AGds AGeat (AGR w3 (.pointer (some ⟨gt, 0, none⟩)) (.pointer (some ⟨g, 0, none⟩)) (.pointer (some ⟨gt, 4, none⟩)) (.pointer (some ⟨gm, 0, none⟩)) (.pointer (some ⟨gt, 6, none⟩)) (.slice Ar ra.length cr) (.pointer (some ⟨gt, 7, none⟩)) (.slice Aw rk.length cw) ra.length rk.length (wds ra) (wds rk)) AGO rfl (by kernel_rfl) (by kernel_rfl) (by rfl) (fun i v w1 w2 hi h h1 h2 _ hk => AGR_loc i v w1 w2 hi h hk) ?_ ?_
  ·intro i hi o ho vs w1 hg
   have hWs := hg.1.size
   have hbk := HT.out.below hg.1 HT.out.lt
   have d0 : w1.cell? ⟨gt, 0, none⟩ = some (.pointer (some ⟨g, 0, none⟩)) := hbk.cell 0
   have d4 : w1.cell? ⟨gt, 4, none⟩ = some (.pointer (some ⟨gm, 0, none⟩)) := hbk.cell 4
   have d6 : w1.cell? ⟨gt, 6, none⟩ = some (.slice Ar ra.length cr) := hbk.cell 6
   have d7 : w1.cell? ⟨gt, 7, none⟩ = some (.slice Aw rk.length cw) := hbk.cell 7
   have HG := Lib.hid hg
   have hgr := hg.2.1
   clear hg hbk
   rcases (show i = 0 ∨ i = 1 ∨ i = 2 ∨ i = 3 ∨ i = 4 ∨ i = 5 ∨ i = 6 ∨ i = 7 ∨ i = 8 ∨ i = 9 ∨ i = 10 by omega) with rfl | rfl | rfl | rfl | rfl | rfl | rfl | rfl | rfl | rfl | rfl <;> cases ho
   ·clear hgr
    change Made _ _ (Sem.run _ (execOp (Act.eval (frm _ _ _ [])) _) _)
    simp only [frm]
    go_simp
    exact made_ok (lays_pure rfl rfl)
   ·have h0 : vs 0 = _ := (hgr 0 (by simp [AGds])).1
    clear hgr
    change Made _ _ (Sem.run _ (execOp (Act.eval (Act.put (frm _ _ _ []) (some 51) (vs 0))) _) _)
    simp only [frm, h0]
    go_simp
    exact made_ok (lays_pure rfl rfl)
   ·clear hgr
    change Made _ _ (Sem.run _ (execOp (Act.eval (frm _ _ _ [])) _) _)
    simp only [frm]
    go_simp
    exact made_ok (lays_pure rfl rfl)
   ·have h2 : vs 2 = _ := (hgr 2 (by simp [AGds])).1
    clear hgr
    change Made _ _ (Sem.run _ (execOp (Act.eval (Act.put (frm _ _ _ []) (some 53) (vs 2))) _) _)
    simp only [frm, h2]
    go_simp
    exact made_ok (lays_pure rfl rfl)
   ·clear hgr
    change Made _ _ (Sem.run _ (execOp (Act.eval (frm _ _ _ [])) _) _)
    simp only [frm]
    go_simp
    refine made_ok ?_
    exact lays_alloc (ownEmpty 1 (Bk.new _ _ _) hWs) rfl hWs
   ·clear hgr
    change Made _ _ (Sem.run _ (execOp (Act.eval (frm _ _ _ [])) _) _)
    simp only [frm]
    go_simp
    exact made_ok (lays_pure rfl rfl)
   ·have h5 : vs 5 = _ := (hgr 5 (by simp [AGds])).1
    clear hgr
    change Made _ _ (Sem.run _ (execOp (Act.eval (Act.put (frm _ _ _ []) (some 56) (vs 5))) _) _)
    simp only [frm, h5]
    go_simp
    exact made_ok (lays_pure rfl rfl)
   ·have hown4 := (hgr 4 (by simp [AGds])).1
    obtain ⟨A4, c4, h4, _⟩ := own_shape hown4
    have h6 : vs 6 = _ := (hgr 6 (by simp [AGds])).1
    clear hgr
    change Made _ _ (Sem.run _ (execOp (Act.eval (Act.put (Act.put (frm _ _ _ []) (some 57) (vs 6)) (some 55) (vs 4))) _) _)
    simp only [frm, h4, h6]
    rw [h4] at hown4
    refine made_append (.tmp 55) (.tmp 57) 28 rfl Tryz.underlying28 HI.out.1 HI.out.2.1 HI.out.2.2.1 HI.out.2.2.2 rfl (by decide) (v := .slice A4 0 c4) (n := 0) (xs := []) rfl hown4 (A := Ar) (m := ra.length) (c := cr) (news := wds ra) rfl (HRT.out.below HG.out.1) (wds_one _) (by unfold maxLen; omega) (by omega) hWs fun v' w' ho hgr2 h4' => ?_
    exact lays_append HG.out (j := 4) (by simp [AGeat]) (by simp [AGds]) hown4 (by rw [h4]; rfl) hgr2 ho h4' ho rfl
   ·clear hgr
    change Made _ _ (Sem.run _ (execOp (Act.eval (frm _ _ _ [])) _) _)
    simp only [frm]
    go_simp
    exact made_ok (lays_pure rfl rfl)
   ·have h8 : vs 8 = _ := (hgr 8 (by simp [AGds])).1
    clear hgr
    change Made _ _ (Sem.run _ (execOp (Act.eval (Act.put (frm _ _ _ []) (some 59) (vs 8))) _) _)
    simp only [frm, h8]
    go_simp
    exact made_ok (lays_pure rfl rfl)
   ·have hown7 := (hgr 7 (by simp [AGds])).1
    obtain ⟨A7, c7, h7, _⟩ := own_shape hown7
    have h9 : vs 9 = _ := (hgr 9 (by simp [AGds])).1
    clear hgr
    change Made _ _ (Sem.run _ (execOp (Act.eval (Act.put (Act.put (frm _ _ _ []) (some 60) (vs 9)) (some 58) (vs 7))) _) _)
    simp only [frm, h7, h9]
    replace hown7 : w1.ownsRow w3.heap.size 51 1 (vs 7) (0 + ra.length) ([] ++ wds ra) := hown7
    rw [h7] at hown7
    refine made_append (.tmp 58) (.tmp 60) 28 rfl Tryz.underlying28 HI.out.1 HI.out.2.1 HI.out.2.2.1 HI.out.2.2.2 rfl (by decide) (v := .slice A7 (0 + ra.length) c7) (n := (0 + ra.length)) (xs := ([] ++ wds ra)) rfl hown7 (A := Aw) (m := rk.length) (c := cw) (news := wds rk) rfl (HWK.out.below HG.out.1) (wds_one _) (by unfold maxLen; omega) (by omega) hWs fun v' w' ho hgr2 h4' => ?_
    exact lays_append HG.out (j := 7) (by simp [AGeat]) (by simp [AGds]) hown7 (by rw [h7]; rfl) hgr2 ho h4' ho rfl
  ·intro vs w4 hb hall
   obtain ⟨hown10, q10⟩ := hall 10 (by omega) (by decide)
   replace hown10 : w4.ownsRow w3.heap.size 51 1 (vs 10) (0 + ra.length + rk.length) ([] ++ wds ra ++ wds rk) := hown10
   have h0 : vs 0 = _ := (hall 0 (by omega) (by decide)).1
   have h1 : vs 1 = _ := (hall 1 (by omega) (by decide)).1
   have h2 : vs 2 = _ := (hall 2 (by omega) (by decide)).1
   have h3 : vs 3 = _ := (hall 3 (by omega) (by decide)).1
   have h5 : vs 5 = _ := (hall 5 (by omega) (by decide)).1
   have h6 : vs 6 = _ := (hall 6 (by omega) (by decide)).1
   have h8 : vs 8 = _ := (hall 8 (by omega) (by decide)).1
   have h9 : vs 9 = _ := (hall 9 (by omega) (by decide)).1
   rw [show ([] ++ wds ra ++ wds rk : List Value) = wds (ra ++ rk) by simp [wds]] at hown10
   obtain ⟨l, hl⟩ : ∃ l, l = ra ++ rk := ⟨_, rfl⟩
   rw [show 0 + ra.length + rk.length = l.length by rw [hl]; simp, ← hl] at hown10
   obtain ⟨A10, c10, h10, hc10⟩ := own_shape hown10
   rw [h10] at hown10
   change wpList _ _ _ [_] (Act.put (Act.put (Act.put (Act.put (Act.put (Act.put (Act.put (Act.put (Act.put (Act.put (Act.put (frm _ _ _ []) (some 61) (vs 10)) (some 60) (vs 9)) (some 59) (vs 8)) (some 58) (vs 7)) (some 57) (vs 6)) (some 56) (vs 5)) (some 55) (vs 4)) (some 54) (vs 3)) (some 53) (vs 2)) (some 52) (vs 1)) (some 51) (vs 0)) _
   simp only [frm, h0, h1, h2, h3, h5, h6, h8, h9, h10]
   have HE4 := Lib.hid (HE3.out.below hb)
   have HT4 := Lib.hid (HT.out.below hb HT.out.lt)
   have HSL := Lib.hid (own_sl hown10)
   have HLL := Lib.hid hl
   have hll : l.length ≤ 20 := by rw [hl]; simp; omega
   have HLU : Hid (∀ x ∈ l, U64 x) := Lib.hid (by
    rw [hl]
    intro x hx
    rcases List.mem_append.1 hx with hx | hx
    ·exact HE3.out.ru x hx
    ·exact HE3.out.wu x hx)
   have cC := HE4.out.compact HSL.out hc10 HLU.out (by omega)
   rw [← HMS.out] at cC
   obtain ⟨v4, hv4⟩ : ∃ v4, v4 = vs 4 := ⟨_, rfl⟩
   obtain ⟨v7, hv7⟩ : ∃ v7, v7 = vs 7 := ⟨_, rfl⟩
   rw [← hv4, ← hv7]
   clear hall q10 hb hown10 h0 h1 h2 h3 h5 h6 h8 h9 h10 hl hv4 hv7
   go_wp2_with fail
   refine cC.mono ?_
   rintro e w5 hc5
   obtain ⟨rv, kn, en, rfl⟩ : ∃ rv kn en, e = .returned (.tuple #[rv, .int .i64 kn, .int .i64 en]) := by
    unfold CmpP at hc5
    split at hc5
    ·obtain ⟨v, V', rfl, _⟩ := hc5
     exact ⟨_, _, _, rfl⟩
    ·obtain ⟨rfl, _⟩ := hc5
     exact ⟨_, _, _, rfl⟩
   have HCC := Lib.hid hc5
   clear cC hc5
   go_wp2_with fail
   simp only [normalToS]
   refine phase2_addsS 12 18 (fun i => ([[], [0], [], [2], [], [], [5], [4, 6], [], [8], [7, 9], [1, 3, 10], [11], [12], [12], [12], [13], [14]] : List (List Nat)).getD i []) (EL [Ent.val (.pointer (some ⟨gt, 0, none⟩)), Ent.val (.pointer (some ⟨g, 0, none⟩)), Ent.val (.pointer (some ⟨gt, 4, none⟩)), Ent.val (.pointer (some ⟨gm, 0, none⟩)), Ent.val (v4), Ent.val (.pointer (some ⟨gt, 6, none⟩)), Ent.val (.slice Ar ra.length cr), Ent.val (v7), Ent.val (.pointer (some ⟨gt, 7, none⟩)), Ent.val (.slice Aw rk.length cw), Ent.val (.slice A10 l.length c10), Ent.val (.tuple #[rv, .int .i64 kn, .int .i64 en]), Ent.val (.tuple #[rv, .int .i64 kn, .int .i64 en]), Ent.val (rv), Ent.val (.int .i64 kn), Ent.val (.int .i64 en), Ent.val (rv), Ent.val (.int .i64 kn)]) (by kernel_rfl) ?_ (by omega) (by kernel_rfl) (by rfl) ?_ ?_ ?_
   ·intro i hmi hi o ho g b hgb vs v w6 hR
    rcases (show i = 12 ∨ i = 13 ∨ i = 14 ∨ i = 15 ∨ i = 16 ∨ i = 17 by omega) with rfl | rfl | rfl | rfl | rfl | rfl <;> cases ho <;> first | (cases hgb; exact hR) | cases hgb
   ·intro i hi
    rcases (show i = 0 ∨ i = 1 ∨ i = 2 ∨ i = 3 ∨ i = 4 ∨ i = 5 ∨ i = 6 ∨ i = 7 ∨ i = 8 ∨ i = 9 ∨ i = 10 ∨ i = 11 by omega) with rfl | rfl | rfl | rfl | rfl | rfl | rfl | rfl | rfl | rfl | rfl | rfl <;> exact ⟨rfl, fun _ => rfl⟩
   ·intro i hmi hi o ho vs w6 hb1 hgr
    rcases (show i = 12 ∨ i = 13 ∨ i = 14 ∨ i = 15 ∨ i = 16 ∨ i = 17 by omega) with rfl | rfl | rfl | rfl | rfl | rfl <;> cases ho
    ·have h11 : vs 11 = _ := hgr 11 (by decide)
     clear hgr
     change Made _ (Adds _ _ _) (Sem.run _ (execOp (Act.eval (Act.put (frm _ _ _ []) (some 62) (vs 11))) _) _)
     simp only [frm, h11]
     go_simp
     exact adds_val rfl
    ·have h12 : vs 12 = _ := hgr 12 (by decide)
     clear hgr
     change Made _ (Adds _ _ _) (Sem.run _ (execOp (Act.eval (Act.put (frm _ _ _ []) (some 50) (vs 12))) _) _)
     simp only [frm, h12]
     go_simp
     exact adds_val rfl
    ·have h12 : vs 12 = _ := hgr 12 (by decide)
     clear hgr
     change Made _ (Adds _ _ _) (Sem.run _ (execOp (Act.eval (Act.put (frm _ _ _ []) (some 50) (vs 12))) _) _)
     simp only [frm, h12]
     go_simp
     exact adds_val rfl
    ·have h12 : vs 12 = _ := hgr 12 (by decide)
     clear hgr
     change Made _ (Adds _ _ _) (Sem.run _ (execOp (Act.eval (Act.put (frm _ _ _ []) (some 50) (vs 12))) _) _)
     simp only [frm, h12]
     go_simp
     exact adds_val rfl
    ·have h13 : vs 13 = _ := hgr 13 (by decide)
     clear hgr
     change Made _ (Adds _ _ _) (Sem.run _ (execOp (Act.eval (Act.put (frm _ _ _ []) (some 63) (vs 13))) _) _)
     simp only [frm, h13]
     go_simp
     exact adds_val rfl
    ·have h14 : vs 14 = _ := hgr 14 (by decide)
     clear hgr
     change Made _ (Adds _ _ _) (Sem.run _ (execOp (Act.eval (Act.put (frm _ _ _ []) (some 64) (vs 14))) _) _)
     simp only [frm, h14]
     go_simp
     exact adds_val rfl
   ·intro vs w6 hb1 hall hap
    have h15 : vs 15 = _ := (hall 15 (by omega)).1
    have h16 : vs 16 = _ := (hall 16 (by omega)).1
    have h17 : vs 17 = _ := (hall 17 (by omega)).1
    clear hall hap
    change wpList _ _ _ [_] (Act.put (Act.put (Act.put (Act.put (Act.put (Act.put (Act.put (Act.put (Act.put (Act.put (Act.put (Act.put (Act.put (Act.put (Act.put (Act.put (Act.put (Act.put (frm _ _ _ []) (some 11) (vs 17)) (some 10) (vs 16)) (some 65) (vs 15)) (some 64) (vs 14)) (some 63) (vs 13)) (some 50) (vs 12)) (some 62) (vs 11)) (some 61) (vs 10)) (some 60) (vs 9)) (some 59) (vs 8)) (some 58) (vs 7)) (some 57) (vs 6)) (some 56) (vs 5)) (some 55) (vs 4)) (some 54) (vs 3)) (some 53) (vs 2)) (some 52) (vs 1)) (some 51) (vs 0)) _
    simp only [frm, h15, h16, h17]
    have HB6 := Lib.hid hb1
    clear hb1 h15 h16 h17
    have hpost := HCC.out
    unfold CmpP at hpost
    cases hpl : s.plan ms with
    | none =>
     rw [hpl] at hpost
     dsimp only at hpost
     obtain ⟨he, hb5⟩ := hpost
     simp only [Ending.returned.injEq, Value.tuple.injEq, Array.mk.injEq, List.cons.injEq, Value.int.injEq, true_and, and_true] at he
     obtain ⟨rfl, rfl, rfl⟩ := he
     have HE6 := Lib.hid ((HE4.out.below hb5).below HB6.out)
     clear hb5 HCC
     go_wp2_with fail
     refine (cA _).mono ?_
     rintro e w8 ⟨rfl, hb8⟩
     have HB8 := Lib.hid hb8
     clear hb8
     go_wp2_with fail
     go_ret
     exact ⟨rfl, HE6.out.bl.trans (HB8.out.mono HE6.out.bl.size)⟩
    | some ns =>
     rw [hpl] at hpost
     cases hup : (Mm.one s).updL s.base ms l with
     | none =>
      rw [hup] at hpost
      dsimp only at hpost
      obtain ⟨he, hb5⟩ := hpost
      simp only [Ending.returned.injEq, Value.tuple.injEq, Array.mk.injEq, List.cons.injEq, Value.int.injEq, true_and, and_true] at he
      obtain ⟨rfl, rfl, rfl⟩ := he
      have HE6 := Lib.hid ((HE4.out.below hb5).below HB6.out)
      clear hb5 HCC
      go_wp2_with fail
      refine (cA _).mono ?_
      rintro e w8 ⟨rfl, hb8⟩
      have HB8 := Lib.hid hb8
      clear hb8
      go_wp2_with fail
      go_ret
      exact ⟨rfl, HE6.out.bl.trans (HB8.out.mono HE6.out.bl.size)⟩
     | some out =>
      rw [hup] at hpost
      dsimp only at hpost
      obtain ⟨v, V', he, ho5, hsp, hva, hvv, hkp⟩ := hpost
      simp only [Ending.returned.injEq, Value.tuple.injEq, Array.mk.injEq, List.cons.injEq, Value.int.injEq, true_and, and_true] at he
      obtain ⟨rfl, rfl, rfl⟩ := he
      have HC6 := Lib.hid ((HE4.out.cpd hsp hkp).below HB6.out)
      have HT6 : Hid (Bk w6 gt 64 #[.pointer (some ⟨g, 0, none⟩), .int .i64 s.base, .int .i64 s.limit, .slice A1 s.ws.length e1, .pointer (some ⟨gm, 0, none⟩), .slice Am ms.length cm, .slice Ar ra.length cr, .slice Aw rk.length cw]) := Lib.hid ((HT4.out.kp hkp fun e => by
       rcases e with e | e
       ·exact Bk.neT HT4.out HE4.out.sp.hd (by decide) e
       ·exact HE4.out.sp.own_ne HT4.out (by decide) e).below HB6.out (Nat.lt_of_lt_of_le HT4.out.lt hkp.size))
      have HO6 := Lib.hid (own_local ho5 (w' := w6) fun k hk => HB6.out.block k (ho5.lt k hk).2)
      have hpl2 := Spc.plan_some (by rw [HMS.out]; exact srtI_lt HE4.out.mks.nd) hpl
      have hou := updL_some hup
      have HAG : Hid (Agn s ra rk sg wl ms) := Lib.hid ⟨HE4.out.mks, hpl2.1, fun a => by rw [HMS.out]; exact srtI_mem _ a, HE4.out.b0, HE4.out.l0, HE4.out.sp.ok⟩
      have hwk : ∀ x ∈ rk, (Mm.one s).rfr x ≠ none := fun x hx => hou.2 x (by rw [HLL.out]; exact List.mem_append.2 (.inr hx))
      obtain ⟨sg', wl0', hmk, hmks, hsrt⟩ := HAG.out.marks hwk
      have hag := HAG.out.rts (l := l) hou.2
      have HRTS : Hid ((Mm.one (s.cmp ms)).updL (s.cmp ms).base (newsL (Mm.one s) s.base ms) out = some out) := Lib.hid (by rw [hou.1]; exact hag)
      obtain ⟨ra', hra'⟩ : ∃ ra', ra' = ra.map ((Mm.one s).upd s.base ms) := ⟨_, rfl⟩
      obtain ⟨rk', hrk'⟩ : ∃ rk', rk' = rk.map ((Mm.one s).upd s.base ms) := ⟨_, rfl⟩
      rw [← hra', ← hrk'] at hmks
      rw [← hrk'] at hsrt
      rw [← hra'] at hmk
      have HOUT : Hid (out = ra' ++ rk') := Lib.hid (by rw [hou.1, HLL.out, List.map_append, hra', hrk'])
      have HLA : Hid (ra'.length = ra.length) := Lib.hid (by rw [hra', List.length_map])
      have HLK : Hid (rk'.length = rk.length) := Lib.hid (by rw [hrk', List.length_map])
      have HUA : Hid (∀ x ∈ out, U64 x) := Lib.hid fun x hx => by
       rw [hou.1] at hx
       obtain ⟨y, hy, rfl⟩ := List.mem_map.1 hx
       exact updW_u64 (HLU.out y hy)
      have HOL : Hid (out.length = ra.length + rk.length) := Lib.hid (by rw [hou.1, List.length_map, HLL.out, List.length_append])
      have HMK := Lib.hid hmk
      have HMKS := Lib.hid hmks
      have HSRT := Lib.hid hsrt
      have HB0 : Hid ((s.cmp ms).base = 0) := Lib.hid HE4.out.b0
      have HL0 : Hid ((s.cmp ms).limit ≤ 16777216) := Lib.hid HE4.out.l0
      have HWH := Lib.hid (cmp_whl hpl2.1)
      have HWS : Hid ((s.cmp ms).ws.length ≤ 16777216) := Lib.hid (by
       have h1 := (cmp_ok HE4.out.sp.ok hpl2.1).lim
       have h2 := HB0.out
       have h3 := HL0.out
       omega)
      have HPLN := Lib.hid (cmp_plan hpl2.1)
      have HNN := Lib.hid hpl2.2
      have HAGN := Lib.hid HAG.out.again
      obtain ⟨Av, cv, rfl, hcv⟩ := own_shape HO6.out
      have HVV := Lib.hid hvv
      clear hpl hup ho5 hsp hva hvv hkp hpl2 hou hwk hmk hmks hsrt hag hra' hrk' HCC HE4 HT4 HLL HLU HSL
      have g1 : decide ((out.length : Int) < (ra.length : Int)) = false := decide_eq_false (by have := HOL.out; omega)
      have g1n : decide (out.length < ra.length) = false := decide_eq_false (by have := HOL.out; omega)
      have cCl := SpClone_any HC6.out.sp
      unfold CloneP at cCl
      have d0 : w6.cell? ⟨gt, 0, none⟩ = some (.pointer (some ⟨g, 0, none⟩)) := HT6.out.cell 0
      have d6 : w6.cell? ⟨gt, 6, none⟩ = some (.slice Ar ra.length cr) := HT6.out.cell 6
      go_wp2_with fail
      refine cCl.mono ?_
      rintro e w7 ⟨gb, Vb, rfl, hcl, hgb, hb7⟩
      have HCL7 := Lib.hid hcl
      have HC7 := Lib.hid (HC6.out.below hb7)
      have HT7 := Lib.hid (HT6.out.below hb7 HT6.out.lt)
      have HO7 := Lib.hid (own_local HO6.out (w' := w7) fun k hk => hb7.block k (HO6.out.lt k hk).2)
      have hgl : g < gb := Nat.lt_of_lt_of_le HC6.out.sp.hd.lt hgb
      have HVL : Hid (∀ k, V'.ownBlock = some k → k < w6.heap.size) := Lib.hid fun k hk => (HC6.out.sp.own.lt k hk).2
      have HVB : Hid (∀ k, Vb.ownBlock = some k → w6.heap.size ≤ k) := Lib.hid fun k hk => (hcl.own.lt k hk).1
      have HGW : Hid (g < w6.heap.size) := Lib.hid HC6.out.sp.hd.lt
      clear cCl hcl hb7 d0 d6 g1 g1n HC6 HT6 HO6
      have HSA7 := Lib.hid ((own_sl HO7.out))
      have hcvr : ra.length ≤ cv := by have := HOL.out; omega
      have j1 : (0 : Int) ≤ (ra.length : Int) := by omega
      have j2 : (ra.length : Int) ≤ (out.length : Int) := by have := HOL.out; omega
      have j3 : (ra.length : Int) ≤ (cv : Int) := by omega
      have HOA := Lib.hid (fun b o (e : Av = some ⟨b, o, none⟩) => (HO7.out.lt b (by rw [e]; rfl)).2)
      have HJ := Lib.hid (And.intro hcvr hcv)
      clear hcvr
      go_upto_region 10 with fail
      refine wp_region_addsF0 11 (fun i => ([[], [0], [], [], [3], [4], [2, 5], [1, 6], [7], [8], [8]] : List (List Nat)).getD i []) [10] (EL [Ent.val (.pointer (some ⟨gt, 0, none⟩)), Ent.val (.pointer (some ⟨g, 0, none⟩)), Ent.val (.slice Av out.length cv), Ent.val (.pointer (some ⟨gt, 6, none⟩)), Ent.val (.slice Ar ra.length cr), Ent.val (.int .i64 (ra.length : Int)), Ent.val (.slice Av ra.length cv), Ent.of (TpD w7.heap.size (Mm.one (s.cmp ms)) sg' wl0') TpD.bl, Ent.same 7 (TpD w7.heap.size (Mm.one (s.cmp ms)) sg' wl0') TpD.bl, Ent.ext 8 0, Ent.ext 8 1]) (by kernel_rfl) (by kernel_rfl) (by kernel_rfl) (by kernel_rfl) (by kernel_rfl) (by rfl) ?_ ?_
      ·intro i hi o ho vs w8 hb1 hgr
       rcases (show i = 0 ∨ i = 1 ∨ i = 2 ∨ i = 3 ∨ i = 4 ∨ i = 5 ∨ i = 6 ∨ i = 7 ∨ i = 8 ∨ i = 9 ∨ i = 10 by omega) with rfl | rfl | rfl | rfl | rfl | rfl | rfl | rfl | rfl | rfl | rfl <;> cases ho
       ·clear hgr
        change Made _ (Adds _ _ _) (Sem.run _ (execOp (Act.eval (frm _ _ _ [])) _) _)
        simp only [frm]
        go_simp
        exact adds_val rfl
       ·have h0 : vs 0 = _ := hgr 0 (by decide)
        clear hgr
        change Made _ (Adds _ _ _) (Sem.run _ (execOp (Act.eval (Act.put (frm _ _ _ []) (some 85) (vs 0))) _) _)
        simp only [frm, h0]
        have hbk := HT7.out.below hb1 HT7.out.lt
        have c0 : w8.cell? ⟨gt, 0, none⟩ = some (.pointer (some ⟨g, 0, none⟩)) := hbk.cell 0
        clear hbk
        go_simp
        exact adds_val rfl
       ·clear hgr
        change Made _ (Adds _ _ _) (Sem.run _ (execOp (Act.eval (frm _ _ _ [])) _) _)
        simp only [frm]
        go_simp
        exact adds_val rfl
       ·clear hgr
        change Made _ (Adds _ _ _) (Sem.run _ (execOp (Act.eval (frm _ _ _ [])) _) _)
        simp only [frm]
        go_simp
        exact adds_val rfl
       ·have h3 : vs 3 = _ := hgr 3 (by decide)
        clear hgr
        change Made _ (Adds _ _ _) (Sem.run _ (execOp (Act.eval (Act.put (frm _ _ _ []) (some 88) (vs 3))) _) _)
        simp only [frm, h3]
        have hbk := HT7.out.below hb1 HT7.out.lt
        have c0 : w8.cell? ⟨gt, 6, none⟩ = some (.slice Ar ra.length cr) := hbk.cell 6
        clear hbk
        go_simp
        exact adds_val rfl
       ·have h4 : vs 4 = _ := hgr 4 (by decide)
        clear hgr
        change Made _ (Adds _ _ _) (Sem.run _ (execOp (Act.eval (Act.put (frm _ _ _ []) (some 89) (vs 4))) _) _)
        simp only [frm, h4]
        go_simp
        exact adds_val rfl
       ·have h2 : vs 2 = _ := hgr 2 (by decide)
        have h5 : vs 5 = _ := hgr 5 (by decide)
        clear hgr
        change Made _ (Adds _ _ _) (Sem.run _ (execOp (Act.eval (Act.put (Act.put (frm _ _ _ []) (some 90) (vs 5)) (some 87) (vs 2))) _) _)
        simp only [frm, h2, h5]
        go_simp
        exact adds_val rfl
       ·have h1 : vs 1 = _ := hgr 1 (by decide)
        have h6 : vs 6 = _ := hgr 6 (by decide)
        clear hgr
        change Made _ (Adds _ _ _) (Sem.run _ (execOp (Act.eval (Act.put (Act.put (frm _ _ _ []) (some 91) (vs 6)) (some 86) (vs 1))) _) _)
        simp only [frm, h1, h6]
        have cM := Mark_all (HC7.out.below hb1).sp HB0.out HL0.out (HC7.out.below hb1).bl.size (l := ra') (c := cv) (Sl.pre (ys := rk') (n := out.length) (by rw [← HOUT.out]; exact (HSA7.out.below hb1)) (by rw [← HOUT.out])) (by have := HJ.out.1; have := HLA.out; omega) (by have := HLA.out; omega) (fun x hx => HUA.out x (by rw [HOUT.out]; exact List.mem_append.2 (.inl hx))) (fun b o e => Nat.lt_of_lt_of_le (HOA.out b o e) hb1.size) HWS.out
        rw [HMK.out, HLA.out] at cM
        go_simp
        refine adds_call (T := (TpD w7.heap.size (Mm.one (s.cmp ms)) sg' wl0')) (hT := TpD.bl) (ob := fun _ => none) cM fun e w2 h => ?_
        obtain ⟨hb, g9, b9, he, h1⟩ := h
        exact ⟨_, he, ⟨g9, b9, rfl, ⟨h1.hd, h1.mp, Nat.le_trans hb1.size h1.ge, Nat.le_trans hb1.size h1.gm⟩⟩, hb, (fun k hk => nomatch hk)⟩
       ·obtain ⟨gq7, bq7, h7, hk7⟩ := hgr 7 (by decide)
        clear hgr
        change Made _ (Adds _ _ _) (Sem.run _ (execOp (Act.eval (Act.put (frm _ _ _ []) (some 92) (vs 7))) _) _)
        simp only [frm, h7]
        go_simp
        rw [← h7]
        exact adds_same (hT := TpD.bl) ⟨gq7, bq7, h7, hk7⟩
       ·obtain ⟨h8e, gq8, bq8, h8, hk8⟩ := hgr 8 (by decide)
        clear hgr
        change Made _ (Adds _ _ _) (Sem.run _ (execOp (Act.eval (Act.put (frm _ _ _ []) (some 84) (vs 8))) _) _)
        simp only [frm, h8]
        go_simp
        exact adds_ext h8 rfl
       ·obtain ⟨h8e, gq8, bq8, h8, hk8⟩ := hgr 8 (by decide)
        clear hgr
        change Made _ (Adds _ _ _) (Sem.run _ (execOp (Act.eval (Act.put (frm _ _ _ []) (some 84) (vs 8))) _) _)
        simp only [frm, h8]
        go_simp
        exact adds_ext h8 rfl
      ·intro vs w8 hb1 hall hap
       obtain ⟨gq7, bq7, h7, hk7⟩ := (hall 7 (by omega)).1
       have h8e := (hall 8 (by omega)).1.1
       have h9 : vs 9 = .pointer (some ⟨gq7, 0, none⟩) := ext_eq (hall 9 (by omega)).1 (h8e.trans h7) rfl
       have h10 : vs 10 = .int .i64 0 := ext_eq (hall 10 (by omega)).1 (h8e.trans h7) rfl
       clear hall hap
       change wpList _ _ _ [_, _] (Act.put (Act.put (Act.put (Act.put (Act.put (Act.put (Act.put (Act.put (Act.put (Act.put (Act.put (frm _ _ _ []) (some 94) (vs 10)) (some 93) (vs 9)) (some 84) (vs 8)) (some 92) (vs 7)) (some 91) (vs 6)) (some 90) (vs 5)) (some 89) (vs 4)) (some 88) (vs 3)) (some 87) (vs 2)) (some 86) (vs 1)) (some 85) (vs 0)) _
       simp only [frm, h7, h9, h10]
       have HB8 := Lib.hid hb1
       have HMR8 := Lib.hid hk7
       have HT8 := Lib.hid (HT7.out.below hb1 HT7.out.lt)
       clear hb1 hk7 h7 h8e h9 h10 HSA7 j1 j2 j3 HOA
       have hcvr := HJ.out.1
       have j1 : (0 : Int) ≤ (ra.length : Int) := by omega
       have j2 : (ra.length : Int) ≤ (out.length : Int) := by have := HOL.out; omega
       have j3 : (ra.length : Int) ≤ (cv : Int) := by omega
       have d0 : w8.cell? ⟨gt, 0, none⟩ = some (.pointer (some ⟨g, 0, none⟩)) := HT8.out.cell 0
       have d6 : w8.cell? ⟨gt, 6, none⟩ = some (.slice Ar ra.length cr) := HT8.out.cell 6
       go_wp2_with fail
       rw [onlyN_normal]
       have hSA := own_sl HO7.out
       rcases Nat.lt_or_ge ra.length cv with hkk | hkk
       obtain ⟨g5, rfl⟩ : ∃ g5, Av = some ⟨g5, 0, none⟩ := by
        obtain ⟨_, ⟨he, _⟩ | ⟨g', cap, cur, he, _⟩⟩ := HO7.out
        ·injection he with e1 e2 e3; omega
        ·injection he with e1 e2 e3; exact ⟨g', e1⟩
       have hkkI : ¬ cv = ra.length := by omega
       have HS13 : Hid (Sl w7 1 (some ⟨g5, ra.length, none⟩) rk.length (wds rk')) := Lib.hid (by
        have := Sl.suf (xs := ra') (ys := rk') (n := out.length) (by rw [← HOUT.out]; exact hSA) (by rw [← HOUT.out])
        rw [HLA.out, HLK.out, Nat.zero_add] at this
        exact this)
       have HC13 : Hid (rk.length ≤ cv - ra.length) := Lib.hid (by have := HOL.out; omega)
       clear hSA hkk
       go_wp2_with fail
       rw [show out.length - ra.length = rk.length by have := HOL.out; omega]
       clear hkkI
       rotate_left
       have hkc : cv = ra.length := by omega
       have hkz : rk.length = 0 := by have := HOL.out; omega
       have HS13 : Hid (Sl w7 1 Av rk.length (wds rk')) := Lib.hid ⟨by simp [wds, HLK.out], .inl hkz⟩
       have HC13 : Hid (rk.length ≤ 0) := Lib.hid (by omega)
       clear hSA hkk hkz
       go_wp2_with fail
       rw [show out.length - ra.length = rk.length by have := HOL.out; omega]
       clear hkc
       all_goals
        clear d0 d6 j1 j2 j3
        go_loopw [107] (fun i wr => ∃ j : Nat, i = .int .i64 (j : Int) ∧ j ≤ rk.length ∧ MkR wr w7.heap.size gq7 bq7 (Mm.one (s.cmp ms)) sg' ((Mm.one (s.cmp ms)).kpx sg' wl0' (rk'.take j)) ∧ Kp (fun k => k = gq7 ∨ k = bq7) w8 wr) (fun i _ => rk.length - (intOf i).toNat)
        case atStart => exact ⟨0, rfl, Nat.zero_le _, HMR8.out, Kp.refl _ _⟩
        case round =>
         obtain ⟨j, rfl, hj, hmr, hkp⟩ := hrel
         have hbr : Below w7.heap.size w7 wr := hkp.toBelow HB8.out HB8.out.size fun k hk => by
          rcases hk with rfl | rfl
          ·exact HMR8.out.ge
          ·exact HMR8.out.gm
         have HKP := Lib.hid hkp
         have HBR := Lib.hid hbr
         have HMR := Lib.hid hmr
         have HCr := Lib.hid (HC7.out.below hbr)
         have HTr := Lib.hid (HT7.out.below hbr HT7.out.lt)
         have hkl8 : (sg' ++ wl0').length ≤ 16777216 := by
          have := marks_len (Mm.marks_some HMK.out)
          rw [Mm.one_size] at this
          exact Nat.le_trans this HWS.out
         by_cases hlt : j < rk.length
         ·obtain ⟨b2, o2, hA2, hbl, hcc⟩ := (HS13.out.below hbr).get hlt
          have hlt' : j < rk'.length := by have := HLK.out; omega
          have t1 : rk'[j]? = some rk'[j] := List.getElem?_eq_getElem hlt'
          have hxu := HUA.out rk'[j] (by rw [HOUT.out]; exact List.mem_append.2 (.inr (List.getElem_mem hlt')))
          have e1' : wr.cell? ⟨b2, o2 + j, none⟩ = some (.int .u64 rk'[j]) := hcc j _ (wds_get t1)
          have hcj := Nat.lt_of_lt_of_le hlt HC13.out
          first
          | exact absurd hcj (Nat.not_lt_zero _)
          |
           have hjI : (j : Int) < (rk.length : Int) := by omega
           have hkt := kpx_take (m := Mm.one (s.cmp ms)) (sg := sg') (wl := wl0') t1
           have hkn := kpx_len (Mm.one (s.cmp ms)) sg' (rk'.take j) wl0'
           rw [List.length_take] at hkn
           have hln : (sg' ++ (Mm.one (s.cmp ms)).kpx sg' wl0' (rk'.take j)).length ≤ 100000000 := by
            rw [List.length_append] at hkl8 ⊢
            have := HLK.out
            omega
           have cK := Keep_any HCr.out.sp HB0.out HL0.out HCr.out.bl.size hmr hln hxu
           cases hA2
           generalize rk'[j] = x at e1' hxu hkt t1 cK
           have HKT := Lib.hid hkt
           clear hkp hmr hbr hcc hxu hkt t1 hbl hkn hln hlt' hkl8
           have d0 : wr.cell? ⟨gt, 0, none⟩ = some (.pointer (some ⟨g, 0, none⟩)) := HTr.out.cell 0
           go_wp2_with fail
           refine cK.mono ?_
           rintro e w9 ⟨rfl, hm9, hk9⟩
           have HM9 := Lib.hid hm9
           have HK9 := Lib.hid (HKP.out.trans hk9 fun k _ h => h)
           clear hm9 hk9 cK e1' d0
           go_wp2_with fail
           go_roundw
           case rel => exact ⟨j + 1, by go_num, by omega, by rw [HKT.out]; exact HM9.out, HK9.out⟩
           case measure => simp [intOf]; omega
         ·obtain rfl : j = rk.length := by omega
          have hjI : ¬ ((rk.length : Nat) : Int) < (rk.length : Int) := by omega
          rw [show rk.length = rk'.length from HLK.out.symm, List.take_length] at hmr
          have hokT : (Mm.one (s.cmp ms)).Ok := Mm.one_ok HCr.out.sp.ok HB0.out HL0.out
          have hmlT := Nat.le_trans HMKS.out.len HWS.out
          have hsr := (own_sl HO7.out).below hbr
          have hol : out.length ≤ 20 := by have := HOL.out; omega
          have cC2 := Compact_any HCr.out.sp hmr HMKS.out.nd (fun a ha => (HMKS.out.hdr a ha).1) (HMKS.out.rg hokT) hmlT HL0.out HB0.out HCr.out.bl.size hsr HJ.out.2 HUA.out (by omega) HWH.out
          rw [HSRT.out] at cC2
          unfold CmpP at cC2
          rw [HPLN.out, HRTS.out] at cC2
          dsimp only at cC2
          simp only [HAGN.out, newsL_len] at cC2
          have HOr := Lib.hid (own_local HO7.out (w' := wr) fun k hk => hbr.block k (HO7.out.lt k hk).2)
          have HCLr := Lib.hid (HCL7.out.below hbr)
          obtain ⟨T, hT⟩ : ∃ T, T = s.cmp ms := ⟨_, rfl⟩
          have HTT := Lib.hid hT
          clear hT
          have d0 : wr.cell? ⟨gt, 0, none⟩ = some (.pointer (some ⟨g, 0, none⟩)) := HTr.out.cell 0
          clear hkp hmr hbr hlt hkl8 hokT hmlT hsr
          go_wp2_with fail
          refine cC2.mono ?_
          rintro e w9 ⟨v9, V9, rfl, ho9, hsp9, hva9, hvv9, hkp9⟩
          have HSP9 := Lib.hid hsp9
          have HCL9 := Lib.hid (HCLr.out.kp hkp9 (fun e => by
           rcases e with e | e
           ·omega
           ·have := HVL.out gb e; omega) (fun k hk e => by
           have h6 := HVB.out k hk
           rcases e with e | e
           ·have := HGW.out; omega
           ·have := HVL.out k e; omega))
          have HT9 : Hid (Bk w9 gt 64 #[.pointer (some ⟨g, 0, none⟩), .int .i64 s.base, .int .i64 s.limit, .slice A1 s.ws.length e1, .pointer (some ⟨gm, 0, none⟩), .slice Am ms.length cm, .slice Ar ra.length cr, .slice Aw rk.length cw]) := Lib.hid (HTr.out.kp hkp9 fun e => by
           rcases e with e | e
           ·exact Bk.neT HTr.out HCr.out.sp.hd (by decide) e
           ·exact HCr.out.sp.own_ne HTr.out (by decide) e)
          have HO9x := Lib.hid (own_local HOr.out (w' := w9) fun k hk => hkp9.block k (HOr.out.lt k hk).2 fun e => by
           rcases e with e | e
           ·exact ownRow_bk HOr.out HCr.out.sp.hd (by decide) (by rw [← e]; exact hk)
           ·exact HVV.out k hk e)
          have HBF := Lib.hid (hkp9.toBelow HCr.out.bl HCr.out.bl.size fun k e => by
           rcases e with rfl | e
           ·exact HCr.out.sp.ge
           ·exact (HCr.out.sp.own.lt k e).1)
          obtain ⟨A9, c9, rfl, hc9⟩ := own_shape ho9
          have cW := Words6_t (l := out) (m := out) (c := c9) (d := cv) (by omega) hc9 HJ.out.2 (own_sl ho9) (own_sl HO9x.out)
          rw [show eqL out out = true from decide_eq_true rfl] at cW
          clear cC2 d0 ho9 hsp9 hva9 hvv9 hkp9
          go_wp2_with fail
          refine cW.mono ?_
          rintro e w10 ⟨rfl, hb10⟩
          have HT10 := Lib.hid (HT9.out.below hb10 HT9.out.lt)
          have HB10 := Lib.hid hb10
          have cT1 := Top_any (HSP9.out.below hb10)
          rw [← HTT.out] at cT1
          clear cW hb10
          have d0 : w10.cell? ⟨gt, 0, none⟩ = some (.pointer (some ⟨g, 0, none⟩)) := HT10.out.cell 0
          go_wp2_with fail
          refine cT1.mono ?_
          rintro e w11 ⟨rfl, hb11⟩
          have HB11 := Lib.hid (HB10.out.trans (hb11.mono HB10.out.size))
          have cT2 := Top_any (HCL9.out.below HB11.out)
          rw [← HTT.out] at cT2
          clear cT1 hb11 d0
          go_wp2_with fail
          refine cT2.mono ?_
          rintro e w12 ⟨rfl, hb12⟩
          have HB12 := Lib.hid (HB11.out.trans (hb12.mono HB11.out.size))
          have cBs := Base_any (HCL9.out.below HB12.out)
          rw [← HTT.out] at cBs
          have HLT : Hid (0 ≤ T.base ∧ T.top ≤ 16777216 ∧ T.base ≤ T.top) := Lib.hid (by
           have h1 := HB0.out
           have h2 := HWS.out
           rw [HTT.out]
           unfold Spc.top
           omega)
          have htt : (T.top != T.top) = false := by simp
          have htt' : decide (T.top = T.top) = true := decide_eq_true rfl
          have hmm : ((ms.length : Int) != (ms.length : Int)) = false := by simp
          clear cT2 hb12
          go_wp2_with fail
          refine cBs.mono ?_
          rintro e w13 ⟨rfl, rfl⟩
          clear cBs
          obtain ⟨wo, rfl⟩ : ∃ wo : World, wo = wr := ⟨_, rfl⟩
          go_wp2_with fail
          go_loopw [21] (fun i wr => ∃ a : Int, i = .int .i64 a ∧ T.base ≤ a ∧ a ≤ T.top ∧ Below w12.heap.size w12 wr) (fun i _ => (T.top - intOf i).toNat)
          case atStart => exact ⟨T.base, rfl, Int.le_refl _, HLT.out.2.2, Below.refl _ _⟩
          case round =>
           obtain ⟨a, rfl, ha1, ha2, hbr⟩ := hrel
           have HBR2 := Lib.hid hbr
           have HBZ := Lib.hid (HB12.out.trans (hbr.mono HB12.out.size))
           have cT3 := Top_any (HCL9.out.below HBZ.out)
           rw [← HTT.out] at cT3
           have hlt3 := HLT.out
           clear hbr
           by_cases hat : a < T.top
           ·have hatd : decide (a < T.top) = true := decide_eq_true hat
            obtain ⟨x, hx⟩ : ∃ x, T.at_ a = some x := by
             obtain ⟨_, _, _, x, _, hx⟩ := Spc.at_some (s := T) (a := a) (Spc.has_iff.2 ⟨ha1, by unfold Spc.top at hat; exact hat⟩)
             exact ⟨x, hx⟩
            have hld : ldV T a = .tuple #[.int .u64 x, .int .i64 0] := by unfold ldV; rw [hx]
            have HLD := Lib.hid hld
            have hwp : IntKind.i64.wrap (a + 1) = a + 1 := IntWalk.i64_in _ (by omega)
            clear hx hld
            go_wp2_with fail
            refine cT3.mono ?_
            rintro e w14 ⟨rfl, hb14⟩
            have HB14 := Lib.hid (HBZ.out.trans (hb14.mono HBZ.out.size))
            have HB14x := Lib.hid (HBR2.out.trans (hb14.mono HBR2.out.size))
            have cL1 := SLoad_any (HCL9.out.below HB14.out) a
            rw [← HTT.out, HLD.out] at cL1
            clear cT3 hb14
            go_wp2_with fail
            refine cL1.mono ?_
            rintro e w15 ⟨rfl, hb15⟩
            have HB15 := Lib.hid (HB14.out.trans (hb15.mono HB14.out.size))
            have HB15x := Lib.hid (HB14x.out.trans (hb15.mono HB14x.out.size))
            have cL2 := SLoad_any (HSP9.out.below HB15.out) a
            rw [← HTT.out, HLD.out] at cL2
            have d0 : w15.cell? ⟨gt, 0, none⟩ = some (.pointer (some ⟨g, 0, none⟩)) := (HT9.out.below HB15.out HT9.out.lt).cell 0
            clear cL1 hb15
            go_wp2_with fail
            refine cL2.mono ?_
            rintro e w16 ⟨rfl, hb16⟩
            have HB16x := Lib.hid (HB15x.out.trans (hb16.mono HB15x.out.size))
            clear cL2 hb16 d0
            go_wp2_with fail
            go_roundw
            case rel => exact ⟨a + 1, by go_num, by omega, by omega, HB16x.out⟩
            case measure => simp [intOf]; omega
           ·have hatd : decide (a < T.top) = false := decide_eq_false hat
            go_wp2_with fail
            refine cT3.mono ?_
            rintro e w14 ⟨rfl, hb14⟩
            have HB14 := Lib.hid (HBZ.out.trans (hb14.mono HBZ.out.size))
            clear cT3 hb14
            go_wp2_with fail
            refine (cA _).mono ?_
            rintro e w15 ⟨rfl, hb15⟩
            have HB15 := Lib.hid (HB14.out.trans (hb15.mono HB14.out.size))
            clear hb15
            go_wp2_with fail
            go_ret
            exact ⟨rfl, HBF.out.trans (HB15.out.mono HBF.out.size)⟩
theorem again_any (hl : Op1s w Al l) (hcl : l.length ≤ cl) (h1 : IS w ch A1c c1) (hr1 : ∀ x ∈ ch, -9223372036854775808 ≤ x ∧ x ≤ 9223372036854775807) (h2 : IS w wk A2c c2) (hr2 : ∀ x ∈ wk, -9223372036854775808 ≤ x ∧ x ≤ 9223372036854775807) : Calls Tryz.prog 10 #[.slice Al l.length cl, .slice A1c ch.length c1, .slice A2c wk.length c2] w fun e w' => e = .returned (.bool true) ∧ Below w.heap.size w w' := by
 by_cases h : l.length ≤ 40 ∧ ch.length ≤ 10 ∧ wk.length ≤ 10
 ·exact again_main hl hcl h.1 h1 hr1 h.2.1 h2 hr2 h.2.2
 ·exact again_big h
end
end Go.Proofs.YtjpaogapclfajaaGreat
