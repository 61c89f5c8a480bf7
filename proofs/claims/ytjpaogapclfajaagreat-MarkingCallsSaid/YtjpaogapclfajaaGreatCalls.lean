/- Law 11: MarkingCalls. (printed by gen/mk11.py) -/
import Derived.Test.YtjpaogapclfajaaGreatEnv11
import Derived.Deep.DeepCutAuto
import Derived.StillTailTactics
namespace Go.Proofs.YtjpaogapclfajaaGreat
set_option linter.unusedVariables false
set_option linter.unusedSimpArgs false
set_option linter.unusedSectionVars false
open Go.RowKit Go.Sort
attribute [local go_sem] Oper.semAt_some onlyN_normal
set_option maxRecDepth 100000
/-- a list of ints that a call hands back -/
def LstT (l : List Int) (v : Value) (w : World) : Prop := ∃ A c, v = .slice A l.length c ∧ l.length ≤ c ∧ Sl w 1 A l.length (ints l)
theorem LstT.below {l : List Int} (v : Value) (w w' : World) (h : LstT l v w) (hb : Below w.heap.size w w') : LstT l v w' := let ⟨A, c, e, h1, h2⟩ := h; ⟨A, c, e, h1, h2.below hb⟩
theorem LstT.own {w : World} {B : Nat} {l : List Int} {v : Value} (h : w.ownsRow B 3 1 v l.length (ints l)) : LstT l v w := by
  obtain ⟨A, c, rfl, hc⟩ := own_shape h
  exact ⟨A, c, rfl, hc, own_sl h⟩
section
variable {w : World} {l : List Op1} {Al : Option Addr} {cl : Nat} {ch : List Int} {A1c : Option Addr} {c1 : Nat}
theorem calls_big (h : 40 < l.length ∨ (l.length ≤ 40 ∧ 8 < ch.length)) (hb : l.length ≤ 140737488351232) (hb1 : ch.length ≤ 140737488351232) : Calls Tryz.prog 3 #[.slice Al l.length cl, .slice A1c ch.length c1] w fun e w' => e = .returned (.bool true) ∧ Below w.heap.size w w' := by
  have cA := awake1_any (w := w)
  have d1 : (40 < l.length ∧ decide ((40 : Int) < (l.length : Int)) = true) ∨ (decide ((40 : Int) < (l.length : Int)) = false ∧ 8 < ch.length ∧ decide ((8 : Int) < (ch.length : Int)) = true) := by
    rcases h with h | ⟨h1, h2⟩
    · exact .inl ⟨h, decide_eq_true (by omega)⟩
    · exact .inr ⟨decide_eq_false (by omega), h2, decide_eq_true (by omega)⟩
  clear h
  go_enter Tryz.func3, Tryz.ntmps3
  go_wp2_with fail
  refine cA.mono ?_
  rintro e w1 ⟨rfl, hb1⟩
  have HB1 := Lib.hid hb1
  clear hb1
  rcases d1 with ⟨d0, d1⟩ | ⟨d1, d0, d2⟩
  all_goals
    go_wp2_with fail
    go_ret
    exact ⟨rfl, HB1.out⟩
set_option maxHeartbeats 8000000 in
theorem calls_main (hl : Op1s w Al l) (hcl : l.length ≤ cl) (h1 : IS w ch A1c c1) (hr1 : ∀ x ∈ ch, -9223372036854775808 ≤ x ∧ x ≤ 9223372036854775807) (hn : l.length ≤ 40) (hn1 : ch.length ≤ 8) : Calls Tryz.prog 3 #[.slice Al l.length cl, .slice A1c ch.length c1] w fun e w' => e = .returned (.bool true) ∧ Below w.heap.size w w' := by
  have cA := awake1_any (w := w)
  have d1 : decide ((40 : Int) < (l.length : Int)) = false := decide_eq_false (by omega)
  have d2 : decide ((8 : Int) < (ch.length : Int)) = false := decide_eq_false (by omega)
  have cB := fun {w1 : World} (hb : Below w.heap.size w w1) => Build_any (hl.below hb rfl) (by omega) hcl
  have H1 := Lib.hid h1
  have HR1 := Lib.hid hr1
  clear h1 hl hcl hr1
  go_enter Tryz.func3, Tryz.ntmps3
  go_wp2_with fail
  refine cA.mono ?_
  rintro e w1 ⟨rfl, hb1⟩
  have cB1 := cB hb1
  have HB1 := Lib.hid hb1
  clear hb1 cA cB
  go_wp2_with fail
  refine cB1.mono ?_
  rintro e w2 ⟨g1, g2, V1, V2, A1, e1, A2, e2, Aq, cq, rfl, hmr, hrm, his, hap, hb2, nq, hnq, hqb⟩
  clear cB1 d1 d2
  obtain ⟨q, hq⟩ : ∃ q, q = bld1 l := ⟨_, rfl⟩
  rw [← hq] at hmr hrm his hqb ⊢
  have HE2 := Lib.hid (Env11.start (p := q) (HB1.out.trans (hb2.mono HB1.out.size)) hmr hrm his hap)
  have HQ := Lib.hid hqb
  have hql : q.2.length ≤ 1000 := Nat.le_trans hqb.len hnq
  clear hmr hrm his hap hb2 HB1 hq hqb hnq
  go_upto_region 8 with fail
  have HE3 := Lib.hid HE2.out
  clear HE2
  generalize (w2.alloc (.cells #[.pointer (some ⟨g1, 0, none⟩), .pointer (some ⟨g2, 0, none⟩)] 27)).alloc (.cells #[.int .i64 q.1.old.base, .int .i64 q.1.old.limit, .slice A1 q.1.old.ws.length e1, .int .i64 q.1.yng.base, .int .i64 q.1.yng.limit, .slice A2 q.1.yng.ws.length e2] 32) = w3 at *
  generalize w2.heap.size = bm at *
  generalize w1.heap.size = B1 at *
  obtain ⟨ra, hra⟩ : ∃ ra, ra = rts1 q.2 ch := ⟨_, rfl⟩
  have hla : ra.length ≤ 8 := by rw [hra, rts1_len]; omega
  have HUa : Hid (∀ x ∈ ra, U64 x) := Lib.hid (by rw [hra]; exact rts1_u _ _)
  have cR1 := Roots_any HE3.out.is (by omega) (H1.out.below HE3.out.bl) (by omega) HR1.out
  rw [← hra] at cR1
  have HRA := Lib.hid hra
  clear hra H1 HR1
  go_wp2_with fail
  refine cR1.mono ?_
  rintro e w4 ⟨va, rfl, hoa, hb4⟩
  clear cR1
  obtain ⟨Aa, ca, rfl, hca⟩ := own_shape hoa
  have HE4 := Lib.hid (HE3.out.below hb4)
  have HRT4 : Hid (Sl w4 1 Aa ra.length (wds ra)) := Lib.hid (own_sl hoa)
  have hAa : ∀ b o, Aa = some ⟨b, o, none⟩ → b < w4.heap.size := fun b o e => (hoa.lt b (by rw [e]; rfl)).2
  have cM := HE4.out.mark HE4.out.lt HRT4.out (by omega) hca HUa.out hAa
  have HAa := Lib.hid hAa
  have c0 : w4.cell? ⟨bm, 0, none⟩ = some (.pointer (some ⟨g1, 0, none⟩)) := HE4.out.kb.cell 0
  clear hoa hb4 HE3 hAa
  obtain ⟨m, hm⟩ : ∃ m, m = Mm.one q.1.old := ⟨_, rfl⟩
  have HM := Lib.hid hm
  rw [← hm] at cM
  have OK : Hid m.Ok := Lib.hid (by rw [hm]; exact Mm.one_ok HE4.out.mr.o.ok HE4.out.mr.ok.ob HE4.out.mr.ok.ol)
  have HSZ : Hid (m.size ≤ 16777216) := Lib.hid (by rw [hm, Mm.one_size]; exact HE4.out.len)
  clear hm
  have cS := fun {w5 : World} (hb : Below w4.heap.size w4 w5) => Strong_any (HE4.out.below hb).rm.o HE4.out.mr.ok.ob HE4.out.mr.ok.ol (HRT4.out.below hb) hca HUa.out (by omega)
  simp only [← HM.out] at cS
  have HMS := Lib.hid (Mm.marks_strong m ra)
  obtain ⟨om, hom⟩ : ∃ om, om = m.marks ra := ⟨_, rfl⟩
  obtain ⟨os, hos⟩ : ∃ os, os = m.strong ra := ⟨_, rfl⟩
  rw [← hom] at cM
  simp only [← hos] at cS
  rw [← hom, ← hos] at HMS
  clear hom hos
  go_wp2_with fail
  refine cM.mono ?_
  rintro e w5 h5
  obtain ⟨hb5, v, rfl, pa, rfl, hpa⟩ := TpT.of h5
  have HE5 := Lib.hid (HE4.out.below hb5)
  have cS5 := cS hb5
  have k0 : w5.cell? ⟨bm + 1, 0, none⟩ = some (.int .i64 q.1.old.base) := HE5.out.kr.cell 0
  have k1 : w5.cell? ⟨bm + 1, 1, none⟩ = some (.int .i64 q.1.old.limit) := HE5.out.kr.cell 1
  have k2 : w5.cell? ⟨bm + 1, 2, none⟩ = some (.slice A1 q.1.old.ws.length e1) := HE5.out.kr.cell 2
  have HPA := Lib.hid hpa
  clear cM c0 cS hb5 h5 hpa HRT4
  go_wp2_with fail
  refine cS5.mono ?_
  rintro e w6 ⟨hb6, h6⟩
  have HE6 := Lib.hid (HE5.out.below hb6)
  have HPA6 := Lib.hid (PtT.below HPA.out hb6)
  clear cS5 hb6 HE5 HPA HE4 k0 k1 k2
  rcases HMS.out with ⟨rfl, rfl⟩ | ⟨sg, wl, st, rfl, rfl, hmi, hsi, hp1, hp2⟩
  · subst h6
    have hpa : pa = .pointer none := HPA6.out
    subst hpa
    simp only [erM]
    go_wp2_with fail
    go_ret
    exact ⟨rfl, HE6.out.bl⟩
  · obtain ⟨vs6, rfl, ho6⟩ := h6
    obtain ⟨As, cs, rfl, hcs⟩ := own_shape ho6
    obtain ⟨Bk6, gm, bmk, rfl, hmk⟩ := HPA6.out
    have HMK6 := Lib.hid hmk
    have HST6 : Hid (IS w6 st As cs) := Lib.hid ⟨own_sl ho6, hcs⟩
    have HMI := Lib.hid hmi
    have HSI := Lib.hid hsi
    have HP1 := Lib.hid hp1
    have HP2 := Lib.hid hp2
    have hsl : st.length ≤ 16777216 := Nat.le_trans hsi.fnd.len HSZ.out
    have cWk := RWeak_any HE6.out.rm.o HE6.out.mr.ok.ob HE6.out.mr.ok.ol HST6.out (fun a ha => Mm.res_has OK.out (Mm.hdr_has (hsi.fnd.ok a ha).1)) hsl
    rw [← HM.out] at cWk
    have hwl : (m.weakR st).length ≤ 16777216 := by have h := weakB_len m st st []; unfold Mm.weakR; simp at h; omega
    obtain ⟨wk, hwk⟩ : ∃ wk, wk = m.weakR st := ⟨_, rfl⟩
    rw [← hwk] at cWk HP2 hwl
    have HML := Lib.hid (Nat.le_trans (marks_len hmi) HSZ.out)
    have k0 : w6.cell? ⟨bm + 1, 0, none⟩ = some (.int .i64 q.1.old.base) := HE6.out.kr.cell 0
    have k1 : w6.cell? ⟨bm + 1, 1, none⟩ = some (.int .i64 q.1.old.limit) := HE6.out.kr.cell 1
    have k2 : w6.cell? ⟨bm + 1, 2, none⟩ = some (.slice A1 q.1.old.ws.length e1) := HE6.out.kr.cell 2
    clear hmk ho6 hmi hsi hp1 hp2 hwk HPA6 HMS
    simp only [erM]
    go_wp2_with fail
    refine cWk.mono ?_
    rintro e w7 ⟨v7, rfl, ho7, hb7⟩
    obtain ⟨Aw, cw, rfl, hcw⟩ := own_shape ho7
    have HE7 := Lib.hid (HE6.out.below hb7)
    have HMK7 := Lib.hid (MkR0.below HMK6.out hb7)
    have HST7 := Lib.hid (HST6.out.below hb7)
    have HWK7 : Hid (IS w7 wk Aw cw) := Lib.hid ⟨own_sl ho7, hcw⟩
    clear cWk ho7 hb7 HE6 HMK6 HST6 k0 k1 k2
    go_wp2_with fail
    obtain ⟨tp, htp⟩ : ∃ tp, tp = q.1.old.top := ⟨_, rfl⟩
    have htop : 0 ≤ tp ∧ tp ≤ 16777216 := by rw [htp]; have := HE7.out.mr.ok.o.lim; have := HE7.out.mr.ok.ob; have := HE7.out.mr.ok.ol; unfold Spc.top; omega
    have HTP := Lib.hid htp
    clear htp
    go_loopw [15] (fun i wr => ∃ j : Int, i = .int .i64 j ∧ -1 ≤ j ∧ j ≤ tp + 1 ∧ Below w7.heap.size w7 wr) (fun i _ => (tp + 2 - (intOf i)).toNat)
    case atStart => exact ⟨-1, rfl, Int.le_refl _, by omega, Below.refl _ _⟩
    case round =>
      obtain ⟨j, rfl, hj0, hj, hbr⟩ := hrel
      have HERr := Lib.hid (HE7.out.below hbr)
      have c0 : wr.cell? ⟨bm, 0, none⟩ = some (.pointer (some ⟨g1, 0, none⟩)) := HERr.out.kb.cell 0
      have cT := Top_any HERr.out.mr.o
      rw [← HTP.out] at cT
      go_wp2_with fail
      refine cT.mono ?_
      rintro e wz ⟨rfl, hbz⟩
      have hbr := hbr.trans (hbz.mono hbr.size)
      have hsz := hbr.size
      have HER := Lib.hid (HE7.out.below hbr)
      have HMKR := Lib.hid (MkR0.below HMK7.out hbr)
      have HSTR := Lib.hid (HST7.out.below hbr)
      have HWKR := Lib.hid (HWK7.out.below hbr)
      have HBR := Lib.hid hbr
      clear hbz cT c0 HERr
      clear hbr
      by_cases hle : j ≤ tp
      · skip
        have cH := Has_any (show MkR wz Bk6 gm bmk m sg wl from HMKR.out) j (by omega)
        have cK := Weak_any (show MkR wz Bk6 gm bmk m sg wl from HMKR.out) j (by omega)
        have cS := R11Has_any HSTR.out (by omega) j
        have cW := R11Has_any HWKR.out (by omega) j
        rw [marks_ne HMI.out] at cK
        rw [contains_perm HP1.out] at cH
        rw [contains_perm HP2.out] at cK
        generalize st.contains j = q1 at *
        generalize wk.contains j = q2 at *
        cases q1 <;> cases q2
        all_goals
          go_wp2_with (first | (go_at_call 20; (with_reducible refine cH.mono ?_); rintro e wy ⟨rfl, rfl⟩) | (go_at_call 22; (with_reducible refine cK.mono ?_); rintro e wy ⟨rfl, rfl⟩) | (go_at_call 21; (with_reducible refine cS.mono ?_); rintro e wy ⟨rfl, rfl⟩) | (go_at_call 21; (with_reducible refine cW.mono ?_); rintro e wy ⟨rfl, rfl⟩))
          go_roundw
          case rel => exact ⟨j + 1, rfl, by omega, by omega, HBR.out⟩
          case measure => simp [intOf]; omega
      · skip
        have hle2 : tp < j := by omega
        obtain ⟨al, hal⟩ : ∃ al, al = srtI (st ++ wk) := ⟨_, rfl⟩
        have hall : al.length ≤ 33554432 := by rw [hal, srtI_len, List.length_append]; omega
        have cSo := Sorted_any HSTR.out HWKR.out (by omega) (by omega)
        rw [← hal] at cSo
        have hpm : (sg ++ wl).Perm (st ++ wk) := HP1.out.append HP2.out
        have HAL : Hid (srtI (sg ++ wl) = al) := Lib.hid (by rw [hal]; exact srtI_eq hpm)
        have HWS : Hid (wSum m (sg ++ wl) = wSum m al) := Lib.hid (wSum_perm m (hpm.trans (by rw [hal]; exact (srtI_perm _).symm)))
        clear hal hpm
        go_wp2_with (first | (go_at_call 23; refine cSo.mono ?_; rintro e w8 ⟨v8, rfl, ho8, hb8⟩; obtain ⟨Al8, cl8, rfl, hcl8⟩ := own_shape ho8; have HER8 := Lib.hid (HER.out.below hb8); have HMK8 := Lib.hid (MkR0.below HMKR.out hb8); have HAL8 := Lib.hid (own_sl ho8); have HB8 := Lib.hid hb8; clear ho8 hb8))
        go_upto_region 22 with fail
        obtain ⟨ws, hws⟩ : ∃ ws, ws = wSum m al := ⟨_, rfl⟩
        have HWW : Hid (wSum m (sg ++ wl) = ws ∧ wSum m al = ws) := Lib.hid ⟨HWS.out.trans hws.symm, hws.symm⟩
        have HBR8 := Lib.hid HER8.out.kr
        clear hws HWS
        refine wp_region_addsG 13 (fun i => ([[], [0], [], [1, 2], [3], [4], [4, 5], [4], [4, 7], [4], [4, 8, 9], [4, 6, 10], [4, 11]] : List (List Nat)).getD i []) (EL [Ent.val (.pointer (some ⟨gm, 0, none⟩)), Ent.of (LstT al) LstT.below, Ent.val (.slice Al8 al.length cl8), Ent.val (.bool true), Ent.val (.bool true), Ent.val (.pointer (some ⟨gm, 0, none⟩)), Ent.val (.int .i64 ws), Ent.val (.pointer (some ⟨(bm + 1), 0, none⟩)), Ent.val (.agg #[.int .i64 q.1.old.base, .int .i64 q.1.old.limit, .slice A1 q.1.old.ws.length e1]), Ent.val (.slice Al8 al.length cl8), Ent.val (.int .i64 ws), Ent.val (.bool true), Ent.val (.bool true)]) (by kernel_rfl) (by kernel_rfl) (by kernel_rfl) (by rfl) ?_ ?_ ?_
        · intro i hi o ho g b hgb vs v w1 hR
          rcases (show i = 0 ∨ i = 1 ∨ i = 2 ∨ i = 3 ∨ i = 4 ∨ i = 5 ∨ i = 6 ∨ i = 7 ∨ i = 8 ∨ i = 9 ∨ i = 10 ∨ i = 11 ∨ i = 12 by omega) with rfl | rfl | rfl | rfl | rfl | rfl | rfl | rfl | rfl | rfl | rfl | rfl | rfl <;> cases ho <;> first | (cases hgb; exact hR) | cases hgb
        · intro i hi o ho vs w1 hb1 hgr
          rcases (show i = 0 ∨ i = 1 ∨ i = 2 ∨ i = 3 ∨ i = 4 ∨ i = 5 ∨ i = 6 ∨ i = 7 ∨ i = 8 ∨ i = 9 ∨ i = 10 ∨ i = 11 ∨ i = 12 by omega) with rfl | rfl | rfl | rfl | rfl | rfl | rfl | rfl | rfl | rfl | rfl | rfl | rfl <;> cases ho
          · clear hgr
            change Made _ (Adds _ _ _) (Sem.run _ (execOp (Act.eval (frm _ _ _ [])) _) _)
            simp only [frm]
            go_simp
            exact adds_val rfl
          · have h0 : vs 0 = _ := hgr 0 (by decide)
            clear hgr
            change Made _ (Adds _ _ _) (Sem.run _ (execOp (Act.eval (Act.put (frm _ _ _ []) (some 97) (vs 0))) _) _)
            simp only [frm, h0]
            have cL := List_any (show MkR w1 Bk6 gm bmk m sg wl from MkR0.below HMK8.out hb1) HMI.out.disj (fun x hx => WalkArith.wf_i64 (by have := marks_rg OK.out HMI.out x hx; omega)) (by have := HML.out; omega)
            rw [HAL.out] at cL
            go_simp
            exact adds_call (T := LstT al) (hT := LstT.below) (ob := fun _ => none) cL fun e w2 ⟨v, he, ho, hb⟩ => ⟨v, he, LstT.own ho, hb, (fun k hk => nomatch hk)⟩
          · clear hgr
            change Made _ (Adds _ _ _) (Sem.run _ (execOp (Act.eval (frm _ _ _ [])) _) _)
            simp only [frm]
            go_simp
            exact adds_val rfl
          · obtain ⟨A1l, c1l, h1, hc1l, hs1⟩ := hgr 1 (by decide)
            have h2 : vs 2 = _ := hgr 2 (by decide)
            clear hgr
            change Made _ (Adds _ _ _) (Sem.run _ (execOp (Act.eval (Act.put (Act.put (frm _ _ _ []) (some 99) (vs 2)) (some 98) (vs 1))) _) _)
            simp only [frm, h1, h2]
            have cI := Ints_any al al A1l Al8 c1l cl8 w1 (by omega) hc1l hcl8 hs1 (HAL8.out.below hb1)
            rw [show eqL al al = true from decide_eq_true rfl] at cI
            go_simp
            exact adds_quiet cI
          · have h3 : vs 3 = _ := hgr 3 (by decide)
            clear hgr
            change Made _ (Adds _ _ _) (Sem.run _ (execOp (Act.eval (Act.put (frm _ _ _ []) (some 100) (vs 3))) _) _)
            simp only [frm, h3]
            go_simp
            exact adds_val rfl
          · have h4 : vs 4 = _ := hgr 4 (by decide)
            clear hgr
            change Made _ (Adds _ _ _) (Sem.run _ (execOp (Act.eval (Act.put (frm _ _ _ []) (some 101) (vs 4))) _) _)
            simp only [frm, h4]
            go_simp
            exact adds_val rfl
          · have h4 : vs 4 = _ := hgr 4 (by decide)
            have h5 : vs 5 = _ := hgr 5 (by decide)
            clear hgr
            change Made _ (Adds _ _ _) (Sem.run _ (execOp (Act.eval (Act.put (Act.put (frm _ _ _ []) (some 102) (vs 5)) (some 101) (vs 4))) _) _)
            simp only [frm, h4, h5]
            have cW := Words_mk (show MkR w1 Bk6 gm bmk m sg wl from MkR0.below HMK8.out hb1)
            rw [HWW.out.1] at cW
            go_simp
            exact adds_still cW
          · have h4 : vs 4 = _ := hgr 4 (by decide)
            clear hgr
            change Made _ (Adds _ _ _) (Sem.run _ (execOp (Act.eval (Act.put (frm _ _ _ []) (some 101) (vs 4))) _) _)
            simp only [frm, h4]
            go_simp
            exact adds_val rfl
          · have h4 : vs 4 = _ := hgr 4 (by decide)
            have h7 : vs 7 = _ := hgr 7 (by decide)
            clear hgr
            change Made _ (Adds _ _ _) (Sem.run _ (execOp (Act.eval (Act.put (Act.put (frm _ _ _ []) (some 104) (vs 7)) (some 101) (vs 4))) _) _)
            simp only [frm, h4, h7]
            have hbk := HBR8.out.below hb1 HBR8.out.lt
            have c0 : w1.cell? ⟨(bm + 1), 0, none⟩ = some (.int .i64 q.1.old.base) := hbk.cell 0
            have c1 : w1.cell? ⟨(bm + 1), 1, none⟩ = some (.int .i64 q.1.old.limit) := hbk.cell 1
            have c2 : w1.cell? ⟨(bm + 1), 2, none⟩ = some (.slice A1 q.1.old.ws.length e1) := hbk.cell 2
            clear hbk
            go_simp
            exact adds_val rfl
          · have h4 : vs 4 = _ := hgr 4 (by decide)
            clear hgr
            change Made _ (Adds _ _ _) (Sem.run _ (execOp (Act.eval (Act.put (frm _ _ _ []) (some 101) (vs 4))) _) _)
            simp only [frm, h4]
            go_simp
            exact adds_val rfl
          · have h4 : vs 4 = _ := hgr 4 (by decide)
            have h8 : vs 8 = _ := hgr 8 (by decide)
            have h9 : vs 9 = _ := hgr 9 (by decide)
            clear hgr
            change Made _ (Adds _ _ _) (Sem.run _ (execOp (Act.eval (Act.put (Act.put (Act.put (frm _ _ _ []) (some 106) (vs 9)) (some 105) (vs 8)) (some 101) (vs 4))) _) _)
            simp only [frm, h4, h8, h9]
            have cW := RWords11_any (HER8.out.below hb1).rm.o ⟨HAL8.out.below hb1, hcl8⟩ (by omega)
            rw [← HM.out, HWW.out.2] at cW
            go_simp
            exact adds_below cW
          · have h4 : vs 4 = _ := hgr 4 (by decide)
            have h6 : vs 6 = _ := hgr 6 (by decide)
            have h10 : vs 10 = _ := hgr 10 (by decide)
            clear hgr
            change Made _ (Adds _ _ _) (Sem.run _ (execOp (Act.eval (Act.put (Act.put (Act.put (frm _ _ _ []) (some 107) (vs 10)) (some 103) (vs 6)) (some 101) (vs 4))) _) _)
            simp only [frm, h4, h6, h10]
            go_simp
            exact adds_val rfl
          · have h4 : vs 4 = _ := hgr 4 (by decide)
            have h11 : vs 11 = _ := hgr 11 (by decide)
            clear hgr
            change Made _ (Adds _ _ _) (Sem.run _ (execOp (Act.eval (Act.put (Act.put (frm _ _ _ []) (some 108) (vs 11)) (some 101) (vs 4))) _) _)
            simp only [frm, h4, h11]
            go_simp
            exact adds_val rfl
        · intro vs w1 hb1 hall hap
          have h12 : vs 12 = _ := (hall 12 (by omega)).1
          clear hall hap
          change wpList _ _ _ [_] (Act.put (Act.put (Act.put (Act.put (Act.put (Act.put (Act.put (Act.put (Act.put (Act.put (Act.put (Act.put (Act.put (frm _ _ _ []) (some 109) (vs 12)) (some 108) (vs 11)) (some 107) (vs 10)) (some 106) (vs 9)) (some 105) (vs 8)) (some 104) (vs 7)) (some 103) (vs 6)) (some 102) (vs 5)) (some 101) (vs 4)) (some 100) (vs 3)) (some 99) (vs 2)) (some 98) (vs 1)) (some 97) (vs 0)) _
          simp only [frm, h12]
          go_wp2_with fail
          go_ret
          exact ⟨rfl, HER8.out.bl.trans (hb1.mono HER8.out.bl.size)⟩
theorem calls_any (hl : Op1s w Al l) (hcl : l.length ≤ cl) (h1 : IS w ch A1c c1) (hr1 : ∀ x ∈ ch, -9223372036854775808 ≤ x ∧ x ≤ 9223372036854775807) (hb : l.length ≤ 140737488351232) (hb1 : ch.length ≤ 140737488351232) : Calls Tryz.prog 3 #[.slice Al l.length cl, .slice A1c ch.length c1] w fun e w' => e = .returned (.bool true) ∧ Below w.heap.size w w' := by
  by_cases a : 40 < l.length
  · exact calls_big (.inl a) hb hb1
  · by_cases b : 8 < ch.length
    · exact calls_big (.inr ⟨by omega, b⟩) hb hb1
    · exact calls_main hl hcl h1 hr1 (by omega) (by omega)
end
end Go.Proofs.YtjpaogapclfajaaGreat
