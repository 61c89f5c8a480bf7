/- Law 11: MarkingLeaves. (printed by gen/mk11b.py) -/
import Derived.Test.YtjpaogapclfajaaGreatEnv11
import Derived.BigQuiet
import Derived.Deep.DeepCutAuto
import Derived.StillTailTactics
namespace Go.Proofs.YtjpaogapclfajaaGreat
set_option linter.unusedVariables false
set_option linter.unusedSimpArgs false
set_option linter.unusedSectionVars false
open Go.RowKit Go.Sort
attribute [local go_sem] Oper.semAt_some onlyN_normal
set_option maxRecDepth 100000
/-- the program's memory is written, the rest stays -/
theorem Env11.written {w wn w' : World} {B bm g1 g2 : Nat} {V1 V2 : Value} {A1 A2 Aq : Option Addr} {e1 e2 cq : Nat} {q : Mm × List Int} {Bm gm bmk n B5 n5 : Nat} {f : Int → Option Int} {ws : Int} {v : Value} {xs : List Value}
    (h : Env11 w wn B bm g1 g2 V1 V2 A1 e1 A2 e2 Aq cq q) (hm : MkR0 wn Bm gm bmk n f ws) (hr : wn.ownsRow B5 3 1 v n5 xs) (hk : Kp (memS V1 V2) wn w') :
    IS w' q.2 Aq cq ∧ Bk w' bm 27 #[.pointer (some ⟨g1, 0, none⟩), .pointer (some ⟨g2, 0, none⟩)] ∧ MkR0 w' Bm gm bmk n f ws ∧ w'.ownsRow B5 3 1 v n5 xs ∧ wn.heap.size ≤ w'.heap.size := by
  refine ⟨h.is.kpC hk fun b o e => (h.ap b o e).2, h.mr.bkN hk h.kb (by decide), hm.kp hk (fun e => ?_) (fun e => ?_), own_local hr fun k hk' => hk.block k (hr.lt k hk').2 fun e => ?_, hk.size⟩
  · rcases e with e | e
    · exact h.mr.o.own_ne hm.hd (by decide) e
    · exact h.mr.y.own_ne hm.hd (by decide) e
  · rcases e with e | e
    · exact hm.mp.ne_own h.mr.o.own e
    · exact hm.mp.ne_own h.mr.y.own e
  · rcases e with e | e
    · exact own_ne_own hr h.mr.o.own (by decide) hk' e
    · exact own_ne_own hr h.mr.y.own (by decide) hk' e
/-- the marks behind Keep, word after word -/
def Mm.kpL (m : Mm) (sg : List Int) (wl l : List Int) : List Int := l.foldl (fun wl x => m.kpW sg wl (m.rfr x)) wl
theorem Mm.kpW_len (m : Mm) (sg wl : List Int) (o : Option (Option Int)) : (m.kpW sg wl o).length ≤ wl.length + 1 := by
  unfold Mm.kpW
  split
  · unfold Mm.keepW; split <;> simp
  · omega
/-- what stays of marks: no number twice, numbers of addresses -/
structure KpI (m : Mm) (sg wl : List Int) : Prop where
  nd : (sg ++ wl).Nodup
  rg : ∀ a ∈ sg ++ wl, 0 ≤ a ∧ a ≤ 4294967296
theorem KpI.step {m : Mm} (ok : m.Ok) {sg wl : List Int} (h : KpI m sg wl) {x : Int} {o : Option (Option Int)} (ho : m.rfr x = o) : KpI m sg (m.kpW sg wl o) := by
  unfold Mm.kpW
  split
  · rename_i a
    have hrg := Mm.rfr_rg ok ho
    unfold Mm.keepW
    split
    · rename_i hc
      refine ⟨?_, fun b hb => ?_⟩
      · rw [← List.append_assoc]
        exact nodup_snoc h.nd (by rw [List.mem_append]; rintro (h1 | h1); exact absurd hc.1 (by simp [h1]); exact absurd hc.2.1 (by simp [h1]))
      · rw [← List.append_assoc] at hb
        rcases List.mem_append.1 hb with hb | hb
        · exact h.rg b hb
        · rw [List.mem_singleton.1 hb]; exact hrg
    · exact h
  · exact h
section
variable {w : World} {l : List Op1} {Al : Option Addr} {cl : Nat} {ch : List Int} {A1c : Option Addr} {c1 : Nat}
theorem leaves_big (h : 40 < l.length ∨ (l.length ≤ 40 ∧ 8 < ch.length)) (hb : l.length ≤ 140737488351232) (hb1 : ch.length ≤ 140737488351232) : Calls Tryz.prog 5 #[.slice Al l.length cl, .slice A1c ch.length c1] w fun e w' => e = .returned (.bool true) ∧ Below w.heap.size w w' := by
  have cA := awake1_any (w := w)
  have d1 : (40 < l.length ∧ decide ((40 : Int) < (l.length : Int)) = true) ∨ (decide ((40 : Int) < (l.length : Int)) = false ∧ 8 < ch.length ∧ decide ((8 : Int) < (ch.length : Int)) = true) := by
    rcases h with h | ⟨h1, h2⟩
    · exact .inl ⟨h, decide_eq_true (by omega)⟩
    · exact .inr ⟨decide_eq_false (by omega), h2, decide_eq_true (by omega)⟩
  clear h
  go_enter Tryz.func5, Tryz.ntmps5
  go_wp2_with fail
  refine cA.mono ?_
  rintro e w1 ⟨rfl, hb1⟩
  have HB1 := Lib.hid hb1
  clear hb1
  rcases d1 with ⟨d0, d1⟩ | ⟨d1, d0, d2⟩
  all_goals
    go_wp2_with fail
    go_ret
    exact ⟨rfl, HB1.out⟩
set_option maxHeartbeats 8000000 in
theorem leaves_main (hl : Op1s w Al l) (hcl : l.length ≤ cl) (h1 : IS w ch A1c c1) (hr1 : ∀ x ∈ ch, -9223372036854775808 ≤ x ∧ x ≤ 9223372036854775807) (hn : l.length ≤ 40) (hn1 : ch.length ≤ 8) : Calls Tryz.prog 5 #[.slice Al l.length cl, .slice A1c ch.length c1] w fun e w' => e = .returned (.bool true) ∧ Below w.heap.size w w' := by
  have cA := awake1_any (w := w)
  have d1 : decide ((40 : Int) < (l.length : Int)) = false := decide_eq_false (by omega)
  have d2 : decide ((8 : Int) < (ch.length : Int)) = false := decide_eq_false (by omega)
  have cB := fun {w1 : World} (hb : Below w.heap.size w w1) => Build_any (hl.below hb rfl) (by omega) hcl
  have H1 := Lib.hid h1
  have HR1 := Lib.hid hr1
  clear h1 hl hcl hr1
  go_enter Tryz.func5, Tryz.ntmps5
  go_wp2_with fail
  refine cA.mono ?_
  rintro e w1 ⟨rfl, hb1⟩
  have cB1 := cB hb1
  have HB1 := Lib.hid hb1
  clear hb1 cA cB
  go_wp2_with fail
  refine cB1.mono ?_
  rintro e w2 ⟨g1, g2, V1, V2, A1, e1, A2, e2, Aq, cq, rfl, hmr, hrm, his, hap, hb2, nq, hnq, hqb⟩
  clear cB1 d1 d2
  obtain ⟨q, hq⟩ : ∃ q, q = bld1 l := ⟨_, rfl⟩
  rw [← hq] at hmr hrm his hqb ⊢
  have HE2 := Lib.hid (Env11.start (p := q) (HB1.out.trans (hb2.mono HB1.out.size)) hmr hrm his hap)
  have HQ := Lib.hid hqb
  have hql : q.2.length ≤ 1000 := Nat.le_trans hqb.len hnq
  have hwB := HB1.out.size
  clear hmr hrm his hap hb2 HB1 hq hqb hnq
  go_upto_region 8 with fail
  have HE3 := Lib.hid HE2.out
  clear HE2
  generalize (w2.alloc (.cells #[.pointer (some ⟨g1, 0, none⟩), .pointer (some ⟨g2, 0, none⟩)] 27)).alloc (.cells #[.int .i64 q.1.old.base, .int .i64 q.1.old.limit, .slice A1 q.1.old.ws.length e1, .int .i64 q.1.yng.base, .int .i64 q.1.yng.limit, .slice A2 q.1.yng.ws.length e2] 32) = w3 at *
  generalize w2.heap.size = bm at *
  generalize w1.heap.size = B1 at *
  obtain ⟨ra, hra⟩ : ∃ ra, ra = rts1 q.2 ch := ⟨_, rfl⟩
  have hla : ra.length ≤ 8 := by rw [hra, rts1_len]; omega
  have HUa : Hid (∀ x ∈ ra, U64 x) := Lib.hid (by rw [hra]; exact rts1_u _ _)
  have cR1 := Roots_any HE3.out.is (by omega) (H1.out.below HE3.out.bl) (by omega) HR1.out
  rw [← hra] at cR1
  have HRA := Lib.hid hra
  clear hra H1 HR1
  go_wp2_with fail
  refine cR1.mono ?_
  rintro e w4 ⟨va, rfl, hoa, hb4⟩
  clear cR1
  obtain ⟨Aa, ca, rfl, hca⟩ := own_shape hoa
  have HE4 := Lib.hid (HE3.out.below hb4)
  have HRT4 : Hid (Sl w4 1 Aa ra.length (wds ra)) := Lib.hid (own_sl hoa)
  have hAa : ∀ b o, Aa = some ⟨b, o, none⟩ → b < w4.heap.size := fun b o e => (hoa.lt b (by rw [e]; rfl)).2
  have cM := HE4.out.mark HE4.out.lt HRT4.out (by omega) hca HUa.out hAa
  have HAa := Lib.hid hAa
  have c0 : w4.cell? ⟨bm, 0, none⟩ = some (.pointer (some ⟨g1, 0, none⟩)) := HE4.out.kb.cell 0
  clear hoa hb4 HE3 hAa
  obtain ⟨m, hm⟩ : ∃ m, m = Mm.one q.1.old := ⟨_, rfl⟩
  have HM := Lib.hid hm
  rw [← hm] at cM
  have OK : Hid m.Ok := Lib.hid (by rw [hm]; exact Mm.one_ok HE4.out.mr.o.ok HE4.out.mr.ok.ob HE4.out.mr.ok.ol)
  have HSZ : Hid (m.size ≤ 16777216) := Lib.hid (by rw [hm, Mm.one_size]; exact HE4.out.len)
  clear hm
  have HMS : Hid (∀ sg wl, m.marks ra = some (sg, wl) → m.MarksI ra sg wl) := Lib.hid fun sg wl h => Mm.marks_some h
  obtain ⟨om, hom⟩ : ∃ om, om = m.marks ra := ⟨_, rfl⟩
  rw [← hom] at cM
  have HMS : Hid (∀ sg wl, om = some (sg, wl) → m.MarksI ra sg wl) := Lib.hid fun sg wl e => HMS.out _ _ (hom.symm.trans e)
  clear hom
  go_wp2_with fail
  refine cM.mono ?_
  rintro e w5 h5
  have hb5 := h5.1
  have h52 := h5.2
  have HE5 := Lib.hid (HE4.out.below hb5)
  have HRT5 := Lib.hid (HRT4.out.below hb5)
  have hs45 := hb5.size
  clear cM c0 h5
  rcases om with _ | ⟨sg, wl⟩
  · dsimp only at h52
    subst h52
    clear HMS
    go_wp2_with fail
    go_loopw [12] (fun i wr => i = .int .i64 0 ∧ wr = w5) (fun i _ => 0)
    case atStart => exact ⟨rfl, rfl⟩
    case round =>
      obtain ⟨rfl, rfl⟩ := hrel
      have cS := Same11_any HE5.out.mr HE5.out.rm
      have c0 : wr.cell? ⟨bm, 0, none⟩ = some (.pointer (some ⟨g1, 0, none⟩)) := HE5.out.kb.cell 0
      have c1 : wr.cell? ⟨bm, 1, none⟩ = some (.pointer (some ⟨g2, 0, none⟩)) := HE5.out.kb.cell 1
      have k0 : wr.cell? ⟨bm + 1, 0, none⟩ = some (.int .i64 q.1.old.base) := HE5.out.kr.cell 0
      have k1 : wr.cell? ⟨bm + 1, 1, none⟩ = some (.int .i64 q.1.old.limit) := HE5.out.kr.cell 1
      have k2 : wr.cell? ⟨bm + 1, 2, none⟩ = some (.slice A1 q.1.old.ws.length e1) := HE5.out.kr.cell 2
      have k3 : wr.cell? ⟨bm + 1, 3, none⟩ = some (.int .i64 q.1.yng.base) := HE5.out.kr.cell 3
      have k4 : wr.cell? ⟨bm + 1, 4, none⟩ = some (.int .i64 q.1.yng.limit) := HE5.out.kr.cell 4
      have k5 : wr.cell? ⟨bm + 1, 5, none⟩ = some (.slice A2 q.1.yng.ws.length e2) := HE5.out.kr.cell 5
      by_cases hz : 0 < ra.length
      · have hz1 : decide ((0 : Int) < (ra.length : Int)) = true := decide_eq_true (by omega)
        have hz2 : (0 : Int) < (ra.length : Int) := by omega
        go_wp2_with fail
        refine cS.mono ?_
        rintro e w6 ⟨rfl, hb6⟩
        have HB6 := Lib.hid (HE5.out.bl.trans (hb6.mono HE5.out.bl.size))
        clear hb6 cS c0 c1 k0 k1 k2 k3 k4 k5
        go_wp2_with fail
        go_ret
        exact ⟨rfl, HB6.out⟩
      · have hz1 : decide ((0 : Int) < (ra.length : Int)) = false := decide_eq_false (by omega)
        have hz2 : ¬ (0 : Int) < (ra.length : Int) := by omega
        go_wp2_with fail
        refine cS.mono ?_
        rintro e w6 ⟨rfl, hb6⟩
        have HB6 := Lib.hid (HE5.out.bl.trans (hb6.mono HE5.out.bl.size))
        clear hb6 cS c0 c1 k0 k1 k2 k3 k4 k5
        go_wp2_with fail
        go_ret
        exact ⟨rfl, HB6.out⟩
  · obtain ⟨gm, bmk, rfl, hmk⟩ := h52
    have HMI := Lib.hid (HMS.out sg wl rfl)
    have HMK5 := Lib.hid hmk
    have HML := Lib.hid (Nat.le_trans (marks_len HMI.out) HSZ.out)
    have HKI : Hid (KpI m sg wl) := Lib.hid ⟨HMI.out.disj, marks_rg OK.out HMI.out⟩
    have HB5 := Lib.hid hb5
    clear hmk HMS hb5
    go_wp2_with fail
    go_loopw [12] (fun i wr => ∃ (j : Nat) (wl' : List Int), i = .int .i64 (j : Int) ∧ j ≤ ra.length ∧ Below w4.heap.size w4 wr ∧ MkR wr w4.heap.size gm bmk m sg wl' ∧ wl'.length ≤ wl.length + j ∧ KpI m sg wl') (fun i _ => ra.length - (intOf i).toNat)
    case atStart => exact ⟨0, wl, rfl, Nat.zero_le _, HB5.out, HMK5.out, by omega, HKI.out⟩
    case round =>
      obtain ⟨j, wl', rfl, hj, hbr, hmk, hwl, hki⟩ := hrel
      have HER := Lib.hid (HE4.out.below hbr)
      have HMKR := Lib.hid hmk
      have HBR := Lib.hid hbr
      have HKR := Lib.hid hki
      have hsz := hbr.size
      have hml : (sg ++ wl').length ≤ 100000000 := by have := HML.out; simp only [List.length_append] at this ⊢; omega
      have c0 : wr.cell? ⟨bm, 0, none⟩ = some (.pointer (some ⟨g1, 0, none⟩)) := HER.out.kb.cell 0
      clear hmk hki
      by_cases hlt : j < ra.length
      · obtain ⟨b2, o2, rfl, hbl, hcc⟩ := (HRT4.out.below hbr).get hlt
        have t1 : ra[j]? = some ra[j] := List.getElem?_eq_getElem hlt
        have e1' : wr.cell? ⟨b2, o2 + j, none⟩ = some (.int .u64 ra[j]) := hcc j _ (wds_get t1)
        have hxu := HUa.out ra[j] (List.getElem_mem hlt)
        have hcj : j < ca := by omega
        have hjI : (j : Int) < (ra.length : Int) := by omega
        have hjd : decide ((j : Int) < (ra.length : Int)) = true := decide_eq_true hjI
        generalize ra[j] = x at e1' hxu t1
        have cK := fun {w6 : World} (hb : Below wr.heap.size wr w6) => Keep_any (HER.out.below hb).mr.o HER.out.mr.ok.ob HER.out.mr.ok.ol (HER.out.below hb).lt (by rw [← HM.out]; exact MkR0.below HMKR.out hb) hml hxu
        simp only [← HM.out] at cK
        obtain ⟨o, ho⟩ : ∃ o, o = m.rfr x := ⟨_, rfl⟩
        simp only [← ho] at cK
        have HO := Lib.hid ho.symm
        have cK := cK (w6 := wr.drew) ((Below.refl _ _).drew)
        have HKN := Lib.hid (HKR.out.step OK.out HO.out)
        have hkl := m.kpW_len sg wl' o
        clear t1 hcc hbl ho hxu hbr
        go_wp2_with fail
        go_still_tail 7, (by kernel_rfl)
        change wpList _ _ _ _ _ wr.drew
        go_wp2_with fail
        refine cK.mono ?_
        rintro e w6 ⟨rfl, hm6, hk6⟩
        have hk6' : Kp (fun k => k = gm ∨ k = bmk) wr w6 := ⟨hk6.os, hk6.tape, hk6.output, hk6.size, hk6.block⟩
        have HM6 := Lib.hid hm6
        have HB6 := Lib.hid (hk6'.toBelow HBR.out hsz fun k hk => by rcases hk with rfl | rfl; exact HMKR.out.ge; exact HMKR.out.gm)
        clear hm6 hk6 hk6' cK c0 e1'
        go_wp2_with fail
        go_roundw
        case rel => exact ⟨j + 1, _, by go_num, by omega, HB6.out, HM6.out, by omega, HKN.out⟩
        case measure => simp [intOf]; omega
      · have hjI : ¬ (j : Int) < (ra.length : Int) := by omega
        have hjd : decide ((j : Int) < (ra.length : Int)) = false := decide_eq_false hjI
        have cS := Same11_any HER.out.mr HER.out.rm
        have c1 : wr.cell? ⟨bm, 1, none⟩ = some (.pointer (some ⟨g2, 0, none⟩)) := HER.out.kb.cell 1
        have k0 : wr.cell? ⟨bm + 1, 0, none⟩ = some (.int .i64 q.1.old.base) := HER.out.kr.cell 0
        have k1 : wr.cell? ⟨bm + 1, 1, none⟩ = some (.int .i64 q.1.old.limit) := HER.out.kr.cell 1
        have k2 : wr.cell? ⟨bm + 1, 2, none⟩ = some (.slice A1 q.1.old.ws.length e1) := HER.out.kr.cell 2
        have k3 : wr.cell? ⟨bm + 1, 3, none⟩ = some (.int .i64 q.1.yng.base) := HER.out.kr.cell 3
        have k4 : wr.cell? ⟨bm + 1, 4, none⟩ = some (.int .i64 q.1.yng.limit) := HER.out.kr.cell 4
        have k5 : wr.cell? ⟨bm + 1, 5, none⟩ = some (.slice A2 q.1.yng.ws.length e2) := HER.out.kr.cell 5
        clear hbr
        go_wp2_with fail
        refine cS.mono ?_
        rintro e w6 ⟨rfl, hb6⟩
        have HE6 := Lib.hid (HER.out.below hb6)
        have HM6 := Lib.hid (MkR0.below HMKR.out hb6)
        clear hb6 cS c0 c1 k0 k1 k2 k3 k4 k5
        have cL := fun {w7 : World} (h : MkR w7 w4.heap.size gm bmk m sg wl') => List_any h HKR.out.nd (fun x hx => WalkArith.wf_i64 (by have := HKR.out.rg x hx; omega)) hml
        obtain ⟨bl, hbl⟩ : ∃ bl, bl = srtI (sg ++ wl') := ⟨_, rfl⟩
        simp only [← hbl] at cL
        have hbll : bl.length ≤ 100000000 := by rw [hbl, srtI_len]; exact hml
        have HCL := Lib.hid (fun (w7 : World) (h : MkR w7 w4.heap.size gm bmk m sg wl') => cL h)
        have cL6 := cL HM6.out
        clear hbl cL
        go_wp2_with fail
        refine cL6.mono ?_
        rintro e w7 ⟨v7, rfl, ho7, hb7⟩
        obtain ⟨A7, c7, rfl, hc7⟩ := own_shape ho7
        have HE7 := Lib.hid (HE6.out.below hb7)
        have HM7 := Lib.hid (MkR0.below HM6.out hb7)
        have HO7 := Lib.hid ho7
        clear cL6 ho7 hb7 HE6 HM6 HER HMKR HBR
        go_wp2_with fail
        go_loopw [14] (fun i wr => ∃ (j : Nat) (m' : Mm), i = .int .i64 (j : Int) ∧ j ≤ q.2.length ∧ MR wr B1 g1 g2 V1 V2 m' ∧ Kp (memS V1 V2) w7 wr) (fun i _ => q.2.length - (intOf i).toNat)
        case atStart => exact ⟨0, q.1, rfl, Nat.zero_le _, HE7.out.mr, Kp.refl _ _⟩
        case round =>
          obtain ⟨j2, m', rfl, hj2, hmr, hkp⟩ := hrel
          obtain ⟨his, hkb, hmk, hown, hs7⟩ := HE7.out.written HM7.out HO7.out hkp
          have HKP := Lib.hid hkp
          have HMR := Lib.hid hmr
          have HMK := Lib.hid hmk
          have HOW := Lib.hid hown
          have c0 : wr.cell? ⟨bm, 0, none⟩ = some (.pointer (some ⟨g1, 0, none⟩)) := hkb.cell 0
          have c1 : wr.cell? ⟨bm, 1, none⟩ = some (.pointer (some ⟨g2, 0, none⟩)) := hkb.cell 1
          have hcq := his.cap
          by_cases hlt2 : j2 < q.2.length
          · obtain ⟨b2, o2, rfl, hbl, hcc⟩ := his.sl.get hlt2
            have t1 : q.2[j2]? = some q.2[j2] := List.getElem?_eq_getElem hlt2
            have e1' : wr.cell? ⟨b2, o2 + j2, none⟩ = some (.int .i64 q.2[j2]) := hcc j2 _ (ints_get t1)
            have hcj : j2 < cq := by omega
            have hjI2 : (j2 : Int) < (q.2.length : Int) := by omega
            generalize q.2[j2] = x at e1' t1
            have cF := MSetField_any (show MR wr.drew B1 g1 g2 V1 V2 m' from ⟨hmr.o.below ((Below.refl _ _).drew), hmr.y.below ((Below.refl _ _).drew), hmr.ok, hmr.gg, hmr.vv⟩) x 0 (x := 0) ⟨by decide, by decide⟩
            unfold memV at cF
            clear t1 hcc hbl his hkb hmk hown hkp hmr
            go_wp2_with fail
            go_still_tail 5, (by kernel_rfl)
            change wpList _ _ _ _ _ wr.drew
            go_wp2_with fail
            refine cF.mono ?_
            rintro e w8 ⟨rfl, hm8, hk8⟩
            have hk8' : Kp (memS V1 V2) wr w8 := ⟨hk8.os, hk8.tape, hk8.output, hk8.size, hk8.block⟩
            have HM8 := Lib.hid hm8
            have HK8 := Lib.hid (HKP.out.trans hk8' fun _ _ h => h)
            clear hm8 hk8 hk8' cF c0 c1 e1'
            go_wp2_with fail
            go_roundw
            case rel => exact ⟨j2 + 1, _, by go_num, by omega, HM8.out, HK8.out⟩
            case measure => simp [intOf]; omega
          · have hjI2 : ¬ (j2 : Int) < (q.2.length : Int) := by omega
            have cL8 := HCL.out _ HMK.out
            clear his hkb hmk hown hkp hmr c0 c1
            go_wp2_with fail
            refine cL8.mono ?_
            rintro e w8 ⟨v8, rfl, ho8, hb8⟩
            obtain ⟨A8, c8, rfl, hc8⟩ := own_shape ho8
            have cI := Ints_any bl bl A7 A8 c7 c8 w8 (by omega) hc7 hc8 (own_sl (own_local HOW.out fun k hk => hb8.block k (HOW.out.lt k hk).2)) (own_sl ho8)
            rw [show eqL bl bl = true from decide_eq_true rfl] at cI
            have HB8 := Lib.hid hb8
            clear ho8 hb8 cL8
            go_wp2_with fail
            refine cI.mono ?_
            rintro e w9 ⟨rfl, n9, rfl⟩
            go_wp2_with fail
            go_ret
            refine ⟨rfl, below_drewN (Below.trans ?_ (HB8.out.mono ?_)) _⟩
            · refine HKP.out.toBelow HE7.out.bl HE7.out.bl.size fun k hk => ?_
              rcases hk with hk | hk
              · exact Nat.le_trans hwB (HE7.out.mr.o.own.lt k hk).1
              · exact Nat.le_trans hwB (HE7.out.mr.y.own.lt k hk).1
            · exact Nat.le_trans HE7.out.bl.size HKP.out.size
theorem leaves_any (hl : Op1s w Al l) (hcl : l.length ≤ cl) (h1 : IS w ch A1c c1) (hr1 : ∀ x ∈ ch, -9223372036854775808 ≤ x ∧ x ≤ 9223372036854775807) (hb : l.length ≤ 140737488351232) (hb1 : ch.length ≤ 140737488351232) : Calls Tryz.prog 5 #[.slice Al l.length cl, .slice A1c ch.length c1] w fun e w' => e = .returned (.bool true) ∧ Below w.heap.size w w' := by
  by_cases a : 40 < l.length
  · exact leaves_big (.inl a) hb hb1
  · by_cases b : 8 < ch.length
    · exact leaves_big (.inr ⟨by omega, b⟩) hb hb1
    · exact leaves_main hl hcl h1 hr1 (by omega) (by omega)
end
end Go.Proofs.YtjpaogapclfajaaGreat
