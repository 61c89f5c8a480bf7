/- Law 11: MarkingKeeps. (printed by gen/mk11c.py) -/
import Derived.Test.YtjpaogapclfajaaGreatLeaves
import Derived.Deep.DeepCutAuto
import Derived.StillTailTactics
namespace Go.Proofs.YtjpaogapclfajaaGreat
set_option linter.unusedVariables false
set_option linter.unusedSimpArgs false
set_option linter.unusedSectionVars false
open Go.RowKit Go.Sort
attribute [local go_sem] Oper.semAt_some onlyN_normal
set_option maxRecDepth 100000
theorem TpT.bl {m : Mm} {o : Option (List Int × List Int)} (v : Value) (w w' : World) (h : TpT m o v w) (hb : Below w.heap.size w w') : TpT m o v w' := h.below hb
theorem RowT.bl {B : Nat} {e : TypeId} {n : Nat} {xs : List Value} (v : Value) (w w' : World) (h : RowT B e n xs v w) (hb : Below w.heap.size w w') : RowT B e n xs v w' := RowT.below h hb
def PtB (B : Nat) (m : Mm) (o : Option (List Int × List Int)) (v : Value) (w : World) : Prop := match o with
  | none => v = .pointer none
  | some (sg, wl) => ∃ g b, v = .pointer (some ⟨g, 0, none⟩) ∧ MkR w B g b m sg wl
def TpB (B : Nat) (m : Mm) (o : Option (List Int × List Int)) (v : Value) (w : World) : Prop := ∃ p, v = .tuple #[p, .int .i64 (erM o)] ∧ PtB B m o p w
theorem TpB.bl {B : Nat} {m : Mm} {o : Option (List Int × List Int)} (v : Value) (w w' : World) (h : TpB B m o v w) (hb : Below w.heap.size w w') : TpB B m o v w' := by
  obtain ⟨p, e, hp⟩ := h
  refine ⟨p, e, ?_⟩
  unfold PtB at *
  split
  · exact hp
  · obtain ⟨g, b, e, h1⟩ := hp
    exact ⟨g, b, e, MkR0.below h1 hb⟩
theorem TpB.of {w w' : World} {B : Nat} {m : Mm} {o : Option (List Int × List Int)} {e : Ending} (h : MarkPost w m o e w') (hB : B ≤ w.heap.size) : Below w.heap.size w w' ∧ ∃ v, e = .returned v ∧ TpB B m o v w' := by
  obtain ⟨hb, h⟩ := h
  refine ⟨hb, ?_⟩
  split at h
  · exact ⟨_, h, _, rfl, rfl⟩
  · obtain ⟨g, b, e, h1⟩ := h
    exact ⟨_, e, _, rfl, g, b, rfl, ⟨h1.hd, h1.mp, Nat.le_trans hB h1.ge, Nat.le_trans hB h1.gm⟩⟩
/-- what Keep does with what a word refers to: four ways that change nothing, one new mark -/
theorem keeps_cases (m : Mm) (sg wl : List Int) (o : Option (Option Int)) (ad : Int) (ok : Bool) (h : (ok = true ∧ o = some (some ad)) ∨ (ok = false ∧ ∀ a, o ≠ some (some a))) (hdj : ∀ a, sg.contains a = true → wl.contains a = false) :
    (ok = false ∧ m.kpW sg wl o = wl ∧ m.kpQ sg wl o = false) ∨
    (ok = true ∧ sg.contains ad = true ∧ (!sg.contains ad && wl.contains ad) = false ∧ m.kpW sg wl o = wl ∧ m.kpQ sg wl o = true) ∨
    (ok = true ∧ sg.contains ad = false ∧ (!sg.contains ad && wl.contains ad) = true ∧ m.kpW sg wl o = wl ∧ m.kpQ sg wl o = true) ∨
    (ok = true ∧ sg.contains ad = false ∧ (!sg.contains ad && wl.contains ad) = false ∧ ((m.hdr ad).2.k == 3) = false ∧ m.kpW sg wl o = wl ∧ m.kpQ sg wl o = false) ∨
    (ok = true ∧ sg.contains ad = false ∧ (!sg.contains ad && wl.contains ad) = false ∧ ((m.hdr ad).2.k == 3) = true ∧ m.kpW sg wl o = wl ++ [ad] ∧ m.kpQ sg wl o = true ∧ m.kpW sg (wl ++ [ad]) o = wl ++ [ad] ∧ m.kpQ sg (wl ++ [ad]) o = true) := by
  rcases h with ⟨rfl, rfl⟩ | ⟨rfl, h⟩
  · right
    unfold Mm.kpW Mm.kpQ Mm.keepW Keeps
    dsimp only
    cases h1 : sg.contains ad with
    | true =>
      left
      have h2 := hdj ad h1
      simp [h2]
    | false =>
      right
      cases h2 : wl.contains ad with
      | true =>
        left
        have h2' : ad ∈ wl := by simpa using h2
        simp [h2']
      | false =>
        right
        by_cases h3 : (m.hdr ad).2.k = 3
        · right
          simp [h3]
        · left
          simp [h3]
          first | exact ⟨by simpa using h1, by simpa using h2⟩ | simpa using h2
  · left
    refine ⟨rfl, ?_, ?_⟩
    · unfold Mm.kpW
      split
      · rename_i a; exact absurd rfl (h a)
      · rfl
    · unfold Mm.kpQ
      split
      · rename_i a; exact absurd rfl (h a)
      · rfl
section
variable {w : World} {l : List Op1} {Al : Option Addr} {cl : Nat} {ch : List Int} {A1c : Option Addr} {c1 : Nat} {n : Int}
theorem keeps_big (h : 40 < l.length ∨ (l.length ≤ 40 ∧ 8 < ch.length)) (hb : l.length ≤ 140737488351232) (hb1 : ch.length ≤ 140737488351232) : Calls Tryz.prog 4 #[.slice Al l.length cl, .slice A1c ch.length c1, .int .i64 n] w fun e w' => e = .returned (.bool true) ∧ Below w.heap.size w w' := by
  have cA := awake1_any (w := w)
  have d1 : (40 < l.length ∧ decide ((40 : Int) < (l.length : Int)) = true) ∨ (decide ((40 : Int) < (l.length : Int)) = false ∧ 8 < ch.length ∧ decide ((8 : Int) < (ch.length : Int)) = true) := by
    rcases h with h | ⟨h1, h2⟩
    · exact .inl ⟨h, decide_eq_true (by omega)⟩
    · exact .inr ⟨decide_eq_false (by omega), h2, decide_eq_true (by omega)⟩
  clear h
  go_enter Tryz.func4, Tryz.ntmps4
  go_wp2_with fail
  refine cA.mono ?_
  rintro e w1 ⟨rfl, hb1⟩
  have HB1 := Lib.hid hb1
  clear hb1
  rcases d1 with ⟨d0, d1⟩ | ⟨d1, d0, d2⟩
  all_goals
    go_wp2_with fail
    go_ret
    exact ⟨rfl, HB1.out⟩
set_option maxHeartbeats 8000000 in
theorem keeps_main (hl : Op1s w Al l) (hcl : l.length ≤ cl) (h1 : IS w ch A1c c1) (hr1 : ∀ x ∈ ch, -9223372036854775808 ≤ x ∧ x ≤ 9223372036854775807) (hrn : -9223372036854775808 ≤ n ∧ n ≤ 9223372036854775807) (hn : l.length ≤ 40) (hn1 : ch.length ≤ 8) : Calls Tryz.prog 4 #[.slice Al l.length cl, .slice A1c ch.length c1, .int .i64 n] w fun e w' => e = .returned (.bool true) ∧ Below w.heap.size w w' := by
  have cA := awake1_any (w := w)
  have d1 : decide ((40 : Int) < (l.length : Int)) = false := decide_eq_false (by omega)
  have d2 : decide ((8 : Int) < (ch.length : Int)) = false := decide_eq_false (by omega)
  have cB := fun {w1 : World} (hb : Below w.heap.size w w1) => Build_any (hl.below hb rfl) (by omega) hcl
  have H1 := Lib.hid h1
  have HR1 := Lib.hid hr1
  have HRN := Lib.hid hrn
  clear h1 hl hcl hr1 hrn
  go_enter Tryz.func4, Tryz.ntmps4
  go_wp2_with fail
  refine cA.mono ?_
  rintro e w1 ⟨rfl, hb1⟩
  have cB1 := cB hb1
  have HB1 := Lib.hid hb1
  clear hb1 cA cB
  go_wp2_with fail
  refine cB1.mono ?_
  rintro e w2 ⟨g1, g2, V1, V2, A1, e1, A2, e2, Aq, cq, rfl, hmr, hrm, his, hap, hb2, nq, hnq, hqb⟩
  clear cB1 d1 d2
  obtain ⟨q, hq⟩ : ∃ q, q = bld1 l := ⟨_, rfl⟩
  rw [← hq] at hmr hrm his hqb ⊢
  have HE2 := Lib.hid (Env11.start (p := q) (HB1.out.trans (hb2.mono HB1.out.size)) hmr hrm his hap)
  have HQ := Lib.hid hqb
  have hql : q.2.length ≤ 1000 := Nat.le_trans hqb.len hnq
  clear hmr hrm his hap hb2 HB1 hq hqb hnq
  go_upto_region 8 with fail
  have HE3 := Lib.hid HE2.out
  clear HE2
  generalize (w2.alloc (.cells #[.pointer (some ⟨g1, 0, none⟩), .pointer (some ⟨g2, 0, none⟩)] 27)).alloc (.cells #[.int .i64 q.1.old.base, .int .i64 q.1.old.limit, .slice A1 q.1.old.ws.length e1, .int .i64 q.1.yng.base, .int .i64 q.1.yng.limit, .slice A2 q.1.yng.ws.length e2] 32) = w3 at *
  generalize w2.heap.size = bm at *
  generalize w1.heap.size = B1 at *
  obtain ⟨ra, hra⟩ : ∃ ra, ra = rts1 q.2 ch := ⟨_, rfl⟩
  have hla : ra.length ≤ 8 := by rw [hra, rts1_len]; omega
  have HUa : Hid (∀ x ∈ ra, U64 x) := Lib.hid (by rw [hra]; exact rts1_u _ _)
  have HRA := Lib.hid hra
  have H1' := H1
  have HR1' := HR1
  clear hra H1 HR1
  have cR1 := fun {w4 : World} (hb : Below w3.heap.size w3 w4) => Roots_any (HE3.out.below hb).is (by omega) (H1'.out.below (HE3.out.below hb).bl) (by omega) HR1'.out
  simp only [← HRA.out] at cR1
  clear H1' HR1'
  obtain ⟨m, hm⟩ : ∃ m, m = Mm.one q.1.old := ⟨_, rfl⟩
  have HM := Lib.hid hm
  have OK : Hid m.Ok := Lib.hid (by rw [hm]; exact Mm.one_ok HE3.out.mr.o.ok HE3.out.mr.ok.ob HE3.out.mr.ok.ol)
  have HSZ : Hid (m.size ≤ 16777216) := Lib.hid (by rw [hm, Mm.one_size]; exact HE3.out.len)
  have HMS : Hid (∀ sg wl, m.marks ra = some (sg, wl) → m.MarksI ra sg wl) := Lib.hid fun sg wl h => Mm.marks_some h
  obtain ⟨om, hom⟩ : ∃ om, om = m.marks ra := ⟨_, rfl⟩
  have HOM := Lib.hid hom.symm
  have HMS : Hid (∀ sg wl, om = some (sg, wl) → m.MarksI ra sg wl) := Lib.hid fun sg wl e => HMS.out _ _ (hom.symm.trans e)
  have HKB := Lib.hid HE3.out.kb
  clear hm hom
  refine wp_region_addsF0 9 (fun i => ([[], [0], [], [], [2, 3], [1, 4], [5], [6], [6]] : List (List Nat)).getD i []) [8] (EL [Ent.val (.pointer (some ⟨bm, 0, none⟩)), Ent.val (.pointer (some ⟨g1, 0, none⟩)), Ent.val (.slice Aq q.2.length cq), Ent.val (.slice A1c ch.length c1), Ent.of (RowT w3.heap.size 51 ra.length (wds ra)) RowT.bl, Ent.of (TpB w3.heap.size m om) TpB.bl, Ent.same 5 (TpB w3.heap.size m om) TpB.bl, Ent.ext 6 0, Ent.ext 6 1]) (by kernel_rfl) (by kernel_rfl) (by kernel_rfl) (by kernel_rfl) (by kernel_rfl) (by rfl) ?_ ?_
  · intro i hi o ho vs w1 hb1 hgr
    rcases (show i = 0 ∨ i = 1 ∨ i = 2 ∨ i = 3 ∨ i = 4 ∨ i = 5 ∨ i = 6 ∨ i = 7 ∨ i = 8 by omega) with rfl | rfl | rfl | rfl | rfl | rfl | rfl | rfl | rfl <;> cases ho
    · clear hgr
      change Made _ (Adds _ _ _) (Sem.run _ (execOp (Act.eval (frm _ _ _ [])) _) _)
      simp only [frm]
      go_simp
      exact adds_val rfl
    · have h0 : vs 0 = _ := hgr 0 (by decide)
      clear hgr
      change Made _ (Adds _ _ _) (Sem.run _ (execOp (Act.eval (Act.put (frm _ _ _ []) (some 44) (vs 0))) _) _)
      simp only [frm, h0]
      have hbk := HKB.out.below hb1 HKB.out.lt
      have c0 : w1.cell? ⟨bm, 0, none⟩ = some (.pointer (some ⟨g1, 0, none⟩)) := hbk.cell 0
      clear hbk
      go_simp
      exact adds_val rfl
    · clear hgr
      change Made _ (Adds _ _ _) (Sem.run _ (execOp (Act.eval (frm _ _ _ [])) _) _)
      simp only [frm]
      go_simp
      exact adds_val rfl
    · clear hgr
      change Made _ (Adds _ _ _) (Sem.run _ (execOp (Act.eval (frm _ _ _ [])) _) _)
      simp only [frm]
      go_simp
      exact adds_val rfl
    · have h2 : vs 2 = _ := hgr 2 (by decide)
      have h3 : vs 3 = _ := hgr 3 (by decide)
      clear hgr
      change Made _ (Adds _ _ _) (Sem.run _ (execOp (Act.eval (Act.put (Act.put (frm _ _ _ []) (some 47) (vs 3)) (some 46) (vs 2))) _) _)
      simp only [frm, h2, h3]
      have cR := cR1 hb1
      go_simp
      exact adds_call (T := RowT w3.heap.size 51 ra.length (wds ra)) (hT := RowT.bl) (ob := fun _ => none) cR fun e w2 ⟨v, he, ho, hb⟩ => ⟨v, he, ownBase ho hb1.size, hb, (fun k hk => nomatch hk)⟩
    · have h1 : vs 1 = _ := hgr 1 (by decide)
      have ho4 := hgr 4 (by decide)
      obtain ⟨A4, c4, h4, hc4⟩ := own_shape ho4
      rw [h4] at ho4
      clear hgr
      change Made _ (Adds _ _ _) (Sem.run _ (execOp (Act.eval (Act.put (Act.put (frm _ _ _ []) (some 48) (vs 4)) (some 45) (vs 1))) _) _)
      simp only [frm, h1, h4]
      have hE1 := HE3.out.below hb1
      have cM := hE1.mark hE1.lt (own_sl ho4) (by omega) hc4 HUa.out (fun b o e => (World.ownsRow.lt ho4 b (by rw [e]; rfl)).2)
      rw [← HM.out, HOM.out] at cM
      go_simp
      refine adds_call (T := TpB w3.heap.size m om) (hT := TpB.bl) (ob := fun _ => none) cM fun e w2 h => ?_
      obtain ⟨hb, v, he, ht⟩ := TpB.of h hb1.size
      exact ⟨v, he, ht, hb, (fun k hk => nomatch hk)⟩
    · obtain ⟨p5, h5, hp5⟩ := hgr 5 (by decide)
      clear hgr
      change Made _ (Adds _ _ _) (Sem.run _ (execOp (Act.eval (Act.put (frm _ _ _ []) (some 49) (vs 5))) _) _)
      simp only [frm, h5]
      go_simp
      rw [← h5]
      exact adds_same (hT := TpB.bl) ⟨p5, h5, hp5⟩
    · obtain ⟨h6e, p6, h6, hp6⟩ := hgr 6 (by decide)
      clear hgr
      change Made _ (Adds _ _ _) (Sem.run _ (execOp (Act.eval (Act.put (frm _ _ _ []) (some 43) (vs 6))) _) _)
      simp only [frm, h6]
      go_simp
      exact adds_ext h6 rfl
    · obtain ⟨h6e, p6, h6, hp6⟩ := hgr 6 (by decide)
      clear hgr
      change Made _ (Adds _ _ _) (Sem.run _ (execOp (Act.eval (Act.put (frm _ _ _ []) (some 43) (vs 6))) _) _)
      simp only [frm, h6]
      go_simp
      exact adds_ext h6 rfl
  · intro vs w1 hb1 hall hap
    obtain ⟨p5, h5, hp5⟩ := (hall 5 (by omega)).1
    have h6e := (hall 6 (by omega)).1.1
    have h7 : vs 7 = p5 := ext_eq (hall 7 (by omega)).1 (h6e.trans h5) rfl
    have h8 : vs 8 = .int .i64 (erM om) := ext_eq (hall 8 (by omega)).1 (h6e.trans h5) rfl
    clear hall hap
    change wpList _ _ _ [_, _] (Act.put (Act.put (Act.put (Act.put (Act.put (Act.put (Act.put (Act.put (Act.put (frm _ _ _ []) (some 51) (vs 8)) (some 50) (vs 7)) (some 43) (vs 6)) (some 49) (vs 5)) (some 48) (vs 4)) (some 47) (vs 3)) (some 46) (vs 2)) (some 45) (vs 1)) (some 44) (vs 0)) _
    simp only [frm, h5, h7, h8]
    have HE4 := Lib.hid (HE3.out.below hb1)
    have HP4 := Lib.hid hp5
    have HB4 := Lib.hid hb1
    clear hb1 hp5 h6e h5 h7 h8 cR1 HKB
    go_wp2_with fail
    rw [onlyN_normal]
    rcases om with _ | ⟨sg, wl⟩
    · have hpa : p5 = .pointer none := HP4.out
      subst hpa
      simp only [erM]
      go_wp2_with fail
      go_ret
      exact ⟨rfl, HE4.out.bl⟩
    · obtain ⟨gm, bmk, rfl, hmk⟩ := HP4.out
      have HMI := Lib.hid (HMS.out sg wl rfl)
      have HMK := Lib.hid hmk
      have HML := Lib.hid (Nat.le_trans (marks_len HMI.out) HSZ.out)
      have HRG := Lib.hid (marks_rg OK.out HMI.out)
      clear hmk HMS HP4
      obtain ⟨x, hx⟩ : ∃ x, rts1 q.2 [n] = [x] := ⟨_, rfl⟩
      have hxu : U64 x := rts1_u q.2 [n] x (by rw [hx]; simp)
      generalize w1 = w4 at *
      have hbn : Below w4.heap.size w4 (w4.alloc (.cells #[.int .i64 n] 3)) := (Below.refl _ _).alloc (Nat.le_refl _) _
      have hin : IS (w4.alloc (.cells #[.int .i64 n] 3)) [n] (some ⟨w4.heap.size, 0, none⟩) 1 := ⟨Sl.new w4 3 [.int .i64 n], Nat.le_refl _⟩
      have cR := Roots_any (HE4.out.below hbn).is (by omega) hin (by simp) (by intro y hy; rw [List.mem_singleton.1 hy]; exact HRN.out)
      rw [hx] at cR
      unfold RootsP at cR
      simp only [List.length_singleton] at cR
      have HX := Lib.hid hx
      clear hx hin
      simp only [erM]
      go_wp2_with fail
      refine cR.mono ?_
      rintro e w5 ⟨v5, rfl, ho5, hb5⟩
      obtain ⟨g5, cp5, rfl, hc5, _, hl5, hs5⟩ := ownSls ho5 (by decide)
      have e5 : w5.cell? ⟨g5, 0, none⟩ = some (.int .u64 x) := by
        obtain ⟨b, o, he, _, hc⟩ := hs5.get (show 0 < 1 by decide)
        cases he
        exact hc 0 _ rfl
      have HE5 := Lib.hid (HE4.out.below (hbn.trans (hb5.mono hbn.size)))
      have HB5 := Lib.hid (HB4.out.trans ((hbn.trans (hb5.mono hbn.size)).mono HB4.out.size))
      have HMK5 := Lib.hid (MkR0.below HMK.out (hbn.trans (hb5.mono hbn.size)))
      have k0 : w5.cell? ⟨bm + 1, 0, none⟩ = some (.int .i64 q.1.old.base) := HE5.out.kr.cell 0
      have k1 : w5.cell? ⟨bm + 1, 1, none⟩ = some (.int .i64 q.1.old.limit) := HE5.out.kr.cell 1
      have k2 : w5.cell? ⟨bm + 1, 2, none⟩ = some (.slice A1 q.1.old.ws.length e1) := HE5.out.kr.cell 2
      have cF := Refers_any HE5.out.rm.o HE5.out.mr.ok.ob HE5.out.mr.ok.ol hxu
      rw [← HM.out] at cF
      obtain ⟨o, ho⟩ : ∃ o, o = m.rfr x := ⟨_, rfl⟩
      rw [← ho] at cF
      have HO := Lib.hid ho.symm
      obtain ⟨ad, ok, bd, hq, hov, hadr⟩ : ∃ (ad : Int) (ok bd : Bool), rfsV o = .tuple #[.int .i64 ad, .bool ok, .bool bd] ∧ ((ok = true ∧ o = some (some ad)) ∨ (ok = false ∧ ∀ a, o ≠ some (some a))) ∧ 0 ≤ ad ∧ ad ≤ 4294967296 := by
        rcases o with _ | _ | a
        · exact ⟨0, false, true, rfl, .inr ⟨rfl, fun a e => by cases e⟩, by decide, by decide⟩
        · exact ⟨0, false, false, rfl, .inr ⟨rfl, fun a e => by cases e⟩, by decide, by decide⟩
        · exact ⟨a, true, false, rfl, .inl ⟨rfl, rfl⟩, Mm.rfr_rg OK.out ho.symm⟩
      rw [hq] at cF
      have HOV := Lib.hid hov
      clear ho hq hov ho5 hb5 hbn hs5 cR HE4 HMK hl5
      go_wp2_with fail
      refine cF.mono ?_
      rintro e w6 ⟨rfl, hb6⟩
      have HE6 := Lib.hid (HE5.out.below hb6)
      have HB6 := Lib.hid (HB5.out.trans (hb6.mono HB5.out.size))
      have HMK6 := Lib.hid (MkR0.below HMK5.out hb6)
      clear hb6 cF HE5 HMK5 e5 k0 k1 k2
      have k0 : w6.cell? ⟨bm + 1, 0, none⟩ = some (.int .i64 q.1.old.base) := HE6.out.kr.cell 0
      have k1 : w6.cell? ⟨bm + 1, 1, none⟩ = some (.int .i64 q.1.old.limit) := HE6.out.kr.cell 1
      have k2 : w6.cell? ⟨bm + 1, 2, none⟩ = some (.slice A1 q.1.old.ws.length e1) := HE6.out.kr.cell 2
      have cG := RFields_any HE6.out.rm.o ad (by omega)
      unfold RFl FieldsP at cG
      rw [← HM.out] at cG
      obtain ⟨er, hd, hhd⟩ : ∃ er hd, m.hdr ad = (er, hd) := ⟨_, _, rfl⟩
      rw [hhd] at cG
      dsimp only at cG
      have HHD := Lib.hid hhd
      obtain ⟨fl, hfl⟩ : ∃ fl, fl = m.fldR ad := ⟨_, rfl⟩
      rw [← hfl] at cG
      clear hhd hfl
      go_wp2_with fail
      refine cG.mono ?_
      rintro e w7 ⟨v7, rfl, ho7, hb7⟩
      have HE7 := Lib.hid (HE6.out.below hb7)
      have HB7 := Lib.hid (HB6.out.trans (hb7.mono HB6.out.size))
      have HMK7 := Lib.hid (MkR0.below HMK6.out hb7)
      clear hb7 ho7 cG HE6 HMK6 k0 k1 k2
      go_upto_region 14 with fail
      have hbx : Below w7.heap.size w7 (w7.alloc (.cells #[.int .i64 hd.k, .int .i64 hd.c, .int .i64 hd.f] 55)) := (Below.refl _ _).alloc (Nat.le_refl _) _
      have HKX : Hid (Bk (w7.alloc (.cells #[.int .i64 hd.k, .int .i64 hd.c, .int .i64 hd.f] 55)) w7.heap.size 55 #[.int .i64 hd.k, .int .i64 hd.c, .int .i64 hd.f]) := Lib.hid (Bk.new _ _ _)
      have HE8 := Lib.hid (HE7.out.below hbx)
      have HB8 := Lib.hid (HB7.out.trans (hbx.mono HB7.out.size))
      have HMK8 := Lib.hid (MkR0.below HMK7.out hbx)
      clear hbx HE7 HMK7
      generalize w7.alloc (.cells #[.int .i64 hd.k, .int .i64 hd.c, .int .i64 hd.f] 55) = w8 at *
      generalize w7.heap.size = gx at *
      have HCL := Lib.hid (fun (w' : World) (wl' : List Int) (h : MkR w' w3.heap.size gm bmk m sg wl') (hnd : (sg ++ wl').Nodup) (hrg : ∀ a ∈ sg ++ wl', 0 ≤ a ∧ a ≤ 4294967296) (hln : (sg ++ wl').length ≤ 100000000) => List_any h hnd (fun x hx => WalkArith.wf_i64 (by have := hrg x hx; omega)) hln)
      have cL := HCL.out _ _ HMK8.out HMI.out.disj HRG.out (by have := HML.out; omega)
      obtain ⟨bl, hbl⟩ : ∃ bl, bl = srtI (sg ++ wl) := ⟨_, rfl⟩
      rw [← hbl] at cL
      have hbll : bl.length ≤ 16777216 := by rw [hbl, srtI_len]; exact HML.out
      have HBL := Lib.hid hbl
      clear hbl
      go_wp2_with fail
      refine cL.mono ?_
      rintro e w9 ⟨v9, rfl, ho9, hb9⟩
      obtain ⟨A9, c9, rfl, hc9⟩ := own_shape ho9
      have HE9 := Lib.hid (HE8.out.below hb9)
      have HB9 := Lib.hid (HB8.out.trans (hb9.mono HB8.out.size))
      have HMK9 := Lib.hid (MkR0.below HMK8.out hb9)
      have HKX9 := Lib.hid (HKX.out.below hb9 HKX.out.lt)
      have HO9 := Lib.hid ho9
      have cH := Has_any (show MkR w9 w3.heap.size gm bmk m sg wl from HMK9.out) ad (by omega)
      have cW := Weak_any (show MkR w9 w3.heap.size gm bmk m sg wl from HMK9.out) ad (by omega)
      have hcs := keeps_cases m sg wl o ad ok HOV.out (fun a ha => by
        cases hw : wl.contains a with
        | false => rfl
        | true => have := marks_ne HMI.out a; rw [ha, hw] at this; cases this)
      rw [HHD.out] at hcs
      dsimp only at hcs
      have x0 : w9.cell? ⟨gx, 0, none⟩ = some (.int .i64 hd.k) := HKX9.out.cell 0
      have c0 : w9.cell? ⟨bm, 0, none⟩ = some (.pointer (some ⟨g1, 0, none⟩)) := HE9.out.kb.cell 0
      have HCK := Lib.hid (fun (w' : World) (wl' : List Int) (hE : Env11 w w' B1 bm g1 g2 V1 V2 A1 e1 A2 e2 Aq cq q) (h : MkR w' w3.heap.size gm bmk (Mm.one q.1.old) sg wl') (hln : (sg ++ wl').length ≤ 100000000) => Keep_any hE.mr.o hE.mr.ok.ob hE.mr.ok.ol hE.lt h hln hxu)
      rw [← HM.out] at HCK
      rw [HO.out] at HCK
      have cK1 := HCK.out _ _ HE9.out HMK9.out (by have := HML.out; omega)
      clear cL ho9 hb9 HE8 HMK8 HKX HB8 HB7 HB6 HB5 HB4
      obtain ⟨q1, hq1⟩ : ∃ q1, sg.contains ad = q1 := ⟨_, rfl⟩
      obtain ⟨q2, hq2⟩ : ∃ q2, (!sg.contains ad && wl.contains ad) = q2 := ⟨_, rfl⟩
      have HQ1 := Lib.hid hq1
      have cH2 := fun {w' : World} (h : MkR w' w3.heap.size gm bmk m sg wl) => Has_any h ad (by omega)
      have cW2 := fun {w' : World} (h : MkR w' w3.heap.size gm bmk m sg wl) => Weak_any h ad (by omega)
      rw [hq1] at cH
      simp only [hq1] at cH2
      rw [hq2] at cW
      simp only [hq2] at cW2
      rw [hq2, hq1] at hcs
      clear hq1 hq2
      rcases hcs with ⟨rfl, hw, hq⟩ | ⟨rfl, rfl, rfl, hw, hq⟩ | ⟨rfl, rfl, rfl, hw, hq⟩ | ⟨rfl, rfl, rfl, hk3, hw, hq⟩ | ⟨rfl, rfl, rfl, hk3, hw, hq, hw', hq'⟩
      · have HWW := Lib.hid hw
        have HQQ := Lib.hid hq
        rw [hw, hq] at cK1
        clear hw hq
        go_wp2_with (first | (go_at_call 20; (with_reducible refine cH.mono ?_); rintro e wy ⟨rfl, rfl⟩) | (go_at_call 22; (with_reducible refine cW.mono ?_); rintro e wy ⟨rfl, rfl⟩))
        refine cK1.mono ?_
        rintro e w10 ⟨rfl, hm10, hk10⟩
        have HM10 := Lib.hid hm10
        have HB10 := Lib.hid (hk10.toBelow HB9.out HB9.out.size fun k hk => by rcases hk with rfl | rfl; exact HMK9.out.ge; exact HMK9.out.gm)
        have HE10 := Lib.hid (HE3.out.below HB10.out)
        have HO10 := Lib.hid (own_local HO9.out fun k hk => hk10.block k (HO9.out.lt k hk).2 fun e => by rcases e with rfl | rfl; exact ownRow_bk HO9.out HMK9.out.hd (by decide) hk; exact HMK9.out.mp.ne_own HO9.out hk)
        have cK2 := HCK.out _ _ HE10.out hm10 (by have := HML.out; simp only [List.length_append, List.length_singleton] at this ⊢; omega)
        rw [HWW.out, HQQ.out] at cK2
        have c0 : w10.cell? ⟨bm, 0, none⟩ = some (.pointer (some ⟨g1, 0, none⟩)) := HE10.out.kb.cell 0
        clear hm10 hk10 cK1 cH cW x0
        go_wp2_with fail
        refine cK2.mono ?_
        rintro e w11 ⟨rfl, hm11, hk11⟩
        have HM11 := Lib.hid hm11
        have HB11 := Lib.hid (hk11.toBelow HB10.out HB10.out.size fun k hk => by rcases hk with rfl | rfl; exact HM10.out.ge; exact HM10.out.gm)
        have HO11 := Lib.hid (own_local HO10.out fun k hk => hk11.block k (HO10.out.lt k hk).2 fun e => by rcases e with rfl | rfl; exact ownRow_bk HO10.out HM10.out.hd (by decide) hk; exact HM10.out.mp.ne_own HO10.out hk)
        have cL2 := HCL.out _ _ hm11 HMI.out.disj HRG.out (by have := HML.out; simp only [List.length_append, List.length_singleton] at this ⊢; omega)
        clear hm11 hk11 cK2 c0
        rw [← HBL.out] at cL2
        go_wp2_with fail
        refine cL2.mono ?_
        rintro e w12 ⟨v12, rfl, ho12, hb12⟩
        obtain ⟨A12, c12, rfl, hc12⟩ := own_shape ho12
        have hm12 : MkR w12 w3.heap.size gm bmk m sg wl := MkR0.below HM11.out hb12
        have cH3 := cH2 hm12
        have cW3 := cW2 hm12
        have cI := Ints_any bl bl A9 A12 c9 c12 w12 (by omega) hc9 hc12 (own_sl (own_local HO11.out fun k hk => hb12.block k (HO11.out.lt k hk).2)) (own_sl ho12)
        rw [show eqL bl bl = true from decide_eq_true rfl] at cI
        have HB12 := Lib.hid (HE3.out.bl.trans ((HB11.out.trans (hb12.mono HB11.out.size)).mono HE3.out.bl.size))
        clear hm12 ho12 hb12 cL2 cH2 cW2
        cases q1 <;> cases q2
        all_goals
          go_wp2_with (first | (go_at_call 20; (with_reducible refine cH3.mono ?_); rintro e wy ⟨rfl, rfl⟩) | (go_at_call 22; (with_reducible refine cW3.mono ?_); rintro e wy ⟨rfl, rfl⟩))
          refine cI.mono ?_
          rintro e w13 ⟨rfl, n13, rfl⟩
          go_wp2_with fail
          go_ret
          exact ⟨rfl, below_drewN HB12.out _⟩
      · have HWW := Lib.hid hw
        have HQQ := Lib.hid hq
        rw [hw, hq] at cK1
        clear hw hq
        go_wp2_with (first | (go_at_call 20; (with_reducible refine cH.mono ?_); rintro e wy ⟨rfl, rfl⟩) | (go_at_call 22; (with_reducible refine cW.mono ?_); rintro e wy ⟨rfl, rfl⟩))
        refine cK1.mono ?_
        rintro e w10 ⟨rfl, hm10, hk10⟩
        have HM10 := Lib.hid hm10
        have HB10 := Lib.hid (hk10.toBelow HB9.out HB9.out.size fun k hk => by rcases hk with rfl | rfl; exact HMK9.out.ge; exact HMK9.out.gm)
        have HE10 := Lib.hid (HE3.out.below HB10.out)
        have HO10 := Lib.hid (own_local HO9.out fun k hk => hk10.block k (HO9.out.lt k hk).2 fun e => by rcases e with rfl | rfl; exact ownRow_bk HO9.out HMK9.out.hd (by decide) hk; exact HMK9.out.mp.ne_own HO9.out hk)
        have cK2 := HCK.out _ _ HE10.out hm10 (by have := HML.out; simp only [List.length_append, List.length_singleton] at this ⊢; omega)
        rw [HWW.out, HQQ.out] at cK2
        have c0 : w10.cell? ⟨bm, 0, none⟩ = some (.pointer (some ⟨g1, 0, none⟩)) := HE10.out.kb.cell 0
        clear hm10 hk10 cK1 cH cW x0
        go_wp2_with fail
        refine cK2.mono ?_
        rintro e w11 ⟨rfl, hm11, hk11⟩
        have HM11 := Lib.hid hm11
        have HB11 := Lib.hid (hk11.toBelow HB10.out HB10.out.size fun k hk => by rcases hk with rfl | rfl; exact HM10.out.ge; exact HM10.out.gm)
        have HO11 := Lib.hid (own_local HO10.out fun k hk => hk11.block k (HO10.out.lt k hk).2 fun e => by rcases e with rfl | rfl; exact ownRow_bk HO10.out HM10.out.hd (by decide) hk; exact HM10.out.mp.ne_own HO10.out hk)
        have cL2 := HCL.out _ _ hm11 HMI.out.disj HRG.out (by have := HML.out; simp only [List.length_append, List.length_singleton] at this ⊢; omega)
        clear hm11 hk11 cK2 c0
        rw [← HBL.out] at cL2
        go_wp2_with fail
        refine cL2.mono ?_
        rintro e w12 ⟨v12, rfl, ho12, hb12⟩
        obtain ⟨A12, c12, rfl, hc12⟩ := own_shape ho12
        have hm12 : MkR w12 w3.heap.size gm bmk m sg wl := MkR0.below HM11.out hb12
        have cH3 := cH2 hm12
        have cW3 := cW2 hm12
        have cI := Ints_any bl bl A9 A12 c9 c12 w12 (by omega) hc9 hc12 (own_sl (own_local HO11.out fun k hk => hb12.block k (HO11.out.lt k hk).2)) (own_sl ho12)
        rw [show eqL bl bl = true from decide_eq_true rfl] at cI
        have HB12 := Lib.hid (HE3.out.bl.trans ((HB11.out.trans (hb12.mono HB11.out.size)).mono HE3.out.bl.size))
        clear hm12 ho12 hb12 cL2 cH2 cW2
        go_wp2_with (first | (go_at_call 20; (with_reducible refine cH3.mono ?_); rintro e wy ⟨rfl, rfl⟩) | (go_at_call 22; (with_reducible refine cW3.mono ?_); rintro e wy ⟨rfl, rfl⟩))
        refine cI.mono ?_
        rintro e w13 ⟨rfl, n13, rfl⟩
        go_wp2_with fail
        go_ret
        exact ⟨rfl, below_drewN HB12.out _⟩
      · have HWW := Lib.hid hw
        have HQQ := Lib.hid hq
        rw [hw, hq] at cK1
        clear hw hq
        go_wp2_with (first | (go_at_call 20; (with_reducible refine cH.mono ?_); rintro e wy ⟨rfl, rfl⟩) | (go_at_call 22; (with_reducible refine cW.mono ?_); rintro e wy ⟨rfl, rfl⟩))
        refine cK1.mono ?_
        rintro e w10 ⟨rfl, hm10, hk10⟩
        have HM10 := Lib.hid hm10
        have HB10 := Lib.hid (hk10.toBelow HB9.out HB9.out.size fun k hk => by rcases hk with rfl | rfl; exact HMK9.out.ge; exact HMK9.out.gm)
        have HE10 := Lib.hid (HE3.out.below HB10.out)
        have HO10 := Lib.hid (own_local HO9.out fun k hk => hk10.block k (HO9.out.lt k hk).2 fun e => by rcases e with rfl | rfl; exact ownRow_bk HO9.out HMK9.out.hd (by decide) hk; exact HMK9.out.mp.ne_own HO9.out hk)
        have cK2 := HCK.out _ _ HE10.out hm10 (by have := HML.out; simp only [List.length_append, List.length_singleton] at this ⊢; omega)
        rw [HWW.out, HQQ.out] at cK2
        have c0 : w10.cell? ⟨bm, 0, none⟩ = some (.pointer (some ⟨g1, 0, none⟩)) := HE10.out.kb.cell 0
        clear hm10 hk10 cK1 cH cW x0
        go_wp2_with fail
        refine cK2.mono ?_
        rintro e w11 ⟨rfl, hm11, hk11⟩
        have HM11 := Lib.hid hm11
        have HB11 := Lib.hid (hk11.toBelow HB10.out HB10.out.size fun k hk => by rcases hk with rfl | rfl; exact HM10.out.ge; exact HM10.out.gm)
        have HO11 := Lib.hid (own_local HO10.out fun k hk => hk11.block k (HO10.out.lt k hk).2 fun e => by rcases e with rfl | rfl; exact ownRow_bk HO10.out HM10.out.hd (by decide) hk; exact HM10.out.mp.ne_own HO10.out hk)
        have cL2 := HCL.out _ _ hm11 HMI.out.disj HRG.out (by have := HML.out; simp only [List.length_append, List.length_singleton] at this ⊢; omega)
        clear hm11 hk11 cK2 c0
        rw [← HBL.out] at cL2
        go_wp2_with fail
        refine cL2.mono ?_
        rintro e w12 ⟨v12, rfl, ho12, hb12⟩
        obtain ⟨A12, c12, rfl, hc12⟩ := own_shape ho12
        have hm12 : MkR w12 w3.heap.size gm bmk m sg wl := MkR0.below HM11.out hb12
        have cH3 := cH2 hm12
        have cW3 := cW2 hm12
        have cI := Ints_any bl bl A9 A12 c9 c12 w12 (by omega) hc9 hc12 (own_sl (own_local HO11.out fun k hk => hb12.block k (HO11.out.lt k hk).2)) (own_sl ho12)
        rw [show eqL bl bl = true from decide_eq_true rfl] at cI
        have HB12 := Lib.hid (HE3.out.bl.trans ((HB11.out.trans (hb12.mono HB11.out.size)).mono HE3.out.bl.size))
        clear hm12 ho12 hb12 cL2 cH2 cW2
        go_wp2_with (first | (go_at_call 20; (with_reducible refine cH3.mono ?_); rintro e wy ⟨rfl, rfl⟩) | (go_at_call 22; (with_reducible refine cW3.mono ?_); rintro e wy ⟨rfl, rfl⟩))
        refine cI.mono ?_
        rintro e w13 ⟨rfl, n13, rfl⟩
        go_wp2_with fail
        go_ret
        exact ⟨rfl, below_drewN HB12.out _⟩
      · have HWW := Lib.hid hw
        have HQQ := Lib.hid hq
        rw [hw, hq] at cK1
        clear hw hq
        go_wp2_with (first | (go_at_call 20; (with_reducible refine cH.mono ?_); rintro e wy ⟨rfl, rfl⟩) | (go_at_call 22; (with_reducible refine cW.mono ?_); rintro e wy ⟨rfl, rfl⟩))
        refine cK1.mono ?_
        rintro e w10 ⟨rfl, hm10, hk10⟩
        have HM10 := Lib.hid hm10
        have HB10 := Lib.hid (hk10.toBelow HB9.out HB9.out.size fun k hk => by rcases hk with rfl | rfl; exact HMK9.out.ge; exact HMK9.out.gm)
        have HE10 := Lib.hid (HE3.out.below HB10.out)
        have HO10 := Lib.hid (own_local HO9.out fun k hk => hk10.block k (HO9.out.lt k hk).2 fun e => by rcases e with rfl | rfl; exact ownRow_bk HO9.out HMK9.out.hd (by decide) hk; exact HMK9.out.mp.ne_own HO9.out hk)
        have cK2 := HCK.out _ _ HE10.out hm10 (by have := HML.out; simp only [List.length_append, List.length_singleton] at this ⊢; omega)
        rw [HWW.out, HQQ.out] at cK2
        have c0 : w10.cell? ⟨bm, 0, none⟩ = some (.pointer (some ⟨g1, 0, none⟩)) := HE10.out.kb.cell 0
        clear hm10 hk10 cK1 cH cW x0
        go_wp2_with fail
        refine cK2.mono ?_
        rintro e w11 ⟨rfl, hm11, hk11⟩
        have HM11 := Lib.hid hm11
        have HB11 := Lib.hid (hk11.toBelow HB10.out HB10.out.size fun k hk => by rcases hk with rfl | rfl; exact HM10.out.ge; exact HM10.out.gm)
        have HO11 := Lib.hid (own_local HO10.out fun k hk => hk11.block k (HO10.out.lt k hk).2 fun e => by rcases e with rfl | rfl; exact ownRow_bk HO10.out HM10.out.hd (by decide) hk; exact HM10.out.mp.ne_own HO10.out hk)
        have cL2 := HCL.out _ _ hm11 HMI.out.disj HRG.out (by have := HML.out; simp only [List.length_append, List.length_singleton] at this ⊢; omega)
        clear hm11 hk11 cK2 c0
        rw [← HBL.out] at cL2
        go_wp2_with fail
        refine cL2.mono ?_
        rintro e w12 ⟨v12, rfl, ho12, hb12⟩
        obtain ⟨A12, c12, rfl, hc12⟩ := own_shape ho12
        have hm12 : MkR w12 w3.heap.size gm bmk m sg wl := MkR0.below HM11.out hb12
        have cH3 := cH2 hm12
        have cW3 := cW2 hm12
        have cI := Ints_any bl bl A9 A12 c9 c12 w12 (by omega) hc9 hc12 (own_sl (own_local HO11.out fun k hk => hb12.block k (HO11.out.lt k hk).2)) (own_sl ho12)
        rw [show eqL bl bl = true from decide_eq_true rfl] at cI
        have HB12 := Lib.hid (HE3.out.bl.trans ((HB11.out.trans (hb12.mono HB11.out.size)).mono HE3.out.bl.size))
        clear hm12 ho12 hb12 cL2 cH2 cW2
        go_wp2_with (first | (go_at_call 20; (with_reducible refine cH3.mono ?_); rintro e wy ⟨rfl, rfl⟩) | (go_at_call 22; (with_reducible refine cW3.mono ?_); rintro e wy ⟨rfl, rfl⟩))
        refine cI.mono ?_
        rintro e w13 ⟨rfl, n13, rfl⟩
        go_wp2_with fail
        go_ret
        exact ⟨rfl, below_drewN HB12.out _⟩
      · have HWW := Lib.hid hw
        have HW2 := Lib.hid (And.intro hw' hq')
        rw [hw, hq] at cK1
        clear hw hq hw' hq'
        have HNEW := Lib.hid (show (sg ++ (wl ++ [ad])).Nodup ∧ ∀ a ∈ sg ++ (wl ++ [ad]), 0 ≤ a ∧ a ≤ 4294967296 from by have hst := KpI.step OK.out ⟨HMI.out.disj, HRG.out⟩ HO.out; rw [HWW.out] at hst; exact ⟨hst.nd, hst.rg⟩)
        go_wp2_with (first | (go_at_call 20; (with_reducible refine cH.mono ?_); rintro e wy ⟨rfl, rfl⟩) | (go_at_call 22; (with_reducible refine cW.mono ?_); rintro e wy ⟨rfl, rfl⟩))
        refine cK1.mono ?_
        rintro e w10 ⟨rfl, hm10, hk10⟩
        have HM10 := Lib.hid hm10
        have HB10 := Lib.hid (hk10.toBelow HB9.out HB9.out.size fun k hk => by rcases hk with rfl | rfl; exact HMK9.out.ge; exact HMK9.out.gm)
        have HE10 := Lib.hid (HE3.out.below HB10.out)
        have HO10 := Lib.hid (own_local HO9.out fun k hk => hk10.block k (HO9.out.lt k hk).2 fun e => by rcases e with rfl | rfl; exact ownRow_bk HO9.out HMK9.out.hd (by decide) hk; exact HMK9.out.mp.ne_own HO9.out hk)
        have cK2 := HCK.out _ _ HE10.out hm10 (by have := HML.out; simp only [List.length_append, List.length_singleton] at this ⊢; omega)
        rw [HW2.out.1, HW2.out.2] at cK2
        have c0 : w10.cell? ⟨bm, 0, none⟩ = some (.pointer (some ⟨g1, 0, none⟩)) := HE10.out.kb.cell 0
        clear hm10 hk10 cK1 cH cW x0
        go_wp2_with fail
        refine cK2.mono ?_
        rintro e w11 ⟨rfl, hm11, hk11⟩
        have HM11 := Lib.hid hm11
        have HB11 := Lib.hid (hk11.toBelow HB10.out HB10.out.size fun k hk => by rcases hk with rfl | rfl; exact HM10.out.ge; exact HM10.out.gm)
        have HO11 := Lib.hid (own_local HO10.out fun k hk => hk11.block k (HO10.out.lt k hk).2 fun e => by rcases e with rfl | rfl; exact ownRow_bk HO10.out HM10.out.hd (by decide) hk; exact HM10.out.mp.ne_own HO10.out hk)
        have cL2 := HCL.out _ _ hm11 HNEW.out.1 HNEW.out.2 (by have := HML.out; simp only [List.length_append, List.length_singleton] at this ⊢; omega)
        clear hm11 hk11 cK2 c0
        have HAL : Hid (srtI (sg ++ (wl ++ [ad])) = srtI (bl ++ [ad])) := Lib.hid (srtI_eq (by rw [HBL.out, ← List.append_assoc]; exact (srtI_perm _).symm.append_right _))
        rw [HAL.out] at cL2
        go_wp2_with fail
        refine cL2.mono ?_
        rintro e w12 ⟨v12, rfl, ho12, hb12⟩
        obtain ⟨A12, c12, rfl, hc12⟩ := own_shape ho12
        have hm12 : MkR w12 w3.heap.size gm bmk m sg (wl ++ [ad]) := MkR0.below HM11.out hb12
        have cH3 := Has_any hm12 ad (by omega)
        have cW3 := Weak_any hm12 ad (by omega)
        rw [HQ1.out] at cH3
        rw [HQ1.out, show (!false && (wl ++ [ad]).contains ad) = true by simp] at cW3
        have hbn : Below w12.heap.size w12 (w12.alloc (.cells #[.int .i64 ad] 3)) := (Below.refl _ _).alloc (Nat.le_refl _) _
        have hin : IS (w12.alloc (.cells #[.int .i64 ad] 3)) [ad] (some ⟨w12.heap.size, 0, none⟩) 1 := ⟨Sl.new w12 3 [.int .i64 ad], Nat.le_refl _⟩
        have hrow9 := own_local HO11.out fun k hk => (hb12.trans (hbn.mono hb12.size)).block k (HO11.out.lt k hk).2
        have cS := Sorted_any (⟨own_sl hrow9, hc9⟩ : IS _ bl A9 c9) hin (by omega) (by simp)
        simp only [List.length_singleton] at cS
        have HR12 := Lib.hid (own_local ho12 fun k hk => hbn.block k (ho12.lt k hk).2)
        have HB12 := Lib.hid (HE3.out.bl.trans ((HB11.out.trans ((hb12.trans (hbn.mono hb12.size)).mono HB11.out.size)).mono HE3.out.bl.size))
        obtain ⟨sl, hsl⟩ : ∃ sl, sl = srtI (bl ++ [ad]) := ⟨_, rfl⟩
        have hsln : sl.length = bl.length + 1 := by rw [hsl, srtI_len]; simp
        simp only [← hsl] at cS HR12 hc12 ⊢
        have HSN := Lib.hid hsln
        clear hm12 ho12 hb12 cL2 cH2 cW2 hsl hsln hin hrow9 hbn
        go_wp2_with (first | (go_at_call 20; (with_reducible refine cH3.mono ?_); rintro e wy ⟨rfl, rfl⟩) | (go_at_call 22; (with_reducible refine cW3.mono ?_); rintro e wy ⟨rfl, rfl⟩))
        refine cS.mono ?_
        rintro e w13 ⟨v13, rfl, ho13, hb13⟩
        obtain ⟨A13, c13, rfl, hc13⟩ := own_shape ho13
        have cI := Ints_any sl sl A12 A13 c12 c13 w13 (by have := HSN.out; omega) hc12 hc13 (own_sl (own_local HR12.out fun k hk => hb13.block k (HR12.out.lt k hk).2)) (own_sl ho13)
        rw [show eqL sl sl = true from decide_eq_true rfl] at cI
        have HB13 := Lib.hid (HB12.out.trans (hb13.mono HB12.out.size))
        clear ho13 hb13 cS
        go_wp2_with fail
        refine cI.mono ?_
        rintro e w14 ⟨rfl, n14, rfl⟩
        go_wp2_with fail
        go_ret
        exact ⟨rfl, below_drewN HB13.out _⟩
theorem keeps_any (hl : Op1s w Al l) (hcl : l.length ≤ cl) (h1 : IS w ch A1c c1) (hr1 : ∀ x ∈ ch, -9223372036854775808 ≤ x ∧ x ≤ 9223372036854775807) (hrn : -9223372036854775808 ≤ n ∧ n ≤ 9223372036854775807) (hb : l.length ≤ 140737488351232) (hb1 : ch.length ≤ 140737488351232) : Calls Tryz.prog 4 #[.slice Al l.length cl, .slice A1c ch.length c1, .int .i64 n] w fun e w' => e = .returned (.bool true) ∧ Below w.heap.size w w' := by
  by_cases a : 40 < l.length
  · exact keeps_big (.inl a) hb hb1
  · by_cases b : 8 < ch.length
    · exact keeps_big (.inr ⟨by omega, b⟩) hb hb1
    · exact keeps_main hl hcl h1 hr1 hrn (by omega) (by omega)
end
end Go.Proofs.YtjpaogapclfajaaGreat
