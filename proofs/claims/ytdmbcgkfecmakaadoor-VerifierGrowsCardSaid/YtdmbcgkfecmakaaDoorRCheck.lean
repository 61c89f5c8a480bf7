/- refmeshref43.method and refmeshref43.Check. -/
import Derived.Test.YtdmbcgkfecmakaaDoorRExists
import Derived.Test.YtdmbcgkfecmakaaDoorRDepths
namespace Go.Proofs.YtdmbcgkfecmakaaDoor
set_option linter.unusedVariables false
set_option linter.unusedSimpArgs false
set_option linter.unusedSectionVars false
open Go.RowKit Go.Sort
set_option maxRecDepth 100000

section
variable {w : World} {A C B : Option Addr} {n c ci cap nn d : Nat} {cs : List Cls} {kx : Cls} {m : Mth}
set_option maxHeartbeats 4000000 in
theorem Rmethod_any (hC : CodeR w cs A n c) (hci : cs[ci]? = some kx) (hn60 : n ≤ 60) (hM : MthR w m [.string m.nm, .int .i64 m.p, .int .i64 m.l, .slice C m.code.length cap, .slice B m.names.length d]) (hl4 : m.code.length ≤ 4000) :
    Calls Tryd.prog 60 #[.agg #[.slice A n c], .int .i64 ci, .agg #[.string m.nm, .int .i64 m.p, .int .i64 m.l, .slice C m.code.length cap, .slice B m.names.length d]] w (SaysPost (¬ badM cs kx.fields.length m) w) := by
  obtain ⟨hok, C', cap', B', d', hr, hcc, hcS, _⟩ := hM
  simp only [List.cons.injEq, Value.slice.injEq, and_true, true_and] at hr
  obtain ⟨⟨rfl, rfl⟩, rfl, rfl⟩ := hr
  have hB0 : Below w.heap.size w ((w.alloc (.cells #[.slice A n c] 55)).alloc (.cells #[.string m.nm, .int .i64 m.p, .int .i64 m.l, .slice C m.code.length cap, .slice B m.names.length d] 25)) := ((Below.refl _ _).alloc (Nat.le_refl _) _).alloc (by simp) _
  have Q3 := Lib.hid ((Bk.new w 55 #[.slice A n c]).alloc (.cells #[.string m.nm, .int .i64 m.p, .int .i64 m.l, .slice C m.code.length cap, .slice B m.names.length d] 25))
  have Q5 := Lib.hid (Bk.newAt (w := w.alloc (.cells #[.slice A n c] 55)) (g := w.heap.size + 1) 25 #[.string m.nm, .int .i64 m.p, .int .i64 m.l, .slice C m.code.length cap, .slice B m.names.length d] (by simp))
  have HC := Lib.hid (hC.below hB0)
  have HS := Lib.hid (hcS.below hB0)
  have HOK := Lib.hid hok
  have HCI := Lib.hid hci
  have HB0 := Lib.hid hB0
  clear hB0 hC hcS hok hci
  by_cases h1 : m.p < 0
  · go_enter Tryd.func60, Tryd.ntmps60
    go_wp2_with fail
    go_ret
    exact SaysPost.no (fun h => h (.inl h1)) HB0.out
  by_cases h2 : m.l < m.p
  · go_enter Tryd.func60, Tryd.ntmps60
    go_wp2_with fail
    go_ret
    exact SaysPost.no (fun h => h (.inr (.inl h2))) HB0.out
  go_enter Tryd.func60, Tryd.ntmps60
  go_wp2_with fail
  obtain ⟨W, hW⟩ : ∃ W, W = (w.alloc (.cells #[.slice A n c] 55)).alloc (.cells #[.string m.nm, .int .i64 m.p, .int .i64 m.l, .slice C m.code.length cap, .slice B m.names.length d] 25) := ⟨_, rfl⟩
  rw [← hW] at HC HS HB0 Q3 Q5 ⊢
  clear hW
  go_loopg [7] (m.code.length) (fun q i wr => ∃ (k : Nat), i = .int .i64 k ∧ k + q = m.code.length ∧ (∀ j x, j < k → m.code[j]? = some x → existsB cs kx.fields.length m.l m.names.length x = true) ∧ Below W.heap.size W wr)
  case atStart => exact ⟨0, rfl, by omega, fun j x hj => by omega, Below.refl _ _⟩
  case round =>
    obtain ⟨k, rfl, hkq, hall, hB⟩ := hrel
    have HALL := Lib.hid hall
    have HB := Lib.hid hB
    have hsz := hB.size
    obtain ⟨wo, rfl⟩ : ∃ wo : World, wo = wr := ⟨_, rfl⟩
    have r3 := Q3.out.below hB Q3.out.lt
    have r5 := Q5.out.below hB Q5.out.lt
    have R3 := Lib.hid r3
    have R5 := Lib.hid r5
    have e3 := r3.cell 0
    have e50 := r5.cell 0
    have e51 := r5.cell 1
    have e52 := r5.cell 2
    have e53 := r5.cell 3
    have e54 := r5.cell 4
    simp only [List.getElem?_toArray, List.getElem?_cons_zero, List.getElem?_cons_succ] at e3 e50 e51 e52 e53 e54
    clear hall hB r3 r5
    cases gk with
    | zero =>
      obtain rfl : k = m.code.length := hkq
      go_wp2_with fail
      refine (RDepths_any m.code rfl (by omega) HOK.out.code (HS.out.below HB.out)).mono ?_
      rintro e w1 ⟨g, ok, hb, hno, hyes⟩
      have HBE := Lib.hid (HB0.out.trans ((HB.out.trans (hb.mono hsz)).mono HB0.out.size))
      cases ok with
      | false =>
        obtain ⟨rfl, hbad⟩ := hno rfl
        have HBAD := Lib.hid hbad
        clear hbad hno hyes hb e3 e50 e51 e52 e53 e54
        go_wp2_with fail
        go_ret
        exact SaysPost.no (fun h => h (.inr (.inr (.inr fun ⟨D, hD⟩ => HBAD.out D hD)))) HBE.out
      | true =>
        obtain ⟨hg, _, _, R, cap2, rfl, _⟩ := hyes rfl
        have HG := Lib.hid hg
        clear hno hyes hg hb e3 e50 e51 e52 e53 e54
        go_wp2_with fail
        go_ret
        refine SaysPost.yes ?_ HBE.out
        rintro (h | h | ⟨x, hx, hf⟩ | h)
        · omega
        · omega
        · obtain ⟨j, hj⟩ := List.mem_iff_getElem?.1 hx
          have := HALL.out j x (List.getElem?_eq_some_iff.1 hj).1 hj
          rw [hf] at this
          cases this
        · exact h ⟨g, HG.out⟩
    | succ q =>
      have hkn : k < m.code.length := by omega
      have hkc : k < cap := by omega
      obtain ⟨cb, co, rfl, hcb, hcells⟩ := HS.out.get hkn
      obtain ⟨⟨o, a, b⟩, hx⟩ : ∃ x, m.code[k]? = some x := ⟨_, List.getElem?_eq_getElem hkn⟩
      have hx0 : wo.cell? ⟨cb, co + k * 3, none⟩ = some (.int .i64 o) := ((bcell HB.out).1 _ _ hcb).trans (hcells _ _ (codeCells_get m.code k _ hx |>.1))
      have hx1 : wo.cell? ⟨cb, co + k * 3 + 1, none⟩ = some (.int .i64 a) := ((bcell HB.out).1 _ _ hcb).trans (hcells (_ + _) _ (codeCells_get m.code k _ hx |>.2.1))
      have hx2 : wo.cell? ⟨cb, co + k * 3 + 2, none⟩ = some (.int .i64 b) := ((bcell HB.out).1 _ _ hcb).trans (hcells (_ + _) _ (codeCells_get m.code k _ hx |>.2.2))
      have HX := Lib.hid hx
      have hw1 : IntKind.i64.wrap (k : Int) = (k : Int) := IntWalk.i64_in _ (by omega)
      have j3 := cell_regrown e3
      have j50 := cell_regrown e50
      have j51 := cell_regrown e51
      have j52 := cell_regrown e52
      have j53 := cell_regrown e53
      have j54 := cell_regrown e54
      have jx0 := cell_regrown hx0
      have jx1 := cell_regrown hx1
      have jx2 := cell_regrown hx2
      have HW := Lib.hid (HC.out.below HB.out)
      have cE := fun dd os => Calls.regrown_of (w := wo) (RExists_any (w := grow (redrawn wo dd) os) (m0 := .string m.nm) (m1 := .int .i64 m.p) (m3 := .slice (some ⟨cb, co, none⟩) m.code.length cap) (l := m.l) (B := B) (nn := m.names.length) (d := d) (o := o) (a := a) (b := b) (HW.out.below (below_regrown wo dd os)) HCI.out hn60)
      clear hx hcells
      cases hf : existsB cs kx.fields.length m.l m.names.length (o, a, b) with
      | false =>
        simp only [hf] at cE
        have HF := Lib.hid hf
        clear hf
        go_upto_region 5 with fail
        clear e3 e50 e51 e52 e53 e54 hx0 hx1 hx2
        refine wp_region_quiet_below (by kernel_rfl) (by kernel_rfl) ?_
        repeat (quiet_step (first | exact cE _ _))
        refine wpQuiet_nil ?_
        intro w3 hw'
        have hb3 : Below wo.heap.size wo w3 := by obtain ⟨pp, rfl⟩ := hw'; exact below_regrown _ _ _
        have HB5 := Lib.hid (HB.out.trans (hb3.mono HB.out.size))
        clear hw' hb3 cE j3 j50 j51 j52 j53 j54 jx0 jx1 jx2
        go_wp2_with fail
        go_ret
        exact SaysPost.no (fun h => h (.inr (.inr (.inl ⟨_, List.mem_of_getElem? HX.out, HF.out⟩)))) (HB0.out.trans (HB5.out.mono HB0.out.size))
      | true =>
        simp only [hf] at cE
        have HF := Lib.hid hf
        clear hf
        go_upto_region 5 with fail
        clear e3 e50 e51 e52 e53 e54 hx0 hx1 hx2
        refine wp_region_quiet_below (by kernel_rfl) (by kernel_rfl) ?_
        repeat (quiet_step (first | exact cE _ _))
        refine wpQuiet_nil ?_
        intro w3 hw'
        have hb3 : Below wo.heap.size wo w3 := by obtain ⟨pp, rfl⟩ := hw'; exact below_regrown _ _ _
        have HB5 := Lib.hid (HB.out.trans (hb3.mono HB.out.size))
        clear hw' hb3 cE j3 j50 j51 j52 j53 j54 jx0 jx1 jx2
        go_wp2_with fail
        go_roundg q
        case measure => omega
        case rel =>
          refine ⟨k + 1, by go_num, by omega, fun j x hj hx => ?_, HB5.out⟩
          by_cases h : j < k
          · exact HALL.out j x h hx
          · obtain rfl : j = k := by omega
            have h2 := HX.out
            rw [hx] at h2
            cases h2
            exact HF.out

set_option maxHeartbeats 8000000 in
theorem RCheck_any (hC : CodeR w cs A n c) :
    Calls Tryd.prog 40 #[.agg #[.slice A n c]] w (ChkPost cs w) := by
  have hB0 : Below w.heap.size w (w.alloc (.cells #[.slice A n c] 55)) := (Below.refl _ _).alloc (Nat.le_refl _) _
  have HC0 := Lib.hid (hC.below hB0)
  have HQ := Lib.hid (Bk.new w 55 #[.slice A n c])
  have hn1 := hC.2.2.1
  have hnc := hC.2.1
  have HL := Lib.hid hC.1
  have HB0 := Lib.hid hB0
  clear hC hB0
  go_enter Tryd.func40, Tryd.ntmps40
  go_wp2_with fail
  refine (small_any HC0.out).mono ?_
  rintro e w1 ⟨⟨b, rfl, hbl⟩, hb1⟩
  have HB1 := Lib.hid (HB0.out.trans (hb1.mono HB0.out.size))
  have HC := Lib.hid (HC0.out.below hb1)
  have HQ1 := Lib.hid (HQ.out.below hb1 HQ.out.lt)
  cases b with
  | false =>
    have HBL : Hid (largeP cs) := Lib.hid (Classical.byContradiction fun h => by have := hbl.2 h; cases this)
    clear hbl hb1
    go_wp2_with fail
    go_ret
    exact ⟨⟨8, rfl, .inl ⟨HBL.out, rfl⟩⟩, HB1.out⟩
  | true =>
    have HBL := Lib.hid (hbl.1 rfl)
    have hn60 : n ≤ 60 := by
      have h := HBL.out
      unfold largeP at h
      rw [HL.out] at h
      omega
    clear hbl hb1
    go_wp2_with fail
    obtain ⟨W, rfl⟩ : ∃ W, W = w1 := ⟨_, rfl⟩
    go_loopg [3] (n) (fun q i wr => ∃ (k : Nat), i = .int .i64 k ∧ k + q = n ∧ (∀ i x, i < k → cs[i]? = some x → ¬ badC cs x) ∧ Below W.heap.size W wr)
    case atStart => exact ⟨0, rfl, by omega, fun i x hi => by omega, Below.refl _ _⟩
    case round =>
      obtain ⟨k, rfl, hkq, hall, hB⟩ := hrel
      have HALL := Lib.hid hall
      have HB := Lib.hid hB
      have hsz := hB.size
      obtain ⟨wo, rfl⟩ : ∃ wo : World, wo = wr := ⟨_, rfl⟩
      have r1 := HQ1.out.below hB HQ1.out.lt
      have R1 := Lib.hid r1
      have e1 := r1.cell 0
      simp only [List.getElem?_toArray, List.getElem?_cons_zero, List.getElem?_cons_succ] at e1
      clear hall hB r1
      cases gk with
      | zero =>
        obtain rfl : k = n := hkq
        go_wp2_with fail
        go_ret
        refine ⟨⟨0, rfl, .inr (.inr ⟨HBL.out, ?_, rfl⟩)⟩, HB1.out.trans (HB.out.mono HB1.out.size)⟩
        rintro ⟨x, hx, hl⟩
        obtain ⟨i, hi⟩ := List.mem_iff_getElem?.1 hx
        exact HALL.out i x (by have := (List.getElem?_eq_some_iff.1 hi).1; rw [HL.out] at this; exact this) hi hl
      | succ q =>
        have hkn : k < n := by omega
        obtain ⟨cb, co, x, r, hA, hcb, hx, hrl, ⟨hok, F, fc, M, mc, hr, hfc, hF, hmc, hM⟩, hcells⟩ := HC.out.2.2.2.get hkn
        have hx1 : wo.cell? ⟨cb, co + k * 4 + 1, none⟩ = some (.bool x.actor) := ((bcell HB.out).1 _ _ hcb).trans (hcells 1 _ (by rw [hr]; rfl))
        have hx3 : wo.cell? ⟨cb, co + k * 4 + 3, none⟩ = some (.slice M x.ms.length mc) := ((bcell HB.out).1 _ _ hcb).trans (hcells 3 _ (by rw [hr]; rfl))
        have HX := Lib.hid hx
        have HX3 := Lib.hid hx3
        have HCB := Lib.hid hcb
        have hnl : ¬ x.large := fun h => HBL.out (.inr ⟨x, List.mem_of_getElem? hx, h⟩)
        have l3 : x.ms.length ≤ 30 := Nat.le_of_not_lt fun h => hnl (.inr (.inl h))
        have HNL : Hid (∀ m ∈ x.ms, ¬ m.large) := Lib.hid fun m hm h => hnl (.inr (.inr ⟨m, hm, h⟩))
        have hkc : k < c := by omega
        have hw1 : IntKind.i64.wrap (k : Int) = (k : Int) := IntWalk.i64_in _ (by omega)
        have HM1 := Lib.hid (hM.mths HB.out)
        have HC2 := Lib.hid (HC.out.below HB.out)
        clear hx hok hF hM hcells hnl hrl hr
        subst hA
        go_upto_region 6 with fail
        go_cut [31] from 15 to 31 (fun s31 wx => s31 = .bool (!x.actor && decide (0 < x.ms.length)) ∧ wx = wo)
        case first =>
          rcases Bool.eq_false_or_eq_true x.actor with hac | hac
          · rw [hac] at hx1
            have HAC := Lib.hid hac
            clear hac
            go_wp2
            go_meet
            exact ⟨by rw [HAC.out]; rfl, rfl⟩
          · rw [hac] at hx1
            have HAC := Lib.hid hac
            clear hac
            go_wp2
            go_meet
            exact ⟨by rw [HAC.out]; simp, rfl⟩
        case rest =>
          obtain ⟨rfl, hwx⟩ := hcut
          subst hwx
          by_cases hbad : (!x.actor && decide (0 < x.ms.length)) = true
          · have HBAD := Lib.hid hbad
            rw [hbad]
            clear hbad
            go_wp2_with fail
            go_ret
            refine ChkPost.corrupt HBL.out ⟨x, List.mem_of_getElem? HX.out, .inl ?_⟩ (HB1.out.trans (HB.out.mono HB1.out.size))
            have h := HBAD.out
            simpa using h
          · have hbad := Bool.eq_false_iff.2 hbad
            have HBAD := Lib.hid hbad
            rw [hbad]
            clear hbad
            obtain ⟨qo, hqo⟩ : ∃ qo, qo = q := ⟨q, rfl⟩
            subst hqo
            go_wp2_with fail
            clear hx1 hx3 e1
            go_loopg [4] (x.ms.length) (fun q i wr => ∃ (k2 : Nat), i = .int .i64 k2 ∧ k2 + q = x.ms.length ∧ (∀ i m, i < k2 → x.ms[i]? = some m → ¬ badM cs x.fields.length m) ∧ Below wc.heap.size wc wr)
            case atStart => exact ⟨0, rfl, by omega, fun i x hi => by omega, Below.refl _ _⟩
            case round =>
              obtain ⟨k2, rfl, hk2, hall2, hB2⟩ := hrel
              have HALL2 := Lib.hid hall2
              have HB3 := Lib.hid hB2
              have hsz2 := hB2.size
              have r1 := R1.out.below hB2 R1.out.lt
              have e1 := r1.cell 0
              simp only [List.getElem?_toArray, List.getElem?_cons_zero, List.getElem?_cons_succ] at e1
              have hx3 : wr.cell? ⟨cb, co + k * 4 + 3, none⟩ = some (.slice M x.ms.length mc) := ((bcell HB3.out).1 _ _ (Nat.lt_of_lt_of_le hcb hsz)).trans HX3.out
              clear hall2 hB2 r1
              cases gk with
              | zero =>
                obtain rfl : k2 = x.ms.length := hk2
                go_wp2_with fail
                go_roundg qo
                case measure => omega
                case rel =>
                  refine ⟨k + 1, by go_num, by omega, fun i x' hi hx' => ?_, HB.out.trans (HB3.out.mono HB.out.size)⟩
                  by_cases hik : i < k
                  · exact HALL.out i x' hik hx'
                  · obtain rfl : i = k := by omega
                    have hx2 := HX.out
                    rw [hx'] at hx2
                    cases hx2
                    have h := HBAD.out
                    rintro (h1 | ⟨m, hm, hl⟩)
                    · have hd : decide (0 < x.ms.length) = true := decide_eq_true h1.2
                      rw [h1.1, hd] at h
                      cases h
                    · obtain ⟨j, hj⟩ := List.mem_iff_getElem?.1 hm
                      exact HALL2.out j m (List.getElem?_eq_some_iff.1 hj).1 hj hl
              | succ q =>
                have hk2l : k2 < x.ms.length := by omega
                obtain ⟨mb, mo, m, r, hMA, hmb, hm, hrl, hMR, hcells⟩ := HM1.out.get hk2l
                have hMR2 := hMR.below HB3.out
                obtain ⟨hok, cA, cc, nB, nc, hr, hcc, hcS, hnc', hnS⟩ := hMR
                rw [hr] at hMR2
                have y0 : wr.cell? ⟨mb, mo + k2 * 5, none⟩ = some (.string m.nm) := ((bcell HB3.out).1 _ _ hmb).trans (hcells 0 _ (by rw [hr]; rfl))
                have y1 : wr.cell? ⟨mb, mo + k2 * 5 + 1, none⟩ = some (.int .i64 m.p) := ((bcell HB3.out).1 _ _ hmb).trans (hcells 1 _ (by rw [hr]; rfl))
                have y2 : wr.cell? ⟨mb, mo + k2 * 5 + 2, none⟩ = some (.int .i64 m.l) := ((bcell HB3.out).1 _ _ hmb).trans (hcells 2 _ (by rw [hr]; rfl))
                have y3 : wr.cell? ⟨mb, mo + k2 * 5 + 3, none⟩ = some (.slice cA m.code.length cc) := ((bcell HB3.out).1 _ _ hmb).trans (hcells 3 _ (by rw [hr]; rfl))
                have y4 : wr.cell? ⟨mb, mo + k2 * 5 + 4, none⟩ = some (.slice nB m.names.length nc) := ((bcell HB3.out).1 _ _ hmb).trans (hcells 4 _ (by rw [hr]; rfl))
                have hnl := HNL.out m (List.mem_of_getElem? hm)
                have l4 : m.code.length ≤ 4000 := Nat.le_of_not_lt fun h => hnl (.inr (.inr (.inl h)))
                have hkm : k2 < mc := by omega
                have hw2 : IntKind.i64.wrap (k2 : Int) = (k2 : Int) := IntWalk.i64_in _ (by omega)
                have HMX := Lib.hid hm
                have HMR := Lib.hid hMR2
                have HCW := Lib.hid (HC2.out.below HB3.out)
                have cM := fun dd os => Rmethod_any (w := grow (redrawn wr dd) os) (HCW.out.below (below_regrown wr dd os)) HX.out hn60 (HMR.out.below (below_regrown wr dd os)) l4
                have j1 := cell_regrown e1
                have jx3 := cell_regrown hx3
                have jy0 := cell_regrown y0
                have jy1 := cell_regrown y1
                have jy2 := cell_regrown y2
                have jy3 := cell_regrown y3
                have jy4 := cell_regrown y4
                clear hok hcS hnS hcells hnl hrl hr hm hMR2
                subst hMA
                have HCM : Hid (∃ b : Bool, (b = true ↔ ¬ badM cs x.fields.length m)) := Lib.hid (by
                  by_cases h : badM cs x.fields.length m
                  · exact ⟨false, by simp [h]⟩
                  · exact ⟨true, by simp [h]⟩)
                obtain ⟨bm, hbm⟩ := HCM.out
                have cB := fun dd os => Calls.regrown_of (w := wr) ((cM dd os).mono (fun e w' ⟨⟨b, he, hb⟩, hbel⟩ => (⟨by rw [he, show b = bm from by cases b <;> cases bm <;> simp_all], hbel⟩ : e = .returned (.bool bm) ∧ Below (grow (redrawn wr dd) os).heap.size (grow (redrawn wr dd) os) w')))
                have HBM := Lib.hid hbm
                clear cM hbm
                cases bm with
                | false =>
                  have HNO : Hid (badM cs x.fields.length m) := Lib.hid (Classical.byContradiction fun h => by have := HBM.out.2 h; cases this)
                  go_upto_region 10 with fail
                  clear e1 hx3 y0 y1 y2 y3 y4
                  refine wp_region_quiet_below (by kernel_rfl) (by kernel_rfl) ?_
                  repeat (quiet_step (first | exact cB _ _))
                  refine wpQuiet_nil ?_
                  intro w3 hw'
                  have hb3 : Below wr.heap.size wr w3 := by obtain ⟨pp, rfl⟩ := hw'; exact below_regrown _ _ _
                  have HB5 := Lib.hid (HB3.out.trans (hb3.mono HB3.out.size))
                  clear hw' hb3 cB j1 jx3 jy0 jy1 jy2 jy3 jy4
                  go_wp2_with fail
                  go_ret
                  exact ChkPost.corrupt HBL.out ⟨x, List.mem_of_getElem? HX.out, .inr ⟨m, List.mem_of_getElem? HMX.out, HNO.out⟩⟩ (HB1.out.trans ((HB.out.trans (HB5.out.mono HB.out.size)).mono HB1.out.size))
                | true =>
                  have HNO := Lib.hid (HBM.out.1 rfl)
                  go_upto_region 10 with fail
                  clear e1 hx3 y0 y1 y2 y3 y4
                  refine wp_region_quiet_below (by kernel_rfl) (by kernel_rfl) ?_
                  repeat (quiet_step (first | exact cB _ _))
                  refine wpQuiet_nil ?_
                  intro w3 hw'
                  have hb3 : Below wr.heap.size wr w3 := by obtain ⟨pp, rfl⟩ := hw'; exact below_regrown _ _ _
                  have HB5 := Lib.hid (HB3.out.trans (hb3.mono HB3.out.size))
                  clear hw' hb3 cB j1 jx3 jy0 jy1 jy2 jy3 jy4
                  go_wp2_with fail
                  go_roundg q
                  case measure => omega
                  case rel =>
                    refine ⟨k2 + 1, by go_num, by omega, fun i m' hi hm' => ?_, HB5.out⟩
                    by_cases hik : i < k2
                    · exact HALL2.out i m' hik hm'
                    · obtain rfl : i = k2 := by omega
                      have hm2 := HMX.out
                      rw [hm'] at hm2
                      cases hm2
                      exact HNO.out
end
end Go.Proofs.YtdmbcgkfecmakaaDoor
