/- verifier.Check. -/
import Derived.Test.YtdmbcgkfecmakaaDoorOdd
import Derived.Test.YtdmbcgkfecmakaaDoorDepths
namespace Go.Proofs.YtdmbcgkfecmakaaDoor
set_option linter.unusedVariables false
set_option linter.unusedSimpArgs false
set_option linter.unusedSectionVars false
open Go.RowKit
set_option maxRecDepth 100000

def soundP (code : List Ins) : Prop := ∃ D, Good code D
def badM (cs : List Cls) (nf : Nat) (m : Mth) : Prop := m.p < 0 ∨ m.l < m.p ∨ oddP cs nf m.l m.names.length m.code ∨ ¬ soundP m.code
def badC (cs : List Cls) (k : Cls) : Prop := (k.actor = false ∧ 0 < k.ms.length) ∨ ∃ m ∈ k.ms, badM cs k.fields.length m
def badP (cs : List Cls) : Prop := ∃ k ∈ cs, badC cs k
def ChkPost (cs : List Cls) (w : World) (e : Ending) (w' : World) : Prop :=
  (∃ r : Int, e = .returned (.int .i64 r) ∧ ((largeP cs ∧ r = 8) ∨ (¬ largeP cs ∧ badP cs ∧ r = 11) ∨ (¬ largeP cs ∧ ¬ badP cs ∧ r = 0))) ∧ Below w.heap.size w w'
theorem ChkPost.corrupt {cs : List Cls} {w w' : World} (h : ¬ largeP cs) (h2 : badP cs) (hb : Below w.heap.size w w') : ChkPost cs w (.returned (.int .i64 11)) w' := ⟨⟨11, rfl, .inr (.inl ⟨h, h2, rfl⟩)⟩, hb⟩

section
variable {w : World} {A : Option Addr} {n c : Nat} {cs : List Cls}
set_option maxHeartbeats 8000000 in
theorem Check_any (hC : CodeR w cs A n c) :
    Calls Tryd.prog 39 #[.agg #[.slice A n c]] w (ChkPost cs w) := by
  have hB0 : Below w.heap.size w (w.alloc (.cells #[.slice A n c] 55)) := (Below.refl _ _).alloc (Nat.le_refl _) _
  have HC0 := Lib.hid (hC.below hB0)
  have HQ := Lib.hid (Bk.new w 55 #[.slice A n c])
  have hn1 := hC.2.2.1
  have hnc := hC.2.1
  have HL := Lib.hid hC.1
  have HB0 := Lib.hid hB0
  clear hC hB0
  go_enter Tryd.func39, Tryd.ntmps39
  go_wp2_with fail
  refine (large_any HC0.out).mono ?_
  rintro e w1 ⟨⟨b, rfl, hbl⟩, hb1⟩
  have HB1 := Lib.hid (HB0.out.trans (hb1.mono HB0.out.size))
  have HC := Lib.hid (HC0.out.below hb1)
  have HQ1 := Lib.hid (HQ.out.below hb1 HQ.out.lt)
  have c1 : w1.cell? ⟨w.heap.size, 0, none⟩ = some (.slice A n c) := HQ1.out.cell 0
  cases b with
  | true =>
    have HBL := Lib.hid (hbl.1 rfl)
    clear hbl hb1
    go_wp2_with fail
    go_ret
    exact ⟨⟨8, rfl, .inl ⟨HBL.out, rfl⟩⟩, HB1.out⟩
  | false =>
    have HBL : Hid (¬ largeP cs) := Lib.hid (fun h => by have := hbl.2 h; cases this)
    have hn60 : n ≤ 60 := by
      have h := HBL.out
      unfold largeP at h
      rw [HL.out] at h
      omega
    clear hbl hb1
    go_wp2_with fail
    obtain ⟨W, rfl⟩ : ∃ W, W = w1 := ⟨_, rfl⟩
    clear c1
    go_loopg [13] (n) (fun q i wr => ∃ (k : Nat), i = .int .i64 k ∧ k + q = n ∧ (∀ i x, i < k → cs[i]? = some x → ¬ badC cs x) ∧ Below W.heap.size W wr)
    case atStart => exact ⟨0, rfl, by omega, fun i x hi => by omega, Below.refl _ _⟩
    case round =>
      obtain ⟨k, rfl, hkq, hall, hB⟩ := hrel
      have HALL := Lib.hid hall
      have HB := Lib.hid hB
      have hsz := hB.size
      clear hall hB
      cases gk with
      | zero =>
        obtain rfl : k = n := hkq
        go_wp2_with fail
        go_ret
        refine ⟨⟨0, rfl, .inr (.inr ⟨HBL.out, ?_, rfl⟩)⟩, HB1.out.trans (HB.out.mono HB1.out.size)⟩
        rintro ⟨x, hx, hl⟩
        obtain ⟨i, hi⟩ := List.mem_iff_getElem?.1 hx
        exact HALL.out i x (by have := (List.getElem?_eq_some_iff.1 hi).1; rw [HL.out] at this; exact this) hi hl
      | succ q =>
        have hkn : k < n := by omega
        obtain ⟨wo, rfl⟩ : ∃ wo : World, wo = wr := ⟨_, rfl⟩
        obtain ⟨cb, co, x, r, hA, hcb, hx, hrl, ⟨hok, F, fc, M, mc, hr, hfc, hF, hmc, hM⟩, hcells⟩ := HC.out.2.2.2.get hkn
        have HA := Lib.hid hA
        have hx0 : wo.cell? ⟨cb, co + k * 4, none⟩ = some (.string x.nm) := ((bcell HB.out).1 _ _ hcb).trans (hcells 0 _ (by rw [hr]; rfl))
        have hx1 : wo.cell? ⟨cb, co + k * 4 + 1, none⟩ = some (.bool x.actor) := ((bcell HB.out).1 _ _ hcb).trans (hcells 1 _ (by rw [hr]; rfl))
        have hx2 : wo.cell? ⟨cb, co + k * 4 + 2, none⟩ = some (.slice F x.fields.length fc) := ((bcell HB.out).1 _ _ hcb).trans (hcells 2 _ (by rw [hr]; rfl))
        have hx3 : wo.cell? ⟨cb, co + k * 4 + 3, none⟩ = some (.slice M x.ms.length mc) := ((bcell HB.out).1 _ _ hcb).trans (hcells 3 _ (by rw [hr]; rfl))
        have HX := Lib.hid hx
        have hnl : ¬ x.large := fun h => HBL.out (.inr ⟨x, List.mem_of_getElem? hx, h⟩)
        have l2 : x.fields.length ≤ 30 := Nat.le_of_not_lt fun h => hnl (.inl h)
        have l3 : x.ms.length ≤ 30 := Nat.le_of_not_lt fun h => hnl (.inr (.inl h))
        have HNL : Hid (∀ m ∈ x.ms, ¬ m.large) := Lib.hid fun m hm h => hnl (.inr (.inr ⟨m, hm, h⟩))
        have hkc : k < c := by omega
        have HMM := Lib.hid (hM.mths HB.out)
        have HB2 := Lib.hid (HB.out.alloc hsz (.cells #[.string x.nm, .bool x.actor, .slice F x.fields.length fc, .slice M x.ms.length mc] 61))
        have hbr : Below wo.heap.size wo (wo.alloc (.cells #[.string x.nm, .bool x.actor, .slice F x.fields.length fc, .slice M x.ms.length mc] 61)) := (Below.refl _ _).alloc (Nat.le_refl _) _
        have HM1 := Lib.hid (HMM.out.mths hbr)
        have HQ2 := Lib.hid ((HQ1.out.below HB.out HQ1.out.lt).below hbr (HQ1.out.below HB.out HQ1.out.lt).lt)
        have HK2 := Lib.hid (Bk.new wo 61 #[.string x.nm, .bool x.actor, .slice F x.fields.length fc, .slice M x.ms.length mc])
        have HC2 := Lib.hid ((HC.out.below HB.out).below hbr)
        clear hx hok hF hM hcells hbr hnl hrl hr
        subst hA
        go_upto_region 6 with fail
        obtain ⟨W1, hW1⟩ : ∃ W1, W1 = wo.alloc (.cells #[.string x.nm, .bool x.actor, .slice F x.fields.length fc, .slice M x.ms.length mc] 61) := ⟨_, rfl⟩
        rw [← hW1] at HB2 HM1 HQ2 HK2 HC2 ⊢
        clear hW1 hx0 hx1 hx2 hx3 HMM
        go_cut [25] from 17 to 25 (fun s25 wx => s25 = .bool (!x.actor && decide (0 < x.ms.length)) ∧ wx = W1)
        case first =>
          have k1 := HK2.out.cell 1
          have k3 := HK2.out.cell 3
          simp only [List.getElem?_toArray, List.getElem?_cons_zero, List.getElem?_cons_succ] at k1 k3
          rcases Bool.eq_false_or_eq_true x.actor with hac | hac
          · rw [hac] at k1
            have HAC := Lib.hid hac
            clear hac
            go_wp2
            go_meet
            exact ⟨by rw [HAC.out]; rfl, rfl⟩
          · rw [hac] at k1
            have HAC := Lib.hid hac
            clear hac
            go_wp2
            go_meet
            exact ⟨by rw [HAC.out]; simp, rfl⟩
        case rest =>
          obtain ⟨rfl, hwx⟩ := hcut
          subst hwx
          by_cases hbad : (!x.actor && decide (0 < x.ms.length)) = true
          · have HBAD := Lib.hid hbad
            rw [hbad]
            clear hbad
            go_wp2_with fail
            go_ret
            refine ChkPost.corrupt HBL.out ⟨x, List.mem_of_getElem? HX.out, .inl ?_⟩ (HB1.out.trans (HB2.out.mono HB1.out.size))
            have h := HBAD.out
            simpa using h
          · have hbad := Bool.eq_false_iff.2 hbad
            have HBAD := Lib.hid hbad
            rw [hbad]
            clear hbad
            obtain ⟨qo, hqo⟩ : ∃ qo, qo = q := ⟨q, rfl⟩
            subst hqo
            have k3 := HK2.out.cell 3
            simp only [List.getElem?_toArray, List.getElem?_cons_zero, List.getElem?_cons_succ] at k3
            go_wp2_with fail
            clear k3
            go_loopg [29] (x.ms.length) (fun q i wr => ∃ (k2 : Nat), i = .int .i64 k2 ∧ k2 + q = x.ms.length ∧ (∀ i m, i < k2 → x.ms[i]? = some m → ¬ badM cs x.fields.length m) ∧ Below wc.heap.size wc wr)
            case atStart => exact ⟨0, rfl, by omega, fun i x hi => by omega, Below.refl _ _⟩
            case round =>
              obtain ⟨k2, rfl, hk2, hall2, hB2⟩ := hrel
              have HALL2 := Lib.hid hall2
              have HB3 := Lib.hid hB2
              have hsz2 := hB2.size
              clear hall2 hB2
              cases gk with
              | zero =>
                obtain rfl : k2 = x.ms.length := hk2
                go_wp2_with fail
                go_roundg qo
                case measure => omega
                case rel =>
                  refine ⟨k + 1, by go_num, by omega, fun i x' hi hx' => ?_, HB2.out.trans (HB3.out.mono HB2.out.size)⟩
                  by_cases hik : i < k
                  · exact HALL.out i x' hik hx'
                  · obtain rfl : i = k := by omega
                    have hx2 := HX.out
                    rw [hx'] at hx2
                    cases hx2
                    have h := HBAD.out
                    rintro (h1 | ⟨m, hm, hl⟩)
                    · have hd : decide (0 < x.ms.length) = true := decide_eq_true h1.2
                      rw [h1.1, hd] at h
                      cases h
                    · obtain ⟨j, hj⟩ := List.mem_iff_getElem?.1 hm
                      exact HALL2.out j m (List.getElem?_eq_some_iff.1 hj).1 hj hl
              | succ q =>
                have hk2l : k2 < x.ms.length := by omega
                obtain ⟨mb, mo, m, r, hMA, hmb, hm, hrl, ⟨hok, cA, cc, nB, nc, hr, hcc, hcS, hnc', hnS⟩, hcells⟩ := HM1.out.get hk2l
                have y0 : wr.cell? ⟨mb, mo + k2 * 5, none⟩ = some (.string m.nm) := ((bcell HB3.out).1 _ _ hmb).trans (hcells 0 _ (by rw [hr]; rfl))
                have y1 : wr.cell? ⟨mb, mo + k2 * 5 + 1, none⟩ = some (.int .i64 m.p) := ((bcell HB3.out).1 _ _ hmb).trans (hcells 1 _ (by rw [hr]; rfl))
                have y2 : wr.cell? ⟨mb, mo + k2 * 5 + 2, none⟩ = some (.int .i64 m.l) := ((bcell HB3.out).1 _ _ hmb).trans (hcells 2 _ (by rw [hr]; rfl))
                have y3 : wr.cell? ⟨mb, mo + k2 * 5 + 3, none⟩ = some (.slice cA m.code.length cc) := ((bcell HB3.out).1 _ _ hmb).trans (hcells 3 _ (by rw [hr]; rfl))
                have y4 : wr.cell? ⟨mb, mo + k2 * 5 + 4, none⟩ = some (.slice nB m.names.length nc) := ((bcell HB3.out).1 _ _ hmb).trans (hcells 4 _ (by rw [hr]; rfl))
                have hnl := HNL.out m (List.mem_of_getElem? hm)
                have l4 : m.code.length ≤ 4000 := Nat.le_of_not_lt fun h => hnl (.inr (.inr (.inl h)))
                have hkm : k2 < mc := by omega
                have HMX := Lib.hid hm
                have hbr : Below wr.heap.size wr (wr.alloc (.cells #[.string m.nm, .int .i64 m.p, .int .i64 m.l, .slice cA m.code.length cc, .slice nB m.names.length nc] 25)) := (Below.refl _ _).alloc (Nat.le_refl _) _
                have hbr2 := HB3.out.trans (hbr.mono hsz2)
                have HB4 := Lib.hid hbr2
                have hE : OddEnv (wr.alloc (.cells #[.string m.nm, .int .i64 m.p, .int .i64 m.l, .slice cA m.code.length cc, .slice nB m.names.length nc] 25)) w.heap.size wo.heap.size wr.heap.size cs (some ⟨cb, co, none⟩) n c (.string x.nm) (.bool x.actor) F x.fields.length fc (.slice M x.ms.length mc) (.string m.nm) (.int .i64 m.p) m.l (.slice cA m.code.length cc) nB m.names.length nc :=
                  ⟨HQ2.out.below hbr2 HQ2.out.lt, HK2.out.below hbr2 HK2.out.lt, Bk.new wr _ _, HC2.out.below hbr2⟩
                have HE := Lib.hid hE
                have HOK := Lib.hid hok
                have HCS := Lib.hid (hcS.below hbr2)
                clear hok hcS hnS hcells hnl hbr hbr2 hE hrl hr hm
                subst hMA
                go_upto_region 12 with fail
                obtain ⟨W3, hW3⟩ : ∃ W3, W3 = wr.alloc (.cells #[.string m.nm, .int .i64 m.p, .int .i64 m.l, .slice cA m.code.length cc, .slice nB m.names.length nc] 25) := ⟨_, rfl⟩
                rw [← hW3] at HB4 HE HCS ⊢
                have hz6 := HE.out.mth.lt
                have e0 := HE.out.mth.cell 0
                have e1 := HE.out.mth.cell 1
                have e2 := HE.out.mth.cell 2
                have e3 := HE.out.mth.cell 3
                have e4 := HE.out.mth.cell 4
                simp only [List.getElem?_toArray, List.getElem?_cons_zero, List.getElem?_cons_succ] at e0 e1 e2 e3 e4
                clear hW3 y0 y1 y2 y3 y4
                have HBAD2 : Hid (badM cs x.fields.length m → ∀ w', Below W3.heap.size W3 w' → ChkPost cs w (.returned (.int .i64 11)) w') := Lib.hid fun h w' hb =>
                  ChkPost.corrupt HBL.out ⟨x, List.mem_of_getElem? HX.out, .inr ⟨m, List.mem_of_getElem? HMX.out, h⟩⟩ (HB1.out.trans ((HB2.out.trans ((HB4.out.trans (hb.mono HB4.out.size)).mono HB2.out.size)).mono HB1.out.size))
                by_cases h1 : m.p < 0
                · go_wp2_with fail
                  go_ret
                  exact HBAD2.out (.inl h1) _ (Below.refl _ _)
                by_cases h2 : m.l < m.p
                · go_wp2_with fail
                  go_ret
                  exact HBAD2.out (.inr (.inl h2)) _ (Below.refl _ _)
                go_wp2_with fail
                refine (contains_odd HE.out rfl l4 hcc HCS.out).mono ?_
                rintro e w4 ⟨⟨b, rfl, hbo⟩, hb4⟩
                have f0 := ((bcell hb4).1 _ 0 hz6).trans e0
                have f1 := ((bcell hb4).1 _ 1 hz6).trans e1
                have f2 := ((bcell hb4).1 _ 2 hz6).trans e2
                have f3 := ((bcell hb4).1 _ 3 hz6).trans e3
                have f4 := ((bcell hb4).1 _ 4 hz6).trans e4
                have HBB4 := Lib.hid hb4
                cases b with
                | true =>
                  have HO := Lib.hid (hbo.1 rfl)
                  clear hbo hb4 e0 e1 e2 e3 e4
                  go_wp2_with fail
                  go_ret
                  exact HBAD2.out (.inr (.inr (.inl HO.out))) _ HBB4.out
                | false =>
                  have HNO : Hid (¬ oddP cs x.fields.length m.l m.names.length m.code) := Lib.hid (fun h => by have := hbo.2 h; cases this)
                  clear hbo hb4 e0 e1 e2 e3 e4
                  go_wp2_with fail
                  refine (examine_any m.code rfl (by omega) HOK.out.code (HCS.out.below HBB4.out)).mono ?_
                  rintro e w5 ⟨g, d, nn, f, sound, most, rfl, hg, hmm, hnl, hg1, hd1, hdg, hfin, hb5⟩
                  have c6 : w5.cell? ⟨g, 6, none⟩ = some (.bool sound) := hg.cell 6
                  have HB5 := Lib.hid (HBB4.out.trans (hb5.mono HBB4.out.size))
                  have HFIN := Lib.hid hfin
                  clear hg hmm hnl hg1 hd1 hdg hfin hb5 f0 f1 f2 f3 f4
                  cases sound with
                  | false =>
                    go_wp2_with fail
                    go_ret
                    exact HBAD2.out (.inr (.inr (.inr fun ⟨D, hD⟩ => HFIN.out.bad rfl D hD))) _ HB5.out
                  | true =>
                    go_wp2_with fail
                    go_roundg q
                    case measure => omega
                    case rel =>
                      refine ⟨k2 + 1, by go_num, by omega, fun i m' hi hm' => ?_, HB4.out.trans (HB5.out.mono HB4.out.size)⟩
                      by_cases hik : i < k2
                      · exact HALL2.out i m' hik hm'
                      · obtain rfl : i = k2 := by omega
                        have hm2 := HMX.out
                        rw [hm'] at hm2
                        cases hm2
                        rintro (h | h | h | h)
                        · omega
                        · omega
                        · exact HNO.out h
                        · exact h ⟨f, HFIN.out.good rfl⟩
end
end Go.Proofs.YtdmbcgkfecmakaaDoor
