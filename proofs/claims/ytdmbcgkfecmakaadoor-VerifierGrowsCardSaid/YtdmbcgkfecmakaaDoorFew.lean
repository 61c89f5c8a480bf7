/- refmeshref41.Few: what a program is that it accepts. -/
import Derived.Test.YtdmbcgkfecmakaaDoorCodeR
import Derived.Deep.LoopGhost
import Derived.Deep.CutBlock
import Derived.Deep.DeepCutAuto
namespace Go.Proofs.YtdmbcgkfecmakaaDoor
set_option linter.unusedVariables false
set_option linter.unusedSimpArgs false
set_option linter.unusedSectionVars false
open Go.RowKit
set_option maxRecDepth 100000

/-- n has passed the bound for good, or all before k is small -/
def FewTo {α : Type} (P : α → Prop) (xs : List α) (k : Nat) (n most : Int) : Prop := 0 ≤ n ∧ n ≤ 1000000000000000 ∧ (n ≤ most → ∀ i x, i < k → xs[i]? = some x → P x)
theorem FewTo.start {α : Type} (P : α → Prop) (xs : List α) {n most : Int} (h0 : 0 ≤ n) (h1 : n ≤ 1000000000000000) : FewTo P xs 0 n most := ⟨h0, h1, fun _ i x hi => by omega⟩

def FewPost (w : World) (cs : List Cls) (most : Int) (e : Ending) (w' : World) : Prop := (∃ b : Bool, e = .returned (.bool b) ∧ (b = true → fewP cs most.toNat)) ∧ Below w.heap.size w w'
theorem small_of {s most z : Int} (hs : 0 ≤ s) (m0 : 1 ≤ most) (hz : 0 ≤ z) (h : z + s / 100 * most ≤ most) : s < 200 := by
  rcases (show s < 200 ∨ 200 ≤ s by omega) with h1 | h1
  · exact h1
  · have h2 : 2 ≤ s / 100 := by omega
    have h3 : 2 * most ≤ s / 100 * most := Int.mul_le_mul_of_nonneg_right h2 (by omega)
    omega
theorem mul_facts {s most : Int} (hs : 0 ≤ s) (h : s ≤ 140737488351232) (m0 : 1 ≤ most) (m1 : most ≤ 100) : 0 ≤ s / 100 ∧ 0 ≤ s / 100 * most ∧ s / 100 * most ≤ 140737488351232 := by
  have h0 : 0 ≤ s / 100 := by omega
  have h1 : s / 100 ≤ 1407374883512 := by omega
  have h2 := Int.mul_le_mul h1 m1 (by omega) (by omega)
  exact ⟨h0, Int.mul_nonneg h0 (by omega), by omega⟩

section
variable {w : World} {A : Option Addr} {n c : Nat} {cs : List Cls} {most : Int}
set_option maxHeartbeats 4000000 in
theorem Few_any (hC : CodeR w cs A n c) (m0 : 1 ≤ most) (m1 : most ≤ 100) :
    Calls Tryd.prog 42 #[.agg #[.slice A n c], .int .i64 most] w (FewPost w cs most) := by
  have HC := Lib.hid (hC.below ((Below.refl _ _).alloc (Nat.le_refl _) (.cells #[.slice A n c] 55)))
  have hn1 := hC.2.2.1
  have hnc := hC.2.1
  have hb0 : Below w.heap.size w (w.alloc (.cells #[.slice A n c] 55)) := (Below.refl _ _).alloc (Nat.le_refl _) _
  have HB0 := Lib.hid hb0
  have hs0 : w.heap.size < (w.alloc (.cells #[.slice A n c] 55)).heap.size := by simp
  have hbk : Bk (w.alloc (.cells #[.slice A n c] 55)) w.heap.size 55 #[.slice A n c] := Bk.new _ _ _
  have HBK := Lib.hid hbk
  clear hC hb0 hbk
  go_enter Tryd.func42, Tryd.ntmps42
  go_upto_region 2 with fail
  obtain ⟨W, hW⟩ : ∃ W, W = w.alloc (.cells #[.slice A n c] 55) := ⟨_, rfl⟩
  rw [← hW] at HC HB0 hs0 HBK ⊢
  clear hW
  go_wp2_with fail
  go_loopg [5, 6] (n) (fun q v i wr => ∃ (k : Nat) (z : Int), i = .int .i64 k ∧ k + q = n ∧ v = .int .i64 z ∧ FewTo (fun x : Cls => x.few most.toNat) cs k z most ∧ (n : Int) ≤ z ∧ Below W.heap.size W wr)
  case atStart => exact ⟨0, n, rfl, by omega, rfl, FewTo.start _ _ (by omega) (by omega), Int.le_refl _, Below.refl _ _⟩
  case round =>
    obtain ⟨k, z, rfl, hkq, rfl, hf, hnz, hB⟩ := hrel
    obtain ⟨z0, z1, hfk⟩ := hf
    have HF := Lib.hid hfk
    have b0 : wr.cell? ⟨w.heap.size, 0, none⟩ = some (.slice A n c) := (HBK.out.below hB hs0).cell 0
    have HB := Lib.hid hB
    have hsz := hB.size
    clear hfk hB
    by_cases hk : k < n ∧ z ≤ most
    · obtain ⟨hkn, hzm⟩ := hk
      cases gk with
      | zero => omega
      | succ q =>
        obtain ⟨wo, rfl⟩ : ∃ wo : World, wo = wr := ⟨_, rfl⟩
        obtain ⟨cb, co, x, r, hA, hcb, hx, hrl, ⟨hok, F, fc, M, mc, hr, hfc, hF, hmc, hM⟩, hcells⟩ := HC.out.2.2.2.get hkn
        subst hA
        subst hr
        have hx0 : wo.cell? ⟨cb, co + k * 4, none⟩ = some (.string x.nm) := (HB.out.cell (p := ⟨cb, co + k * 4, none⟩) hcb).trans (hcells 0 _ rfl)
        have hx1 : wo.cell? ⟨cb, co + k * 4 + 1, none⟩ = some (.bool x.actor) := (HB.out.cell (p := ⟨cb, co + k * 4 + 1, none⟩) hcb).trans (hcells 1 _ rfl)
        have hx2 : wo.cell? ⟨cb, co + k * 4 + 2, none⟩ = some (.slice F x.fields.length fc) := (HB.out.cell (p := ⟨cb, co + k * 4 + 2, none⟩) hcb).trans (hcells 2 _ rfl)
        have hx3 : wo.cell? ⟨cb, co + k * 4 + 3, none⟩ = some (.slice M x.ms.length mc) := (HB.out.cell (p := ⟨cb, co + k * 4 + 3, none⟩) hcb).trans (hcells 3 _ rfl)
        have l1 := hok.nm
        have l2 := hok.lf
        have l3 := hok.lm
        have hkc : k < c := by omega
        have HX := Lib.hid hx
        have HOK := Lib.hid hok
        have HFF := Lib.hid (hF.below HB.out)
        have HMM := Lib.hid (hM.mths HB.out)
        obtain ⟨hq0, hq2, hq1⟩ := mul_facts (s := (x.nm.size : Int)) (most := most) (by omega) (by omega) m0 m1
        clear hx hok hF hM hcells
        go_upto_block 2 with fail
        have hbw1 : Below W.heap.size W (wo.alloc (.cells #[.string x.nm, .bool x.actor, .slice F x.fields.length fc, .slice M x.ms.length mc] 61)) := HB.out.alloc hsz _
        have hbk1 : Bk (wo.alloc (.cells #[.string x.nm, .bool x.actor, .slice F x.fields.length fc, .slice M x.ms.length mc] 61)) wo.heap.size 61 #[.string x.nm, .bool x.actor, .slice F x.fields.length fc, .slice M x.ms.length mc] := Bk.new _ _ _
        have hbr : Below wo.heap.size wo (wo.alloc (.cells #[.string x.nm, .bool x.actor, .slice F x.fields.length fc, .slice M x.ms.length mc] 61)) := (Below.refl _ _).alloc (Nat.le_refl _) _
        obtain ⟨W1, hW1⟩ : ∃ W1, W1 = wo.alloc (.cells #[.string x.nm, .bool x.actor, .slice F x.fields.length fc, .slice M x.ms.length mc] 61) := ⟨_, rfl⟩
        rw [← hW1] at hbw1 hbk1 hbr ⊢
        clear hW1
        have HF1 := Lib.hid (HFF.out.below hbr)
        have HM1 := Lib.hid (HMM.out.mths hbr)
        have HBW1 := Lib.hid hbw1
        have HBK1 := Lib.hid hbk1
        have cF : W1.cell? ⟨wo.heap.size, 2, none⟩ = some (.slice F x.fields.length fc) := hbk1.cell 2
        obtain ⟨z2, hz2⟩ : ∃ z2, z2 = z + x.fields.length + x.ms.length + (x.nm.size : Int) / 100 * most := ⟨_, rfl⟩
        have h20 : z ≤ z2 := by omega
        have h21 : z2 ≤ 700000000000000 := by omega
        have HZ2 := Lib.hid hz2
        rw [← hz2]
        obtain ⟨qo, hqo⟩ : ∃ qo, qo = q := ⟨q, rfl⟩
        subst hqo
        clear hz2 hq0 hq1 hq2 hbw1 hbk1 hbr hx0 hx1 hx2 hx3 b0 HFF HMM
        go_cut [5, 8] from 48 to 70 (fun s5 s8 wx => ∃ z3 : Int, s5 = .int .i64 z3 ∧ z2 ≤ z3 ∧ z3 ≤ 1000000000000000 ∧ (z3 ≤ most → ∀ s ∈ x.fields, s.size < 200) ∧ wx = W1)
        case first =>
          go_wp2_with fail
          go_loopg [5, 8] (x.fields.length) (fun q v i wr => ∃ (k2 : Nat) (z3 : Int), i = .int .i64 k2 ∧ k2 + q = x.fields.length ∧ v = .int .i64 z3 ∧ z2 ≤ z3 ∧ z3 ≤ 1000000000000000 ∧ (z3 ≤ most → ∀ (i : Nat) (s : ByteArray), i < k2 → x.fields[i]? = some s → s.size < 200) ∧ wr = W1)
          case atStart => exact ⟨0, z2, rfl, by omega, rfl, Int.le_refl _, by omega, fun _ i s hi => by omega, rfl⟩
          case round =>
            obtain ⟨k2, z3, rfl, hk2, rfl, h30, h31, hall, rfl⟩ := hrel
            have HALL := Lib.hid hall
            clear hall
            by_cases hlt : k2 < x.fields.length
            · by_cases hz3 : z3 ≤ most
              · cases gk with
                | zero => omega
                | succ q =>
                  obtain ⟨fb, fo, hFA, hfb, hfcell⟩ := HF1.out.get hlt
                  subst hFA
                  obtain ⟨s, hs⟩ : ∃ s, x.fields[k2]? = some s := ⟨_, List.getElem?_eq_getElem hlt⟩
                  have cs : wr.cell? ⟨fb, fo + k2, none⟩ = some (.string s) := hfcell k2 _ (by simp [txtCells, hs])
                  have hs1 := HOK.out.fields s (List.mem_of_getElem? hs)
                  obtain ⟨p0, p2, p1⟩ := mul_facts (s := (s.size : Int)) (most := most) (by omega) (by omega) m0 m1
                  have hkf : k2 < fc := by omega
                  have HS := Lib.hid hs
                  clear hs hfcell
                  go_wp2_with fail
                  go_roundg q
                  case measure => omega
                  case rel =>
                    refine ⟨k2 + 1, z3 + (s.size : Int) / 100 * most, by go_num, by omega, rfl, by omega, by omega, fun hh i s' hi hs' => ?_, rfl⟩
                    by_cases hik : i < k2
                    · exact HALL.out hz3 i s' hik hs'
                    · obtain rfl : i = k2 := by omega
                      have hs2 := HS.out
                      rw [hs'] at hs2
                      cases hs2
                      have := small_of (s := (s.size : Int)) (z := z3) (by omega) m0 (by omega) hh
                      omega
              · go_wp2_with fail
                go_meet
                exact ⟨z3, rfl, h30, h31, fun hh => by omega, rfl⟩
            · obtain rfl : k2 = x.fields.length := by omega
              go_wp2_with fail
              go_meet
              refine ⟨z3, rfl, h30, h31, fun hh s hs => ?_, rfl⟩
              obtain ⟨i, hi⟩ := List.mem_iff_getElem?.1 hs
              exact HALL.out hh i s (List.getElem?_eq_some_iff.1 hi).1 hi
        case rest =>
          obtain ⟨z3, rfl, h30, h31, hfields, rfl⟩ := hcut
          have HFIELDS := Lib.hid hfields
          clear hfields cF
          obtain ⟨w1, rfl⟩ : ∃ w1 : World, w1 = wc := ⟨_, rfl⟩
          have cM : w1.cell? ⟨wo.heap.size, 3, none⟩ = some (.slice M x.ms.length mc) := HBK1.out.cell 3
          have hlt1 : wo.heap.size < w1.heap.size := HBK1.out.lt
          go_upto_block 4 with fail
          have hend4 : ∀ z4 : Int, z3 ≤ z4 → (z4 ≤ most → ∀ (i : Nat) (m : Mth), i < x.ms.length → x.ms[i]? = some m → m.few most.toNat) → (z4 ≤ most → ∀ (i : Nat) (x : Cls), i < k + 1 → cs[i]? = some x → x.few most.toNat) := fun z4 h40 hms hh i x' hi hx' => by
            by_cases hik : i < k
            · exact HF.out hzm i x' hik hx'
            · obtain rfl : i = k := by omega
              have hx2 := HX.out
              rw [hx'] at hx2
              cases hx2
              have e2 := HZ2.out
              obtain ⟨_, p2, _⟩ := mul_facts (s := (x.nm.size : Int)) (most := most) (by omega) (by omega) m0 m1
              have := small_of (s := (x.nm.size : Int)) (z := 0) (by omega) m0 (by omega) (by omega)
              refine ⟨by omega, by omega, by omega, HFIELDS.out (by omega), fun m hm => ?_⟩
              obtain ⟨j, hj⟩ := List.mem_iff_getElem?.1 hm
              exact hms hh j m (List.getElem?_eq_some_iff.1 hj).1 hj
          have HEND4 := Lib.hid hend4
          clear hend4
          focus
            go_wp2_with fail
            go_loopg [5, 9] (x.ms.length) (fun q v i wr => ∃ (k2 : Nat) (z4 : Int), i = .int .i64 k2 ∧ k2 + q = x.ms.length ∧ v = .int .i64 z4 ∧ z3 ≤ z4 ∧ z4 ≤ 1000000000000000 ∧ (z4 ≤ most → ∀ (i : Nat) (m : Mth), i < k2 → x.ms[i]? = some m → m.few most.toNat) ∧ Below w1.heap.size w1 wr)
            case atStart => exact ⟨0, z3, rfl, by omega, rfl, Int.le_refl _, by omega, fun _ i s hi => by omega, Below.refl _ _⟩
            case round =>
              obtain ⟨k2, z4, rfl, hk2, rfl, h40, h41, hall, hbr⟩ := hrel
              have HALL := Lib.hid hall
              obtain ⟨wp, rfl⟩ : ∃ wp : World, wp = wr := ⟨_, rfl⟩
              have cM' := ((bcell hbr).1 _ 3 hlt1).trans cM
              have hz12 := hbr.size
              have HBR := Lib.hid hbr
              clear hall hbr cM
              by_cases hlt : k2 < x.ms.length
              · by_cases hz4 : z4 ≤ most
                · cases gk with
                  | zero => omega
                  | succ q =>
                    obtain ⟨mb, mo, m, r, hMA, hmb, hm, hrl, ⟨hok, cA, cc, nB, nc, hr, hcc, _, hnc', hnS⟩, hcells⟩ := HM1.out.get hlt
                    subst hMA
                    subst hr
                    have y0 : wp.cell? ⟨mb, mo + k2 * 5, none⟩ = some (.string m.nm) := ((bcell HBR.out).1 _ _ hmb).trans (hcells 0 _ rfl)
                    have y1 : wp.cell? ⟨mb, mo + k2 * 5 + 1, none⟩ = some (.int .i64 m.p) := ((bcell HBR.out).1 _ _ hmb).trans (hcells 1 _ rfl)
                    have y2 : wp.cell? ⟨mb, mo + k2 * 5 + 2, none⟩ = some (.int .i64 m.l) := ((bcell HBR.out).1 _ _ hmb).trans (hcells 2 _ rfl)
                    have y3 : wp.cell? ⟨mb, mo + k2 * 5 + 3, none⟩ = some (.slice cA m.code.length cc) := ((bcell HBR.out).1 _ _ hmb).trans (hcells 3 _ rfl)
                    have y4 : wp.cell? ⟨mb, mo + k2 * 5 + 4, none⟩ = some (.slice nB m.names.length nc) := ((bcell HBR.out).1 _ _ hmb).trans (hcells 4 _ rfl)
                    have l4 := hok.nm
                    have l5 := hok.lc
                    have l6 := hok.ln
                    have hkm : k2 < mc := by omega
                    obtain ⟨p0, p2, p1⟩ := mul_facts (s := (m.nm.size : Int)) (most := most) (by omega) (by omega) m0 m1
                    have HMK := Lib.hid hok
                    have HMM := Lib.hid hm
                    have HNS := Lib.hid (hnS.below HBR.out)
                    clear hok hm hnS hcells
                    go_upto_block 6 with fail
                    have hbk2 : Bk (wp.alloc (.cells #[.string m.nm, .int .i64 m.p, .int .i64 m.l, .slice cA m.code.length cc, .slice nB m.names.length nc] 25)) wp.heap.size 25 #[.string m.nm, .int .i64 m.p, .int .i64 m.l, .slice cA m.code.length cc, .slice nB m.names.length nc] := Bk.new _ _ _
                    have hbr2 : Below wp.heap.size wp (wp.alloc (.cells #[.string m.nm, .int .i64 m.p, .int .i64 m.l, .slice cA m.code.length cc, .slice nB m.names.length nc] 25)) := (Below.refl _ _).alloc (Nat.le_refl _) _
                    obtain ⟨W2, hW2⟩ : ∃ W2, W2 = wp.alloc (.cells #[.string m.nm, .int .i64 m.p, .int .i64 m.l, .slice cA m.code.length cc, .slice nB m.names.length nc] 25) := ⟨_, rfl⟩
                    rw [← hW2] at hbk2 hbr2 ⊢
                    clear hW2
                    have HN2 := Lib.hid (HNS.out.below hbr2)
                    have HBR2 := Lib.hid (HBR.out.trans (hbr2.mono hz12))
                    have cN : W2.cell? ⟨wp.heap.size, 4, none⟩ = some (.slice nB m.names.length nc) := hbk2.cell 4
                    obtain ⟨z5, hz5⟩ : ∃ z5, z5 = z4 + m.code.length + m.names.length + (m.nm.size : Int) / 100 * most := ⟨_, rfl⟩
                    have h50 : z4 ≤ z5 := by omega
                    have h51 : z5 ≤ 700000000000000 := by omega
                    have HZ5 := Lib.hid hz5
                    rw [← hz5]
                    obtain ⟨qm, hqm⟩ : ∃ qm, qm = q := ⟨q, rfl⟩
                    subst hqm
                    clear hz5 p0 p1 p2 hbk2 hbr2 y0 y1 y2 y3 y4 cM'
                    have hend6 : ∀ z6 : Int, z5 ≤ z6 → (z6 ≤ most → ∀ (i : Nat) (s : ByteArray), i < m.names.length → m.names[i]? = some s → s.size < 200) → (z6 ≤ most → ∀ (i : Nat) (m : Mth), i < k2 + 1 → x.ms[i]? = some m → m.few most.toNat) := fun z6 h60 hnm hh i m' hi hm' => by
                      by_cases hik : i < k2
                      · exact HALL.out hz4 i m' hik hm'
                      · obtain rfl : i = k2 := by omega
                        have hm2 := HMM.out
                        rw [hm'] at hm2
                        cases hm2
                        have e5 := HZ5.out
                        obtain ⟨_, p2, _⟩ := mul_facts (s := (m.nm.size : Int)) (most := most) (by omega) (by omega) m0 m1
                        have := small_of (s := (m.nm.size : Int)) (z := 0) (by omega) m0 (by omega) (by omega)
                        refine ⟨by omega, by omega, by omega, fun s hs => ?_⟩
                        obtain ⟨j, hj⟩ := List.mem_iff_getElem?.1 hs
                        exact hnm hh j s (List.getElem?_eq_some_iff.1 hj).1 hj
                    have HEND6 := Lib.hid hend6
                    clear hend6
                    focus
                      go_wp2_with fail
                      go_loopg [5, 11] (m.names.length) (fun q v i wr => ∃ (k3 : Nat) (z6 : Int), i = .int .i64 k3 ∧ k3 + q = m.names.length ∧ v = .int .i64 z6 ∧ z5 ≤ z6 ∧ z6 ≤ 1000000000000000 ∧ (z6 ≤ most → ∀ (i : Nat) (s : ByteArray), i < k3 → m.names[i]? = some s → s.size < 200) ∧ wr = W2)
                      case atStart => exact ⟨0, z5, rfl, by omega, rfl, Int.le_refl _, by omega, fun _ i s hi => by omega, rfl⟩
                      case round =>
                        obtain ⟨k3, z6, rfl, hk3, rfl, h60, h61, hall3, rfl⟩ := hrel
                        have HALL3 := Lib.hid hall3
                        clear hall3
                        by_cases hlt3 : k3 < m.names.length
                        · by_cases hz6 : z6 ≤ most
                          · cases gk with
                            | zero => omega
                            | succ q =>
                              obtain ⟨fb, fo, hFA, hfb, hfcell⟩ := HN2.out.get hlt3
                              subst hFA
                              obtain ⟨s, hs⟩ : ∃ s, m.names[k3]? = some s := ⟨_, List.getElem?_eq_getElem hlt3⟩
                              have cs : wr.cell? ⟨fb, fo + k3, none⟩ = some (.string s) := hfcell k3 _ (by simp [txtCells, hs])
                              have hs1 := HMK.out.names s (List.mem_of_getElem? hs)
                              obtain ⟨p0, p2, p1⟩ := mul_facts (s := (s.size : Int)) (most := most) (by omega) (by omega) m0 m1
                              have hkf : k3 < nc := by omega
                              have HS := Lib.hid hs
                              clear hs hfcell
                              go_wp2_with fail
                              go_roundg q
                              case measure => omega
                              case rel =>
                                refine ⟨k3 + 1, z6 + (s.size : Int) / 100 * most, by go_num, by omega, rfl, by omega, by omega, fun hh i s' hi hs' => ?_, rfl⟩
                                by_cases hik : i < k3
                                · exact HALL3.out hz6 i s' hik hs'
                                · obtain rfl : i = k3 := by omega
                                  have hs2 := HS.out
                                  rw [hs'] at hs2
                                  cases hs2
                                  have := small_of (s := (s.size : Int)) (z := z6) (by omega) m0 (by omega) hh
                                  omega
                          · go_wp2_with fail
                            go_roundg qm
                            case measure => omega
                            case rel => exact ⟨k2 + 1, z6, by go_num, by omega, rfl, by omega, h61, HEND6.out z6 h60 (fun hh => by omega), HBR2.out⟩
                        · obtain rfl : k3 = m.names.length := by omega
                          go_wp2_with fail
                          go_roundg qm
                          case measure => omega
                          case rel => exact ⟨k2 + 1, z6, by go_num, by omega, rfl, by omega, h61, HEND6.out z6 h60 HALL3.out, HBR2.out⟩
                · go_wp2_with fail
                  go_roundg qo
                  case measure => omega
                  case rel => exact ⟨k + 1, z4, by go_num, by omega, rfl, ⟨by omega, h41, HEND4.out z4 h40 (fun hh => by omega)⟩, by omega, HBW1.out.trans (HBR.out.mono HBW1.out.size)⟩
              · obtain rfl : k2 = x.ms.length := by omega
                go_wp2_with fail
                go_roundg qo
                case measure => omega
                case rel => exact ⟨k + 1, z4, by go_num, by omega, rfl, ⟨by omega, h41, HEND4.out z4 h40 HALL.out⟩, by omega, HBW1.out.trans (HBR.out.mono HBW1.out.size)⟩
    · by_cases hkn : k < n
      · have hzm : ¬ z ≤ most := fun h => hk ⟨hkn, h⟩
        have hd : decide (z ≤ most) = false := decide_eq_false hzm
        clear hk
        go_wp2_with fail
        go_ret
        exact ⟨⟨false, rfl, fun h => by cases h⟩, HB0.out.trans (HB.out.mono HB0.out.size)⟩
      · obtain rfl : k = n := by omega
        clear hk
        cases hd : decide (z ≤ most) with
        | false =>
          go_wp2_with fail
          go_ret
          exact ⟨⟨false, rfl, fun h => by cases h⟩, HB0.out.trans (HB.out.mono HB0.out.size)⟩
        | true =>
          go_wp2_with fail
          go_ret
          refine ⟨⟨true, rfl, fun _ => ?_⟩, HB0.out.trans (HB.out.mono HB0.out.size)⟩
          have hzm := of_decide_eq_true hd
          have hl := HC.out.1
          refine ⟨by omega, fun x hx => ?_⟩
          obtain ⟨i, hi⟩ := List.mem_iff_getElem?.1 hx
          exact HF.out hzm i x (by have := (List.getElem?_eq_some_iff.1 hi).1; omega) hi
end
end Go.Proofs.YtdmbcgkfecmakaaDoor
