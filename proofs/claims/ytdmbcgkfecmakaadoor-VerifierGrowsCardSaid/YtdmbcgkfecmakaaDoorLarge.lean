/- verifier.large and refmeshref43.small: the limits of a program. -/
import Derived.Test.YtdmbcgkfecmakaaDoorCodeR
import Derived.Deep.LoopGhost
import Derived.Deep.DeepCutAuto
namespace Go.Proofs.YtdmbcgkfecmakaaDoor
set_option linter.unusedVariables false
set_option linter.unusedSimpArgs false
set_option linter.unusedSectionVars false
open Go.RowKit
set_option maxRecDepth 100000

def Mth.large (m : Mth) : Prop := 8 < m.p ∨ 30 < m.l ∨ 4000 < m.code.length ∨ 1024 < m.names.length
def Cls.large (k : Cls) : Prop := 30 < k.fields.length ∨ 30 < k.ms.length ∨ ∃ m ∈ k.ms, m.large
def largeP (cs : List Cls) : Prop := 60 < cs.length ∨ ∃ k ∈ cs, k.large
/-- a truth value that says whether P holds -/
def SaysPost (P : Prop) (w : World) (e : Ending) (w' : World) : Prop := (∃ b : Bool, e = .returned (.bool b) ∧ (b = true ↔ P)) ∧ Below w.heap.size w w'
theorem SaysPost.yes {P : Prop} {w w' : World} (h : P) (hb : Below w.heap.size w w') : SaysPost P w (.returned (.bool true)) w' := ⟨⟨true, rfl, by simp [h]⟩, hb⟩
theorem SaysPost.no {P : Prop} {w w' : World} (h : ¬ P) (hb : Below w.heap.size w w') : SaysPost P w (.returned (.bool false)) w' := ⟨⟨false, rfl, by simp [h]⟩, hb⟩

section
variable {w : World} {A : Option Addr} {n c : Nat} {cs : List Cls}
set_option maxHeartbeats 4000000 in
theorem large_any (hC : CodeR w cs A n c) :
    Calls Tryd.prog 55 #[.agg #[.slice A n c]] w (SaysPost (largeP cs) w) := by
  have HC := Lib.hid (hC.below ((Below.refl _ _).alloc (Nat.le_refl _) (.cells #[.slice A n c] 55)))
  have hn1 := hC.2.2.1
  have hnc := hC.2.1
  have HL := Lib.hid hC.1
  have HB0 : Hid (Below w.heap.size w (w.alloc (.cells #[.slice A n c] 55))) := Lib.hid ((Below.refl _ _).alloc (Nat.le_refl _) _)
  have hs0 : w.heap.size < (w.alloc (.cells #[.slice A n c] 55)).heap.size := by simp
  clear hC
  by_cases h60 : 60 < n
  · go_enter Tryd.func55, Tryd.ntmps55
    go_wp2
    go_ret
    exact SaysPost.yes (.inl (by rw [HL.out]; exact h60)) HB0.out
  have hn60 : ¬ 60 < (n : Int) := by omega
  go_enter Tryd.func55, Tryd.ntmps55
  go_wp2_with fail
  obtain ⟨W, hW⟩ : ∃ W, W = w.alloc (.cells #[.slice A n c] 55) := ⟨_, rfl⟩
  rw [← hW] at HC HB0 hs0 ⊢
  clear hW
  go_loopg [14] (n) (fun q i wr => ∃ (k : Nat), i = .int .i64 k ∧ k + q = n ∧ (∀ i x, i < k → cs[i]? = some x → ¬ x.large) ∧ Below W.heap.size W wr)
  case atStart => exact ⟨0, rfl, by omega, fun i x hi => by omega, Below.refl _ _⟩
  case round =>
    obtain ⟨k, rfl, hkq, hall, hB⟩ := hrel
    have HALL := Lib.hid hall
    have HB := Lib.hid hB
    have hsz := hB.size
    clear hall hB
    cases gk with
    | zero =>
      obtain rfl : k = n := hkq
      go_wp2_with fail
      go_ret
      refine SaysPost.no ?_ (HB0.out.trans (HB.out.mono HB0.out.size))
      rintro (h | ⟨x, hx, hl⟩)
      · rw [HL.out] at h; omega
      · obtain ⟨i, hi⟩ := List.mem_iff_getElem?.1 hx
        exact HALL.out i x (by have := (List.getElem?_eq_some_iff.1 hi).1; rw [HL.out] at this; exact this) hi hl
    | succ q =>
      have hkn : k < n := by omega
      obtain ⟨wo, rfl⟩ : ∃ wo : World, wo = wr := ⟨_, rfl⟩
      obtain ⟨cb, co, x, r, hA, hcb, hx, hrl, ⟨hok, F, fc, M, mc, hr, hfc, hF, hmc, hM⟩, hcells⟩ := HC.out.2.2.2.get hkn
      subst hA
      subst hr
      have hx0 : wo.cell? ⟨cb, co + k * 4, none⟩ = some (.string x.nm) := ((bcell HB.out).1 _ _ hcb).trans (hcells 0 _ rfl)
      have hx1 : wo.cell? ⟨cb, co + k * 4 + 1, none⟩ = some (.bool x.actor) := ((bcell HB.out).1 _ _ hcb).trans (hcells 1 _ rfl)
      have hx2 : wo.cell? ⟨cb, co + k * 4 + 2, none⟩ = some (.slice F x.fields.length fc) := ((bcell HB.out).1 _ _ hcb).trans (hcells 2 _ rfl)
      have hx3 : wo.cell? ⟨cb, co + k * 4 + 3, none⟩ = some (.slice M x.ms.length mc) := ((bcell HB.out).1 _ _ hcb).trans (hcells 3 _ rfl)
      have l2 := hok.lf
      have l3 := hok.lm
      have hkc : k < c := by omega
      have HX := Lib.hid hx
      have HMM := Lib.hid (hM.mths HB.out)
      have HB1 := Lib.hid (HB.out.alloc hsz (.cells #[.string x.nm, .bool x.actor, .slice F x.fields.length fc, .slice M x.ms.length mc] 61))
      have hbr : Below wo.heap.size wo (wo.alloc (.cells #[.string x.nm, .bool x.actor, .slice F x.fields.length fc, .slice M x.ms.length mc] 61)) := (Below.refl _ _).alloc (Nat.le_refl _) _
      have HM1 := Lib.hid (HMM.out.mths hbr)
      clear hx hok hF hM hcells hbr
      by_cases hf : 30 < x.fields.length
      · have hf' : decide (30 < (x.fields.length : Int)) = true := decide_eq_true (by omega)
        go_wp2_with fail
        go_ret
        exact SaysPost.yes (.inr ⟨x, List.mem_of_getElem? HX.out, .inl hf⟩) (HB0.out.trans (HB1.out.mono HB0.out.size))
      have hf' : decide (30 < (x.fields.length : Int)) = false := decide_eq_false (by omega)
      by_cases hm30 : 30 < x.ms.length
      · have hm' : decide (30 < (x.ms.length : Int)) = true := decide_eq_true (by omega)
        go_wp2_with fail
        go_ret
        exact SaysPost.yes (.inr ⟨x, List.mem_of_getElem? HX.out, .inr (.inl hm30)⟩) (HB0.out.trans (HB1.out.mono HB0.out.size))
      have hm' : decide (30 < (x.ms.length : Int)) = false := decide_eq_false (by omega)
      obtain ⟨qo, hqo⟩ : ∃ qo, qo = q := ⟨q, rfl⟩
      subst hqo
      go_wp2_with fail
      obtain ⟨W1, hW1⟩ : ∃ W1, W1 = wo.alloc (.cells #[.string x.nm, .bool x.actor, .slice F x.fields.length fc, .slice M x.ms.length mc] 61) := ⟨_, rfl⟩
      rw [← hW1] at HB1 HM1 ⊢
      clear hW1 hx0 hx1 hx2 hx3 HMM
      go_loopg [31] (x.ms.length) (fun q i wr => ∃ (k2 : Nat), i = .int .i64 k2 ∧ k2 + q = x.ms.length ∧ (∀ i m, i < k2 → x.ms[i]? = some m → ¬ m.large) ∧ Below W1.heap.size W1 wr)
      case atStart => exact ⟨0, rfl, by omega, fun i x hi => by omega, Below.refl _ _⟩
      case round =>
        obtain ⟨k2, rfl, hk2, hall2, hB2⟩ := hrel
        have HALL2 := Lib.hid hall2
        have HB2 := Lib.hid hB2
        have hsz2 := hB2.size
        clear hall2 hB2
        cases gk with
        | zero =>
          obtain rfl : k2 = x.ms.length := hk2
          go_wp2_with fail
          go_roundg qo
          case measure => omega
          case rel =>
            refine ⟨k + 1, by go_num, by omega, fun i x' hi hx' => ?_, HB1.out.trans (HB2.out.mono HB1.out.size)⟩
            by_cases hik : i < k
            · exact HALL.out i x' hik hx'
            · obtain rfl : i = k := by omega
              have hx2 := HX.out
              rw [hx'] at hx2
              cases hx2
              rintro (h | h | ⟨m, hm, hl⟩)
              · omega
              · omega
              · obtain ⟨j, hj⟩ := List.mem_iff_getElem?.1 hm
                exact HALL2.out j m (List.getElem?_eq_some_iff.1 hj).1 hj hl
        | succ q =>
          have hk2l : k2 < x.ms.length := by omega
          obtain ⟨mb, mo, m, r, hMA, hmb, hm, hrl, ⟨hok, cA, cc, nB, nc, hr, hcc, _, hnc', hnS⟩, hcells⟩ := HM1.out.get hk2l
          subst hMA
          subst hr
          have y0 : wr.cell? ⟨mb, mo + k2 * 5, none⟩ = some (.string m.nm) := ((bcell HB2.out).1 _ _ hmb).trans (hcells 0 _ rfl)
          have y1 : wr.cell? ⟨mb, mo + k2 * 5 + 1, none⟩ = some (.int .i64 m.p) := ((bcell HB2.out).1 _ _ hmb).trans (hcells 1 _ rfl)
          have y2 : wr.cell? ⟨mb, mo + k2 * 5 + 2, none⟩ = some (.int .i64 m.l) := ((bcell HB2.out).1 _ _ hmb).trans (hcells 2 _ rfl)
          have y3 : wr.cell? ⟨mb, mo + k2 * 5 + 3, none⟩ = some (.slice cA m.code.length cc) := ((bcell HB2.out).1 _ _ hmb).trans (hcells 3 _ rfl)
          have y4 : wr.cell? ⟨mb, mo + k2 * 5 + 4, none⟩ = some (.slice nB m.names.length nc) := ((bcell HB2.out).1 _ _ hmb).trans (hcells 4 _ rfl)
          have l5 := hok.lc
          have l6 := hok.ln
          have hkm : k2 < mc := by omega
          have HMM := Lib.hid hm
          have HB3 := Lib.hid (HB2.out.alloc hsz2 (.cells #[.string m.nm, .int .i64 m.p, .int .i64 m.l, .slice cA m.code.length cc, .slice nB m.names.length nc] 25))
          clear hok hm hnS hcells
          have HYES : Hid (m.large → ∀ b, SaysPost (largeP cs) w (.returned (.bool b)) (wr.alloc (.cells #[.string m.nm, .int .i64 m.p, .int .i64 m.l, .slice cA m.code.length cc, .slice nB m.names.length nc] 25)) ∨ b ≠ true) := Lib.hid fun hl b => by
            cases b with
            | false => exact .inr (by simp)
            | true => exact .inl (SaysPost.yes (.inr ⟨x, List.mem_of_getElem? HX.out, .inr (.inr ⟨m, List.mem_of_getElem? HMM.out, hl⟩)⟩) (HB0.out.trans ((HB1.out.trans (HB3.out.mono HB1.out.size)).mono HB0.out.size)))
          by_cases h1 : 8 < m.p
          · have d1 : decide (8 < m.p) = true := by simpa using h1
            go_wp2_with fail
            go_ret
            exact (HYES.out (.inl h1) true).resolve_right (by simp)
          have d1 : decide (8 < m.p) = false := by simpa using h1
          by_cases h2 : 30 < m.l
          · have d2 : decide (30 < m.l) = true := by simpa using h2
            go_wp2_with fail
            go_ret
            exact (HYES.out (.inr (.inl h2)) true).resolve_right (by simp)
          have d2 : decide (30 < m.l) = false := by simpa using h2
          by_cases h3 : 4000 < m.code.length
          · have d3 : decide (4000 < (m.code.length : Int)) = true := decide_eq_true (by omega)
            go_wp2_with fail
            go_ret
            exact (HYES.out (.inr (.inr (.inl h3))) true).resolve_right (by simp)
          have d3 : decide (4000 < (m.code.length : Int)) = false := decide_eq_false (by omega)
          by_cases h4 : 1024 < m.names.length
          · have d4 : decide (1024 < (m.names.length : Int)) = true := decide_eq_true (by omega)
            go_wp2_with fail
            go_ret
            exact (HYES.out (.inr (.inr (.inr h4))) true).resolve_right (by simp)
          have d4 : decide (1024 < (m.names.length : Int)) = false := decide_eq_false (by omega)
          go_wp2_with fail
          go_roundg q
          case measure => omega
          case rel =>
            refine ⟨k2 + 1, by go_num, by omega, fun i m' hi hm' => ?_, HB3.out⟩
            by_cases hik : i < k2
            · exact HALL2.out i m' hik hm'
            · obtain rfl : i = k2 := by omega
              have hm2 := HMM.out
              rw [hm'] at hm2
              cases hm2
              rintro (h | h | h | h) <;> omega
set_option maxHeartbeats 4000000 in
theorem small_any (hC : CodeR w cs A n c) :
    Calls Tryd.prog 59 #[.agg #[.slice A n c]] w (SaysPost (¬ largeP cs) w) := by
  have HC := Lib.hid (hC.below ((Below.refl _ _).alloc (Nat.le_refl _) (.cells #[.slice A n c] 55)))
  have hn1 := hC.2.2.1
  have hnc := hC.2.1
  have HL := Lib.hid hC.1
  have HB0 : Hid (Below w.heap.size w (w.alloc (.cells #[.slice A n c] 55))) := Lib.hid ((Below.refl _ _).alloc (Nat.le_refl _) _)
  have hs0 : w.heap.size < (w.alloc (.cells #[.slice A n c] 55)).heap.size := by simp
  clear hC
  have hbk : Bk (w.alloc (.cells #[.slice A n c] 55)) w.heap.size 55 #[.slice A n c] := Bk.new _ _ _
  have HBK := Lib.hid hbk
  clear hbk
  go_enter Tryd.func59, Tryd.ntmps59
  go_wp2_with fail
  obtain ⟨W, hW⟩ : ∃ W, W = w.alloc (.cells #[.slice A n c] 55) := ⟨_, rfl⟩
  rw [← hW] at HC HB0 hs0 HBK ⊢
  clear hW
  go_loopg [3] (n) (fun q i wr => ∃ (k : Nat), i = .int .i64 k ∧ k + q = n ∧ (∀ i x, i < k → cs[i]? = some x → ¬ x.large) ∧ Below W.heap.size W wr)
  case atStart => exact ⟨0, rfl, by omega, fun i x hi => by omega, Below.refl _ _⟩
  case round =>
    obtain ⟨k, rfl, hkq, hall, hB⟩ := hrel
    have HALL := Lib.hid hall
    have b0 : wr.cell? ⟨w.heap.size, 0, none⟩ = some (.slice A n c) := (HBK.out.below hB hs0).cell 0
    have HB := Lib.hid hB
    have hsz := hB.size
    clear hall hB
    cases gk with
    | zero =>
      obtain rfl : k = n := hkq
      have hnot : ¬ ∃ x ∈ cs, x.large := by
        rintro ⟨x, hx, hl⟩
        obtain ⟨i, hi⟩ := List.mem_iff_getElem?.1 hx
        exact HALL.out i x (by have := (List.getElem?_eq_some_iff.1 hi).1; rw [HL.out] at this; exact this) hi hl
      have HNOT := Lib.hid hnot
      clear hnot
      by_cases h60 : k ≤ 60
      · have hd : decide ((k : Int) ≤ 60) = true := decide_eq_true (by omega)
        go_wp2_with fail
        go_ret
        refine SaysPost.yes ?_ (HB0.out.trans (HB.out.mono HB0.out.size))
        rintro (h | h)
        · rw [HL.out] at h; omega
        · exact HNOT.out h
      · have hd : decide ((k : Int) ≤ 60) = false := decide_eq_false (by omega)
        go_wp2_with fail
        go_ret
        exact SaysPost.no (fun h => h (.inl (by rw [HL.out]; omega))) (HB0.out.trans (HB.out.mono HB0.out.size))
    | succ q =>
      have hkn : k < n := by omega
      obtain ⟨wo, rfl⟩ : ∃ wo : World, wo = wr := ⟨_, rfl⟩
      obtain ⟨cb, co, x, r, hA, hcb, hx, hrl, ⟨hok, F, fc, M, mc, hr, hfc, hF, hmc, hM⟩, hcells⟩ := HC.out.2.2.2.get hkn
      subst hA
      subst hr
      have hx0 : wo.cell? ⟨cb, co + k * 4, none⟩ = some (.string x.nm) := ((bcell HB.out).1 _ _ hcb).trans (hcells 0 _ rfl)
      have hx1 : wo.cell? ⟨cb, co + k * 4 + 1, none⟩ = some (.bool x.actor) := ((bcell HB.out).1 _ _ hcb).trans (hcells 1 _ rfl)
      have hx2 : wo.cell? ⟨cb, co + k * 4 + 2, none⟩ = some (.slice F x.fields.length fc) := ((bcell HB.out).1 _ _ hcb).trans (hcells 2 _ rfl)
      have hx3 : wo.cell? ⟨cb, co + k * 4 + 3, none⟩ = some (.slice M x.ms.length mc) := ((bcell HB.out).1 _ _ hcb).trans (hcells 3 _ rfl)
      have l2 := hok.lf
      have l3 := hok.lm
      have hkc : k < c := by omega
      have HX := Lib.hid hx
      have HMM := Lib.hid (hM.mths HB.out)
      have HB1 := Lib.hid (HB.out.alloc hsz (.cells #[.string x.nm, .bool x.actor, .slice F x.fields.length fc, .slice M x.ms.length mc] 61))
      have hbr : Below wo.heap.size wo (wo.alloc (.cells #[.string x.nm, .bool x.actor, .slice F x.fields.length fc, .slice M x.ms.length mc] 61)) := (Below.refl _ _).alloc (Nat.le_refl _) _
      have HM1 := Lib.hid (HMM.out.mths hbr)
      clear hx hok hF hM hcells hbr
      by_cases hf : 30 < x.fields.length
      · have hf' : decide (30 < (x.fields.length : Int)) = true := decide_eq_true (by omega)
        go_wp2_with fail
        go_ret
        exact SaysPost.no (fun h => h (.inr ⟨x, List.mem_of_getElem? HX.out, .inl hf⟩)) (HB0.out.trans (HB1.out.mono HB0.out.size))
      have hf' : decide (30 < (x.fields.length : Int)) = false := decide_eq_false (by omega)
      by_cases hm30 : 30 < x.ms.length
      · have hm' : decide (30 < (x.ms.length : Int)) = true := decide_eq_true (by omega)
        go_wp2_with fail
        go_ret
        exact SaysPost.no (fun h => h (.inr ⟨x, List.mem_of_getElem? HX.out, .inr (.inl hm30)⟩)) (HB0.out.trans (HB1.out.mono HB0.out.size))
      have hm' : decide (30 < (x.ms.length : Int)) = false := decide_eq_false (by omega)
      obtain ⟨qo, hqo⟩ : ∃ qo, qo = q := ⟨q, rfl⟩
      subst hqo
      go_wp2_with fail
      obtain ⟨W1, hW1⟩ : ∃ W1, W1 = wo.alloc (.cells #[.string x.nm, .bool x.actor, .slice F x.fields.length fc, .slice M x.ms.length mc] 61) := ⟨_, rfl⟩
      have hbk1 : Bk W1 wo.heap.size 61 #[.string x.nm, .bool x.actor, .slice F x.fields.length fc, .slice M x.ms.length mc] := by rw [hW1]; exact Bk.new _ _ _
      have HBK1 := Lib.hid hbk1
      rw [← hW1] at HB1 HM1 ⊢
      clear hW1 hx0 hx1 hx2 hx3 HMM hbk1 b0
      go_loopg [5] (x.ms.length) (fun q i wr => ∃ (k2 : Nat), i = .int .i64 k2 ∧ k2 + q = x.ms.length ∧ (∀ i m, i < k2 → x.ms[i]? = some m → ¬ m.large) ∧ Below W1.heap.size W1 wr)
      case atStart => exact ⟨0, rfl, by omega, fun i x hi => by omega, Below.refl _ _⟩
      case round =>
        obtain ⟨k2, rfl, hk2, hall2, hB2⟩ := hrel
        have HALL2 := Lib.hid hall2
        have HB2 := Lib.hid hB2
        have hsz2 := hB2.size
        have b3 : wr.cell? ⟨wo.heap.size, 3, none⟩ = some (.slice M x.ms.length mc) := (HBK1.out.below hB2 HBK1.out.lt).cell 3
        clear hall2 hB2
        cases gk with
        | zero =>
          obtain rfl : k2 = x.ms.length := hk2
          go_wp2_with fail
          go_roundg qo
          case measure => omega
          case rel =>
            refine ⟨k + 1, by go_num, by omega, fun i x' hi hx' => ?_, HB1.out.trans (HB2.out.mono HB1.out.size)⟩
            by_cases hik : i < k
            · exact HALL.out i x' hik hx'
            · obtain rfl : i = k := by omega
              have hx2 := HX.out
              rw [hx'] at hx2
              cases hx2
              rintro (h | h | ⟨m, hm, hl⟩)
              · omega
              · omega
              · obtain ⟨j, hj⟩ := List.mem_iff_getElem?.1 hm
                exact HALL2.out j m (List.getElem?_eq_some_iff.1 hj).1 hj hl
        | succ q =>
          have hk2l : k2 < x.ms.length := by omega
          obtain ⟨mb, mo, m, r, hMA, hmb, hm, hrl, ⟨hok, cA, cc, nB, nc, hr, hcc, _, hnc', hnS⟩, hcells⟩ := HM1.out.get hk2l
          subst hMA
          subst hr
          have y0 : wr.cell? ⟨mb, mo + k2 * 5, none⟩ = some (.string m.nm) := ((bcell HB2.out).1 _ _ hmb).trans (hcells 0 _ rfl)
          have y1 : wr.cell? ⟨mb, mo + k2 * 5 + 1, none⟩ = some (.int .i64 m.p) := ((bcell HB2.out).1 _ _ hmb).trans (hcells 1 _ rfl)
          have y2 : wr.cell? ⟨mb, mo + k2 * 5 + 2, none⟩ = some (.int .i64 m.l) := ((bcell HB2.out).1 _ _ hmb).trans (hcells 2 _ rfl)
          have y3 : wr.cell? ⟨mb, mo + k2 * 5 + 3, none⟩ = some (.slice cA m.code.length cc) := ((bcell HB2.out).1 _ _ hmb).trans (hcells 3 _ rfl)
          have y4 : wr.cell? ⟨mb, mo + k2 * 5 + 4, none⟩ = some (.slice nB m.names.length nc) := ((bcell HB2.out).1 _ _ hmb).trans (hcells 4 _ rfl)
          have l5 := hok.lc
          have l6 := hok.ln
          have hkm : k2 < mc := by omega
          have HMM := Lib.hid hm
          have HB3 := Lib.hid (HB2.out.alloc hsz2 (.cells #[.string m.nm, .int .i64 m.p, .int .i64 m.l, .slice cA m.code.length cc, .slice nB m.names.length nc] 25))
          clear hok hm hnS hcells
          have HYES : Hid (m.large → SaysPost (¬ largeP cs) w (.returned (.bool false)) (wr.alloc (.cells #[.string m.nm, .int .i64 m.p, .int .i64 m.l, .slice cA m.code.length cc, .slice nB m.names.length nc] 25))) := Lib.hid fun hl =>
            SaysPost.no (fun h => h (.inr ⟨x, List.mem_of_getElem? HX.out, .inr (.inr ⟨m, List.mem_of_getElem? HMM.out, hl⟩)⟩)) (HB0.out.trans ((HB1.out.trans (HB3.out.mono HB1.out.size)).mono HB0.out.size))
          by_cases h1 : 8 < m.p
          · have d1 : decide (8 < m.p) = true := by simpa using h1
            go_wp2_with fail
            go_ret
            exact HYES.out (.inl h1)
          have d1 : decide (8 < m.p) = false := by simpa using h1
          by_cases h2 : 30 < m.l
          · have d2 : decide (30 < m.l) = true := by simpa using h2
            go_wp2_with fail
            go_ret
            exact HYES.out (.inr (.inl h2))
          have d2 : decide (30 < m.l) = false := by simpa using h2
          by_cases h3 : 4000 < m.code.length
          · have d3 : decide (4000 < (m.code.length : Int)) = true := decide_eq_true (by omega)
            go_wp2_with fail
            go_ret
            exact HYES.out (.inr (.inr (.inl h3)))
          have d3 : decide (4000 < (m.code.length : Int)) = false := decide_eq_false (by omega)
          by_cases h4 : 1024 < m.names.length
          · have d4 : decide (1024 < (m.names.length : Int)) = true := decide_eq_true (by omega)
            go_wp2_with fail
            go_ret
            exact HYES.out (.inr (.inr (.inr h4)))
          have d4 : decide (1024 < (m.names.length : Int)) = false := decide_eq_false (by omega)
          go_wp2_with fail
          go_roundg q
          case measure => omega
          case rel =>
            refine ⟨k2 + 1, by go_num, by omega, fun i m' hi hm' => ?_, HB3.out⟩
            by_cases hik : i < k2
            · exact HALL2.out i m' hik hm'
            · obtain rfl : i = k2 := by omega
              have hm2 := HMM.out
              rw [hm'] at hm2
              cases hm2
              rintro (h | h | h | h) <;> omega
end
end Go.Proofs.YtdmbcgkfecmakaaDoor
