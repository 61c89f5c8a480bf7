/- verifier.exists: the conditions on operands. -/
import Derived.Test.YtdmbcgkfecmakaaDoorCodeR
import Derived.Test.YtdmbcgkfecmakaaDoorShelf
import Derived.Test.YtdmbcgkfecmakaaDoorVReaches
import Derived.Deep.LoopGhost
import Derived.Test.YtdmbcgkfecmakaaDoorEffect
import Derived.Lib.QuietBelow
namespace Go.Proofs.YtdmbcgkfecmakaaDoor
set_option linter.unusedVariables false
set_option linter.unusedSimpArgs false
set_option linter.unusedSectionVars false
open Go.RowKit Go.Sort
set_option maxRecDepth 100000

def nfOf (cs : List Cls) (i : Nat) : Nat := match cs[i]? with | some k => k.fields.length | none => 0
def opsL : Nat → List Int
  | 0 => [3, 4]
  | 1 => [6, 8, 21, 24]
  | 2 => [10, 11]
  | _ => [7, 9]
def fineB (cs : List Cls) (nf : Nat) (l : Int) (nn : Nat) (x : Ins) : Nat → Bool
  | 0 => decide (x.2.1 < l)
  | 1 => decide (x.2.1 < nn)
  | 2 => decide (x.2.1 ≤ cs.length) && decide (x.2.2 ≤ nfOf cs (x.2.1 - 1).toNat)
  | _ => decide (x.2.1 < nf)
def condB (cs : List Cls) (nf : Nat) (l : Int) (nn : Nat) (x : Ins) (k : Nat) : Bool := !((opsL k).contains x.1) || fineB cs nf l nn x k
def existsB (cs : List Cls) (nf : Nat) (l : Int) (nn : Nat) (x : Ins) : Bool := iV x && (condB cs nf l nn x 0 && condB cs nf l nn x 1 && condB cs nf l nn x 2 && condB cs nf l nn x 3)
def fid : Nat → Nat
  | 0 => 94
  | 1 => 95
  | 2 => 96
  | _ => 97
def gsel (g0 g1 g2 g3 : Nat) : Nat → Nat
  | 0 => g0
  | 1 => g1
  | 2 => g2
  | _ => g3

section
variable {w : World} {cv k0 k1 k2 k3 m0 m1 m2 m3 m4 : Value} {o a b l : Int} {B F A : Option Addr} {nn d nf fc n c : Nat} {cs : List Cls}
theorem fine1 : Calls Tryd.prog 94 #[.agg #[cv], .agg #[k0, k1, k2, k3], .agg #[m0, m1, .int .i64 l, m3, m4], .agg #[.int .i64 o, .int .i64 a, .int .i64 b]] w fun e w' => e = .returned (.bool (decide (a < l))) ∧ Below w.heap.size w w' := by
  go_enter Tryd.func94, Tryd.ntmps94
  go_wp2
  go_ret
  exact ⟨rfl, ((((Below.refl _ _).alloc (Nat.le_refl _) _).alloc (by simp) _).alloc (by simp; omega) _).alloc (by simp; omega) _⟩
theorem fine2 : Calls Tryd.prog 95 #[.agg #[cv], .agg #[k0, k1, k2, k3], .agg #[m0, m1, m2, m3, .slice B nn d], .agg #[.int .i64 o, .int .i64 a, .int .i64 b]] w fun e w' => e = .returned (.bool (decide (a < nn))) ∧ Below w.heap.size w w' := by
  go_enter Tryd.func95, Tryd.ntmps95
  go_wp2
  go_ret
  exact ⟨rfl, ((((Below.refl _ _).alloc (Nat.le_refl _) _).alloc (by simp) _).alloc (by simp; omega) _).alloc (by simp; omega) _⟩
theorem fine4 : Calls Tryd.prog 97 #[.agg #[cv], .agg #[k0, k1, .slice F nf fc, k3], .agg #[m0, m1, m2, m3, m4], .agg #[.int .i64 o, .int .i64 a, .int .i64 b]] w fun e w' => e = .returned (.bool (decide (a < nf))) ∧ Below w.heap.size w w' := by
  go_enter Tryd.func97, Tryd.ntmps97
  go_wp2
  go_ret
  exact ⟨rfl, ((((Below.refl _ _).alloc (Nat.le_refl _) _).alloc (by simp) _).alloc (by simp; omega) _).alloc (by simp; omega) _⟩
set_option maxHeartbeats 1000000 in
theorem fine3 (hC : CodeR w cs A n c) (a1 : 1 ≤ a) (a2 : a ≤ 1000000) : Calls Tryd.prog 96 #[.agg #[.slice A n c], .agg #[k0, k1, k2, k3], .agg #[m0, m1, m2, m3, m4], .agg #[.int .i64 o, .int .i64 a, .int .i64 b]] w fun e w' => e = .returned (.bool (decide (a ≤ cs.length) && decide (b ≤ nfOf cs (a - 1).toNat))) ∧ Below w.heap.size w w' := by
  have hl := hC.1
  have hnc := hC.2.1
  have hBB : Below w.heap.size w ((((w.alloc (.cells #[.slice A n c] 55)).alloc (.cells #[k0, k1, k2, k3] 61)).alloc (.cells #[m0, m1, m2, m3, m4] 25)).alloc (.cells #[.int .i64 o, .int .i64 a, .int .i64 b] 39)) := ((((Below.refl _ _).alloc (Nat.le_refl _) _).alloc (by simp) _).alloc (by simp; omega) _).alloc (by simp; omega) _
  have HB := Lib.hid hBB
  clear hBB
  by_cases han : a ≤ n
  · obtain ⟨i, rfl⟩ : ∃ i : Nat, a = (i : Int) + 1 := ⟨(a - 1).toNat, by omega⟩
    have hin : i < n := by omega
    obtain ⟨cb, co, x, r, rfl, hcb, hx, hrl, ⟨hok, F, fc, M, mc, rfl, _⟩, hcells⟩ := hC.2.2.2.get hin
    have c2 : w.cell? ⟨cb, co + i * 4 + 2, none⟩ = some (.slice F x.fields.length fc) := hcells 2 _ rfl
    have hnf : nfOf cs i = x.fields.length := by simp [nfOf, hx]
    have hz : nfOf cs (((i : Int) + 1) - 1).toNat = x.fields.length := by rw [← hnf]; congr 1; omega
    have hd1 : decide (((i : Int) + 1) ≤ (cs.length : Int)) = true := decide_eq_true (by omega)
    have hf : (decide (((i : Int) + 1) ≤ (cs.length : Int)) && decide (b ≤ nfOf cs (((i : Int) + 1) - 1).toNat)) = decide (b ≤ (x.fields.length : Int)) := by rw [hd1, hz]; simp
    have HF := Lib.hid hf
    have hw1 : IntKind.i64.wrap (i : Int) = (i : Int) := IntWalk.i64_in _ (by omega)
    have hle : ((i : Int) + 1 ≤ (n : Int)) := by omega
    have hic : i < c := by omega
    have hne : cb ≠ w.heap.size := by omega
    have hne1 : cb ≠ w.heap.size + 1 := by omega
    have hne2 : cb ≠ w.heap.size + 1 + 1 := by omega
    have hne3 : cb ≠ w.heap.size + 1 + 1 + 1 := by omega
    have c3 := ((bcell HB.out).1 cb (co + i * 4 + 2) hcb).trans c2
    have c4 := Lib.hid c2
    clear hC hcells hx hok hnf hz hd1 hf hl han a1 a2
    go_enter Tryd.func96, Tryd.ntmps96
    go_wp2
    go_quiet (fail)
    go_wp2
    go_ret
    exact ⟨by rw [HF.out]; rfl, below_drewN HB.out _⟩
  · have hd1 : decide (a ≤ (cs.length : Int)) = false := decide_eq_false (by omega)
    have hf : (decide (a ≤ (cs.length : Int)) && decide (b ≤ nfOf cs (a - 1).toNat)) = false := by rw [hd1]; rfl
    have HF := Lib.hid hf
    have hd2 : decide (a ≤ (n : Int)) = false := decide_eq_false han
    clear hC hl hd1 hf han
    go_enter Tryd.func96, Tryd.ntmps96
    go_wp2
    go_quiet (fail)
    go_wp2
    go_ret
    exact ⟨by rw [HF.out]; rfl, below_drewN HB.out _⟩

/-- the table of the conditions -/
structure OpTab (w : World) (g g0 g1 g2 g3 : Nat) : Prop where
  t : Bk w g 118 #[.slice (some ⟨g0, 0, none⟩) 2 2, .func (.func 94) #[] #[], .slice (some ⟨g1, 0, none⟩) 4 4, .func (.func 95) #[] #[], .slice (some ⟨g2, 0, none⟩) 2 2, .func (.func 96) #[] #[], .slice (some ⟨g3, 0, none⟩) 2 2, .func (.func 97) #[] #[]]
  t0 : Bk w g0 3 #[.int .i64 3, .int .i64 4]
  t1 : Bk w g1 3 #[.int .i64 6, .int .i64 8, .int .i64 21, .int .i64 24]
  t2 : Bk w g2 3 #[.int .i64 10, .int .i64 11]
  t3 : Bk w g3 3 #[.int .i64 7, .int .i64 9]
theorem OpTab.below {w w' : World} {g g0 g1 g2 g3 : Nat} (h : OpTab w g g0 g1 g2 g3) (hb : Below w.heap.size w w') : OpTab w' g g0 g1 g2 g3 :=
  ⟨h.t.below hb h.t.lt, h.t0.below hb h.t0.lt, h.t1.below hb h.t1.lt, h.t2.below hb h.t2.lt, h.t3.below hb h.t3.lt⟩
def OpsPost (w : World) (e : Ending) (w' : World) : Prop := ∃ g g0 g1 g2 g3, e = .returned (.slice (some ⟨g, 0, none⟩) 4 4) ∧ OpTab w' g g0 g1 g2 g3 ∧ Below w.heap.size w w'
theorem operands_any (w : World) : Calls Tryd.prog 87 #[] w (OpsPost w) := by
  have h1 : ∀ (w : World) (k : Nat) (t : TypeId) (cs : Array Value), k = w.heap.size → Bk (w.alloc (.cells cs t)) k t cs := fun w k t cs h => by subst h; exact Bk.new w t cs
  have H1 := Lib.hid h1
  clear h1
  go_enter Tryd.func87, Tryd.ntmps87
  go_wp2
  go_ret
  refine ⟨_, _, _, _, _, rfl, ⟨H1.out _ _ _ _ (by simp), ((((H1.out _ _ _ _ rfl).alloc _).alloc _).alloc _).alloc _, (((H1.out _ _ _ _ (by simp)).alloc _).alloc _).alloc _, ((H1.out _ _ _ _ (by simp)).alloc _).alloc _, (H1.out _ _ _ _ (by simp)).alloc _⟩, ((((((Below.refl _ _).alloc (Nat.le_refl _) _).alloc (by simp) _).alloc (by simp; omega) _).alloc (by simp; omega) _).alloc (by simp; omega) _)⟩

theorem fineK (hC : CodeR w cs A n c) (hab : o = 10 ∨ o = 11 → 1 ≤ a ∧ a ≤ 1000000) {k : Nat} (hk : (opsL k).contains o = true) : Calls Tryd.prog (fid k) #[.agg #[.slice A n c], .agg #[k0, k1, .slice F nf fc, k3], .agg #[m0, m1, .int .i64 l, m3, .slice B nn d], .agg #[.int .i64 o, .int .i64 a, .int .i64 b]] w fun e w' => e = .returned (.bool (fineB cs nf l nn (o, a, b) k)) ∧ Below w.heap.size w w' := by
  rcases k with _ | _ | _ | k
  · exact fine1
  · exact fine2
  · have h : o = 10 ∨ o = 11 := by simpa [opsL] using hk
    exact fine3 hC (hab h).1 (hab h).2
  · exact fine4
theorem OpTab.slice {w : World} {g g0 g1 g2 g3 : Nat} (h : OpTab w g g0 g1 g2 g3) {k : Nat} (hk : k < 4) : w.cell? ⟨g, k * 2, none⟩ = some (.slice (some ⟨gsel g0 g1 g2 g3 k, 0, none⟩) (opsL k).length (opsL k).length) := by
  rcases (show k = 0 ∨ k = 1 ∨ k = 2 ∨ k = 3 by omega) with rfl | rfl | rfl | rfl
  · exact h.t.cell 0
  · exact h.t.cell 2
  · exact h.t.cell 4
  · exact h.t.cell 6
theorem OpTab.fn {w : World} {g g0 g1 g2 g3 : Nat} (h : OpTab w g g0 g1 g2 g3) {k : Nat} (hk : k < 4) : w.cell? ⟨g, k * 2 + 1, none⟩ = some (.func (.func (fid k)) #[] #[]) := by
  rcases (show k = 0 ∨ k = 1 ∨ k = 2 ∨ k = 3 by omega) with rfl | rfl | rfl | rfl
  · exact h.t.cell 1
  · exact h.t.cell 3
  · exact h.t.cell 5
  · exact h.t.cell 7
theorem OpTab.ops {w : World} {g g0 g1 g2 g3 : Nat} (h : OpTab w g g0 g1 g2 g3) {k : Nat} (hk : k < 4) : ∀ j, j < (opsL k).length → w.cell? ⟨gsel g0 g1 g2 g3 k, 0 + j, none⟩ = some (.int .i64 ((opsL k).getD j 0)) := by
  intro j hj
  rcases (show k = 0 ∨ k = 1 ∨ k = 2 ∨ k = 3 by omega) with rfl | rfl | rfl | rfl
  · have hj : j < 2 := hj
    rcases (show j = 0 ∨ j = 1 by omega) with rfl | rfl
    · exact h.t0.cell 0
    · exact h.t0.cell 1
  · have hj : j < 4 := hj
    rcases (show j = 0 ∨ j = 1 ∨ j = 2 ∨ j = 3 by omega) with rfl | rfl | rfl | rfl
    · exact h.t1.cell 0
    · exact h.t1.cell 1
    · exact h.t1.cell 2
    · exact h.t1.cell 3
  · have hj : j < 2 := hj
    rcases (show j = 0 ∨ j = 1 by omega) with rfl | rfl
    · exact h.t2.cell 0
    · exact h.t2.cell 1
  · have hj : j < 2 := hj
    rcases (show j = 0 ∨ j = 1 by omega) with rfl | rfl
    · exact h.t3.cell 0
    · exact h.t3.cell 1
theorem has_any {w : World} {g g0 g1 g2 g3 : Nat} (h : OpTab w g g0 g1 g2 g3) {k : Nat} (hk : k < 4) (o : Int) :
    Calls Tryd.prog 88 #[.slice (some ⟨gsel g0 g1 g2 g3 k, 0, none⟩) (opsL k).length (opsL k).length, .int .i64 o] w fun e w' => e = .returned (.bool ((opsL k).contains o)) ∧ w' = w := by
  have hl : (opsL k).length ≤ 4 := by
    rcases (show k = 0 ∨ k = 1 ∨ k = 2 ∨ k = 3 by omega) with rfl | rfl | rfl | rfl <;> decide
  refine (Tryd.slices_Contains_int _ 0 _ _ (opsL k) o _ (Nat.le_refl _) (by omega) (h.ops hk)).mono ?_
  rintro e w' ⟨rfl, rfl⟩
  exact ⟨by rw [List.take_length], rfl⟩

theorem enter_fid {k : Nat} (hk : k < 4) (args : Array Value) (w : World) : (callFunc (fid k) args).run Tryd.prog w = .ok (.enter (fid k) args) w := by
  rcases (show k = 0 ∨ k = 1 ∨ k = 2 ∨ k = 3 by omega) with rfl | rfl | rfl | rfl <;> simp only [fid]
  · go_simp
  · go_simp
  · go_simp
  · go_simp

set_option maxHeartbeats 4000000 in
theorem exists_any (hC : CodeR w cs A n c) (hab : validB o a b = true → o = 10 ∨ o = 11 → 1 ≤ a ∧ a ≤ 1000000) : Calls Tryd.prog 57 #[.agg #[.slice A n c], .agg #[k0, k1, .slice F nf fc, k3], .agg #[m0, m1, .int .i64 l, m3, .slice B nn d], .agg #[.int .i64 o, .int .i64 a, .int .i64 b]] w fun e w' => e = .returned (.bool (existsB cs nf l nn (o, a, b))) ∧ Below w.heap.size w w' := by
  have HC := Lib.hid hC
  have HAB := Lib.hid hab
  obtain ⟨cv, hcv⟩ : ∃ cv, cv = Value.slice A n c := ⟨_, rfl⟩
  have HCV := Lib.hid hcv
  rw [← hcv]
  clear hC hab hcv
  have hB0 : Below w.heap.size w ((((w.alloc (.cells #[cv] 55)).alloc (.cells #[k0, k1, .slice F nf fc, k3] 61)).alloc (.cells #[m0, m1, .int .i64 l, m3, .slice B nn d] 25)).alloc (.cells #[.int .i64 o, .int .i64 a, .int .i64 b] 39)) := ((((Below.refl _ _).alloc (Nat.le_refl _) _).alloc (by simp) _).alloc (by simp; omega) _).alloc (by simp; omega) _
  have HB0 := Lib.hid hB0
  clear hB0
  go_enter Tryd.func57, Tryd.ntmps57
  have cV := fun w => Valid_any o a b w
  cases hv : validB o a b with
  | false =>
    simp only [hv] at cV
    have HE : Hid (existsB cs nf l nn (o, a, b) = false) := Lib.hid (by simp [existsB, iV, hv])
    clear hv
    go_wp2_with fail
    refine (cV _).mono ?_
    rintro e w1 ⟨rfl, hb1⟩
    go_wp2_with fail
    go_ret
    exact ⟨by rw [HE.out]; rfl, HB0.out.trans (hb1.mono HB0.out.size)⟩
  | true =>
    simp only [hv] at cV
    have HV := Lib.hid hv
    clear hv
    go_wp2_with fail
    refine (cV _).mono ?_
    rintro e w1 ⟨rfl, hb1⟩
    go_wp2_with fail
    refine (operands_any _).mono ?_
    rintro e w2 ⟨g, g0, g1, g2, g3, rfl, ht, hb2⟩
    have hb01 := HB0.out.trans (hb1.mono HB0.out.size)
    have HB2 := Lib.hid (hb01.trans (hb2.mono hb01.size))
    have hb12 := hb1.trans (hb2.mono hb1.size)
    have hs3 : w.heap.size + 1 + 1 + 1 < ((((w.alloc (.cells #[cv] 55)).alloc (.cells #[k0, k1, .slice F nf fc, k3] 61)).alloc (.cells #[m0, m1, .int .i64 l, m3, .slice B nn d] 25)).alloc (.cells #[.int .i64 o, .int .i64 a, .int .i64 b] 39)).heap.size := by simp
    have q4 := (((((Bk.new w 55 #[cv]).alloc (.cells #[k0, k1, .slice F nf fc, k3] 61)).alloc (.cells #[m0, m1, .int .i64 l, m3, .slice B nn d] 25)).alloc (.cells #[.int .i64 o, .int .i64 a, .int .i64 b] 39)).below hb12 (by omega))
    have q5 := ((((Bk.newAt (w := w.alloc (.cells #[cv] 55)) (g := w.heap.size + 1) 61 #[k0, k1, .slice F nf fc, k3] (by simp)).alloc (.cells #[m0, m1, .int .i64 l, m3, .slice B nn d] 25)).alloc (.cells #[.int .i64 o, .int .i64 a, .int .i64 b] 39)).below hb12 (by simp))
    have q6 := (((Bk.newAt (w := (w.alloc (.cells #[cv] 55)).alloc (.cells #[k0, k1, .slice F nf fc, k3] 61)) (g := w.heap.size + 1 + 1) 25 #[m0, m1, .int .i64 l, m3, .slice B nn d] (by simp)).alloc (.cells #[.int .i64 o, .int .i64 a, .int .i64 b] 39)).below hb12 (by simp))
    have q7 := ((Bk.newAt (w := ((w.alloc (.cells #[cv] 55)).alloc (.cells #[k0, k1, .slice F nf fc, k3] 61)).alloc (.cells #[m0, m1, .int .i64 l, m3, .slice B nn d] 25)) (g := w.heap.size + 1 + 1 + 1) 39 #[.int .i64 o, .int .i64 a, .int .i64 b] (by simp)).below hb12 (by simp))
    have Q4 := Lib.hid q4
    have Q5 := Lib.hid q5
    have Q6 := Lib.hid q6
    have Q7 := Lib.hid q7
    have HT := Lib.hid ht
    clear q4 q5 q6 q7 ht hb12 hb01 hb1 hb2 hs3 cV
    go_wp2_with fail
    go_loopg [16] (4) (fun q i wr => ∃ (k : Nat), i = .int .i64 k ∧ k + q = 4 ∧ (∀ j, j < k → condB cs nf l nn (o, a, b) j = true) ∧ Below w2.heap.size w2 wr)
    case atStart => exact ⟨0, rfl, by omega, fun i hi => by omega, Below.refl _ _⟩
    case round =>
      obtain ⟨k, rfl, hkq, hall, hB⟩ := hrel
      have HALL := Lib.hid hall
      have HB := Lib.hid hB
      have hsz := hB.size
      clear hall hB
      cases gk with
      | zero =>
        obtain rfl : k = 4 := hkq
        have HE : Hid (existsB cs nf l nn (o, a, b) = true) := Lib.hid (by
          have h0 := HALL.out 0 (by omega)
          have h1 := HALL.out 1 (by omega)
          have h2 := HALL.out 2 (by omega)
          have h3 := HALL.out 3 (by omega)
          have h4 := HV.out
          unfold existsB
          rw [h0, h1, h2, h3]
          simpa [iV] using h4)
        go_wp2_with fail
        go_ret
        exact ⟨by rw [HE.out]; rfl, HB2.out.trans (HB.out.mono HB2.out.size)⟩
      | succ q =>
        have hk4 : k < 4 := by omega
        obtain ⟨wo, rfl⟩ : ∃ wo : World, wo = wr := ⟨_, rfl⟩
        have t := HT.out.below HB.out
        have t0 := t.slice hk4
        have t1 := t.fn hk4
        have HTT := Lib.hid t
        have HQ4 := Lib.hid (Q4.out.below HB.out Q4.out.lt)
        have HQ5 := Lib.hid (Q5.out.below HB.out Q5.out.lt)
        have HQ6 := Lib.hid (Q6.out.below HB.out Q6.out.lt)
        have HQ7 := Lib.hid (Q7.out.below HB.out Q7.out.lt)
        clear t
        have hst : ∀ (w : World) (a : Addr) (m : Mode), (store a (.func (.func (fid k)) #[] #[]) m).run Tryd.prog w = stored Tryd.prog w a (.func (.func (fid k)) #[] #[]) m := fun w a m => run_store _ w a _ m rfl
        have hk4' : (k : Int) < 4 := by omega
        have hcf := fun args w => enter_fid hk4 args w
        go_upto_region 6 with fail
        have hB3 : Below wo.heap.size wo (wo.alloc (.cells #[.slice (some ⟨gsel g0 g1 g2 g3 k, 0, none⟩) (opsL k).length (opsL k).length, .func (.func (fid k)) #[] #[]] 118)) := (Below.refl _ _).alloc (Nat.le_refl _) _
        have q := Bk.new wo 118 #[.slice (some ⟨gsel g0 g1 g2 g3 k, 0, none⟩) (opsL k).length (opsL k).length, .func (.func (fid k)) #[] #[]]
        obtain ⟨wb, hwb⟩ : ∃ W, W = wo.alloc (.cells #[.slice (some ⟨gsel g0 g1 g2 g3 k, 0, none⟩) (opsL k).length (opsL k).length, .func (.func (fid k)) #[] #[]] 118) := ⟨_, rfl⟩
        rw [← hwb] at hB3 q ⊢
        clear hwb
        have q0 := q.cell 0
        have q1 := q.cell 1
        have j4 := (HQ4.out.below hB3 HQ4.out.lt).cell 0
        have j50 := (HQ5.out.below hB3 HQ5.out.lt).cell 0
        have j51 := (HQ5.out.below hB3 HQ5.out.lt).cell 1
        have j52 := (HQ5.out.below hB3 HQ5.out.lt).cell 2
        have j53 := (HQ5.out.below hB3 HQ5.out.lt).cell 3
        have j60 := (HQ6.out.below hB3 HQ6.out.lt).cell 0
        have j61 := (HQ6.out.below hB3 HQ6.out.lt).cell 1
        have j62 := (HQ6.out.below hB3 HQ6.out.lt).cell 2
        have j63 := (HQ6.out.below hB3 HQ6.out.lt).cell 3
        have j64 := (HQ6.out.below hB3 HQ6.out.lt).cell 4
        have j70 := (HQ7.out.below hB3 HQ7.out.lt).cell 0
        have j71 := (HQ7.out.below hB3 HQ7.out.lt).cell 1
        have j72 := (HQ7.out.below hB3 HQ7.out.lt).cell 2
        simp only [List.getElem?_toArray, List.getElem?_cons_zero, List.getElem?_cons_succ] at q0 q1 j4 j50 j51 j52 j53 j60 j61 j62 j63 j64 j70 j71 j72
        have cT := has_any (HTT.out.below hB3) hk4 o
        have HB4 := Lib.hid (HB.out.trans (hB3.mono hsz))
        have HWB := Lib.hid (HC.out.below (HB2.out.trans (HB4.out.mono HB2.out.size)))
        cases hcon : (opsL k).contains o with
        | false =>
          simp only [hcon] at cT
          have HN : Hid (∀ j, j < k + 1 → condB cs nf l nn (o, a, b) j = true) := Lib.hid fun j hj => by
            by_cases h : j < k
            · exact HALL.out j h
            · obtain rfl : j = k := by omega
              unfold condB
              rw [hcon]; rfl
          clear hcon t0 t1 hB3 q
          go_wp2_with fail
          refine cT.mono ?_
          rintro e w3 ⟨rfl, hw3⟩
          obtain rfl := hw3
          have HB5 := HB4
          clear cT q0 q1 j4 j50 j51 j52 j53 j60 j61 j62 j63 j64 j70 j71 j72
          go_wp2_with fail
          go_roundg q
          case measure => omega
          case rel => exact ⟨k + 1, by go_num, by omega, HN.out, HB5.out⟩
        | true =>
          simp only [hcon] at cT
          have cF := fineK (w := wb) (k0 := k0) (k1 := k1) (k3 := k3) (m0 := m0) (m1 := m1) (m3 := m3) (F := F) (fc := fc) (B := B) (d := d) (l := l) (nf := nf) (nn := nn) (b := b) HWB.out (HAB.out HV.out) hcon
          rw [← HCV.out] at cF
          cases hfn : fineB cs nf l nn (o, a, b) k with
          | false =>
            simp only [hfn] at cF
            have HE : Hid (existsB cs nf l nn (o, a, b) = false) := Lib.hid (by
              have h : condB cs nf l nn (o, a, b) k = false := by unfold condB; rw [hcon, hfn]; rfl
              unfold existsB
              rcases (show k = 0 ∨ k = 1 ∨ k = 2 ∨ k = 3 by omega) with rfl | rfl | rfl | rfl <;> rw [h] <;> simp)
            clear hcon hfn t0 t1 hB3 q
            go_wp2_with fail
            refine cT.mono ?_
            rintro e w3 ⟨rfl, hw3⟩
            obtain rfl := hw3
            go_wp2_with fail
            refine cF.mono ?_
            rintro e w4 ⟨rfl, hb4⟩
            have HB5 := Lib.hid (HB4.out.trans (hb4.mono HB4.out.size))
            clear hb4 cT cF q0 q1 j4 j50 j51 j52 j53 j60 j61 j62 j63 j64 j70 j71 j72
            go_wp2_with fail
            go_ret
            exact ⟨by rw [HE.out]; rfl, HB2.out.trans (HB5.out.mono HB2.out.size)⟩
          | true =>
            simp only [hfn] at cF
            have HN : Hid (∀ j, j < k + 1 → condB cs nf l nn (o, a, b) j = true) := Lib.hid fun j hj => by
              by_cases h : j < k
              · exact HALL.out j h
              · obtain rfl : j = k := by omega
                unfold condB
                rw [hcon, hfn]; rfl
            clear hcon hfn t0 t1 hB3 q
            go_wp2_with fail
            refine cT.mono ?_
            rintro e w3 ⟨rfl, hw3⟩
            obtain rfl := hw3
            go_wp2_with fail
            refine cF.mono ?_
            rintro e w4 ⟨rfl, hb4⟩
            have HB5 := Lib.hid (HB4.out.trans (hb4.mono HB4.out.size))
            clear hb4 cT cF q0 q1 j4 j50 j51 j52 j53 j60 j61 j62 j63 j64 j70 j71 j72
            go_wp2_with fail
            go_roundg q
            case measure => omega
            case rel => exact ⟨k + 1, by go_num, by omega, HN.out, HB5.out⟩
end
end Go.Proofs.YtdmbcgkfecmakaaDoor
