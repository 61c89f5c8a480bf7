/- Law 11: MarkingMonotone. (printed by gen/mon.py) -/
import Derived.Test.YtjpaogapclfajaaMonoP
import Derived.Test.YtjpaogapclfajaaAwk2
import Derived.Deep.DeepCutAuto
import Derived.StillTailTactics
namespace Go.Proofs.Ytjpaogapclfajaa
set_option linter.unusedVariables false
set_option linter.unusedSimpArgs false
set_option linter.unusedSectionVars false
open Go.RowKit Go.Sort
attribute [local go_sem] Oper.semAt_some onlyN_normal
set_option maxRecDepth 100000
section
variable {w : World} {l : List Op1} {Al : Option Addr} {cl : Nat} {ch mo : List Int} {A1c A2c : Option Addr} {c1 c2 : Nat}
theorem mono_big (h : 40 < l.length ∨ (l.length ≤ 40 ∧ 8 < ch.length) ∨ (l.length ≤ 40 ∧ ch.length ≤ 8 ∧ 8 < mo.length)) (hb : l.length ≤ 140737488351232) (hb1 : ch.length ≤ 140737488351232) (hb2 : mo.length ≤ 140737488351232) : Calls Try.prog 3 #[.slice Al l.length cl, .slice A1c ch.length c1, .slice A2c mo.length c2] w fun e w' => e = .returned (.bool true) ∧ Below w.heap.size w w' := by
  have cA := awake1_any (w := w)
  have d1 : (40 < l.length ∧ decide ((40 : Int) < (l.length : Int)) = true) ∨ (decide ((40 : Int) < (l.length : Int)) = false ∧ 8 < ch.length ∧ decide ((8 : Int) < (ch.length : Int)) = true) ∨ (decide ((40 : Int) < (l.length : Int)) = false ∧ decide ((8 : Int) < (ch.length : Int)) = false ∧ decide ((8 : Int) < (mo.length : Int)) = true) := by
    rcases h with h | ⟨h1, h2⟩ | ⟨h1, h2, h3⟩
    · exact .inl ⟨h, decide_eq_true (by omega)⟩
    · exact .inr (.inl ⟨decide_eq_false (by omega), h2, decide_eq_true (by omega)⟩)
    · exact .inr (.inr ⟨decide_eq_false (by omega), decide_eq_false (by omega), decide_eq_true (by omega)⟩)
  clear h
  go_enter Try.func3, Try.ntmps3
  go_wp2_with fail
  refine cA.mono ?_
  rintro e w1 ⟨rfl, hb1⟩
  have HB1 := Lib.hid hb1
  clear hb1
  rcases d1 with ⟨d0, d1⟩ | ⟨d1, d0, d2⟩ | ⟨d1, d2, d3⟩
  all_goals
    go_wp2_with fail
    go_ret
    exact ⟨rfl, HB1.out⟩
def MnT15 (H bm g1 : Nat) (m : Mm) (ra rb : List Int) (Aa : Option Addr) (ca : Nat) (Ab : Option Addr) (cb : Nat) (o : Option (List Int × List Int)) (k : Nat) : Value → World → Prop :=
  ([fun v _ => v = .pointer (some ⟨bm, 0, none⟩), fun v _ => v = .pointer (some ⟨g1, 0, none⟩), RowT H 44 0 [], fun v _ => v = .slice Ab rb.length cb, RowT H 44 (0 + rb.length) ([] ++ wds rb), fun v _ => v = .slice Aa ra.length ca, RowT H 44 ((0 + rb.length) + ra.length) (([] ++ wds rb) ++ wds ra), fun v _ => v = .slice Ab rb.length cb, RowT H 44 (((0 + rb.length) + ra.length) + rb.length) ((([] ++ wds rb) ++ wds ra) ++ wds rb), TpT m o, TpT m o, PtT m o, fun v _ => v = .int .i64 (erM o), PtT m o, fun v _ => v = .int .i64 (erM o)] : List (Value → World → Prop)).getD k (fun _ _ => True)
def MnT15x (k : Nat) : Nat := ([0, 1, 4, 3, 6, 5, 8, 7, 8, 9, 10, 11, 12, 13, 14] : List Nat).getD k k
theorem MnT15.below {H bm g1 : Nat} {m : Mm} {ra rb : List Int} {Aa : Option Addr} {ca : Nat} {Ab : Option Addr} {cb : Nat} {o : Option (List Int × List Int)} : ∀ k, k < 15 → ∀ v w w', MnT15 H bm g1 m ra rb Aa ca Ab cb o k v w → Below w.heap.size w w' → MnT15 H bm g1 m ra rb Aa ca Ab cb o k v w' := by
  intro k hk v w w' h hb
  rcases (show k = 0 ∨ k = 1 ∨ k = 2 ∨ k = 3 ∨ k = 4 ∨ k = 5 ∨ k = 6 ∨ k = 7 ∨ k = 8 ∨ k = 9 ∨ k = 10 ∨ k = 11 ∨ k = 12 ∨ k = 13 ∨ k = 14 by omega) with rfl | rfl | rfl | rfl | rfl | rfl | rfl | rfl | rfl | rfl | rfl | rfl | rfl | rfl | rfl 
  · exact h
  · exact h
  · exact RowT.below h hb
  · exact h
  · exact RowT.below h hb
  · exact h
  · exact RowT.below h hb
  · exact h
  · exact RowT.below h hb
  · exact TpT.below h hb
  · exact TpT.below h hb
  · exact PtT.below h hb
  · exact h
  · exact PtT.below h hb
  · exact h
def MnT13 (H bm g1 : Nat) (m : Mm) (ra rb : List Int) (Aa : Option Addr) (ca : Nat) (Ab : Option Addr) (cb : Nat) (o : Option (List Int × List Int)) (k : Nat) : Value → World → Prop :=
  ([fun v _ => v = .pointer (some ⟨bm, 0, none⟩), fun v _ => v = .pointer (some ⟨g1, 0, none⟩), RowT H 44 0 [], fun v _ => v = .slice Aa ra.length ca, RowT H 44 (0 + ra.length) ([] ++ wds ra), fun v _ => v = .slice Ab rb.length cb, RowT H 44 ((0 + ra.length) + rb.length) (([] ++ wds ra) ++ wds rb), TpT m o, TpT m o, PtT m o, fun v _ => v = .int .i64 (erM o), PtT m o, fun v _ => v = .int .i64 (erM o)] : List (Value → World → Prop)).getD k (fun _ _ => True)
def MnT13x (k : Nat) : Nat := ([0, 1, 4, 3, 6, 5, 6, 7, 8, 9, 10, 11, 12] : List Nat).getD k k
theorem MnT13.below {H bm g1 : Nat} {m : Mm} {ra rb : List Int} {Aa : Option Addr} {ca : Nat} {Ab : Option Addr} {cb : Nat} {o : Option (List Int × List Int)} : ∀ k, k < 13 → ∀ v w w', MnT13 H bm g1 m ra rb Aa ca Ab cb o k v w → Below w.heap.size w w' → MnT13 H bm g1 m ra rb Aa ca Ab cb o k v w' := by
  intro k hk v w w' h hb
  rcases (show k = 0 ∨ k = 1 ∨ k = 2 ∨ k = 3 ∨ k = 4 ∨ k = 5 ∨ k = 6 ∨ k = 7 ∨ k = 8 ∨ k = 9 ∨ k = 10 ∨ k = 11 ∨ k = 12 by omega) with rfl | rfl | rfl | rfl | rfl | rfl | rfl | rfl | rfl | rfl | rfl | rfl | rfl 
  · exact h
  · exact h
  · exact RowT.below h hb
  · exact h
  · exact RowT.below h hb
  · exact h
  · exact RowT.below h hb
  · exact TpT.below h hb
  · exact TpT.below h hb
  · exact PtT.below h hb
  · exact h
  · exact PtT.below h hb
  · exact h
set_option maxHeartbeats 8000000 in
theorem mono_main (hl : Op1s w Al l) (hcl : l.length ≤ cl) (h1 : IS w ch A1c c1) (h2 : IS w mo A2c c2) (hr1 : ∀ x ∈ ch, -9223372036854775808 ≤ x ∧ x ≤ 9223372036854775807) (hr2 : ∀ x ∈ mo, -9223372036854775808 ≤ x ∧ x ≤ 9223372036854775807) (hn : l.length ≤ 40) (hn1 : ch.length ≤ 8) (hn2 : mo.length ≤ 8) : Calls Try.prog 3 #[.slice Al l.length cl, .slice A1c ch.length c1, .slice A2c mo.length c2] w fun e w' => e = .returned (.bool true) ∧ Below w.heap.size w w' := by
  have cA := awake1_any (w := w)
  have d1 : decide ((40 : Int) < (l.length : Int)) = false := decide_eq_false (by omega)
  have d2 : decide ((8 : Int) < (ch.length : Int)) = false := decide_eq_false (by omega)
  have d3 : decide ((8 : Int) < (mo.length : Int)) = false := decide_eq_false (by omega)
  have cB := fun {w1 : World} (hb : Below w.heap.size w w1) => Build_any (hl.below hb rfl) (by omega) hcl
  have H1 := Lib.hid h1
  have H2 := Lib.hid h2
  have HR1 := Lib.hid hr1
  have HR2 := Lib.hid hr2
  clear h1 h2 hl hcl hr1 hr2
  go_enter Try.func3, Try.ntmps3
  go_wp2_with fail
  refine cA.mono ?_
  rintro e w1 ⟨rfl, hb1⟩
  have cB1 := cB hb1
  have HB1 := Lib.hid hb1
  clear hb1 cA cB
  go_wp2_with fail
  refine cB1.mono ?_
  rintro e w2 ⟨g1, g2, V1, V2, A1, e1, A2, e2, Aq, cq, rfl, hmr, hrm, his, hap, hb2, nq, hnq, hqb⟩
  clear cB1 d1 d2 d3 hrm hap
  obtain ⟨q, hq⟩ : ∃ q, q = bld1 l := ⟨_, rfl⟩
  rw [← hq] at hmr his hqb ⊢
  have HMR := Lib.hid hmr
  have HIS := Lib.hid his
  have HB2 := Lib.hid (HB1.out.trans (hb2.mono HB1.out.size))
  have HQ := Lib.hid hqb
  have hql : q.2.length ≤ 1000 := Nat.le_trans hqb.len hnq
  clear hmr his hb2 HB1 hq hqb hnq
  go_upto_region 8 with fail

  have hal : Below w2.heap.size w2 ((w2.alloc (.cells #[.pointer (some ⟨g1, 0, none⟩), .pointer (some ⟨g2, 0, none⟩)] 27)).alloc (.cells #[.int .i64 q.1.old.base, .int .i64 q.1.old.limit, .slice A1 q.1.old.ws.length e1, .int .i64 q.1.yng.base, .int .i64 q.1.yng.limit, .slice A2 q.1.yng.ws.length e2] 32)) := ((Below.refl _ _).alloc (Nat.le_refl _) _).alloc (by simp) _
  have HBM3 : Hid (Bk ((w2.alloc (.cells #[.pointer (some ⟨g1, 0, none⟩), .pointer (some ⟨g2, 0, none⟩)] 27)).alloc (.cells #[.int .i64 q.1.old.base, .int .i64 q.1.old.limit, .slice A1 q.1.old.ws.length e1, .int .i64 q.1.yng.base, .int .i64 q.1.yng.limit, .slice A2 q.1.yng.ws.length e2] 32)) w2.heap.size 27 #[.pointer (some ⟨g1, 0, none⟩), .pointer (some ⟨g2, 0, none⟩)]) := Lib.hid ((Bk.new _ _ _).alloc _)
  have HM3 := Lib.hid (HMR.out.below hal)
  have HI3 := Lib.hid (HIS.out.below hal)
  have HB3 := Lib.hid (HB2.out.trans (hal.mono HB2.out.size))
  clear hal HMR HIS HB2
  generalize (w2.alloc (.cells #[.pointer (some ⟨g1, 0, none⟩), .pointer (some ⟨g2, 0, none⟩)] 27)).alloc (.cells #[.int .i64 q.1.old.base, .int .i64 q.1.old.limit, .slice A1 q.1.old.ws.length e1, .int .i64 q.1.yng.base, .int .i64 q.1.yng.limit, .slice A2 q.1.yng.ws.length e2] 32) = w3 at *
  generalize w2.heap.size = bm at *
  obtain ⟨ra, hra⟩ : ∃ ra, ra = rts1 q.2 ch := ⟨_, rfl⟩
  obtain ⟨rb, hrb⟩ : ∃ rb, rb = rts1 q.2 mo := ⟨_, rfl⟩
  have hla : ra.length ≤ 8 := by rw [hra]; simp [rts1]; omega
  have hlb : rb.length ≤ 8 := by rw [hrb]; simp [rts1]; omega
  have HUa : Hid (∀ x ∈ ra, U64 x) := Lib.hid (by rw [hra]; exact rts1_u _ _)
  have HUb : Hid (∀ x ∈ rb, U64 x) := Lib.hid (by rw [hrb]; exact rts1_u _ _)
  have cR1 := Roots_any HI3.out (by omega) (H1.out.below HB3.out) (by omega) HR1.out
  have cR2 := fun {w5 : World} (hb : Below w3.heap.size w3 w5) => Roots_any (HI3.out.below hb) (by omega) (H2.out.below (HB3.out.trans (hb.mono HB3.out.size))) (by omega) HR2.out
  rw [← hra] at cR1
  simp only [← hrb] at cR2
  clear hra hrb H1 H2 HR1 HR2
  go_wp2_with fail
  refine cR1.mono ?_
  rintro e w4 ⟨va, rfl, hoa, hb4⟩
  clear cR1
  obtain ⟨Aa, ca, rfl, hca⟩ := own_shape hoa
  have cR3 := cR2 hb4
  clear cR2
  have HRa4 := Lib.hid hoa
  have HBB4 := Lib.hid hb4
  clear hoa hb4
  go_wp2_with fail
  refine cR3.mono ?_
  rintro e w5 ⟨vb, rfl, hob, hb5⟩
  clear cR3
  obtain ⟨Ab, cb, rfl, hcb⟩ := own_shape hob
  have HRa : Hid (RowT w3.heap.size 44 ra.length (wds ra) (.slice Aa ra.length ca) w5) := Lib.hid (RowT.below HRa4.out hb5)
  have HRb : Hid (RowT w4.heap.size 44 rb.length (wds rb) (.slice Ab rb.length cb) w5) := Lib.hid hob
  have hb35 : Below w3.heap.size w3 w5 := HBB4.out.trans (hb5.mono HBB4.out.size)
  have HM5 := Lib.hid (HM3.out.below hb35)
  have HI5 := Lib.hid (HI3.out.below hb35)
  have HB5 := Lib.hid (HB3.out.trans (hb35.mono HB3.out.size))
  have HBM5 := Lib.hid (HBM3.out.below hb35 HBM3.out.lt)
  clear hob hb5 hb35 HRa4 HBB4 HM3 HI3 HB3 HBM3
  obtain ⟨oa, hoa⟩ : ∃ oa, oa = (Mm.one q.1.old).marks ra := ⟨_, rfl⟩
  obtain ⟨ob, hob⟩ : ∃ ob, ob = (Mm.one q.1.old).marks (rb ++ ra ++ rb) := ⟨_, rfl⟩
  obtain ⟨oc, hoc⟩ : ∃ oc, oc = (Mm.one q.1.old).marks (ra ++ rb) := ⟨_, rfl⟩
  have HOoa := Lib.hid hoa.symm
  have HOob := Lib.hid hob.symm
  have HOoc := Lib.hid hoc.symm
  clear hoa hob hoc
  obtain ⟨i0, hi, hz0, hz1, hz2⟩ := info_parts Try.infoU
  have HU := Lib.hid (And.intro hi (And.intro hz0 (And.intro hz1 hz2)))
  clear hi hz0 hz1 hz2
  have hok := HM5.out.ok
  have cMk := fun {w8 : World} (hb : Below w5.heap.size w5 w8) {Ar : Option Addr} {cr : Nat} {l : List Int} (hs : Sl w8 1 Ar l.length (wds l)) (hll : l.length ≤ 1000) (hcr : l.length ≤ cr) (hu : ∀ x ∈ l, U64 x) (hA : ∀ b o, Ar = some ⟨b, o, none⟩ → b < w8.heap.size) => Mark_all (HM5.out.below hb).o hok.ob hok.ol (Nat.le_trans (by have := HM5.out.o.ge; have := HM5.out.o.hd.lt; omega) hb.size) hs hcr (by omega) hu hA (by have h1 := hok.o.lim; have h2 := hok.ol; have h3 := hok.ob; omega)
  clear hok
  have cM := cMk (Below.refl _ _) (own_sl HRa.out) (by omega) hca HUa.out (fun b o e => (HRa.out.lt b (by rw [e]; rfl)).2)
  rw [HOoa.out] at cM
  clear cMk
  have c0 : w5.cell? ⟨bm, 0, none⟩ = some (.pointer (some ⟨g1, 0, none⟩)) := HBM5.out.cell 0
  go_wp2_with fail
  clear c0
  refine cM.mono ?_
  rintro e w6 h6
  obtain ⟨hb6, v, rfl, pa, rfl, hpa⟩ := TpT.of h6
  clear cM h6
  have HRa5 := HRa
  have HRb5 := HRb
  clear HRa HRb
  have HRa6 : Hid (RowT w3.heap.size 44 ra.length (wds ra) (.slice Aa ra.length ca) w6) := Lib.hid (RowT.below HRa5.out hb6)
  have HRb6 : Hid (RowT w4.heap.size 44 rb.length (wds rb) (.slice Ab rb.length cb) w6) := Lib.hid (RowT.below HRb5.out hb6)
  clear HRa5 HRb5
  have HM6 := Lib.hid (HM5.out.below hb6)
  have HI6 := Lib.hid (HI5.out.below hb6)
  have HB6 := Lib.hid (HB5.out.trans (hb6.mono HB5.out.size))
  have HBM6 := Lib.hid (HBM5.out.below hb6 HBM5.out.lt)
  clear HM5 HI5 HB5 HBM5 hb6
  have HPa6 := Lib.hid hpa
  clear hpa
  go_upto_region 10 with fail
  have hok := HM6.out.ok
  have cMk := fun {w8 : World} (hb : Below w6.heap.size w6 w8) {Ar : Option Addr} {cr : Nat} {l : List Int} (hs : Sl w8 1 Ar l.length (wds l)) (hll : l.length ≤ 1000) (hcr : l.length ≤ cr) (hu : ∀ x ∈ l, U64 x) (hA : ∀ b o, Ar = some ⟨b, o, none⟩ → b < w8.heap.size) => Mark_all (HM6.out.below hb).o hok.ob hok.ol (Nat.le_trans (by have := HM6.out.o.ge; have := HM6.out.o.hd.lt; omega) hb.size) hs hcr (by omega) hu hA (by have h1 := hok.o.lim; have h2 := hok.ol; have h3 := hok.ob; omega)
  clear hok
  have hT := @MnT15.below w6.heap.size bm g1 (Mm.one q.1.old) ra rb Aa ca Ab cb ob
  refine wp_region_invC 15 (fun i => ([[], [0], [], [], [2, 3], [], [4, 5], [], [6, 7], [1, 8], [9], [10], [10], [11], [12]] : List (List Nat)).getD i []) (RgI w6 w6.heap.size 15 (MnT15 w6.heap.size bm g1 (Mm.one q.1.old) ra rb Aa ca Ab cb ob) MnT15x) (by kernel_rfl) (by kernel_rfl) (by rfl) (fun vs => RgI.start) ?_ ?_
  · intro i hi o ho L vs w5 hls hun hwt hcl hI
    have hB : w6.heap.size ≤ w5.heap.size := hI.b.size
    rcases (show i = 0 ∨ i = 1 ∨ i = 2 ∨ i = 3 ∨ i = 4 ∨ i = 5 ∨ i = 6 ∨ i = 7 ∨ i = 8 ∨ i = 9 ∨ i = 10 ∨ i = 11 ∨ i = 12 ∨ i = 13 ∨ i = 14 by omega) with rfl | rfl | rfl | rfl | rfl | rfl | rfl | rfl | rfl | rfl | rfl | rfl | rfl | rfl | rfl  <;> cases ho
    · change Made _ _ (Sem.run _ (execOp (Act.eval (frm _ _ _ [])) _) _)
      simp only [frm]
      have HI := Lib.hid hI
      clear hI hwt hun hcl
      go_simp
      refine made_ok ?_
      refine RgI.same (i := 0) HI.out (by rw [hls]; decide) ?_
      exact rfl
    · have h0 : vs 0 = .pointer (some ⟨bm, 0, none⟩) := hI.f 0 (by decide) (hwt 0 (by kernel_rfl)) (fun e => absurd rfl e)
      change Made _ _ (Sem.run _ (execOp (Act.eval (Act.put (frm _ _ _ []) (some 59) (vs 0))) _) _)
      simp only [frm, h0]
      have hbk := HBM6.out.below hI.b HBM6.out.lt
      have c0 : w5.cell? ⟨bm, 0, none⟩ = some (.pointer (some ⟨g1, 0, none⟩)) := hbk.cell 0
      clear hbk
      have HI := Lib.hid hI
      clear hI hwt hun hcl
      go_simp
      refine made_ok ?_
      refine RgI.same (i := 1) HI.out (by rw [hls]; decide) ?_
      exact rfl
    · change Made _ _ (Sem.run _ (execOp (Act.eval (frm _ _ _ [])) _) _)
      simp only [frm]
      have HI := Lib.hid hI
      clear hI hwt hun hcl
      go_simp
      refine made_ok ?_
      refine RgI.go (i := 2) HI.out (by rw [hls]; decide) hT ((Below.refl _ _).alloc (Nat.le_refl _) _) ?_ hB
      exact ownEmpty 1 (Bk.new _ _ _) hB
    · change Made _ _ (Sem.run _ (execOp (Act.eval (frm _ _ _ [])) _) _)
      simp only [frm]
      have HI := Lib.hid hI
      clear hI hwt hun hcl
      go_simp
      refine made_ok ?_
      refine RgI.same (i := 3) HI.out (by rw [hls]; decide) ?_
      exact rfl
    · have hrow : RowT w6.heap.size 44 0 [] (vs 2) w5 := hI.f 2 (by decide) (hwt 2 (by kernel_rfl)) (fun _ => hun)
      have hv : vs 3 = .slice Ab rb.length cb := hI.f 3 (by decide) (hwt 3 (by kernel_rfl)) (fun e => absurd rfl e)
      change Made _ _ (Sem.run _ (execOp (Act.eval (Act.put (Act.put (frm _ _ _ []) (some 62) (vs 3)) (some 61) (vs 2))) _) _)
      simp only [frm, hv]
      have hsl := own_sl (RowT.below HRb6.out hI.b)
      refine made_append (.tmp 61) (.tmp 62) 28 rfl Try.underlying28 HU.out.1 HU.out.2.1 HU.out.2.2.1 HU.out.2.2.2 rfl (by decide) (v := vs 2) (n := 0) (xs := []) rfl hrow (A := Ab) (m := rb.length) (c := cb) (news := wds rb) rfl hsl (wds_one _) (by unfold maxLen; omega) (by omega) hB fun v' w' ho hgr h4 => ?_
      refine RgI.put (i := 4) hI (by rw [hls]; decide) (hI.b.grown hgr hB (fun k hk => (hrow.lt k hk).1)) ?_ ?_
      rotate_left
      · exact ho
      intro k hkN hki hk hn h
      have n6 : L.getD 6 false = false := hcl.nd hun (by kernel_rfl)
      have n8 : L.getD 8 false = false := hcl.nd n6 (by kernel_rfl)
      have n9 : L.getD 9 false = false := hcl.nd n8 (by kernel_rfl)
      have n10 : L.getD 10 false = false := hcl.nd n9 (by kernel_rfl)
      have n11 : L.getD 11 false = false := hcl.nd n10 (by kernel_rfl)
      have n12 : L.getD 12 false = false := hcl.nd n10 (by kernel_rfl)
      have n13 : L.getD 13 false = false := hcl.nd n11 (by kernel_rfl)
      have n14 : L.getD 14 false = false := hcl.nd n12 (by kernel_rfl)
      rcases (show k = 0 ∨ k = 1 ∨ k = 2 ∨ k = 3 ∨ k = 4 ∨ k = 5 ∨ k = 6 ∨ k = 7 ∨ k = 8 ∨ k = 9 ∨ k = 10 ∨ k = 11 ∨ k = 12 ∨ k = 13 ∨ k = 14 by omega) with rfl | rfl | rfl | rfl | rfl | rfl | rfl | rfl | rfl | rfl | rfl | rfl | rfl | rfl | rfl 
      · exact h
      · exact h
      · exact absurd rfl (hn (by decide)).1
      · exact h
      · exact absurd rfl hki
      · exact h
      · exact absurd (n6.symm.trans hk) (by decide)
      · exact h
      · exact absurd (n8.symm.trans hk) (by decide)
      · exact absurd (n9.symm.trans hk) (by decide)
      · exact absurd (n10.symm.trans hk) (by decide)
      · exact absurd (n11.symm.trans hk) (by decide)
      · exact absurd (n12.symm.trans hk) (by decide)
      · exact absurd (n13.symm.trans hk) (by decide)
      · exact absurd (n14.symm.trans hk) (by decide)
    · change Made _ _ (Sem.run _ (execOp (Act.eval (frm _ _ _ [])) _) _)
      simp only [frm]
      have HI := Lib.hid hI
      clear hI hwt hun hcl
      go_simp
      refine made_ok ?_
      refine RgI.same (i := 5) HI.out (by rw [hls]; decide) ?_
      exact rfl
    · have hrow : RowT w6.heap.size 44 (0 + rb.length) ([] ++ wds rb) (vs 4) w5 := hI.f 4 (by decide) (hwt 4 (by kernel_rfl)) (fun _ => hun)
      have hv : vs 5 = .slice Aa ra.length ca := hI.f 5 (by decide) (hwt 5 (by kernel_rfl)) (fun e => absurd rfl e)
      change Made _ _ (Sem.run _ (execOp (Act.eval (Act.put (Act.put (frm _ _ _ []) (some 64) (vs 5)) (some 63) (vs 4))) _) _)
      simp only [frm, hv]
      have hsl := own_sl (RowT.below HRa6.out hI.b)
      refine made_append (.tmp 63) (.tmp 64) 28 rfl Try.underlying28 HU.out.1 HU.out.2.1 HU.out.2.2.1 HU.out.2.2.2 rfl (by decide) (v := vs 4) (n := (0 + rb.length)) (xs := ([] ++ wds rb)) rfl hrow (A := Aa) (m := ra.length) (c := ca) (news := wds ra) rfl hsl (wds_one _) (by unfold maxLen; omega) (by omega) hB fun v' w' ho hgr h4 => ?_
      refine RgI.put (i := 6) hI (by rw [hls]; decide) (hI.b.grown hgr hB (fun k hk => (hrow.lt k hk).1)) ?_ ?_
      rotate_left
      · exact ho
      intro k hkN hki hk hn h
      have n8 : L.getD 8 false = false := hcl.nd hun (by kernel_rfl)
      have n9 : L.getD 9 false = false := hcl.nd n8 (by kernel_rfl)
      have n10 : L.getD 10 false = false := hcl.nd n9 (by kernel_rfl)
      have n11 : L.getD 11 false = false := hcl.nd n10 (by kernel_rfl)
      have n12 : L.getD 12 false = false := hcl.nd n10 (by kernel_rfl)
      have n13 : L.getD 13 false = false := hcl.nd n11 (by kernel_rfl)
      have n14 : L.getD 14 false = false := hcl.nd n12 (by kernel_rfl)
      have d4 : L.getD 4 false = true := hwt 4 (by kernel_rfl)
      rcases (show k = 0 ∨ k = 1 ∨ k = 2 ∨ k = 3 ∨ k = 4 ∨ k = 5 ∨ k = 6 ∨ k = 7 ∨ k = 8 ∨ k = 9 ∨ k = 10 ∨ k = 11 ∨ k = 12 ∨ k = 13 ∨ k = 14 by omega) with rfl | rfl | rfl | rfl | rfl | rfl | rfl | rfl | rfl | rfl | rfl | rfl | rfl | rfl | rfl 
      · exact h
      · exact h
      · have h5 := (hn (by decide)).2; exact absurd (d4.symm.trans h5) (by decide)
      · exact h
      · exact absurd rfl (hn (by decide)).1
      · exact h
      · exact absurd rfl hki
      · exact h
      · exact absurd (n8.symm.trans hk) (by decide)
      · exact absurd (n9.symm.trans hk) (by decide)
      · exact absurd (n10.symm.trans hk) (by decide)
      · exact absurd (n11.symm.trans hk) (by decide)
      · exact absurd (n12.symm.trans hk) (by decide)
      · exact absurd (n13.symm.trans hk) (by decide)
      · exact absurd (n14.symm.trans hk) (by decide)
    · change Made _ _ (Sem.run _ (execOp (Act.eval (frm _ _ _ [])) _) _)
      simp only [frm]
      have HI := Lib.hid hI
      clear hI hwt hun hcl
      go_simp
      refine made_ok ?_
      refine RgI.same (i := 7) HI.out (by rw [hls]; decide) ?_
      exact rfl
    · have hrow : RowT w6.heap.size 44 ((0 + rb.length) + ra.length) (([] ++ wds rb) ++ wds ra) (vs 6) w5 := hI.f 6 (by decide) (hwt 6 (by kernel_rfl)) (fun _ => hun)
      have hv : vs 7 = .slice Ab rb.length cb := hI.f 7 (by decide) (hwt 7 (by kernel_rfl)) (fun e => absurd rfl e)
      change Made _ _ (Sem.run _ (execOp (Act.eval (Act.put (Act.put (frm _ _ _ []) (some 66) (vs 7)) (some 65) (vs 6))) _) _)
      simp only [frm, hv]
      have hsl := own_sl (RowT.below HRb6.out hI.b)
      refine made_append (.tmp 65) (.tmp 66) 28 rfl Try.underlying28 HU.out.1 HU.out.2.1 HU.out.2.2.1 HU.out.2.2.2 rfl (by decide) (v := vs 6) (n := ((0 + rb.length) + ra.length)) (xs := (([] ++ wds rb) ++ wds ra)) rfl hrow (A := Ab) (m := rb.length) (c := cb) (news := wds rb) rfl hsl (wds_one _) (by unfold maxLen; omega) (by omega) hB fun v' w' ho hgr h4 => ?_
      refine RgI.put (i := 8) hI (by rw [hls]; decide) (hI.b.grown hgr hB (fun k hk => (hrow.lt k hk).1)) ?_ ?_
      rotate_left
      · exact ho
      intro k hkN hki hk hn h
      have n9 : L.getD 9 false = false := hcl.nd hun (by kernel_rfl)
      have n10 : L.getD 10 false = false := hcl.nd n9 (by kernel_rfl)
      have n11 : L.getD 11 false = false := hcl.nd n10 (by kernel_rfl)
      have n12 : L.getD 12 false = false := hcl.nd n10 (by kernel_rfl)
      have n13 : L.getD 13 false = false := hcl.nd n11 (by kernel_rfl)
      have n14 : L.getD 14 false = false := hcl.nd n12 (by kernel_rfl)
      have d6 : L.getD 6 false = true := hwt 6 (by kernel_rfl)
      have d4 : L.getD 4 false = true := hcl 6 4 d6 (by kernel_rfl)
      rcases (show k = 0 ∨ k = 1 ∨ k = 2 ∨ k = 3 ∨ k = 4 ∨ k = 5 ∨ k = 6 ∨ k = 7 ∨ k = 8 ∨ k = 9 ∨ k = 10 ∨ k = 11 ∨ k = 12 ∨ k = 13 ∨ k = 14 by omega) with rfl | rfl | rfl | rfl | rfl | rfl | rfl | rfl | rfl | rfl | rfl | rfl | rfl | rfl | rfl 
      · exact h
      · exact h
      · have h5 := (hn (by decide)).2; exact absurd (d4.symm.trans h5) (by decide)
      · exact h
      · have h5 := (hn (by decide)).2; exact absurd (d6.symm.trans h5) (by decide)
      · exact h
      · exact absurd rfl (hn (by decide)).1
      · exact h
      · exact absurd rfl hki
      · exact absurd (n9.symm.trans hk) (by decide)
      · exact absurd (n10.symm.trans hk) (by decide)
      · exact absurd (n11.symm.trans hk) (by decide)
      · exact absurd (n12.symm.trans hk) (by decide)
      · exact absurd (n13.symm.trans hk) (by decide)
      · exact absurd (n14.symm.trans hk) (by decide)
    · have h1 : vs 1 = .pointer (some ⟨g1, 0, none⟩) := hI.f 1 (by decide) (hwt 1 (by kernel_rfl)) (fun e => absurd rfl e)
      have hrow : RowT w6.heap.size 44 (((0 + rb.length) + ra.length) + rb.length) ((([] ++ wds rb) ++ wds ra) ++ wds rb) (vs 8) w5 := hI.f 8 (by decide) (hwt 8 (by kernel_rfl)) (fun e => absurd rfl e)
      obtain ⟨Ar, cr, hve, hcr⟩ := own_shape hrow
      have hlt := hrow.lt
      rw [hve] at hrow hlt
      simp only [Nat.zero_add] at hrow hcr hve
      have hln : (rb ++ ra ++ rb).length = rb.length + ra.length + rb.length := by simp only [List.length_append]
      have hxs : wds (rb ++ ra ++ rb) = ((([] ++ wds rb) ++ wds ra) ++ wds rb) := by simp [wds]
      have hsl := own_sl hrow
      rw [← hln, ← hxs] at hsl
      have cM := cMk hI.b hsl (by rw [hln]; omega) (by rw [hln]; exact hcr) (by intro x hx; simp only [List.mem_append] at hx; rcases hx with (hx | hx) | hx; all_goals first | exact HUa.out x hx | exact HUb.out x hx) (fun b o e => (hlt b (by rw [e]; rfl)).2)
      rw [hln, HOob.out] at cM
      change Made _ _ (Sem.run _ (execOp (Act.eval (Act.put (Act.put (frm _ _ _ []) (some 67) (vs 8)) (some 60) (vs 1))) _) _)
      simp only [frm, h1, hve]
      have HI := Lib.hid hI
      clear hI hwt hun hcl hrow hlt hsl hln hxs
      go_simp
      refine made_call (cM.mono fun e w' h => ?_)
      obtain ⟨hbb, v, e1, hv⟩ := TpT.of h
      refine ⟨v, e1, RgI.go (i := 9) HI.out (by rw [hls]; decide) hT hbb ?_ hB⟩
      exact hv
    · have h1 : TpT (Mm.one q.1.old) ob (vs 9) w5 := hI.f 9 (by decide) (hwt 9 (by kernel_rfl)) (fun e => absurd rfl e)
      change Made _ _ (Sem.run _ (execOp (Act.eval (Act.put (frm _ _ _ []) (some 68) (vs 9))) _) _)
      simp only [frm]
      have HI := Lib.hid (And.intro hI h1)
      clear hI hwt hun hcl h1
      go_simp
      refine made_ok ?_
      refine RgI.same (i := 10) HI.out.1 (by rw [hls]; decide) ?_
      exact HI.out.2
    · obtain ⟨px, h1, hp⟩ : TpT (Mm.one q.1.old) ob (vs 10) w5 := hI.f 10 (by decide) (hwt 10 (by kernel_rfl)) (fun e => absurd rfl e)
      change Made _ _ (Sem.run _ (execOp (Act.eval (Act.put (frm _ _ _ []) (some 58) (vs 10))) _) _)
      simp only [frm, h1]
      have HI := Lib.hid (And.intro hI hp)
      clear hI hwt hun hcl h1 hp
      go_simp
      refine made_ok ?_
      refine RgI.same (i := 11) HI.out.1 (by rw [hls]; decide) ?_
      exact HI.out.2
    · obtain ⟨px, h1, hp⟩ : TpT (Mm.one q.1.old) ob (vs 10) w5 := hI.f 10 (by decide) (hwt 10 (by kernel_rfl)) (fun e => absurd rfl e)
      change Made _ _ (Sem.run _ (execOp (Act.eval (Act.put (frm _ _ _ []) (some 58) (vs 10))) _) _)
      simp only [frm, h1]
      have HI := Lib.hid (And.intro hI hp)
      clear hI hwt hun hcl h1 hp
      go_simp
      refine made_ok ?_
      refine RgI.same (i := 12) HI.out.1 (by rw [hls]; decide) ?_
      exact rfl
    · have h1 : PtT (Mm.one q.1.old) ob (vs 11) w5 := hI.f 11 (by decide) (hwt 11 (by kernel_rfl)) (fun e => absurd rfl e)
      change Made _ _ (Sem.run _ (execOp (Act.eval (Act.put (frm _ _ _ []) (some 69) (vs 11))) _) _)
      simp only [frm]
      have HI := Lib.hid (And.intro hI h1)
      clear hI hwt hun hcl h1
      go_simp
      refine made_ok ?_
      refine RgI.same (i := 13) HI.out.1 (by rw [hls]; decide) ?_
      exact HI.out.2
    · have h1 : vs 12 = .int .i64 (erM ob) := hI.f 12 (by decide) (hwt 12 (by kernel_rfl)) (fun e => absurd rfl e)
      change Made _ _ (Sem.run _ (execOp (Act.eval (Act.put (frm _ _ _ []) (some 70) (vs 12))) _) _)
      simp only [frm, h1]
      have HI := Lib.hid hI
      clear hI hwt hun hcl h1
      go_simp
      refine made_ok ?_
      refine RgI.same (i := 14) HI.out (by rw [hls]; decide) ?_
      exact rfl
  · intro L vs w7 hls hall hI
    have hb5 := hI.b
    have hpp : PtT (Mm.one q.1.old) ob (vs 13) w7 := hI.f 13 (by decide) (hall _ (by decide)) (fun e => absurd rfl e)
    have hee : vs 14 = .int .i64 (erM ob) := hI.f 14 (by decide) (hall _ (by decide)) (fun e => absurd rfl e)
    clear hI hall hls hT
    change wpList _ _ _ [] (Act.put (Act.put (Act.put (Act.put (Act.put (Act.put (Act.put (Act.put (Act.put (Act.put (Act.put (Act.put (Act.put (Act.put (Act.put (frm _ _ _ []) (some 16) (vs 14)) (some 15) (vs 13)) (some 70) (vs 12)) (some 69) (vs 11)) (some 58) (vs 10)) (some 68) (vs 9)) (some 67) (vs 8)) (some 66) (vs 7)) (some 65) (vs 6)) (some 64) (vs 5)) (some 63) (vs 4)) (some 62) (vs 3)) (some 61) (vs 2)) (some 60) (vs 1)) (some 59) (vs 0)) _
    simp only [frm, hee]
    generalize vs 13 = pb at hpp ⊢
    have HPb7 := Lib.hid hpp
    clear hpp hee
    have HRa7 : Hid (RowT w3.heap.size 44 ra.length (wds ra) (.slice Aa ra.length ca) w7) := Lib.hid (RowT.below HRa6.out hb5)
    have HRb7 : Hid (RowT w4.heap.size 44 rb.length (wds rb) (.slice Ab rb.length cb) w7) := Lib.hid (RowT.below HRb6.out hb5)
    clear HRa6 HRb6
    have HPa7 := Lib.hid (PtT.below HPa6.out hb5)
    clear HPa6
    have HM7 := Lib.hid (HM6.out.below hb5)
    have HI7 := Lib.hid (HI6.out.below hb5)
    have HB7 := Lib.hid (HB6.out.trans (hb5.mono HB6.out.size))
    have HBM7 := Lib.hid (HBM6.out.below hb5 HBM6.out.lt)
    clear HM6 HI6 HB6 HBM6 hb5
    clear cMk
    go_upto_region 11 with fail
    simp only [Act.put, List.setIfInBounds_toArray, List.set_cons_succ, List.set_cons_zero]
    have hok := HM7.out.ok
    have cMk := fun {w8 : World} (hb : Below w7.heap.size w7 w8) {Ar : Option Addr} {cr : Nat} {l : List Int} (hs : Sl w8 1 Ar l.length (wds l)) (hll : l.length ≤ 1000) (hcr : l.length ≤ cr) (hu : ∀ x ∈ l, U64 x) (hA : ∀ b o, Ar = some ⟨b, o, none⟩ → b < w8.heap.size) => Mark_all (HM7.out.below hb).o hok.ob hok.ol (Nat.le_trans (by have := HM7.out.o.ge; have := HM7.out.o.hd.lt; omega) hb.size) hs hcr (by omega) hu hA (by have h1 := hok.o.lim; have h2 := hok.ol; have h3 := hok.ob; omega)
    clear hok
    have hT := @MnT13.below w7.heap.size bm g1 (Mm.one q.1.old) ra rb Aa ca Ab cb oc
    refine wp_region_invC 13 (fun i => ([[], [0], [], [], [2, 3], [], [4, 5], [1, 6], [7], [8], [8], [9], [10]] : List (List Nat)).getD i []) (RgI w7 w7.heap.size 13 (MnT13 w7.heap.size bm g1 (Mm.one q.1.old) ra rb Aa ca Ab cb oc) MnT13x) (by kernel_rfl) (by kernel_rfl) (by rfl) (fun vs => RgI.start) ?_ ?_
    · intro i hi o ho L vs w5 hls hun hwt hcl hI
      have hB : w7.heap.size ≤ w5.heap.size := hI.b.size
      rcases (show i = 0 ∨ i = 1 ∨ i = 2 ∨ i = 3 ∨ i = 4 ∨ i = 5 ∨ i = 6 ∨ i = 7 ∨ i = 8 ∨ i = 9 ∨ i = 10 ∨ i = 11 ∨ i = 12 by omega) with rfl | rfl | rfl | rfl | rfl | rfl | rfl | rfl | rfl | rfl | rfl | rfl | rfl  <;> cases ho
      · change Made _ _ (Sem.run _ (execOp (Act.eval (frm _ _ _ [])) _) _)
        simp only [frm]
        have HI := Lib.hid hI
        clear hI hwt hun hcl
        go_simp
        refine made_ok ?_
        refine RgI.same (i := 0) HI.out (by rw [hls]; decide) ?_
        exact rfl
      · have h0 : vs 0 = .pointer (some ⟨bm, 0, none⟩) := hI.f 0 (by decide) (hwt 0 (by kernel_rfl)) (fun e => absurd rfl e)
        change Made _ _ (Sem.run _ (execOp (Act.eval (Act.put (frm _ _ _ []) (some 72) (vs 0))) _) _)
        simp only [frm, h0]
        have hbk := HBM7.out.below hI.b HBM7.out.lt
        have c0 : w5.cell? ⟨bm, 0, none⟩ = some (.pointer (some ⟨g1, 0, none⟩)) := hbk.cell 0
        clear hbk
        have HI := Lib.hid hI
        clear hI hwt hun hcl
        go_simp
        refine made_ok ?_
        refine RgI.same (i := 1) HI.out (by rw [hls]; decide) ?_
        exact rfl
      · change Made _ _ (Sem.run _ (execOp (Act.eval (frm _ _ _ [])) _) _)
        simp only [frm]
        have HI := Lib.hid hI
        clear hI hwt hun hcl
        go_simp
        refine made_ok ?_
        refine RgI.go (i := 2) HI.out (by rw [hls]; decide) hT ((Below.refl _ _).alloc (Nat.le_refl _) _) ?_ hB
        exact ownEmpty 1 (Bk.new _ _ _) hB
      · change Made _ _ (Sem.run _ (execOp (Act.eval (frm _ _ _ [])) _) _)
        simp only [frm]
        have HI := Lib.hid hI
        clear hI hwt hun hcl
        go_simp
        refine made_ok ?_
        refine RgI.same (i := 3) HI.out (by rw [hls]; decide) ?_
        exact rfl
      · have hrow : RowT w7.heap.size 44 0 [] (vs 2) w5 := hI.f 2 (by decide) (hwt 2 (by kernel_rfl)) (fun _ => hun)
        have hv : vs 3 = .slice Aa ra.length ca := hI.f 3 (by decide) (hwt 3 (by kernel_rfl)) (fun e => absurd rfl e)
        change Made _ _ (Sem.run _ (execOp (Act.eval (Act.put (Act.put (frm _ _ _ []) (some 75) (vs 3)) (some 74) (vs 2))) _) _)
        simp only [frm, hv]
        have hsl := own_sl (RowT.below HRa7.out hI.b)
        refine made_append (.tmp 74) (.tmp 75) 28 rfl Try.underlying28 HU.out.1 HU.out.2.1 HU.out.2.2.1 HU.out.2.2.2 rfl (by decide) (v := vs 2) (n := 0) (xs := []) rfl hrow (A := Aa) (m := ra.length) (c := ca) (news := wds ra) rfl hsl (wds_one _) (by unfold maxLen; omega) (by omega) hB fun v' w' ho hgr h4 => ?_
        refine RgI.put (i := 4) hI (by rw [hls]; decide) (hI.b.grown hgr hB (fun k hk => (hrow.lt k hk).1)) ?_ ?_
        rotate_left
        · exact ho
        intro k hkN hki hk hn h
        have n6 : L.getD 6 false = false := hcl.nd hun (by kernel_rfl)
        have n7 : L.getD 7 false = false := hcl.nd n6 (by kernel_rfl)
        have n8 : L.getD 8 false = false := hcl.nd n7 (by kernel_rfl)
        have n9 : L.getD 9 false = false := hcl.nd n8 (by kernel_rfl)
        have n10 : L.getD 10 false = false := hcl.nd n8 (by kernel_rfl)
        have n11 : L.getD 11 false = false := hcl.nd n9 (by kernel_rfl)
        have n12 : L.getD 12 false = false := hcl.nd n10 (by kernel_rfl)
        rcases (show k = 0 ∨ k = 1 ∨ k = 2 ∨ k = 3 ∨ k = 4 ∨ k = 5 ∨ k = 6 ∨ k = 7 ∨ k = 8 ∨ k = 9 ∨ k = 10 ∨ k = 11 ∨ k = 12 by omega) with rfl | rfl | rfl | rfl | rfl | rfl | rfl | rfl | rfl | rfl | rfl | rfl | rfl 
        · exact h
        · exact h
        · exact absurd rfl (hn (by decide)).1
        · exact h
        · exact absurd rfl hki
        · exact h
        · exact absurd (n6.symm.trans hk) (by decide)
        · exact absurd (n7.symm.trans hk) (by decide)
        · exact absurd (n8.symm.trans hk) (by decide)
        · exact absurd (n9.symm.trans hk) (by decide)
        · exact absurd (n10.symm.trans hk) (by decide)
        · exact absurd (n11.symm.trans hk) (by decide)
        · exact absurd (n12.symm.trans hk) (by decide)
      · change Made _ _ (Sem.run _ (execOp (Act.eval (frm _ _ _ [])) _) _)
        simp only [frm]
        have HI := Lib.hid hI
        clear hI hwt hun hcl
        go_simp
        refine made_ok ?_
        refine RgI.same (i := 5) HI.out (by rw [hls]; decide) ?_
        exact rfl
      · have hrow : RowT w7.heap.size 44 (0 + ra.length) ([] ++ wds ra) (vs 4) w5 := hI.f 4 (by decide) (hwt 4 (by kernel_rfl)) (fun _ => hun)
        have hv : vs 5 = .slice Ab rb.length cb := hI.f 5 (by decide) (hwt 5 (by kernel_rfl)) (fun e => absurd rfl e)
        change Made _ _ (Sem.run _ (execOp (Act.eval (Act.put (Act.put (frm _ _ _ []) (some 77) (vs 5)) (some 76) (vs 4))) _) _)
        simp only [frm, hv]
        have hsl := own_sl (RowT.below HRb7.out hI.b)
        refine made_append (.tmp 76) (.tmp 77) 28 rfl Try.underlying28 HU.out.1 HU.out.2.1 HU.out.2.2.1 HU.out.2.2.2 rfl (by decide) (v := vs 4) (n := (0 + ra.length)) (xs := ([] ++ wds ra)) rfl hrow (A := Ab) (m := rb.length) (c := cb) (news := wds rb) rfl hsl (wds_one _) (by unfold maxLen; omega) (by omega) hB fun v' w' ho hgr h4 => ?_
        refine RgI.put (i := 6) hI (by rw [hls]; decide) (hI.b.grown hgr hB (fun k hk => (hrow.lt k hk).1)) ?_ ?_
        rotate_left
        · exact ho
        intro k hkN hki hk hn h
        have n7 : L.getD 7 false = false := hcl.nd hun (by kernel_rfl)
        have n8 : L.getD 8 false = false := hcl.nd n7 (by kernel_rfl)
        have n9 : L.getD 9 false = false := hcl.nd n8 (by kernel_rfl)
        have n10 : L.getD 10 false = false := hcl.nd n8 (by kernel_rfl)
        have n11 : L.getD 11 false = false := hcl.nd n9 (by kernel_rfl)
        have n12 : L.getD 12 false = false := hcl.nd n10 (by kernel_rfl)
        have d4 : L.getD 4 false = true := hwt 4 (by kernel_rfl)
        rcases (show k = 0 ∨ k = 1 ∨ k = 2 ∨ k = 3 ∨ k = 4 ∨ k = 5 ∨ k = 6 ∨ k = 7 ∨ k = 8 ∨ k = 9 ∨ k = 10 ∨ k = 11 ∨ k = 12 by omega) with rfl | rfl | rfl | rfl | rfl | rfl | rfl | rfl | rfl | rfl | rfl | rfl | rfl 
        · exact h
        · exact h
        · have h5 := (hn (by decide)).2; exact absurd (d4.symm.trans h5) (by decide)
        · exact h
        · exact absurd rfl (hn (by decide)).1
        · exact h
        · exact absurd rfl hki
        · exact absurd (n7.symm.trans hk) (by decide)
        · exact absurd (n8.symm.trans hk) (by decide)
        · exact absurd (n9.symm.trans hk) (by decide)
        · exact absurd (n10.symm.trans hk) (by decide)
        · exact absurd (n11.symm.trans hk) (by decide)
        · exact absurd (n12.symm.trans hk) (by decide)
      · have h1 : vs 1 = .pointer (some ⟨g1, 0, none⟩) := hI.f 1 (by decide) (hwt 1 (by kernel_rfl)) (fun e => absurd rfl e)
        have hrow : RowT w7.heap.size 44 ((0 + ra.length) + rb.length) (([] ++ wds ra) ++ wds rb) (vs 6) w5 := hI.f 6 (by decide) (hwt 6 (by kernel_rfl)) (fun e => absurd rfl e)
        obtain ⟨Ar, cr, hve, hcr⟩ := own_shape hrow
        have hlt := hrow.lt
        rw [hve] at hrow hlt
        simp only [Nat.zero_add] at hrow hcr hve
        have hln : (ra ++ rb).length = ra.length + rb.length := by simp only [List.length_append]
        have hxs : wds (ra ++ rb) = (([] ++ wds ra) ++ wds rb) := by simp [wds]
        have hsl := own_sl hrow
        rw [← hln, ← hxs] at hsl
        have cM := cMk hI.b hsl (by rw [hln]; omega) (by rw [hln]; exact hcr) (by intro x hx; simp only [List.mem_append] at hx; rcases hx with hx | hx; all_goals first | exact HUa.out x hx | exact HUb.out x hx) (fun b o e => (hlt b (by rw [e]; rfl)).2)
        rw [hln, HOoc.out] at cM
        change Made _ _ (Sem.run _ (execOp (Act.eval (Act.put (Act.put (frm _ _ _ []) (some 78) (vs 6)) (some 73) (vs 1))) _) _)
        simp only [frm, h1, hve]
        have HI := Lib.hid hI
        clear hI hwt hun hcl hrow hlt hsl hln hxs
        go_simp
        refine made_call (cM.mono fun e w' h => ?_)
        obtain ⟨hbb, v, e1, hv⟩ := TpT.of h
        refine ⟨v, e1, RgI.go (i := 7) HI.out (by rw [hls]; decide) hT hbb ?_ hB⟩
        exact hv
      · have h1 : TpT (Mm.one q.1.old) oc (vs 7) w5 := hI.f 7 (by decide) (hwt 7 (by kernel_rfl)) (fun e => absurd rfl e)
        change Made _ _ (Sem.run _ (execOp (Act.eval (Act.put (frm _ _ _ []) (some 79) (vs 7))) _) _)
        simp only [frm]
        have HI := Lib.hid (And.intro hI h1)
        clear hI hwt hun hcl h1
        go_simp
        refine made_ok ?_
        refine RgI.same (i := 8) HI.out.1 (by rw [hls]; decide) ?_
        exact HI.out.2
      · obtain ⟨px, h1, hp⟩ : TpT (Mm.one q.1.old) oc (vs 8) w5 := hI.f 8 (by decide) (hwt 8 (by kernel_rfl)) (fun e => absurd rfl e)
        change Made _ _ (Sem.run _ (execOp (Act.eval (Act.put (frm _ _ _ []) (some 71) (vs 8))) _) _)
        simp only [frm, h1]
        have HI := Lib.hid (And.intro hI hp)
        clear hI hwt hun hcl h1 hp
        go_simp
        refine made_ok ?_
        refine RgI.same (i := 9) HI.out.1 (by rw [hls]; decide) ?_
        exact HI.out.2
      · obtain ⟨px, h1, hp⟩ : TpT (Mm.one q.1.old) oc (vs 8) w5 := hI.f 8 (by decide) (hwt 8 (by kernel_rfl)) (fun e => absurd rfl e)
        change Made _ _ (Sem.run _ (execOp (Act.eval (Act.put (frm _ _ _ []) (some 71) (vs 8))) _) _)
        simp only [frm, h1]
        have HI := Lib.hid (And.intro hI hp)
        clear hI hwt hun hcl h1 hp
        go_simp
        refine made_ok ?_
        refine RgI.same (i := 10) HI.out.1 (by rw [hls]; decide) ?_
        exact rfl
      · have h1 : PtT (Mm.one q.1.old) oc (vs 9) w5 := hI.f 9 (by decide) (hwt 9 (by kernel_rfl)) (fun e => absurd rfl e)
        change Made _ _ (Sem.run _ (execOp (Act.eval (Act.put (frm _ _ _ []) (some 80) (vs 9))) _) _)
        simp only [frm]
        have HI := Lib.hid (And.intro hI h1)
        clear hI hwt hun hcl h1
        go_simp
        refine made_ok ?_
        refine RgI.same (i := 11) HI.out.1 (by rw [hls]; decide) ?_
        exact HI.out.2
      · have h1 : vs 10 = .int .i64 (erM oc) := hI.f 10 (by decide) (hwt 10 (by kernel_rfl)) (fun e => absurd rfl e)
        change Made _ _ (Sem.run _ (execOp (Act.eval (Act.put (frm _ _ _ []) (some 81) (vs 10))) _) _)
        simp only [frm, h1]
        have HI := Lib.hid hI
        clear hI hwt hun hcl h1
        go_simp
        refine made_ok ?_
        refine RgI.same (i := 12) HI.out (by rw [hls]; decide) ?_
        exact rfl
    · intro L vs w8 hls hall hI
      have hb5 := hI.b
      have hpp : PtT (Mm.one q.1.old) oc (vs 11) w8 := hI.f 11 (by decide) (hall _ (by decide)) (fun e => absurd rfl e)
      have hee : vs 12 = .int .i64 (erM oc) := hI.f 12 (by decide) (hall _ (by decide)) (fun e => absurd rfl e)
      clear hI hall hls hT
      change wpList _ _ _ [] (Act.put (Act.put (Act.put (Act.put (Act.put (Act.put (Act.put (Act.put (Act.put (Act.put (Act.put (Act.put (Act.put (frm _ _ _ []) (some 18) (vs 12)) (some 17) (vs 11)) (some 81) (vs 10)) (some 80) (vs 9)) (some 71) (vs 8)) (some 79) (vs 7)) (some 78) (vs 6)) (some 77) (vs 5)) (some 76) (vs 4)) (some 75) (vs 3)) (some 74) (vs 2)) (some 73) (vs 1)) (some 72) (vs 0)) _
      simp only [frm, hee]
      generalize vs 11 = pc at hpp ⊢
      have HPc8 := Lib.hid hpp
      clear hpp hee HRa7 HRb7
      have HPa8 := Lib.hid (PtT.below HPa7.out hb5)
      have HPb8 := Lib.hid (PtT.below HPb7.out hb5)
      clear HPa7 HPb7
      have HI8 := Lib.hid (HI7.out.below hb5)
      have HB8 := Lib.hid (HB7.out.trans (hb5.mono HB7.out.size))
      clear HI7 HB7 hb5
      clear cMk HM7 HBM7 HUa HUb HU
      have ib : ∀ x ∈ ra, x ∈ rb ++ ra ++ rb := fun x hx => by simp [hx]
      have ibc : ∀ x ∈ rb ++ ra ++ rb, x ∈ ra ++ rb := fun x hx => by simp only [List.mem_append] at hx ⊢; rcases hx with (h | h) | h <;> simp [h]
      have icb : ∀ x ∈ ra ++ rb, x ∈ rb ++ ra ++ rb := fun x hx => by simp only [List.mem_append] at hx ⊢; rcases hx with h | h <;> simp [h]
      have HX := Lib.hid (And.intro ib (And.intro ibc icb))
      have kab : oa = none → ob = none := fun e => by rw [← HOob.out]; exact Mm.marks_noneC ib (HOoa.out.trans e)
      have kbc : ob = none → oc = none := fun e => by rw [← HOoc.out]; exact Mm.marks_noneC ibc (HOob.out.trans e)
      have kcb : oc = none → ob = none := fun e => by rw [← HOob.out]; exact Mm.marks_noneC icb (HOoc.out.trans e)
      clear ib ibc icb
      rcases ob with _ | ⟨sb, wb⟩
      · have hc0 := kbc rfl
        subst hc0
        clear kab kbc kcb
        have hpb : pb = .pointer none := HPb8.out
        have hpc : pc = .pointer none := HPc8.out
        subst hpb hpc
        rcases oa with _ | ⟨sa, wa⟩
        · have hpa : pa = .pointer none := HPa8.out
          subst hpa
          simp only [erM]
          go_wp2_with fail
          go_ret
          exact ⟨rfl, HB8.out⟩
        · obtain ⟨Ba, ga, ba, hpa, hka⟩ := HPa8.out
          subst hpa
          clear hka
          simp only [erM]
          go_wp2_with fail
          go_ret
          exact ⟨rfl, HB8.out⟩
      · rcases oa with _ | ⟨sa, wa⟩
        · cases kab rfl
        · rcases oc with _ | ⟨sc, wc⟩
          · cases kcb rfl
          · clear kab kbc kcb
            obtain ⟨Ba, ga, ba, hpa, hka⟩ := HPa8.out
            obtain ⟨Bb, gb, bb, hpb, hkb⟩ := HPb8.out
            obtain ⟨Bc, gc, bc, hpc, hkc⟩ := HPc8.out
            subst hpa hpb hpc
            have HKa := Lib.hid hka
            have HKb := Lib.hid hkb
            have HKc := Lib.hid hkc
            have HMB := Lib.hid (fun x => mono_bits (Mm.marks_some HOoa.out) (Mm.marks_some HOob.out) (Mm.marks_some HOoc.out) HX.out.1 HX.out.2.1 HX.out.2.2 x)
            clear hka hkb hkc HPa8 HPb8 HPc8 HX HOoa HOob HOoc
            simp only [erM]
            go_upto_region 14 with fail
            go_upto_region 15 with fail
            have hcap := HI8.out.cap
            go_loopw [19] (fun i wr => wr = w8 ∧ ∃ j : Nat, i = .int .i64 (j : Int) ∧ j ≤ q.2.length) (fun i _ => q.2.length - (intOf i).toNat)
            case atStart => exact ⟨rfl, 0, rfl, Nat.zero_le _⟩
            case round =>
              obtain ⟨rfl, j, rfl, hj⟩ := hrel
              by_cases hlt : j < q.2.length
              · obtain ⟨b, o, rfl, hbl, hcc⟩ := HI8.out.sl.get hlt
                have t1 : q.2[j]? = some q.2[j] := List.getElem?_eq_getElem hlt
                have c0 : wr.cell? ⟨b, o + j, none⟩ = some (.int .i64 q.2[j]) := hcc j _ (ints_get t1)
                have hxr := HQ.out.rg q.2[j] (List.getElem_mem hlt)
                generalize q.2[j] = x at c0 hxr
                have hcj : j < cq := by omega
                clear t1 hcc
                have cHa := Has_any HKa.out x (by omega)
                have cHb := Has_any HKb.out x (by omega)
                have cHc := Has_any HKc.out x (by omega)
                have cKa := Weak_any HKa.out x (by omega)
                have cKb := Weak_any HKb.out x (by omega)
                have cKc := Weak_any HKc.out x (by omega)
                obtain ⟨k1, k2, hbits⟩ := HMB.out x
                rw [k1] at cHc
                rw [k2] at cKc
                clear k1 k2
                rcases hbits with ⟨q1, q2, q3, q4⟩ | ⟨q1, q2, q3, q4⟩ | ⟨q1, q2, q3, q4⟩ | ⟨q1, q2, q3, q4⟩ | ⟨q1, q2, q3, q4⟩ | ⟨q1, q2, q3, q4⟩
                all_goals
                  rw [q2] at cKa
                  rw [q4] at cKb cKc
                  rw [q1] at cHa
                  rw [q3] at cHb cHc
                  clear q1 q2 q3 q4
                  go_wp2_with (first | (go_at_call 8; (with_reducible refine cHa.mono ?_); rintro e w9 ⟨rfl, rfl⟩) | (go_at_call 8; (with_reducible refine cHb.mono ?_); rintro e w9 ⟨rfl, rfl⟩) | (go_at_call 8; (with_reducible refine cHc.mono ?_); rintro e w9 ⟨rfl, rfl⟩) | (go_at_call 9; (with_reducible refine cKa.mono ?_); rintro e w9 ⟨rfl, rfl⟩) | (go_at_call 9; (with_reducible refine cKb.mono ?_); rintro e w9 ⟨rfl, rfl⟩) | (go_at_call 9; (with_reducible refine cKc.mono ?_); rintro e w9 ⟨rfl, rfl⟩))
                  go_roundw
                  case rel => exact ⟨trivial, j + 1, by go_num, by omega⟩
                  case measure => simp [intOf]; omega
              · go_wp2_with fail
                go_ret
                exact ⟨rfl, HB8.out⟩
theorem mono_any (hl : Op1s w Al l) (hcl : l.length ≤ cl) (h1 : IS w ch A1c c1) (h2 : IS w mo A2c c2) (hr1 : ∀ x ∈ ch, -9223372036854775808 ≤ x ∧ x ≤ 9223372036854775807) (hr2 : ∀ x ∈ mo, -9223372036854775808 ≤ x ∧ x ≤ 9223372036854775807) (hb : l.length ≤ 140737488351232) (hb1 : ch.length ≤ 140737488351232) (hb2 : mo.length ≤ 140737488351232) : Calls Try.prog 3 #[.slice Al l.length cl, .slice A1c ch.length c1, .slice A2c mo.length c2] w fun e w' => e = .returned (.bool true) ∧ Below w.heap.size w w' := by
  by_cases a : 40 < l.length
  · exact mono_big (.inl a) hb hb1 hb2
  · by_cases b : 8 < ch.length
    · exact mono_big (.inr (.inl ⟨by omega, b⟩)) hb hb1 hb2
    · by_cases c : 8 < mo.length
      · exact mono_big (.inr (.inr ⟨by omega, by omega, c⟩)) hb hb1 hb2
      · exact mono_main hl hcl h1 h2 hr1 hr2 (by omega) (by omega) (by omega)
end
end Go.Proofs.Ytjpaogapclfajaa
