/- refmeshlaw43.VerifierSafe returns true: the walk. -/
import Derived.Test.YtdmbcgkfecmakaaDoorLawChecks
import Derived.Test.YtdmbcgkfecmakaaDoorSafeLaw
import Derived.Test.YtdmbcgkfecmakaaDoorOpenC
import Derived.Deep.RegionHeld3
namespace Go.Proofs.YtdmbcgkfecmakaaDoor
set_option linter.unusedVariables false
set_option linter.unusedSimpArgs false
set_option linter.unusedSectionVars false
open Go.RowKit Go.Sort
set_option maxRecDepth 100000

def U64R (w : World) (x : Int) (r : List Value) : Prop := r = [.int .u64 x] ∧ (Lit.int .u64 x).wf = true

section
variable {w : World} {A X : Option Addr} {n c nb xc cl mt : Nat} {cs : List Cls} {bs : List Int}
set_option maxHeartbeats 8000000 in
theorem LSafe_any (hC : CodeR w cs A n c) (hcl : cl ≤ 255) (hmt : mt ≤ 255) (hX : SlR U64R w 1 X nb bs) (hxc : nb ≤ xc) :
    Calls Tryd.prog 11 #[.agg #[.slice A n c], .int .u8 (cl : Int), .int .u8 (mt : Int), .slice X nb xc] w fun e w' => e = .returned (.bool true) ∧ Below w.heap.size w w' := by
  have hB0 : Below w.heap.size w (w.alloc (.cells #[.slice A n c] 55)) := (Below.refl _ _).alloc (Nat.le_refl _) _
  have HC0 := Lib.hid (hC.below hB0)
  have hn1 := hC.2.2.1
  have hnc := hC.2.1
  have HL := Lib.hid hC.1
  have HX := Lib.hid hX
  have HQ := Lib.hid (Bk.new w 55 #[.slice A n c])
  have HB0 := Lib.hid hB0
  clear hC hB0 hX
  go_enter Tryd.func11, Tryd.ntmps11
  go_wp2_with fail
  refine (awakeV _).mono ?_
  rintro e w1 ⟨rfl, hb1⟩
  have HB1 := Lib.hid (HB0.out.trans (hb1.mono HB0.out.size))
  have HC := Lib.hid (HC0.out.below hb1)
  have HQ1 := Lib.hid (HQ.out.below hb1 HQ.out.lt)
  have c1 : w1.cell? ⟨w.heap.size, 0, none⟩ = some (.slice A n c) := HQ1.out.cell 0
  clear hb1
  go_wp2_with fail
  refine (fewCode_any HC.out).mono ?_
  rintro e w2 ⟨⟨b, rfl, _⟩, hb2⟩
  have HB2 := Lib.hid (HB1.out.trans (hb2.mono HB1.out.size))
  have HC2 := Lib.hid (HC.out.below hb2)
  have HQ2 := Lib.hid (HQ1.out.below hb2 HQ1.out.lt)
  have c2 : w2.cell? ⟨w.heap.size, 0, none⟩ = some (.slice A n c) := HQ2.out.cell 0
  clear hb2 c1
  cases b with
  | false =>
    go_wp2_with fail
    go_ret
    exact ⟨rfl, HB2.out⟩
  | true =>
  by_cases hb4 : 4 < nb
  · go_wp2_with fail
    go_ret
    exact ⟨rfl, HB2.out⟩
  go_wp2_with fail
  refine (Check_any HC2.out).mono ?_
  rintro e w3 ⟨⟨r, rfl, hr⟩, hb3⟩
  have HB3 := Lib.hid (HB2.out.trans (hb3.mono HB2.out.size))
  have HC3 := Lib.hid (HC2.out.below hb3)
  have HQ3 := Lib.hid (HQ2.out.below hb3 HQ2.out.lt)
  have c3 : w3.cell? ⟨w.heap.size, 0, none⟩ = some (.slice A n c) := HQ3.out.cell 0
  clear hb3 c2
  rcases hr with ⟨_, rfl⟩ | ⟨_, _, rfl⟩ | ⟨hnl, hnb, rfl⟩
  · go_wp2_with fail
    go_ret
    exact ⟨rfl, HB3.out⟩
  · go_wp2_with fail
    go_ret
    exact ⟨rfl, HB3.out⟩
  have HNL := Lib.hid hnl
  have HNB := Lib.hid hnb
  clear hnl hnb
  by_cases hn0 : n = 0
  · subst hn0
    go_wp2_with fail
    go_ret
    exact ⟨rfl, HB3.out⟩
  have hn0 : 0 < n := by omega
  have hnz : ((n : Int) == 0) = false := by simp; omega
  have hnb4 : (nb : Int) ≤ 4 := by omega
  obtain ⟨ci, hci⟩ : ∃ ci : Nat, ci = cl % n := ⟨_, rfl⟩
  have hcin : ci < n := by rw [hci]; exact Nat.mod_lt _ hn0
  go_upto_region 6 with fail
  have hcz : ((cl : Int) % (n : Int)) = (ci : Int) := by rw [hci]; simp
  rw [hcz]
  clear hcz hci
  obtain ⟨cb, co, x, r, hA, hcb, hx, hrl, ⟨hok, F, fc, M, mc, hr, hfc, hF, hmc, hM⟩, hcells⟩ := HC3.out.2.2.2.get hcin
  have hx3 : w3.cell? ⟨cb, co + ci * 4 + 3, none⟩ = some (.slice M x.ms.length mc) := hcells 3 _ (by rw [hr]; rfl)
  have HX0 := Lib.hid hx
  have HM := Lib.hid hM
  have HA := Lib.hid hA
  have hcic : ci < c := by omega
  clear hok hF hM hcells hrl hr hx
  subst hA
  by_cases hm0 : x.ms.length = 0
  · rw [hm0] at hx3
    go_wp2_with fail
    go_ret
    exact ⟨rfl, HB3.out⟩
  have hmp : 0 < x.ms.length := by omega
  have hmz : ((x.ms.length : Int) == 0) = false := by rw [beq_eq_false_iff_ne]; omega
  obtain ⟨mi, hmi⟩ : ∃ mi : Nat, mi = mt % x.ms.length := ⟨_, rfl⟩
  have hmil : mi < x.ms.length := by rw [hmi]; exact Nat.mod_lt _ hmp
  have hmi255 : mi ≤ 255 := by rw [hmi]; exact Nat.le_trans (Nat.mod_le _ _) hmt
  have hmiz : ((mt : Int) % (x.ms.length : Int)) = (mi : Int) := by rw [hmi]; simp
  obtain ⟨mb, mo, m, r, hMA, hmb, hm, hrl, ⟨hok, cA, cc, nB, nc, hr, hcc, hcS, hnc', hnS⟩, hcells⟩ := HM.out.get hmil
  have y0 : w3.cell? ⟨mb, mo + mi * 5, none⟩ = some (.string m.nm) := hcells 0 _ (by rw [hr]; rfl)
  have y1 : w3.cell? ⟨mb, mo + mi * 5 + 1, none⟩ = some (.int .i64 m.p) := hcells 1 _ (by rw [hr]; rfl)
  have y2 : w3.cell? ⟨mb, mo + mi * 5 + 2, none⟩ = some (.int .i64 m.l) := hcells 2 _ (by rw [hr]; rfl)
  have y3 : w3.cell? ⟨mb, mo + mi * 5 + 3, none⟩ = some (.slice cA m.code.length cc) := hcells 3 _ (by rw [hr]; rfl)
  have y4 : w3.cell? ⟨mb, mo + mi * 5 + 4, none⟩ = some (.slice nB m.names.length nc) := hcells 4 _ (by rw [hr]; rfl)
  have hmim : mi < mc := by omega
  have hw1 : IntKind.i64.wrap (ci : Int) = (ci : Int) := IntWalk.i64_in _ (by omega)
  have HMX := Lib.hid hm
  have HCS := Lib.hid hcS
  have HOK := Lib.hid hok
  clear hok hcS hnS hcells hrl hr hm hmi
  subst hMA
  go_upto_region 8 with fail
  have hmit : Int.tmod (mt : Int) (x.ms.length : Int) = (mi : Int) := by rw [Int.tmod_eq_emod_of_nonneg (by omega)]; exact hmiz
  have hw2 : IntKind.i64.wrap (mt : Int) = (mt : Int) := IntWalk.i64_in _ (by omega)
  have hw3 : IntKind.i64.wrap (mi : Int) = (mi : Int) := IntWalk.i64_in _ (by omega)
  have i0 : (0 : Int) ≤ (ci : Int) := by omega
  have i1 : (ci : Int) < (n : Int) := by omega
  have i2 : (0 : Int) ≤ (mi : Int) := by omega
  have i3 : (mi : Int) < (x.ms.length : Int) := by omega
  have n3 := World.new_ne w3 _ c3
  have nx3 := World.new_ne w3 _ hx3
  have n0 := World.new_ne w3 _ y0
  have n1 := World.new_ne w3 _ y1
  have n2 := World.new_ne w3 _ y2
  have n4 := World.new_ne w3 _ y3
  have n5 := World.new_ne w3 _ y4
  go_region_held3 (fun w' => w'.cell? ⟨w.heap.size, 0, none⟩ = some (.slice (some ⟨cb, co, none⟩) n c) ∧ w'.cell? ⟨cb, co + ci * 4 + 3, none⟩ = some (.slice (some ⟨mb, mo, none⟩) x.ms.length mc) ∧ w'.cell? ⟨mb, mo + mi * 5, none⟩ = some (.string m.nm) ∧ w'.cell? ⟨mb, mo + mi * 5 + 1, none⟩ = some (.int .i64 m.p) ∧ w'.cell? ⟨mb, mo + mi * 5 + 2, none⟩ = some (.int .i64 m.l) ∧ w'.cell? ⟨mb, mo + mi * 5 + 3, none⟩ = some (.slice cA m.code.length cc) ∧ w'.cell? ⟨mb, mo + mi * 5 + 4, none⟩ = some (.slice nB m.names.length nc)) (go_keep) (fail)
  go_wp2_with fail
  have hbr : Below w3.heap.size w3 (w3.alloc (.cells #[.string m.nm, .int .i64 m.p, .int .i64 m.l, .slice cA m.code.length cc, .slice nB m.names.length nc] 25)).drew := ((Below.refl _ _).alloc (Nat.le_refl _) _).drew
  have HB4 := Lib.hid (HB3.out.trans (hbr.mono HB3.out.size))
  have HC4 := Lib.hid (HC3.out.below hbr)
  have HQ4 := Lib.hid (HQ3.out.below hbr HQ3.out.lt)
  have HM4 : Hid (Bk (w3.alloc (.cells #[.string m.nm, .int .i64 m.p, .int .i64 m.l, .slice cA m.code.length cc, .slice nB m.names.length nc] 25)).drew w3.heap.size 25 #[.string m.nm, .int .i64 m.p, .int .i64 m.l, .slice cA m.code.length cc, .slice nB m.names.length nc]) := Lib.hid (Bk.new w3 _ _)
  have HS4 := Lib.hid (HCS.out.below hbr)
  have HX4 := Lib.hid (HX.out.keep (HB3.out.trans (hbr.mono HB3.out.size)).size (keep_below (HB3.out.trans (hbr.mono HB3.out.size))) (fun x r h => h))
  obtain ⟨W, hW⟩ : ∃ W, W = (w3.alloc (.cells #[.string m.nm, .int .i64 m.p, .int .i64 m.l, .slice cA m.code.length cc, .slice nB m.names.length nc] 25)).drew := ⟨_, rfl⟩
  rw [← hW] at HB4 HC4 HQ4 HM4 HS4 HX4 ⊢
  obtain ⟨hp0, hpl, hex, D, hD⟩ := ok_method (List.mem_of_getElem? HX0.out) (List.mem_of_getElem? HMX.out) HNB.out
  have HEX := Lib.hid hex
  have HD := Lib.hid hD
  have HD0 := Lib.hid hD.1
  have hn60 : n ≤ 60 := by
    have h := HNL.out
    unfold largeP at h
    rw [HL.out] at h
    omega
  have hl4 : m.code.length ≤ 4000 := Nat.le_of_not_lt fun h => HNL.out (.inr ⟨x, List.mem_of_getElem? HX0.out, .inr (.inr ⟨m, List.mem_of_getElem? HMX.out, .inr (.inr (.inl h))⟩)⟩)
  clear hW hbr n3 nx3 n0 n1 n2 n4 n5 y0 y1 y2 y3 y4 c3 hx3 hex hD hmit hmiz hw2 hw3 hw1 i0 i1 i2 i3 hmz hnz hnb4
  go_loopg [11, 12, 13] (200) (fun q a' d' i' wr => ∃ (i k : Nat) (d : Int), a' = .int .i64 i ∧ d' = .int .i64 d ∧ i' = .int .i64 k ∧ k + q = 200 ∧ 0 ≤ d ∧ d ≤ 64 ∧ Hid (D i = some d) ∧ Below W.heap.size W wr)
  case atStart => exact ⟨0, 0, 0, rfl, rfl, rfl, by omega, by omega, by omega, HD0, Below.refl _ _⟩
  case round =>
    obtain ⟨i, k, d, rfl, rfl, rfl, hkq, hd0, hd64, HDi, hB⟩ := hrel
    have HB := Lib.hid hB
    have hsz := hB.size
    clear hB
    cases gk with
    | zero =>
      obtain rfl : k = 200 := hkq
      go_wp2_with fail
      go_ret
      exact ⟨rfl, HB4.out.trans (HB.out.mono HB4.out.size)⟩
    | succ q =>
      have hk200 : (k : Int) < 200 := by omega
      obtain ⟨⟨o, a, b⟩, hx, hv, hpd, hpu, htg⟩ := ok_step HD.out HDi.out
      have hil : i < m.code.length := (List.getElem?_eq_some_iff.1 hx).1
      obtain ⟨ab, ao, hcA, hab, hcells⟩ := HS4.out.get (k := i) hil
      have hx0 : wr.cell? ⟨ab, ao + i * 3, none⟩ = some (.int .i64 o) := ((bcell HB.out).1 _ _ hab).trans (hcells _ _ (codeCells_get m.code i _ hx |>.1))
      have hx1 : wr.cell? ⟨ab, ao + i * 3 + 1, none⟩ = some (.int .i64 a) := ((bcell HB.out).1 _ _ hab).trans (hcells (_ + _) _ (codeCells_get m.code i _ hx |>.2.1))
      have hx2 : wr.cell? ⟨ab, ao + i * 3 + 2, none⟩ = some (.int .i64 b) := ((bcell HB.out).1 _ _ hab).trans (hcells (_ + _) _ (codeCells_get m.code i _ hx |>.2.2))
      have hE := HEX.out _ (List.mem_of_getElem? hx)
      have HXI := Lib.hid hx
      have HTG := Lib.hid htg
      have HV := Lib.hid hv
      have HPU := Lib.hid hpu
      have HCE : Hid (∀ w', Below W.heap.size W w' → w'.cell? ⟨w3.heap.size, 3, none⟩ = some (.slice (some ⟨ab, ao, none⟩) m.code.length cc) ∧ w'.cell? ⟨ab, ao + i * 3, none⟩ = some (.int .i64 o) ∧ w'.cell? ⟨ab, ao + i * 3 + 1, none⟩ = some (.int .i64 a) ∧ w'.cell? ⟨ab, ao + i * 3 + 2, none⟩ = some (.int .i64 b)) := Lib.hid (fun w' hb => by
        subst hcA
        exact ⟨(HM4.out.below hb HM4.out.lt).cell 3, ((bcell hb).1 _ _ hab).trans (hcells _ _ (codeCells_get m.code i _ hx |>.1)), ((bcell hb).1 _ _ hab).trans (hcells (_ + _) _ (codeCells_get m.code i _ hx |>.2.1)), ((bcell hb).1 _ _ hab).trans (hcells (_ + _) _ (codeCells_get m.code i _ hx |>.2.2))⟩)
      have hicc : i < cc := by omega
      clear hcells hx hv htg hpu
      subst hcA
      have q1 := HQ4.out.below HB.out HQ4.out.lt
      have q2 := HM4.out.below HB.out HM4.out.lt
      have HQ5 := Lib.hid q1
      have HM5 := Lib.hid q2
      have e0 := q1.cell 0
      have f0 := q2.cell 0
      have f1 := q2.cell 1
      have f2 := q2.cell 2
      have f3 := q2.cell 3
      have f4 := q2.cell 4
      simp only [List.getElem?_toArray, List.getElem?_cons_zero, List.getElem?_cons_succ] at e0 f0 f1 f2 f3 f4
      have g0 := cell_regrown e0
      have j0 := cell_regrown f0
      have j1 := cell_regrown f1
      have j2 := cell_regrown f2
      have j3 := cell_regrown f3
      have j4 := cell_regrown f4
      have jx0 := cell_regrown hx0
      have jx1 := cell_regrown hx1
      have jx2 := cell_regrown hx2
      have HCW := Lib.hid (HC4.out.below HB.out)
      have cE := fun dd os => Calls.regrown_of (w := wr) (RExists_any (w := grow (redrawn wr dd) os) (m0 := .string m.nm) (m1 := .int .i64 m.p) (m3 := .slice (some ⟨ab, ao, none⟩) m.code.length cc) (l := m.l) (B := nB) (nn := m.names.length) (d := nc) (o := o) (a := a) (b := b) (HCW.out.below (below_regrown wr dd os)) HX0.out hn60)
      rw [hE] at cE
      have hw1 : IntKind.i64.wrap (i : Int) = (i : Int) := IntWalk.i64_in _ (by omega)
      have i0 : (0 : Int) ≤ (i : Int) := by omega
      have i1 : (i : Int) < (m.code.length : Int) := by omega
      have dl : decide ((i : Int) < 0) = false := decide_eq_false (by omega)
      have dg : decide ((m.code.length : Int) ≤ (i : Int)) = false := decide_eq_false (by omega)
      have dn : decide (m.code.length ≤ i) = false := decide_eq_false (by omega)
      have dp : decide (m.l < m.p) = false := decide_eq_false (by omega)
      clear hE q1 q2 e0 f0 f1 f2 f3 f4 hx0 hx1 hx2
      go_upto_region 13 with fail
      refine wp_region_quiet_below (by kernel_rfl) (by kernel_rfl) ?_
      repeat (quiet_step (first | exact cE _ _))
      refine wpQuiet_nil ?_
      intro w5 hw'
      have hb5 : Below wr.heap.size wr w5 := by obtain ⟨pp, rfl⟩ := hw'; exact below_regrown _ _ _
      have HB5 := Lib.hid (HB.out.trans (hb5.mono HB.out.size))
      clear hw' hb5 cE g0 j0 j1 j2 j3 j4 jx0 jx1 jx2
      obtain ⟨c0, c1, c2, c3⟩ := HCE.out w5 HB5.out
      go_wp2_with fail
      refine (Effect_any o a b w5).mono ?_
      rintro e w6 ⟨rfl, hb6⟩
      have HB6 := Lib.hid (HB5.out.trans (hb6.mono HB5.out.size))
      clear hb6 c0 c1 c2 c3
      obtain ⟨c0, c1, c2, c3⟩ := HCE.out w6 HB6.out
      obtain ⟨p, hp⟩ : ∃ p, p = popsI o a b := ⟨_, rfl⟩
      obtain ⟨u, hu⟩ : ∃ u, u = pushesI o a b := ⟨_, rfl⟩
      have hp1 : 0 ≤ p ∧ p ≤ d := ⟨by rw [hp]; exact pops_bounds o a b, by rw [hp]; exact hpd⟩
      have hu1 : 0 ≤ u ∧ d - p + u ≤ 64 := ⟨by rw [hu]; exact pushes_bounds o a b, by rw [hp, hu]; exact HPU.out⟩
      have HTG2 : Hid (∀ (t : Int), t ∈ iT (o, a, b) i → ∃ n : Nat, t = ↑n ∧ D n = some (d - p + u)) := Lib.hid (by rw [hp, hu]; exact HTG.out)
      rw [← hp, ← hu]
      clear hp hu hpd
      obtain ⟨hp0', hpd'⟩ := hp1
      obtain ⟨hu0', hu64⟩ := hu1
      go_wp2_with fail
      refine (Targets_any o a b i w6 (by omega) (by omega)).mono ?_
      rintro e w7 ⟨T, tc, rfl, htc, hT, hb7, -⟩
      have HB7 := Lib.hid (HB6.out.trans (hb7.mono HB6.out.size))
      have HT := Lib.hid hT
      clear hb7 c0 c1 c2 c3 hT
      obtain ⟨c0, c1, c2, c3⟩ := HCE.out w7 HB7.out
      by_cases htl : targetsI o a b i = []
      · have h25 : o = 25 := iT_nil HV.out htl
        have HTL := Lib.hid htl
        rw [htl] at htc ⊢
        clear htl
        subst h25
        go_wp2_with fail
        go_ret
        exact ⟨rfl, HB4.out.trans (HB7.out.mono HB4.out.size)⟩
      · have hl2 := targets_two o a b i
        have hl1 : 0 < (targetsI o a b i).length := List.length_pos_iff.2 htl
        obtain ⟨l, hl⟩ : ∃ l, l = targetsI o a b i := ⟨_, rfl⟩
        have HTG3 : Hid (∀ t ∈ l, ∃ n : Nat, t = ↑n ∧ D n = some (d - p + u)) := Lib.hid (by rw [hl]; exact HTG2.out)
        rw [← hl] at hl1 hl2 HT htc ⊢
        clear hl htl
        have hlz : ((l.length : Int) == 0) = false := by rw [beq_eq_false_iff_ne]; omega
        go_upto_if 141 with fail
        go_cut [17] from 71 to 161 (fun s17 wx => (∃ ch : Nat, s17 = .int .i64 ch ∧ ch < 2) ∧ wx = w7)
        case first =>
          by_cases hbp : 0 < nb
          rotate_left
          · have hbz : decide (0 < nb) = false := decide_eq_false hbp
            go_wp2_with fail
            go_meet
            exact ⟨⟨0, rfl, by omega⟩, rfl⟩
          · have hbz : decide (0 < nb) = true := decide_eq_true hbp
            obtain ⟨bi, hbi⟩ : ∃ bi : Nat, bi = (k / 64) % nb := ⟨_, rfl⟩
            have hbin : bi < nb := by rw [hbi]; exact Nat.mod_lt _ hbp
            have hbx : bi < xc := by omega
            have hbiz : (((k : Int) / 64) % (nb : Int)) = (bi : Int) := by rw [hbi]; simp
            obtain ⟨xb, xo, v, r', hXA, hxb, hv, hrl, ⟨rfl, hvw⟩, hcells⟩ := HX4.out.get hbin
            have cv : w7.cell? ⟨xb, xo + bi, none⟩ = some (.int .u64 v) := ((bcell HB7.out).1 _ _ hxb).trans (by simpa using hcells 0 _ rfl)
            have HXA := Lib.hid hXA
            clear hbi hcells hv hrl
            subst hXA
            go_wp2_with fail
            go_meet
            exact ⟨bit_two (u64_nonneg hvw).1 _, rfl⟩
        case rest =>
          obtain ⟨⟨ch, rfl, hch⟩, hwx⟩ := hcut
          subst hwx
          obtain ⟨j, hj⟩ : ∃ j : Nat, j = ch % l.length := ⟨_, rfl⟩
          have hjl : j < l.length := by rw [hj]; exact Nat.mod_lt _ hl1
          have hjz : ((ch : Int) % (l.length : Int)) = (j : Int) := by rw [hj]; simp
          have hjc : j < tc := by omega
          obtain ⟨tb, tO, hTA, htb, hcells⟩ := HT.out.get hjl
          obtain ⟨t, ht⟩ : ∃ t, l[j]? = some t := ⟨_, List.getElem?_eq_getElem hjl⟩
          obtain ⟨n', rfl, hDn⟩ := HTG3.out t (List.mem_of_getElem? ht)
          have ct : wc.cell? ⟨tb, tO + j, none⟩ = some (.int .i64 n') := hcells j _ (by simp [ints, ht])
          have HDN := Lib.hid hDn
          clear hj hcells ht hDn c0 c1 c2 c3
          subst hTA
          go_wp2_with fail
          go_roundg q
          case measure => omega
          case rel => exact ⟨n', k + 1, d - p + u, rfl, rfl, by go_num, by omega, by omega, hu64, HDN, HB7.out⟩

theorem open_u64R {H : Type} {enc : TypeId × Value → H} {base : Nat} {spare : Nat → Bool} {held : Bool} (fuel : Nat) (cs : List Value) (x : DataW H × List MemPlace) (_ : cs.length = 1) (h : DataW.trod enc Tryd.prog w base spare held fuel 63 cs = some x) (_ : Wgt Tryd.prog 63 x.1) : ∃ y, U64R w y cs := by
  obtain ⟨p, e1, _, wp⟩ := DataW.trod_int Tryd.underlying63 h
  exact ⟨p, e1, wp⟩
theorem cellsU64 : Tryd.prog.cellsOf 63 = 1 := by kernel_rfl
theorem open_u64s {H : Type} {enc : TypeId × Value → H} {base b0 : Nat} {r : _root_.Go.Reach} {spare : Nat → Bool} {held : Bool} {v : Value} {d : DataW H} {p : List MemPlace} (hv : Value.okWide Tryd.prog w r b0 58 v) (h : DataW.Trod enc Tryd.prog w base spare held 58 v d p) (hw : Wgt Tryd.prog 58 d) :
    ∃ X nb xc bs, v = .slice X nb xc ∧ nb ≤ xc ∧ SlR U64R w 1 X nb bs := by
  obtain ⟨X, l, c, rfl⟩ := Go.WideShapes.okWide_slice Tryd.underlying58 hv
  obtain ⟨fuel, hf⟩ := h
  obtain ⟨A, n, c', e, h1, h2, xs, hxs⟩ := open_slR U64R Tryd.underlying58 cellsU64 (show Tryd.prog.bytesOf 63 = 8 by kernel_rfl) (by omega) (by omega) open_u64R (show DataW.trod enc Tryd.prog w base spare held fuel 58 [.slice X l c] = some (d, p) from hf) hw
  exact ⟨A, n, c', xs, e, h1, hxs⟩
theorem u8_nat {n : Int} (h : (Lit.int .u8 n).wf = true) : ∃ k : Nat, n = k ∧ k ≤ 255 := by
  simp only [Lit.wf, IntKind.min, IntKind.max, IntKind.signed, IntKind.bits, Bool.and_eq_true, decide_eq_true_eq] at h
  simp at h
  exact ⟨n.toNat, by omega, by omega⟩
end
end Go.Proofs.YtdmbcgkfecmakaaDoor
