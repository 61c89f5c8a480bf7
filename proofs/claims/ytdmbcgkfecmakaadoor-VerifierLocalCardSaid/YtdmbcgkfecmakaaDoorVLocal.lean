/- refmeshlaw43.VerifierLocal returns true: the walk. -/
import Derived.Test.YtdmbcgkfecmakaaDoorVReaches
import Derived.Deep.DeepCutAuto
namespace Go.Proofs.YtdmbcgkfecmakaaDoor
set_option linter.unusedVariables false
set_option linter.unusedSimpArgs false
set_option linter.unusedSectionVars false
open Go.RowKit Go.Maps Go.Deep
set_option maxRecDepth 100000

theorem VLocal_few {w : World} {v0 v1 v2 : Value} {A B : Option Addr} {len cap n4 c4 : Nat} (hf : fewB len n4 = false) :
    Calls Tryd.prog 4 #[.agg #[v0, v1, v2, .slice A len cap, .slice B n4 c4]] w fun e w' => e = .returned (.bool true) ∧ Below w.heap.size w w' := by
  have HM := Lib.hid (MBox.new (w := w) (v0 := v0) (v1 := v1) (v2 := v2) (A := A) (B := B) (n := len) (c := cap) (m := n4) (d := c4) 25)
  go_enter Tryd.func4, Tryd.ntmps4
  go_wp2_with fail
  refine (awakeV _).mono ?_
  rintro e w1 ⟨rfl, hb⟩
  obtain ⟨b0, b1, b2, b3, b4, hB, hlt⟩ := HM.out.next hb
  have HB := Lib.hid hB
  clear hB hb HM
  go_wp2_with fail
  refine (few_any _ _ _ _ _ _ _ _ _ _).mono ?_
  rintro e w2 ⟨rfl, hb⟩
  go_wp2
  go_ret
  exact ⟨rfl, HB.out.trans (hb.mono (Nat.le_of_lt hlt))⟩

theorem Valid_yes {n a b : Int} (h : validB n a b = true) (w : World) :
    Calls Tryd.prog 23 #[.agg #[.int .i64 n, .int .i64 a, .int .i64 b]] w fun e w' => e = .returned (.bool true) ∧ Below w.heap.size w w' := by
  have := Valid_any n a b w
  rwa [h] at this

/-- what the last instruction of a sound method is, if it is reached -/
theorem Good.last {c : List Ins} {D : Nat → Option Int} (h : Good c D) {x : Ins} {d : Int} (hx : c[c.length - 1]? = some x) (hd : D (c.length - 1) = some d) : x.1 = 18 ∨ x.1 = 25 := by
  obtain ⟨y, hy, hv, _, _, ht⟩ := h.2 _ d hd
  rw [hx] at hy
  cases hy
  have hlt := h.lt hd
  by_cases h18 : x.1 = 18
  · exact .inl h18
  by_cases h25 : x.1 = 25
  · exact .inr h25
  have hm : ((c.length - 1 : Nat) : Int) + 1 ∈ iT x (c.length - 1) := by
    unfold iV at hv
    unfold iT targetsI
    by_cases h19 : x.1 = 19 ∨ x.1 = 20
    · simp [hv, h25, h18, h19]
    · simp [hv, h25, h18, h19]
  obtain ⟨m, e1, e2⟩ := ht _ hm
  have := h.lt e2
  omega

structure LB (w5 wr : World) : Prop where
  bel : Below w5.heap.size w5 wr

set_option maxHeartbeats 4000000 in
theorem VLocal_main {w : World} {v0 v1 v2 : Value} {A B : Option Addr} {len cap n4 c4 : Nat} (c : List Ins) (hc : c.length = len) (hf : fewB len n4 = true) (hcap : len ≤ cap) (hw : ∀ x ∈ c, (Lit.int .i64 x.1).wf = true ∧ (Lit.int .i64 x.2.1).wf = true ∧ (Lit.int .i64 x.2.2).wf = true) (hcode : Sl w 3 A len (codeCells c)) :
    Calls Tryd.prog 4 #[.agg #[v0, v1, v2, .slice A len cap, .slice B n4 c4]] w fun e w' => e = .returned (.bool true) ∧ Below w.heap.size w w' := by
  have hl : len ≤ 40 := (of_decide_eq_true hf).1
  have HM := Lib.hid (MBox.new (w := w) (v0 := v0) (v1 := v1) (v2 := v2) (A := A) (B := B) (n := len) (c := cap) (m := n4) (d := c4) 25)
  go_enter Tryd.func4, Tryd.ntmps4
  go_wp2_with fail
  refine (awakeV _).mono ?_
  rintro e w1 ⟨rfl, hb⟩
  have HM1 := Lib.hid (HM.out.next hb)
  obtain ⟨b0, b1, b2, b3, b4, _, _⟩ := HM.out.next hb
  clear hb HM
  go_wp2_with fail
  refine (few_any _ _ _ _ _ _ _ _ _ _).mono ?_
  rintro e w2 ⟨rfl, hb⟩
  have HM2 := Lib.hid (HM1.out.next hb)
  obtain ⟨b0', b1', b2', b3', b4', _, _⟩ := HM1.out.next hb
  clear hb HM1 b0 b1 b2 b3 b4
  go_wp2_with fail
  refine (Depths_any c hc (by omega) hw (hcode.box rfl HM2.out.bel)).mono ?_
  rintro e w3 ⟨f, sound, most, hfin, hb, hno, hyes⟩
  have HM3 := Lib.hid (HM2.out.next hb)
  have HFIN := Lib.hid hfin
  obtain ⟨b0, b1, b2, b3, b4, _, _⟩ := HM2.out.next hb
  clear hb HM2 b0' b1' b2' b3' b4' hfin
  rcases sound with _ | _
  · obtain rfl := hno rfl
    clear hno hyes
    go_wp2
    go_ret
    exact ⟨rfl, HM3.out.bel⟩
  · obtain ⟨R, rcap, rfl, hR, hrc, hsl⟩ := hyes rfl
    have HSL := Lib.hid hsl
    clear hno hyes hsl
    go_wp2_with fail
    refine (MaxDepth_any c hc (by omega) hw (hcode.box rfl HM3.out.bel)).mono ?_
    rintro e w4 ⟨f', sound', most', hfin', hb, hno', hyes'⟩
    rcases sound' with _ | _
    · exact absurd (HFIN.out.good rfl) (hfin'.bad rfl f)
    · obtain rfl := hyes' rfl
      have hff : f' = f := least_eq (hfin'.good rfl) (HFIN.out.good rfl) (hfin'.forced rfl) (HFIN.out.forced rfl)
      subst hff
      have hmm : mxTo c f' len = most' := by rw [← hc]; exact hfin'.most_eq
      have HF := Lib.hid hfin'
      have m0 : 0 ≤ most' := hfin'.most0
      have m64 : most' ≤ 64 := hfin'.most64 rfl
      have HMM := Lib.hid hmm
      have HM4 := Lib.hid (HM3.out.next hb)
      have HSL4 := Lib.hid (HSL.out.below hb)
      have HC4 := Lib.hid (hcode.box rfl (HM3.out.next hb).bel)
      obtain ⟨b0', b1', b2', b3', b4', _, _⟩ := HM3.out.next hb
      have hlen : 0 < len := by rw [← hc]; exact hfin'.lt 0 0 (hfin'.good rfl).1 |> fun h => by omega
      have hlen0 : ((len : Int) == 0) = false := by simp; omega
      obtain ⟨xl, hxl⟩ : ∃ x, c[len - 1]? = some x := ⟨_, List.getElem?_eq_getElem (by omega)⟩
      obtain ⟨hx0, hx1, hx2⟩ := codeCells_get c (len - 1) xl hxl
      obtain ⟨cb, co, hA, hbl, hcc⟩ := HC4.out.get (k := 0) hlen
      subst hA
      have y0 : w4.cell? ⟨cb, co + (len - 1) * 3, none⟩ = some (.int .i64 xl.1) := hcc _ _ hx0
      have y1 : w4.cell? ⟨cb, co + (len - 1) * 3 + 1, none⟩ = some (.int .i64 xl.2.1) := hcc _ _ hx1
      have y2 : w4.cell? ⟨cb, co + (len - 1) * 3 + 2, none⟩ = some (.int .i64 xl.2.2) := hcc _ _ hx2
      obtain ⟨bR, oR, hA', hbR, hcR⟩ := HSL4.out.get (k := 0) hlen
      cases hA'
      have d0 : w4.cell? ⟨R, 0, none⟩ = some (.int .i64 0) := by
        have := hcR 0 (.int .i64 0) (by simp [ints, depthL, hlen, (hfin'.good rfl).1])
        simpa using this
      have dl : w4.cell? ⟨R, len - 1, none⟩ = some (.int .i64 ((f' (len - 1)).getD (-1))) := by
        have := hcR (len - 1) (.int .i64 ((f' (len - 1)).getD (-1))) (by simp [ints, depthL, show len - 1 < len by omega])
        simpa using this
      have hrl : len - 1 < rcap := by omega
      have hr0 : 0 < rcap := by omega
      have hcl : len - 1 < cap := by omega
      have hlast : ∀ d, f' (len - 1) = some d → 0 ≤ d ∧ (xl.1 = 18 ∨ xl.1 = 25) := fun d hd => by
        obtain ⟨d', hd', h0⟩ := (hfin'.good rfl).reach ((hfin'.reach (len - 1)).1 (by rw [hd]; rfl))
        rw [hd] at hd'
        cases hd'
        exact ⟨h0, (hfin'.good rfl).last (by rw [hc]; exact hxl) (by rw [hc]; exact hd)⟩
      have HLAST := Lib.hid hlast
      have hwl : IntKind.i64.wrap ((len : Int) - 1) = (len : Int) - 1 := IntWalk.i64_in _ (by omega)
      have hzR : R < w4.heap.size := hbR
      have hzc : cb < w4.heap.size := hbl
      have hzN := HM4.out.lt
      clear hb HM3 b0 b1 b2 b3 b4 hfin' hno' hyes' HSL hmm hcc hx0 hx1 hx2 hcR hlast HFIN hxl hbR hbl
      go_upto_region 12 with fail
      go_cut [84] from 68 to 84 (fun s wx => s = .bool false ∧ wx = w4.alloc (.cells #[.int .i64 xl.1, .int .i64 xl.2.1, .int .i64 xl.2.2] 39))
      case first =>
        cases hfl : f' (len - 1) with
        | none =>
          rw [hfl] at dl
          simp only [Option.getD_none] at dl
          clear hfl
          go_wp2
          go_meet
          exact ⟨rfl, rfl⟩
        | some d =>
          rw [hfl] at dl
          simp only [Option.getD_some] at dl
          obtain ⟨hd0, h1825⟩ := HLAST.out d hfl
          clear hfl
          rcases h1825 with h | h
          · have hb18 : (xl.1 != 18) = false := by simp [h]
            clear h
            go_wp2
            go_meet
            exact ⟨rfl, rfl⟩
          · have hb18 : (xl.1 != 18) = true := by simp [h]
            have hb25 : (xl.1 != 25) = false := by simp [h]
            clear h
            go_wp2
            go_meet
            exact ⟨rfl, rfl⟩
      case rest =>
        obtain ⟨rfl, rfl⟩ := hcut
        have hbel5 : Below w4.heap.size w4 (w4.alloc (.cells #[.int .i64 xl.1, .int .i64 xl.2.1, .int .i64 xl.2.2] 39)) := (Below.refl _ _).alloc (Nat.le_refl _) _
        have HB5 := Lib.hid hbel5
        have HGOOD := Lib.hid (HF.out.good rfl)
        have HREACH := Lib.hid HF.out.reach
        have HLE := Lib.hid (HF.out.mostLe rfl)
        have HCL := Lib.hid hc
        clear hbel5 b0' b1' b2' b4' y0 y1 y2 d0 dl hlen0 hwl hrl hr0 hcl HLAST hc b3'
        go_wp2_with fail
        go_loopg [8, 9] (len) (fun q s i wr => ∃ k, i = .int .i64 (k : Nat) ∧ k + q = len ∧ s = .int .i64 (mxTo c f' k) ∧ Below w4.heap.size w4 wr)
        case atStart => exact ⟨0, rfl, by omega, rfl, HB5.out⟩
        case round =>
          obtain ⟨k, rfl, hkq, rfl, hB⟩ := hrel
          cases gk with
          | zero =>
            obtain rfl : k = len := hkq
            have HB := Lib.hid hB
            have he : (mxTo c f' k == most') = true := by rw [HMM.out]; simp
            clear hB
            go_wp2
            go_ret
            exact ⟨rfl, HM4.out.bel.trans (HB.out.mono (Nat.le_of_lt HM4.out.lt))⟩
          | succ q =>
            have hkl : k < len := by omega
            have hs4 := hB.size
            obtain ⟨bR, oR, hA', hbR, hcR⟩ := HSL4.out.get hkl
            cases hA'
            have cR : wr.cell? ⟨R, k, none⟩ = some (.int .i64 ((f' k).getD (-1))) := by
              have := (hB.cell (p := ⟨R, 0 + k, none⟩) hbR).trans (hcR k (.int .i64 ((f' k).getD (-1))) (by simp [ints, depthL, hkl]))
              rwa [Nat.zero_add] at this
            have hkr : k < rcap := by omega
            have hkc : k < cap := by omega
            cases hfk : f' k with
            | none =>
              rw [hfk] at cR
              simp only [Option.getD_none] at cR
              have HB := Lib.hid hB
              have HFK := Lib.hid hfk
              clear hB hfk hcR
              go_wp2_with fail
              go_roundg q
              case measure => omega
              case rel => exact ⟨k + 1, by go_num, by omega, by rw [mxTo, HFK.out], HB.out⟩
            | some d =>
              rw [hfk] at cR
              simp only [Option.getD_some] at cR
              obtain ⟨x, hx, hv, hpd, h64, hts⟩ := HGOOD.out.2 k d hfk
              obtain ⟨hx0, hx1, hx2⟩ := codeCells_get c k x hx
              obtain ⟨cb', co', hA2, hbl, hcc⟩ := HC4.out.get hkl
              cases hA2
              have x0 : wr.cell? ⟨cb, co + k * 3, none⟩ = some (.int .i64 x.1) := (hB.cell (p := ⟨cb, co + k * 3, none⟩) hbl).trans (hcc _ _ hx0)
              have x1 : wr.cell? ⟨cb, co + k * 3 + 1, none⟩ = some (.int .i64 x.2.1) := (hB.cell (p := ⟨cb, co + k * 3 + 1, none⟩) hbl).trans (hcc _ _ hx1)
              have x2 : wr.cell? ⟨cb, co + k * 3 + 2, none⟩ = some (.int .i64 x.2.2) := (hB.cell (p := ⟨cb, co + k * 3 + 2, none⟩) hbl).trans (hcc _ _ hx2)
              have b3 : wr.cell? ⟨w.heap.size, 3, none⟩ = some (.slice (some ⟨cb, co, none⟩) len cap) := (hB.cell (p := ⟨w.heap.size, 3, none⟩) hzN).trans HM4.out.b3
              obtain ⟨d', hd', hd0⟩ := HGOOD.out.reach ((HREACH.out k).1 (by rw [hfk]; rfl))
              rw [hfk] at hd'
              obtain rfl := Option.some.inj hd'
              have hp := iP_bounds x
              have q0 : 0 ≤ popsI x.1 x.2.1 x.2.2 := hp.1
              have q1 : popsI x.1 x.2.1 x.2.2 ≤ 32 := hp.2.1
              have q2 : 0 ≤ pushesI x.1 x.2.1 x.2.2 := hp.2.2.1
              have q3 : pushesI x.1 x.2.1 x.2.2 ≤ 1 := hp.2.2.2
              have q4 : popsI x.1 x.2.1 x.2.2 ≤ d := hpd
              have q5 : d ≤ most' := (HLE.out k d x hfk hx).1
              have q6 : d - popsI x.1 x.2.1 x.2.2 + pushesI x.1 x.2.1 x.2.2 ≤ most' := (HLE.out k d x hfk hx).2
              have HV : Hid (validB x.1 x.2.1 x.2.2 = true) := hv
              have HTS := Lib.hid hts
              have HX := Lib.hid hx
              have HFK := Lib.hid hfk
              have hmx := fun W => run_max3 (P := Tryd.prog) #[3, 3, 3] 3 (mxTo c f' k) d (d - popsI x.1 x.2.1 x.2.2 + pushesI x.1 x.2.1 x.2.2) W
              obtain ⟨wo, rfl⟩ : ∃ wo : World, wo = wr := ⟨_, rfl⟩
              have HB := Lib.hid hB
              have hzR' : R < wo.heap.size := by omega
              have hzc' : cb < wo.heap.size := by omega
              have hzN' : w.heap.size < wo.heap.size := by omega
              clear hB hfk hcR hx hv hpd h64 hts hx0 hx1 hx2 hcc hbl hp hd'
              go_wp2_with fail
              refine (Effect_any _ _ _ _).mono ?_
              rintro e w6 ⟨rfl, hb6⟩
              have z6 := hb6.size
              have cR6 := (hb6.cell (p := ⟨R, k, none⟩) hzR').trans cR
              have x06 := (hb6.cell (p := ⟨cb, co + k * 3, none⟩) hzc').trans x0
              have x16 := (hb6.cell (p := ⟨cb, co + k * 3 + 1, none⟩) hzc').trans x1
              have x26 := (hb6.cell (p := ⟨cb, co + k * 3 + 2, none⟩) hzc').trans x2
              have b36 := (hb6.cell (p := ⟨w.heap.size, 3, none⟩) hzN').trans b3
              have HB6 := Lib.hid (HB.out.trans (hb6.mono hs4))
              have hs6 := HB6.out.size
              clear hb6 cR x0 x1 x2 b3 HB
              go_wp2_with fail
              refine (Valid_yes HV.out _).mono ?_
              rintro e w7 ⟨rfl, hb7⟩
              have cR7 := ((bcell hb7).1 R (k) (by omega)).trans cR6
              have x07 := ((bcell hb7).1 cb (co + k * 3) (by omega)).trans x06
              have x17 := ((bcell hb7).1 cb (co + k * 3 + 1) (by omega)).trans x16
              have x27 := ((bcell hb7).1 cb (co + k * 3 + 2) (by omega)).trans x26
              have b37 := ((bcell hb7).1 w.heap.size (3) (by omega)).trans b36
              have HB7 := Lib.hid (HB6.out.trans (hb7.mono hs6))
              clear hb7 cR6 x06 x16 x26 b36 HB6
              go_wp2_with fail
              refine (Targets_ex _ _ _ _ _ (by omega) (by omega)).mono ?_
              rintro e w8 ⟨ts, HT, A8, c8, rfl, hc8, hs8, hb8, hA8⟩
              have cell8 : ∀ n : Nat, n < len → w8.cell? ⟨R, n, none⟩ = some (.int .i64 ((f' n).getD (-1))) := fun n hn => by
                obtain ⟨bR, oR, hA', hbR, hcR⟩ := HSL4.out.get hn
                cases hA'
                have := ((HB7.out.trans (hb8.mono (by have := HB7.out.size; omega))).cell (p := ⟨R, 0 + n, none⟩) hbR).trans (hcR n (.int .i64 ((f' n).getD (-1))) (by simp [ints, depthL, hn]))
                rwa [Nat.zero_add] at this
              have HC8 := Lib.hid cell8
              have HB8 := Lib.hid (HB7.out.trans (hb8.mono (by have := HB7.out.size; omega)))
              have HS8 := Lib.hid hs8
              have hlen2 : ts.length ≤ 2 := by rw [HT.out]; exact targetsI_len _ _ _ _
              clear cell8 hs8 hb8 hA8 HB7 cR7 x07 x17 x27 b37
              go_wp2_with fail
              obtain ⟨qo, hqo⟩ : ∃ qo, qo = q := ⟨q, rfl⟩
              subst hqo
              go_loopg [14] (ts.length) (fun q i wr => ∃ j, i = .int .i64 (j : Nat) ∧ j + q = ts.length ∧ wr = w8)
              case atStart => exact ⟨0, rfl, by omega, rfl⟩
              case round =>
                obtain ⟨j, rfl, hjq, rfl⟩ := hrel
                cases gk with
                | zero =>
                  obtain rfl : j = ts.length := hjq
                  go_wp2_with fail
                  go_roundg qo
                  case measure => omega
                  case rel => exact ⟨k + 1, by go_num, by omega, by rw [mxTo, HFK.out, HX.out]; rfl, HB8.out⟩
                | succ p =>
                  have hjl : j < ts.length := by omega
                  obtain ⟨tb, tof, rfl, htb, htc⟩ := HS8.out.get hjl
                  obtain ⟨t, ht⟩ : ∃ t, ts[j]? = some t := ⟨_, List.getElem?_eq_getElem hjl⟩
                  have ct : wr.cell? ⟨tb, tof + j, none⟩ = some (.int .i64 t) := htc j _ (by simp [ints, ht])
                  obtain ⟨n, rfl, hn⟩ := HTS.out t (by have := HT.out; rw [this] at ht; exact List.mem_of_getElem? ht)
                  have hnl : n < len := by rw [← HCL.out]; exact HGOOD.out.lt hn
                  have cn := HC8.out n hnl
                  rw [hn] at cn
                  simp only [Option.getD_some] at cn
                  have cn' : wr.cell? ⟨R, n, none⟩ = some (.int .i64 (d - popsI x.1 x.2.1 x.2.2 + pushesI x.1 x.2.1 x.2.2)) := cn
                  have hj8 : j < c8 := by omega
                  have hnr : n < rcap := by omega
                  clear ht hn htc cn htb
                  go_wp2_with fail
                  go_roundg p
                  case measure => omega
                  case rel => exact ⟨j + 1, by go_num, by omega, rfl⟩
end Go.Proofs.YtdmbcgkfecmakaaDoor
