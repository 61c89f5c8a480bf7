/- refmeshref41.Line. -/
import Derived.Test.YtdmbcgkfecmakaaDoorRDec
import Derived.Test.YtdmbcgkfecmakaaDoorFormat
import Derived.Test.YtdmbcgkfecmakaaDoorLawInstr
namespace Go.Proofs.YtdmbcgkfecmakaaDoor
set_option linter.unusedVariables false
set_option linter.unusedSimpArgs false
set_option linter.unusedSectionVars false
open Go.RowKit Go.Sort
set_option maxRecDepth 100000

section
variable {w : World} {a b : Int} {v0 v1 v2 v3 : Value} {B : Option Addr} {m d : Nat} {ns : List ByteArray}
theorem rname_any (a0 : 0 ≤ a) (a1 : a ≤ 9223372036854775807) (hm : ns.length = m) (hd : m ≤ d) (hs : Sl w 1 B m (strs ns)) :
    Calls Tryd.prog 85 #[.agg #[v0, v1, v2, v3, .slice B m d], .int .i64 a] w fun e w' => e = .returned (.string (nameB ns a)) ∧ Below w.heap.size w w' := by
  by_cases h : a < (m : Int)
  · obtain ⟨k, rfl⟩ := Int.eq_ofNat_of_zero_le a0
    have hk : k < m := by omega
    obtain ⟨bb, o, rfl, hb1, hc1⟩ := hs.get hk
    obtain ⟨x, hx⟩ : ∃ x, ns[k]? = some x := ⟨_, List.getElem?_eq_getElem (by omega)⟩
    have c1 : w.cell? ⟨bb, o + k, none⟩ = some (.string x) := hc1 k _ (by simp [strs, hx])
    have hkd : k < d := by omega
    have hn : nameB ns k = x := by unfold nameB; rw [if_pos (by omega)]; simp [hx]
    have HN := Lib.hid hn
    have HM := Lib.hid hm
    clear hs hc1 hm hn hx
    go_enter Tryd.func85, Tryd.ntmps85
    go_wp2
    go_ret
    exact ⟨by rw [HN.out]; rfl, (Below.refl _ _).alloc (Nat.le_refl _) _⟩
  · have hn : nameB ns a = ⟨#[63]⟩ := by unfold nameB; rw [if_neg (by omega)]
    have HN := Lib.hid hn
    clear hn hs hm
    go_enter Tryd.func85, Tryd.ntmps85
    go_wp2
    go_ret
    exact ⟨by rw [HN.out]; rfl, (Below.refl _ _).alloc (Nat.le_refl _) _⟩
end
def operCells : Array Value := (strs ((List.range 11).map operB)).toArray
set_option maxHeartbeats 1000000 in
theorem Operators_any (w : World) : Calls Tryd.prog 86 #[] w fun e w' => ∃ g, e = .returned (.slice (some ⟨g, 0, none⟩) 11 11) ∧ Bk w' g 9 operCells ∧ Below w.heap.size w w' := by
  have hc : operCells = #[.string (operB 0), .string (operB 1), .string (operB 2), .string (operB 3), .string (operB 4), .string (operB 5), .string (operB 6), .string (operB 7), .string (operB 8), .string (operB 9), .string (operB 10)] := rfl
  have HC := Lib.hid hc
  clear hc
  go_enter Tryd.func86, Tryd.ntmps86
  go_wp2
  go_ret
  exact ⟨_, rfl, by rw [HC.out]; exact Bk.new _ _ _, (Below.refl _ _).alloc (Nat.le_refl _) _⟩

theorem valid_pos {k : Nat} {a b : Int} (hv : validB k a b = true) (h0 : k ≠ 0) : 0 ≤ a := by
  obtain ⟨j, hj, hj2, hl, _⟩ := validB_some hv
  have hjk : j = k := by omega
  subst hjk
  have : 0 ≤ opLeast j := by
    have hall : ((List.range 26).all fun i => i == 0 || decide (0 ≤ opLeast i)) = true := by decide +kernel
    have := List.all_eq_true.1 hall j (by simpa using hj2)
    simp only [Bool.or_eq_true, beq_iff_eq, decide_eq_true_eq] at this
    rcases this with h | h
    · exact absurd h h0
    · exact h
  omega
theorem RValid_yes {n a b : Int} (h : validB n a b = true) (w : World) :
    Calls Tryd.prog 37 #[.agg #[.int .i64 n, .int .i64 a, .int .i64 b]] w fun e w' => e = .returned (.bool true) ∧ Below w.heap.size w w' := by
  have := RValid_any n a b w
  rwa [h] at this
theorem RValid_no {n a b : Int} (h : validB n a b = false) (w : World) :
    Calls Tryd.prog 37 #[.agg #[.int .i64 n, .int .i64 a, .int .i64 b]] w fun e w' => e = .returned (.bool false) ∧ Below w.heap.size w w' := by
  have := RValid_any n a b w
  rwa [h] at this

section
variable {w : World} {v0 v1 v2 : Value} {A B : Option Addr} {len cap m d : Nat} {xo xa xb : Int}
set_option maxHeartbeats 4000000 in
theorem RLine_no (hv : validB xo xa xb = false) (c : List Ins) (ns : List ByteArray) (k : Nat) (hkl : k < len) (hl : len ≤ 10000) (hx : c[k]? = some (xo, xa, xb)) (hcap : len ≤ cap) (hwf : (Lit.int .i64 xo).wf = true ∧ (Lit.int .i64 xa).wf = true ∧ (Lit.int .i64 xb).wf = true) (hcode : Sl w 3 A len (codeCells c))
    (hm : ns.length = m) (hd : m ≤ d) (hs : Sl w 1 B m (strs ns)) (hsz : ∀ x ∈ ns, x.size ≤ 1000000) (ht : Tabs w) :
    Calls Tryd.prog 53 #[.agg #[v0, v1, v2, .slice A len cap, .slice B m d], .int .i64 (k : Int)] w fun e w' => e = .returned (.string (lineB ns k (xo, xa, xb))) ∧ Below w.heap.size w w' := by
  obtain ⟨hx0, hx1, hx2⟩ := codeCells_get c k (xo, xa, xb) hx
  obtain ⟨cb, co, rfl, hbl, hcc⟩ := hcode.get hkl
  have x0 : w.cell? ⟨cb, co + k * 3, none⟩ = some (.int .i64 xo) := hcc _ _ hx0
  have x1 : w.cell? ⟨cb, co + k * 3 + 1, none⟩ = some (.int .i64 xa) := hcc _ _ hx1
  have x2 : w.cell? ⟨cb, co + k * 3 + 2, none⟩ = some (.int .i64 xb) := hcc _ _ hx2
  have ba := i64_of_wf hwf.2.1
  have bb := i64_of_wf hwf.2.2
  have hkc : k < cap := by omega
  have hne : cb ≠ w.heap.size := by omega
  have hds := dec_size (k : Int) (by omega) (by omega)
  have hds1 : ¬ 9223372036854775807 < (dec k).size + 1 := by omega
  have hts := textB_size hsz xo.toNat ba.1 ba.2 bb.1 bb.2
  have hos := opName_size xo.toNat
  have hi0 : Bk ((w.alloc (.cells #[v0, v1, v2, .slice (some ⟨cb, co, none⟩) len cap, .slice B m d] 25)).alloc (.cells #[.int .i64 xo, .int .i64 xa, .int .i64 xb] 39)) (w.heap.size + 1) 39 #[.int .i64 xo, .int .i64 xa, .int .i64 xb] := by
    have := Bk.new (w.alloc (.cells #[v0, v1, v2, .slice (some ⟨cb, co, none⟩) len cap, .slice B m d] 25)) 39 #[.int .i64 xo, .int .i64 xa, .int .i64 xb]
    simpa using this
  have hm0 : Bk ((w.alloc (.cells #[v0, v1, v2, .slice (some ⟨cb, co, none⟩) len cap, .slice B m d] 25)).alloc (.cells #[.int .i64 xo, .int .i64 xa, .int .i64 xb] 39)) w.heap.size 25 #[v0, v1, v2, .slice (some ⟨cb, co, none⟩) len cap, .slice B m d] := (Bk.new _ _ _).alloc _
  have hb0 : Below w.heap.size w ((w.alloc (.cells #[v0, v1, v2, .slice (some ⟨cb, co, none⟩) len cap, .slice B m d] 25)).alloc (.cells #[.int .i64 xo, .int .i64 xa, .int .i64 xb] 39)) := ((Below.refl _ _).alloc (Nat.le_refl _) _).alloc (by simp) _
  have HI0 := Lib.hid hi0
  have HM0 := Lib.hid hm0
  have HB0 := Lib.hid hb0
  have HNS := Lib.hid hs
  have HTT := Lib.hid ht
  have HM := Lib.hid hm
  clear hx hx0 hx1 hx2 hcc hcode hwf hi0 hm0 hb0 hs ht hm
  go_enter Tryd.func53, Tryd.ntmps53
  go_wp2_with fail
  refine (Decimal_any k (by omega) (by omega) _).mono ?_
  rintro e w1 ⟨rfl, hb1⟩
  have hi1 := HI0.out.below hb1 HI0.out.lt
  have hm1 := HM0.out.below hb1 HM0.out.lt
  have HB1 := Lib.hid (HB0.out.trans (hb1.mono HB0.out.size))
  have i0 : w1.cell? ⟨w.heap.size + 1, 0, none⟩ = some (.int .i64 xo) := hi1.cell 0
  have i1 : w1.cell? ⟨w.heap.size + 1, 1, none⟩ = some (.int .i64 xa) := hi1.cell 1
  have i2 : w1.cell? ⟨w.heap.size + 1, 2, none⟩ = some (.int .i64 xb) := hi1.cell 2
  have HI1 := Lib.hid hi1
  have HM1 := Lib.hid hm1
  clear hb1 hi1 hm1 x0 x1 x2 HI0 HM0 HB0
  have hln : lineB ns k (xo, xa, xb) = dec k ++ ⟨#[32]⟩ ++ ⟨#[63]⟩ := by simp [lineB, iV, hv, spB]
  have HLN := Lib.hid hln
  have HV := Lib.hid hv
  have hd2 : ¬ 9223372036854775807 < (dec k).size + 1 + 1 := by omega
  clear hln hv hds
  go_wp2_with fail
  refine (RValid_no HV.out _).mono ?_
  rintro e w2 ⟨rfl, hb2⟩
  go_wp2
  go_ret
  exact ⟨by rw [HLN.out]; rfl, HB1.out.trans (hb2.mono HB1.out.size)⟩

set_option maxHeartbeats 4000000 in
theorem RLine_none (kk : Nat) (hkk : kk < 26) (hv : validB kk xa xb = true) (hT : hasText kk = false) (c : List Ins) (ns : List ByteArray) (k : Nat) (hkl : k < len) (hl : len ≤ 10000) (hx : c[k]? = some ((kk : Int), xa, xb)) (hcap : len ≤ cap) (hwf : (Lit.int .i64 (kk : Int)).wf = true ∧ (Lit.int .i64 xa).wf = true ∧ (Lit.int .i64 xb).wf = true) (hcode : Sl w 3 A len (codeCells c))
    (hm : ns.length = m) (hd : m ≤ d) (hs : Sl w 1 B m (strs ns)) (hsz : ∀ x ∈ ns, x.size ≤ 1000000) (ht : Tabs w) :
    Calls Tryd.prog 53 #[.agg #[v0, v1, v2, .slice A len cap, .slice B m d], .int .i64 (k : Int)] w fun e w' => e = .returned (.string (lineB ns k ((kk : Int), xa, xb))) ∧ Below w.heap.size w w' := by
  obtain ⟨hx0, hx1, hx2⟩ := codeCells_get c k ((kk : Int), xa, xb) hx
  obtain ⟨cb, co, rfl, hbl, hcc⟩ := hcode.get hkl
  have x0 : w.cell? ⟨cb, co + k * 3, none⟩ = some (.int .i64 (kk : Int)) := hcc _ _ hx0
  have x1 : w.cell? ⟨cb, co + k * 3 + 1, none⟩ = some (.int .i64 xa) := hcc _ _ hx1
  have x2 : w.cell? ⟨cb, co + k * 3 + 2, none⟩ = some (.int .i64 xb) := hcc _ _ hx2
  have ba := i64_of_wf hwf.2.1
  have bb := i64_of_wf hwf.2.2
  have hkc : k < cap := by omega
  have hne : cb ≠ w.heap.size := by omega
  have hds := dec_size (k : Int) (by omega) (by omega)
  have hds1 : ¬ 9223372036854775807 < (dec k).size + 1 := by omega
  have hts := textB_size hsz ((kk : Int)).toNat ba.1 ba.2 bb.1 bb.2
  have hos := opName_size ((kk : Int)).toNat
  have hi0 : Bk ((w.alloc (.cells #[v0, v1, v2, .slice (some ⟨cb, co, none⟩) len cap, .slice B m d] 25)).alloc (.cells #[.int .i64 (kk : Int), .int .i64 xa, .int .i64 xb] 39)) (w.heap.size + 1) 39 #[.int .i64 (kk : Int), .int .i64 xa, .int .i64 xb] := by
    have := Bk.new (w.alloc (.cells #[v0, v1, v2, .slice (some ⟨cb, co, none⟩) len cap, .slice B m d] 25)) 39 #[.int .i64 (kk : Int), .int .i64 xa, .int .i64 xb]
    simpa using this
  have hm0 : Bk ((w.alloc (.cells #[v0, v1, v2, .slice (some ⟨cb, co, none⟩) len cap, .slice B m d] 25)).alloc (.cells #[.int .i64 (kk : Int), .int .i64 xa, .int .i64 xb] 39)) w.heap.size 25 #[v0, v1, v2, .slice (some ⟨cb, co, none⟩) len cap, .slice B m d] := (Bk.new _ _ _).alloc _
  have hb0 : Below w.heap.size w ((w.alloc (.cells #[v0, v1, v2, .slice (some ⟨cb, co, none⟩) len cap, .slice B m d] 25)).alloc (.cells #[.int .i64 (kk : Int), .int .i64 xa, .int .i64 xb] 39)) := ((Below.refl _ _).alloc (Nat.le_refl _) _).alloc (by simp) _
  have HI0 := Lib.hid hi0
  have HM0 := Lib.hid hm0
  have HB0 := Lib.hid hb0
  have HNS := Lib.hid hs
  have HTT := Lib.hid ht
  have HM := Lib.hid hm
  clear hx hx0 hx1 hx2 hcc hcode hwf hi0 hm0 hb0 hs ht hm
  go_enter Tryd.func53, Tryd.ntmps53
  go_wp2_with fail
  refine (Decimal_any k (by omega) (by omega) _).mono ?_
  rintro e w1 ⟨rfl, hb1⟩
  have hi1 := HI0.out.below hb1 HI0.out.lt
  have hm1 := HM0.out.below hb1 HM0.out.lt
  have HB1 := Lib.hid (HB0.out.trans (hb1.mono HB0.out.size))
  have i0 : w1.cell? ⟨w.heap.size + 1, 0, none⟩ = some (.int .i64 (kk : Int)) := hi1.cell 0
  have i1 : w1.cell? ⟨w.heap.size + 1, 1, none⟩ = some (.int .i64 xa) := hi1.cell 1
  have i2 : w1.cell? ⟨w.heap.size + 1, 2, none⟩ = some (.int .i64 xb) := hi1.cell 2
  have HI1 := Lib.hid hi1
  have HM1 := Lib.hid hm1
  clear hb1 hi1 hm1 x0 x1 x2 HI0 HM0 HB0
  simp only [Int.toNat_natCast] at hts hos
  have HV := Lib.hid hv
  have hd2 : ¬ 9223372036854775807 < (dec k).size + 1 + (opName kk).size := by omega
  go_wp2_with fail
  refine (RValid_yes HV.out _).mono ?_
  rintro e w2 ⟨rfl, hb2⟩
  have hi2 := HI1.out.below hb2 HI1.out.lt
  have hm2 := HM1.out.below hb2 HM1.out.lt
  have HB2 := Lib.hid (HB1.out.trans (hb2.mono HB1.out.size))
  have j0 : w2.cell? ⟨w.heap.size + 1, 0, none⟩ = some (.int .i64 kk) := hi2.cell 0
  have hz2 := hi2.lt
  have HI2 := Lib.hid hi2
  have HM2 := Lib.hid hm2
  have hcc : rnameCells[kk]? = some (.string (opName kk)) := by simp [rnameCells, strs, rnames, hkk]
  have HCC := Lib.hid hcc
  have hk25 : kk < 26 := hkk
  clear hb2 hi2 hm2 i0 i1 i2 HI1 HM1 hv hcc
  go_upto_region 5 with fail
  go_cut [6] from 20 to 26 (fun s6 wx => s6 = .string (dec k ++ ⟨#[32]⟩ ++ opName kk) ∧ Below w2.heap.size w2 wx)
  case first =>
    go_region_with (go_at_call 36; refine (RNames_below _).mono ?_; rintro e w6 ⟨g6, rfl, hbk6, hb6⟩; have d0 := ((bcell hb6).1 _ 0 hz2).trans j0; have r6 : w6.cell? ⟨g6, kk, none⟩ = some (.string (opName kk)) := (hbk6.cell kk).trans HCC.out)
    all_goals
      go_wp2_with fail
      go_meet
      exact ⟨rfl, (Below.refl _ _).drew.trans hb6⟩
  case rest =>
    obtain ⟨rfl, hb3⟩ := hcut
    have hi3 := HI2.out.below hb3 HI2.out.lt
    have hm3 := HM2.out.below hb3 HM2.out.lt
    have HB3 := Lib.hid (HB2.out.trans (hb3.mono HB2.out.size))
    have hT3 := HTT.out.below HB3.out
    have hN3 := HNS.out.below HB3.out
    have i0 : wc.cell? ⟨w.heap.size + 1, 0, none⟩ = some (.int .i64 kk) := hi3.cell 0
    have i1 : wc.cell? ⟨w.heap.size + 1, 1, none⟩ = some (.int .i64 xa) := hi3.cell 1
    have i2 : wc.cell? ⟨w.heap.size + 1, 2, none⟩ = some (.int .i64 xb) := hi3.cell 2
    have m0 : wc.cell? ⟨w.heap.size, 0, none⟩ = some v0 := hm3.cell 0
    have m1 : wc.cell? ⟨w.heap.size, 1, none⟩ = some v1 := hm3.cell 1
    have m2 : wc.cell? ⟨w.heap.size, 2, none⟩ = some v2 := hm3.cell 2
    have m3 : wc.cell? ⟨w.heap.size, 3, none⟩ = some (.slice (some ⟨cb, co, none⟩) len cap) := hm3.cell 3
    have m4 : wc.cell? ⟨w.heap.size, 4, none⟩ = some (.slice B m d) := hm3.cell 4
    have s1 : ¬ 9223372036854775807 < (dec k).size + 1 + (opName kk).size + 1 := by omega
    have sa := dec_size xa ba.1 ba.2
    have sb := dec_size xb bb.1 bb.2
    have sn := nameB_size hsz xa
    have HT3 := Lib.hid hT3
    have HN3 := Lib.hid hN3
    have HI3 := Lib.hid hi3
    have hpos := valid_pos HV.out
    clear hb3 j0 HI2 HM2 hT3 hN3 hm3 hi3 hd2
    have hln : lineB ns k (kk, xa, xb) = dec k ++ ⟨#[32]⟩ ++ opName kk := by simp [lineB, iV, HV.out, spB, hT]
    have hh : kk = 1 ∨ kk = 2 ∨ kk = 5 ∨ kk = 12 ∨ kk = 13 ∨ kk = 14 ∨ kk = 15 ∨ kk = 17 ∨ kk = 22 ∨ kk = 23 ∨ kk = 25 := by
      simp [hasText] at hT
      omega
    have HLN := Lib.hid hln
    clear hT hln hpos
    rcases hh with rfl | rfl | rfl | rfl | rfl | rfl | rfl | rfl | rfl | rfl | rfl
    all_goals
      go_wp2_with fail
      go_ret
      exact ⟨by rw [HLN.out]; rfl, HB3.out⟩

set_option maxHeartbeats 4000000 in
theorem RLine_num (kk : Nat) (hkk : kk < 26) (hv : validB kk xa xb = true) (hT : hasText kk = true) (hh : kk = 0 ∨ kk = 3 ∨ kk = 4 ∨ kk = 7 ∨ kk = 9 ∨ kk = 18 ∨ kk = 19 ∨ kk = 20) (c : List Ins) (ns : List ByteArray) (k : Nat) (hkl : k < len) (hl : len ≤ 10000) (hx : c[k]? = some ((kk : Int), xa, xb)) (hcap : len ≤ cap) (hwf : (Lit.int .i64 (kk : Int)).wf = true ∧ (Lit.int .i64 xa).wf = true ∧ (Lit.int .i64 xb).wf = true) (hcode : Sl w 3 A len (codeCells c))
    (hm : ns.length = m) (hd : m ≤ d) (hs : Sl w 1 B m (strs ns)) (hsz : ∀ x ∈ ns, x.size ≤ 1000000) (ht : Tabs w) :
    Calls Tryd.prog 53 #[.agg #[v0, v1, v2, .slice A len cap, .slice B m d], .int .i64 (k : Int)] w fun e w' => e = .returned (.string (lineB ns k ((kk : Int), xa, xb))) ∧ Below w.heap.size w w' := by
  obtain ⟨hx0, hx1, hx2⟩ := codeCells_get c k ((kk : Int), xa, xb) hx
  obtain ⟨cb, co, rfl, hbl, hcc⟩ := hcode.get hkl
  have x0 : w.cell? ⟨cb, co + k * 3, none⟩ = some (.int .i64 (kk : Int)) := hcc _ _ hx0
  have x1 : w.cell? ⟨cb, co + k * 3 + 1, none⟩ = some (.int .i64 xa) := hcc _ _ hx1
  have x2 : w.cell? ⟨cb, co + k * 3 + 2, none⟩ = some (.int .i64 xb) := hcc _ _ hx2
  have ba := i64_of_wf hwf.2.1
  have bb := i64_of_wf hwf.2.2
  have hkc : k < cap := by omega
  have hne : cb ≠ w.heap.size := by omega
  have hds := dec_size (k : Int) (by omega) (by omega)
  have hds1 : ¬ 9223372036854775807 < (dec k).size + 1 := by omega
  have hts := textB_size hsz ((kk : Int)).toNat ba.1 ba.2 bb.1 bb.2
  have hos := opName_size ((kk : Int)).toNat
  have hi0 : Bk ((w.alloc (.cells #[v0, v1, v2, .slice (some ⟨cb, co, none⟩) len cap, .slice B m d] 25)).alloc (.cells #[.int .i64 (kk : Int), .int .i64 xa, .int .i64 xb] 39)) (w.heap.size + 1) 39 #[.int .i64 (kk : Int), .int .i64 xa, .int .i64 xb] := by
    have := Bk.new (w.alloc (.cells #[v0, v1, v2, .slice (some ⟨cb, co, none⟩) len cap, .slice B m d] 25)) 39 #[.int .i64 (kk : Int), .int .i64 xa, .int .i64 xb]
    simpa using this
  have hm0 : Bk ((w.alloc (.cells #[v0, v1, v2, .slice (some ⟨cb, co, none⟩) len cap, .slice B m d] 25)).alloc (.cells #[.int .i64 (kk : Int), .int .i64 xa, .int .i64 xb] 39)) w.heap.size 25 #[v0, v1, v2, .slice (some ⟨cb, co, none⟩) len cap, .slice B m d] := (Bk.new _ _ _).alloc _
  have hb0 : Below w.heap.size w ((w.alloc (.cells #[v0, v1, v2, .slice (some ⟨cb, co, none⟩) len cap, .slice B m d] 25)).alloc (.cells #[.int .i64 (kk : Int), .int .i64 xa, .int .i64 xb] 39)) := ((Below.refl _ _).alloc (Nat.le_refl _) _).alloc (by simp) _
  have HI0 := Lib.hid hi0
  have HM0 := Lib.hid hm0
  have HB0 := Lib.hid hb0
  have HNS := Lib.hid hs
  have HTT := Lib.hid ht
  have HM := Lib.hid hm
  clear hx hx0 hx1 hx2 hcc hcode hwf hi0 hm0 hb0 hs ht hm
  go_enter Tryd.func53, Tryd.ntmps53
  go_wp2_with fail
  refine (Decimal_any k (by omega) (by omega) _).mono ?_
  rintro e w1 ⟨rfl, hb1⟩
  have hi1 := HI0.out.below hb1 HI0.out.lt
  have hm1 := HM0.out.below hb1 HM0.out.lt
  have HB1 := Lib.hid (HB0.out.trans (hb1.mono HB0.out.size))
  have i0 : w1.cell? ⟨w.heap.size + 1, 0, none⟩ = some (.int .i64 (kk : Int)) := hi1.cell 0
  have i1 : w1.cell? ⟨w.heap.size + 1, 1, none⟩ = some (.int .i64 xa) := hi1.cell 1
  have i2 : w1.cell? ⟨w.heap.size + 1, 2, none⟩ = some (.int .i64 xb) := hi1.cell 2
  have HI1 := Lib.hid hi1
  have HM1 := Lib.hid hm1
  clear hb1 hi1 hm1 x0 x1 x2 HI0 HM0 HB0
  simp only [Int.toNat_natCast] at hts hos
  have HV := Lib.hid hv
  have hd2 : ¬ 9223372036854775807 < (dec k).size + 1 + (opName kk).size := by omega
  go_wp2_with fail
  refine (RValid_yes HV.out _).mono ?_
  rintro e w2 ⟨rfl, hb2⟩
  have hi2 := HI1.out.below hb2 HI1.out.lt
  have hm2 := HM1.out.below hb2 HM1.out.lt
  have HB2 := Lib.hid (HB1.out.trans (hb2.mono HB1.out.size))
  have j0 : w2.cell? ⟨w.heap.size + 1, 0, none⟩ = some (.int .i64 kk) := hi2.cell 0
  have hz2 := hi2.lt
  have HI2 := Lib.hid hi2
  have HM2 := Lib.hid hm2
  have hcc : rnameCells[kk]? = some (.string (opName kk)) := by simp [rnameCells, strs, rnames, hkk]
  have HCC := Lib.hid hcc
  have hk25 : kk < 26 := hkk
  clear hb2 hi2 hm2 i0 i1 i2 HI1 HM1 hv hcc
  go_upto_region 5 with fail
  go_cut [6] from 20 to 26 (fun s6 wx => s6 = .string (dec k ++ ⟨#[32]⟩ ++ opName kk) ∧ Below w2.heap.size w2 wx)
  case first =>
    go_region_with (go_at_call 36; refine (RNames_below _).mono ?_; rintro e w6 ⟨g6, rfl, hbk6, hb6⟩; have d0 := ((bcell hb6).1 _ 0 hz2).trans j0; have r6 : w6.cell? ⟨g6, kk, none⟩ = some (.string (opName kk)) := (hbk6.cell kk).trans HCC.out)
    all_goals
      go_wp2_with fail
      go_meet
      exact ⟨rfl, (Below.refl _ _).drew.trans hb6⟩
  case rest =>
    obtain ⟨rfl, hb3⟩ := hcut
    have hi3 := HI2.out.below hb3 HI2.out.lt
    have hm3 := HM2.out.below hb3 HM2.out.lt
    have HB3 := Lib.hid (HB2.out.trans (hb3.mono HB2.out.size))
    have hT3 := HTT.out.below HB3.out
    have hN3 := HNS.out.below HB3.out
    have i0 : wc.cell? ⟨w.heap.size + 1, 0, none⟩ = some (.int .i64 kk) := hi3.cell 0
    have i1 : wc.cell? ⟨w.heap.size + 1, 1, none⟩ = some (.int .i64 xa) := hi3.cell 1
    have i2 : wc.cell? ⟨w.heap.size + 1, 2, none⟩ = some (.int .i64 xb) := hi3.cell 2
    have m0 : wc.cell? ⟨w.heap.size, 0, none⟩ = some v0 := hm3.cell 0
    have m1 : wc.cell? ⟨w.heap.size, 1, none⟩ = some v1 := hm3.cell 1
    have m2 : wc.cell? ⟨w.heap.size, 2, none⟩ = some v2 := hm3.cell 2
    have m3 : wc.cell? ⟨w.heap.size, 3, none⟩ = some (.slice (some ⟨cb, co, none⟩) len cap) := hm3.cell 3
    have m4 : wc.cell? ⟨w.heap.size, 4, none⟩ = some (.slice B m d) := hm3.cell 4
    have s1 : ¬ 9223372036854775807 < (dec k).size + 1 + (opName kk).size + 1 := by omega
    have sa := dec_size xa ba.1 ba.2
    have sb := dec_size xb bb.1 bb.2
    have sn := nameB_size hsz xa
    have HT3 := Lib.hid hT3
    have HN3 := Lib.hid hN3
    have HI3 := Lib.hid hi3
    have hpos := valid_pos HV.out
    clear hb3 j0 HI2 HM2 hT3 hN3 hm3 hi3 hd2
    have hln : lineB ns k (kk, xa, xb) = dec k ++ ⟨#[32]⟩ ++ opName kk ++ ⟨#[32]⟩ ++ textB ns kk xa xb := by simp [lineB, iV, HV.out, spB, hT, ByteArray.append_assoc]
    have HLN := Lib.hid hln
    clear hT hln
    have s2 : ¬ 9223372036854775807 < (dec k).size + 1 + (opName kk).size + 1 + (dec xa).size := by omega
    rcases hh with rfl | rfl | rfl | rfl | rfl | rfl | rfl | rfl
    all_goals
      go_wp2_with fail
      refine (Decimal_any xa ba.1 ba.2 _).mono ?_
      rintro e w4 ⟨rfl, hb4⟩
      go_wp2_with fail
      go_ret
      exact ⟨by rw [HLN.out]; rfl, HB3.out.trans (hb4.mono HB3.out.size)⟩

set_option maxHeartbeats 4000000 in
theorem RLine_name (kk : Nat) (hkk : kk < 26) (hv : validB kk xa xb = true) (hT : hasText kk = true) (hh : kk = 6 ∨ kk = 8 ∨ kk = 24) (c : List Ins) (ns : List ByteArray) (k : Nat) (hkl : k < len) (hl : len ≤ 10000) (hx : c[k]? = some ((kk : Int), xa, xb)) (hcap : len ≤ cap) (hwf : (Lit.int .i64 (kk : Int)).wf = true ∧ (Lit.int .i64 xa).wf = true ∧ (Lit.int .i64 xb).wf = true) (hcode : Sl w 3 A len (codeCells c))
    (hm : ns.length = m) (hd : m ≤ d) (hs : Sl w 1 B m (strs ns)) (hsz : ∀ x ∈ ns, x.size ≤ 1000000) (ht : Tabs w) :
    Calls Tryd.prog 53 #[.agg #[v0, v1, v2, .slice A len cap, .slice B m d], .int .i64 (k : Int)] w fun e w' => e = .returned (.string (lineB ns k ((kk : Int), xa, xb))) ∧ Below w.heap.size w w' := by
  obtain ⟨hx0, hx1, hx2⟩ := codeCells_get c k ((kk : Int), xa, xb) hx
  obtain ⟨cb, co, rfl, hbl, hcc⟩ := hcode.get hkl
  have x0 : w.cell? ⟨cb, co + k * 3, none⟩ = some (.int .i64 (kk : Int)) := hcc _ _ hx0
  have x1 : w.cell? ⟨cb, co + k * 3 + 1, none⟩ = some (.int .i64 xa) := hcc _ _ hx1
  have x2 : w.cell? ⟨cb, co + k * 3 + 2, none⟩ = some (.int .i64 xb) := hcc _ _ hx2
  have ba := i64_of_wf hwf.2.1
  have bb := i64_of_wf hwf.2.2
  have hkc : k < cap := by omega
  have hne : cb ≠ w.heap.size := by omega
  have hds := dec_size (k : Int) (by omega) (by omega)
  have hds1 : ¬ 9223372036854775807 < (dec k).size + 1 := by omega
  have hts := textB_size hsz ((kk : Int)).toNat ba.1 ba.2 bb.1 bb.2
  have hos := opName_size ((kk : Int)).toNat
  have hi0 : Bk ((w.alloc (.cells #[v0, v1, v2, .slice (some ⟨cb, co, none⟩) len cap, .slice B m d] 25)).alloc (.cells #[.int .i64 (kk : Int), .int .i64 xa, .int .i64 xb] 39)) (w.heap.size + 1) 39 #[.int .i64 (kk : Int), .int .i64 xa, .int .i64 xb] := by
    have := Bk.new (w.alloc (.cells #[v0, v1, v2, .slice (some ⟨cb, co, none⟩) len cap, .slice B m d] 25)) 39 #[.int .i64 (kk : Int), .int .i64 xa, .int .i64 xb]
    simpa using this
  have hm0 : Bk ((w.alloc (.cells #[v0, v1, v2, .slice (some ⟨cb, co, none⟩) len cap, .slice B m d] 25)).alloc (.cells #[.int .i64 (kk : Int), .int .i64 xa, .int .i64 xb] 39)) w.heap.size 25 #[v0, v1, v2, .slice (some ⟨cb, co, none⟩) len cap, .slice B m d] := (Bk.new _ _ _).alloc _
  have hb0 : Below w.heap.size w ((w.alloc (.cells #[v0, v1, v2, .slice (some ⟨cb, co, none⟩) len cap, .slice B m d] 25)).alloc (.cells #[.int .i64 (kk : Int), .int .i64 xa, .int .i64 xb] 39)) := ((Below.refl _ _).alloc (Nat.le_refl _) _).alloc (by simp) _
  have HI0 := Lib.hid hi0
  have HM0 := Lib.hid hm0
  have HB0 := Lib.hid hb0
  have HNS := Lib.hid hs
  have HTT := Lib.hid ht
  have HM := Lib.hid hm
  clear hx hx0 hx1 hx2 hcc hcode hwf hi0 hm0 hb0 hs ht hm
  go_enter Tryd.func53, Tryd.ntmps53
  go_wp2_with fail
  refine (Decimal_any k (by omega) (by omega) _).mono ?_
  rintro e w1 ⟨rfl, hb1⟩
  have hi1 := HI0.out.below hb1 HI0.out.lt
  have hm1 := HM0.out.below hb1 HM0.out.lt
  have HB1 := Lib.hid (HB0.out.trans (hb1.mono HB0.out.size))
  have i0 : w1.cell? ⟨w.heap.size + 1, 0, none⟩ = some (.int .i64 (kk : Int)) := hi1.cell 0
  have i1 : w1.cell? ⟨w.heap.size + 1, 1, none⟩ = some (.int .i64 xa) := hi1.cell 1
  have i2 : w1.cell? ⟨w.heap.size + 1, 2, none⟩ = some (.int .i64 xb) := hi1.cell 2
  have HI1 := Lib.hid hi1
  have HM1 := Lib.hid hm1
  clear hb1 hi1 hm1 x0 x1 x2 HI0 HM0 HB0
  simp only [Int.toNat_natCast] at hts hos
  have HV := Lib.hid hv
  have hd2 : ¬ 9223372036854775807 < (dec k).size + 1 + (opName kk).size := by omega
  go_wp2_with fail
  refine (RValid_yes HV.out _).mono ?_
  rintro e w2 ⟨rfl, hb2⟩
  have hi2 := HI1.out.below hb2 HI1.out.lt
  have hm2 := HM1.out.below hb2 HM1.out.lt
  have HB2 := Lib.hid (HB1.out.trans (hb2.mono HB1.out.size))
  have j0 : w2.cell? ⟨w.heap.size + 1, 0, none⟩ = some (.int .i64 kk) := hi2.cell 0
  have hz2 := hi2.lt
  have HI2 := Lib.hid hi2
  have HM2 := Lib.hid hm2
  have hcc : rnameCells[kk]? = some (.string (opName kk)) := by simp [rnameCells, strs, rnames, hkk]
  have HCC := Lib.hid hcc
  have hk25 : kk < 26 := hkk
  clear hb2 hi2 hm2 i0 i1 i2 HI1 HM1 hv hcc
  go_upto_region 5 with fail
  go_cut [6] from 20 to 26 (fun s6 wx => s6 = .string (dec k ++ ⟨#[32]⟩ ++ opName kk) ∧ Below w2.heap.size w2 wx)
  case first =>
    go_region_with (go_at_call 36; refine (RNames_below _).mono ?_; rintro e w6 ⟨g6, rfl, hbk6, hb6⟩; have d0 := ((bcell hb6).1 _ 0 hz2).trans j0; have r6 : w6.cell? ⟨g6, kk, none⟩ = some (.string (opName kk)) := (hbk6.cell kk).trans HCC.out)
    all_goals
      go_wp2_with fail
      go_meet
      exact ⟨rfl, (Below.refl _ _).drew.trans hb6⟩
  case rest =>
    obtain ⟨rfl, hb3⟩ := hcut
    have hi3 := HI2.out.below hb3 HI2.out.lt
    have hm3 := HM2.out.below hb3 HM2.out.lt
    have HB3 := Lib.hid (HB2.out.trans (hb3.mono HB2.out.size))
    have hT3 := HTT.out.below HB3.out
    have hN3 := HNS.out.below HB3.out
    have i0 : wc.cell? ⟨w.heap.size + 1, 0, none⟩ = some (.int .i64 kk) := hi3.cell 0
    have i1 : wc.cell? ⟨w.heap.size + 1, 1, none⟩ = some (.int .i64 xa) := hi3.cell 1
    have i2 : wc.cell? ⟨w.heap.size + 1, 2, none⟩ = some (.int .i64 xb) := hi3.cell 2
    have m0 : wc.cell? ⟨w.heap.size, 0, none⟩ = some v0 := hm3.cell 0
    have m1 : wc.cell? ⟨w.heap.size, 1, none⟩ = some v1 := hm3.cell 1
    have m2 : wc.cell? ⟨w.heap.size, 2, none⟩ = some v2 := hm3.cell 2
    have m3 : wc.cell? ⟨w.heap.size, 3, none⟩ = some (.slice (some ⟨cb, co, none⟩) len cap) := hm3.cell 3
    have m4 : wc.cell? ⟨w.heap.size, 4, none⟩ = some (.slice B m d) := hm3.cell 4
    have s1 : ¬ 9223372036854775807 < (dec k).size + 1 + (opName kk).size + 1 := by omega
    have sa := dec_size xa ba.1 ba.2
    have sb := dec_size xb bb.1 bb.2
    have sn := nameB_size hsz xa
    have HT3 := Lib.hid hT3
    have HN3 := Lib.hid hN3
    have HI3 := Lib.hid hi3
    have hpos := valid_pos HV.out
    clear hb3 j0 HI2 HM2 hT3 hN3 hm3 hi3 hd2
    have hln : lineB ns k (kk, xa, xb) = dec k ++ ⟨#[32]⟩ ++ opName kk ++ ⟨#[32]⟩ ++ textB ns kk xa xb := by simp [lineB, iV, HV.out, spB, hT, ByteArray.append_assoc]
    have HLN := Lib.hid hln
    clear hT hln
    have s2 : ¬ 9223372036854775807 < (dec k).size + 1 + (opName kk).size + 1 + (nameB ns xa).size := by omega
    have hxa : 0 ≤ xa := hpos (by omega)
    rcases hh with rfl | rfl | rfl
    all_goals
      go_wp2_with fail
      refine (rname_any hxa ba.2 HM.out hd HN3.out).mono ?_
      rintro e w4 ⟨rfl, hb4⟩
      go_wp2_with fail
      go_ret
      exact ⟨by rw [HLN.out]; rfl, HB3.out.trans (hb4.mono HB3.out.size)⟩

set_option maxHeartbeats 4000000 in
theorem RLine_both (kk : Nat) (hkk : kk < 26) (hv : validB kk xa xb = true) (hT : hasText kk = true) (hh : kk = 10 ∨ kk = 11) (c : List Ins) (ns : List ByteArray) (k : Nat) (hkl : k < len) (hl : len ≤ 10000) (hx : c[k]? = some ((kk : Int), xa, xb)) (hcap : len ≤ cap) (hwf : (Lit.int .i64 (kk : Int)).wf = true ∧ (Lit.int .i64 xa).wf = true ∧ (Lit.int .i64 xb).wf = true) (hcode : Sl w 3 A len (codeCells c))
    (hm : ns.length = m) (hd : m ≤ d) (hs : Sl w 1 B m (strs ns)) (hsz : ∀ x ∈ ns, x.size ≤ 1000000) (ht : Tabs w) :
    Calls Tryd.prog 53 #[.agg #[v0, v1, v2, .slice A len cap, .slice B m d], .int .i64 (k : Int)] w fun e w' => e = .returned (.string (lineB ns k ((kk : Int), xa, xb))) ∧ Below w.heap.size w w' := by
  obtain ⟨hx0, hx1, hx2⟩ := codeCells_get c k ((kk : Int), xa, xb) hx
  obtain ⟨cb, co, rfl, hbl, hcc⟩ := hcode.get hkl
  have x0 : w.cell? ⟨cb, co + k * 3, none⟩ = some (.int .i64 (kk : Int)) := hcc _ _ hx0
  have x1 : w.cell? ⟨cb, co + k * 3 + 1, none⟩ = some (.int .i64 xa) := hcc _ _ hx1
  have x2 : w.cell? ⟨cb, co + k * 3 + 2, none⟩ = some (.int .i64 xb) := hcc _ _ hx2
  have ba := i64_of_wf hwf.2.1
  have bb := i64_of_wf hwf.2.2
  have hkc : k < cap := by omega
  have hne : cb ≠ w.heap.size := by omega
  have hds := dec_size (k : Int) (by omega) (by omega)
  have hds1 : ¬ 9223372036854775807 < (dec k).size + 1 := by omega
  have hts := textB_size hsz ((kk : Int)).toNat ba.1 ba.2 bb.1 bb.2
  have hos := opName_size ((kk : Int)).toNat
  have hi0 : Bk ((w.alloc (.cells #[v0, v1, v2, .slice (some ⟨cb, co, none⟩) len cap, .slice B m d] 25)).alloc (.cells #[.int .i64 (kk : Int), .int .i64 xa, .int .i64 xb] 39)) (w.heap.size + 1) 39 #[.int .i64 (kk : Int), .int .i64 xa, .int .i64 xb] := by
    have := Bk.new (w.alloc (.cells #[v0, v1, v2, .slice (some ⟨cb, co, none⟩) len cap, .slice B m d] 25)) 39 #[.int .i64 (kk : Int), .int .i64 xa, .int .i64 xb]
    simpa using this
  have hm0 : Bk ((w.alloc (.cells #[v0, v1, v2, .slice (some ⟨cb, co, none⟩) len cap, .slice B m d] 25)).alloc (.cells #[.int .i64 (kk : Int), .int .i64 xa, .int .i64 xb] 39)) w.heap.size 25 #[v0, v1, v2, .slice (some ⟨cb, co, none⟩) len cap, .slice B m d] := (Bk.new _ _ _).alloc _
  have hb0 : Below w.heap.size w ((w.alloc (.cells #[v0, v1, v2, .slice (some ⟨cb, co, none⟩) len cap, .slice B m d] 25)).alloc (.cells #[.int .i64 (kk : Int), .int .i64 xa, .int .i64 xb] 39)) := ((Below.refl _ _).alloc (Nat.le_refl _) _).alloc (by simp) _
  have HI0 := Lib.hid hi0
  have HM0 := Lib.hid hm0
  have HB0 := Lib.hid hb0
  have HNS := Lib.hid hs
  have HTT := Lib.hid ht
  have HM := Lib.hid hm
  clear hx hx0 hx1 hx2 hcc hcode hwf hi0 hm0 hb0 hs ht hm
  go_enter Tryd.func53, Tryd.ntmps53
  go_wp2_with fail
  refine (Decimal_any k (by omega) (by omega) _).mono ?_
  rintro e w1 ⟨rfl, hb1⟩
  have hi1 := HI0.out.below hb1 HI0.out.lt
  have hm1 := HM0.out.below hb1 HM0.out.lt
  have HB1 := Lib.hid (HB0.out.trans (hb1.mono HB0.out.size))
  have i0 : w1.cell? ⟨w.heap.size + 1, 0, none⟩ = some (.int .i64 (kk : Int)) := hi1.cell 0
  have i1 : w1.cell? ⟨w.heap.size + 1, 1, none⟩ = some (.int .i64 xa) := hi1.cell 1
  have i2 : w1.cell? ⟨w.heap.size + 1, 2, none⟩ = some (.int .i64 xb) := hi1.cell 2
  have HI1 := Lib.hid hi1
  have HM1 := Lib.hid hm1
  clear hb1 hi1 hm1 x0 x1 x2 HI0 HM0 HB0
  simp only [Int.toNat_natCast] at hts hos
  have HV := Lib.hid hv
  have hd2 : ¬ 9223372036854775807 < (dec k).size + 1 + (opName kk).size := by omega
  go_wp2_with fail
  refine (RValid_yes HV.out _).mono ?_
  rintro e w2 ⟨rfl, hb2⟩
  have hi2 := HI1.out.below hb2 HI1.out.lt
  have hm2 := HM1.out.below hb2 HM1.out.lt
  have HB2 := Lib.hid (HB1.out.trans (hb2.mono HB1.out.size))
  have j0 : w2.cell? ⟨w.heap.size + 1, 0, none⟩ = some (.int .i64 kk) := hi2.cell 0
  have hz2 := hi2.lt
  have HI2 := Lib.hid hi2
  have HM2 := Lib.hid hm2
  have hcc : rnameCells[kk]? = some (.string (opName kk)) := by simp [rnameCells, strs, rnames, hkk]
  have HCC := Lib.hid hcc
  have hk25 : kk < 26 := hkk
  clear hb2 hi2 hm2 i0 i1 i2 HI1 HM1 hv hcc
  go_upto_region 5 with fail
  go_cut [6] from 20 to 26 (fun s6 wx => s6 = .string (dec k ++ ⟨#[32]⟩ ++ opName kk) ∧ Below w2.heap.size w2 wx)
  case first =>
    go_region_with (go_at_call 36; refine (RNames_below _).mono ?_; rintro e w6 ⟨g6, rfl, hbk6, hb6⟩; have d0 := ((bcell hb6).1 _ 0 hz2).trans j0; have r6 : w6.cell? ⟨g6, kk, none⟩ = some (.string (opName kk)) := (hbk6.cell kk).trans HCC.out)
    all_goals
      go_wp2_with fail
      go_meet
      exact ⟨rfl, (Below.refl _ _).drew.trans hb6⟩
  case rest =>
    obtain ⟨rfl, hb3⟩ := hcut
    have hi3 := HI2.out.below hb3 HI2.out.lt
    have hm3 := HM2.out.below hb3 HM2.out.lt
    have HB3 := Lib.hid (HB2.out.trans (hb3.mono HB2.out.size))
    have hT3 := HTT.out.below HB3.out
    have hN3 := HNS.out.below HB3.out
    have i0 : wc.cell? ⟨w.heap.size + 1, 0, none⟩ = some (.int .i64 kk) := hi3.cell 0
    have i1 : wc.cell? ⟨w.heap.size + 1, 1, none⟩ = some (.int .i64 xa) := hi3.cell 1
    have i2 : wc.cell? ⟨w.heap.size + 1, 2, none⟩ = some (.int .i64 xb) := hi3.cell 2
    have m0 : wc.cell? ⟨w.heap.size, 0, none⟩ = some v0 := hm3.cell 0
    have m1 : wc.cell? ⟨w.heap.size, 1, none⟩ = some v1 := hm3.cell 1
    have m2 : wc.cell? ⟨w.heap.size, 2, none⟩ = some v2 := hm3.cell 2
    have m3 : wc.cell? ⟨w.heap.size, 3, none⟩ = some (.slice (some ⟨cb, co, none⟩) len cap) := hm3.cell 3
    have m4 : wc.cell? ⟨w.heap.size, 4, none⟩ = some (.slice B m d) := hm3.cell 4
    have s1 : ¬ 9223372036854775807 < (dec k).size + 1 + (opName kk).size + 1 := by omega
    have sa := dec_size xa ba.1 ba.2
    have sb := dec_size xb bb.1 bb.2
    have sn := nameB_size hsz xa
    have HT3 := Lib.hid hT3
    have HN3 := Lib.hid hN3
    have HI3 := Lib.hid hi3
    have hpos := valid_pos HV.out
    clear hb3 j0 HI2 HM2 hT3 hN3 hm3 hi3 hd2
    have hln : lineB ns k (kk, xa, xb) = dec k ++ ⟨#[32]⟩ ++ opName kk ++ ⟨#[32]⟩ ++ textB ns kk xa xb := by simp [lineB, iV, HV.out, spB, hT, ByteArray.append_assoc]
    have HLN := Lib.hid hln
    clear hT hln
    have s2 : ¬ 9223372036854775807 < (dec k).size + 1 + (opName kk).size + 1 + (dec xa).size := by omega
    have s3 : ¬ 9223372036854775807 < (dec k).size + 1 + (opName kk).size + 1 + (dec xa).size + 1 := by omega
    have s4 : ¬ 9223372036854775807 < (dec k).size + 1 + (opName kk).size + 1 + (dec xa).size + 1 + (dec xb).size := by omega
    have q1 := cell_regrown i1
    have q2 := cell_regrown i2
    have cA := fun dd os => Calls.regrown_of (w := wc) (Decimal_any xa ba.1 ba.2 (grow (redrawn wc dd) os))
    have cB := fun dd os => Calls.regrown_of (w := wc) (Decimal_any xb bb.1 bb.2 (grow (redrawn wc dd) os))
    have htx : textB ns kk xa xb = dec xa ++ ⟨#[32]⟩ ++ dec xb := by
      rcases hh with rfl | rfl <;> rfl
    have HTX := Lib.hid htx
    clear htx
    rcases hh with rfl | rfl
    all_goals
      go_wp2_with fail
      refine wp_region_quiet_below (by kernel_rfl) (by kernel_rfl) ?_
      repeat (quiet_step (first | with_reducible exact cA _ _ | with_reducible exact cB _ _))
      refine wpQuiet_nil ?_
      intro w4 hw'
      have hb4 : Below wc.heap.size wc w4 := by obtain ⟨pp, rfl⟩ := hw'; exact below_regrown _ _ _
      clear hw' cA cB q1 q2
      go_wp2_with fail
      go_ret
      exact ⟨by rw [HLN.out, HTX.out]; simp only [ByteArray.append_assoc]; rfl, HB3.out.trans (hb4.mono HB3.out.size)⟩

set_option maxHeartbeats 4000000 in
theorem RLine_oper (kk : Nat) (hkk : kk < 26) (hv : validB kk xa xb = true) (hT : hasText kk = true) (hh : Hid (kk = 16)) (c : List Ins) (ns : List ByteArray) (k : Nat) (hkl : k < len) (hl : len ≤ 10000) (hx : c[k]? = some ((kk : Int), xa, xb)) (hcap : len ≤ cap) (hwf : (Lit.int .i64 (kk : Int)).wf = true ∧ (Lit.int .i64 xa).wf = true ∧ (Lit.int .i64 xb).wf = true) (hcode : Sl w 3 A len (codeCells c))
    (hm : ns.length = m) (hd : m ≤ d) (hs : Sl w 1 B m (strs ns)) (hsz : ∀ x ∈ ns, x.size ≤ 1000000) (ht : Tabs w) :
    Calls Tryd.prog 53 #[.agg #[v0, v1, v2, .slice A len cap, .slice B m d], .int .i64 (k : Int)] w fun e w' => e = .returned (.string (lineB ns k ((kk : Int), xa, xb))) ∧ Below w.heap.size w w' := by
  obtain ⟨hx0, hx1, hx2⟩ := codeCells_get c k ((kk : Int), xa, xb) hx
  obtain ⟨cb, co, rfl, hbl, hcc⟩ := hcode.get hkl
  have x0 : w.cell? ⟨cb, co + k * 3, none⟩ = some (.int .i64 (kk : Int)) := hcc _ _ hx0
  have x1 : w.cell? ⟨cb, co + k * 3 + 1, none⟩ = some (.int .i64 xa) := hcc _ _ hx1
  have x2 : w.cell? ⟨cb, co + k * 3 + 2, none⟩ = some (.int .i64 xb) := hcc _ _ hx2
  have ba := i64_of_wf hwf.2.1
  have bb := i64_of_wf hwf.2.2
  have hkc : k < cap := by omega
  have hne : cb ≠ w.heap.size := by omega
  have hds := dec_size (k : Int) (by omega) (by omega)
  have hds1 : ¬ 9223372036854775807 < (dec k).size + 1 := by omega
  have hts := textB_size hsz ((kk : Int)).toNat ba.1 ba.2 bb.1 bb.2
  have hos := opName_size ((kk : Int)).toNat
  have hi0 : Bk ((w.alloc (.cells #[v0, v1, v2, .slice (some ⟨cb, co, none⟩) len cap, .slice B m d] 25)).alloc (.cells #[.int .i64 (kk : Int), .int .i64 xa, .int .i64 xb] 39)) (w.heap.size + 1) 39 #[.int .i64 (kk : Int), .int .i64 xa, .int .i64 xb] := by
    have := Bk.new (w.alloc (.cells #[v0, v1, v2, .slice (some ⟨cb, co, none⟩) len cap, .slice B m d] 25)) 39 #[.int .i64 (kk : Int), .int .i64 xa, .int .i64 xb]
    simpa using this
  have hm0 : Bk ((w.alloc (.cells #[v0, v1, v2, .slice (some ⟨cb, co, none⟩) len cap, .slice B m d] 25)).alloc (.cells #[.int .i64 (kk : Int), .int .i64 xa, .int .i64 xb] 39)) w.heap.size 25 #[v0, v1, v2, .slice (some ⟨cb, co, none⟩) len cap, .slice B m d] := (Bk.new _ _ _).alloc _
  have hb0 : Below w.heap.size w ((w.alloc (.cells #[v0, v1, v2, .slice (some ⟨cb, co, none⟩) len cap, .slice B m d] 25)).alloc (.cells #[.int .i64 (kk : Int), .int .i64 xa, .int .i64 xb] 39)) := ((Below.refl _ _).alloc (Nat.le_refl _) _).alloc (by simp) _
  have HI0 := Lib.hid hi0
  have HM0 := Lib.hid hm0
  have HB0 := Lib.hid hb0
  have HNS := Lib.hid hs
  have HTT := Lib.hid ht
  have HM := Lib.hid hm
  clear hx hx0 hx1 hx2 hcc hcode hwf hi0 hm0 hb0 hs ht hm
  go_enter Tryd.func53, Tryd.ntmps53
  go_wp2_with fail
  refine (Decimal_any k (by omega) (by omega) _).mono ?_
  rintro e w1 ⟨rfl, hb1⟩
  have hi1 := HI0.out.below hb1 HI0.out.lt
  have hm1 := HM0.out.below hb1 HM0.out.lt
  have HB1 := Lib.hid (HB0.out.trans (hb1.mono HB0.out.size))
  have i0 : w1.cell? ⟨w.heap.size + 1, 0, none⟩ = some (.int .i64 (kk : Int)) := hi1.cell 0
  have i1 : w1.cell? ⟨w.heap.size + 1, 1, none⟩ = some (.int .i64 xa) := hi1.cell 1
  have i2 : w1.cell? ⟨w.heap.size + 1, 2, none⟩ = some (.int .i64 xb) := hi1.cell 2
  have HI1 := Lib.hid hi1
  have HM1 := Lib.hid hm1
  clear hb1 hi1 hm1 x0 x1 x2 HI0 HM0 HB0
  simp only [Int.toNat_natCast] at hts hos
  have HV := Lib.hid hv
  have hd2 : ¬ 9223372036854775807 < (dec k).size + 1 + (opName kk).size := by omega
  go_wp2_with fail
  refine (RValid_yes HV.out _).mono ?_
  rintro e w2 ⟨rfl, hb2⟩
  have hi2 := HI1.out.below hb2 HI1.out.lt
  have hm2 := HM1.out.below hb2 HM1.out.lt
  have HB2 := Lib.hid (HB1.out.trans (hb2.mono HB1.out.size))
  have j0 : w2.cell? ⟨w.heap.size + 1, 0, none⟩ = some (.int .i64 kk) := hi2.cell 0
  have hz2 := hi2.lt
  have HI2 := Lib.hid hi2
  have HM2 := Lib.hid hm2
  have hcc : rnameCells[kk]? = some (.string (opName kk)) := by simp [rnameCells, strs, rnames, hkk]
  have HCC := Lib.hid hcc
  have hk25 : kk < 26 := hkk
  clear hb2 hi2 hm2 i0 i1 i2 HI1 HM1 hv hcc
  go_upto_region 5 with fail
  go_cut [6] from 20 to 26 (fun s6 wx => s6 = .string (dec k ++ ⟨#[32]⟩ ++ opName kk) ∧ Below w2.heap.size w2 wx)
  case first =>
    go_region_with (go_at_call 36; refine (RNames_below _).mono ?_; rintro e w6 ⟨g6, rfl, hbk6, hb6⟩; have d0 := ((bcell hb6).1 _ 0 hz2).trans j0; have r6 : w6.cell? ⟨g6, kk, none⟩ = some (.string (opName kk)) := (hbk6.cell kk).trans HCC.out)
    all_goals
      go_wp2_with fail
      go_meet
      exact ⟨rfl, (Below.refl _ _).drew.trans hb6⟩
  case rest =>
    obtain ⟨rfl, hb3⟩ := hcut
    have hi3 := HI2.out.below hb3 HI2.out.lt
    have hm3 := HM2.out.below hb3 HM2.out.lt
    have HB3 := Lib.hid (HB2.out.trans (hb3.mono HB2.out.size))
    have hT3 := HTT.out.below HB3.out
    have hN3 := HNS.out.below HB3.out
    have i0 : wc.cell? ⟨w.heap.size + 1, 0, none⟩ = some (.int .i64 kk) := hi3.cell 0
    have i1 : wc.cell? ⟨w.heap.size + 1, 1, none⟩ = some (.int .i64 xa) := hi3.cell 1
    have i2 : wc.cell? ⟨w.heap.size + 1, 2, none⟩ = some (.int .i64 xb) := hi3.cell 2
    have m0 : wc.cell? ⟨w.heap.size, 0, none⟩ = some v0 := hm3.cell 0
    have m1 : wc.cell? ⟨w.heap.size, 1, none⟩ = some v1 := hm3.cell 1
    have m2 : wc.cell? ⟨w.heap.size, 2, none⟩ = some v2 := hm3.cell 2
    have m3 : wc.cell? ⟨w.heap.size, 3, none⟩ = some (.slice (some ⟨cb, co, none⟩) len cap) := hm3.cell 3
    have m4 : wc.cell? ⟨w.heap.size, 4, none⟩ = some (.slice B m d) := hm3.cell 4
    have s1 : ¬ 9223372036854775807 < (dec k).size + 1 + (opName kk).size + 1 := by omega
    have sa := dec_size xa ba.1 ba.2
    have sb := dec_size xb bb.1 bb.2
    have sn := nameB_size hsz xa
    have HT3 := Lib.hid hT3
    have HN3 := Lib.hid hN3
    have HI3 := Lib.hid hi3
    have hpos := valid_pos HV.out
    clear hb3 j0 HI2 HM2 hT3 hN3 hm3 hi3 hd2
    have hln : lineB ns k (kk, xa, xb) = dec k ++ ⟨#[32]⟩ ++ opName kk ++ ⟨#[32]⟩ ++ textB ns kk xa xb := by simp [lineB, iV, HV.out, spB, hT, ByteArray.append_assoc]
    have HLN := Lib.hid hln
    clear hT hln
    obtain rfl := hh.out
    have q1 := cell_regrown i1
    have s2 : ¬ 9223372036854775807 < (dec k).size + 1 + (opName 16).size + 1 + (operB xa.toNat).size := by have := operB_size xa.toNat; omega
    obtain ⟨q, rfl⟩ := Int.eq_ofNat_of_zero_le (hpos (by decide))
    simp only [Int.toNat_natCast] at s2
    have hq11 : q < 11 := by
      obtain ⟨j, hj, hj2, _, hu, _⟩ := validB_some HV.out
      have hj16 : j = 16 := by omega
      subst hj16
      have hm16 : opMost 16 = 10 := by decide +kernel
      omega
    have hoc : operCells[q]? = some (.string (operB q)) := by simp [operCells, strs, hq11]
    have HOC := Lib.hid hoc
    have hzc := HI3.out.lt
    clear hoc
    go_upto_region 24 with fail
    go_cut [4] from 71 to 78 (fun s4 wx => s4 = .string (dec k ++ ⟨#[32]⟩ ++ opName 16 ++ ⟨#[32]⟩ ++ operB q) ∧ Below wc.heap.size wc wx)
    case first =>
      go_region_with (go_at_call 86; refine (Operators_any _).mono ?_; rintro e w6 ⟨g6, rfl, hbk6, hb6⟩; have d1 := ((bcell hb6).1 _ 1 hzc).trans i1; have r6 : w6.cell? ⟨g6, q, none⟩ = some (.string (operB q)) := (hbk6.cell q).trans HOC.out)
      all_goals
        go_wp2_with fail
        go_meet
        exact ⟨rfl, (Below.refl _ _).drew.trans hb6⟩
    case rest =>
      obtain ⟨rfl, hb4⟩ := hcut
      have HB4 := Lib.hid (HB3.out.trans (hb4.mono HB3.out.size))
      clear hb4
      go_wp2_with fail
      go_ret
      exact ⟨(congrArg (fun s => Ending.returned (Value.string s)) HLN.out).symm, HB4.out⟩

set_option maxHeartbeats 4000000 in
theorem RLine_send (kk : Nat) (hkk : kk < 26) (hv : validB kk xa xb = true) (hT : hasText kk = true) (hh : Hid (kk = 21)) (c : List Ins) (ns : List ByteArray) (k : Nat) (hkl : k < len) (hl : len ≤ 10000) (hx : c[k]? = some ((kk : Int), xa, xb)) (hcap : len ≤ cap) (hwf : (Lit.int .i64 (kk : Int)).wf = true ∧ (Lit.int .i64 xa).wf = true ∧ (Lit.int .i64 xb).wf = true) (hcode : Sl w 3 A len (codeCells c))
    (hm : ns.length = m) (hd : m ≤ d) (hs : Sl w 1 B m (strs ns)) (hsz : ∀ x ∈ ns, x.size ≤ 1000000) (ht : Tabs w) :
    Calls Tryd.prog 53 #[.agg #[v0, v1, v2, .slice A len cap, .slice B m d], .int .i64 (k : Int)] w fun e w' => e = .returned (.string (lineB ns k ((kk : Int), xa, xb))) ∧ Below w.heap.size w w' := by
  obtain ⟨hx0, hx1, hx2⟩ := codeCells_get c k ((kk : Int), xa, xb) hx
  obtain ⟨cb, co, rfl, hbl, hcc⟩ := hcode.get hkl
  have x0 : w.cell? ⟨cb, co + k * 3, none⟩ = some (.int .i64 (kk : Int)) := hcc _ _ hx0
  have x1 : w.cell? ⟨cb, co + k * 3 + 1, none⟩ = some (.int .i64 xa) := hcc _ _ hx1
  have x2 : w.cell? ⟨cb, co + k * 3 + 2, none⟩ = some (.int .i64 xb) := hcc _ _ hx2
  have ba := i64_of_wf hwf.2.1
  have bb := i64_of_wf hwf.2.2
  have hkc : k < cap := by omega
  have hne : cb ≠ w.heap.size := by omega
  have hds := dec_size (k : Int) (by omega) (by omega)
  have hds1 : ¬ 9223372036854775807 < (dec k).size + 1 := by omega
  have hts := textB_size hsz ((kk : Int)).toNat ba.1 ba.2 bb.1 bb.2
  have hos := opName_size ((kk : Int)).toNat
  have hi0 : Bk ((w.alloc (.cells #[v0, v1, v2, .slice (some ⟨cb, co, none⟩) len cap, .slice B m d] 25)).alloc (.cells #[.int .i64 (kk : Int), .int .i64 xa, .int .i64 xb] 39)) (w.heap.size + 1) 39 #[.int .i64 (kk : Int), .int .i64 xa, .int .i64 xb] := by
    have := Bk.new (w.alloc (.cells #[v0, v1, v2, .slice (some ⟨cb, co, none⟩) len cap, .slice B m d] 25)) 39 #[.int .i64 (kk : Int), .int .i64 xa, .int .i64 xb]
    simpa using this
  have hm0 : Bk ((w.alloc (.cells #[v0, v1, v2, .slice (some ⟨cb, co, none⟩) len cap, .slice B m d] 25)).alloc (.cells #[.int .i64 (kk : Int), .int .i64 xa, .int .i64 xb] 39)) w.heap.size 25 #[v0, v1, v2, .slice (some ⟨cb, co, none⟩) len cap, .slice B m d] := (Bk.new _ _ _).alloc _
  have hb0 : Below w.heap.size w ((w.alloc (.cells #[v0, v1, v2, .slice (some ⟨cb, co, none⟩) len cap, .slice B m d] 25)).alloc (.cells #[.int .i64 (kk : Int), .int .i64 xa, .int .i64 xb] 39)) := ((Below.refl _ _).alloc (Nat.le_refl _) _).alloc (by simp) _
  have HI0 := Lib.hid hi0
  have HM0 := Lib.hid hm0
  have HB0 := Lib.hid hb0
  have HNS := Lib.hid hs
  have HTT := Lib.hid ht
  have HM := Lib.hid hm
  clear hx hx0 hx1 hx2 hcc hcode hwf hi0 hm0 hb0 hs ht hm
  go_enter Tryd.func53, Tryd.ntmps53
  go_wp2_with fail
  refine (Decimal_any k (by omega) (by omega) _).mono ?_
  rintro e w1 ⟨rfl, hb1⟩
  have hi1 := HI0.out.below hb1 HI0.out.lt
  have hm1 := HM0.out.below hb1 HM0.out.lt
  have HB1 := Lib.hid (HB0.out.trans (hb1.mono HB0.out.size))
  have i0 : w1.cell? ⟨w.heap.size + 1, 0, none⟩ = some (.int .i64 (kk : Int)) := hi1.cell 0
  have i1 : w1.cell? ⟨w.heap.size + 1, 1, none⟩ = some (.int .i64 xa) := hi1.cell 1
  have i2 : w1.cell? ⟨w.heap.size + 1, 2, none⟩ = some (.int .i64 xb) := hi1.cell 2
  have HI1 := Lib.hid hi1
  have HM1 := Lib.hid hm1
  clear hb1 hi1 hm1 x0 x1 x2 HI0 HM0 HB0
  simp only [Int.toNat_natCast] at hts hos
  have HV := Lib.hid hv
  have hd2 : ¬ 9223372036854775807 < (dec k).size + 1 + (opName kk).size := by omega
  go_wp2_with fail
  refine (RValid_yes HV.out _).mono ?_
  rintro e w2 ⟨rfl, hb2⟩
  have hi2 := HI1.out.below hb2 HI1.out.lt
  have hm2 := HM1.out.below hb2 HM1.out.lt
  have HB2 := Lib.hid (HB1.out.trans (hb2.mono HB1.out.size))
  have j0 : w2.cell? ⟨w.heap.size + 1, 0, none⟩ = some (.int .i64 kk) := hi2.cell 0
  have hz2 := hi2.lt
  have HI2 := Lib.hid hi2
  have HM2 := Lib.hid hm2
  have hcc : rnameCells[kk]? = some (.string (opName kk)) := by simp [rnameCells, strs, rnames, hkk]
  have HCC := Lib.hid hcc
  have hk25 : kk < 26 := hkk
  clear hb2 hi2 hm2 i0 i1 i2 HI1 HM1 hv hcc
  go_upto_region 5 with fail
  go_cut [6] from 20 to 26 (fun s6 wx => s6 = .string (dec k ++ ⟨#[32]⟩ ++ opName kk) ∧ Below w2.heap.size w2 wx)
  case first =>
    go_region_with (go_at_call 36; refine (RNames_below _).mono ?_; rintro e w6 ⟨g6, rfl, hbk6, hb6⟩; have d0 := ((bcell hb6).1 _ 0 hz2).trans j0; have r6 : w6.cell? ⟨g6, kk, none⟩ = some (.string (opName kk)) := (hbk6.cell kk).trans HCC.out)
    all_goals
      go_wp2_with fail
      go_meet
      exact ⟨rfl, (Below.refl _ _).drew.trans hb6⟩
  case rest =>
    obtain ⟨rfl, hb3⟩ := hcut
    have hi3 := HI2.out.below hb3 HI2.out.lt
    have hm3 := HM2.out.below hb3 HM2.out.lt
    have HB3 := Lib.hid (HB2.out.trans (hb3.mono HB2.out.size))
    have hT3 := HTT.out.below HB3.out
    have hN3 := HNS.out.below HB3.out
    have i0 : wc.cell? ⟨w.heap.size + 1, 0, none⟩ = some (.int .i64 kk) := hi3.cell 0
    have i1 : wc.cell? ⟨w.heap.size + 1, 1, none⟩ = some (.int .i64 xa) := hi3.cell 1
    have i2 : wc.cell? ⟨w.heap.size + 1, 2, none⟩ = some (.int .i64 xb) := hi3.cell 2
    have m0 : wc.cell? ⟨w.heap.size, 0, none⟩ = some v0 := hm3.cell 0
    have m1 : wc.cell? ⟨w.heap.size, 1, none⟩ = some v1 := hm3.cell 1
    have m2 : wc.cell? ⟨w.heap.size, 2, none⟩ = some v2 := hm3.cell 2
    have m3 : wc.cell? ⟨w.heap.size, 3, none⟩ = some (.slice (some ⟨cb, co, none⟩) len cap) := hm3.cell 3
    have m4 : wc.cell? ⟨w.heap.size, 4, none⟩ = some (.slice B m d) := hm3.cell 4
    have s1 : ¬ 9223372036854775807 < (dec k).size + 1 + (opName kk).size + 1 := by omega
    have sa := dec_size xa ba.1 ba.2
    have sb := dec_size xb bb.1 bb.2
    have sn := nameB_size hsz xa
    have HT3 := Lib.hid hT3
    have HN3 := Lib.hid hN3
    have HI3 := Lib.hid hi3
    have hpos := valid_pos HV.out
    clear hb3 j0 HI2 HM2 hT3 hN3 hm3 hi3 hd2
    have hln : lineB ns k (kk, xa, xb) = dec k ++ ⟨#[32]⟩ ++ opName kk ++ ⟨#[32]⟩ ++ textB ns kk xa xb := by simp [lineB, iV, HV.out, spB, hT, ByteArray.append_assoc]
    have HLN := Lib.hid hln
    clear hT hln
    obtain rfl := hh.out
    have hxa : 0 ≤ xa := hpos (by decide)
    have s2 : ¬ 9223372036854775807 < (dec k).size + 1 + (opName 21).size + 1 + (nameB ns xa).size := by omega
    have s3 : ¬ 9223372036854775807 < (dec k).size + 1 + (opName 21).size + 1 + (nameB ns xa).size + 1 := by omega
    have s4 : ¬ 9223372036854775807 < (dec k).size + 1 + (opName 21).size + 1 + (nameB ns xa).size + 1 + (dec xb).size := by omega
    have q1 := cell_regrown i1
    have q2 := cell_regrown i2
    have k0 := cell_regrown m0
    have k1 := cell_regrown m1
    have k2 := cell_regrown m2
    have k3 := cell_regrown m3
    have k4 := cell_regrown m4
    have cA := fun dd os => Calls.regrown_of (w := wc) (rname_any (w := grow (redrawn wc dd) os) (v0 := v0) (v1 := v1) (v2 := v2) (v3 := .slice (some ⟨cb, co, none⟩) len cap) (B := B) (d := d) hxa ba.2 HM.out hd (HN3.out.below (below_regrown _ dd os)))
    have cB := fun dd os => Calls.regrown_of (w := wc) (Decimal_any xb bb.1 bb.2 (grow (redrawn wc dd) os))
    have htx : textB ns 21 xa xb = nameB ns xa ++ ⟨#[32]⟩ ++ dec xb := rfl
    have HTX := Lib.hid htx
    clear htx
    go_wp2_with fail
    refine wp_region_quiet_below (by kernel_rfl) (by kernel_rfl) ?_
    repeat (quiet_step (first | with_reducible exact cA _ _ | with_reducible exact cB _ _))
    refine wpQuiet_nil ?_
    intro w4 hw'
    have hb4 : Below wc.heap.size wc w4 := by obtain ⟨pp, rfl⟩ := hw'; exact below_regrown _ _ _
    have HB4 := Lib.hid (HB3.out.trans (hb4.mono HB3.out.size))
    clear hw' hb4 cA cB q1 q2 k0 k1 k2 k3 k4
    go_wp2_with fail
    go_ret
    exact ⟨by rw [HLN.out, HTX.out]; simp only [ByteArray.append_assoc]; rfl, HB4.out⟩

theorem RLine_any (c : List Ins) (ns : List ByteArray) (k : Nat) (hkl : k < len) (hl : len ≤ 10000) (hx : c[k]? = some (xo, xa, xb)) (hcap : len ≤ cap) (hwf : (Lit.int .i64 xo).wf = true ∧ (Lit.int .i64 xa).wf = true ∧ (Lit.int .i64 xb).wf = true) (hcode : Sl w 3 A len (codeCells c))
    (hm : ns.length = m) (hd : m ≤ d) (hs : Sl w 1 B m (strs ns)) (hsz : ∀ x ∈ ns, x.size ≤ 1000000) (ht : Tabs w) :
    Calls Tryd.prog 53 #[.agg #[v0, v1, v2, .slice A len cap, .slice B m d], .int .i64 (k : Int)] w fun e w' => e = .returned (.string (lineB ns k (xo, xa, xb))) ∧ Below w.heap.size w w' := by
  cases hv : validB xo xa xb with
  | false => exact RLine_no hv c ns k hkl hl hx hcap hwf hcode hm hd hs hsz ht
  | true =>
    obtain ⟨kk, rfl, hkk, _⟩ := validB_some hv
    cases hT : hasText kk with
    | false => exact RLine_none kk hkk hv hT c ns k hkl hl hx hcap hwf hcode hm hd hs hsz ht
    | true =>
      have hh : (kk = 0 ∨ kk = 3 ∨ kk = 4 ∨ kk = 7 ∨ kk = 9 ∨ kk = 18 ∨ kk = 19 ∨ kk = 20) ∨ (kk = 6 ∨ kk = 8 ∨ kk = 24) ∨ (kk = 10 ∨ kk = 11) ∨ kk = 16 ∨ kk = 21 := by
        have h2 := hT
        simp [hasText] at h2
        omega
      rcases hh with hh | hh | hh | hh | hh
      · exact RLine_num kk hkk hv hT hh c ns k hkl hl hx hcap hwf hcode hm hd hs hsz ht
      · exact RLine_name kk hkk hv hT hh c ns k hkl hl hx hcap hwf hcode hm hd hs hsz ht
      · exact RLine_both kk hkk hv hT hh c ns k hkl hl hx hcap hwf hcode hm hd hs hsz ht
      · exact RLine_oper kk hkk hv hT (Lib.hid hh) c ns k hkl hl hx hcap hwf hcode hm hd hs hsz ht
      · exact RLine_send kk hkk hv hT (Lib.hid hh) c ns k hkl hl hx hcap hwf hcode hm hd hs hsz ht
end
end Go.Proofs.YtdmbcgkfecmakaaDoor
