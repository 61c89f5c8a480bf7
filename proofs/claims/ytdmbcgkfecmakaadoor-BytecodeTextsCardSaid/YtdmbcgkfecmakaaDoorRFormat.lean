/- refmeshref41.Format and SameLines. -/
import Derived.Test.YtdmbcgkfecmakaaDoorRLine
import Derived.Test.YtdmbcgkfecmakaaDoorAwakeB
import Derived.Test.YtdmbcgkfecmakaaDoorCodeR
namespace Go.Proofs.YtdmbcgkfecmakaaDoor
set_option linter.unusedVariables false
set_option linter.unusedSimpArgs false
set_option linter.unusedSectionVars false
open Go.RowKit Go.Sort
set_option maxRecDepth 100000

theorem head_eq (nm : ByteArray) (p l : Int) : headB nm p l = ⟨#[109, 101, 116, 104, 111, 100, 32]⟩ ++ nm ++ ⟨#[32]⟩ ++ dec p ++ ⟨#[32]⟩ ++ dec l := by
  apply Go.WideShapes.bytes_inj
  simp [headB, Lib.join, List.intercalate, spB]
section
variable {w : World} {nm : ByteArray} {p l : Int} {A B : Option Addr} {len cap m d : Nat}
set_option maxHeartbeats 4000000 in
theorem RFormat_any (c : List Ins) (ns : List ByteArray) (hc : c.length = len) (hl : len ≤ 10000) (hcap : len ≤ cap) (hw : insWf c) (hcode : Sl w 3 A len (codeCells c))
    (hm : ns.length = m) (hd : m ≤ d) (hs : Sl w 1 B m (strs ns)) (hsz : ∀ x ∈ ns, x.size ≤ 1000000) (hnm : nm.size ≤ 1000000) (p0 : -9223372036854775808 ≤ p) (p1 : p ≤ 9223372036854775807) (l0 : -9223372036854775808 ≤ l) (l1 : l ≤ 9223372036854775807) (ht : Tabs w) :
    Calls Tryd.prog 33 #[.agg #[.string nm, .int .i64 p, .int .i64 l, .slice A len cap, .slice B m d]] w (FmtPost w (fmtL nm p l c ns len)) := by
  have hb0 : Below w.heap.size w (w.alloc (.cells #[.string nm, .int .i64 p, .int .i64 l, .slice A len cap, .slice B m d] 25)) := (Below.refl _ _).alloc (Nat.le_refl _) _
  have HBK := Lib.hid (Bk.new w 25 #[.string nm, .int .i64 p, .int .i64 l, .slice A len cap, .slice B m d])
  have HB0 := Lib.hid hb0
  have HCODE := Lib.hid (hcode.below hb0)
  have HNS := Lib.hid (hs.below hb0)
  have HT := Lib.hid ht
  have hNlt : w.heap.size < (w.alloc (.cells #[.string nm, .int .i64 p, .int .i64 l, .slice A len cap, .slice B m d] 25)).heap.size := by simp
  have HC := Lib.hid hc
  have HM := Lib.hid hm
  have HW := Lib.hid hw
  have HHD := Lib.hid (head_eq nm p l)
  have sp' := dec_size p p0 p1
  have sl' := dec_size l l0 l1
  have t1 : ¬ 9223372036854775807 < 7 + nm.size := by omega
  have t2 : ¬ 9223372036854775807 < 7 + nm.size + 1 := by omega
  have t3 : ¬ 9223372036854775807 < 7 + nm.size + 1 + (dec p).size := by omega
  have t4 : ¬ 9223372036854775807 < 7 + nm.size + 1 + (dec p).size + 1 := by omega
  have t5 : ¬ 9223372036854775807 < 7 + nm.size + 1 + (dec p).size + 1 + (dec l).size := by omega
  clear hb0 hcode hs ht hc hm hw
  go_enter Tryd.func33, Tryd.ntmps33
  go_upto_region 1 with fail
  obtain ⟨W, hW⟩ : ∃ W, W = w.alloc (.cells #[.string nm, .int .i64 p, .int .i64 l, .slice A len cap, .slice B m d] 25) := ⟨_, rfl⟩
  rw [← hW] at HB0 HCODE HNS HBK hNlt ⊢
  clear hW
  have s3 : W.cell? ⟨w.heap.size, 0, none⟩ = some (.string nm) := HBK.out.cell 0
  have s4 : W.cell? ⟨w.heap.size, 1, none⟩ = some (.int .i64 p) := HBK.out.cell 1
  have s5 : W.cell? ⟨w.heap.size, 2, none⟩ = some (.int .i64 l) := HBK.out.cell 2
  go_cut [3] from 5 to 18 (fun s3 wx => ∃ g : Nat, s3 = .slice (some ⟨g, 0, none⟩) 1 1 ∧ W.heap.size ≤ g ∧ Bk wx g 9 #[.string (headB nm p l)] ∧ Below W.heap.size W wx)
  case first =>
    go_region_with (first
      | (go_at_call_of 52 (Value.int .i64 p); refine (Decimal_any p p0 p1 _).mono ?_; rintro e w1 ⟨rfl, hb1⟩; have c0 := ((bcell hb1).1 _ 0 hNlt).trans s3; have c2 := ((bcell hb1).1 _ 2 hNlt).trans s5; have z1 : W.heap.size ≤ w1.heap.size := hb1.size)
      | (go_at_call_of 52 (Value.int .i64 l); refine (Decimal_any l l0 l1 _).mono ?_; rintro e w2 ⟨rfl, hb2⟩; have c0' := ((bcell hb2).1 _ 0 (Nat.lt_of_lt_of_le hNlt z1)).trans c0; have z2 : W.heap.size ≤ w2.heap.size := Nat.le_trans z1 hb2.size))
    all_goals
      go_wp2_with fail
      go_meet
      refine ⟨w2.heap.size, rfl, z2, by rw [HHD.out]; exact Bk.new _ _ _, ((Below.refl _ _).drew.trans (hb1.trans (hb2.mono z1))).alloc z2 _⟩
  case rest =>
    obtain ⟨g, rfl, hg, hbk, hbel⟩ := hcut
    have hown : wc.ownsRow W.heap.size 9 1 (.slice (some ⟨g, 0, none⟩) 1 1) 1 (strs (fmtL nm p l c ns 0)) :=
      ⟨rfl, .inr ⟨g, 1, _, rfl, hg, hbk, Nat.le_refl _, by unfold maxLen; omega, rfl, rfl⟩⟩
    have HOWN := Lib.hid hown
    have HBEL := Lib.hid hbel
    clear hown hbel hbk
    obtain ⟨i9, hi9, hi0, hi1, hi2⟩ := info_parts i_str
    have HI := Lib.hid (And.intro hi9 (And.intro hi0 (And.intro hi1 hi2)))
    clear hi9 hi0 hi1 hi2 s3 s4 s5
    have sW : Tabs W := HT.out.below HB0.out
    have HTW := Lib.hid sW
    clear sW
    go_wp2_with fail
    go_loopg [3, 4] (len) (fun q v i wr => ∃ k, i = .int .i64 (k : Nat) ∧ k + q = len ∧ wr.ownsRow W.heap.size 9 1 v (k + 1) (strs (fmtL nm p l c ns k)) ∧ Below W.heap.size W wr)
    case atStart => exact ⟨0, rfl, by omega, HOWN.out, HBEL.out⟩
    case round =>
      obtain ⟨k, rfl, hkq, hown, hB⟩ := hrel
      have hbm := HBK.out.below hB hNlt
      have m0 : wr.cell? ⟨w.heap.size, 0, none⟩ = some (.string nm) := hbm.cell 0
      have m1 : wr.cell? ⟨w.heap.size, 1, none⟩ = some (.int .i64 p) := hbm.cell 1
      have m2 : wr.cell? ⟨w.heap.size, 2, none⟩ = some (.int .i64 l) := hbm.cell 2
      have m3 : wr.cell? ⟨w.heap.size, 3, none⟩ = some (.slice A len cap) := hbm.cell 3
      have m4 : wr.cell? ⟨w.heap.size, 4, none⟩ = some (.slice B m d) := hbm.cell 4
      clear hbm
      cases gk with
      | zero =>
        obtain rfl : k = len := hkq
        have HO := Lib.hid hown
        have HB := Lib.hid hB
        clear hown hB
        go_wp2_with fail
        go_ret
        obtain ⟨g', cp, hv, h1, h2, h3⟩ := own_sl HO.out (by omega)
        subst hv
        have hln := fmtL_length nm p l c ns k
        refine ⟨g', cp, by rw [hln]; rfl, by rw [hln]; exact h1, by rw [hln]; exact h3, HB0.out.trans (HB.out.mono (Nat.le_of_lt hNlt)), by omega⟩
      | succ q =>
        have hkl : k < len := by omega
        obtain ⟨⟨xo, xa, xb⟩, hx⟩ : ∃ x, c[k]? = some x := ⟨_, List.getElem?_eq_getElem (by rw [HC.out]; exact hkl)⟩
        have hwx := HW.out _ (List.mem_of_getElem? hx)
        have hzW := hB.size
        have HB := Lib.hid hB
        have HO := Lib.hid hown
        have HX := Lib.hid hx
        have HWX := Lib.hid hwx
        clear hB hown hx hwx
        go_wp2_with fail
        refine (RLine_any (v0 := .string nm) (v1 := .int .i64 p) (v2 := .int .i64 l) c ns k hkl hl HX.out hcap HWX.out (HCODE.out.below HB.out) HM.out hd (HNS.out.below HB.out) hsz (HTW.out.below HB.out)).mono ?_
        rintro e w1 ⟨rfl, hb1⟩
        have hbx := HB.out.trans (hb1.mono hzW)
        have hszx := hbx.size
        have hown := own_below HO.out hb1
        have hsucc : strs (fmtL nm p l c ns k) ++ [Value.string (lineB ns k (xo, xa, xb))] = strs (fmtL nm p l c ns (k + 1)) := by rw [fmtL_succ nm p l c ns k _ HX.out]; simp [strs]
        have HSU := Lib.hid hsucc
        have hlt := fun kk hk => (hown.lt kk hk).1
        have HLT := Lib.hid hlt
        have HBX := Lib.hid hbx
        have HOX := Lib.hid hown
        clear hbx hown hb1 hsucc hlt m0 m1 m2 m3 m4
        go_wp2_with (first | (at_builtin; refine wpList_append_own _ rfl (.tmp 26) (.tmp 30) 23 rfl W.heap.size 9 i9 (.string ⟨#[]⟩) 1 16 Tryd.underlying23 HI.out.1 HI.out.2.1 HI.out.2.2.1 HI.out.2.2.2 rfl (by decide) _ _ _ rfl (HOX.out.alloc _) ⟨w1.heap.size, 0, none⟩ 1 1 [.string (lineB ns k (xo, xa, xb))] rfl rfl (cell_one_new _ _ _) (by simp [Value.oneCell']) (by unfold maxLen; omega) (by omega) (by simp; omega) ?_; intro v' w4 hown4 hg4 _; rw [HSU.out] at hown4))
        have HO4 := Lib.hid hown4
        have HG4 := Lib.hid hg4
        clear hown4 hg4
        go_wp2_with fail
        go_roundg q
        case measure => omega
        case rel => exact ⟨k + 1, by go_num, by omega, HO4.out, (HBX.out.alloc hszx _).grown HG4.out (by simp; omega) HLT.out⟩

set_option maxHeartbeats 1000000 in
theorem sameTexts_yes (x : List ByteArray) (A B : Option Addr) (c d : Nat) (w : World) (hl : x.length ≤ 1000000) (hc : x.length ≤ c) (hd : x.length ≤ d) (h1 : Sl w 1 A x.length (strs x)) (h2 : Sl w 1 B x.length (strs x)) :
    Calls Tryd.prog 49 #[.slice A x.length c, .slice B x.length d] w fun e w' => e = .returned (.bool true) ∧ Below w.heap.size w w' := by
  have hb : ((x.length : Int) != (x.length : Int)) = false := by simp
  go_enter Tryd.func49, Tryd.ntmps49
  go_wp2
  go_loopw [5] (fun i wr => ∃ k n : Nat, i = .int .i64 (k : Int) ∧ k ≤ x.length ∧ wr = w.drewN n) (fun i _ => x.length - (intOf i).toNat)
  case atStart => exact ⟨0, 0, rfl, Nat.zero_le _, rfl⟩
  case round =>
    obtain ⟨k, n, rfl, hk, rfl⟩ := hrel
    by_cases hlt : k < x.length
    · obtain ⟨b, o, rfl, hb1, hc1⟩ := h1.get hlt
      obtain ⟨b', o', rfl, hb2, hc2⟩ := h2.get hlt
      obtain ⟨s, hs⟩ : ∃ s, x[k]? = some s := ⟨_, List.getElem?_eq_getElem hlt⟩
      have e1 : w.cell? ⟨b, o + k, none⟩ = some (.string s) := hc1 k _ (by simp [strs, hs])
      have e2 : w.cell? ⟨b', o' + k, none⟩ = some (.string s) := hc2 k _ (by simp [strs, hs])
      have hcc : k < c := by omega
      have hdd : k < d := by omega
      have hb3 : (!(s.toList == s.toList)) = false := by simp
      clear hs hc1 hc2 h1 h2
      go_wp2
      go_quiet (fail)
      go_wp2
      go_roundw
      case rel => exact ⟨k + 1, _, by go_num, by omega, rfl⟩
      case measure => simp [intOf]; omega
    · obtain rfl : k = x.length := by omega
      go_wp2
      go_ret
      exact ⟨rfl, below_drewN (Below.refl _ _) _⟩
theorem SameLines_yes (x : List ByteArray) (A B : Option Addr) (c d : Nat) (w : World) (hl : x.length ≤ 1000000) (hc : x.length ≤ c) (hd : x.length ≤ d) (h1 : Sl w 1 A x.length (strs x)) (h2 : Sl w 1 B x.length (strs x)) :
    Calls Tryd.prog 31 #[.slice A x.length c, .slice B x.length d] w fun e w' => e = .returned (.bool true) ∧ Below w.heap.size w w' := by
  have HC := fun w' h1 h2 => sameTexts_yes x A B c d w' hl hc hd h1 h2
  have HCC := Lib.hid HC
  have H12 := Lib.hid (And.intro h1 h2)
  clear HC h1 h2
  go_enter Tryd.func31, Tryd.ntmps31
  go_wp2_with fail
  refine (HCC.out _ H12.out.1 H12.out.2).mono ?_
  rintro e w' ⟨rfl, hb⟩
  go_wp2
  go_ret
  exact ⟨rfl, hb⟩
end
end Go.Proofs.YtdmbcgkfecmakaaDoor
