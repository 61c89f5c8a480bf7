/- The law's world: step, of any kind; play. -/
import Derived.Test.YtaecdpijpdfboaaGreatStep0
import Derived.Test.YtaecdpijpdfboaaGreatStep1
import Derived.Test.YtaecdpijpdfboaaGreatStep2
import Derived.Test.YtaecdpijpdfboaaGreatStep3
import Derived.Test.YtaecdpijpdfboaaGreatStep4
import Derived.Test.YtaecdpijpdfboaaGreatStep5
import Derived.Test.YtaecdpijpdfboaaGreatStep7
import Derived.Test.YtaecdpijpdfboaaGreatStep8
import Derived.Test.YtaecdpijpdfboaaGreatPlay2
namespace Go.Proofs.YtaecdpijpdfboaaGreat
set_option linter.unusedVariables false
set_option linter.unusedSimpArgs false
set_option linter.unusedSectionVars false
open Go.RowKit Go.Sort Go.Shelf
attribute [local go_sem] Oper.semAt_some
set_option maxRecDepth 100000

section
variable {w : World} {B k : Nat} {L : LP} {s : St}
set_option maxHeartbeats 2000000 in
theorem step_other (h : LW w B L k s.m s.cs s.xs) (hx : s.xs.length ≤ 1000000) (hB : B ≤ w.heap.size) {o : OpV} (ho : o.Ok) (hk : 8 < o.k) : Calls Tryz.prog 15 #[.pointer (some ⟨L.p, 0, none⟩), .agg o.cells] w (StepP w B L k s) := by
  have hb1 : Below w.heap.size w (w.alloc o.box) := (Below.refl _ w).alloc (Nat.le_refl _) _
  have cO := fun n a ha => object_any ((h.below hb1).drewN n) hx a ha
  have h1 := Lib.hid (h.below hb1)
  have h2 := Lib.hid hb1
  have hb : -9223372036854775808 ≤ o.b ∧ o.b ≤ 9223372036854775807 := ⟨ho.b0, ho.b1⟩
  have e0 : (o.k == 0) = false := by simp; omega
  have e1 : (o.k == 1) = false := by simp; omega
  have e2 : (o.k == 2) = false := by simp; omega
  have e3 : (o.k == 3) = false := by simp; omega
  have e4 : (o.k == 4) = false := by simp; omega
  have e5 : (o.k == 5) = false := by simp; omega
  have e6 : (o.k == 6) = false := by simp; omega
  have e7 : (o.k == 7) = false := by simp; omega
  have e8 : (o.k == 8) = false := by simp; omega
  unfold OpV.box OpV.cells at *
  clear ho hk h hb1
  go_enter Tryz.func15, Tryz.ntmps15
  go_upto_if 35 with fail
  go_cut [5] (fun v wx => v = .int .u64 (o.word s) ∧ ∃ n, wx = (w.alloc (.cells #[.int .u8 o.k, .int .i64 o.h.k, .int .i64 o.h.c, .int .i64 o.h.f, .int .i64 o.a, .int .i64 o.b, .int .i64 o.i, .int .u64 o.w, .bool o.r] 53)).drewN n)
  case first =>
    obtain ⟨ok, oh, oa, ob, oi, ow, orr⟩ := o
    dsimp only at *
    clear e0 e1 e2 e3 e4 e5 e6 e7 e8 h1 h2
    cases orr with
    | true =>
      have HW : Hid (OpV.word ⟨ok, oh, oa, ob, oi, ow, true⟩ s = frW (max 0 (objAt s.xs ob))) := Lib.hid rfl
      have cF := fun w => RFromAddress_any (max 0 (objAt s.xs ob)) w
      have hmx := fun ts t w => run_max2 (P := Tryz.prog) ts t 0 (objAt s.xs ob) w
      go_wp2_with fail
      refine (cO 0 _ hb).mono ?_
      rintro e w1 ⟨rfl, n, rfl⟩
      clear cO
      go_wp2_with fail
      refine (cF _).mono ?_
      rintro e w2 ⟨rfl, rfl⟩
      unfold frA
      unfold frW at HW
      cases hin : inA (max 0 (objAt s.xs ob)) with
      | true =>
        rw [hin] at HW
        go_wp2_with fail
        go_meet
        case rel => exact ⟨by rw [HW.out]; rfl, n, rfl⟩
      | false =>
        rw [hin] at HW
        go_wp2_with fail
        go_meet
        case rel => exact ⟨by rw [HW.out]; rfl, n, rfl⟩
    | false =>
      go_wp2_with fail
      go_meet
      case rel => exact ⟨rfl, 0, rfl⟩
  case rest =>
    obtain ⟨rfl, n, rfl⟩ := hcut
    go_wp2_with fail
    go_ret
    exact ⟨rfl, ⟨L, ⟨rfl, rfl, rfl, rfl, rfl⟩, (h1.out.drewN n).monoK (Nat.le_succ k)⟩, (below_drewN h2.out n).mono hB⟩
theorem St.step_other (s : St) {o : OpV} (hk : 8 < o.k) : s.step o = s := by
  unfold St.step
  rw [if_neg (by omega), if_neg (by omega), if_neg (by omega), if_neg (by omega), if_neg (by omega), if_neg (by omega), if_neg (by omega), if_neg (by omega), if_neg (by omega)]
theorem step_any (h : LW w B L k s.m s.cs s.xs) (hx : s.xs.length ≤ 1000000) (hc : s.cs.length ≤ 100000) (hkb : k < 1000000) (hB : B ≤ w.heap.size) (o : OpV) (ho : o.Ok) : Calls Tryz.prog 15 #[.pointer (some ⟨L.p, 0, none⟩), .agg o.cells] w (StepP w B L k (s.step o)) := by
  by_cases h8 : 8 < o.k
  · rw [s.step_other h8]
    exact step_other h hx hB ho h8
  · obtain ⟨ok, hd, a, b, i, x, r⟩ := o
    have h0 := ho.k0
    simp only at h0 h8
    rcases (show ok = 0 ∨ ok = 1 ∨ ok = 2 ∨ ok = 3 ∨ ok = 4 ∨ ok = 5 ∨ ok = 6 ∨ ok = 7 ∨ ok = 8 by omega) with rfl | rfl | rfl | rfl | rfl | rfl | rfl | rfl | rfl
    · exact step_0 h hx hc hkb hB hd a b i x r ho
    · exact step_1 h hx hc hkb hB hd a b i x r ho
    · exact step_2 h hx hc hkb hB hd a b i x r ho
    · exact step_3 h hx hc hkb hB hd a b i x r ho
    · exact step_4 h hx hc hkb hB hd a b i x r ho
    · exact step_5 h hx hc hkb hB hd a b i x r ho
    · exact step_6 h hx hc hkb hB hd a b i x r ho
    · exact step_7 h hx hc hkb hB hd a b i x r ho
    · exact step_8 h hx hc hkb hB hd a b i x r ho
end
section
variable {w : World} {ops : List OpV} {A : Option Addr} {n c : Nat}
set_option maxHeartbeats 4000000 in
theorem play255_any (hs : SlR OpR w 9 A n ops) (hc : n ≤ c) (h24 : n ≤ 24) : Calls Tryz.prog 7 #[.slice A n c, .int .u8 255] w (PlayP w (St.new.play 255 ops)) := by
  have cO := open_any (w := w)
  have HS := Lib.hid hs
  clear hs
  go_enter Tryz.func7, Tryz.ntmps7
  go_wp2_with fail
  refine cO.mono ?_
  rintro e w1 ⟨L, rfl, h1, hb1⟩
  have H1 := Lib.hid h1
  have HB1 := Lib.hid hb1
  clear h1 hb1 cO
  go_wp2_with fail
  go_loopw [7, 8] (fun v i wr => ∃ (j k : Nat) (L' : LP), v = .bool true ∧ i = .int .i64 (j : Int) ∧ j ≤ n ∧ k ≤ j ∧ L.same L' ∧ LW wr w.heap.size L' k (St.new.play 255 (ops.take j)).m (St.new.play 255 (ops.take j)).cs (St.new.play 255 (ops.take j)).xs ∧ Below w.heap.size w wr) (fun _ i _ => n - (intOf i).toNat)
  case atStart => exact ⟨0, 0, L, rfl, rfl, Nat.zero_le _, Nat.le_refl _, ⟨rfl, rfl, rfl, rfl, rfl⟩, H1.out, HB1.out⟩
  case round =>
    obtain ⟨j, k, L', rfl, rfl, hj, hkj, hsm, hlw, hbw⟩ := hrel
    have hlen : (St.new.play 255 (ops.take j)).cs.length ≤ 0 + (ops.take j).length ∧ (St.new.play 255 (ops.take j)).xs.length ≤ 0 + (ops.take j).length := St.play_len 255 (ops.take j) St.new
    have hto : (ops.take j).length ≤ j := List.length_take_le _ _
    have HL := Lib.hid hlw
    have HBW := Lib.hid hbw
    have hlp : L'.p = L.p := hsm.1
    have HSM := Lib.hid hsm
    have HLP := Lib.hid hlp
    have HLN := Lib.hid hlen
    clear hlw hsm hlp hlen
    by_cases hlt : j < n
    · obtain ⟨b, o, x, r, rfl, hbl, hx, hr, ⟨hrc, hok⟩, hcell⟩ := HS.out.get hlt
      have cell : ∀ q v, r[q]? = some v → wr.cell? ⟨b, o + j * 9 + q, none⟩ = some v := fun q v hv => (HBW.out.cell (p := ⟨b, o + j * 9 + q, none⟩) hbl).trans (hcell q v hv)
      rw [hrc] at cell
      have c0 : wr.cell? ⟨b, o + j * 9, none⟩ = some (.int .u8 x.k) := cell 0 _ rfl
      have c1 : wr.cell? ⟨b, o + j * 9 + 1, none⟩ = some (.int .i64 x.h.k) := cell 1 _ rfl
      have c2 : wr.cell? ⟨b, o + j * 9 + 2, none⟩ = some (.int .i64 x.h.c) := cell 2 _ rfl
      have c3 : wr.cell? ⟨b, o + j * 9 + 3, none⟩ = some (.int .i64 x.h.f) := cell 3 _ rfl
      have c4 : wr.cell? ⟨b, o + j * 9 + 4, none⟩ = some (.int .i64 x.a) := cell 4 _ rfl
      have c5 : wr.cell? ⟨b, o + j * 9 + 5, none⟩ = some (.int .i64 x.b) := cell 5 _ rfl
      have c6 : wr.cell? ⟨b, o + j * 9 + 6, none⟩ = some (.int .i64 x.i) := cell 6 _ rfl
      have c7 : wr.cell? ⟨b, o + j * 9 + 7, none⟩ = some (.int .u64 x.w) := cell 7 _ rfl
      have c8 : wr.cell? ⟨b, o + j * 9 + 8, none⟩ = some (.bool x.r) := cell 8 _ rfl
      have HT : Hid (St.new.play 255 (ops.take (j + 1)) = if x.k ≤ 255 then (St.new.play 255 (ops.take j)).step x else St.new.play 255 (ops.take j)) := Lib.hid (by
        have hj2 : j < ops.length := by rw [HS.out.1]; exact hlt
        have e : ops.take (j + 1) = ops.take j ++ [x] := by
          rw [List.take_add_one, hx]
          rfl
        rw [e, St.play_snoc])
      have HOK := Lib.hid hok
      clear cell hrc hcell hx hr hok
      have hk2 : x.k ≤ 255 := HOK.out.k1
      have hk3 := HOK.out.k0
      have HTT : x.k ≤ 255 := hk2
      by_cases hk9 : x.k ≤ 255
      · have cS := step_any HL.out (by have := HLN.out.2; omega) (by have := HLN.out.1; omega) (by omega) HBW.out.size x HOK.out
        rw [HLP.out] at cS
        unfold OpV.cells at cS
        go_wp2_with fail
        refine cS.mono ?_
        rintro e w2 ⟨rfl, ⟨L2, hs2, h2⟩, hb2⟩
        have HL2 := Lib.hid h2
        have HB2 := Lib.hid hb2
        have HS2 := Lib.hid hs2
        clear h2 hb2 hs2 cS
        go_wp2_with fail
        go_roundw
        case rel => exact ⟨j + 1, k + 1, L2, rfl, by go_num, by omega, by omega, ⟨HS2.out.1.trans HSM.out.1, HS2.out.2.1.trans HSM.out.2.1, HS2.out.2.2.1.trans HSM.out.2.2.1, HS2.out.2.2.2.1.trans HSM.out.2.2.2.1, HS2.out.2.2.2.2.trans HSM.out.2.2.2.2⟩, by rw [HT.out, if_pos hk2]; exact HL2.out, HBW.out.trans HB2.out⟩
        case measure => simp [intOf]; omega
      · exact absurd hk2 hk9
    · obtain rfl : n = j := by omega
      have HT : Hid (ops.take n = ops) := Lib.hid (by rw [← HS.out.1]; exact List.take_length)
      go_wp2_with fail
      go_ret2
      exact ⟨L', k, by rw [HLP.out]; rfl, by omega, by have := HL.out; rw [HT.out] at this; exact this, HBW.out⟩
end
end Go.Proofs.YtaecdpijpdfboaaGreat
