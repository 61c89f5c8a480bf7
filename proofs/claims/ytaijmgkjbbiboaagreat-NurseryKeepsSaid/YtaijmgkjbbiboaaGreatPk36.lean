/- Parts of the proof: Keeps10. -/
import Derived.Test.YtaijmgkjbbiboaaGreatPkA
import Derived.Test.YtaijmgkjbbiboaaGreatPk28
import Derived.Test.YtaijmgkjbbiboaaGreatPk34
import Derived.Test.YtaijmgkjbbiboaaGreatPk35
set_option linter.unusedVariables false
set_option linter.unusedSimpArgs false
set_option linter.unusedSectionVars false
set_option maxRecDepth 100000
namespace Go.Proofs.YtaijmgkjbbiboaaGreat
section
open Go.RowKit Go.Sort
attribute [local go_sem] Oper.semAt_some onlyN_normal
theorem below_set2 {B g : Nat} {w w' : World} (h : Below B w w') (hg : B ≤ g) (x y : Value) : Below B w ((w'.setCell ⟨g, 0, none⟩ x).setCell ⟨g, 1, none⟩ y) := (h.setCell (p := ⟨g, 0, none⟩) hg _).setCell (p := ⟨g, 1, none⟩) hg _
theorem need_max {m : Mm} {L : List Int} {j : Nat} {a : Int} (h : L[j]? = some a) (h0 : (m.hdr a).1 = 0) : m.need (L.take (j + 1)) = m.need (L.take j) + 2 + max 2 (m.hdr a).2.f ∧ 0 ≤ (m.hdr a).2.f ∧ (m.hdr a).2.f ≤ 30 := by
 have hv := Mm.hdr_valid h0
 have hb := vH_bound hv
 rw [m.need_step h]
 unfold wH
 rw [if_pos hv]
 omega
theorem need_le32 (m : Mm) : ∀ l : List Int, m.need l ≤ 32 * l.length
 | [] => by unfold Mm.need; simp
 | a :: l => by
  have h1 := wH_bound (m.hdr a).2
  have h2 := need_le32 m l
  unfold Mm.need
  rw [List.length_cons]
  push_cast
  omega
theorem take_has {K : List Int} {i : Nat} {x a : Int} (h : K[i]? = some x) : (K.take (i + 1)).contains a = ((K.take i).contains a || decide (x = a)) := by
 rw [List.take_add_one, h]
 by_cases e : x = a
 ·subst e
  simp
 ·rw [show decide (x = a) = false from decide_eq_false e, Bool.or_false]
  simp only [Option.toList_some]
  rw [List.contains_eq_any_beq, List.contains_eq_any_beq, List.any_append]
  simp
  intro hh
  exact absurd hh.symm e
section
variable {w : World} {Al A3 : Option Addr} {n cl n3 c3 : Nat} {limit : Int}
theorem keeps10_big (h : ¬ (n ≤ 60 ∧ n3 ≤ 20 ∧ limit ≤ 2000)) : Calls Tryz.prog 4 #[.int .i64 limit, .slice Al n cl, .slice A3 n3 c3] w fun e w' => e = .returned (.bool true) ∧ Below w.heap.size w w' := by
 have cA := awake10_any w
 by_cases hm : 60 < n ∨ 20 < n3
 ·have cM := fun {w1 : World} => Many10_any (w := w1) (Al := Al) (n := n) (cl := cl) (r := n3)
  rw [decide_eq_true hm] at cM
  clear h hm
  go_enter Tryz.func4, Tryz.ntmps4
  go_wp2_with fail
  refine cA.mono ?_
  rintro e w1 ⟨rfl, hb1⟩
  have HB1 := lh hb1
  clear hb1 cA
  go_wp2_with fail
  refine cM.mono ?_
  rintro e w2 ⟨rfl, rfl⟩
  clear cM
  go_wp2_with fail
  go_ret
  exact ⟨rfl, HB1.out⟩
 ·have cM := fun {w1 : World} => Many10_any (w := w1) (Al := Al) (n := n) (cl := cl) (r := n3)
  rw [decide_eq_false hm] at cM
  have hl : 2000 < limit := by omega
  have dl : decide (limit > 2000) = true := decide_eq_true (by omega)
  clear h hm hl
  go_enter Tryz.func4, Tryz.ntmps4
  go_wp2_with fail
  refine cA.mono ?_
  rintro e w1 ⟨rfl, hb1⟩
  have HB1 := lh hb1
  clear hb1 cA
  go_wp2_with fail
  refine cM.mono ?_
  rintro e w2 ⟨rfl, rfl⟩
  clear cM
  go_wp2_with fail
  go_ret
  exact ⟨rfl, HB1.out⟩
end
section
variable {w : World} {Al : Option Addr} {cl : Nat} {l : List OpV} {limit : Int} {roots : List Int} {Ar : Option Addr} {cr : Nat}
set_option maxHeartbeats 16000000 in
theorem keeps10_main (hl : Op10 w Al l) (hcl : l.length ≤ cl) (hn : l.length ≤ 60) (h3 : Sl w 1 Ar roots.length (wds roots)) (h3c : roots.length ≤ cr) (h3u : ∀ x ∈ roots, U64 x) (h3b : ∀ b o, Ar = some ⟨b, o, none⟩ → b < w.heap.size) (hn3 : roots.length ≤ 20) (hlim : limit ≤ 2000) : Calls Tryz.prog 4 #[.int .i64 limit, .slice Al l.length cl, .slice Ar roots.length cr] w fun e w' => e = .returned (.bool true) ∧ Below w.heap.size w w' := by
 have cA := awake10_any w
 have cM := fun {w1 : World} => Many10_any (w := w1) (Al := Al) (n := l.length) (cl := cl) (r := roots.length)
 rw [decide_eq_false (show ¬ (60 < l.length ∨ 20 < roots.length) by omega)] at cM
 have cO := fun {w1 : World} (hb : Below w.heap.size w w1) => Open10_any (hl.below hb rfl) hcl (by omega) limit
 have dl : decide (limit > 2000) = false := decide_eq_false (by omega)
 have h3' := h3
 have HR0 : Hid (∀ {w1 : World}, Below w.heap.size w w1 → Sl w1 1 Ar roots.length (wds roots) ∧ ∀ b o, Ar = some ⟨b, o, none⟩ → b < w.heap.size) := lh fun hb => ⟨h3.below hb, h3b⟩
 have HRU := lh (And.intro h3c (And.intro h3u hn3))
 clear h3 h3' h3c h3u h3b hn3
 have HLN := lh (And.intro hn hlim)
 clear hl hcl hn hlim
 go_enter Tryz.func4, Tryz.ntmps4
 go_wp2_with fail
 refine cA.mono ?_
 rintro e wa ⟨rfl, hba⟩
 have HBA := lh hba
 have cO1 := cO hba
 clear hba cA cO
 go_wp2_with fail
 refine cM.mono ?_
 rintro e wb ⟨rfl, rfl⟩
 clear cM
 go_wp2_with fail
 refine cO1.mono ?_
 rintro e w2 ⟨hop, hin⟩
 obtain ⟨g1, g2, V1, V2, gt, bt, k, A1, u1, A2, u2, A, u, Ax, cx, Ah, ch, B1, rfl, hen⟩ := Env10.start hop (by have := hin.cs.len; have := HLN.out; omega)
 obtain ⟨s, hs⟩ : ∃ s, s = bld10 limit l := ⟨_, rfl⟩
 rw [← hs] at hin hen ⊢
 have HIN := lh hin
 have HEN := lh hen
 have HXL : Hid (s.xs.length ≤ 60 ∧ s.cs.length ≤ 60 ∧ s.m.size ≤ 40000000) := lh ⟨by have := hin.xl; have := HLN.out; omega, by have := hin.cs.len; have := HLN.out; omega, hin.size⟩
 clear hs
 clear hop hin hen cO1
 go_upto_region 8 with fail
 obtain ⟨w3, hw3⟩ : ∃ w3, w3 = (w2.alloc (.cells #[.pointer (some ⟨g1, 0, none⟩), .pointer (some ⟨g2, 0, none⟩)] 29)).alloc (.cells #[.int .i64 s.m.old.base, .int .i64 s.m.old.limit, .slice A1 s.m.old.ws.length u1, .int .i64 s.m.yng.base, .int .i64 s.m.yng.limit, .slice A2 s.m.yng.ws.length u2, .slice A s.cs.length u, .slice Ax s.xs.length cx, .slice Ah s.hs.length ch] 40) := ⟨_, rfl⟩
 obtain ⟨bm, hbm⟩ : ∃ bm, bm = w2.heap.size := ⟨_, rfl⟩
 obtain ⟨bx, hbx⟩ : ∃ bx, bx = w2.heap.size + 1 := ⟨_, rfl⟩
 rw [← hw3, ← hbx, ← hbm] at HEN
 rw [← hw3, ← hbx, ← hbm]
 clear hw3 hbm hbx
 have HB3 : Hid (Below w.heap.size w w3) := lh (HBA.out.trans (HEN.out.bl.mono HBA.out.size))
 have hs3 := HR0.out HB3.out
 have cR := HEN.out.reach hs3.1 HRU.out.1 (by have := HRU.out.2.2; omega) HRU.out.2.1 (fun b o e => Nat.lt_of_lt_of_le (hs3.2 b o e) HB3.out.size) HXL.out.2.2
 obtain ⟨p, hp⟩ : ∃ p, p = s.m.order s.cs roots := ⟨_, rfl⟩
 rw [← hp] at cR
 have hoi : s.m.OrdI p.1 := by rw [hp]; exact s.m.order_I s.cs roots
 have hpl : p.1.length ≤ 40000000 := by
  have h1 := hoi.len HIN.out.ok
  have h2 := HXL.out.2.2
  unfold Mm.size at h2
  omega
 have HP := lh (And.intro hp (And.intro hoi hpl))
 have HG3 : Hid (∀ q, colS g1 g2 V1 V2 bt q → q < w3.heap.size) := lh fun q hq => HEN.out.lt hq
 have mc0 : w3.cell? ⟨bm, 0, none⟩ = some (.pointer (some ⟨g1, 0, none⟩)) := HEN.out.hm.cell 0
 have mc1 : w3.cell? ⟨bm, 1, none⟩ = some (.pointer (some ⟨g2, 0, none⟩)) := HEN.out.hm.cell 1
 clear hs3 hp hoi hpl
 go_wp2_with fail
 refine cR.mono ?_
 rintro e w4 ⟨v, rfl, hown, hb4⟩
 obtain ⟨Av, cv, rfl, hcv⟩ := own_shape hown
 have HE4 := lh (HEN.out.below hb4)
 have HV4 := lh (And.intro hcv hown)
 have HB4 := lh (HB3.out.trans (hb4.mono HB3.out.size))
 have HZ4 : Hid (w3.heap.size ≤ w4.heap.size) := lh hb4.size
 have cK := RRemembered_any HE4.out.rm HE4.out.rc (by have := HXL.out.2.1; omega) HIN.out.ok
 obtain ⟨K, hK⟩ : ∃ K, K = s.m.crossing (cardIn s.cs) := ⟨_, rfl⟩
 rw [← hK] at cK
 unfold rmV at cK
 have hKl : K.length ≤ 536870912 := by rw [hK]; exact HIN.out.ok.crossing_len2 _
 have HK := lh (And.intro hK hKl)
 have xc0 : w4.cell? ⟨bx, 0, none⟩ = some (.int .i64 s.m.old.base) := HE4.out.hx.cell 0
 have xc1 : w4.cell? ⟨bx, 1, none⟩ = some (.int .i64 s.m.old.limit) := HE4.out.hx.cell 1
 have xc2 : w4.cell? ⟨bx, 2, none⟩ = some (.slice A1 s.m.old.ws.length u1) := HE4.out.hx.cell 2
 have xc3 : w4.cell? ⟨bx, 3, none⟩ = some (.int .i64 s.m.yng.base) := HE4.out.hx.cell 3
 have xc4 : w4.cell? ⟨bx, 4, none⟩ = some (.int .i64 s.m.yng.limit) := HE4.out.hx.cell 4
 have xc5 : w4.cell? ⟨bx, 5, none⟩ = some (.slice A2 s.m.yng.ws.length u2) := HE4.out.hx.cell 5
 have xc6 : w4.cell? ⟨bx, 6, none⟩ = some (.slice A s.cs.length u) := HE4.out.hx.cell 6
 clear cR hown hcv hb4 hK hKl mc0 mc1
 go_wp2_with fail
 refine cK.mono ?_
 rintro e w5 ⟨v5, rfl, hown5, hb5⟩
 obtain ⟨A5, c5, rfl, hc5⟩ := own_shape hown5
 have HE5 := lh (HE4.out.below hb5)
 have HV5 := lh (And.intro HV4.out.1 (own_local HV4.out.2 fun q hq => hb5.block q (HV4.out.2.lt q hq).2))
 have HB5 := lh (HB4.out.trans (hb5.mono HB4.out.size))
 have HW5 := lh (And.intro hc5 hown5)
 have hs5 := HR0.out HB5.out
 have cC := HE5.out.collect hs5.1 HRU.out.1 (by have := HRU.out.2.2; omega) HRU.out.2.1 (fun b o e => ⟨Nat.lt_of_lt_of_le (hs5.2 b o e) HB5.out.size, fun e' => by
  have h1 := HE5.out.ge e'
  have h2 := HE5.out.h0
  have h3 := hs5.2 b o e
  have h4 := HBA.out.size
  omega⟩) HXL.out.2.2
 obtain ⟨Q1, hQ1⟩ : ∃ Q1, Q1 = ColP w5 B1 B1 g1 g2 gt bt k V1 V2 (s.m.collect s.m.yng.chk s.cs roots) := ⟨_, rfl⟩
 rw [← hQ1] at cC
 clear cK hown5 hc5 hb5 hs5 xc0 xc1 xc2 xc3 xc4 xc5 xc6
 have mc0 : w5.cell? ⟨bm, 0, none⟩ = some (.pointer (some ⟨g1, 0, none⟩)) := HE5.out.hm.cell 0
 have mc1 : w5.cell? ⟨bm, 1, none⟩ = some (.pointer (some ⟨g2, 0, none⟩)) := HE5.out.hm.cell 1
 go_wp2_with fail
 refine cC.mono ?_
 rintro e w6 hcp
 rw [hQ1] at hcp
 clear cC mc0 mc1 hQ1
 by_cases he : (s.m.collect s.m.yng.chk s.cs roots).e = 0
 case neg =>
  obtain ⟨v8, V1', V2', k', rfl, _, hen8, _, _⟩ := HE5.out.col hcp
  have HB8 := lh (HBA.out.trans (hen8.bl.mono HBA.out.size))
  obtain ⟨C, hC⟩ : ∃ C, C = s.m.collect s.m.yng.chk s.cs roots := ⟨_, rfl⟩
  rw [← hC] at he ⊢
  have de : decide (C.e ≠ 0) = true := decide_eq_true he
  have de2 : (C.e == 0) = false := by simpa using he
  have de3 : (C.e != 0) = true := by simpa using he
  clear he hC hcp hen8
  go_wp2_with fail
  go_ret
  exact ⟨rfl, HB8.out⟩
 case pos =>
  obtain ⟨L, U, Z, hf, _, _, hc⟩ := collect_0 HIN.out.ok he
  rw [hc] at hcp
  obtain ⟨v6, V1', V2', k', rfl, _, hen6, _, hk6⟩ := HE5.out.col hcp
  dsimp only at hen6 ⊢
  have hLp : L = p.1 := by rw [HP.out.1]; exact hf.hL
  subst hLp
  have HF := lh hf
  obtain ⟨M, hM⟩ : ∃ M, M = (s.m.mid U Z).emp := ⟨_, rfl⟩
  rw [← hM] at hen6
  have HM := lh hM
  have HE6 := lh hen6
  have HB6 := lh (HBA.out.trans (hen6.bl.mono HBA.out.size))
  have hno : ∀ q, w3.heap.size ≤ q → ¬ colS g1 g2 V1 V2 bt q := fun q hq e' => by have := HG3.out q e'; omega
  have HV6 := lh (And.intro HV5.out.1 (own_sl (own_kp HV5.out.2 hk6 fun q hq => hno q (by have := (HV5.out.2.lt q hq).1; omega))))
  have HW6 := lh (And.intro HW5.out.1 (own_sl (own_kp HW5.out.2 hk6 fun q hq => hno q (by have := (HW5.out.2.lt q hq).1; have := HZ4.out; omega))))
  clear he hc hcp hen6 hf hM hno hk6
  have xc0 : w6.cell? ⟨bx, 0, none⟩ = some (.int .i64 s.m.old.base) := HE6.out.hx.cell 0
  have xc1 : w6.cell? ⟨bx, 1, none⟩ = some (.int .i64 s.m.old.limit) := HE6.out.hx.cell 1
  have xc2 : w6.cell? ⟨bx, 2, none⟩ = some (.slice A1 s.m.old.ws.length u1) := HE6.out.hx.cell 2
  have xc3 : w6.cell? ⟨bx, 3, none⟩ = some (.int .i64 s.m.yng.base) := HE6.out.hx.cell 3
  have xc4 : w6.cell? ⟨bx, 4, none⟩ = some (.int .i64 s.m.yng.limit) := HE6.out.hx.cell 4
  have xc5 : w6.cell? ⟨bx, 5, none⟩ = some (.slice A2 s.m.yng.ws.length u2) := HE6.out.hx.cell 5
  have xc6 : w6.cell? ⟨bx, 6, none⟩ = some (.slice A s.cs.length u) := HE6.out.hx.cell 6
  go_wp2_with fail
  have hwl : s.m.old.ws.length ≤ 16777216 := by
   have h1 := HIN.out.ok.o.lim
   have h2 := HIN.out.ok.ol
   have h3 := HIN.out.ok.ob
   omega
  clear xc0 xc1 xc2 xc3 xc4 xc5 xc6
  go_loopw [16] (fun ix wr => ∃ j : Nat, ix = .int .i64 (j : Int) ∧ j ≤ s.m.old.ws.length ∧ Below w6.heap.size w6 wr) (fun ix _ => s.m.old.ws.length - (intOf ix).toNat)
  case atStart => exact ⟨0, rfl, Nat.zero_le _, Below.refl _ _⟩
  case round =>
   obtain ⟨j, rfl, hj, hb⟩ := hrel
   have HBL := lh hb
   have HEL := lh (HE6.out.below hb)
   have HVL := lh (HV6.out.2.below hb)
   have HWL := lh (HW6.out.2.below hb)
   have xc2 : wr.cell? ⟨bx, 2, none⟩ = some (.slice A1 s.m.old.ws.length u1) := HEL.out.hx.cell 2
   by_cases hlt : j < s.m.old.ws.length
   ·obtain ⟨x, hx, hat, hcr, _⟩ := HF.out.keep hlt
    rw [← HK.out.1, ← HM.out] at hat
    rw [← HK.out.1] at hcr
    have cL := MLoad_of HEL.out.mr (j : Int)
    rw [hat] at cL
    unfold atV at cL
    dsimp only at cL
    obtain ⟨y, hy⟩ : ∃ y, y = if (j : Int) ∈ K then s.m.mvd p.1 (s.m.plc s.m.old.top p.1) x else x := ⟨_, rfl⟩
    rw [← hy] at cL
    have HY : Hid (((j : Int) ∉ K → y = x) ∧ ((j : Int) ∈ K → ygW y = false) ∧ U64 y) := lh (by
     have hu := HEL.out.mr.ok.at_u hat
     rw [← hy] at hu
     refine ⟨fun h => by rw [hy, if_neg h], fun h => ?_, hu⟩
     rw [hy, if_pos h]
     exact HF.out.mvd_old (hcr h).1)
    obtain ⟨bw, ow, hA1, hwbl, hwc⟩ := HEL.out.rm.o.sl.2.resolve_left (by omega)
    have hwj := hwc j _ (wds_get hx)
    have hwcap := HEL.out.rm.o.cap
    have HWJ := lh (And.intro hA1 (And.intro hwbl hwj))
    have mc0 : wr.cell? ⟨bm, 0, none⟩ = some (.pointer (some ⟨g1, 0, none⟩)) := HEL.out.hm.cell 0
    have mc1 : wr.cell? ⟨bm, 1, none⟩ = some (.pointer (some ⟨g2, 0, none⟩)) := HEL.out.hm.cell 1
    clear hb hx hat hcr hy hA1 hwbl hwc hwj
    go_wp2_with fail
    refine cL.mono ?_
    rintro e w7 ⟨rfl, hb7⟩
    have HB7 := lh (HBL.out.trans (hb7.mono HBL.out.size))
    have HE7 := lh (HEL.out.below hb7)
    have HS7 := lh hb7.size
    have HW7 := lh (HWL.out.below hb7)
    have HX7 := lh (((bcell hb7).1 _ _ HWJ.out.2.1).trans HWJ.out.2.2)
    clear cL hb7 mc0 mc1 xc2
    go_wp2_with fail
    have hKl := HK.out.2
    go_loopw [19, 20] (fun sl ix wr => ∃ i : Nat, ix = .int .i64 (i : Int) ∧ sl = .bool ((K.take i).contains (j : Int)) ∧ i ≤ K.length ∧ Below w7.heap.size w7 wr) (fun _ ix _ => K.length - (intOf ix).toNat)
    case atStart => exact ⟨0, rfl, rfl, Nat.zero_le _, Below.refl _ _⟩
    case round =>
     obtain ⟨i, rfl, rfl, hi, hb⟩ := hrel
     by_cases hil : i < K.length
     ·have hx : K[i]? = some K[i] := List.getElem?_eq_getElem hil
      have hth := take_has (a := (j : Int)) hx
      obtain ⟨bb, oo, hA, hbl, hc⟩ := (HW7.out.below hb).2.resolve_left (by omega)
      have hci : wr.cell? ⟨bb, oo + i, none⟩ = some (.int .i64 K[i]) := hc i _ (ints_get hx)
      subst hA
      have hcc := HW6.out.1
      have hic : i < c5 := by omega
      generalize K[i] = x5 at *
      have HTH := lh hth
      have HBI := lh hb
      clear hc hbl hx hth hb
      cases hcn : (K.take i).contains (j : Int) with
      | true =>
       rw [hcn] at HTH
       clear hcn
       go_wp2_with fail
       go_roundw
       case rel => exact ⟨i + 1, by go_num, by rw [HTH.out]; rfl, by omega, HBI.out⟩
       case measure => simp [intOf]; omega
      | false =>
       rw [hcn] at HTH
       clear hcn
       go_wp2_with fail
       go_roundw
       case rel => exact ⟨i + 1, by go_num, by rw [HTH.out, Bool.false_or]; try rfl, by omega, HBI.out⟩
       case measure => simp [intOf]; omega
     ·obtain rfl : i = K.length := by omega
      rw [List.take_of_length_le (Nat.le_refl _)]
      have HBI := lh hb
      have HEI := lh (HE7.out.below hb)
      have HXI : Hid (A1 = some ⟨bw, ow, none⟩ ∧ wr.cell? ⟨bw, ow + j, none⟩ = some (.int .u64 x)) := lh ⟨HWJ.out.1, ((bcell hb).1 _ _ (Nat.lt_of_lt_of_le HWJ.out.2.1 HS7.out)).trans HX7.out⟩
      cases hcn : K.contains (j : Int) with
      | true =>
       have hm : (j : Int) ∈ K := by simpa using hcn
       have cY := fun w => Young_any HY.out.2.2 w
       rw [HY.out.2.1 hm] at cY
       clear hcn hm hb
       go_wp2_with fail
       refine (cY _).mono ?_
       rintro e w9 ⟨rfl, rfl⟩
       clear cY
       go_wp2_with fail
       go_roundw
       case rel => exact ⟨j + 1, by go_num, by omega, HB7.out.trans (HBI.out.mono HB7.out.size)⟩
       case measure => simp [intOf]; omega
      | false =>
       have hm : (j : Int) ∉ K := by simpa using hcn
       have hyx := HY.out.1 hm
       subst hyx
       have xi := HXI.out.2
       have ha1 := HXI.out.1
       subst ha1
       have xc2 : wr.cell? ⟨bx, 2, none⟩ = some (.slice (some ⟨bw, ow, none⟩) s.m.old.ws.length u1) := HEI.out.hx.cell 2
       clear hcn hm hb
       go_wp2_with fail
       go_roundw
       case rel => exact ⟨j + 1, by go_num, by omega, HB7.out.trans (HBI.out.mono HB7.out.size)⟩
       case measure => simp [intOf]; omega
   ·obtain rfl : j = s.m.old.ws.length := by omega
    have HB7 := lh (HB6.out.trans (hb.mono HB6.out.size))
    clear hlt hj
    go_wp2_with fail
    obtain ⟨T, hT⟩ : ∃ T, T = s.m.old.top := ⟨_, rfl⟩
    have hT0 : T = (s.m.old.ws.length : Int) := by
     have := HIN.out.ok.ob
     rw [hT]
     unfold Spc.top
     omega
    have HT := lh (And.intro hT hT0)
    clear hT hT0 xc2 hb
    have hplc : p.1.length ≤ 40000000 := HP.out.2.2
    go_loopw [21, 22] (fun at_ ix wq => ∃ i : Nat, ix = .int .i64 (i : Int) ∧ at_ = .int .i64 (T + s.m.need (p.1.take i)) ∧ i ≤ p.1.length ∧ Below w6.heap.size w6 wq) (fun _ ix _ => p.1.length - (intOf ix).toNat)
    case atStart =>
     have e0 : T + s.m.need (p.1.take 0) = (s.m.old.ws.length : Int) := by
      rw [List.take_zero, HT.out.2]
      show _ + (0 : Int) = _
      omega
     exact ⟨0, rfl, by rw [e0], Nat.zero_le _, HBL.out⟩
    case round =>
     obtain ⟨i, rfl, rfl, hi, hb⟩ := hrel
     have HBQ := lh hb
     have HEQ := lh (HE6.out.below hb)
     have HXQ := lh HEQ.out.hx
     by_cases hil : i < p.1.length
     ·have hx : p.1[i]? = some p.1[i] := List.getElem?_eq_getElem hil
      have h0 := (HP.out.2.1.ok _ (List.mem_of_getElem? hx)).1
      obtain ⟨hnd, hf0, hf1⟩ := need_max hx h0
      have hnn := s.m.need_nn (p.1.take i)
      have hnl := need_le32 s.m (p.1.take i)
      rw [List.length_take] at hnl
      have hcp := HF.out.copy hx
      rw [← HM.out, ← HT.out.1] at hcp
      have cH := fun (w' : World) (hb' : Below wr.heap.size wr w') => RHeader_yes (HEQ.out.below hb').rm p.1[i] h0
      have cI := fun (w' : World) (hb' : Below wr.heap.size wr w') => RID_yes (HEQ.out.below hb').rm HIN.out.ok h0 (by have := hdr_rg HIN.out.ok h0; omega)
      unfold rmV at cH
      obtain ⟨bb, oo, hA, hbl, hc⟩ := (HV6.out.2.below hb).2.resolve_left (by omega)
      have hcj : wr.cell? ⟨bb, oo + i, none⟩ = some (.int .i64 p.1[i]) := hc i _ (ints_get hx)
      have HE1 := lh (And.intro hbl hcj)
      have hcv := HV6.out.1
      subst hA
      have hic : i < cv := by omega
      generalize p.1[i] = a at *
      obtain ⟨⟨er, hk, hc_, hf⟩, hhd⟩ : ∃ q : Int × Hdr, q = s.m.hdr a := ⟨_, rfl⟩
      obtain ⟨⟨im, is⟩, hid⟩ : ∃ q : Id, q = s.m.idOf a := ⟨_, rfl⟩
      rw [← hhd] at hnd hf0 hf1 hcp h0
      simp only [← hhd] at cH
      simp only [← hid] at cI
      dsimp only at hnd hf0 hf1 hcp h0
      obtain ⟨N, hN⟩ : ∃ N, N = s.m.need (p.1.take i) := ⟨_, rfl⟩
      rw [← hN] at hnd hnn hnl hcp
      have HND := lh hnd
      have hTb : 0 ≤ T ∧ T ≤ 16777216 := by have := HT.out.2; omega
      have hAid : M.idOf (T + N) = ⟨im, is⟩ := by
       rw [hid]
       unfold Mm.idOf
       rw [hcp.2]
      have HAC := lh (And.intro hcp.1 hAid)
      have hw1 : IntKind.i64.wrap (T + N + 2) = T + N + 2 := IntWalk.i64_in _ (by omega)
      have hw2 : IntKind.i64.wrap (T + N + 2 + max 2 hf) = T + N + 2 + max 2 hf := IntWalk.i64_in _ (by omega)
      have HTN : Hid (0 ≤ T + N ∧ T + N ≤ 4294967296) := lh ⟨by omega, by omega⟩
      rw [← hN]
      have HCH := lh cH
      have HCI := lh cI
      clear cH cI hb hx h0 hnd hf0 hf1 hnn hnl hcp hbl hc hcj hhd hid hN hTb hAid
      go_upto_region 28 with fail
      refine wp_region_addsF0 11 (fun i => ([[], [0], [], [], [2, 3], [4], [1, 5], [6], [7], [7], []] : List (List Nat)).getD i []) [9] (EL [Ent.val (.pointer (some ⟨bx, 0, none⟩)), Ent.val (.agg #[.int .i64 s.m.old.base, .int .i64 s.m.old.limit, .slice A1 s.m.old.ws.length u1, .int .i64 s.m.yng.base, .int .i64 s.m.yng.limit, .slice A2 s.m.yng.ws.length u2]), Ent.val (.slice (some ⟨bb, oo, none⟩) p.1.length cv), Ent.val (.int .i64 (i : Int)), Ent.val (.pointer (some ⟨bb, oo + i, none⟩)), Ent.val (.int .i64 a), Ent.val (.tuple #[.agg #[.int .i64 hk, .int .i64 hc_, .int .i64 hf], .int .i64 0]), Ent.val (.tuple #[.agg #[.int .i64 hk, .int .i64 hc_, .int .i64 hf], .int .i64 0]), Ent.val (.agg #[.int .i64 hk, .int .i64 hc_, .int .i64 hf]), Ent.val (.int .i64 0), Ent.blk 58 #[.int .i64 0, .int .i64 0, .int .i64 0]]) (by kernel_rfl) (by kernel_rfl) (by kernel_rfl) (by kernel_rfl) (by kernel_rfl) (by rfl) ?_ ?_
      ·intro i hi o ho vs w9 hb1 hgr
       rcases (show i = 0 ∨ i = 1 ∨ i = 2 ∨ i = 3 ∨ i = 4 ∨ i = 5 ∨ i = 6 ∨ i = 7 ∨ i = 8 ∨ i = 9 ∨ i = 10 by omega) with rfl | rfl | rfl | rfl | rfl | rfl | rfl | rfl | rfl | rfl | rfl <;> cases ho
       ·clear hgr
        change Made _ (Adds _ _ _) (Sem.run _ (execOp (Act.eval (frm _ _ _ [])) _) _)
        simp only [frm]
        go_simp
        exact adds_val rfl
       ·have h0 : vs 0 = _ := hgr 0 (by decide)
        clear hgr
        change Made _ (Adds _ _ _) (Sem.run _ (execOp (Act.eval (Act.put (frm _ _ _ []) (some 144) (vs 0))) _) _)
        simp only [frm, h0]
        have hbk := HXQ.out.below hb1 HXQ.out.lt
        have c0 : w9.cell? ⟨bx, 0, none⟩ = some (.int .i64 s.m.old.base) := hbk.cell 0
        have c1 : w9.cell? ⟨bx, 1, none⟩ = some (.int .i64 s.m.old.limit) := hbk.cell 1
        have c2 : w9.cell? ⟨bx, 2, none⟩ = some (.slice A1 s.m.old.ws.length u1) := hbk.cell 2
        have c3 : w9.cell? ⟨bx, 3, none⟩ = some (.int .i64 s.m.yng.base) := hbk.cell 3
        have c4 : w9.cell? ⟨bx, 4, none⟩ = some (.int .i64 s.m.yng.limit) := hbk.cell 4
        have c5 : w9.cell? ⟨bx, 5, none⟩ = some (.slice A2 s.m.yng.ws.length u2) := hbk.cell 5
        clear hbk
        go_simp
        exact adds_val rfl
       ·clear hgr
        change Made _ (Adds _ _ _) (Sem.run _ (execOp (Act.eval (frm _ _ _ [])) _) _)
        simp only [frm]
        go_simp
        exact adds_val rfl
       ·clear hgr
        change Made _ (Adds _ _ _) (Sem.run _ (execOp (Act.eval (frm _ _ _ [])) _) _)
        simp only [frm]
        go_simp
        exact adds_val rfl
       ·have h2 : vs 2 = _ := hgr 2 (by decide)
        have h3 : vs 3 = _ := hgr 3 (by decide)
        clear hgr
        change Made _ (Adds _ _ _) (Sem.run _ (execOp (Act.eval (Act.put (Act.put (frm _ _ _ []) (some 147) (vs 3)) (some 146) (vs 2))) _) _)
        simp only [frm, h2, h3]
        go_simp
        exact adds_val rfl
       ·have h4 : vs 4 = _ := hgr 4 (by decide)
        clear hgr
        change Made _ (Adds _ _ _) (Sem.run _ (execOp (Act.eval (Act.put (frm _ _ _ []) (some 148) (vs 4))) _) _)
        simp only [frm, h4]
        have e4 : w9.cell? ⟨bb, oo + i, none⟩ = some (.int .i64 a) := ((bcell hb1).1 _ _ HE1.out.1).trans HE1.out.2
        go_simp
        exact adds_val rfl
       ·have h1 : vs 1 = _ := hgr 1 (by decide)
        have h5 : vs 5 = _ := hgr 5 (by decide)
        clear hgr
        change Made _ (Adds _ _ _) (Sem.run _ (execOp (Act.eval (Act.put (Act.put (frm _ _ _ []) (some 149) (vs 5)) (some 145) (vs 1))) _) _)
        simp only [frm, h1, h5]
        have cM := HCH.out _ hb1
        go_simp
        exact adds_below cM
       ·have h6 : vs 6 = _ := hgr 6 (by decide)
        clear hgr
        change Made _ (Adds _ _ _) (Sem.run _ (execOp (Act.eval (Act.put (frm _ _ _ []) (some 150) (vs 6))) _) _)
        simp only [frm, h6]
        go_simp
        exact adds_val rfl
       ·have h7 : vs 7 = _ := hgr 7 (by decide)
        clear hgr
        change Made _ (Adds _ _ _) (Sem.run _ (execOp (Act.eval (Act.put (frm _ _ _ []) (some 143) (vs 7))) _) _)
        simp only [frm, h7]
        go_simp
        exact adds_val rfl
       ·have h7 : vs 7 = _ := hgr 7 (by decide)
        clear hgr
        change Made _ (Adds _ _ _) (Sem.run _ (execOp (Act.eval (Act.put (frm _ _ _ []) (some 143) (vs 7))) _) _)
        simp only [frm, h7]
        go_simp
        exact adds_val rfl
       ·clear hgr
        change Made _ (Adds _ _ _) (Sem.run _ (execOp (Act.eval (frm _ _ _ [])) _) _)
        simp only [frm]
        go_simp
        exact adds_blk
      ·intro vs w9 hb1 hall hap
       obtain ⟨⟨g10, h10, k10⟩, q10⟩ := hall 10 (by omega)
       have r10 : wr.heap.size ≤ g10 ∧ g10 < w9.heap.size := q10 g10 (by rw [h10]; rfl)
       clear q10
       have h8 : vs 8 = _ := (hall 8 (by omega)).1
       have h9 : vs 9 = _ := (hall 9 (by omega)).1
       clear hall hap
       change wpList _ _ _ [_, _] (Act.put (Act.put (Act.put (Act.put (Act.put (Act.put (Act.put (Act.put (Act.put (Act.put (Act.put (frm _ _ _ []) (some 23) (vs 10)) (some 152) (vs 9)) (some 151) (vs 8)) (some 143) (vs 7)) (some 150) (vs 6)) (some 149) (vs 5)) (some 148) (vs 4)) (some 147) (vs 3)) (some 146) (vs 2)) (some 145) (vs 1)) (some 144) (vs 0)) _
       simp only [frm, h8, h9, h10]
       have HB9 := lh hb1
       have HK9 := lh k10
       have hr10 := r10
       have d0 : w9.cell? ⟨g10, 0, none⟩ = some (.int .i64 0) := k10.cell 0
       have d1 : w9.cell? ⟨g10, 1, none⟩ = some (.int .i64 0) := k10.cell 1
       have d2 : w9.cell? ⟨g10, 2, none⟩ = some (.int .i64 0) := k10.cell 2
       have f0 := k10.free 0
       have f1 := k10.free 1
       have f2 := k10.free 2
       clear hb1 k10 r10 h8 h9 h10
       go_wp2_with fail
       have hbz : Below wr.heap.size wr (((w9.setCell ⟨g10, 0, none⟩ (.int .i64 hk)).setCell ⟨g10, 1, none⟩ (.int .i64 hc_)).setCell ⟨g10, 2, none⟩ (.int .i64 hf)) := below_set3 HB9.out (by omega) _ _ _
       have HBZ := lh hbz
       have HKZ := lh (HK9.out.set3 (.int .i64 hk) (.int .i64 hc_) (.int .i64 hf))
       have HGZ : Hid (wr.heap.size ≤ g10) := lh hr10.1
       clear hbz HB9 HK9 hr10 d0 d1 d2 f0 f1 f2
       obtain ⟨gh, hgh⟩ : ∃ gh, gh = g10 := ⟨_, rfl⟩
       generalize ((w9.setCell ⟨g10, 0, none⟩ (.int .i64 hk)).setCell ⟨g10, 1, none⟩ (.int .i64 hc_)).setCell ⟨g10, 2, none⟩ (.int .i64 hf) = w10 at *
       rw [← hgh] at HKZ HGZ ⊢
       clear hgh
       rw [onlyN_normal]
       have HXZ := lh (HXQ.out.below HBZ.out HXQ.out.lt)
       have HEZ := lh (And.intro (Nat.lt_of_lt_of_le HE1.out.1 HBZ.out.size) (((bcell HBZ.out).1 _ _ HE1.out.1).trans HE1.out.2))
       go_upto_region 29 with fail
       refine wp_region_addsF0 11 (fun i => ([[], [0], [], [], [2, 3], [4], [1, 5], [6], [7], [7], []] : List (List Nat)).getD i []) [9] (EL [Ent.val (.pointer (some ⟨bx, 0, none⟩)), Ent.val (.agg #[.int .i64 s.m.old.base, .int .i64 s.m.old.limit, .slice A1 s.m.old.ws.length u1, .int .i64 s.m.yng.base, .int .i64 s.m.yng.limit, .slice A2 s.m.yng.ws.length u2]), Ent.val (.slice (some ⟨bb, oo, none⟩) p.1.length cv), Ent.val (.int .i64 (i : Int)), Ent.val (.pointer (some ⟨bb, oo + i, none⟩)), Ent.val (.int .i64 a), Ent.val (.tuple #[.agg #[.int .i64 im, .int .i64 is], .int .i64 0]), Ent.val (.tuple #[.agg #[.int .i64 im, .int .i64 is], .int .i64 0]), Ent.val (.agg #[.int .i64 im, .int .i64 is]), Ent.val (.int .i64 0), Ent.blk 65 #[.int .i64 0, .int .i64 0]]) (by kernel_rfl) (by kernel_rfl) (by kernel_rfl) (by kernel_rfl) (by kernel_rfl) (by rfl) ?_ ?_
       ·intro i hi o ho vs w11 hb1 hgr
        rcases (show i = 0 ∨ i = 1 ∨ i = 2 ∨ i = 3 ∨ i = 4 ∨ i = 5 ∨ i = 6 ∨ i = 7 ∨ i = 8 ∨ i = 9 ∨ i = 10 by omega) with rfl | rfl | rfl | rfl | rfl | rfl | rfl | rfl | rfl | rfl | rfl <;> cases ho
        ·clear hgr
         change Made _ (Adds _ _ _) (Sem.run _ (execOp (Act.eval (frm _ _ _ [])) _) _)
         simp only [frm]
         go_simp
         exact adds_val rfl
        ·have h0 : vs 0 = _ := hgr 0 (by decide)
         clear hgr
         change Made _ (Adds _ _ _) (Sem.run _ (execOp (Act.eval (Act.put (frm _ _ _ []) (some 154) (vs 0))) _) _)
         simp only [frm, h0]
         have hbk := HXZ.out.below hb1 HXZ.out.lt
         have c0 : w11.cell? ⟨bx, 0, none⟩ = some (.int .i64 s.m.old.base) := hbk.cell 0
         have c1 : w11.cell? ⟨bx, 1, none⟩ = some (.int .i64 s.m.old.limit) := hbk.cell 1
         have c2 : w11.cell? ⟨bx, 2, none⟩ = some (.slice A1 s.m.old.ws.length u1) := hbk.cell 2
         have c3 : w11.cell? ⟨bx, 3, none⟩ = some (.int .i64 s.m.yng.base) := hbk.cell 3
         have c4 : w11.cell? ⟨bx, 4, none⟩ = some (.int .i64 s.m.yng.limit) := hbk.cell 4
         have c5 : w11.cell? ⟨bx, 5, none⟩ = some (.slice A2 s.m.yng.ws.length u2) := hbk.cell 5
         clear hbk
         go_simp
         exact adds_val rfl
        ·clear hgr
         change Made _ (Adds _ _ _) (Sem.run _ (execOp (Act.eval (frm _ _ _ [])) _) _)
         simp only [frm]
         go_simp
         exact adds_val rfl
        ·clear hgr
         change Made _ (Adds _ _ _) (Sem.run _ (execOp (Act.eval (frm _ _ _ [])) _) _)
         simp only [frm]
         go_simp
         exact adds_val rfl
        ·have h2 : vs 2 = _ := hgr 2 (by decide)
         have h3 : vs 3 = _ := hgr 3 (by decide)
         clear hgr
         change Made _ (Adds _ _ _) (Sem.run _ (execOp (Act.eval (Act.put (Act.put (frm _ _ _ []) (some 157) (vs 3)) (some 156) (vs 2))) _) _)
         simp only [frm, h2, h3]
         go_simp
         exact adds_val rfl
        ·have h4 : vs 4 = _ := hgr 4 (by decide)
         clear hgr
         change Made _ (Adds _ _ _) (Sem.run _ (execOp (Act.eval (Act.put (frm _ _ _ []) (some 158) (vs 4))) _) _)
         simp only [frm, h4]
         have e4 : w11.cell? ⟨bb, oo + i, none⟩ = some (.int .i64 a) := ((bcell hb1).1 _ _ HEZ.out.1).trans HEZ.out.2
         go_simp
         exact adds_val rfl
        ·have h1 : vs 1 = _ := hgr 1 (by decide)
         have h5 : vs 5 = _ := hgr 5 (by decide)
         clear hgr
         change Made _ (Adds _ _ _) (Sem.run _ (execOp (Act.eval (Act.put (Act.put (frm _ _ _ []) (some 159) (vs 5)) (some 155) (vs 1))) _) _)
         simp only [frm, h1, h5]
         have cM := HCI.out _ (HBZ.out.trans (hb1.mono HBZ.out.size))
         go_simp
         exact adds_below cM
        ·have h6 : vs 6 = _ := hgr 6 (by decide)
         clear hgr
         change Made _ (Adds _ _ _) (Sem.run _ (execOp (Act.eval (Act.put (frm _ _ _ []) (some 160) (vs 6))) _) _)
         simp only [frm, h6]
         go_simp
         exact adds_val rfl
        ·have h7 : vs 7 = _ := hgr 7 (by decide)
         clear hgr
         change Made _ (Adds _ _ _) (Sem.run _ (execOp (Act.eval (Act.put (frm _ _ _ []) (some 153) (vs 7))) _) _)
         simp only [frm, h7]
         go_simp
         exact adds_val rfl
        ·have h7 : vs 7 = _ := hgr 7 (by decide)
         clear hgr
         change Made _ (Adds _ _ _) (Sem.run _ (execOp (Act.eval (Act.put (frm _ _ _ []) (some 153) (vs 7))) _) _)
         simp only [frm, h7]
         go_simp
         exact adds_val rfl
        ·clear hgr
         change Made _ (Adds _ _ _) (Sem.run _ (execOp (Act.eval (frm _ _ _ [])) _) _)
         simp only [frm]
         go_simp
         exact adds_blk
       intro vs w11 hb1 hall hap
       obtain ⟨⟨g10, h10, k10⟩, q10⟩ := hall 10 (by omega)
       have r10 : w10.heap.size ≤ g10 ∧ g10 < w11.heap.size := q10 g10 (by rw [h10]; rfl)
       clear q10
       have h8 : vs 8 = _ := (hall 8 (by omega)).1
       have h9 : vs 9 = _ := (hall 9 (by omega)).1
       clear hall hap
       change wpList _ _ _ [_, _] (Act.put (Act.put (Act.put (Act.put (Act.put (Act.put (Act.put (Act.put (Act.put (Act.put (Act.put (frm _ _ _ []) (some 25) (vs 10)) (some 162) (vs 9)) (some 161) (vs 8)) (some 153) (vs 7)) (some 160) (vs 6)) (some 159) (vs 5)) (some 158) (vs 4)) (some 157) (vs 3)) (some 156) (vs 2)) (some 155) (vs 1)) (some 154) (vs 0)) _
       simp only [frm, h8, h9, h10]
       have HB9 := lh hb1
       have HK9 := lh k10
       have hr10 := r10
       have d0 : w11.cell? ⟨g10, 0, none⟩ = some (.int .i64 0) := k10.cell 0
       have d1 : w11.cell? ⟨g10, 1, none⟩ = some (.int .i64 0) := k10.cell 1
       have f0 := k10.free 0
       have f1 := k10.free 1
       clear hb1 k10 r10 h8 h9 h10
       go_wp2_with fail
       have hbz : Below w10.heap.size w10 ((w11.setCell ⟨g10, 0, none⟩ (.int .i64 im)).setCell ⟨g10, 1, none⟩ (.int .i64 is)) := below_set2 HB9.out (by omega) _ _
       have HKI := lh ((HK9.out.set 0 (.int .i64 im)).set 1 (.int .i64 is))
       have HKH := lh (HKZ.out.below hbz HKZ.out.lt)
       have hby := HBZ.out.trans (hbz.mono HBZ.out.size)
       have HBY := lh hby
       clear hbz hby HB9 HK9 HKZ hr10 d0 d1 f0 f1 HXZ HEZ HBZ
       obtain ⟨gi, hgi⟩ : ∃ gi, gi = g10 := ⟨_, rfl⟩
       rw [← hgi] at HKI HKH HBY ⊢
       generalize (w11.setCell ⟨gi, 0, none⟩ (.int .i64 im)).setCell ⟨gi, 1, none⟩ (.int .i64 is) = w12 at *
       clear hgi
       rw [onlyN_normal]
       have HE12 := lh (HEQ.out.below HBY.out)
       have cH2 := MHeader_yes HE12.out.mr (T + N) (by rw [HAC.out.1])
       simp only [HAC.out.1] at cH2
       have mc0 : w12.cell? ⟨bm, 0, none⟩ = some (.pointer (some ⟨g1, 0, none⟩)) := HE12.out.hm.cell 0
       have mc1 : w12.cell? ⟨bm, 1, none⟩ = some (.pointer (some ⟨g2, 0, none⟩)) := HE12.out.hm.cell 1
       go_wp2_with fail
       refine cH2.mono ?_
       rintro e w13 ⟨rfl, hb13⟩
       clear cH2 mc0 mc1
       go_upto_region 31 with fail
       have hby2 := hb13.trans (((Below.refl w13.heap.size w13).alloc (Nat.le_refl _) (.cells #[.int .i64 hk, .int .i64 hc_, .int .i64 hf] 58)).mono hb13.size)
       have HK27 : Hid (Bk (w13.alloc (.cells #[.int .i64 hk, .int .i64 hc_, .int .i64 hf] 58)) w13.heap.size 58 #[.int .i64 hk, .int .i64 hc_, .int .i64 hf]) := lh (Bk.new _ _ _)
       have HBX := lh (HBY.out.trans (hby2.mono HBY.out.size))
       have HKI2 := lh (HKI.out.below hby2 HKI.out.lt)
       have HKH2 := lh (HKH.out.below hby2 HKH.out.lt)
       have HE14 := lh (HE12.out.below hby2)
       clear hby2 hb13 HBY HKI HKH HE12
       generalize w13.alloc (.cells #[.int .i64 hk, .int .i64 hc_, .int .i64 hf] 58) = w14 at *
       obtain ⟨g27, hg27⟩ : ∃ g27, g27 = w13.heap.size := ⟨_, rfl⟩
       rw [← hg27] at HK27 ⊢
       clear hg27
       have cI2 := MID_yes HE14.out.mr (a := T + N) (by rw [HAC.out.1]) HTN.out
       simp only [HAC.out.2] at cI2
       have mc0 : w14.cell? ⟨bm, 0, none⟩ = some (.pointer (some ⟨g1, 0, none⟩)) := HE14.out.hm.cell 0
       have mc1 : w14.cell? ⟨bm, 1, none⟩ = some (.pointer (some ⟨g2, 0, none⟩)) := HE14.out.hm.cell 1
       go_wp2_with fail
       refine cI2.mono ?_
       rintro e w15 ⟨rfl, hb15⟩
       clear cI2 mc0 mc1
       go_upto_region 32 with fail
       have hby2 := hb15.trans (((Below.refl w15.heap.size w15).alloc (Nat.le_refl _) (.cells #[.int .i64 im, .int .i64 is] 65)).mono hb15.size)
       have HK29 : Hid (Bk (w15.alloc (.cells #[.int .i64 im, .int .i64 is] 65)) w15.heap.size 65 #[.int .i64 im, .int .i64 is]) := lh (Bk.new _ _ _)
       have HBW := lh (HBX.out.trans (hby2.mono HBX.out.size))
       have hki := HKI2.out.below hby2 HKI2.out.lt
       have hkh := HKH2.out.below hby2 HKH2.out.lt
       have hk27 := HK27.out.below hby2 HK27.out.lt
       clear hby2 hb15 HBX HKI2 HKH2 HE14 HK27
       generalize w15.alloc (.cells #[.int .i64 im, .int .i64 is] 65) = w16 at *
       obtain ⟨g29, hg29⟩ : ∃ g29, g29 = w15.heap.size := ⟨_, rfl⟩
       rw [← hg29] at HK29 ⊢
       clear hg29
       have a0 : w16.cell? ⟨gh, 0, none⟩ = some (.int .i64 hk) := hkh.cell 0
       have a1 : w16.cell? ⟨gh, 1, none⟩ = some (.int .i64 hc_) := hkh.cell 1
       have a2 : w16.cell? ⟨gh, 2, none⟩ = some (.int .i64 hf) := hkh.cell 2
       have b0 : w16.cell? ⟨gi, 0, none⟩ = some (.int .i64 im) := hki.cell 0
       have b1 : w16.cell? ⟨gi, 1, none⟩ = some (.int .i64 is) := hki.cell 1
       have e0 : w16.cell? ⟨g27, 0, none⟩ = some (.int .i64 hk) := hk27.cell 0
       have e1 : w16.cell? ⟨g27, 1, none⟩ = some (.int .i64 hc_) := hk27.cell 1
       have e2 : w16.cell? ⟨g27, 2, none⟩ = some (.int .i64 hf) := hk27.cell 2
       have i0 : w16.cell? ⟨g29, 0, none⟩ = some (.int .i64 im) := HK29.out.cell 0
       have i1 : w16.cell? ⟨g29, 1, none⟩ = some (.int .i64 is) := HK29.out.cell 1
       clear hki hkh hk27
       go_wp2_with fail
       go_roundw
       case rel => exact ⟨i + 1, by go_num, by rw [HND.out]; try (congr 1; omega), by omega, HBQ.out.trans (HBW.out.mono HBQ.out.size)⟩
       case measure => simp [intOf]; omega
     ·obtain rfl : i = p.1.length := by omega
      rw [List.take_of_length_le (Nat.le_refl _)]
      have hzt := HF.out.ztop
      rw [← HM.out, ← HT.out.1] at hzt
      have cT := Top_any HEQ.out.mr.o
      rw [hzt] at cT
      have mc0 : wr.cell? ⟨bm, 0, none⟩ = some (.pointer (some ⟨g1, 0, none⟩)) := HEQ.out.hm.cell 0
      have mc1 : wr.cell? ⟨bm, 1, none⟩ = some (.pointer (some ⟨g2, 0, none⟩)) := HEQ.out.hm.cell 1
      clear hb hzt
      go_wp2_with fail
      refine cT.mono ?_
      rintro e w9 ⟨rfl, hb9⟩
      have HB9 := lh (HB6.out.trans ((HBQ.out.trans (hb9.mono HBQ.out.size)).mono HB6.out.size))
      clear cT hb9 mc0 mc1
      go_wp2_with fail
      go_ret
      exact ⟨rfl, HB9.out⟩
theorem keeps10_any (hl : Op10 w Al l) (hcl : l.length ≤ cl) (h3 : Sl w 1 Ar roots.length (wds roots)) (h3c : roots.length ≤ cr) (h3u : ∀ x ∈ roots, U64 x) (h3b : ∀ b o, Ar = some ⟨b, o, none⟩ → b < w.heap.size) : Calls Tryz.prog 4 #[.int .i64 limit, .slice Al l.length cl, .slice Ar roots.length cr] w fun e w' => e = .returned (.bool true) ∧ Below w.heap.size w w' := by
 by_cases h : l.length ≤ 60 ∧ roots.length ≤ 20 ∧ limit ≤ 2000
 ·exact keeps10_main hl hcl h.1 h3 h3c h3u h3b h.2.1 h.2.2
 ·exact keeps10_big h
end
end
end Go.Proofs.YtaijmgkjbbiboaaGreat
