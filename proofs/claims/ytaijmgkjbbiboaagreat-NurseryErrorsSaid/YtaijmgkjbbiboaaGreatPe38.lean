/- Parts of the proof: Errs10. -/
import Derived.Test.YtaijmgkjbbiboaaGreatPeA
import Derived.Test.YtaijmgkjbbiboaaGreatPe29
import Derived.Test.YtaijmgkjbbiboaaGreatPe36
import Derived.Test.YtaijmgkjbbiboaaGreatPe37
set_option linter.unusedVariables false
set_option linter.unusedSimpArgs false
set_option linter.unusedSectionVars false
set_option maxRecDepth 100000
namespace Go.Proofs.YtaijmgkjbbiboaaGreat
section
open Go.RowKit Go.Sort
attribute [local go_sem] Oper.semAt_some onlyN_normal
theorem collect_cases (m : Mm) (chk : Int) (cs roots : List Int) : (((m.order cs roots).2 = true ∨ chk ≠ 0) ∧ m.collect chk cs roots = ⟨11, m, cs, [], 0⟩) ∨ (m.old.top + m.need (m.order cs roots).1 > m.old.limit ∧ m.collect chk cs roots = ⟨8, m, cs, [], 0⟩) ∨ (m.old.top + m.need (m.order cs roots).1 ≤ m.old.limit ∧ (m.collect chk cs roots).e = 0) := by
 unfold Mm.collect
 by_cases h : (m.order cs roots).2 = true ∨ chk ≠ 0
 ·exact .inl ⟨h, by rw [if_pos h]⟩
 ·by_cases h2 : m.old.top + m.need (m.order cs roots).1 > m.old.limit
  ·exact .inr (.inl ⟨h2, by rw [if_neg h, if_pos h2]⟩)
  ·exact .inr (.inr ⟨by omega, by rw [if_neg h, if_neg h2]⟩)
theorem need_max {m : Mm} {L : List Int} {j : Nat} {a : Int} (h : L[j]? = some a) (h0 : (m.hdr a).1 = 0) : m.need (L.take (j + 1)) = m.need (L.take j) + 2 + max 2 (m.hdr a).2.f ∧ 0 ≤ (m.hdr a).2.f ∧ (m.hdr a).2.f ≤ 30 := by
 have hv := Mm.hdr_valid h0
 have hb := vH_bound hv
 rw [m.need_step h]
 unfold wH
 rw [if_pos hv]
 omega
theorem need_le32 (m : Mm) : ∀ l : List Int, m.need l ≤ 32 * l.length
 | [] => by unfold Mm.need; simp
 | a :: l => by
  have h1 := wH_bound (m.hdr a).2
  have h2 := need_le32 m l
  unfold Mm.need
  rw [List.length_cons]
  push_cast
  omega
section
variable {w : World} {Al A3 : Option Addr} {n cl n3 c3 : Nat} {limit : Int}
theorem errs10_big (h : ¬ (n ≤ 60 ∧ n3 ≤ 20 ∧ limit ≤ 2000)) : Calls Tryz.prog 8 #[.int .i64 limit, .slice Al n cl, .slice A3 n3 c3] w fun e w' => e = .returned (.bool true) ∧ Below w.heap.size w w' := by
 have cA := awake10_any w
 by_cases hm : 60 < n ∨ 20 < n3
 ·have cM := fun {w1 : World} => Many10_any (w := w1) (Al := Al) (n := n) (cl := cl) (r := n3)
  rw [decide_eq_true hm] at cM
  clear h hm
  go_enter Tryz.func8, Tryz.ntmps8
  go_wp2_with fail
  refine cA.mono ?_
  rintro e w1 ⟨rfl, hb1⟩
  have HB1 := lh hb1
  clear hb1 cA
  go_wp2_with fail
  refine cM.mono ?_
  rintro e w2 ⟨rfl, rfl⟩
  clear cM
  go_wp2_with fail
  go_ret
  exact ⟨rfl, HB1.out⟩
 ·have cM := fun {w1 : World} => Many10_any (w := w1) (Al := Al) (n := n) (cl := cl) (r := n3)
  rw [decide_eq_false hm] at cM
  have hl : 2000 < limit := by omega
  have dl : decide (limit > 2000) = true := decide_eq_true (by omega)
  clear h hm hl
  go_enter Tryz.func8, Tryz.ntmps8
  go_wp2_with fail
  refine cA.mono ?_
  rintro e w1 ⟨rfl, hb1⟩
  have HB1 := lh hb1
  clear hb1 cA
  go_wp2_with fail
  refine cM.mono ?_
  rintro e w2 ⟨rfl, rfl⟩
  clear cM
  go_wp2_with fail
  go_ret
  exact ⟨rfl, HB1.out⟩
end
section
variable {w : World} {Al : Option Addr} {cl : Nat} {l : List OpV} {limit : Int} {chs : List Int} {Ac : Option Addr} {cc : Nat}
set_option maxHeartbeats 16000000 in
theorem errs10_main (hl : Op10 w Al l) (hcl : l.length ≤ cl) (hn : l.length ≤ 60) (h3 : IS w chs Ac cc) (h3r : ∀ x ∈ chs, -9223372036854775808 ≤ x ∧ x ≤ 9223372036854775807) (hn3 : chs.length ≤ 20) (hlim : limit ≤ 2000) : Calls Tryz.prog 8 #[.int .i64 limit, .slice Al l.length cl, .slice Ac chs.length cc] w fun e w' => e = .returned (.bool true) ∧ Below w.heap.size w w' := by
 have cA := awake10_any w
 have cM := fun {w1 : World} => Many10_any (w := w1) (Al := Al) (n := l.length) (cl := cl) (r := chs.length)
 rw [decide_eq_false (show ¬ (60 < l.length ∨ 20 < chs.length) by omega)] at cM
 have cO := fun {w1 : World} (hb : Below w.heap.size w w1) => Open10_any (hl.below hb rfl) hcl (by omega) limit
 have dl : decide (limit > 2000) = false := decide_eq_false (by omega)
 have HR0 : Hid (∀ {w1 : World}, Below w.heap.size w w1 → IS w1 chs Ac cc) := lh fun hb => h3.below hb
 have HRU := lh (And.intro h3r hn3)
 clear h3 h3r hn3
 have HLN := lh (And.intro hn hlim)
 clear hl hcl hn hlim
 go_enter Tryz.func8, Tryz.ntmps8
 go_wp2_with fail
 refine cA.mono ?_
 rintro e wa ⟨rfl, hba⟩
 have HBA := lh hba
 have cO1 := cO hba
 clear hba cA cO
 go_wp2_with fail
 refine cM.mono ?_
 rintro e wb ⟨rfl, rfl⟩
 clear cM
 go_wp2_with fail
 refine cO1.mono ?_
 rintro e w2 ⟨hop, hin⟩
 obtain ⟨g1, g2, V1, V2, gt, bt, k, A1, u1, A2, u2, A, u, Ax, cx, Ah, ch, B1, rfl, hen⟩ := Env10.start hop (by have := hin.cs.len; have := HLN.out; omega)
 obtain ⟨s, hs⟩ : ∃ s, s = bld10 limit l := ⟨_, rfl⟩
 rw [← hs] at hin hen ⊢
 have HIN := lh hin
 have HEN := lh hen
 have HXL : Hid (s.xs.length ≤ 60 ∧ s.cs.length ≤ 60 ∧ s.m.size ≤ 40000000) := lh ⟨by have := hin.xl; have := HLN.out; omega, by have := hin.cs.len; have := HLN.out; omega, hin.size⟩
 clear hs
 clear hop hin hen cO1
 go_upto_region 8 with fail
 obtain ⟨w3, hw3⟩ : ∃ w3, w3 = (w2.alloc (.cells #[.pointer (some ⟨g1, 0, none⟩), .pointer (some ⟨g2, 0, none⟩)] 29)).alloc (.cells #[.int .i64 s.m.old.base, .int .i64 s.m.old.limit, .slice A1 s.m.old.ws.length u1, .int .i64 s.m.yng.base, .int .i64 s.m.yng.limit, .slice A2 s.m.yng.ws.length u2, .slice A s.cs.length u, .slice Ax s.xs.length cx, .slice Ah s.hs.length ch] 40) := ⟨_, rfl⟩
 obtain ⟨bm, hbm⟩ : ∃ bm, bm = w2.heap.size := ⟨_, rfl⟩
 obtain ⟨bx, hbx⟩ : ∃ bx, bx = w2.heap.size + 1 := ⟨_, rfl⟩
 rw [← hw3, ← hbx, ← hbm] at HEN
 rw [← hw3, ← hbx, ← hbm]
 clear hw3 hbm hbx
 have HB3 : Hid (Below w.heap.size w w3) := lh (HBA.out.trans (HEN.out.bl.mono HBA.out.size))
 have cRt := HEN.out.roots (by have := HXL.out.1; omega) (HR0.out HB3.out) (by have := HRU.out.2; omega) HRU.out.1
 unfold Rts10P at cRt
 have xc0 : w3.cell? ⟨bx, 0, none⟩ = some (.int .i64 s.m.old.base) := HEN.out.hx.cell 0
 have xc1 : w3.cell? ⟨bx, 1, none⟩ = some (.int .i64 s.m.old.limit) := HEN.out.hx.cell 1
 have xc2 : w3.cell? ⟨bx, 2, none⟩ = some (.slice A1 s.m.old.ws.length u1) := HEN.out.hx.cell 2
 have xc3 : w3.cell? ⟨bx, 3, none⟩ = some (.int .i64 s.m.yng.base) := HEN.out.hx.cell 3
 have xc4 : w3.cell? ⟨bx, 4, none⟩ = some (.int .i64 s.m.yng.limit) := HEN.out.hx.cell 4
 have xc5 : w3.cell? ⟨bx, 5, none⟩ = some (.slice A2 s.m.yng.ws.length u2) := HEN.out.hx.cell 5
 have xc6 : w3.cell? ⟨bx, 6, none⟩ = some (.slice A s.cs.length u) := HEN.out.hx.cell 6
 have xc7 : w3.cell? ⟨bx, 7, none⟩ = some (.slice Ax s.xs.length cx) := HEN.out.hx.cell 7
 have xc8 : w3.cell? ⟨bx, 8, none⟩ = some (.slice Ah s.hs.length ch) := HEN.out.hx.cell 8
 obtain ⟨rt, hrt⟩ : ∃ rt, rt = rts10 s.xs chs := ⟨_, rfl⟩
 have HRT : Hid (rt.length ≤ 20 ∧ ∀ x ∈ rt, U64 x) := lh (by
  rw [hrt]
  exact ⟨by unfold rts10; rw [List.length_map]; exact HRU.out.2, rts10_u _ _⟩)
 rw [← hrt] at cRt
 clear hrt
 go_wp2_with fail
 refine cRt.mono ?_
 rintro e w4 ⟨v, rfl, hown, hb4⟩
 obtain ⟨Av, cv, rfl, hcv⟩ := own_shape hown
 have HE4 := lh (HEN.out.below hb4)
 have HV4 := lh (And.intro hcv hown)
 have HB4 := lh (HB3.out.trans (hb4.mono HB3.out.size))
 have HG4 : Hid (w3.heap.size ≤ w4.heap.size ∧ ∀ q, colS g1 g2 V1 V2 bt q → q < w3.heap.size) := lh ⟨hb4.size, fun q hq => HEN.out.lt hq⟩
 obtain ⟨T, hT⟩ : ∃ T : Int, T = s.m.old.top := ⟨_, rfl⟩
 have HT : Hid (T = s.m.old.top ∧ 0 ≤ T ∧ T ≤ 16777216 ∧ s.m.old.limit = max limit 0) := lh ⟨hT, by
  have h1 := HIN.out.ok.ob
  have h2 := HIN.out.ok.o.lim
  have h3 := HIN.out.ok.ol
  have h4 := HIN.out.lo
  have h5 := HLN.out.2
  unfold lim at h4
  unfold Spc.top at hT
  omega⟩
 have cT := Top_any HE4.out.mr.o
 rw [← hT] at cT
 have hsub : wrap64 (max limit 0 - T) = max limit 0 - T := by have := HT.out; have := HLN.out; unfold wrap64; omega
 have mc0 : w4.cell? ⟨bm, 0, none⟩ = some (.pointer (some ⟨g1, 0, none⟩)) := HE4.out.hm.cell 0
 have mc1 : w4.cell? ⟨bm, 1, none⟩ = some (.pointer (some ⟨g2, 0, none⟩)) := HE4.out.hm.cell 1
 clear cRt hown hcv hb4 hT xc0 xc1 xc2 xc3 xc4 xc5 xc6 xc7 xc8
 go_wp2_with fail
 refine cT.mono ?_
 rintro e w5 ⟨rfl, hb5⟩
 have HE5 := lh (HE4.out.below hb5)
 have HB5 := lh (HB4.out.trans (hb5.mono HB4.out.size))
 have HV5 := lh (And.intro HV4.out.1 (own_local HV4.out.2 fun q hq => hb5.block q (HV4.out.2.lt q hq).2))
 have HG5 : Hid (w3.heap.size ≤ w5.heap.size) := lh (Nat.le_trans HG4.out.1 hb5.size)
 have cR := HE5.out.reach (own_sl HV5.out.2) HV5.out.1 (by have := HRT.out.1; omega) HRT.out.2 (fun b o e => by
  have h1 := (HV5.out.2.lt b (by rw [e]; rfl)).2
  exact h1) HXL.out.2.2
 obtain ⟨p, hp⟩ : ∃ p, p = s.m.order s.cs rt := ⟨_, rfl⟩
 rw [← hp] at cR
 have hoi : s.m.OrdI p.1 := by rw [hp]; exact s.m.order_I s.cs rt
 have hpl : p.1.length ≤ 40000000 := by
  have h1 := hoi.len HIN.out.ok
  have h2 := HXL.out.2.2
  unfold Mm.size at h2
  omega
 have HP := lh (And.intro hp (And.intro hoi hpl))
 clear hp hoi hpl mc0 mc1 cT hb5
 have mc0 : w5.cell? ⟨bm, 0, none⟩ = some (.pointer (some ⟨g1, 0, none⟩)) := HE5.out.hm.cell 0
 have mc1 : w5.cell? ⟨bm, 1, none⟩ = some (.pointer (some ⟨g2, 0, none⟩)) := HE5.out.hm.cell 1
 go_wp2_with fail
 refine cR.mono ?_
 rintro e w6 ⟨v6, rfl, hown6, hb6⟩
 obtain ⟨A6, c6, rfl, hc6⟩ := own_shape hown6
 have HE6 := lh (HE5.out.below hb6)
 have HB6 := lh (HB5.out.trans (hb6.mono HB5.out.size))
 have HV6 := lh (And.intro HV5.out.1 (own_local HV5.out.2 fun q hq => hb6.block q (HV5.out.2.lt q hq).2))
 have HS6 := lh (own_sl hown6)
 have HG6 : Hid (w3.heap.size ≤ w6.heap.size) := lh (Nat.le_trans HG5.out hb6.size)
 clear cR hown6 hb6 mc0 mc1
 have hplc : p.1.length ≤ 40000000 := HP.out.2.2
 go_wp2_with fail
 go_loopw [13, 57] (fun nd ix wr => ∃ j : Nat, ix = .int .i64 (j : Int) ∧ nd = .int .i64 (s.m.need (p.1.take j)) ∧ j ≤ p.1.length ∧ Below w6.heap.size w6 wr) (fun _ ix _ => p.1.length - (intOf ix).toNat)
 case atStart => exact ⟨0, rfl, rfl, Nat.zero_le _, Below.refl _ _⟩
 case round =>
  obtain ⟨j, rfl, rfl, hj, hb⟩ := hrel
  have HBL := lh hb
  have HEL := lh (HE6.out.below hb)
  by_cases hlt : j < p.1.length
  ·have hx : p.1[j]? = some p.1[j] := List.getElem?_eq_getElem hlt
   have h0 := (HP.out.2.1.ok _ (List.mem_of_getElem? hx)).1
   have cH := MHeader_yes HEL.out.mr p.1[j] h0
   obtain ⟨hnd, hf0, hf1⟩ := need_max hx h0
   have hnn := s.m.need_nn (p.1.take j)
   have hnl := need_le32 s.m (p.1.take j)
   rw [List.length_take] at hnl
   obtain ⟨bb, oo, hA, hbl, hc⟩ := (HS6.out.below hb).2.resolve_left (by omega)
   have hcj : wr.cell? ⟨bb, oo + j, none⟩ = some (.int .i64 p.1[j]) := hc j _ (ints_get hx)
   subst hA
   have hjc : j < c6 := by omega
   generalize p.1[j] = a at *
   obtain ⟨f, hf⟩ : ∃ f, f = (s.m.hdr a).2.f := ⟨_, rfl⟩
   obtain ⟨N, hN⟩ : ∃ N, N = s.m.need (p.1.take j) := ⟨_, rfl⟩
   rw [← hf] at cH hnd hf0 hf1
   rw [← hN] at hnd hnn hnl
   have HND := lh hnd
   have hw1 : IntKind.i64.wrap (N + 2) = N + 2 := IntWalk.i64_in _ (by omega)
   have hw2 : IntKind.i64.wrap (N + 2 + max 2 f) = N + 2 + max 2 f := IntWalk.i64_in _ (by omega)
   rw [← hN]
   have mc0 : wr.cell? ⟨bm, 0, none⟩ = some (.pointer (some ⟨g1, 0, none⟩)) := HEL.out.hm.cell 0
   have mc1 : wr.cell? ⟨bm, 1, none⟩ = some (.pointer (some ⟨g2, 0, none⟩)) := HEL.out.hm.cell 1
   clear hb hx h0 hc hbl hf hN hnd hnn hnl
   go_wp2_with fail
   refine cH.mono ?_
   rintro e w7 ⟨rfl, hb7⟩
   have HB7 := lh (HBL.out.trans ((hb7.trans (((Below.refl _ w7).alloc (Nat.le_refl _) (.cells #[.int .i64 (s.m.hdr a).2.k, .int .i64 (s.m.hdr a).2.c, .int .i64 f] 58)).mono hb7.size)).mono HBL.out.size))
   clear cH hb7 hcj mc0 mc1
   go_wp2_with fail
   go_roundw
   case rel => exact ⟨j + 1, by go_num, by rw [HND.out], by omega, HB7.out⟩
   case measure => simp [intOf]; omega
  ·obtain rfl : j = p.1.length := by omega
   rw [List.take_of_length_le (Nat.le_refl _)]
   have HBW := lh (HB6.out.trans (hb.mono HB6.out.size))
   have HVL := lh (And.intro HV6.out.1 (own_local HV6.out.2 fun q hq => hb.block q (HV6.out.2.lt q hq).2))
   have HGL : Hid (w3.heap.size ≤ wr.heap.size) := lh (Nat.le_trans HG6.out hb.size)
   have cC := HEL.out.collect (own_sl HVL.out.2) HVL.out.1 (by have := HRT.out.1; omega) HRT.out.2 (fun b o e => by
    have h1 := HVL.out.2.lt b (by rw [e]; rfl)
    exact ⟨h1.2, fun e' => by have := HG4.out.2 b e'; omega⟩) HXL.out.2.2
   obtain ⟨Q1, hQ1⟩ : ∃ Q1, Q1 = ColP wr B1 B1 g1 g2 gt bt k V1 V2 (s.m.collect s.m.yng.chk s.cs rt) := ⟨_, rfl⟩
   rw [← hQ1] at cC
   obtain ⟨N, hN⟩ : ∃ N, N = s.m.need p.1 := ⟨_, rfl⟩
   have HN := lh hN
   rw [← hN]
   have mc0 : wr.cell? ⟨bm, 0, none⟩ = some (.pointer (some ⟨g1, 0, none⟩)) := HEL.out.hm.cell 0
   have mc1 : wr.cell? ⟨bm, 1, none⟩ = some (.pointer (some ⟨g2, 0, none⟩)) := HEL.out.hm.cell 1
   clear hb hlt hN
   go_wp2_with fail
   refine cC.mono ?_
   rintro e w8 hcp
   rw [hQ1] at hcp
   have HCS := lh (collect_cases s.m s.m.yng.chk s.cs rt)
   rw [← HP.out.1] at HCS
   clear cC mc0 mc1 hQ1
   rcases HCS.out with ⟨hbad, hC⟩ | ⟨hbig, hC⟩ | ⟨hok, he⟩
   ·rw [hC] at hcp
    obtain ⟨v8, V1', V2', k', rfl, _, hen8, _, hk8⟩ := HEL.out.col hcp
    dsimp only at hen8 ⊢
    have HE8 := lh hen8
    have HB8 := lh (HBA.out.trans (hen8.bl.mono HBA.out.size))
    have HV8 := lh (And.intro HVL.out.1 (own_kp HVL.out.2 hk8 fun q hq e' => by
     have h1 := (HVL.out.2.lt q hq).1
     have := HG4.out.2 q e'
     omega))
    have cO := ROrder_any HE8.out.rm HIN.out.ok HE8.out.rc (by have := HXL.out.2.1; omega) (own_sl HV8.out.2) HV8.out.1 HRT.out.2 (fun b o e => (HV8.out.2.lt b (by rw [e]; rfl)).2) HXL.out.2.2 (by have := HRT.out.1; omega)
    rw [← HP.out.1] at cO
    unfold OrdP at cO
    try unfold rmC at cO
    have xc0 : w8.cell? ⟨bx, 0, none⟩ = some (.int .i64 s.m.old.base) := HE8.out.hx.cell 0
    have xc1 : w8.cell? ⟨bx, 1, none⟩ = some (.int .i64 s.m.old.limit) := HE8.out.hx.cell 1
    have xc2 : w8.cell? ⟨bx, 2, none⟩ = some (.slice A1 s.m.old.ws.length u1) := HE8.out.hx.cell 2
    have xc3 : w8.cell? ⟨bx, 3, none⟩ = some (.int .i64 s.m.yng.base) := HE8.out.hx.cell 3
    have xc4 : w8.cell? ⟨bx, 4, none⟩ = some (.int .i64 s.m.yng.limit) := HE8.out.hx.cell 4
    have xc5 : w8.cell? ⟨bx, 5, none⟩ = some (.slice A2 s.m.yng.ws.length u2) := HE8.out.hx.cell 5
    have xc6 : w8.cell? ⟨bx, 6, none⟩ = some (.slice A s.cs.length u) := HE8.out.hx.cell 6
    have HBAD := lh hbad
    clear hcp hen8 hk8 hC hbad
    go_wp2_with fail
    refine cO.mono ?_
    rintro e w9 ⟨v9, rfl, hown9, hb9⟩
    have HE9 := lh (HE8.out.below hb9)
    have HB9 := lh (HB8.out.trans (hb9.mono HB8.out.size))
    clear cO hown9 hb9 xc0 xc1 xc2 xc3 xc4 xc5 xc6
    cases hb2 : p.2 with
    | true =>
     have cS := Same10_any HE9.out.mr HE9.out.cr HE9.out.rm HE9.out.rc HIN.out.cs (by have := HLN.out; omega)
     have mc0 : w9.cell? ⟨bm, 0, none⟩ = some (.pointer (some ⟨g1, 0, none⟩)) := HE9.out.hm.cell 0
     have mc1 : w9.cell? ⟨bm, 1, none⟩ = some (.pointer (some ⟨g2, 0, none⟩)) := HE9.out.hm.cell 1
     have xc0 : w9.cell? ⟨bx, 0, none⟩ = some (.int .i64 s.m.old.base) := HE9.out.hx.cell 0
     have xc1 : w9.cell? ⟨bx, 1, none⟩ = some (.int .i64 s.m.old.limit) := HE9.out.hx.cell 1
     have xc2 : w9.cell? ⟨bx, 2, none⟩ = some (.slice A1 s.m.old.ws.length u1) := HE9.out.hx.cell 2
     have xc3 : w9.cell? ⟨bx, 3, none⟩ = some (.int .i64 s.m.yng.base) := HE9.out.hx.cell 3
     have xc4 : w9.cell? ⟨bx, 4, none⟩ = some (.int .i64 s.m.yng.limit) := HE9.out.hx.cell 4
     have xc5 : w9.cell? ⟨bx, 5, none⟩ = some (.slice A2 s.m.yng.ws.length u2) := HE9.out.hx.cell 5
     have xc6 : w9.cell? ⟨bx, 6, none⟩ = some (.slice A s.cs.length u) := HE9.out.hx.cell 6
     clear hb2
     go_wp2_with fail
     refine cS.mono ?_
     rintro e w10 ⟨rfl, hb10⟩
     have HB10 := lh (HB9.out.trans (hb10.mono HB9.out.size))
     clear cS hb10
     go_wp2_with fail
     go_ret
     exact ⟨rfl, HB10.out⟩
    | false =>
     have hck : s.m.yng.chk ≠ 0 := by
      rcases HBAD.out with e | e
      ·rw [hb2] at e; cases e
      ·exact e
     have hck2 : s.m.yng.chk = 11 := by
      unfold Spc.chk at hck ⊢
      split
      ·rename_i hh
       rw [if_pos hh] at hck
       exact absurd rfl hck
      ·rfl
     have cK := Check_any HE9.out.mr.y
     rw [hck2] at cK
     have mc0 : w9.cell? ⟨bm, 0, none⟩ = some (.pointer (some ⟨g1, 0, none⟩)) := HE9.out.hm.cell 0
     have mc1 : w9.cell? ⟨bm, 1, none⟩ = some (.pointer (some ⟨g2, 0, none⟩)) := HE9.out.hm.cell 1
     have xc0 : w9.cell? ⟨bx, 0, none⟩ = some (.int .i64 s.m.old.base) := HE9.out.hx.cell 0
     have xc1 : w9.cell? ⟨bx, 1, none⟩ = some (.int .i64 s.m.old.limit) := HE9.out.hx.cell 1
     have xc2 : w9.cell? ⟨bx, 2, none⟩ = some (.slice A1 s.m.old.ws.length u1) := HE9.out.hx.cell 2
     have xc3 : w9.cell? ⟨bx, 3, none⟩ = some (.int .i64 s.m.yng.base) := HE9.out.hx.cell 3
     have xc4 : w9.cell? ⟨bx, 4, none⟩ = some (.int .i64 s.m.yng.limit) := HE9.out.hx.cell 4
     have xc5 : w9.cell? ⟨bx, 5, none⟩ = some (.slice A2 s.m.yng.ws.length u2) := HE9.out.hx.cell 5
     have xc6 : w9.cell? ⟨bx, 6, none⟩ = some (.slice A s.cs.length u) := HE9.out.hx.cell 6
     clear hb2 hck hck2
     go_wp2_with fail
     refine cK.mono ?_
     rintro e w10 ⟨rfl, hb10⟩
     have HE10 := lh (HE9.out.below hb10)
     have HB10 := lh (HB9.out.trans (hb10.mono HB9.out.size))
     have cS := Same10_any HE10.out.mr HE10.out.cr HE10.out.rm HE10.out.rc HIN.out.cs (by have := HLN.out; omega)
     clear cK hb10 mc0 mc1 xc0 xc1 xc2 xc3 xc4 xc5 xc6
     have mc0 : w10.cell? ⟨bm, 0, none⟩ = some (.pointer (some ⟨g1, 0, none⟩)) := HE10.out.hm.cell 0
     have mc1 : w10.cell? ⟨bm, 1, none⟩ = some (.pointer (some ⟨g2, 0, none⟩)) := HE10.out.hm.cell 1
     have xc0 : w10.cell? ⟨bx, 0, none⟩ = some (.int .i64 s.m.old.base) := HE10.out.hx.cell 0
     have xc1 : w10.cell? ⟨bx, 1, none⟩ = some (.int .i64 s.m.old.limit) := HE10.out.hx.cell 1
     have xc2 : w10.cell? ⟨bx, 2, none⟩ = some (.slice A1 s.m.old.ws.length u1) := HE10.out.hx.cell 2
     have xc3 : w10.cell? ⟨bx, 3, none⟩ = some (.int .i64 s.m.yng.base) := HE10.out.hx.cell 3
     have xc4 : w10.cell? ⟨bx, 4, none⟩ = some (.int .i64 s.m.yng.limit) := HE10.out.hx.cell 4
     have xc5 : w10.cell? ⟨bx, 5, none⟩ = some (.slice A2 s.m.yng.ws.length u2) := HE10.out.hx.cell 5
     have xc6 : w10.cell? ⟨bx, 6, none⟩ = some (.slice A s.cs.length u) := HE10.out.hx.cell 6
     go_wp2_with fail
     refine cS.mono ?_
     rintro e w11 ⟨rfl, hb11⟩
     have HB11 := lh (HB10.out.trans (hb11.mono HB10.out.size))
     clear cS hb11
     go_wp2_with fail
     go_ret
     exact ⟨rfl, HB11.out⟩
   ·rw [hC] at hcp
    obtain ⟨v8, V1', V2', k', rfl, _, hen8, _, _⟩ := HEL.out.col hcp
    dsimp only at hen8 ⊢
    have HE8 := lh hen8
    have HB8 := lh (HBA.out.trans (hen8.bl.mono HBA.out.size))
    have cS := Same10_any HE8.out.mr HE8.out.cr HE8.out.rm HE8.out.rc HIN.out.cs (by have := HLN.out; omega)
    have dgt : decide (N > max limit 0 - T) = true := decide_eq_true (by have := HT.out; have := HN.out; omega)
    have mc0 : w8.cell? ⟨bm, 0, none⟩ = some (.pointer (some ⟨g1, 0, none⟩)) := HE8.out.hm.cell 0
    have mc1 : w8.cell? ⟨bm, 1, none⟩ = some (.pointer (some ⟨g2, 0, none⟩)) := HE8.out.hm.cell 1
    have xc0 : w8.cell? ⟨bx, 0, none⟩ = some (.int .i64 s.m.old.base) := HE8.out.hx.cell 0
    have xc1 : w8.cell? ⟨bx, 1, none⟩ = some (.int .i64 s.m.old.limit) := HE8.out.hx.cell 1
    have xc2 : w8.cell? ⟨bx, 2, none⟩ = some (.slice A1 s.m.old.ws.length u1) := HE8.out.hx.cell 2
    have xc3 : w8.cell? ⟨bx, 3, none⟩ = some (.int .i64 s.m.yng.base) := HE8.out.hx.cell 3
    have xc4 : w8.cell? ⟨bx, 4, none⟩ = some (.int .i64 s.m.yng.limit) := HE8.out.hx.cell 4
    have xc5 : w8.cell? ⟨bx, 5, none⟩ = some (.slice A2 s.m.yng.ws.length u2) := HE8.out.hx.cell 5
    have xc6 : w8.cell? ⟨bx, 6, none⟩ = some (.slice A s.cs.length u) := HE8.out.hx.cell 6
    clear hcp hen8 hC hbig
    go_wp2_with fail
    refine cS.mono ?_
    rintro e w10 ⟨rfl, hb10⟩
    have HB10 := lh (HB8.out.trans (hb10.mono HB8.out.size))
    clear cS hb10
    go_wp2_with fail
    go_ret
    exact ⟨rfl, HB10.out⟩
   ·obtain ⟨v8, V1', V2', k', rfl, _, hen8, _, _⟩ := HEL.out.col hcp
    have HB8 := lh (HBA.out.trans (hen8.bl.mono HBA.out.size))
    have dle : decide (N ≤ max limit 0 - T) = true := decide_eq_true (by have := HT.out; have := HN.out; omega)
    rw [he]
    clear hcp hen8 he hok
    go_wp2_with fail
    go_ret
    exact ⟨rfl, HB8.out⟩
theorem errs10_any (hl : Op10 w Al l) (hcl : l.length ≤ cl) (h3 : IS w chs Ac cc) (h3r : ∀ x ∈ chs, -9223372036854775808 ≤ x ∧ x ≤ 9223372036854775807) : Calls Tryz.prog 8 #[.int .i64 limit, .slice Al l.length cl, .slice Ac chs.length cc] w fun e w' => e = .returned (.bool true) ∧ Below w.heap.size w w' := by
 by_cases h : l.length ≤ 60 ∧ chs.length ≤ 20 ∧ limit ≤ 2000
 ·exact errs10_main hl hcl h.1 h3 h3r h.2.1 h.2.2
 ·exact errs10_big h
end
end
end Go.Proofs.YtaijmgkjbbiboaaGreat
