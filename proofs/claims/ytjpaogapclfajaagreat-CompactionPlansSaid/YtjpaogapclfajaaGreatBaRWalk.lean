/- Parts of the proof: RWalk. -/
import Derived.BigQuiet
import Derived.Deep.DeepCutAuto
import Derived.Test.YtjpaogapclfajaaGreatBa11
import Derived.Test.YtjpaogapclfajaaGreatBa12
import Derived.Test.YtjpaogapclfajaaGreatBa13
import Derived.Test.YtjpaogapclfajaaGreatBa19
import Derived.Test.YtjpaogapclfajaaGreatBa20
set_option linter.unusedVariables false
set_option linter.unusedSimpArgs false
set_option linter.unusedSectionVars false
namespace Go.Proofs.YtjpaogapclfajaaGreat
open Go.RowKit Go.Sort
set_option maxRecDepth 100000
theorem i_int2 : (Tryz.prog.info? 3).map (fun i => (i.zero, i.size, i.bytes)) = some (some (.int .i64 0), 1, 8) := by kernel_rfl
theorem own_mono {w : World} {b b' size n : Nat} {e : TypeId} {v : Value} {xs : List Value} (h : w.ownsRow b e size v n xs) (hb : b' ≤ b) : w.ownsRow b' e size v n xs := by
 obtain ⟨h1, h2⟩ := h
 refine ⟨h1, h2.imp id ?_⟩
 rintro ⟨g, cap, cur, e, hg, hr⟩
 exact ⟨g, cap, cur, e, Nat.le_trans hb hg, hr⟩
section
variable {w : World} {s : Spc} {A : Option Addr} {c : Nat}
theorem Spc.size_test {s : Spc} {i : Nat} {x v : Int} (h1 : s.ws[i]? = some x) (h2 : s.ws[i + 1]? = some v) : s.size i = match dH x with
  | some h => if dI v ≠ Id.zero ∧ i + wH h ≤ s.ws.length then (wH h).toNat else 0
  | none => 0 := by
 unfold Spc.size
 rw [h1, h2]
 rfl
theorem Spc.size_out {s : Spc} {i : Nat} (h : s.ws.length ≤ i + 1) : s.size i = 0 := by
 unfold Spc.size
 rw [List.getElem?_eq_none (l := s.ws) (i := i + 1) (by omega)]
 cases s.ws[i]? <;> rfl
def WalkAt (s : Spc) (pre : List Nat) (i : Nat) : Prop := s.walk = (pre ++ (s.walkFrom i).1, (s.walkFrom i).2)
theorem WalkAt.stop {s : Spc} {pre : List Nat} {i : Nat} (h : WalkAt s pre i) (h0 : s.size i = 0) : s.objs = pre.map (fun (j : Nat) => s.base + (j : Int)) ∧ s.wend = s.base + i := by
 unfold WalkAt at h
 rw [s.walkFrom_zero h0, List.append_nil] at h
 unfold Spc.objs Spc.wend
 rw [h]
 exact ⟨rfl, rfl⟩
theorem WalkAt.next {s : Spc} {pre : List Nat} {i : Nat} (h : WalkAt s pre i) (h0 : s.size i ≠ 0) : WalkAt s (pre ++ [i]) (i + s.size i) := by
 unfold WalkAt at h ⊢
 rw [s.walkFrom_pos h0] at h
 rw [h, List.append_assoc]
 rfl
set_option maxHeartbeats 4000000 in
theorem RWalk_any (h : RS w s A c) : Calls Tryz.prog 79 #[rsV s A c] w fun e W' => ∃ v, e = .returned (.tuple #[v, .int .i64 s.wend]) ∧ W'.ownsRow w.heap.size 3 1 v s.objs.length (ints s.objs) ∧ Below w.heap.size w W' := by
 obtain ⟨i9, hi9, hi0, hi1, hi2⟩ := info_parts i_int2
 have HI := Lib.hid (And.intro hi9 (And.intro hi0 (And.intro hi1 hi2)))
 clear hi9 hi0 hi1 hi2
 have hb0 := boxS w s A c
 have hq0 : Bk (w.alloc (.cells #[.int .i64 s.base, .int .i64 s.limit, .slice A s.ws.length c] 30)) w.heap.size 30 #[.int .i64 s.base, .int .i64 s.limit, .slice A s.ws.length c] := Bk.here _ _ _ rfl
 have HS := Lib.hid ((h.sl.below hb0).below ((Below.refl _ _).alloc (Nat.le_refl _) (.cells #[] 3)))
 have hl1 := h.lim
 have hl2 := h.l0
 have hl0 := h.b0
 have hcap := h.cap
 have HU := Lib.hid h.u
 have HLT := Lib.hid h.lt
 have HB1 : Hid (Below w.heap.size w ((w.alloc (.cells #[.int .i64 s.base, .int .i64 s.limit, .slice A s.ws.length c] 30)).alloc (.cells #[] 3))) := Lib.hid (hb0.alloc (by simp) _)
 have HQ1 := Lib.hid (hq0.alloc (.cells #[] 3))
 have HO1 : Hid (World.ownsRow ((w.alloc (.cells #[.int .i64 s.base, .int .i64 s.limit, .slice A s.ws.length c] 30)).alloc (.cells #[] 3)) (w.heap.size + 1) 3 1 (.slice (some ⟨w.heap.size + 1, 0, none⟩) 0 0) 0 []) := Lib.hid (ownEmpty 1 (Bk.here _ _ _ (by simp)) (Nat.le_refl _))
 have HZ1 : Hid (w.heap.size + 1 ≤ ((w.alloc (.cells #[.int .i64 s.base, .int .i64 s.limit, .slice A s.ws.length c] 30)).alloc (.cells #[] 3)).heap.size) := Lib.hid (by simp)
 unfold rsV
 clear h hb0 hq0
 go_enter Tryz.func79, Tryz.ntmps79
 go_wp2_with fail
 generalize (w.alloc (.cells #[.int .i64 s.base, .int .i64 s.limit, .slice A s.ws.length c] 30)).alloc (.cells #[] 3) = w1 at *
 go_loopw [4, 5] (fun v i_ wr => ∃ (i : Nat) (pre : List Nat), i_ = .int .i64 (i : Int) ∧ i ≤ s.ws.length ∧ pre.length ≤ i ∧ Hid (WalkAt s pre i) ∧ Hid (wr.ownsRow (w.heap.size + 1) 3 1 v pre.length (ints (pre.map fun (j : Nat) => s.base + (j : Int)))) ∧ Hid (Below (w.heap.size + 1) w1 wr)) (fun _ i_ _ => s.ws.length - (intOf i_).toNat)
 case atStart => exact ⟨0, [], rfl, Nat.zero_le _, Nat.le_refl _, Lib.hid rfl, HO1, Lib.hid (Below.refl _ _)⟩
 case round =>
  obtain ⟨i, pre, rfl, hi, hpre, HW, HO, HB⟩ := hrel
  have HQ := Lib.hid (HQ1.out.below HB.out (Nat.lt_succ_self _))
  have HBw := Lib.hid (HB1.out.trans (HB.out.mono (Nat.le_succ _)))
  have HSz := Lib.hid (Nat.le_trans HZ1.out HB.out.size)
  obtain ⟨q0, q1, q2⟩ := HQ.out.c3
  by_cases hlt : i + 1 < s.ws.length
  ·obtain ⟨b, o, hA, hbl, hcell⟩ := HS.out.get (k := i) (by omega)
   subst hA
   have hx : s.ws[i]? = some s.ws[i] := List.getElem?_eq_getElem (by omega)
   have hv : s.ws[i + 1]? = some s.ws[i + 1] := List.getElem?_eq_getElem hlt
   have hblw : b < w.heap.size := HLT.out b o rfl
   have e1 : wr.cell? ⟨b, o + i, none⟩ = some (.int .u64 s.ws[i]) := (HB.out.cell (p := ⟨b, o + i, none⟩) (by show b < _; omega)).trans (hcell i _ (wds_get hx))
   have e2 : wr.cell? ⟨b, o + (i + 1), none⟩ = some (.int .u64 s.ws[i + 1]) := (HB.out.cell (p := ⟨b, o + (i + 1), none⟩) (by show b < _; omega)).trans (hcell (i + 1) _ (wds_get hv))
   have hxu := HU.out _ (List.getElem_mem (show i < s.ws.length by omega))
   have hvu := HU.out _ (List.getElem_mem hlt)
   generalize s.ws[i] = x at *
   generalize s.ws[i + 1] = v at *
   have hst := Spc.size_test hx hv
   have hlI : (i : Int) + 1 < (s.ws.length : Int) := by omega
   have hic : i < c := by omega
   have hic2 : i + 1 < c := by omega
   have HE2 := Lib.hid e2
   have HVU := Lib.hid hvu
   have HV := Lib.hid hv
   have HCELL := Lib.hid hcell
   cases hd : dH x with
   | none =>
    rw [hd] at hst
    have HZ : Hid (s.size i = 0) := Lib.hid hst
    have cD := fun w => RDecode_none hxu hd w
    have cW := fun w => RWords_of Hdr.zero w
    clear hst hd hxu hvu hx hv e2 hcell
    go_wp2_with fail
    refine (cD _).mono ?_
    rintro e w2 ⟨rfl, hb2⟩
    have HB2 := Lib.hid (HB.out.trans (hb2.mono HSz.out))
    have HQ2 := HQ.out.below hb2 HQ.out.lt
    have HO2 := Lib.hid (own_local HO.out fun k hk => hb2.block k (HO.out.lt k hk).2)
    have hne2 : w.heap.size ≠ w2.heap.size := Nat.ne_of_lt HQ2.lt
    clear q0 q1 q2
    obtain ⟨q0, q1, q2⟩ := HQ2.c3
    have HQ2 := Lib.hid HQ2
    have HSz2 := Lib.hid (Nat.le_trans HSz.out hb2.size)
    clear hb2 cD
    go_upto_region 5 with fail
    have hb3 := (Below.refl _ w2).alloc (Nat.le_refl _) (.cells #[.int .i64 0, .int .i64 0, .int .i64 0] 55)
    have HB3 := Lib.hid (HB2.out.trans (hb3.mono HSz2.out))
    have HQ3 := HQ2.out.below hb3 HQ2.out.lt
    have HO3 := Lib.hid (own_local HO2.out fun k hk => hb3.block k (HO2.out.lt k hk).2)
    have HT3 : Bk (w2.alloc (.cells #[.int .i64 0, .int .i64 0, .int .i64 0] 55)) w2.heap.size 55 #[.int .i64 0, .int .i64 0, .int .i64 0] := Bk.here _ _ _ rfl
    have HSz3 := Lib.hid (Nat.le_trans HSz2.out hb3.size)
    generalize w2.alloc (.cells #[.int .i64 0, .int .i64 0, .int .i64 0] 55) = w3 at *
    generalize w2.heap.size = gt at HT3 ⊢
    clear q0 q1 q2 hne2 hb3
    obtain ⟨q0, q1, q2⟩ := HQ3.c3
    obtain ⟨t0, t1, t2⟩ := HT3.c3
    have HQ3 := Lib.hid HQ3
    go_wp2_with fail
    refine (cW _).mono ?_
    rintro e w4 ⟨rfl, hb4⟩
    have HB4 := Lib.hid (HB3.out.trans (hb4.mono HSz3.out))
    have HQ4 := HQ3.out.below hb4 HQ3.out.lt
    have HO4 := Lib.hid (own_local HO3.out fun k hk => hb4.block k (HO3.out.lt k hk).2)
    have HSz4 := Lib.hid (Nat.le_trans HSz3.out hb4.size)
    clear q0 q1 q2 t0 t1 t2 hb4 cW
    obtain ⟨q0, q1, q2⟩ := HQ4.c3
    have HQ4 := Lib.hid HQ4
    have HBw4 := Lib.hid (HB1.out.trans (HB4.out.mono (Nat.le_succ _)))
    go_wp2_with fail
    go_quiet (fail)
    go_wp2_with fail
    go_ret2
    obtain ⟨ho, he⟩ := HW.out.stop HZ.out
    have hx := own_mono HO4.out (Nat.le_succ _)
    rw [← ho] at hx
    refine ⟨_, by rw [he]; rfl, ?_, below_drewN HBw4.out _⟩
    have hl : pre.length = s.objs.length := by rw [ho, List.length_map]
    rw [← hl]
    exact own_local hx fun k hk => rfl
   | some h =>
    obtain ⟨hk, hc, hf⟩ := h
    rw [hd] at hst
    simp only at hst
    have hwp : 0 < wH ⟨hk, hc, hf⟩ := by have := wH_ge (dH_some hd).1; omega
    have hwb : wH ⟨hk, hc, hf⟩ ≤ 1000 := by have := wH_bound ⟨hk, hc, hf⟩; omega
    have cD := fun w => RDecode_some hxu hd w
    have cW := fun w => RWords_of ⟨hk, hc, hf⟩ w
    simp only at cD cW
    clear hd hxu hx hv e2 hcell
    obtain ⟨q, hq⟩ : ∃ q : Nat, wH ⟨hk, hc, hf⟩ = (q : Int) := ⟨(wH ⟨hk, hc, hf⟩).toNat, by omega⟩
    simp only [hq] at cW hst hwp hwb
    have HQQ := Lib.hid hq
    clear hq
    by_cases hz : dI v = Id.zero
    ·have HZ : Hid (s.size i = 0) := Lib.hid (by rw [hst, if_neg (fun h => h.1 hz)])
     have cI := fun w => RDecodeID_zero hvu hz w
     clear hst hz hvu
     go_wp2_with fail
     refine (cD _).mono ?_
     rintro e w2 ⟨rfl, hb2⟩
     have HB2 := Lib.hid (HB.out.trans (hb2.mono HSz.out))
     have HQ2 := HQ.out.below hb2 HQ.out.lt
     have HO2 := Lib.hid (own_local HO.out fun k hk => hb2.block k (HO.out.lt k hk).2)
     have hne2 : w.heap.size ≠ w2.heap.size := Nat.ne_of_lt HQ2.lt
     clear q0 q1 q2
     obtain ⟨q0, q1, q2⟩ := HQ2.c3
     have HQ2 := Lib.hid HQ2
     have HSz2 := Lib.hid (Nat.le_trans HSz.out hb2.size)
     clear hb2 cD
     go_upto_region 5 with fail
     have hb3 := (Below.refl _ w2).alloc (Nat.le_refl _) (.cells #[.int .i64 hk, .int .i64 hc, .int .i64 hf] 55)
     have HB3 := Lib.hid (HB2.out.trans (hb3.mono HSz2.out))
     have HQ3 := HQ2.out.below hb3 HQ2.out.lt
     have HO3 := Lib.hid (own_local HO2.out fun k hk => hb3.block k (HO2.out.lt k hk).2)
     have HT3 : Bk (w2.alloc (.cells #[.int .i64 hk, .int .i64 hc, .int .i64 hf] 55)) w2.heap.size 55 #[.int .i64 hk, .int .i64 hc, .int .i64 hf] := Bk.here _ _ _ rfl
     have HSz3 := Lib.hid (Nat.le_trans HSz2.out hb3.size)
     generalize w2.alloc (.cells #[.int .i64 hk, .int .i64 hc, .int .i64 hf] 55) = w3 at *
     generalize w2.heap.size = gt at HT3 ⊢
     clear q0 q1 q2 hne2 hb3
     obtain ⟨q0, q1, q2⟩ := HQ3.c3
     obtain ⟨t0, t1, t2⟩ := HT3.c3
     have HQ3 := Lib.hid HQ3
     go_wp2_with fail
     refine (cW _).mono ?_
     rintro e w4 ⟨rfl, hb4⟩
     have HB4 := Lib.hid (HB3.out.trans (hb4.mono HSz3.out))
     have HQ4 := HQ3.out.below hb4 HQ3.out.lt
     have HO4 := Lib.hid (own_local HO3.out fun k hk => hb4.block k (HO3.out.lt k hk).2)
     have HSz4 := Lib.hid (Nat.le_trans HSz3.out hb4.size)
     clear q0 q1 q2 t0 t1 t2 hb4 cW
     obtain ⟨q0, q1, q2⟩ := HQ4.c3
     have HQ4 := Lib.hid HQ4
     have HBw4 := Lib.hid (HB1.out.trans (HB4.out.mono (Nat.le_succ _)))
     have e2 : w4.cell? ⟨b, o + (i + 1), none⟩ = some (.int .u64 v) := (HB4.out.cell (p := ⟨b, o + (i + 1), none⟩) (by show b < _; omega)).trans (HCELL.out (i + 1) _ (wds_get HV.out))
     go_wp2_with fail
     refine (cI _).mono ?_
     rintro e w5 ⟨rfl, hb5⟩
     have HB5 := Lib.hid (HB4.out.trans (hb5.mono HSz4.out))
     have HQ5 := HQ4.out.below hb5 HQ4.out.lt
     have HO5 := Lib.hid (own_local HO4.out fun k hk => hb5.block k (HO4.out.lt k hk).2)
     have HSz5 := Lib.hid (Nat.le_trans HSz4.out hb5.size)
     have HBw5 := Lib.hid (HB1.out.trans (HB5.out.mono (Nat.le_succ _)))
     clear q0 q1 q2 hb5 cI e2
     obtain ⟨q0, q1, q2⟩ := HQ5.c3
     have HQ5 := Lib.hid HQ5
     go_wp2_with fail
     go_quiet (fail)
     go_wp2_with fail
     go_ret2
     obtain ⟨ho, he⟩ := HW.out.stop HZ.out
     have hx := own_mono HO5.out (Nat.le_succ _)
     rw [← ho] at hx
     refine ⟨_, by rw [he]; rfl, ?_, below_drewN HBw5.out _⟩
     have hl : pre.length = s.objs.length := by rw [ho, List.length_map]
     rw [← hl]
     exact own_local hx fun k hk => rfl
    ·obtain ⟨p, p2, hpz, cI⟩ := RDecodeID_ne hvu hz
     have hpz := hpz.out
     by_cases hfit : i + q ≤ s.ws.length
     ·have hs : s.size i = q := by rw [hst, if_pos ⟨hz, by omega⟩]; omega
      have hng : ¬ ((s.ws.length : Int) < (i : Int) + (q : Int)) := by omega
      have HN := Lib.hid (HW.out.next (by omega))
      rw [hs] at HN
      clear hst hz hvu hs
      go_wp2_with fail
      refine (cD _).mono ?_
      rintro e w2 ⟨rfl, hb2⟩
      have HB2 := Lib.hid (HB.out.trans (hb2.mono HSz.out))
      have HQ2 := HQ.out.below hb2 HQ.out.lt
      have HO2 := Lib.hid (own_local HO.out fun k hk => hb2.block k (HO.out.lt k hk).2)
      have hne2 : w.heap.size ≠ w2.heap.size := Nat.ne_of_lt HQ2.lt
      clear q0 q1 q2
      obtain ⟨q0, q1, q2⟩ := HQ2.c3
      have HQ2 := Lib.hid HQ2
      have HSz2 := Lib.hid (Nat.le_trans HSz.out hb2.size)
      clear hb2 cD
      go_upto_region 5 with fail
      have hb3 := (Below.refl _ w2).alloc (Nat.le_refl _) (.cells #[.int .i64 hk, .int .i64 hc, .int .i64 hf] 55)
      have HB3 := Lib.hid (HB2.out.trans (hb3.mono HSz2.out))
      have HQ3 := HQ2.out.below hb3 HQ2.out.lt
      have HO3 := Lib.hid (own_local HO2.out fun k hk => hb3.block k (HO2.out.lt k hk).2)
      have HT3 : Bk (w2.alloc (.cells #[.int .i64 hk, .int .i64 hc, .int .i64 hf] 55)) w2.heap.size 55 #[.int .i64 hk, .int .i64 hc, .int .i64 hf] := Bk.here _ _ _ rfl
      have HSz3 := Lib.hid (Nat.le_trans HSz2.out hb3.size)
      generalize w2.alloc (.cells #[.int .i64 hk, .int .i64 hc, .int .i64 hf] 55) = w3 at *
      generalize w2.heap.size = gt at HT3 ⊢
      clear q0 q1 q2 hne2 hb3
      obtain ⟨q0, q1, q2⟩ := HQ3.c3
      obtain ⟨t0, t1, t2⟩ := HT3.c3
      have HQ3 := Lib.hid HQ3
      go_wp2_with fail
      refine (cW _).mono ?_
      rintro e w4 ⟨rfl, hb4⟩
      have HB4 := Lib.hid (HB3.out.trans (hb4.mono HSz3.out))
      have HQ4 := HQ3.out.below hb4 HQ3.out.lt
      have HO4 := Lib.hid (own_local HO3.out fun k hk => hb4.block k (HO3.out.lt k hk).2)
      have HSz4 := Lib.hid (Nat.le_trans HSz3.out hb4.size)
      clear q0 q1 q2 t0 t1 t2 hb4 cW
      obtain ⟨q0, q1, q2⟩ := HQ4.c3
      have HQ4 := Lib.hid HQ4
      have HBw4 := Lib.hid (HB1.out.trans (HB4.out.mono (Nat.le_succ _)))
      have e2 : w4.cell? ⟨b, o + (i + 1), none⟩ = some (.int .u64 v) := (HB4.out.cell (p := ⟨b, o + (i + 1), none⟩) (by show b < _; omega)).trans (HCELL.out (i + 1) _ (wds_get HV.out))
      go_wp2_with fail
      refine (cI _).mono ?_
      rintro e w5 ⟨rfl, hb5⟩
      have HB5 := Lib.hid (HB4.out.trans (hb5.mono HSz4.out))
      have HQ5 := HQ4.out.below hb5 HQ4.out.lt
      have HO5 := Lib.hid (own_local HO4.out fun k hk => hb5.block k (HO4.out.lt k hk).2)
      have HSz5 := Lib.hid (Nat.le_trans HSz4.out hb5.size)
      have HBw5 := Lib.hid (HB1.out.trans (HB5.out.mono (Nat.le_succ _)))
      clear q0 q1 q2 hb5 cI e2
      obtain ⟨q0, q1, q2⟩ := HQ5.c3
      have HQ5 := Lib.hid HQ5
      go_wp2_with (at_builtin; refine wpList_app rfl (.tmp 49) (.tmp 54) 23 rfl Tryz.underlying23 HI.out.1 HI.out.2.1 HI.out.2.2.1 HI.out.2.2.2 rfl (by decide) (n := pre.length) (xs := ints (pre.map fun (j : Nat) => s.base + (j : Int))) (base := w.heap.size + 1) rfl (HO5.out.alloc _) (A := some ⟨w5.heap.size, 0, none⟩) (m := 1) (c := 1) (news := [.int .i64 (s.base + (i : Int))]) rfl (Sl.new w5 3 [.int .i64 (s.base + (i : Int))]) (by simp [Value.oneCell']) (by unfold maxLen; omega) (by omega) (Nat.le_trans HSz5.out (by simp)) ?_; intro v7 w7 hown hgr h4; have HO7 := Lib.hid hown; have HG7 := Lib.hid hgr; clear hown hgr h4)
      have hB7 : Below (w.heap.size + 1) w1 w7 := (HB5.out.alloc HSz5.out (.cells #[.int .i64 (s.base + (i : Int))] 3)).grown HG7.out (Nat.le_trans HSz5.out (by simp)) (fun k hk => (HO5.out.lt k hk).1)
      have HB7 := Lib.hid hB7
      clear q0 q1 q2 hB7
      go_wp2_with fail
      go_roundw
      case rel => exact ⟨i + q, pre ++ [i], by go_num, by omega, by simp; omega, HN, Lib.hid (by have := HO7.out; simpa [ints] using this), HB7⟩
      case measure => simp [intOf]; omega
     ·have HZ : Hid (s.size i = 0) := Lib.hid (by rw [hst, if_neg (fun h => hfit (by omega))])
      have hng : (s.ws.length : Int) < (i : Int) + (q : Int) := by omega
      clear hst hz hvu
      go_wp2_with fail
      refine (cD _).mono ?_
      rintro e w2 ⟨rfl, hb2⟩
      have HB2 := Lib.hid (HB.out.trans (hb2.mono HSz.out))
      have HQ2 := HQ.out.below hb2 HQ.out.lt
      have HO2 := Lib.hid (own_local HO.out fun k hk => hb2.block k (HO.out.lt k hk).2)
      have hne2 : w.heap.size ≠ w2.heap.size := Nat.ne_of_lt HQ2.lt
      clear q0 q1 q2
      obtain ⟨q0, q1, q2⟩ := HQ2.c3
      have HQ2 := Lib.hid HQ2
      have HSz2 := Lib.hid (Nat.le_trans HSz.out hb2.size)
      clear hb2 cD
      go_upto_region 5 with fail
      have hb3 := (Below.refl _ w2).alloc (Nat.le_refl _) (.cells #[.int .i64 hk, .int .i64 hc, .int .i64 hf] 55)
      have HB3 := Lib.hid (HB2.out.trans (hb3.mono HSz2.out))
      have HQ3 := HQ2.out.below hb3 HQ2.out.lt
      have HO3 := Lib.hid (own_local HO2.out fun k hk => hb3.block k (HO2.out.lt k hk).2)
      have HT3 : Bk (w2.alloc (.cells #[.int .i64 hk, .int .i64 hc, .int .i64 hf] 55)) w2.heap.size 55 #[.int .i64 hk, .int .i64 hc, .int .i64 hf] := Bk.here _ _ _ rfl
      have HSz3 := Lib.hid (Nat.le_trans HSz2.out hb3.size)
      generalize w2.alloc (.cells #[.int .i64 hk, .int .i64 hc, .int .i64 hf] 55) = w3 at *
      generalize w2.heap.size = gt at HT3 ⊢
      clear q0 q1 q2 hne2 hb3
      obtain ⟨q0, q1, q2⟩ := HQ3.c3
      obtain ⟨t0, t1, t2⟩ := HT3.c3
      have HQ3 := Lib.hid HQ3
      go_wp2_with fail
      refine (cW _).mono ?_
      rintro e w4 ⟨rfl, hb4⟩
      have HB4 := Lib.hid (HB3.out.trans (hb4.mono HSz3.out))
      have HQ4 := HQ3.out.below hb4 HQ3.out.lt
      have HO4 := Lib.hid (own_local HO3.out fun k hk => hb4.block k (HO3.out.lt k hk).2)
      have HSz4 := Lib.hid (Nat.le_trans HSz3.out hb4.size)
      clear q0 q1 q2 t0 t1 t2 hb4 cW
      obtain ⟨q0, q1, q2⟩ := HQ4.c3
      have HQ4 := Lib.hid HQ4
      have HBw4 := Lib.hid (HB1.out.trans (HB4.out.mono (Nat.le_succ _)))
      have e2 : w4.cell? ⟨b, o + (i + 1), none⟩ = some (.int .u64 v) := (HB4.out.cell (p := ⟨b, o + (i + 1), none⟩) (by show b < _; omega)).trans (HCELL.out (i + 1) _ (wds_get HV.out))
      go_wp2_with fail
      refine (cI _).mono ?_
      rintro e w5 ⟨rfl, hb5⟩
      have HB5 := Lib.hid (HB4.out.trans (hb5.mono HSz4.out))
      have HQ5 := HQ4.out.below hb5 HQ4.out.lt
      have HO5 := Lib.hid (own_local HO4.out fun k hk => hb5.block k (HO4.out.lt k hk).2)
      have HSz5 := Lib.hid (Nat.le_trans HSz4.out hb5.size)
      have HBw5 := Lib.hid (HB1.out.trans (HB5.out.mono (Nat.le_succ _)))
      clear q0 q1 q2 hb5 cI e2
      obtain ⟨q0, q1, q2⟩ := HQ5.c3
      have HQ5 := Lib.hid HQ5
      go_wp2_with fail
      go_quiet (fail)
      go_wp2_with fail
      go_ret2
      obtain ⟨ho, he⟩ := HW.out.stop HZ.out
      have hx := own_mono HO5.out (Nat.le_succ _)
      rw [← ho] at hx
      refine ⟨_, by rw [he]; rfl, ?_, below_drewN HBw5.out _⟩
      have hl : pre.length = s.objs.length := by rw [ho, List.length_map]
      rw [← hl]
      exact own_local hx fun k hk => rfl
  ·have HZ : Hid (s.size i = 0) := Lib.hid (Spc.size_out (by omega))
   have hge : ¬ ((i : Int) + 1 < (s.ws.length : Int)) := by omega
   go_wp2_with fail
   go_quiet (fail)
   go_wp2_with fail
   go_ret2
   obtain ⟨ho, he⟩ := HW.out.stop HZ.out
   have hx := own_mono HO.out (Nat.le_succ _)
   rw [← ho] at hx
   refine ⟨_, by rw [he]; rfl, ?_, ?_⟩
   ·have hl : pre.length = s.objs.length := by rw [ho, List.length_map]
    rw [← hl]
    exact own_local hx fun k hk => rfl
   ·exact below_drewN HBw.out _
end
end Go.Proofs.YtjpaogapclfajaaGreat
