/- Parts of the proof: CPlan, CUpd, RgIn. -/
import Derived.OrdersIn
import Derived.RangeFuncBox
import Derived.StillTailTactics
import Derived.Test.YtjpaogapclfajaaGreatBcA
import Derived.Test.YtjpaogapclfajaaGreatBc17
import Derived.Test.YtjpaogapclfajaaGreatBc18
import Derived.Test.YtjpaogapclfajaaGreatBc23
set_option linter.unusedVariables false
set_option linter.unusedSimpArgs false
set_option linter.unusedSectionVars false
namespace Go.Proofs.YtjpaogapclfajaaGreat
open Go.RowKit Go.Maps
attribute [local go_sem] Oper.semAt_some
set_option maxRecDepth 100000
section
variable {w : World} {B g : Nat} {s : Spc} {V : Value}
theorem Mm.one_ok_at {s : Spc} {a : Int} (ha : ((Mm.one s).hdr a).1 = 0) : ∃ x, s.at_ a = some x ∧ dH x = some ((Mm.one s).hdr a).2 := by
 obtain ⟨x, v, h1, h2, _⟩ := Spc.hdr_ok (s := (Mm.one s).sp a) (a := a) ha
 refine ⟨x, ?_, h2⟩
 rw [← Mm.one_at]
 exact h1
set_option maxHeartbeats 1000000 in
theorem headerAt_ok (h : SpR w B g s V) {a : Int} (ha : ((Mm.one s).hdr a).1 = 0) : Calls Tryz.prog 85 #[.pointer (some ⟨g, 0, none⟩), .int .i64 a] w fun e w' => e = .returned (.agg #[.int .i64 ((Mm.one s).hdr a).2.k, .int .i64 ((Mm.one s).hdr a).2.c, .int .i64 ((Mm.one s).hdr a).2.f]) ∧ Below w.heap.size w w' := by
 obtain ⟨x, hx, hd⟩ := Mm.one_ok_at ha
 have hxu := h.ok.at_u hx
 have hb0 : Below w.heap.size w (w.alloc (.cells #[.int .i64 0, .int .i64 0, .int .i64 0] 55)) := (Below.refl _ _).alloc (Nat.le_refl _) _
 have HZ : Hid (Bk (w.alloc (.cells #[.int .i64 0, .int .i64 0, .int .i64 0] 55)) w.heap.size 55 #[.int .i64 0, .int .i64 0, .int .i64 0]) := lh (Bk.new _ _ _)
 have HB0 := lh hb0
 have cL := SLoad_any (h.below hb0) a
 rw [ldV_eq, hx] at cL
 unfold atV at cL
 dsimp only at cL
 have cD := fun w => Decode_some hxu hd w
 obtain ⟨hh, hhh⟩ : ∃ hh, hh = ((Mm.one s).hdr a).2 := ⟨_, rfl⟩
 simp only [← hhh] at cD ⊢
 clear hx hd hxu hb0 h ha hhh
 go_enter Tryz.func85, Tryz.ntmps85
 go_wp2_with fail
 refine cL.mono ?_
 rintro e w1 ⟨rfl, hb1⟩
 have HB1 := lh (HB0.out.trans (hb1.mono HB0.out.size))
 have HZ1 := lh (HZ.out.below hb1 HZ.out.lt)
 clear hb1 cL
 go_wp2_with fail
 refine (cD _).mono ?_
 rintro e w2 ⟨rfl, hb2⟩
 have HB2 := lh (HB1.out.trans (hb2.mono HB1.out.size))
 have hz2 := HZ1.out.below hb2 HZ1.out.lt
 have d0 : w2.cell? ⟨w.heap.size, 0, none⟩ = some (.int .i64 0) := hz2.cell 0
 have d1 : w2.cell? ⟨w.heap.size, 1, none⟩ = some (.int .i64 0) := hz2.cell 1
 have d2 : w2.cell? ⟨w.heap.size, 2, none⟩ = some (.int .i64 0) := hz2.cell 2
 have f0 := hz2.free 0
 have f1 := hz2.free 1
 have f2 := hz2.free 2
 have hlt := hz2.lt
 have hne : w.heap.size ≠ w2.heap.size := by omega
 clear hb2 cD hz2
 go_wp2_with fail
 refine bodyPost_ret (v := .agg #[.int .i64 hh.k, .int .i64 hh.c, .int .i64 hh.f]) (by simp [results, Tryz.results85, go_sem, d0, d1, d2, hlt, hne]) rfl ⟨rfl, ?_⟩
 first
  | exact below_set3 (HB2.out.alloc (by omega) _) (by omega) _ _ _
  | exact (below_set3 HB2.out (by omega) _ _ _).alloc (by simp; omega) _
theorem csize_ok (h : SpR w B g s V) {a : Int} (ha : ((Mm.one s).hdr a).1 = 0) : Calls Tryz.prog 78 #[.pointer (some ⟨g, 0, none⟩), .int .i64 a] w fun e w' => e = .returned (.int .i64 (wH ((Mm.one s).hdr a).2)) ∧ Below w.heap.size w w' := by
 have cH := headerAt_ok h ha
 have cW := fun w => Words_of ((Mm.one s).hdr a).2 w
 obtain ⟨hh, hhh⟩ : ∃ hh, hh = ((Mm.one s).hdr a).2 := ⟨_, rfl⟩
 simp only [← hhh] at cH cW ⊢
 clear h ha hhh
 go_enter Tryz.func78, Tryz.ntmps78
 go_wp2_with fail
 refine cH.mono ?_
 rintro e w1 ⟨rfl, hb1⟩
 have HB1 := lh hb1
 clear hb1 cH
 go_wp2_with fail
 refine (cW _).mono ?_
 rintro e w2 ⟨rfl, hb2⟩
 have HB2 := lh (HB1.out.trans (hb2.mono HB1.out.size))
 clear hb2 cW
 go_wp2_with fail
 go_ret
 exact ⟨rfl, HB2.out⟩
theorem Base_any (h : SpR w B g s V) : Calls Tryz.prog 43 #[.pointer (some ⟨g, 0, none⟩)] w fun e w' => e = .returned (.int .i64 s.base) ∧ w = w' := by
 have c0 : w.cell? ⟨g, 0, none⟩ = some (.int .i64 s.base) := h.hd.cell 0
 clear h
 go_enter Tryz.func43, Tryz.ntmps43
 go_wp2_with fail
 go_ret
 exact ⟨rfl, rfl⟩
theorem Objects_any (h : SpR w B g s V) : Calls Tryz.prog 48 #[.pointer (some ⟨g, 0, none⟩)] w fun e W' => ∃ v, e = .returned v ∧ W'.ownsRow w.heap.size 3 1 v s.objs.length (ints s.objs) ∧ Below w.heap.size w W' := callsIn_wide.1 (Objects_in 5 (by omega) h)
theorem zero_boolC (w : World) : (zeroValue 4).run Tryz.prog w = .ok (.bool false) w := by kernel_rfl
theorem objs_len (s : Spc) : s.objs.length ≤ s.ws.length + 1 := by
 have := Spc.walkN_length s s.ws.length 0
 unfold Spc.objs Spc.walk
 simp
 omega
theorem take_contains {l : List Int} {j : Nat} {a : Int} (h : l[j]? = some a) (x : Int) : insB (fun z => (l.take j).contains z) a x = (l.take (j + 1)).contains x := by
 unfold insB
 rw [List.take_add_one, h]
 by_cases hx : x = a
 ·subst hx; simp
 ·rw [if_neg hx]; simp [hx]
def PlanP (w : World) (s : Spc) (ms : List Int) (e : Ending) (w' : World) : Prop := Below w.heap.size w w' ∧ match s.plan ms with
 | none => e = .returned (.tuple #[.slice none 0 0, .slice none 0 0, .int .i64 11])
 | some ns => ∃ v1 v2, e = .returned (.tuple #[v1, v2, .int .i64 0]) ∧ w'.ownsRow w.heap.size 3 1 v1 ms.length (ints ms) ∧ w'.ownsRow w.heap.size 3 1 v2 ns.length (ints ns)
/-- the two lists that Plan builds -/
structure PlR (w w3 : World) (v1 v2 : Value) (j : Nat) (l1 l2 : List Int) : Prop where
 o1 : w.ownsRow w3.heap.size 3 1 v1 j (ints l1)
 o2 : w.ownsRow w3.heap.size 3 1 v2 j (ints l2)
 ap : ∀ k, v1.ownBlock = some k → v2.ownBlock ≠ some k
 bl : Below w3.heap.size w3 w
set_option maxHeartbeats 4000000 in
theorem Plan_any {Bm gm bmk : Nat} {sg wl : List Int} (h : SpR w B g s V) (hm : MkR w Bm gm bmk (Mm.one s) sg wl) (hnd : (sg ++ wl).Nodup) (hok : ∀ a ∈ sg ++ wl, ((Mm.one s).hdr a).1 = 0) (hrg : ∀ a ∈ sg ++ wl, 0 ≤ a ∧ a ≤ 4294967296) (hml : (sg ++ wl).length ≤ 16777216) (hl0 : s.limit ≤ 16777216) :
  Calls Tryz.prog 36 #[.pointer (some ⟨g, 0, none⟩), .pointer (some ⟨gm, 0, none⟩)] w (PlanP w s (srtI (sg ++ wl))) := by
 have hmm := @run_makeMap Tryz.prog
 have hbm : Below w.heap.size w (w.alloc (.map #[] 0)) := (Below.refl _ _).alloc (Nat.le_refl _) _
 have HB1 := lh hbm
 have H0 := lh h
 have HM0 := lh hm
 have HT1 : Hid (MapT Tryz.prog 3 4 (w.alloc (.map #[] 0)) w.heap.size 0 (fun _ => false)) := lh (MapT.made _ _ _ _)
 have cO := Objects_any (h.below hbm)
 have hol := objs_len s
 have hlim := h.lim
 have hbs := h.b0
 have HND := lh hnd
 have HRG := lh hrg
 obtain ⟨ms, hms⟩ : ∃ ms, ms = srtI (sg ++ wl) := ⟨_, rfl⟩
 have hmsl : ms.length ≤ 16777216 := by rw [hms, srtI_len]; exact hml
 have HMO : Hid (∀ a ∈ ms, ((Mm.one s).hdr a).1 = 0 ∧ 0 ≤ a ∧ a ≤ 4294967296) := lh fun a ha => by
  rw [hms] at ha
  have := (srtI_mem _ a).1 ha
  exact ⟨hok a this, hrg a this⟩
 rw [← hms]
 have HMS := lh hms
 obtain ⟨R, hR⟩ : ∃ R, R = s.plan ms := ⟨_, rfl⟩
 have HOB : Hid (∀ a ∈ s.objs, -9223372036854775808 ≤ a ∧ a ≤ 9223372036854775807) := lh fun a ha => by
  have h1 := (Spc.objs_obj ha).1.lo
  have h2 := (Spc.objs_obj ha).1.hi
  have h3 := (wH_bound ((Mm.one s).hdr a).2).1
  unfold Spc.top at h2
  omega
 have HRN : Hid ((∃ a ∈ ms, s.objs.contains a = false) → R = none) := lh fun ⟨a, ha, hc⟩ => by
  rw [hR]
  unfold Spc.plan
  rw [if_neg]
  intro hall
  rw [List.all_eq_true.1 hall a ha] at hc
  cases hc
 have HRS : Hid ((∀ a ∈ ms, s.objs.contains a = true) → R = some (newsL (Mm.one s) s.base ms)) := lh fun hall => by
  rw [hR]
  unfold Spc.plan
  rw [if_pos (List.all_eq_true.2 hall)]
 obtain ⟨ob, hob⟩ : ∃ ob, ob = s.objs := ⟨_, rfl⟩
 rw [← hob] at cO hol HOB HRN HRS
 have HPP : Hid (∀ e w', (Below w.heap.size w w' ∧ match R with
   | none => e = .returned (.tuple #[.slice none 0 0, .slice none 0 0, .int .i64 11])
   | some ns => ∃ v1 v2, e = .returned (.tuple #[v1, v2, .int .i64 0]) ∧ w'.ownsRow w.heap.size 3 1 v1 ms.length (ints ms) ∧ w'.ownsRow w.heap.size 3 1 v2 ns.length (ints ns)) → PlanP w s ms e w') := lh fun e w' hh => by
  unfold PlanP
  rw [← hR]
  exact hh
 have HCS := lh (fun (w5 : World) (hb : Below w.heap.size w w5) (a : Int) (ha : ((Mm.one s).hdr a).1 = 0) => csize_ok (h.below hb) ha)
 have HCL := lh (fun (w5 : World) (hb : Below w.heap.size w w5) => List_any (MkR0.below hm hb : MkR w5 Bm gm bmk (Mm.one s) sg wl) hnd (fun x hx => WalkArith.wf_i64 (by have := hrg x hx; omega)) (by omega))
 rw [← hms] at HCL
 have HCB := lh (fun (w5 : World) (hb : Below w.heap.size w w5) => Base_any (h.below hb))
 have hwr := fun j => (wSum_rg (Mm.one s) (ms.take j))
 have HWT := lh (fun (j : Nat) (a : Int) (e : ms[j]? = some a) => wSum_take (Mm.one s) e)
 have HNT := lh (fun (j : Nat) (hj : j < ms.length) => newsL_take (m := Mm.one s) (b := s.base) hj)
 have HNL := lh (newsL_len (Mm.one s) s.base ms)
 obtain ⟨sw, hsw⟩ : ∃ sw : Nat → Int, sw = fun j => s.base + wSum (Mm.one s) (ms.take j) := ⟨_, rfl⟩
 have HW0 : Hid (sw 0 = s.base) := lh (by rw [hsw]; show s.base + wSum _ [] = _; rw [wSum_nil]; omega)
 have HWR : Hid (∀ j : Nat, j ≤ ms.length → 0 ≤ sw j ∧ sw j ≤ 1000000000) := lh fun j hj => by
  have h1 := hwr j
  have h2 : ((ms.take j).length : Int) ≤ (ms.length : Int) := by simp; omega
  rw [hsw]
  dsimp only
  omega
 have HWT : Hid (∀ (j : Nat) (a : Int), ms[j]? = some a → sw (j + 1) = sw j + wH ((Mm.one s).hdr a).2) := lh fun j a e => by
  rw [hsw]
  dsimp only
  rw [HWT.out j a e]
  omega
 have HNT : Hid (∀ j, j < ms.length → (newsL (Mm.one s) s.base ms).take (j + 1) = (newsL (Mm.one s) s.base ms).take j ++ [sw j]) := lh fun j hj => by
  rw [HNT.out j hj, hsw]
 obtain ⟨ns, hns⟩ : ∃ ns, ns = newsL (Mm.one s) s.base ms := ⟨_, rfl⟩
 rw [← hns] at HRS HNT HNL
 have hobl : ob.length ≤ 16777217 := by omega
 clear h hm hnd hrg hok hms hR hob hbm hwr hsw hns HMS hml hl0 HND HRG H0 HM0 hol hlim
 go_enter Tryz.func36, Tryz.ntmps36
 go_wp2_with fail
 refine cO.mono ?_
 rintro e w2 ⟨v2, rfl, ho2, hb2⟩
 obtain ⟨A2, c2, rfl, hc2⟩ := own_shape ho2
 have HT2 := lh (HT1.out.block (hb2.block _ HT1.out.lt))
 have HW2 := lh (HB1.out.trans (hb2.mono HB1.out.size))
 have HOW : Hid (w2.ownsRow (w.heap.size + 1) 3 1 (.slice A2 ob.length c2) ob.length (ints ob)) := lh (by
  have e : (w.alloc (.map #[] 0)).heap.size = w.heap.size + 1 := by simp
  rw [e] at ho2
  exact ho2)
 clear ho2 hb2 cO hmm HT1 HB1
 go_wp2_with fail
 go_loopw [9, 19] (fun x i wr => ∃ j : Nat, i = .int .i64 (j : Int) ∧ j ≤ ob.length ∧ MapT Tryz.prog 3 4 wr w.heap.size j (fun z => (ob.take j).contains z) ∧ Below w.heap.size w wr ∧ wr.ownsRow (w.heap.size + 1) 3 1 (.slice A2 ob.length c2) ob.length (ints ob)) (fun _ i _ => ob.length - (intOf i).toNat)
 case atStart => exact ⟨0, rfl, Nat.zero_le _, HT2.out, HW2.out, HOW.out⟩
 case round =>
  obtain ⟨j, rfl, hj, hmt, hbr, hrow⟩ := hrel
  have HMT := lh hmt
  have HBR := lh hbr
  have HROW := lh hrow
  have hbs' := hbr.size
  by_cases hlt : j < ob.length
  ·obtain ⟨b2, o2, rfl, hbl, hcc⟩ := (own_sl hrow).get hlt
   have t1 : ob[j]? = some ob[j] := List.getElem?_eq_getElem hlt
   have e1 : wr.cell? ⟨b2, o2 + j, none⟩ = some (.int .i64 ob[j]) := hcc j _ (ints_get t1)
   have HWF : Hid ((Lit.int .i64 ob[j]).wf = true) := lh (WalkArith.wf_i64 (by have := HOB.out ob[j] (List.getElem_mem hlt); omega))
   have HTC := lh (fun x => take_contains t1 x)
   generalize ob[j] = a at e1 HWF HTC
   have hcj : j < c2 := by omega
   clear hmt hbr hrow t1 hcc hbl
   go_wp2_with (refine wpList_set_put Tryz.underlying3 Tryz.underlying4 Tryz.underlying129 rfl (m := .tmp 23) (x := .tmp 24) (v := .const (.bool true)) rfl HMT.out (by unfold maxLen; omega) rfl rfl rfl HWF.out ?_; intro w3 hm3 hg3; have HM3 := lh hm3; have HG3 := lh hg3; clear hm3 hg3)
   go_roundw
   case rel =>
    refine ⟨j + 1, by go_num, by omega, HM3.out.congr fun x _ => HTC.out x, ?_, own_local HROW.out fun k hk => HG3.out.block k (HROW.out.lt k hk).2 fun e => ?_⟩
    ·exact HBR.out.grown HG3.out hbs' (fun k hk => by cases hk; exact Nat.le_refl _)
    ·have := (HROW.out.lt k hk).1
     cases e
     omega
   case measure => simp [intOf]; omega
  ·obtain rfl : j = ob.length := by omega
   rw [List.take_length] at hmt
   have HMT := lh hmt
   have cB := HCB.out _ hbr
   have cL := HCL.out _ hbr
   clear hmt hbr hrow HROW
   go_wp2_with (go_at_call 43; refine cB.mono ?_; rintro e wz ⟨rfl, rfl⟩)
   refine cL.mono ?_
   rintro e w3 ⟨v3, rfl, ho3, hb3⟩
   obtain ⟨A3, c3, rfl, hc3⟩ := own_shape ho3
   have HSL := lh (own_sl ho3)
   have HMT3 := lh (HMT.out.block (hb3.block _ HMT.out.lt))
   have HW3 := lh (HBR.out.trans (hb3.mono hbs'))
   have hw3 := HW3.out.size
   have hmlt := HMT3.out.lt
   clear ho3 hb3 cL cB HMT HBR hbs'
   obtain ⟨wo, rfl⟩ : ∃ wo : World, wo = wr := ⟨_, rfl⟩
   go_wp2_with fail
   go_loopw [10, 11, 12, 31] (fun v1 v2 at_ i wr => ∃ j : Nat, i = .int .i64 (j : Int) ∧ j ≤ ms.length ∧ at_ = .int .i64 (sw j) ∧ PlR wr w3 v1 v2 j (ms.take j) (ns.take j) ∧ ∀ a ∈ ms.take j, ob.contains a = true) (fun _ _ _ i _ => ms.length - (intOf i).toNat)
   case atStart => exact ⟨0, rfl, Nat.zero_le _, by rw [HW0.out], ⟨⟨rfl, .inl ⟨rfl, rfl⟩⟩, ⟨rfl, .inl ⟨rfl, rfl⟩⟩, (fun k hk => by cases hk), Below.refl _ _⟩, fun a ha => by cases ha⟩
   case round =>
    obtain ⟨j, rfl, hj, rfl, hpl, hall⟩ := hrel
    have HPL := lh hpl
    have HALL := lh hall
    have hbs3 := hpl.bl.size
    by_cases hlt2 : j < ms.length
    ·obtain ⟨b2, o2, rfl, hbl, hcc⟩ := (HSL.out.below hpl.bl).get hlt2
     have t1 : ms[j]? = some ms[j] := List.getElem?_eq_getElem hlt2
     have e1 : wr.cell? ⟨b2, o2 + j, none⟩ = some (.int .i64 ms[j]) := hcc j _ (ints_get t1)
     have hao := HMO.out ms[j] (List.getElem_mem hlt2)
     have hsw := HWT.out j _ t1
     have hmem : ms[j] ∈ ms := List.getElem_mem hlt2
     have htk : ms.take (j + 1) = ms.take j ++ [ms[j]] := by rw [List.take_add_one, t1]; rfl
     generalize ms[j] = a at e1 hao hsw hmem htk t1
     have hcj : j < c3 := by omega
     have hr1 := HWR.out j (by omega)
     have hr2 := HWR.out (j + 1) (by omega)
     have hl := (HMT3.out.block (hpl.bl.block _ hmlt)).look Tryz.underlying3 Tryz.underlying4 Tryz.underlying129 zero_boolC (x := a) (WalkArith.wf_i64 (by omega))
     have HTK := lh htk
     have HSW := lh hsw
     have HMEM := lh hmem
     have HT1 := lh t1
     cases hc : ob.contains a with
     | false =>
      rw [hc] at hl
      have HC := lh hc
      clear hpl hall t1 hcc hbl htk hsw hmem hc
      go_wp2_with fail
      go_ret3
      have e := HRN.out ⟨a, HMEM.out, HC.out⟩
      refine HPP.out _ _ ⟨HW3.out.trans (HPL.out.bl.mono hw3), ?_⟩
      rw [e]
      exact rfl
     | true =>
      rw [hc] at hl
      have HC := lh hc
      obtain ⟨A5, c5, rfl, hc5⟩ := own_shape hpl.o1
      obtain ⟨A6, c6, rfl, hc6⟩ := own_shape hpl.o2
      obtain ⟨i0, hi, hz0, hz1, hz2⟩ := info_parts Tryz.infoI1
      have HI := lh (And.intro hi (And.intro hz0 (And.intro hz1 hz2)))
      clear hpl hall t1 hcc hbl htk hsw hmem hc hi hz0 hz1 hz2
      obtain ⟨x, hx⟩ : ∃ x, x = sw j := ⟨_, rfl⟩
      rw [← hx] at HSW hr1 ⊢
      have HX := lh hx
      obtain ⟨wh, hwh⟩ : ∃ wh, wh = wH ((Mm.one s).hdr a).2 := ⟨_, rfl⟩
      rw [← hwh] at HSW
      have hwb : 0 ≤ wh ∧ wh ≤ 32 := by rw [hwh]; exact wH_bound _
      have HWH := lh hwh
      clear hx hwh
      have HNEV : Hid (∀ k, (Value.slice A5 j c5).ownBlock = some k → (Value.slice A6 j c6).ownBlock ≠ some k) := lh HPL.out.ap
      have HO6 := lh (HPL.out.o2.alloc (.cells #[.int .i64 a] 3))
      go_wp2_with (first | (at_builtin; refine wpList_append_own_at _ rfl (.tmp 39) (.tmp 41) 23 rfl w3.heap.size 3 i0 (.int .i64 0) 1 8 Tryz.underlying23 HI.out.1 HI.out.2.1 HI.out.2.2.1 HI.out.2.2.2 rfl (by decide) _ j _ rfl (HPL.out.o1.alloc _) ⟨wr.heap.size, 0, none⟩ 1 1 [.int .i64 a] rfl rfl (cell_one_new _ _ _) (by simp [Value.oneCell']) (by unfold maxLen; omega) (by omega) (by simp; omega) ?_; intro v7 w7 ho7 hg7 _ hl7; have HO7 := lh ho7; have HG7 := lh hg7; have HL7 := lh hl7; have hs7 : wr.heap.size + 1 ≤ w7.heap.size := by { have := hg7.size; simpa using this }; have HO6' := lh (HO6.out.kept hg7 (by { cases hv : (Value.slice A6 j c6).ownBlock with | none => exact .inl rfl | some k => exact .inr fun e => HNEV.out k e.symm hv })); clear ho7 hg7 hl7) | (at_builtin; refine wpList_append_own_at _ rfl (.tmp 43) (.tmp 45) 23 rfl w3.heap.size 3 i0 (.int .i64 0) 1 8 Tryz.underlying23 HI.out.1 HI.out.2.1 HI.out.2.2.1 HI.out.2.2.2 rfl (by decide) _ j _ rfl (HO6'.out.alloc _) ⟨w7.heap.size, 0, none⟩ 1 1 [.int .i64 x] rfl rfl (cell_one_new _ _ _) (by simp [Value.oneCell']) (by unfold maxLen; omega) (by omega) (by simp; omega) ?_; intro v8 w8 ho8 hg8 _ hl8; have HO8 := lh ho8; have HG8 := lh hg8; have HL8 := lh hl8; clear ho8 hg8 hl8))
      have hpl8 : PlR w8 w3 v7 v8 (j + 1) (ms.take (j + 1)) (ns.take (j + 1)) := by
       have hb6 : Below w3.heap.size w3 (wr.alloc (.cells #[.int .i64 a] 3)) := HPL.out.bl.alloc hbs3 _
       have hb7 : Below w3.heap.size w3 w7 := hb6.grown HG7.out hb6.size (fun k hk => (HPL.out.o1.lt k hk).1)
       have hb7a := hb7.alloc hb7.size (.cells #[.int .i64 x] 3)
       have h7 := HO7.out.alloc (.cells #[.int .i64 x] 3)
       have hap7 : ∀ k, v7.ownBlock = some k → (Value.slice A6 j c6).ownBlock ≠ some k := fun k hk => by
        rcases HL7.out with e | e
        ·exact HNEV.out k (e ▸ hk)
        ·rw [e] at hk
         intro h6
         have h61 := (HPL.out.o2.lt k h6).2
         have h62 := Option.some.inj hk
         simp only [World.size_alloc] at h62
         omega
       refine ⟨?_, ?_, fun k hk => ?_, hb7a.grown HG8.out hb7a.size (fun k hk => (HO6'.out.lt k hk).1)⟩
       ·rw [HTK.out, show ints (ms.take j ++ [a]) = ints (ms.take j) ++ [.int .i64 a] by simp [ints]]
        exact h7.kept HG8.out (by
         cases hv : v7.ownBlock with
         | none => exact .inl rfl
         | some k => exact .inr fun e => hap7 k hv e.symm)
       ·rw [HNT.out j (by omega), show ints (ns.take j ++ [sw j]) = ints (ns.take j) ++ [.int .i64 (sw j)] by simp [ints], ← HX.out]
        exact HO8.out
       ·rcases HL8.out with e | e
        ·rw [e]; exact hap7 k hk
        ·rw [e]
         intro h8
         have h9 := (HO7.out.lt k hk).2
         have h10 := Option.some.inj h8
         simp only [World.size_alloc] at h10
         omega
      have HPL8 := lh hpl8
      have cS := HCS.out _ (HW3.out.trans (hpl8.bl.mono hw3)) a hao.1
      rw [← HWH.out] at cS
      clear hpl8
      go_wp2_with fail
      refine cS.mono ?_
      rintro e w9 ⟨rfl, hb9⟩
      have HPL9 : Hid (PlR w9 w3 v7 v8 (j + 1) (ms.take (j + 1)) (ns.take (j + 1))) := lh ⟨own_local HPL8.out.o1 fun k hk => hb9.block k (HPL8.out.o1.lt k hk).2, own_local HPL8.out.o2 fun k hk => hb9.block k (HPL8.out.o2.lt k hk).2, HPL8.out.ap, HPL8.out.bl.trans (hb9.mono HPL8.out.bl.size)⟩
      clear hb9 cS
      go_wp2_with fail
      go_roundw
      case rel =>
       refine ⟨j + 1, by go_num, by omega, by rw [HSW.out], HPL9.out, fun z hz => ?_⟩
       rw [HTK.out] at hz
       rcases List.mem_append.1 hz with hz | hz
       ·exact HALL.out z hz
       ·rw [List.mem_singleton.1 hz]; exact HC.out
      case measure => simp [intOf]; omega
    ·obtain rfl : j = ms.length := by omega
     rw [List.take_length] at hall
     have HALL := lh hall
     have hn := HNL.out
     rw [List.take_length, List.take_of_length_le (by omega)] at hpl
     have HPL := lh hpl
     obtain ⟨A5, c5, rfl, hc5⟩ := own_shape hpl.o1
     obtain ⟨A6, c6, rfl, hc6⟩ := own_shape hpl.o2
     clear hpl hall
     go_wp2_with fail
     go_ret3
     have e := HRS.out HALL.out
     refine HPP.out _ _ ⟨HW3.out.trans (HPL.out.bl.mono hw3), ?_⟩
     rw [e]
     exact ⟨_, _, rfl, ownBase HPL.out.o1 hw3, by rw [hn]; exact ownBase HPL.out.o2 hw3⟩
end
end Go.Proofs.YtjpaogapclfajaaGreat
namespace Go.Proofs.YtjpaogapclfajaaGreat
open Go.RowKit Go.Maps
attribute [local go_sem] Oper.semAt_some
set_option maxRecDepth 100000
/-- the new addresses as a function -/
def plF (m : Mm) (b : Int) (ms : List Int) (a : Int) : Option Int := if ms.contains a = true then some (newA m b ms a) else none
/-- the world of the closure update -/
structure UpW (w : World) (B Bp g gy bm bv bp n : Nat) (V : Value) (s : Spc) (ms : List Int) : Prop where
 mr : MR w B g gy V (.slice none 0 0) (Mm.one s)
 bm : Bk w bm 27 #[.pointer (some ⟨g, 0, none⟩), .pointer (some ⟨gy, 0, none⟩)]
 bv : Bk w bv 101 #[.map (some bp)]
 mp : MapI Tryz.prog 3 3 w bp n (plF (Mm.one s) s.base ms)
 rg : ∀ a ∈ ms, inA (newA (Mm.one s) s.base ms a) = true
def updV (x : Int) (o : Option Int) : Value := match o with
 | none => .tuple #[.int .u64 x, .int .i64 11]
 | some y => .tuple #[.int .u64 y, .int .i64 0]
section
variable {w w' : World} {B Bp g gy bm bv bp n : Nat} {V : Value} {s : Spc} {ms : List Int}
theorem UpW.below (h : UpW w B Bp g gy bm bv bp n V s ms) (hb : Below w.heap.size w w') : UpW w' B Bp g gy bm bv bp n V s ms :=
 ⟨h.mr.below hb, h.bm.below hb h.bm.lt, h.bv.below hb h.bv.lt, h.mp.block (hb.block _ h.mp.lt), h.rg⟩
set_option maxHeartbeats 1000000 in
theorem Upd_any (h : UpW w B Bp g gy bm bv bp n V s ms) {x : Int} (hx : U64 x) : Calls Tryz.prog 81 #[.int .u64 x, .pointer (some ⟨bm, 0, none⟩), .pointer (some ⟨bv, 0, none⟩)] w fun e w' => e = .returned (updV x ((Mm.one s).updW s.base ms x)) ∧ Below w.heap.size w w' := by
 have cA := fun w => Address_any hx w
 unfold adrV at cA
 obtain ⟨R, hR⟩ : ∃ R, R = (Mm.one s).updW s.base ms x := ⟨_, rfl⟩
 rw [← hR]
 unfold Mm.updW Mm.rfr at hR
 cases hd : adr x with
 | none =>
  rw [hd] at hR
  dsimp only at hR
  simp only [hd] at cA
  subst hR
  clear h hd
  go_enter Tryz.func81, Tryz.ntmps81
  go_wp2_with fail
  refine (cA _).mono ?_
  rintro e w1 ⟨rfl, rfl⟩
  go_wp2_with fail
  go_ret2
  exact ⟨rfl, Below.refl _ _⟩
 | some a =>
  rw [hd] at hR
  dsimp only at hR
  simp only [hd] at cA
  have cR := MResolve_any h.mr a
  have m0 : w.cell? ⟨bm, 0, none⟩ = some (.pointer (some ⟨g, 0, none⟩)) := h.bm.cell 0
  have m1 : w.cell? ⟨bm, 1, none⟩ = some (.pointer (some ⟨gy, 0, none⟩)) := h.bm.cell 1
  unfold memV at cR
  by_cases he : ((Mm.one s).resolve a).2 = 0
  ·rw [if_pos he] at hR
   dsimp only at hR
   have HRG := lh (Mm.rfr_rg h.mr.ok (x := x) (a := ((Mm.one s).resolve a).1) (by unfold Mm.rfr; rw [hd]; dsimp only; rw [if_pos he]))
   rw [he] at cR
   obtain ⟨r, hto⟩ : ∃ r, r = ((Mm.one s).resolve a).1 := ⟨_, rfl⟩
   rw [← hto] at cR hR HRG
   have hlk := fun w1 (hb : Below w.heap.size w w1) => (h.below hb).mp.look_ok hKI hKI hMI hZI (x := r) (WalkArith.wf_i64 (by have := HRG.out; omega))
   have hbv := fun w1 (hb : Below w.heap.size w w1) => (h.below hb).bv.cell 0
   unfold plF at hlk
   have HRI := lh h.rg
   clear hto he
   by_cases hc : ms.contains r = true
   ·rw [if_pos hc] at hR
    simp only [if_pos hc, Option.getD_some, Option.isSome_some] at hlk
    have hin := HRI.out r (by simpa using hc)
    obtain ⟨y, hy⟩ : ∃ y, y = newA (Mm.one s) s.base ms r := ⟨_, rfl⟩
    rw [← hy] at hR hlk hin
    have cF := fun w => FromAddress_any y w
    unfold frA at cF
    simp only [if_pos hin] at cF
    have hfr : frW y = adW y := by unfold frW; rw [if_pos hin]
    rw [hfr] at hR
    obtain ⟨z, hz⟩ : ∃ z, z = adW y := ⟨_, rfl⟩
    rw [← hz] at hR cF
    subst hR
    clear h hc hy hin hz hfr HRI HRG hd
    go_enter Tryz.func81, Tryz.ntmps81
    go_wp2_with fail
    refine (cA _).mono ?_
    rintro e w1 ⟨rfl, rfl⟩
    go_wp2_with fail
    refine cR.mono ?_
    rintro e w2 ⟨rfl, hb⟩
    have HB2 := lh hb
    have hl := hlk _ hb
    have b0 : w2.cell? ⟨bv, 0, none⟩ = some (.map (some bp)) := hbv _ hb
    clear hb hlk hbv cR
    go_wp2_with fail
    refine (cF _).mono ?_
    rintro e w3 ⟨rfl, rfl⟩
    go_wp2_with fail
    go_ret2
    exact ⟨rfl, HB2.out⟩
   ·rw [if_neg hc] at hR
    simp only [if_neg hc, Option.getD_none, Option.isSome_none] at hlk
    subst hR
    clear h hc HRI HRG hd
    go_enter Tryz.func81, Tryz.ntmps81
    go_wp2_with fail
    refine (cA _).mono ?_
    rintro e w1 ⟨rfl, rfl⟩
    go_wp2_with fail
    refine cR.mono ?_
    rintro e w2 ⟨rfl, hb⟩
    have HB2 := lh hb
    have hl := hlk _ hb
    have b0 : w2.cell? ⟨bv, 0, none⟩ = some (.map (some bp)) := hbv _ hb
    clear hb hlk hbv cR
    go_wp2_with fail
    go_ret2
    exact ⟨rfl, HB2.out⟩
  ·rw [if_neg he] at hR
   subst hR
   obtain ⟨r, hto⟩ : ∃ r, r = ((Mm.one s).resolve a).1 := ⟨_, rfl⟩
   obtain ⟨er, her⟩ : ∃ er, er = ((Mm.one s).resolve a).2 := ⟨_, rfl⟩
   rw [← hto, ← her] at cR
   rw [← her] at he
   have e1 : (er == 0) = false := by simp [he]
   have e2 : (er != 0) = true := by simp [he]
   clear h hd he hto her
   go_enter Tryz.func81, Tryz.ntmps81
   go_wp2_with fail
   refine (cA _).mono ?_
   rintro e w1 ⟨rfl, rfl⟩
   go_wp2_with fail
   refine cR.mono ?_
   rintro e w2 ⟨rfl, hb⟩
   have HB2 := lh hb
   clear hb cR
   go_wp2_with fail
   go_ret2
   exact ⟨rfl, HB2.out⟩
/-- the world of the closure that fields gets -/
structure UpW2 (w : World) (B Bp g gy bm bv bp bu n : Nat) (V : Value) (s : Spc) (ms : List Int) : Prop where
 up : UpW w B Bp g gy bm bv bp n V s ms
 bu : Bk w bu 135 #[.func (.func 81) #[] #[.pointer (some ⟨bm, 0, none⟩), .pointer (some ⟨bv, 0, none⟩)]]
variable {bu : Nat}
theorem UpW2.below (h : UpW2 w B Bp g gy bm bv bp bu n V s ms) (hb : Below w.heap.size w w') : UpW2 w' B Bp g gy bm bv bp bu n V s ms :=
 ⟨h.up.below hb, h.bu.below hb h.bu.lt⟩
theorem Upd2_any (h : UpW2 w B Bp g gy bm bv bp bu n V s ms) {x : Int} (hx : U64 x) : Calls Tryz.prog 88 #[.int .u64 x, .pointer (some ⟨bu, 0, none⟩)] w fun e w' => e = .returned (.int .u64 (((Mm.one s).updW s.base ms x).getD x)) ∧ Below w.heap.size w w' := by
 have cU := Upd_any h.up hx
 have c0 : w.cell? ⟨bu, 0, none⟩ = some (.func (.func 81) #[] #[.pointer (some ⟨bm, 0, none⟩), .pointer (some ⟨bv, 0, none⟩)]) := h.bu.cell 0
 obtain ⟨R, hR⟩ : ∃ R, R = (Mm.one s).updW s.base ms x := ⟨_, rfl⟩
 rw [← hR] at cU ⊢
 clear hR h
 cases R with
 | none =>
  simp only [updV] at cU
  go_enter Tryz.func88, Tryz.ntmps88
  go_wp2_with fail
  refine cU.mono ?_
  rintro e w1 ⟨rfl, hb⟩
  have HB := lh hb
  clear hb cU
  go_wp2_with fail
  go_ret
  exact ⟨rfl, HB.out⟩
 | some y =>
  simp only [updV] at cU
  go_enter Tryz.func88, Tryz.ntmps88
  go_wp2_with fail
  refine cU.mono ?_
  rintro e w1 ⟨rfl, hb⟩
  have HB := lh hb
  clear hb cU
  go_wp2_with fail
  go_ret
  exact ⟨rfl, HB.out⟩
theorem UpW2.kp {S : Nat → Prop} (h : UpW2 w B Bp g gy bm bv bp bu n V s ms) (hk : Kp S w w') (h1 : ∀ {q : Nat} {t : TypeId} {cs : Array Value}, Bk w q t cs → t ≠ 51 → ¬ S q) (h2 : ∀ k, V.ownBlock = some k → ¬ S k) (h3 : ¬ S bp) : UpW2 w' B Bp g gy bm bv bp bu n V s ms :=
 ⟨⟨⟨h.up.mr.o.kp hk (h1 h.up.mr.o.hd (by decide)) h2, h.up.mr.y.kp hk (h1 h.up.mr.y.hd (by decide)) (fun k hk => by cases hk), h.up.mr.ok, h.up.mr.gg, h.up.mr.vv⟩,
  h.up.bm.kp hk (h1 h.up.bm (by decide)), h.up.bv.kp hk (h1 h.up.bv (by decide)), h.up.mp.block (hk.block _ h.up.mp.lt h3), h.up.rg⟩, h.bu.kp hk (h1 h.bu (by decide))⟩
/-- the payload after the update -/
def updP (m : Mm) (b : Int) (ms : List Int) (hd : Hdr) (xs : List Int) : List Int := if hd.k = 3 ∨ hd.k = 4 then xs else (xs.take hd.f.toNat).map (fun x => (m.updW b ms x).getD x) ++ xs.drop hd.f.toNat
theorem payU_eq (m : Mm) (b : Int) (ms : List Int) (a : Int) : m.payU b ms a = updP m b ms (m.hdr a).2 (m.pay a) := rfl
/-- the payload in the loop -/
def updJ (m : Mm) (b : Int) (ms : List Int) (xs : List Int) (j : Nat) : List Int := (xs.take j).map (fun x => (m.updW b ms x).getD x) ++ xs.drop j
theorem updJ_get {m : Mm} {b : Int} {ms xs : List Int} {j : Nat} (h : j < xs.length) : (updJ m b ms xs j)[j]? = some xs[j] := by
 unfold updJ
 rw [List.getElem?_append_right (by simp; omega)]
 simp [Nat.min_eq_left (Nat.le_of_lt h), List.getElem?_eq_getElem h]
theorem updJ_set {m : Mm} {b : Int} {ms xs : List Int} {j : Nat} (h : j < xs.length) : (updJ m b ms xs j).set j ((m.updW b ms xs[j]).getD xs[j]) = updJ m b ms xs (j + 1) := by
 unfold updJ
 rw [List.set_append_right _ _ (by simp; omega), List.length_map, List.length_take, Nat.min_eq_left (Nat.le_of_lt h), Nat.sub_self, List.drop_eq_getElem_cons h, List.set_cons_zero, List.take_add_one, List.getElem?_eq_getElem h, List.map_append]
 simp
theorem updW_u64 {m : Mm} {b : Int} {ms : List Int} {x : Int} (hx : U64 x) : U64 ((m.updW b ms x).getD x) := by
 unfold Mm.updW
 split
 ·exact hx
 ·exact hx
 ·split
  ·rename_i a _ hc
   show U64 (frW (newA m b ms a))
   exact frW_u _
  ·exact (show U64 0 from ⟨by decide, by decide⟩)
theorem wds_set (l : List Int) (j : Nat) (x : Int) : (wds l).set j (.int .u64 x) = wds (l.set j x) := by unfold wds; rw [List.map_set]
set_option maxHeartbeats 4000000 in
theorem cfields_any {Bq c : Nat} {A : Option Addr} {xs : List Int} {hd : Hdr} (h : UpW2 w B Bp g gy bm bv bp bu n V s ms) (hv : vH hd = true) (hf : hd.f.toNat ≤ xs.length) (ho : w.ownsRow Bq 51 1 (.slice A xs.length c) xs.length (wds xs)) (hu : ∀ x ∈ xs, U64 x) (hV : ∀ k, V.ownBlock = some k → (Value.slice A xs.length c).ownBlock ≠ some k) (hl : xs.length ≤ 1000) :
  Calls Tryz.prog 87 #[hd.val, .slice A xs.length c, .func (.func 88) #[] #[.pointer (some ⟨bu, 0, none⟩)]] w (fun e w' => e = .returned (.tuple #[]) ∧ w'.ownsRow Bq 51 1 (.slice A xs.length c) xs.length (wds (updP (Mm.one s) s.base ms hd xs)) ∧ Kp (fun k => (Value.slice A xs.length c).ownBlock = some k) w w') := by
 have hvb := vH_bound hv
 have hb0 : Below w.heap.size w (w.alloc (.cells #[.int .i64 hd.k, .int .i64 hd.c, .int .i64 hd.f] 55)) := (Below.refl _ _).alloc (Nat.le_refl _) _
 have HZ : Hid (Bk (w.alloc (.cells #[.int .i64 hd.k, .int .i64 hd.c, .int .i64 hd.f] 55)) w.heap.size 55 #[.int .i64 hd.k, .int .i64 hd.c, .int .i64 hd.f]) := lh (Bk.new _ _ _)
 have HB0 := lh hb0
 have H := lh (h.below hb0)
 have HO := lh (own_local ho fun k hk => hb0.block k (ho.lt k hk).2)
 have HV := lh hV
 have HU := lh hu
 unfold Hdr.val
 by_cases hk : hd.k = 3 ∨ hd.k = 4
 ·have HP : Hid (updP (Mm.one s) s.base ms hd xs = xs) := lh (if_pos hk)
  rw [HP.out]
  rcases hk with hk | hk
  all_goals
   rw [hk] at HZ HB0 H HO ⊢
   clear h ho hV hu hb0 hvb hv
   go_enter Tryz.func87, Tryz.ntmps87
   go_wp2_with fail
   go_end0
   exact ⟨rfl, HO.out, Kp.of_below HB0.out⟩
 ·have HP : Hid (updP (Mm.one s) s.base ms hd xs = updJ (Mm.one s) s.base ms xs hd.f.toNat) := lh (if_neg hk)
  rw [HP.out]
  have hk3 : hd.k = 0 ∨ hd.k = 1 ∨ hd.k = 2 := by omega
  have hf0 := hvb.2.2.2.2.1
  obtain ⟨f, hff⟩ : ∃ f : Nat, hd.f = (f : Int) := ⟨hd.f.toNat, by omega⟩
  rw [hff] at HZ HB0 H HO hf ⊢
  simp only [Int.toNat_natCast] at hf ⊢
  generalize hd.c = cc at *
  rcases hk3 with hk3 | hk3 | hk3
  all_goals
   rw [hk3] at HZ HB0 H HO ⊢
   clear h ho hV hu hb0 hvb hv hk hk3 hff hf0 HP
   go_enter Tryz.func87, Tryz.ntmps87
   go_wp2_with fail
   first
    | (obtain ⟨w0, hw0⟩ : ∃ w0, w0 = w.alloc (.cells #[.int .i64 0, .int .i64 cc, .int .i64 (f : Int)] 55) := ⟨_, rfl⟩; rw [← hw0] at HB0 H HO HZ ⊢; clear hw0)
    | (obtain ⟨w0, hw0⟩ : ∃ w0, w0 = w.alloc (.cells #[.int .i64 1, .int .i64 cc, .int .i64 (f : Int)] 55) := ⟨_, rfl⟩; rw [← hw0] at HB0 H HO HZ ⊢; clear hw0)
    | (obtain ⟨w0, hw0⟩ : ∃ w0, w0 = w.alloc (.cells #[.int .i64 2, .int .i64 cc, .int .i64 (f : Int)] 55) := ⟨_, rfl⟩; rw [← hw0] at HB0 H HO HZ ⊢; clear hw0)
   go_loopw [22] (fun i wr => ∃ j : Nat, i = .int .i64 (j : Int) ∧ j ≤ f ∧ wr.ownsRow Bq 51 1 (.slice A xs.length c) xs.length (wds (updJ (Mm.one s) s.base ms xs j)) ∧ Kp (fun k => (Value.slice A xs.length c).ownBlock = some k) w0 wr) (fun i _ => f - (intOf i).toNat)
   case atStart => exact ⟨0, rfl, Nat.zero_le _, HO.out, Kp.refl _ _⟩
   case round =>
    obtain ⟨j, rfl, hj, hrow, hkp⟩ := hrel
    have HROW := lh hrow
    have HKP := lh hkp
    by_cases hlt : j < f
    ·have hjx : j < xs.length := by omega
     have hj64 : ((j : Int) < (f : Int)) := by omega
     obtain ⟨b2, cap, hA, hBb, hBl, hbl, hsl⟩ := ownSls hrow (by omega)
     cases hA
     have e1 : wr.cell? ⟨b2, 0 + j, none⟩ = some (.int .u64 xs[j]) := by
      obtain ⟨b', o', hA, _, hc⟩ := hsl.get hjx
      cases hA
      refine hc j _ ?_
      exact wds_get (updJ_get hjx)
     have e2 : wr.cell? ⟨b2, j, none⟩ = some (.int .u64 xs[j]) := by rw [Nat.zero_add] at e1; exact e1
     have hup := H.out.kp hkp (fun hb ht e => ownRow_bk (h := hb) HO.out ht e) (fun k hk e => HV.out k hk e) (fun e => H.out.up.mp.ne_own HO.out e)
     have cU := Upd2_any hup (HU.out xs[j] (List.getElem_mem hjx))
     have hst := updJ_set (m := Mm.one s) (b := s.base) (ms := ms) hjx
     have hfr : wr.frozen? ⟨b2, j, none⟩ = false := by
      obtain ⟨_, ⟨h2, _⟩ | ⟨g', cap', cur, hv, _, h4, _⟩⟩ := hrow
      ·cases h2
      ·cases hv
       exact (show Bk wr b2 _ cur from h4).free j
     have hjc : j < c := by omega
     generalize ((Mm.one s).updW s.base ms xs[j]).getD xs[j] = y at cU hst
     generalize xs[j] = x at e1 e2 cU
     have HST := lh hst
     clear hrow hkp hst hup hsl
     go_wp2_with fail
     refine cU.mono ?_
     rintro e w2 ⟨rfl, hb⟩
     have HB2 := lh hb
     have e4 : w2.cell? ⟨b2, j, none⟩ = some (.int .u64 x) := ((bcell hb).1 _ _ hbl).trans e2
     have e5 : w2.cell? ⟨b2, 0 + j, none⟩ = some (.int .u64 x) := by rw [Nat.zero_add]; exact e4
     have f4 : w2.frozen? ⟨b2, j, none⟩ = false := ((bcell hb).2 _ _ hbl).trans hfr
     have f5 : w2.frozen? ⟨b2, 0 + j, none⟩ = false := by rw [Nat.zero_add]; exact f4
     clear hb cU
     go_wp2_with fail
     go_roundw
     case rel =>
      refine ⟨j + 1, by go_num, by omega, ?_, ?_⟩
      ·have := ownSetAt (own_local HROW.out fun k hk => HB2.out.block k (HROW.out.lt k hk).2) hjx (.int .u64 y)
       rw [Nat.zero_add, wds_set, HST.out] at this
       exact this
      ·exact (HKP.out.trans (Kp.of_below (S := fun k => k = b2) HB2.out) fun k _ e => by subst e; rfl).trans (Kp.setCell (S := fun k => k = b2) w2 ⟨b2, j, none⟩ _ rfl) fun k _ e => by subst e; rfl
     case measure => simp [intOf]; omega
    ·obtain rfl : j = f := by omega
     clear hrow hkp
     go_wp2_with fail
     go_end0
     exact ⟨rfl, HROW.out, (Kp.of_below HB0.out).trans HKP.out fun _ _ e => e⟩
end
end Go.Proofs.YtjpaogapclfajaaGreat
namespace Go.Proofs.YtjpaogapclfajaaGreat
open Go Go.RowKit
def callless (o : Op) : Bool := match o with
 | .move _ => true
 | .assign _ => true
 | .load _ _ => true
 | .store _ _ _ => true
 | .nilCheck _ => true
 | .binOp _ _ _ _ _ => true
 | .slice _ _ _ _ _ => true
 | .fieldAddr _ _ _ => true
 | .indexAddr _ _ _ => true
 | _ => false
theorem val_or {P : Program} {w w' : World} {s : Sem Value} {nx : Next} (h : (do pure (Next.value (← s)) : Sem Next).run P w = .ok nx w') : ∃ v, nx = .value v := by
 rw [Sem.run_bind] at h
 cases hs : s.run P w with
 | ok v w1 =>
  rw [hs] at h
  simp only [Result.andThen_ok] at h
  cases h
  exact ⟨v, rfl⟩
 | halt e w1 =>
  rw [hs] at h
  cases h
theorem skip_or {P : Program} {w w' : World} {s : Sem Unit} {nx : Next} (h : (do s; pure Next.skip : Sem Next).run P w = .ok nx w') : nx = .skip := by
 rw [Sem.run_bind] at h
 cases hs : s.run P w with
 | ok v w1 =>
  rw [hs] at h
  simp only [Result.andThen_ok] at h
  cases h
  rfl
 | halt e w1 =>
  rw [hs] at h
  cases h
def Vals1 (P : Program) (s : Sem Next) : Prop := ∀ w nx w', s.run P w = .ok nx w' → ∃ v, nx = Next.value v
theorem Vals1.bind {P : Program} {α : Type} (s : Sem α) (f : α → Sem Next) (h : ∀ a, Vals1 P (f a)) : Vals1 P (s >>= f) := fun w nx w' hr => by
 rw [Sem.run_bind] at hr
 cases hs : s.run P w with
 | ok v w1 =>
  rw [hs] at hr
  simp only [Result.andThen_ok] at hr
  exact h v _ _ _ hr
 | halt e w1 =>
  rw [hs] at hr
  cases hr
theorem Vals1.pure {P : Program} (v : Value) : Vals1 P (Pure.pure (Next.value v)) := fun w nx w' hr => by cases hr; exact ⟨v, rfl⟩
theorem Vals1.ite {P : Program} {c : Bool} {s t : Sem Next} (hs : Vals1 P s) (ht : Vals1 P t) : Vals1 P (if c = true then s else t) := by
 split
 ·exact hs
 ·exact ht
theorem callless_run {P : Program} {w w' : World} {ρ : Operand → Value} {o : Oper} {nx : Next} (hc : callless o.op = true) (h : (execOp ρ o).run P w = .ok nx w') : (∃ v, nx = .value v) ∨ nx = .skip := by
 unfold execOp at h
 cases ho : o.op <;> rw [ho] at h hc <;> simp only [callless] at hc <;> first | (cases hc; done) | skip
 case move => cases h; exact .inl ⟨_, rfl⟩
 case assign => cases h; exact .inl ⟨_, rfl⟩
 case load => exact .inl (val_or h)
 case store => exact .inr (skip_or h)
 case binOp => exact .inl (val_or h)
 case slice => exact .inl (val_or h)
 case fieldAddr => exact .inl (val_or h)
 case indexAddr => exact .inl (val_or h)
 case nilCheck x =>
  dsimp only at h
  split at h
  ·cases h
  ·cases h
  ·cases h
  ·split at h
   ·cases h
   ·refine .inl (Vals1.bind _ _ (fun p => ?_) _ _ _ h)
    refine Vals1.bind _ _ fun q => ?_
    exact Vals1.ite (Vals1.bind _ _ fun _ => Vals1.pure _) (Vals1.pure _)
   ·cases h
    exact .inl ⟨_, rfl⟩
  ·cases h
   exact .inl ⟨_, rfl⟩
/-- only the normal exit -/
def NQ (Q : Exit → Act → World → Prop) (e : Exit) (a : Act) (w : World) : Prop := e = .normal ∧ Q .normal a w
theorem NQ.no {Q : Exit → Act → World → Prop} : ¬ LetsOut (NQ Q) := fun ⟨_, _, h, _⟩ => by cases h
section
variable {F : Fence} {n : Nat} {P : Program} {ops : Array Oper} {Q : Exit → Act → World → Prop} {md : Region.Mode}
theorem callless_wp {o : Oper} (hc : callless o.op = true) {a : Act} {w : World} {K K' : Act → World → Prop} (hK : ∀ a w, K a w → K' a w) (h : o.wp P a w K (NQ Q)) : o.wpIn F n P a w K' Q := by
 have hab : ∀ f, o.about P w a.eval = some f → F.fn f := fun f hf => by
  unfold Oper.about at hf
  cases ho : o.op <;> rw [ho] at hf hc <;> first | (cases hf; done) | (cases hc; done)
 refine ⟨hab, ?_⟩
 rw [Oper.semAt_eq _ _ _ fun c e => by rw [e] at hc; cases hc]
 unfold Oper.wp at h
 cases hr : (execOp a.eval o).run P w with
 | ok nx w' =>
  rw [hr] at h
  rcases callless_run hc hr with ⟨v, rfl⟩ | rfl
  ·exact hK _ _ h
  ·exact hK _ _ h
 | halt e w' =>
  rw [hr] at h
  cases e <;> first | exact h.elim | (obtain ⟨h1, _⟩ := h; cases h1)
theorem wpAnyIn_of (hops : ∀ o, o ∈ ops → callless o.op = true) : ∀ (fuel : Nat) (L : Array Bool) (a : Act) (w : World), wpAny P md ops (NQ Q) fuel L a w → wpAnyIn F n P md ops Q fuel L a w
 | 0, L, a, w, h => ⟨h.1, h.2.2⟩
 | fuel + 1, L, a, w, h => by
  refine ⟨fun e => (h.1 e).2, fun i hi => ?_⟩
  have h1 := h.2 i hi
  unfold wpOp at h1
  unfold wpOpIn
  cases ho : ops[i]? with
  | none =>
   rw [ho] at h1
   exact wpAnyIn_of hops fuel _ _ _ h1
  | some o =>
   rw [ho] at h1
   dsimp only at h1 ⊢
   have hc := hops o (Array.mem_of_getElem? ho)
   split at h1
   ·rename_i hw
    rw [if_pos hw]
    rcases h1 with h1 | ⟨_, h1⟩
    ·exact callless_wp hc (fun a w h => wpAnyIn_of hops fuel _ _ _ h) h1
    ·exact absurd h1 NQ.no
   ·rename_i hw
    rw [if_neg hw]
    refine ⟨fun f hf => ?_, wpAnyIn_of hops fuel _ _ _ h1⟩
    unfold Oper.about at hf
    cases hoo : o.op <;> rw [hoo] at hf hc <;> first | (cases hf; done) | (cases hc; done)
theorem wpIn_still_tail {id : Nat} {a : Act} {w : World} {l : List Oper} (k : Nat) (hm : P.follows .mixedOrders = true) (hB : Region.lexTailB .any l.toArray k = true) (hops : l.all (fun o => callless o.op) = true)
  (h : wpStill P l.toArray { w with drawn := w.drawn + 1 } (fun a' => wpList P l.toArray (NQ Q) (l.drop k) a' { w with drawn := w.drawn + 1 }) (l.take k) a) : (Code.region id l.toArray true).wpIn F n P Q a w := by
 simp only [Region.lexTailB, Bool.and_eq_true, decide_eq_true_eq] at hB
 obtain ⟨⟨⟨⟨hsel, hn⟩, hs⟩, hc⟩, hlex⟩ := hB
 have hn' : k < l.length := by simpa using hn
 have htl : (l.take k).length = k := by simp; omega
 have hdl : (l.drop k).length = l.toArray.size - k := by simp
 have inv0 : HeadInv .any l.toArray k (Array.replicate l.toArray.size false) :=
  ⟨by simp, fun j oj _ hl => (by rw [getD_replicate_false] at hl; cases hl), fun t _ ht => getD_in (by simpa using ht) (getD_replicate_false _ _)⟩
 have H := wpAnyL_lex (md := .any) (g := l.toArray.size - k) hsel hs hc hn (l.take k) 0 _ a (fun j hj => by
  have hj' : j < k := by rw [htl] at hj; exact hj
  simp [hj']) (by simpa using htl) inv0 (by rw [htl]; exact hlex) h
 refine wpIn_region_any hm (wpAnyIn_of (fun o ho => by simpa using List.all_eq_true.1 hops o (by simpa using ho)) _ _ _ _ ?_)
 have := wpAny_of_head (Q' := NQ Q) (g := l.toArray.size - k) (fun listed a' hL => by
  have := wpAny_of_seq (md := .any) (Q' := NQ Q) (l.drop k) k listed a' { w with drawn := w.drawn + 1 } (fun j => by simp [List.getElem?_drop]) (by rw [hdl]; exact hL.1) hL.2
  rwa [hdl] at this) _ _ _ H
 rw [htl, show k + (l.toArray.size - k) = l.toArray.size by omega] at this
 exact this
end
/-- a guarded call that is passed over -/
theorem wpListIn_pass {F : Fence} {n : Nat} {P : Program} {ops : Array Oper} {Q : Exit → Act → World → Prop} {a : Act} {w : World} {rest : List Oper} {o : Oper} (hF : ∀ f, F.fn f) (hw : Region.wanted o (yielded ops a.tmps) = false) (h : wpListIn F n P ops Q rest (a.put o.dst undef) w) : wpListIn F n P ops Q (o :: rest) a w := by
 simp only [wpListIn, hw]
 exact ⟨fun f _ => hF f, h⟩
end Go.Proofs.YtjpaogapclfajaaGreat
