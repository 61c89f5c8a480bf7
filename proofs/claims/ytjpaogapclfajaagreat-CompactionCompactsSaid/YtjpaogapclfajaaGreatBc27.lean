/- Parts of the proof: RMrk. -/
import Derived.Test.YtjpaogapclfajaaGreatBcA
import Derived.Test.YtjpaogapclfajaaGreatBc22
import Derived.Test.YtjpaogapclfajaaGreatBc23
import Derived.Test.YtjpaogapclfajaaGreatBc26
set_option linter.unusedVariables false
set_option linter.unusedSimpArgs false
set_option linter.unusedSectionVars false
namespace Go.Proofs.YtjpaogapclfajaaGreat
open Go.RowKit Go.Sort
attribute [local go_sem] Oper.semAt_some onlyN_normal
set_option maxRecDepth 100000
theorem kpW_len (m : Mm) (sg wl : List Int) (o : Option (Option Int)) : (m.kpW sg wl o).length ≤ wl.length + 1 := by
 unfold Mm.kpW Mm.keepW
 split
 ·split
  ·simp
  ·omega
 ·omega
theorem kpx_len (m : Mm) (sg : List Int) : ∀ (ws wl : List Int), (m.kpx sg wl ws).length ≤ wl.length + ws.length
 | [], wl => Nat.le_refl _
 | x :: ws, wl => by
  have h1 := kpx_len m sg ws (m.kpW sg wl (m.rfr x))
  have h2 := kpW_len m sg wl (m.rfr x)
  unfold Mm.kpx at h1 ⊢
  rw [List.foldl_cons, List.length_cons]
  omega
def RMrkP (w : World) (m : Mm) (weak : List Int) (o : Option (List Int)) (e : Ending) (w' : World) : Prop := Below w.heap.size w w' ∧ match o with
 | none => e = .returned (.tuple #[.slice none 0 0, .bool false])
 | some st => ∃ v, e = .returned (.tuple #[v, .bool true]) ∧ w'.ownsRow w.heap.size 3 1 v (srtI (st ++ m.kpx st (m.weakR st) weak)).length (ints (srtI (st ++ m.kpx st (m.weakR st) weak)))
section
variable {w : World} {s : Spc} {A Ar Aw : Option Addr} {c cr cw : Nat} {roots weak : List Int}
set_option maxHeartbeats 8000000 in
theorem RMarks_any (h : RS w s A c) (hb0 : s.base = 0) (hl0 : s.limit ≤ 16777216) (hr : Sl w 1 Ar roots.length (wds roots)) (hrc : roots.length ≤ cr) (hru : ∀ x ∈ roots, U64 x) (hrl : roots.length ≤ 1000000) (hw : Sl w 1 Aw weak.length (wds weak)) (hwc : weak.length ≤ cw) (hwu : ∀ x ∈ weak, U64 x) (hwl : weak.length ≤ 1000000) :
  Calls Tryz.prog 77 #[.agg #[.int .i64 s.base, .int .i64 s.limit, .slice A s.ws.length c], .slice Ar roots.length cr, .slice Aw weak.length cw] w (RMrkP w (Mm.one s) weak ((Mm.one s).strong roots)) := by
 have hHB := boxS w s A c
 have HB := lh hHB
 have HQ := lh (Bk.new w 30 #[.int .i64 s.base, .int .i64 s.limit, .slice A s.ws.length c])
 have H := lh (h.below hHB)
 have HR := lh (hr.below hHB)
 have HWK := lh (hw.below hHB)
 have HWU := lh hwu
 have HL0 := lh hl0
 have HB0 := lh hb0
 have OK := lh (Mm.one_ok h.ok hb0 hl0)
 have cSt := Strong_any H.out hb0 hl0 HR.out hrc hru hrl
 have HSZ : Hid ((Mm.one s).size ≤ 16777216) := lh (by rw [Mm.one_size]; have := h.ok.lim; have := h.ok.b0; omega)
 have HSS : Hid (∀ st, (Mm.one s).strong roots = some st → (Mm.one s).StrI roots st) := lh fun st e => Mm.strong_some e
 have HCR := lh (fun (w1 : World) (hb : Below (w.alloc (.cells #[.int .i64 s.base, .int .i64 s.limit, .slice A s.ws.length c] 30)).heap.size (w.alloc (.cells #[.int .i64 s.base, .int .i64 s.limit, .slice A s.ws.length c] 30)) w1) (x : Int) (hx : U64 x) => Refers_any (H.out.below hb) hb0 hl0 hx)
 have HCW := lh (fun (w1 : World) (hb : Below (w.alloc (.cells #[.int .i64 s.base, .int .i64 s.limit, .slice A s.ws.length c] 30)).heap.size (w.alloc (.cells #[.int .i64 s.base, .int .i64 s.limit, .slice A s.ws.length c] 30)) w1) (st : List Int) (A2 : Option Addr) (c2 : Nat) (hr : IS w1 st A2 c2) (hu : ∀ a ∈ st, 0 ≤ a ∧ a ≤ 4294967296) (hll : st.length ≤ 16777216) => RWeak_any (H.out.below hb) hb0 hl0 hr hu hll)
 have cMe := fun (w1 : World) (hb : Below (w.alloc (.cells #[.int .i64 s.base, .int .i64 s.limit, .slice A s.ws.length c] 30)).heap.size (w.alloc (.cells #[.int .i64 s.base, .int .i64 s.limit, .slice A s.ws.length c] 30)) w1) => RMemory_any (H.out.below hb)
 have cHe := fun (w1 : World) (hb : Below (w.alloc (.cells #[.int .i64 s.base, .int .i64 s.limit, .slice A s.ws.length c] 30)).heap.size (w.alloc (.cells #[.int .i64 s.base, .int .i64 s.limit, .slice A s.ws.length c] 30)) w1) (a : Int) => RHeader_any (H.out.below hb).zer a
 simp only [Mm.zer_hdr] at cHe
 unfold rmV Mm.zer hdrV Hdr.val at cHe
 unfold rsV at cMe
 have HCM := lh cMe
 have HCH := lh cHe
 obtain ⟨m, hm⟩ : ∃ m, m = Mm.one s := ⟨_, rfl⟩
 simp only [← hm] at cSt HCR HCW HCH OK HSZ HSS ⊢
 obtain ⟨os, hos⟩ : ∃ os, os = m.strong roots := ⟨_, rfl⟩
 rw [← hos] at cSt ⊢
 have HSS : Hid (∀ st, os = some st → m.StrI roots st) := lh fun st e => HSS.out st (hos.symm.trans e)
 obtain ⟨Q, hQ⟩ : ∃ Q, Q = RMrkP w m weak os := ⟨_, rfl⟩
 rw [← hQ]
 clear h hr hw hwu hru hb0 hl0 cMe cHe hm H hos HB0 HR
 have hbs0 := HB.out.size
 go_enter Tryz.func77, Tryz.ntmps77
 go_upto_region 1 with fail
 generalize (w.alloc (.cells #[.int .i64 s.base, .int .i64 s.limit, .slice A s.ws.length c] 30)) = wB at *
 have q0 : wB.cell? ⟨w.heap.size, 0, none⟩ = some (.int .i64 s.base) := HQ.out.cell 0
 have q1 : wB.cell? ⟨w.heap.size, 1, none⟩ = some (.int .i64 s.limit) := HQ.out.cell 1
 have q2 : wB.cell? ⟨w.heap.size, 2, none⟩ = some (.slice A s.ws.length c) := HQ.out.cell 2
 go_wp2_with fail
 refine cSt.mono ?_
 rintro e w1 ⟨hb1, h1⟩
 have HB1 := lh hb1
 have hqr := HQ.out.below hb1 HQ.out.lt
 clear q0 q1 q2 cSt
 cases os with
 | none =>
  dsimp only at h1
  subst h1
  have HE : Hid (∀ w', Below w.heap.size w w' → Q (.returned (.tuple #[.slice none 0 0, .bool false])) w') := lh fun w' hb => by rw [hQ]; exact ⟨hb, rfl⟩
  clear hQ hqr hb1
  go_wp2_with fail
  exact HE.out _ (HB.out.trans (HB1.out.mono hbs0))
 | some st =>
  obtain ⟨v1, rfl, ho1⟩ := h1
  obtain ⟨As, cs, rfl, hcs⟩ := own_shape ho1
  have hsi := HSS.out st rfl
  have hsl : st.length ≤ 16777216 := Nat.le_trans hsi.fnd.len HSZ.out
  have HST : Hid (IS w1 st As cs) := lh ⟨own_sl ho1, hcs⟩
  have cWk := HCW.out w1 hb1 st As cs HST.out (fun a ha => Mm.res_has OK.out (Mm.hdr_has (hsi.fnd.ok a ha).1)) hsl
  obtain ⟨W, hW⟩ : ∃ W, W = m.weakR st := ⟨_, rfl⟩
  rw [← hW] at cWk
  have hWl : W.length ≤ st.length := by rw [hW]; have := weakB_len m st st []; rw [List.length_nil, Nat.zero_add] at this; exact this
  obtain ⟨kp, hkp⟩ : ∃ kp : Nat → List Int, kp = fun j => m.kpx st W (weak.take j) := ⟨_, rfl⟩
  have HK0 : Hid (kp 0 = W) := lh (by rw [hkp]; rfl)
  have HKS : Hid (∀ (j : Nat) (x : Int), weak[j]? = some x → kp (j + 1) = m.kpW st (kp j) (m.rfr x)) := lh fun j x hx => by rw [hkp]; exact kpx_take hx
  have HKL : Hid (∀ j, j ≤ weak.length → (kp j).length ≤ W.length + j) := lh fun j hj => by
   rw [hkp]
   have := kpx_len m st (weak.take j) W
   rw [List.length_take, Nat.min_eq_left hj] at this
   exact this
  have HE : Hid (∀ v w', Below w.heap.size w w' → w'.ownsRow w.heap.size 3 1 v (srtI (st ++ kp weak.length)).length (ints (srtI (st ++ kp weak.length))) → Q (.returned (.tuple #[v, .bool true])) w') := lh fun v w' hb ho => by
   rw [hQ]
   refine ⟨hb, v, rfl, ?_⟩
   rw [← hW]
   rw [hkp] at ho
   dsimp only at ho
   rw [List.take_length] at ho
   exact ho
  have hbw1 := hb1.size
  have q0 : w1.cell? ⟨w.heap.size, 0, none⟩ = some (.int .i64 s.base) := hqr.cell 0
  have q1 : w1.cell? ⟨w.heap.size, 1, none⟩ = some (.int .i64 s.limit) := hqr.cell 1
  have q2 : w1.cell? ⟨w.heap.size, 2, none⟩ = some (.slice A s.ws.length c) := hqr.cell 2
  clear hQ hqr hb1 ho1 hsi hW hkp HCW HSS
  go_wp2_with fail
  refine cWk.mono ?_
  rintro e w2 ⟨v2, rfl, ho2, hb2⟩
  have HB2 := lh hb2
  have HO2 := lh ho2
  clear q0 q1 q2 cWk hb2 ho2
  go_wp2_with fail
  go_loopw [10, 11] (fun v i wr => ∃ (j : Nat) (out : List Int), i = .int .i64 (j : Int) ∧ j ≤ weak.length ∧ kp j = out ∧ wr.ownsRow w1.heap.size 3 1 v out.length (ints out) ∧ Below w1.heap.size w1 wr) (fun _ i _ => weak.length - (intOf i).toNat)
  case atStart => exact ⟨0, W, rfl, Nat.zero_le _, HK0.out, HO2.out, HB2.out⟩
  case round =>
   obtain ⟨j, out, rfl, hj, hkj, hown, hbr⟩ := hrel
   have HOWN := lh hown
   have HBR := lh hbr
   have hbs := hbr.size
   have holn := HKL.out j hj
   rw [hkj] at holn
   obtain ⟨A0, c0, rfl, hac⟩ := own_shape hown
   have HBB := lh (HB1.out.trans (hbr.mono hbw1))
   have hqr := HQ.out.below HBB.out HQ.out.lt
   by_cases hlt : j < weak.length
   ·obtain ⟨b2, o2, rfl, hbl, hcc⟩ := (HWK.out.below HBB.out).get hlt
    have t1 : weak[j]? = some weak[j] := List.getElem?_eq_getElem hlt
    have e1 : wr.cell? ⟨b2, o2 + j, none⟩ = some (.int .u64 weak[j]) := hcc j _ (wds_get t1)
    have hxu := HWU.out weak[j] (List.getElem_mem hlt)
    have hkt := HKS.out j _ t1
    rw [hkj] at hkt
    have HKT := lh hkt
    have hcj : j < cw := by omega
    have hjI : (j : Int) < (weak.length : Int) := by omega
    generalize weak[j] = x at e1 hxu HKT t1 hkt
    have q0 : wr.cell? ⟨w.heap.size, 0, none⟩ = some (.int .i64 s.base) := hqr.cell 0
    have q1 : wr.cell? ⟨w.heap.size, 1, none⟩ = some (.int .i64 s.limit) := hqr.cell 1
    have q2 : wr.cell? ⟨w.heap.size, 2, none⟩ = some (.slice A s.ws.length c) := hqr.cell 2
    have k0 := cell_regrown q0
    have k1 := cell_regrown q1
    have k2 := cell_regrown q2
    have k3 := cell_regrown e1
    have hBs := HBB.out.size
    have cR := fun dd os => Calls.regrown_of (w := wr) (HCR.out _ (HBB.out.trans ((below_regrown wr dd os).mono hBs)) _ hxu)
    obtain ⟨o, ho⟩ : ∃ o, o = m.rfr x := ⟨_, rfl⟩
    rw [← ho] at cR HKT
    obtain ⟨ad, ok, bd, hq, hov⟩ : ∃ (ad : Int) (ok bd : Bool), rfsV o = .tuple #[.int .i64 ad, .bool ok, .bool bd] ∧ ((ok = true ∧ o = some (some ad)) ∨ (ok = false ∧ ∀ a, o ≠ some (some a))) := by
     rcases o with _ | _ | a
     ·exact ⟨0, false, true, rfl, .inr ⟨rfl, fun a e => by cases e⟩⟩
     ·exact ⟨0, false, false, rfl, .inr ⟨rfl, fun a e => by cases e⟩⟩
     ·exact ⟨a, true, false, rfl, .inl ⟨rfl, rfl⟩⟩
    rw [hq] at cR
    have HOV := lh hov
    clear hown hbr hcc hqr ho hq hov hxu t1 hkt hkj hbl
    go_upto_region 8 with fail
    refine wp_region_quiet_below (by kernel_rfl) (by kernel_rfl) ?_
    repeat (first | go_big_quiet_step ((go_at_call 28; exact cR _ _)) | quiet_step ((go_at_call 28; exact cR _ _)))
    refine wpQuiet_nil ?_
    intro w7 hw'
    have hb7 := quiet_below_one hw'
    have HB7 := lh (HBR.out.trans (hb7.mono hbs))
    have HBB7 := lh (HBB.out.trans (hb7.mono hBs))
    have HO7 := lh (own_local HOWN.out (w' := w7) fun k hk => hb7.block k (HOWN.out.lt k hk).2)
    have hqr := HQ.out.below HBB7.out HQ.out.lt
    clear hw' hb7 cR k0 k1 k2 k3 q0 q1 q2 e1 HOWN HBR HBB
    have q0 : w7.cell? ⟨w.heap.size, 0, none⟩ = some (.int .i64 s.base) := hqr.cell 0
    have q1 : w7.cell? ⟨w.heap.size, 1, none⟩ = some (.int .i64 s.limit) := hqr.cell 1
    have q2 : w7.cell? ⟨w.heap.size, 2, none⟩ = some (.slice A s.ws.length c) := hqr.cell 2
    have cM := HCM.out _ HBB7.out
    clear hqr
    go_wp2_with fail
    refine cM.mono ?_
    rintro e w8 ⟨rfl, hb8⟩
    have HB8 := lh (HB7.out.trans (hb8.mono HB7.out.size))
    have HBB8 := lh (HBB7.out.trans (hb8.mono HBB7.out.size))
    have HO8 := lh (own_local HO7.out (w' := w8) fun k hk => hb8.block k (HO7.out.lt k hk).2)
    have cH := HCH.out _ HBB8.out ad
    obtain ⟨er, hd2, hhd2⟩ : ∃ er hd2, m.hdr ad = (er, hd2) := ⟨_, _, rfl⟩
    rw [hhd2] at cH
    dsimp only at cH
    have HH2 := lh hhd2
    clear hb8 cM hhd2 q0 q1 q2 HB7 HBB7 HO7
    go_wp2_with fail
    refine cH.mono ?_
    rintro e w9 ⟨rfl, hb9⟩
    have HB9 := lh (HB8.out.trans (hb9.mono HB8.out.size))
    have HO9 := lh (own_local HO8.out (w' := w9) fun k hk => hb9.block k (HO8.out.lt k hk).2)
    clear hb9 cH HB8 HBB8 HO8
    go_upto_region 10 with fail
    have hbx : Below w9.heap.size w9 (w9.alloc (.cells #[.int .i64 hd2.k, .int .i64 hd2.c, .int .i64 hd2.f] 55)) := (Below.refl _ _).alloc (Nat.le_refl _) _
    have HBX := lh (HB9.out.trans (hbx.mono HB9.out.size))
    have HOX := lh (own_local HO9.out (w' := w9.alloc (.cells #[.int .i64 hd2.k, .int .i64 hd2.c, .int .i64 hd2.f] 55)) fun k hk => hbx.block k (HO9.out.lt k hk).2)
    have HX2 : Hid (Bk (w9.alloc (.cells #[.int .i64 hd2.k, .int .i64 hd2.c, .int .i64 hd2.f] 55)) w9.heap.size 55 #[.int .i64 hd2.k, .int .i64 hd2.c, .int .i64 hd2.f]) := lh (Bk.new _ _ _)
    clear hbx HB9 HO9
    generalize w9.alloc (.cells #[.int .i64 hd2.k, .int .i64 hd2.c, .int .i64 hd2.f] 55) = wx at *
    generalize w9.heap.size = gx at *
    have x0 : wx.cell? ⟨gx, 0, none⟩ = some (.int .i64 hd2.k) := HX2.out.cell 0
    have hsx := HBX.out.size
    have cS := R11Has_any (HST.out.below HBX.out) (by omega) ad
    have hIO : IS wx out A0 c0 := ⟨own_sl HOX.out, hac⟩
    have cO := R11Has_any hIO (by omega) ad
    clear hIO
    rcases HOV.out with ⟨hok, hoa⟩ | ⟨hok, hoa⟩
    ·subst hok
     have HWB : Hid (m.kpW st out o = if st.contains ad = false ∧ out.contains ad = false ∧ hd2.k = 3 then out ++ [ad] else out) := lh (by
      rw [hoa]
      unfold Mm.kpW Mm.keepW
      dsimp only
      rw [HH2.out])
     clear hoa
     by_cases hk3 : hd2.k = 3
     ·have hkb3 : (hd2.k == 3) = true := by simp [hk3]
      cases hc1 : st.contains ad with
      | true =>
       rw [hc1] at cS
       have HW2 : Hid (m.kpW st out o = out) := lh (by rw [HWB.out, if_neg (by rw [hc1]; simp)])
       clear hk3 hc1
       go_wp2_with (first | (go_at_call 21; (with_reducible refine cS.mono ?_); rintro e wy ⟨rfl, rfl⟩) | (go_at_call 21; (with_reducible refine cO.mono ?_); rintro e wy ⟨rfl, rfl⟩))
       go_roundw
       case rel => exact ⟨j + 1, out, by go_num, by omega, by rw [HKT.out, HW2.out], HOX.out, HBX.out⟩
       case measure => simp [intOf]; omega
      | false =>
       rw [hc1] at cS
       cases hc2' : out.contains ad with
       | true =>
        rw [hc2'] at cO
        have HW2 : Hid (m.kpW st out o = out) := lh (by rw [HWB.out, if_neg (by rw [hc2']; simp)])
        clear hk3 hc1 hc2'
        go_wp2_with (first | (go_at_call 21; (with_reducible refine cS.mono ?_); rintro e wy ⟨rfl, rfl⟩) | (go_at_call 21; (with_reducible refine cO.mono ?_); rintro e wy ⟨rfl, rfl⟩))
        go_roundw
        case rel => exact ⟨j + 1, out, by go_num, by omega, by rw [HKT.out, HW2.out], HOX.out, HBX.out⟩
        case measure => simp [intOf]; omega
       | false =>
        rw [hc2'] at cO
        have HW2 : Hid (m.kpW st out o = out ++ [ad]) := lh (by rw [HWB.out, if_pos ⟨hc1, hc2', hk3⟩])
        obtain ⟨i0, hi, hz0, hz1, hz2⟩ := info_parts Tryz.infoI1
        have HI := lh (And.intro hi (And.intro hz0 (And.intro hz1 hz2)))
        clear hk3 hc1 hc2' hi hz0 hz1 hz2
        go_wp2_with (first | (go_at_call 21; (with_reducible refine cS.mono ?_); rintro e wy ⟨rfl, rfl⟩) | (go_at_call 21; (with_reducible refine cO.mono ?_); rintro e wy ⟨rfl, rfl⟩) | (at_builtin; refine wpList_append_own_at _ rfl (.tmp 69) (.tmp 71) 23 rfl w1.heap.size 3 i0 (.int .i64 0) 1 8 Tryz.underlying23 HI.out.1 HI.out.2.1 HI.out.2.2.1 HI.out.2.2.2 rfl (by decide) _ out.length _ rfl (HOX.out.alloc _) ⟨wx.heap.size, 0, none⟩ 1 1 [.int .i64 ad] rfl rfl (cell_one_new _ _ _) (by simp [Value.oneCell']) (by unfold maxLen; omega) (by omega) (by simp; omega) ?_; intro v' wz hown3 hg3 _ hloc; have HOWN3 := lh hown3; have HG3 := lh hg3; clear hown3 hg3 hloc))
        go_roundw
        case rel =>
         refine ⟨j + 1, out ++ [ad], by go_num, by omega, by rw [HKT.out, HW2.out], ?_, ?_⟩
         ·rw [List.length_append, List.length_singleton, show ints (out ++ [ad]) = ints out ++ [.int .i64 ad] by simp [ints]]
          exact HOWN3.out
         ·exact (HBX.out.alloc (by omega) _).grown HG3.out (by simp; omega) (fun k hk => (HOX.out.lt k hk).1)
        case measure => simp [intOf]; omega
     ·have hkb3 : (hd2.k == 3) = false := by simp [hk3]
      have HW2 : Hid (m.kpW st out o = out) := lh (by rw [HWB.out, if_neg (fun e => hk3 e.2.2)])
      clear hk3
      go_wp2_with fail
      go_roundw
      case rel => exact ⟨j + 1, out, by go_num, by omega, by rw [HKT.out, HW2.out], HOX.out, HBX.out⟩
      case measure => simp [intOf]; omega
    ·subst hok
     have HW2 : Hid (m.kpW st out o = out) := lh (by
      unfold Mm.kpW
      split
      ·rename_i a; exact absurd rfl (hoa a)
      ·rfl)
     clear hoa
     go_wp2_with fail
     go_roundw
     case rel => exact ⟨j + 1, out, by go_num, by omega, by rw [HKT.out, HW2.out], HOX.out, HBX.out⟩
     case measure => simp [intOf]; omega
   ·have hjI : ¬ (j : Int) < (weak.length : Int) := by omega
    obtain rfl : j = weak.length := by omega
    have cSo := Sorted_any (HST.out.below hbr) (⟨own_sl hown, hac⟩ : IS wr out A0 c0) (by omega) (by omega)
    have HKJ := lh hkj
    clear hbr hown hqr hkj
    go_wp2_with fail
    refine cSo.mono ?_
    rintro e w5 ⟨v5, rfl, ho5, hb5⟩
    have HO5 := lh ho5
    have HB5 := lh hb5
    clear cSo ho5 hb5
    go_wp2_with fail
    refine HE.out _ _ (HB.out.trans ((HBB.out.trans (HB5.out.mono HBB.out.size)).mono hbs0)) ?_
    rw [HKJ.out]
    exact ownBase HO5.out (Nat.le_trans hbs0 HBB.out.size)
end
end Go.Proofs.YtjpaogapclfajaaGreat
