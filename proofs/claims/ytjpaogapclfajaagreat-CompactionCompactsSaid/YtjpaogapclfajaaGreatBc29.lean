/- Parts of the proof: CCmp. -/
import Derived.Laws.EntriesVeiled
import Derived.Maps.AppendAt
import Derived.Test.YtjpaogapclfajaaGreatBcA
import Derived.Test.YtjpaogapclfajaaGreatBc25
set_option linter.unusedVariables false
set_option linter.unusedSimpArgs false
set_option linter.unusedSectionVars false
namespace Go.Proofs.YtjpaogapclfajaaGreat
open Go.RowKit Go.Maps
attribute [local go_sem] Oper.semAt_some
set_option maxRecDepth 100000
theorem i_moved : (Tryz.prog.info? 139).map (fun i => (i.zero, i.size, i.bytes)) = some (some (.agg #[.int .i64 0, .int .i64 0, .int .i64 0, .int .i64 0, .int .i64 0, .slice none 0 0]), 6, 64) := by kernel_rfl
/-- what Compact leaves -/
def CmpP (w : World) (B g : Nat) (V : Value) (s : Spc) (ms roots : List Int) (e : Ending) (w' : World) : Prop := match s.plan ms, (Mm.one s).updL s.base ms roots with
 | some _, some out => ∃ v V', e = .returned (.tuple #[v, .int .i64 (ms.length : Int), .int .i64 0]) ∧ w'.ownsRow w.heap.size 51 1 v out.length (wds out) ∧ SpR w' B g (s.cmp ms) V' ∧ (∀ k, V'.ownBlock = some k → V.ownBlock = some k ∨ w.heap.size ≤ k) ∧ (∀ k, v.ownBlock = some k → V'.ownBlock ≠ some k) ∧ Kp (fun k => k = g ∨ V.ownBlock = some k) w w'
 | _, _ => e = .returned (.tuple #[.slice none 0 0, .int .i64 0, .int .i64 11]) ∧ Below w.heap.size w w'
section
variable {w : World} {B g : Nat} {s : Spc} {V : Value}
theorem cells_new (w : World) (t : TypeId) (l : List Value) : ∀ (j : Nat) (u : Value), l[j]? = some u → (w.alloc (.cells l.toArray t)).cell? ((⟨w.heap.size, 0, none⟩ : Addr).add j) = some u := fun j u h => by
 have h1 := (Bk.new w t l.toArray).cell j
 rw [show (⟨w.heap.size, 0, none⟩ : Addr).add j = ⟨w.heap.size, j, none⟩ by simp [Addr.add]; exact fun h => h.symm]
 rw [h1]
 simpa using h
theorem own_bkOf {w : World} {B n z : Nat} {e : TypeId} {v : Value} {xs : List Value} (h : w.ownsRow B e z v n xs) {k : Nat} (hk : v.ownBlock = some k) : ∃ cur, Bk w k e cur := by
 obtain ⟨_, ⟨rfl, _⟩ | ⟨g', cap, cur, rfl, _, h4, _⟩⟩ := h
 ·cases hk
 ·injection hk with hk
  exact ⟨cur, by rw [← hk]; exact h4⟩
theorem SLoad_val (h : SpR w B g s V) {a v : Int} (hv : s.at_ a = some v) : Calls Tryz.prog 47 #[.pointer (some ⟨g, 0, none⟩), .int .i64 a] w fun e w' => e = .returned (.tuple #[.int .u64 v, .int .i64 0]) ∧ Below w.heap.size w w' := by
 have := SLoad_any h a
 rw [ldV_eq, hv] at this
 exact this
set_option maxHeartbeats 16000000 in
theorem Compact_any {Bm gm bmk cr : Nat} {Ar : Option Addr} {sg wl roots : List Int} (h : SpR w B g s V) (hm : MkR w Bm gm bmk (Mm.one s) sg wl) (hnd : (sg ++ wl).Nodup) (hok : ∀ a ∈ sg ++ wl, ((Mm.one s).hdr a).1 = 0) (hrg : ∀ a ∈ sg ++ wl, 0 ≤ a ∧ a ≤ 4294967296) (hml : (sg ++ wl).length ≤ 16777216) (hl0 : s.limit ≤ 16777216)
  (hb0 : s.base = 0) (hB : B ≤ w.heap.size) (hr : Sl w 1 Ar roots.length (wds roots)) (hrc : roots.length ≤ cr) (hru : ∀ x ∈ roots, U64 x) (hrl : roots.length ≤ 100000000) (hwz : s.ws = [] ∨ 4 ≤ s.ws.length) :
  Calls Tryz.prog 39 #[.pointer (some ⟨g, 0, none⟩), .pointer (some ⟨gm, 0, none⟩), .slice Ar roots.length cr] w (CmpP w B g V s (srtI (sg ++ wl)) roots) := by
 have cP := Plan_any h hm hnd hok hrg hml hl0
 have hinc : (srtI (sg ++ wl)).Pairwise (· < ·) := srtI_lt hnd
 have hmsl : (srtI (sg ++ wl)).length ≤ 16777216 := by rw [srtI_len]; exact hml
 have hmrg : ∀ a ∈ srtI (sg ++ wl), 0 ≤ a ∧ a ≤ 4294967296 := fun a ha => hrg a ((srtI_mem _ a).1 ha)
 generalize srtI (sg ++ wl) = ms at *
 obtain ⟨Q, hQ⟩ : ∃ Q, Q = CmpP w B g V s ms roots := ⟨_, rfl⟩
 rw [← hQ]
 have H := lh h
 have HR := lh hr
 have HRU := lh hru
 have HMRG := lh hmrg
 unfold PlanP at cP
 cases hpl : s.plan ms with
 | none =>
  rw [hpl] at cP
  dsimp only at cP
  have HQ0 : Hid (∀ w', Below w.heap.size w w' → Q (.returned (.tuple #[.slice none 0 0, .int .i64 0, .int .i64 11])) w') := lh fun w' hb => by
   rw [hQ]
   unfold CmpP
   rw [hpl]
   exact ⟨rfl, hb⟩
  clear hQ hpl h hr hru hmrg hm hnd hok hrg hml
  go_enter Tryz.func39, Tryz.ntmps39
  go_wp2_with fail
  refine cP.mono ?_
  rintro e w1 ⟨hb, rfl⟩
  have HB1 := lh hb
  clear cP hb
  go_wp2_with fail
  go_ret3
  exact HQ0.out _ HB1.out
 | some ns =>
  obtain ⟨hP, hns⟩ := Spc.plan_some hinc hpl
  rw [hpl] at cP
  dsimp only at cP
  have HPL := lh hP
  have hnsl : ns.length = ms.length := by rw [hns, newsL_len]
  have HNS : Hid (∀ (j : Nat) (a : Int), ms[j]? = some a → ns[j]? = some (newA (Mm.one s) s.base ms a)) := lh fun j a ha => by rw [hns]; exact newA_get hP.nd ha
  have hps := hP.sum
  have b0 := h.b0
  have b1 := h.lim
  have b2 := h.l0
  have HNR : Hid (∀ a, 0 ≤ newA (Mm.one s) s.base ms a ∧ newA (Mm.one s) s.base ms a ≤ 4294967295) := lh fun a => by
   unfold newA
   have h1 := wSum_take_le (m := Mm.one s) (l := ms) (fun a _ => (wH_bound _).1) (ms.idxOf a)
   have h2 := (wSum_rg (Mm.one s) (ms.take (ms.idxOf a))).1
   unfold Spc.top at hps
   omega
  have hmm := @run_makeMap Tryz.prog
  have HBw := lh hB
  have HQE : Hid ((Mm.one s).updL s.base ms roots = none → ∀ w', Below w.heap.size w w' → Q (.returned (.tuple #[.slice none 0 0, .int .i64 0, .int .i64 11])) w') := lh fun hu w' hb => by
   rw [hQ]
   unfold CmpP
   rw [hpl, hu]
   exact ⟨rfl, hb⟩
  have HQS : Hid (∀ out v V' w', (Mm.one s).updL s.base ms roots = some out → w'.ownsRow w.heap.size 51 1 v out.length (wds out) → SpR w' B g (s.cmp ms) V' → (∀ k, V'.ownBlock = some k → V.ownBlock = some k ∨ w.heap.size ≤ k) → (∀ k, v.ownBlock = some k → V'.ownBlock ≠ some k) → Kp (fun k => k = g ∨ V.ownBlock = some k) w w' → Q (.returned (.tuple #[v, .int .i64 (ms.length : Int), .int .i64 0])) w') := lh fun out v V' w' hu h1 h2 h3 h4 h5 => by
   rw [hQ]
   unfold CmpP
   rw [hpl, hu]
   exact ⟨v, V', rfl, h1, h2, h3, h4, h5⟩
  clear hQ hpl h hr hru hmrg hm hnd hok hrg hml hinc hns hP hps hB
  go_enter Tryz.func39, Tryz.ntmps39
  go_wp2_with fail
  refine cP.mono ?_
  rintro e w1 ⟨hb, v1, v2, rfl, ho1, ho2⟩
  obtain ⟨A1, c1, rfl, hc1⟩ := own_shape ho1
  obtain ⟨A2, c2, rfl, hc2⟩ := own_shape ho2
  have HB1 := lh hb
  have HO1 := lh ho1
  have HO2 := lh ho2
  clear cP hb ho1 ho2
  go_wp2_with fail
  have hal : Below w1.heap.size w1 ((w1.alloc (.map #[] 0)).alloc (.cells #[.map (some w1.heap.size)] 101)) := ((Below.refl _ _).alloc (Nat.le_refl _) _).alloc (by simp) _
  have HMP2 : Hid (MapI Tryz.prog 3 3 ((w1.alloc (.map #[] 0)).alloc (.cells #[.map (some w1.heap.size)] 101)) w1.heap.size 0 (fun _ => none)) := lh ((MapI.made _ _ _ _).alloc _)
  have HBV2 : Hid (Bk ((w1.alloc (.map #[] 0)).alloc (.cells #[.map (some w1.heap.size)] 101)) (w1.heap.size + 1) 101 #[.map (some w1.heap.size)]) := lh (Bk.here _ _ _ (by simp))
  have HB2 := lh (HB1.out.trans (hal.mono HB1.out.size))
  have HO12 := lh (own_local HO1.out fun k hk => hal.block k (HO1.out.lt k hk).2)
  have HO22 := lh (own_local HO2.out fun k hk => hal.block k (HO2.out.lt k hk).2)
  have hb1s := HB1.out.size
  obtain ⟨bp, hbp⟩ : ∃ bp, bp = w1.heap.size := ⟨_, rfl⟩
  rw [← hbp] at HMP2 HBV2 HB2 HO12 HO22 hb1s ⊢
  generalize (w1.alloc (.map #[] 0)).alloc (.cells #[.map (some bp)] 101) = w2 at HMP2 HBV2 HB2 HO12 HO22 ⊢
  clear hal HB1 HO1 HO2 hbp
  go_loopw [44] (fun i wr => ∃ j : Nat, i = .int .i64 (j : Int) ∧ j ≤ ms.length ∧ MapI Tryz.prog 3 3 wr bp j (fun z => if (ms.take j).contains z = true then some (newA (Mm.one s) s.base ms z) else none) ∧ Kp (fun k => k = bp) w2 wr) (fun i _ => ms.length - (intOf i).toNat)
  case atStart => exact ⟨0, rfl, Nat.zero_le _, HMP2.out.congr fun x _ => by simp, Kp.refl _ _⟩
  case round =>
   obtain ⟨j, rfl, hj, hmp, hkp⟩ := hrel
   have HMP := lh hmp
   have HKP := lh hkp
   have hr1 := own_local HO12.out (w' := wr) fun k hk => hkp.block k (HO12.out.lt k hk).2 (fun e => HMP2.out.ne_own HO12.out (e ▸ hk))
   have hr2 := own_local HO22.out (w' := wr) fun k hk => hkp.block k (HO22.out.lt k hk).2 (fun e => HMP2.out.ne_own HO22.out (e ▸ hk))
   have hbv := HBV2.out.kp hkp (fun e => HMP2.out.ne_bk HBV2.out e)
   --L1B
   by_cases hlt : j < ms.length
   ·have t1 : ms[j]? = some ms[j] := List.getElem?_eq_getElem hlt
    have hna := HNS.out j _ t1
    obtain ⟨ba, oa, hA1, _, hc1'⟩ := (own_sl hr1).get hlt
    obtain ⟨bb, ob, hA2, _, hc2'⟩ := (own_sl hr2).get (by omega : j < ns.length)
    have e1 : wr.cell? ⟨ba, oa + j, none⟩ = some (.int .i64 ms[j]) := hc1' j _ (ints_get t1)
    have e2 : wr.cell? ⟨bb, ob + j, none⟩ = some (.int .i64 (newA (Mm.one s) s.base ms ms[j])) := hc2' j _ (ints_get hna)
    have e3 : wr.cell? ⟨bp + 1, 0, none⟩ = some (.map (some bp)) := hbv.cell 0
    have hrga := HMRG.out _ (List.getElem_mem hlt)
    have hrgn := HNR.out ms[j]
    have hpf := fun x => plF_take (m := Mm.one s) (b := s.base) t1 x
    generalize ms[j] = a at t1 e1 e2 hrga hrgn hpf
    cases hA1
    cases hA2
    have HPF := lh hpf
    have hjc : j < c1 := by omega
    have hjd : j < c2 := by omega
    obtain ⟨na, hna'⟩ : ∃ na, na = newA (Mm.one s) s.base ms a := ⟨_, rfl⟩
    rw [← hna'] at e2 hrgn HPF
    have HWA : Hid ((Lit.int .i64 a).wf = true) := lh (WalkArith.wf_i64 (by omega))
    have HWN : Hid ((Lit.int .i64 na).wf = true) := lh (WalkArith.wf_i64 (by omega))
    clear hmp hkp hr1 hr2 hbv hna hc1' hc2' hpf hna' t1
    go_wp2_with fail
    go_still_tail 6, (by kernel_rfl)
    change wpList _ _ _ _ _ wr.drew
    refine wpList_map_put hKI hKI hMI rfl (m := .tmp 49) (x := .tmp 50) (v := .tmp 54) rfl HMP.out.drew (by unfold maxLen; omega) rfl rfl rfl HWA.out HWN.out ?_
    intro w3 hm3 hg3
    have HM3 := lh hm3
    have HG3 := lh hg3
    clear hm3 hg3
    go_wp2_with fail
    go_roundw
    case rel => exact ⟨j + 1, by go_num, by omega, HM3.out.congr fun x _ => HPF.out x, HKP.out.drew.trans (Kp.of_grown HG3.out fun k hk => by cases hk; rfl) fun _ _ e => e⟩
    case measure => simp [intOf]; omega
   --L1E
   ·obtain rfl : j = ms.length := by omega
    rw [List.take_length] at hmp
    have hB3 := hkp.toBelow HB2.out (by have := HB2.out.size; omega) (fun k e => by subst e; exact hb1s)
    have HB3 := lh hB3
    have HMP3 := lh hmp
    have HR13 := lh hr1
    have HBV3 := lh hbv
    have cN := fun w => SNew_any (w := w) 16777216 0 (.inr rfl) (by decide) (by decide)
    simp only [Int.add_zero] at cN
    clear hmp hkp hr1 hr2 hbv hB3 HMP HKP HMP2 HB2 HO12 HO22 HBV2
    go_wp2_with fail
    refine (cN _).mono ?_
    rintro e w4 ⟨gy, rfl, hy, hb⟩
    have HB4 := lh (HB3.out.trans (hb.mono HB3.out.size))
    have HMP4 := lh (HMP3.out.block (hb.block _ HMP3.out.lt))
    have HR14 := lh (own_local HR13.out fun k hk => hb.block k (HR13.out.lt k hk).2)
    have HBV4 := lh (HBV3.out.below hb HBV3.out.lt)
    have HY := lh hy
    have hw4 : wr.heap.size ≤ w4.heap.size := hb.size
    have hwr := HB3.out.size
    have hb5 : Below w4.heap.size w4 ((w4.alloc (.cells #[.pointer (some ⟨g, 0, none⟩), .pointer (some ⟨gy, 0, none⟩)] 27)).alloc (.cells #[.func (.func 81) #[] #[.pointer (some ⟨w4.heap.size, 0, none⟩), .pointer (some ⟨bp + 1, 0, none⟩)]] 135)) := ((Below.refl _ _).alloc (Nat.le_refl _) _).alloc (by simp) _
    have HM5 : Hid (Bk ((w4.alloc (.cells #[.pointer (some ⟨g, 0, none⟩), .pointer (some ⟨gy, 0, none⟩)] 27)).alloc (.cells #[.func (.func 81) #[] #[.pointer (some ⟨w4.heap.size, 0, none⟩), .pointer (some ⟨bp + 1, 0, none⟩)]] 135)) w4.heap.size 27 #[.pointer (some ⟨g, 0, none⟩), .pointer (some ⟨gy, 0, none⟩)]) := lh ((Bk.new _ _ _).alloc _)
    have HU5 : Hid (Bk ((w4.alloc (.cells #[.pointer (some ⟨g, 0, none⟩), .pointer (some ⟨gy, 0, none⟩)] 27)).alloc (.cells #[.func (.func 81) #[] #[.pointer (some ⟨w4.heap.size, 0, none⟩), .pointer (some ⟨bp + 1, 0, none⟩)]] 135)) (w4.heap.size + 1) 135 #[.func (.func 81) #[] #[.pointer (some ⟨w4.heap.size, 0, none⟩), .pointer (some ⟨bp + 1, 0, none⟩)]]) := lh (Bk.here _ _ _ (by simp))
    clear hb hy cN HMP3 HR13 HBV3 HB3
    go_wp2_with fail
    generalize (w4.alloc (.cells #[.pointer (some ⟨g, 0, none⟩), .pointer (some ⟨gy, 0, none⟩)] 27)).alloc (.cells #[.func (.func 81) #[] #[.pointer (some ⟨w4.heap.size, 0, none⟩), .pointer (some ⟨bp + 1, 0, none⟩)]] 135) = w5 at hb5 HM5 HU5 ⊢
    have HB5 := lh (HB4.out.trans (hb5.mono HB4.out.size))
    have HR15 := lh (own_local HR14.out fun k hk => hb5.block k (HR14.out.lt k hk).2)
    have hyl := HY.out.hd.lt
    have hyg := HY.out.ge
    have HUP : Hid (UpW2 w5 B 0 g gy w4.heap.size (bp + 1) bp (w4.heap.size + 1) ms.length V s ms) := lh ⟨⟨⟨H.out.below HB5.out, ⟨HY.out.hd.below hb5 hyl, ⟨rfl, .inl ⟨rfl, rfl⟩⟩, by have := HBw.out; omega, HY.out.u, HY.out.b0, HY.out.lim, HY.out.l0⟩, Mm.one_ok H.out.ok hb0 hl0, by have := H.out.hd.lt; omega, fun k hk h2 => by cases h2⟩, HM5.out, HBV4.out.below hb5 HBV4.out.lt, HMP4.out.block (hb5.block _ HMP4.out.lt), fun a ha => by
     unfold inA
     exact decide_eq_true (HNR.out a)⟩, HU5.out⟩
    have hw5 := hb5.size
    obtain ⟨bm, hbm⟩ : ∃ bm, bm = w4.heap.size := ⟨_, rfl⟩
    rw [← hbm] at HUP hw5 ⊢
    have HRS := lh (HR.out.below HB5.out)
    obtain ⟨i0, hi, hz0, hz1, hz2⟩ := info_parts i_word
    have HI := lh (And.intro hi (And.intro hz0 (And.intro hz1 hz2)))
    have hw5' := HB5.out.size
    clear hb5 HM5 HU5 HY HB4 HR14 HBV4 HMP4 hyl hyg hbm hi hz0 hz1 hz2 hw4 hwr
    go_loopw [17, 62] (fun v i wr => ∃ (j : Nat) (out : List Int), i = .int .i64 (j : Int) ∧ j ≤ roots.length ∧ (Mm.one s).updL s.base ms (roots.take j) = some out ∧ wr.ownsRow w5.heap.size 51 1 v out.length (wds out) ∧ Below w5.heap.size w5 wr) (fun _ i _ => roots.length - (intOf i).toNat)
    case atStart => exact ⟨0, [], rfl, Nat.zero_le _, rfl, World.ownsRow_nil _ _ _ _, Below.refl _ _⟩
    case round =>
     obtain ⟨j, out, rfl, hj, hul, hown, hbr⟩ := hrel
     have HUL := lh hul
     have HOWN := lh hown
     have HBR := lh hbr
     have hbs := hbr.size
     have hol := updL_len hul
     have holb : out.length ≤ 100000000 := by rw [hol]; simp; omega
     obtain ⟨Ao, co, rfl, hco⟩ := own_shape hown
     --L2B
     by_cases hlt : j < roots.length
     ·have t1 : roots[j]? = some roots[j] := List.getElem?_eq_getElem hlt
      obtain ⟨ba, oa, hA1, _, hc1'⟩ := (HRS.out.below hbr).get hlt
      have e1 : wr.cell? ⟨ba, oa + j, none⟩ = some (.int .u64 roots[j]) := hc1' j _ (wds_get t1)
      have hu := HRU.out _ (List.getElem_mem hlt)
      have hup := HUP.out.below hbr
      have cU := Upd_any hup.up hu
      have e2 : wr.cell? ⟨bm + 1, 0, none⟩ = some (.func (.func 81) #[] #[.pointer (some ⟨bm, 0, none⟩), .pointer (some ⟨bp + 1, 0, none⟩)]) := hup.bu.cell 0
      have hmem := List.getElem_mem hlt
      have hsn := updL_snoc (Mm.one s) s.base ms roots[j] (roots.take j)
      have htk : roots.take (j + 1) = roots.take j ++ [roots[j]] := by rw [List.take_add_one, t1]; rfl
      rw [← htk, hul] at hsn
      generalize roots[j] = x at t1 e1 hu cU hmem hsn
      cases hA1
      have hjc : j < cr := by omega
      have HMEM := lh hmem
      cases ho : (Mm.one s).updW s.base ms x with
      | none =>
       rw [ho] at cU
       unfold updV at cU
       dsimp only at cU
       have HN : Hid ((Mm.one s).updL s.base ms roots = none) := lh (updL_none ho HMEM.out)
       clear hul hown hbr t1 hc1' hu hup hsn htk ho hol hmem
       go_wp2_with fail
       refine cU.mono ?_
       rintro e w6 ⟨rfl, hb⟩
       have HB6 := lh (HB5.out.trans ((HBR.out.trans (hb.mono hbs)).mono hw5'))
       clear hb cU
       go_wp2_with fail
       go_ret3
       exact HQE.out HN.out _ HB6.out
      | some y =>
       rw [ho] at cU hsn
       unfold updV at cU
       dsimp only at cU hsn
       have HSN := lh hsn
       clear hul hown hbr t1 hc1' hu hup hsn htk ho hol hmem
       go_wp2_with fail
       refine cU.mono ?_
       rintro e w6 ⟨rfl, hb⟩
       have HB6 := lh (HBR.out.trans (hb.mono hbs))
       have HO6 := lh (own_local HOWN.out (w' := w6) fun k hk => hb.block k (HOWN.out.lt k hk).2)
       have hw6 := HB6.out.size
       clear hb cU
       go_wp2_with (at_builtin; refine wpList_append_own_at _ rfl (.tmp 75) (.tmp 77) 28 rfl w5.heap.size 51 i0 (.int .u64 0) 1 8 Tryz.underlying28 HI.out.1 HI.out.2.1 HI.out.2.2.1 HI.out.2.2.2 rfl (by decide) _ out.length _ rfl (HO6.out.alloc _) ⟨w6.heap.size, 0, none⟩ 1 1 [.int .u64 y] rfl rfl (cell_one_new _ _ _) (by simp [Value.oneCell']) (by unfold maxLen; omega) (by omega) (by simp; omega) ?_; intro v7 w7 ho7 hg7 _ hl7; have HO7 := lh ho7; have HG7 := lh hg7; clear ho7 hg7 hl7)
       go_roundw
       case rel =>
        refine ⟨j + 1, out ++ [y], by go_num, by omega, HSN.out, ?_, ?_⟩
        ·rw [List.length_append, List.length_singleton, show wds (out ++ [y]) = wds out ++ [.int .u64 y] by simp [wds]]
         exact HO7.out
        ·exact (HB6.out.alloc hw6 _).grown HG7.out (by simp; omega) (fun k hk => (HO6.out.lt k hk).1)
       case measure => simp [intOf]; omega
     --L2E
     ·obtain rfl : j = roots.length := by omega
      rw [List.take_length] at hul
      have HUL := lh hul
      have hbw := HB5.out.trans (hbr.mono hw5')
      have HBW := lh hbw
      have HUP6 := lh (HUP.out.below hbr)
      have HR16 := lh (own_local HR15.out fun k hk => hbr.block k (HR15.out.lt k hk).2)
      have hwr6 : w.heap.size ≤ wr.heap.size := hbw.size
      obtain ⟨w6, rfl⟩ : ∃ w6 : World, w6 = wr := ⟨_, rfl⟩
      have hgl : g < w.heap.size := H.out.hd.lt
      have HVL : Hid (∀ k, V.ownBlock = some k → k < w.heap.size) := lh fun k hk => (H.out.own.lt k hk).2
      obtain ⟨im, hmi, hmz0, hmz1, hmz2⟩ := info_parts i_moved
      have HIM := lh (And.intro hmi (And.intro hmz0 (And.intro hmz1 hmz2)))
      have HO6' := lh hown
      clear hul hown hbr hbw hol HBR HUP HR15 HRS hmi hmz0 hmz1 hmz2
      go_wp2_with fail
      go_loopw [22, 82] (fun vl i wr => ∃ (j : Nat) (L : List Mv), i = .int .i64 (j : Int) ∧ j ≤ ms.length ∧ L.length = j ∧ L.map mvKey = (ms.take j).map (mvFor (Mm.one s) s.base ms) ∧ wr.ownsRow w6.heap.size 139 6 vl j (L.flatMap Mv.cells) ∧ MvR wr w6.heap.size L ∧ Below w6.heap.size w6 wr) (fun _ i _ => ms.length - (intOf i).toNat)
      case atStart => exact ⟨0, [], rfl, Nat.zero_le _, rfl, rfl, World.ownsRow_nil _ _ _ _, (fun x hx => by cases hx), Below.refl _ _⟩
      case round =>
       obtain ⟨j, L, rfl, hj, hLj, hkey, hown, hmv, hbr⟩ := hrel
       have HKEY := lh hkey
       have HL := lh hown
       have HMV := lh hmv
       have HBR := lh hbr
       have hbs := hbr.size
       obtain ⟨Al, cl, rfl, hcl⟩ := own_shape hown
       by_cases hlt : j < ms.length
       ·have t1 : ms[j]? = some ms[j] := List.getElem?_eq_getElem hlt
        obtain ⟨ba, oa, hA1, _, hc1'⟩ := (own_sl (own_local HR16.out fun k hk => hbr.block k (HR16.out.lt k hk).2)).get hlt
        have e1 : wr.cell? ⟨ba, oa + j, none⟩ = some (.int .i64 ms[j]) := hc1' j _ (ints_get t1)
        have hobj := (Spc.objs_obj (HPL.out.ob _ (List.getElem_mem hlt))).1
        have hrga := HMRG.out _ (List.getElem_mem hlt)
        have htk : (ms.take (j + 1)).map (mvFor (Mm.one s) s.base ms) = (ms.take j).map (mvFor (Mm.one s) s.base ms) ++ [mvFor (Mm.one s) s.base ms ms[j]] := by rw [List.take_add_one, t1, List.map_append]; rfl
        generalize ms[j] = a at t1 e1 hobj hrga htk
        cases hA1
        have HTK := lh htk
        have HOB := lh hobj
        have hjc : j < c1 := by omega
        have hbw := HBW.out.trans (hbr.mono hwr6)
        have hup := HUP6.out.below hbr
        have HUPR := lh hup
        have HSP := lh (H.out.below hbw)
        have hbws := hbw.size
        have cH := headerAt_ok (H.out.below hbw) hobj.ok
        obtain ⟨_, v, _, _, hv, hvz⟩ := hobj.vals
        have hid' := hobj.id hv
        have hvu : U64 v := HSP.out.ok.at_u hv
        have HCL : Hid (∀ w9 : World, Below wr.heap.size wr w9 → Calls Tryz.prog 47 #[.pointer (some ⟨g, 0, none⟩), .int .i64 (a + 1)] w9 fun e w' => e = .returned (.tuple #[.int .u64 v, .int .i64 0]) ∧ Below w9.heap.size w9 w') := lh fun w9 hb => SLoad_val (HSP.out.below hb) hv
        have HCI : Hid (∀ w9 : World, Calls Tryz.prog 86 #[.int .u64 v] w9 fun e w' => e = .returned (.agg #[.int .i64 (dI v).m, .int .i64 (dI v).s]) ∧ Below w9.heap.size w9 w') := lh fun w9 => DecodeID_any hvu w9
        have HID := lh hid'
        obtain ⟨hd, hhd⟩ : ∃ hd, hd = ((Mm.one s).hdr a).2 := ⟨_, rfl⟩
        rw [← hhd] at cH
        have HHD := lh hhd
        clear hup hbw hobj hid' hv hvz hvu hhd htk t1 hc1' hbr hmv hown hkey
        go_wp2_with fail
        refine cH.mono ?_
        rintro e w7 ⟨rfl, hb⟩
        have hal : Below w7.heap.size w7 (w7.alloc (.cells #[.int .i64 hd.k, .int .i64 hd.c, .int .i64 hd.f, .int .i64 0, .int .i64 0, .slice none 0 0] 139)) := (Below.refl _ _).alloc (Nat.le_refl _) _
        have HX7 : Hid (Bk (w7.alloc (.cells #[.int .i64 hd.k, .int .i64 hd.c, .int .i64 hd.f, .int .i64 0, .int .i64 0, .slice none 0 0] 139)) w7.heap.size 139 #[.int .i64 hd.k, .int .i64 hd.c, .int .i64 hd.f, .int .i64 0, .int .i64 0, .slice none 0 0]) := lh (Bk.new _ _ _)
        have HB8 := lh (hb.trans (hal.mono hb.size))
        have hw7 : wr.heap.size ≤ w7.heap.size := hb.size
        have cL := HCL.out _ HB8.out
        clear hb cH hal
        go_wp2_with fail
        generalize (w7.alloc (.cells #[.int .i64 hd.k, .int .i64 hd.c, .int .i64 hd.f, .int .i64 0, .int .i64 0, .slice none 0 0] 139)) = w8 at HX7 HB8 cL ⊢
        obtain ⟨xb, hxb⟩ : ∃ xb, xb = w7.heap.size := ⟨_, rfl⟩
        rw [← hxb] at HX7 hw7 ⊢
        clear hxb
        refine cL.mono ?_
        rintro e w9 ⟨rfl, hb⟩
        have HX9 := lh (HX7.out.below hb HX7.out.lt)
        have HB9 := lh (HB8.out.trans (hb.mono HB8.out.size))
        clear hb cL HX7 HB8 HCL
        go_wp2_with fail
        refine (HCI.out _).mono ?_
        rintro e w10 ⟨rfl, hb⟩
        have HX10 := lh (HX9.out.below hb HX9.out.lt)
        have HB10 := lh (HB9.out.trans (hb.mono HB9.out.size))
        have c3 : w10.cell? ⟨xb, 3, none⟩ = some (.int .i64 0) := HX10.out.cell 3
        have c4 : w10.cell? ⟨xb, 4, none⟩ = some (.int .i64 0) := HX10.out.cell 4
        have f3 : w10.frozen? ⟨xb, 3, none⟩ = false := HX10.out.free 3
        have f4 : w10.frozen? ⟨xb, 4, none⟩ = false := HX10.out.free 4
        obtain ⟨iid, hiid⟩ : ∃ iid, iid = dI v := ⟨_, rfl⟩
        rw [← hiid] at HID ⊢
        clear hb HX9 HB9 HCI hiid
        go_wp2_with fail
        obtain ⟨wo, rfl⟩ : ∃ wo : World, wo = wr := ⟨_, rfl⟩
        obtain ⟨pl, hpl⟩ : ∃ pl, pl = (Mm.one s).pay a := ⟨_, rfl⟩
        have HPLY := lh hpl
        have hvh := Mm.hdr_valid HOB.out.ok
        rw [← HHD.out] at hvh
        have hwg := wH_ge hvh
        have hwb := wH_bound hd
        have hpln : (pl.length : Int) = wH hd - 2 := by rw [hpl, pay_len, ← HHD.out]; omega
        have HVH := lh hvh
        have hb11 : Below wo.heap.size wo ((w10.setCell ⟨xb, 3, none⟩ (.int .i64 iid.m)).setCell ⟨xb, 4, none⟩ (.int .i64 iid.s)) := (HB10.out.setCell (p := ⟨xb, 3, none⟩) hw7 _).setCell (p := ⟨xb, 4, none⟩) hw7 _
        have HB11 := lh hb11
        have hx11 : Bk ((w10.setCell ⟨xb, 3, none⟩ (.int .i64 iid.m)).setCell ⟨xb, 4, none⟩ (.int .i64 iid.s)) xb 139 #[.int .i64 hd.k, .int .i64 hd.c, .int .i64 hd.f, .int .i64 iid.m, .int .i64 iid.s, .slice none 0 0] := (HX10.out.set 3 (.int .i64 iid.m)).set 4 (.int .i64 iid.s)
        have HX11 := lh hx11
        clear hb11 hx11 hvh hpl HB10 HX10 c3 c4 f3 f4
        go_loopw [28] (fun k wr => ∃ (m : Nat) (vp : Value), k = .int .i64 ((m : Int) + 2) ∧ m ≤ pl.length ∧ Bk wr xb 139 #[.int .i64 hd.k, .int .i64 hd.c, .int .i64 hd.f, .int .i64 iid.m, .int .i64 iid.s, vp] ∧ wr.ownsRow wo.heap.size 51 1 vp m (wds (pl.take m)) ∧ Below wo.heap.size wo wr) (fun k _ => pl.length + 2 - (intOf k).toNat)
        case atStart => exact ⟨0, _, rfl, Nat.zero_le _, HX11.out, World.ownsRow_nil _ _ _ _, HB11.out⟩
        case round =>
         --L4B
         obtain ⟨m, vp, rfl, hm, hx, hpo, hbq⟩ := hrel
         obtain ⟨Ap, cp, rfl, hcp⟩ := own_shape hpo
         have HX := lh hx
         have HPO := lh hpo
         have HBQ := lh hbq
         have hbqs := hbq.size
         have HSPR := lh (HSP.out.below hbq)
         have cS := csize_ok HSPR.out HOB.out.ok
         rw [← HHD.out] at cS
         by_cases hlt2 : m < pl.length
         ·have hlt3 : (m : Int) + 2 < wH hd := by omega
          obtain ⟨y, hy⟩ := HOB.out.word (k := 2 + (m : Int)) (by omega) (by rw [← HHD.out]; omega)
          have hpy := HOB.out.pay (k := m) (by rw [← HHD.out]; omega) hy
          rw [← HPLY.out] at hpy
          have htk : pl.take (m + 1) = pl.take m ++ [y] := by rw [List.take_add_one, hpy]; rfl
          have HTK2 := lh htk
          rw [show a + (2 + (m : Int)) = a + ((m : Int) + 2) by omega] at hy
          have HY := lh hy
          have hmm2 : (m : Int) ≤ 32 := by omega
          clear hx hpo hbq hpy htk hy
          go_wp2_with fail
          refine cS.mono ?_
          rintro e w12 ⟨rfl, hb⟩
          have HSP12 := lh (HSPR.out.below hb)
          have HX12 := lh (HX.out.below hb HX.out.lt)
          have HPO12 := lh (own_local HPO.out (w' := w12) fun k hk => hb.block k (HPO.out.lt k hk).2)
          have HB12 := lh (HBQ.out.trans (hb.mono hbqs))
          clear hb cS
          go_wp2_with fail
          refine (SLoad_val HSP12.out HY.out).mono ?_
          rintro e w13 ⟨rfl, hb⟩
          have HX13 := lh (HX12.out.below hb HX12.out.lt)
          have HPO13 := lh (own_local HPO12.out (w' := w13) fun k hk => hb.block k (HPO12.out.lt k hk).2)
          have HB13 := lh (HB12.out.trans (hb.mono HB12.out.size))
          have hw13 := HB13.out.size
          have c5 : w13.cell? ⟨xb, 5, none⟩ = some (.slice Ap m cp) := HX13.out.cell 5
          have hxl := HX13.out.lt
          clear hb HX12 HPO12 HB12 HSP12
          go_wp2_with (at_builtin; refine wpList_append_own_at _ rfl (.tmp 116) (.tmp 118) 28 rfl wo.heap.size 51 i0 (.int .u64 0) 1 8 Tryz.underlying28 HI.out.1 HI.out.2.1 HI.out.2.2.1 HI.out.2.2.2 rfl (by decide) _ m _ rfl (HPO13.out.alloc _) ⟨w13.heap.size, 0, none⟩ 1 1 [.int .u64 y] rfl rfl (cell_one_new _ _ _) (by simp [Value.oneCell']) (by unfold maxLen; omega) (by omega) (by simp; omega) ?_; intro v14 w14 ho14 hg14 _ hl14; have HO14 := lh ho14; have HG14 := lh hg14; have hx14 := (HX13.out.alloc (.cells #[.int .u64 y] 51)).grown hg14 (fun e => ownRow_bk (HPO13.out.alloc (.cells #[.int .u64 y] 51)) (HX13.out.alloc _) (by decide) e.symm); have HX14 := lh hx14; have c5' : w14.cell? ⟨xb, 5, none⟩ = some (.slice Ap m cp) := hx14.cell 5; have f5' : w14.frozen? ⟨xb, 5, none⟩ = false := hx14.free 5; obtain ⟨A14, c14, rfl, hc14⟩ := own_shape ho14; clear ho14 hg14 hl14 hx14)
          go_roundw
          case rel =>
           have hb14 : Below wo.heap.size wo w14 := (HB13.out.alloc hw13 _).grown HG14.out (by simp; omega) (fun k hk => (HPO13.out.lt k hk).1)
           refine ⟨m + 1, .slice A14 (m + 1) c14, by go_num, by omega, HX14.out.set 5 _, ?_, hb14.setCell (p := ⟨xb, 5, none⟩) hw7 _⟩
           rw [HTK2.out, show wds (pl.take m ++ [y]) = wds (pl.take m) ++ [.int .u64 y] by simp [wds]]
           exact own_local HO14.out fun k hk => Below.heap_setCell _ _ _ _ fun e => ownRow_bk HO14.out HX14.out (by decide) (by rw [hk]; exact congrArg some e)
          case measure => simp [intOf]; omega
         ·obtain rfl : m = pl.length := by omega
          rw [List.take_length] at hpo
          have hlt3 : ¬ ((pl.length : Int) + 2 < wH hd) := by omega
          have HPO := lh hpo
          have c0 : wr.cell? ⟨xb, 0, none⟩ = some (.int .i64 hd.k) := hx.cell 0
          have c1' : wr.cell? ⟨xb, 1, none⟩ = some (.int .i64 hd.c) := hx.cell 1
          have c2' : wr.cell? ⟨xb, 2, none⟩ = some (.int .i64 hd.f) := hx.cell 2
          have c5 : wr.cell? ⟨xb, 5, none⟩ = some (.slice Ap pl.length cp) := hx.cell 5
          clear hx hpo hbq
          go_wp2_with fail
          refine cS.mono ?_
          rintro e w12 ⟨rfl, hb⟩
          have HX12 := lh (HX.out.below hb HX.out.lt)
          have HPO12 := lh (own_local HPO.out (w' := w12) fun k hk => hb.block k (HPO.out.lt k hk).2)
          have hb12 := HBQ.out.trans (hb.mono hbqs)
          have HB12 := lh hb12
          have hw12 := hb12.size
          have c0 : w12.cell? ⟨xb, 0, none⟩ = some (.int .i64 hd.k) := HX12.out.cell 0
          have c1' : w12.cell? ⟨xb, 1, none⟩ = some (.int .i64 hd.c) := HX12.out.cell 1
          have c2' : w12.cell? ⟨xb, 2, none⟩ = some (.int .i64 hd.f) := HX12.out.cell 2
          have c5 : w12.cell? ⟨xb, 5, none⟩ = some (.slice Ap pl.length cp) := HX12.out.cell 5
          have cF := cfields_any (HUPR.out.below hb12) HVH.out (by have := hwg.2; omega) HPO12.out (fun x hx => by rw [HPLY.out] at hx; exact pay_u64 H.out.u a x hx) (fun k hk e => by have h1 := HVL.out k hk; have h2 := (HPO12.out.lt k e).1; omega) (by omega)
          unfold Hdr.val at cF
          clear hb hb12 cS
          go_wp2_with fail
          refine cF.mono ?_
          rintro e w13 ⟨rfl, hpo, hk⟩
          have HPO13 := lh hpo
          have hx13 := HX12.out.kp hk (fun e => ownRow_bk HPO12.out HX12.out (by decide) e)
          have HX13 := lh hx13
          have HB13 := lh (hk.toBelow HB12.out hw12 (fun k e => (HPO12.out.lt k e).1))
          have c0 : w13.cell? ⟨xb, 0, none⟩ = some (.int .i64 hd.k) := hx13.cell 0
          have c1' : w13.cell? ⟨xb, 1, none⟩ = some (.int .i64 hd.c) := hx13.cell 1
          have c2' : w13.cell? ⟨xb, 2, none⟩ = some (.int .i64 hd.f) := hx13.cell 2
          have c3' : w13.cell? ⟨xb, 3, none⟩ = some (.int .i64 iid.m) := hx13.cell 3
          have c4' : w13.cell? ⟨xb, 4, none⟩ = some (.int .i64 iid.s) := hx13.cell 4
          have c5 : w13.cell? ⟨xb, 5, none⟩ = some (.slice Ap pl.length cp) := hx13.cell 5
          have HL13 := lh (own_local HL.out (w' := w13) fun k hk => HB13.out.block k (HL.out.lt k hk).2)
          have hw13 := HB13.out.size
          clear hpo hk hx13 cF HX12 HPO12 HB12
          go_wp2_with (at_builtin; refine wpList_append_own_at _ rfl (.tmp 127) (.tmp 129) 136 rfl w6.heap.size 139 im (.agg #[.int .i64 0, .int .i64 0, .int .i64 0, .int .i64 0, .int .i64 0, .slice none 0 0]) 6 64 Tryz.underlying136 HIM.out.1 HIM.out.2.1 HIM.out.2.2.1 HIM.out.2.2.2 rfl (by decide) _ j _ rfl (HL13.out.alloc _) ⟨w13.heap.size, 0, none⟩ 1 1 [.int .i64 hd.k, .int .i64 hd.c, .int .i64 hd.f, .int .i64 iid.m, .int .i64 iid.s, .slice Ap pl.length cp] rfl rfl (cells_new w13 139 [.int .i64 hd.k, .int .i64 hd.c, .int .i64 hd.f, .int .i64 iid.m, .int .i64 iid.s, .slice Ap pl.length cp]) (by simp [Value.oneCell']) (by unfold maxLen; omega) (by omega) (by simp; omega) ?_; intro v14 w14 ho14 hg14 _ hl14; have HO14 := lh ho14; have HG14 := lh hg14; clear ho14 hg14 hl14)
          go_roundw
          case rel =>
           have hal13 : Below w13.heap.size w13 (w13.alloc (.cells #[.int .i64 hd.k, .int .i64 hd.c, .int .i64 hd.f, .int .i64 iid.m, .int .i64 iid.s, .slice Ap pl.length cp] 139)) := (Below.refl _ _).alloc (Nat.le_refl _) _
           have hne : ∀ k, (∃ cur, Bk w13 k 51 cur) → some k ≠ (Value.slice Al j cl).ownBlock := fun k ⟨cur, hk⟩ e => ownRow_bk HL13.out hk (by decide) e.symm
           have hmov : ∀ {B n : Nat} {v : Value} {xs : List Value}, w13.ownsRow B 51 1 v n xs → w14.ownsRow B 51 1 v n xs := fun {B n v xs} h => own_local h fun k hk => by
            have h1 := (h.lt k hk).2
            rw [HG14.out.block k (by simp; omega) (hne k (own_bkOf h hk)), Below.heap_alloc _ _ _ h1]
           refine ⟨j + 1, L ++ [⟨hd, iid, updP (Mm.one s) s.base ms hd pl, .slice Ap pl.length cp⟩], by go_num, by omega, by simp [hLj], ?_, ?_, ?_, ?_⟩
           ·rw [List.map_append, HKEY.out, HTK.out, List.map_singleton]
            unfold mvKey mvFor
            rw [payU_eq, ← HHD.out, ← HPLY.out, HID.out.1]
           ·rw [List.flatMap_append, List.flatMap_cons, List.flatMap_nil, List.append_nil]
            exact HO14.out
           ·intro x hx
            rcases List.mem_append.1 hx with hx | hx
            ·exact hmov (own_local (HMV.out x hx) (w' := w13) fun k hk => HB13.out.block k ((HMV.out x hx).lt k hk).2)
            ·rw [List.mem_singleton.1 hx]
             have h1 := hmov HPO13.out
             have h2 := updP_len (Mm.one s) s.base ms hd pl (by have := hwg.2; omega)
             show w14.ownsRow w6.heap.size _ 1 (.slice Ap pl.length cp) (updP (Mm.one s) s.base ms hd pl).length _
             rw [h2]
             exact ownBase h1 hbs
           ·have h1 : Below w6.heap.size w6 w13 := HBR.out.trans (HB13.out.mono hbs)
            exact (h1.alloc h1.size _).grown HG14.out (by have := h1.size; simp; omega) (fun k hk => (HL13.out.lt k hk).1)
          case measure => simp [intOf]; omega
         --L4E
       ·obtain rfl : j = ms.length := by omega
        rw [List.take_length] at hkey
        have hbw := HBW.out.trans (hbr.mono hwr6)
        have HBWR := lh hbw
        have hwr := hbw.size
        have hwords : L.flatMap Mv.words = (s.cmp ms).ws := mv_words _ _ _ L ms hkey
        have hobs : ∀ a ∈ ms, s.Obj a := fun a ha => (Spc.objs_obj (HPL.out.ob a ha)).1
        have hms := movd_sum (Mm.one s) s.base ms ms fun a ha => (hobs a ha).ok
        have hsum := HPL.out.sum
        have hok := mv_oks H.out.u L ms hobs hkey
        rw [← mv_words (Mm.one s) s.base ms L ms hkey] at hms
        have hown2 := hown
        rw [← hLj] at hown2
        have cRb := rebuild_any (A := Al) (c := cl) (H.out.below hbw) (by have := HBw.out; omega) (own_sl hown2) hmv (by omega) (fun x hx k hk e => by
          have h1 := ((hmv x hx).lt k hk).1
          rcases e with e | e
          ·omega
          ·have := HVL.out k e; omega) (fun b' o' e1 e2 => by
          subst e1
          have h1 := (hown.lt b' rfl).1
          rcases e2 with e | e
          ·omega
          ·have := HVL.out b' e; omega) hwz hok (by unfold Spc.top at hsum; omega) (by omega)
        unfold RebP at cRb
        rw [hwords, hLj] at cRb
        have HO := lh (own_local HO6'.out fun k hk => hbr.block k (HO6'.out.lt k hk).2)
        clear hown hown2 hmv hbr hbw hwords hobs hms hsum hok hkey
        go_wp2_with fail
        refine cRb.mono ?_
        rintro e w16 ⟨rfl, V', hsp, hvo, hk⟩
        have HSP' := lh hsp
        have HVO' := lh hvo
        have HK' := lh hk
        clear hsp hvo hk cRb
        go_wp2_with fail
        go_ret3
        refine HQS.out out (.slice Ao out.length co) V' _ HUL.out (ownBase (own_local HO.out fun k hk => HK'.out.block k (HO.out.lt k hk).2 fun e => ?_) hw5') HSP'.out (fun k hk => (HVO'.out k hk).imp id fun h => by omega) (fun k hk hk2 => ?_) ((Kp.of_below HBWR.out).trans HK'.out fun _ _ e => e)
        ·have h1 := (HO.out.lt k hk).1
         rcases e with e | e
         ·omega
         ·have := HVL.out k e; omega
        ·have h1 := HO.out.lt k hk
         rcases HVO'.out k hk2 with h | h
         ·have := HVL.out k h; omega
         ·omega
end
end Go.Proofs.YtjpaogapclfajaaGreat
