/- Law 12: CompactionRoots. (printed by gen/roots.py) -/
import Derived.Test.YtjpaogapclfajaaGreatBa31
import Derived.Test.YtjpaogapclfajaaGreatBaTgt
namespace Go.Proofs.YtjpaogapclfajaaGreat
set_option linter.unusedVariables false
set_option linter.unusedSimpArgs false
set_option linter.unusedSectionVars false
open Go.RowKit Go.Sort
attribute [local go_sem] Oper.semAt_some onlyN_normal
set_option maxRecDepth 100000
theorem i_id : (Tryz.prog.info? 79).map (fun i => (i.zero, i.size, i.bytes)) = some (some (.agg #[.int .i64 0, .int .i64 0]), 2, 16) := by kernel_rfl
/-- the identity of what a word refers to -/
def idW (m : Mm) (x : Int) : Id := match m.rfr x with
 | some o => tgtI m o
 | none => Id.zero
def idC (l : List Id) : List Value := l.flatMap fun i => [.int .i64 i.m, .int .i64 i.s]
theorem idC_len : ∀ l : List Id, (idC l).length = l.length * 2
 | [] => rfl
 | i :: l => by
  have := idC_len l
  unfold idC at this ⊢
  rw [List.flatMap_cons, List.length_append, List.length_cons, this]
  simp
  omega
theorem idC_get : ∀ (l : List Id) (j : Nat) (i : Id), l[j]? = some i → (idC l)[j * 2]? = some (.int .i64 i.m) ∧ (idC l)[j * 2 + 1]? = some (.int .i64 i.s)
 | [], j, i, h => by cases h
 | x :: l, 0, i, h => by
  simp at h
  subst h
  exact ⟨rfl, rfl⟩
 | x :: l, j + 1, i, h => by
  have ih := idC_get l j i (by simpa using h)
  unfold idC at ih ⊢
  rw [List.flatMap_cons]
  rw [List.getElem?_append_right (by simp; omega), List.getElem?_append_right (by simp; omega)]
  rw [show (j + 1) * 2 - [Value.int .i64 x.m, Value.int .i64 x.s].length = j * 2 by simp; omega, show (j + 1) * 2 + 1 - [Value.int .i64 x.m, Value.int .i64 x.s].length = j * 2 + 1 by simp; omega]
  exact ih
section
variable {w : World} {Al A1 A2 : Option Addr} {n cl n1 c1 n2 c2 : Nat}
theorem roots_big (h : ¬ (n ≤ 40 ∧ n1 ≤ 10 ∧ n2 ≤ 10)) : Calls Tryz.prog 8 #[.slice Al n cl, .slice A1 n1 c1, .slice A2 n2 c2] w fun e w' => e = .returned (.bool true) ∧ Below w.heap.size w w' := by
 have cF := few_any (w := w) (Al := Al) (A1 := A1) (A2 := A2) (n := n) (cl := cl) (n1 := n1) (c1 := c1) (n2 := n2) (c2 := c2)
 rw [decide_eq_false h] at cF
 have cA := awake12_any (w := w)
 clear h
 go_enter Tryz.func8, Tryz.ntmps8
 go_wp2_with fail
 refine cF.mono ?_
 rintro e w1 ⟨rfl, rfl⟩
 go_wp2_with fail
 refine cA.mono ?_
 rintro e w1 ⟨rfl, hb1⟩
 have HB1 := Lib.hid hb1
 clear hb1 cA cF
 go_wp2_with fail
 go_ret
 exact ⟨rfl, HB1.out⟩
end
section
variable {w : World} {l : List Op1} {Al : Option Addr} {cl : Nat} {ch wk : List Int} {A1c A2c : Option Addr} {c1 c2 : Nat}
set_option maxHeartbeats 16000000 in
theorem roots_main (hl : Op1s w Al l) (hcl : l.length ≤ cl) (hn : l.length ≤ 40) (h1 : IS w ch A1c c1) (hr1 : ∀ x ∈ ch, -9223372036854775808 ≤ x ∧ x ≤ 9223372036854775807) (hn1 : ch.length ≤ 10) (h2 : IS w wk A2c c2) (hr2 : ∀ x ∈ wk, -9223372036854775808 ≤ x ∧ x ≤ 9223372036854775807) (hn2 : wk.length ≤ 10) : Calls Tryz.prog 8 #[.slice Al l.length cl, .slice A1c ch.length c1, .slice A2c wk.length c2] w fun e w' => e = .returned (.bool true) ∧ Below w.heap.size w w' := by
 have cF := few_any (w := w) (Al := Al) (A1 := A1c) (A2 := A2c) (n := l.length) (cl := cl) (n1 := ch.length) (c1 := c1) (n2 := wk.length) (c2 := c2)
 rw [decide_eq_true ⟨hn, hn1, hn2⟩] at cF
 have cB := build12_any hl hcl hn h1 hr1 hn1 h2 hr2 hn2
 have cA := fun w => awake12_any (w := w)
 clear hl hcl h1 hr1 h2 hr2
 go_enter Tryz.func8, Tryz.ntmps8
 go_wp2_with fail
 refine cF.mono ?_
 rintro e w0 ⟨rfl, rfl⟩
 go_wp2_with fail
 refine cB.mono ?_
 rintro e w2 hbp
 unfold Bd12P at hbp
 obtain ⟨q, hq⟩ : ∃ q, q = bld1 l := ⟨_, rfl⟩
 rw [← hq] at hbp
 obtain ⟨ra, hra⟩ : ∃ ra, ra = rts1 q.2 ch := ⟨_, rfl⟩
 obtain ⟨rk, hrk⟩ : ∃ rk, rk = rts1 q.2 wk := ⟨_, rfl⟩
 rw [← hra, ← hrk] at hbp
 clear hq hra hrk cB cF
 cases hm : (Mm.one q.1.old).marks ra with
 | none =>
  rw [hm] at hbp
  obtain ⟨⟨y0, y1, y2, y3, y4, y5, y6, y7, y8, y9, ya, yb, rfl⟩, hb⟩ := hbp
  have HB := Lib.hid hb
  clear hm hb
  go_wp2_with fail
  refine (cA _).mono ?_
  rintro e w3 ⟨rfl, hb3⟩
  have HB3 := Lib.hid hb3
  clear hb3
  go_wp2_with fail
  go_ret
  exact ⟨rfl, HB.out.trans ((((Below.refl _ _).alloc (Nat.le_refl _) _).trans (HB3.out.mono (by simp))).mono HB.out.size)⟩
 | some pr =>
  obtain ⟨sg, wl0⟩ := pr
  rw [hm] at hbp
  dsimp only at hbp
  obtain ⟨g, V, A1, e1, gm, bm, Am, cm, Ar, cr, Aw, cw, rfl, hen⟩ := hbp
  obtain ⟨wl, hwl⟩ : ∃ wl, wl = (Mm.one q.1.old).kpx sg wl0 rk := ⟨_, rfl⟩
  rw [← hwl] at hen ⊢
  obtain ⟨s, hs⟩ : ∃ s, s = q.1.old := ⟨_, rfl⟩
  rw [← hs] at hen ⊢
  obtain ⟨ms, hms⟩ : ∃ ms, ms = srtI (sg ++ wl) := ⟨_, rfl⟩
  rw [← hms]
  have HEN := Lib.hid hen
  have HMS := Lib.hid hms
  clear hm hwl hs hms hen
  go_upto_region 6 with fail
  have hbx : Below w2.heap.size w2 (w2.alloc (.cells #[.pointer (some ⟨g, 0, none⟩), .int .i64 s.base, .int .i64 s.limit, .slice A1 s.ws.length e1, .pointer (some ⟨gm, 0, none⟩), .slice Am ms.length cm, .slice Ar ra.length cr, .slice Aw rk.length cw] 64)) := (Below.refl _ _).alloc (Nat.le_refl _) _
  have HT : Hid (Bk (w2.alloc (.cells #[.pointer (some ⟨g, 0, none⟩), .int .i64 s.base, .int .i64 s.limit, .slice A1 s.ws.length e1, .pointer (some ⟨gm, 0, none⟩), .slice Am ms.length cm, .slice Ar ra.length cr, .slice Aw rk.length cw] 64)) w2.heap.size 64 #[.pointer (some ⟨g, 0, none⟩), .int .i64 s.base, .int .i64 s.limit, .slice A1 s.ws.length e1, .pointer (some ⟨gm, 0, none⟩), .slice Am ms.length cm, .slice Ar ra.length cr, .slice Aw rk.length cw]) := Lib.hid (Bk.new _ _ _)
  have HE3 := Lib.hid (HEN.out.below hbx)
  have hgt : w.heap.size ≤ w2.heap.size := HEN.out.bl.size
  clear hbx HEN
  generalize w2.alloc (.cells #[.pointer (some ⟨g, 0, none⟩), .int .i64 s.base, .int .i64 s.limit, .slice A1 s.ws.length e1, .pointer (some ⟨gm, 0, none⟩), .slice Am ms.length cm, .slice Ar ra.length cr, .slice Aw rk.length cw] 64) = w3 at *
  generalize w2.heap.size = gt at *
  obtain ⟨im, him, hz0, hz1, hz2⟩ := info_parts i_id
  have HIM := Lib.hid (And.intro him (And.intro hz0 (And.intro hz1 hz2)))
  have HRT := Lib.hid HE3.out.rt
  have HRL := Lib.hid HE3.out.rl
  have hrc := HE3.out.rc
  have HRU := Lib.hid HE3.out.ru
  have HB0 := Lib.hid HE3.out.b0
  have HL0 := Lib.hid HE3.out.l0
  have HGD := Lib.hid HE3.out.mks.good.1
  clear him hz0 hz1 hz2
  have d6 : w3.cell? ⟨gt, 6, none⟩ = some (.slice Ar ra.length cr) := HT.out.cell 6
  go_wp2_with fail
  clear d6
  go_loopw [10, 45] (fun v i wr => ∃ j : Nat, i = .int .i64 (j : Int) ∧ j ≤ ra.length ∧ wr.ownsRow w3.heap.size 79 2 v j (idC ((ra.take j).map (idW (Mm.one s)))) ∧ Below w3.heap.size w3 wr) (fun _ i _ => ra.length - (intOf i).toNat)
  case atStart => exact ⟨0, rfl, Nat.zero_le _, ⟨rfl, .inl ⟨rfl, rfl⟩⟩, Below.refl _ _⟩
  case round =>
   obtain ⟨j, rfl, hj, hown, hbr⟩ := hrel
   have HBR := Lib.hid hbr
   have hbs := hbr.size
   have HER := Lib.hid (HE3.out.below hbr)
   have HTR := Lib.hid (HT.out.below hbr HT.out.lt)
   have HOW := Lib.hid hown
   obtain ⟨Ai, ci, rfl, hci⟩ := own_shape hown
   have hrl := HRL.out
   by_cases hlt : j < ra.length
   ·obtain ⟨b2, o2, rfl, hbl, hcc⟩ := (HRT.out.below hbr).get hlt
    have t1 : ra[j]? = some ra[j] := List.getElem?_eq_getElem hlt
    have e1' : wr.cell? ⟨b2, o2 + j, none⟩ = some (.int .u64 ra[j]) := hcc j _ (wds_get t1)
    have hxu := HRU.out ra[j] (List.getElem_mem hlt)
    have hgd := HGD.out ra[j] (List.getElem_mem hlt)
    have htk : (ra.take (j + 1)).map (idW (Mm.one s)) = (ra.take j).map (idW (Mm.one s)) ++ [idW (Mm.one s) ra[j]] := by rw [List.take_add_one, t1, List.map_append]; rfl
    generalize ra[j] = x at e1' hxu hgd htk t1
    obtain ⟨o, ho⟩ : ∃ o, (Mm.one s).rfr x = some o := by
     cases h : (Mm.one s).rfr x with
     | none => exact absurd h hgd
     | some o => exact ⟨o, rfl⟩
    have cT := target12_any HER.out.sp HB0.out HL0.out HER.out.bl.size hxu ho
    have hiw : idW (Mm.one s) x = tgtI (Mm.one s) o := by unfold idW; rw [ho]
    obtain ⟨i, hi⟩ : ∃ i, i = tgtI (Mm.one s) o := ⟨_, rfl⟩
    rw [← hi] at cT hiw
    rw [hiw] at htk
    have HTK := Lib.hid htk
    have hcj : j < cr := by omega
    have hjI : (j : Int) < (ra.length : Int) := by omega
    have d0 : wr.cell? ⟨gt, 0, none⟩ = some (.pointer (some ⟨g, 0, none⟩)) := HTR.out.cell 0
    clear hown hbr hcc hxu hgd htk t1 ho hiw hi hbl
    go_wp2_with fail
    refine cT.mono ?_
    rintro e w7 ⟨rfl, hb7⟩
    have HB7 := Lib.hid (HBR.out.trans (hb7.mono hbs))
    have HO7 := Lib.hid (own_local HOW.out (w' := w7) fun k hk => hb7.block k (HOW.out.lt k hk).2)
    have hw7 := HB7.out.size
    clear cT hb7 d0 e1' HOW
    go_wp2_with (at_builtin; refine wpList_append_own_at _ rfl (.tmp 49) (.tmp 54) 77 rfl w3.heap.size 79 im (.agg #[.int .i64 0, .int .i64 0]) 2 16 Tryz.underlying77 HIM.out.1 HIM.out.2.1 HIM.out.2.2.1 HIM.out.2.2.2 rfl (by decide) _ j _ rfl (HO7.out.alloc _) ⟨w7.heap.size, 0, none⟩ 1 1 [.int .i64 i.m, .int .i64 i.s] rfl rfl (cells_new w7 79 [.int .i64 i.m, .int .i64 i.s]) (by simp [Value.oneCell']) (by unfold maxLen; omega) (by omega) (by simp; omega) ?_; intro v8 w8 ho8 hg8 _ hl8; have HO8 := Lib.hid ho8; have HG8 := Lib.hid hg8; clear ho8 hg8 hl8)
    go_roundw
    case rel =>
     refine ⟨j + 1, by go_num, by omega, ?_, ?_⟩
     ·rw [HTK.out]
      unfold idC
      rw [List.flatMap_append, List.flatMap_cons, List.flatMap_nil, List.append_nil]
      exact HO8.out
     ·exact (HB7.out.alloc hw7 _).grown HG8.out (by simp; omega) (fun k hk => (HO7.out.lt k hk).1)
    case measure => simp [intOf]; omega
   ·obtain rfl : j = ra.length := by omega
    have hjI : ¬ ((ra.length : Nat) : Int) < (ra.length : Int) := by omega
    rw [List.take_length] at HOW
    clear hown hbr hlt
    cases hpl : s.plan ms with
    | none =>
     have HPL := Lib.hid hpl
     clear hpl
     have cC := HER.out.compact HER.out.rt HER.out.rc HER.out.ru (by have := HER.out.rl; omega)
     rw [← HMS.out] at cC
     unfold CmpP at cC
     rw [HPL.out] at cC
     dsimp only at cC
     have d0 : wr.cell? ⟨gt, 0, none⟩ = some (.pointer (some ⟨g, 0, none⟩)) := HTR.out.cell 0
     have d4 : wr.cell? ⟨gt, 4, none⟩ = some (.pointer (some ⟨gm, 0, none⟩)) := HTR.out.cell 4
     have d6 : wr.cell? ⟨gt, 6, none⟩ = some (.slice Ar ra.length cr) := HTR.out.cell 6
     go_wp2_with fail
     refine cC.mono ?_
     rintro e w5 ⟨rfl, hb5⟩
     have HE5 := Lib.hid (HER.out.below hb5)
     clear cC hb5 d0 d4 d6
     go_wp2_with fail
     refine (cA _).mono ?_
     rintro e w6 ⟨rfl, hb6⟩
     have HB6 := Lib.hid hb6
     clear hb6
     go_wp2_with fail
     go_ret
     exact ⟨rfl, HE5.out.bl.trans (HB6.out.mono HE5.out.bl.size)⟩
    | some ns =>
     have HPL := Lib.hid hpl
     clear hpl
     have hpl2 := Spc.plan_some (by rw [HMS.out]; exact srtI_lt HER.out.mks.nd) HPL.out
     have HP := Lib.hid hpl2.1
     have HN := Lib.hid hpl2.2
     have HK4 : Hid (∀ a ∈ ms, ((Mm.one s).hdr a).1 = 0 ∧ ((Mm.one s).hdr a).2.k ≠ 4) := Lib.hid fun a ha => HER.out.mks.hdr a (by rw [HMS.out] at ha; exact (srtI_mem _ a).1 ha)
     have hml : ms.length ≤ 16777216 := by rw [HMS.out, srtI_len]; exact HER.out.mln
     have HNL : Hid (ns.length = ms.length) := Lib.hid (by rw [hpl2.2, newsL_len])
     have HB0 := Lib.hid HER.out.b0
     have HL0 := Lib.hid HER.out.l0
     have HOK := Lib.hid HER.out.sp.ok
     clear hpl2
     have cC := HER.out.compact HER.out.rt HER.out.rc HER.out.ru (by have := HER.out.rl; omega)
     rw [← HMS.out] at cC
     unfold CmpP at cC
     rw [HPL.out, updL_of HER.out.mks.good.1] at cC
     dsimp only at cC
     have hg3 : g < w3.heap.size := HE3.out.sp.hd.lt
     have HV3 : Hid (∀ k, V.ownBlock = some k → k < w3.heap.size) := Lib.hid fun k hk => (HE3.out.sp.own.lt k hk).2
     have d0 : wr.cell? ⟨gt, 0, none⟩ = some (.pointer (some ⟨g, 0, none⟩)) := HTR.out.cell 0
     have d4 : wr.cell? ⟨gt, 4, none⟩ = some (.pointer (some ⟨gm, 0, none⟩)) := HTR.out.cell 4
     have d6 : wr.cell? ⟨gt, 6, none⟩ = some (.slice Ar ra.length cr) := HTR.out.cell 6
     go_wp2_with fail
     refine cC.mono ?_
     rintro e w5 ⟨v, V', rfl, ho5, hsp, hva, hvv, hkp⟩
     have HC5 := Lib.hid (HER.out.cpd hsp hkp)
     have HO5 := Lib.hid ho5
     have HT5 : Hid (Bk w5 gt 64 #[.pointer (some ⟨g, 0, none⟩), .int .i64 s.base, .int .i64 s.limit, .slice A1 s.ws.length e1, .pointer (some ⟨gm, 0, none⟩), .slice Am ms.length cm, .slice Ar ra.length cr, .slice Aw rk.length cw]) := Lib.hid (HTR.out.kp hkp fun e => by
      rcases e with e | e
      ·exact Bk.neT HTR.out HER.out.sp.hd (by decide) e
      ·exact HER.out.sp.own_ne HTR.out (by decide) e)
     have hne : ∀ k, w3.heap.size ≤ k → ¬ (k = g ∨ V.ownBlock = some k) := fun k hk e => by
      rcases e with e | e
      ·omega
      ·have := HV3.out k e; omega
     have HNE := Lib.hid hne
     have HKP := Lib.hid hkp
     clear cC d0 d4 d6 ho5 hsp hva hvv hkp hne HV3
     have HI5 := Lib.hid (own_local HOW.out (w' := w5) fun k hk => HKP.out.block k (HOW.out.lt k hk).2 (HNE.out k (HOW.out.lt k hk).1))
     obtain ⟨Av, cv, rfl, hcv⟩ := own_shape HO5.out
     have hlm : (ra.map ((Mm.one s).upd s.base ms)).length = ra.length := List.length_map _
     rw [hlm]
     rw [hlm] at hcv
     have hsv : Sl w5 1 (Av) ra.length (wds (ra.map ((Mm.one s).upd s.base ms))) := by have := own_sl HO5.out; rw [hlm] at this; exact this
     have HSV := Lib.hid hsv
     have hsi := own_sl HI5.out
     have HSI := Lib.hid hsi
     have HRM : Hid (∀ x ∈ ra, ∀ a, (Mm.one s).rfr x = some (some a) → a ∈ ms) := Lib.hid fun x hx a hr => by
      obtain ⟨wl0, h1, hwl⟩ := HER.out.mks.mi
      rw [HMS.out]
      exact (srtI_mem _ a).2 (List.mem_append.2 (.inl ((h1.rch a).2 (.root hx hr))))
     have hcr' := HC5.out.rt
     have HRT5 := Lib.hid hcr'
     clear hlm hsv hsi hcr' HKP HNE HO5 HI5 HOW
     go_wp2_with fail
     go_loopw [83] (fun i wr => ∃ j : Nat, i = .int .i64 (j : Int) ∧ j ≤ ra.length ∧ Below w5.heap.size w5 wr) (fun i _ => ra.length - (intOf i).toNat)
     case atStart => exact ⟨0, rfl, Nat.zero_le _, Below.refl _ _⟩
     case round =>
      obtain ⟨j, rfl, hj, hb6⟩ := hrel
      have HB6 := Lib.hid hb6
      have hbs6 := hb6.size
      have HC6 := Lib.hid (HC5.out.below hb6)
      have HT6 := Lib.hid (HT5.out.below hb6 HT5.out.lt)
      by_cases hlt : j < ra.length
      ·obtain ⟨b2, o2, rfl, hbl, hcc⟩ := (HSV.out.below hb6).get hlt
       obtain ⟨b3, o3, hA3, hbl3, hcc3⟩ := (HRT5.out.below hb6).get hlt
       obtain ⟨b4, o4, hA4, hbl4, hcc4⟩ := (HSI.out.below hb6).get hlt
       subst hA3
       subst hA4
       have t1 : ra[j]? = some ra[j] := List.getElem?_eq_getElem hlt
       have t2 : (ra.map ((Mm.one s).upd s.base ms))[j]? = some ((Mm.one s).upd s.base ms ra[j]) := by rw [List.getElem?_map, t1]; rfl
       have t3 : (ra.map (idW (Mm.one s)))[j]? = some (idW (Mm.one s) ra[j]) := by rw [List.getElem?_map, t1]; rfl
       have t4 := idC_get _ _ _ t3
       have x1 : wr.cell? ⟨b2, o2 + j, none⟩ = some (.int .u64 ((Mm.one s).upd s.base ms ra[j])) := hcc j _ (wds_get t2)
       have x2 : wr.cell? ⟨b3, o3 + j, none⟩ = some (.int .u64 ra[j]) := hcc3 j _ (wds_get t1)
       have x3 : wr.cell? ⟨b4, o4 + j * 2, none⟩ = some (.int .i64 (idW (Mm.one s) ra[j]).m) := hcc4 _ _ t4.1
       have x4 : wr.cell? ⟨b4, o4 + j * 2 + 1, none⟩ = some (.int .i64 (idW (Mm.one s) ra[j]).s) := hcc4 _ _ t4.2
       have hxu := HRU.out ra[j] (List.getElem_mem hlt)
       have hgd := HGD.out ra[j] (List.getElem_mem hlt)
       have hrm := HRM.out ra[j] (List.getElem_mem hlt)
       generalize ra[j] = x at x1 x2 x3 x4 hxu hgd hrm t1 t2 t3 t4
       obtain ⟨o, ho⟩ : ∃ o, (Mm.one s).rfr x = some o := by
        cases h : (Mm.one s).rfr x with
        | none => exact absurd h hgd
        | some o => exact ⟨o, rfl⟩
       have hiw : idW (Mm.one s) x = tgtI (Mm.one s) o := by unfold idW; rw [ho]
       rw [hiw] at x3 x4
       have hyu : U64 ((Mm.one s).upd s.base ms x) := updW_u64 hxu
       have hry := cmp_rfr HP.out HB0.out HL0.out HOK.out (fun a ha => (HK4.out a ha).2) ho
       have cT := fun dd os => Calls.regrown_of (w := wr) (target12_any (HC6.out.sp.below (below_regrown wr dd os)) HB0.out HL0.out (Nat.le_trans HC6.out.bl.size (below_regrown wr dd os).size) hyu hry)
       have hcj : j < cv := by omega
       have hcj3 : j < cr := by omega
       have hcj4 : j < ci := by omega
       have hjI : (j : Int) < (ra.length : Int) := by omega
       have z0 : wr.cell? ⟨gt, 0, none⟩ = some (.pointer (some ⟨g, 0, none⟩)) := HT6.out.cell 0
       have z6 : wr.cell? ⟨gt, 6, none⟩ = some (.slice (some ⟨b3, o3, none⟩) ra.length cr) := HT6.out.cell 6
       have hcs : (o = none ∧ (Mm.one s).upd s.base ms x = x ∧ tgtI (Mm.one (s.cmp ms)) (imgO s ms o) = Id.zero ∧ tgtI (Mm.one s) o = Id.zero) ∨ ∃ i : Id, tgtI (Mm.one (s.cmp ms)) (imgO s ms o) = i ∧ tgtI (Mm.one s) o = i ∧ (i.m == 0) = false := by
        cases o with
        | none =>
         refine .inl ⟨rfl, ?_, rfl, rfl⟩
         unfold Mm.upd Mm.updW
         rw [ho]
         rfl
        | some a =>
         have ha := hrm a ho
         refine .inr ⟨(Mm.one s).idOf a, ?_, rfl, ?_⟩
         ·unfold imgO
          dsimp only
          rw [if_pos (by simpa using ha)]
          exact cmp_id HP.out ha
         ·have := (vI_iff _).1 (HP.out.id ha)
          have h1 : ((Mm.one s).idOf a).m ≠ 0 := by omega
          simpa using h1
       clear hb6 hcc hcc3 hcc4 t1 t2 t3 t4 hxu hgd hrm hiw hyu hry hbl hbl3 hbl4 hlt
       rcases hcs with ⟨rfl, hu, h1, h2⟩ | ⟨i, h1, h2, h0⟩
       ·simp only [hu] at x1 cT
        simp only [h1] at cT
        rw [h2] at x3 x4
        dsimp only [Id.zero] at cT x3 x4
        clear hu h1 h2 ho
        go_upto_region 20 with fail
        have k0 := cell_regrown z0
        have k6 := cell_regrown z6
        have k2 := cell_regrown x2
        have k3 := cell_regrown x3
        have k4 := cell_regrown x4
        refine wp_region_quiet_below (by kernel_rfl) (by kernel_rfl) ?_
        repeat (first | go_big_quiet_step ((go_at_call 42; exact cT _ _)) | quiet_step ((go_at_call 42; exact cT _ _)))
        refine wpQuiet_nil ?_
        intro w7 hw'
        have hb7 := quiet_below_one hw'
        have HB7 := Lib.hid (HB6.out.trans (hb7.mono hbs6))
        clear hw' hb7 cT k0 k6 k2 k3 k4 z0 z6 x1 x2 x3 x4
        go_wp2_with fail
        go_roundw
        case rel => exact ⟨j + 1, by go_num, by omega, HB7.out⟩
        case measure => simp [intOf]; omega
       ·simp only [h1] at cT
        rw [h2] at x3 x4
        generalize (Mm.one s).upd s.base ms x = y at x1 cT
        have h0' : decide (i.m = 0) = false := by simpa using h0
        clear h1 h2 ho
        go_upto_region 20 with fail
        have k0 := cell_regrown z0
        have k6 := cell_regrown z6
        have k2 := cell_regrown x2
        have k3 := cell_regrown x3
        have k4 := cell_regrown x4
        refine wp_region_quiet_below (by kernel_rfl) (by kernel_rfl) ?_
        repeat (first | go_big_quiet_step ((go_at_call 42; exact cT _ _)) | quiet_step ((go_at_call 42; exact cT _ _)))
        refine wpQuiet_nil ?_
        intro w7 hw'
        have hb7 := quiet_below_one hw'
        have HB7 := Lib.hid (HB6.out.trans (hb7.mono hbs6))
        clear hw' hb7 cT k0 k6 k2 k3 k4 z0 z6 x1 x2 x3 x4
        go_wp2_with fail
        go_roundw
        case rel => exact ⟨j + 1, by go_num, by omega, HB7.out⟩
        case measure => simp [intOf]; omega
      ·have hjI : ¬ (j : Int) < (ra.length : Int) := by omega
       clear hb6 hlt
       go_wp2_with fail
       refine (cA _).mono ?_
       rintro e w8 ⟨rfl, hb8⟩
       have HB8 := Lib.hid hb8
       clear hb8
       go_wp2_with fail
       go_ret
       exact ⟨rfl, HC6.out.bl.trans (HB8.out.mono HC6.out.bl.size)⟩
theorem roots_any (hl : Op1s w Al l) (hcl : l.length ≤ cl) (h1 : IS w ch A1c c1) (hr1 : ∀ x ∈ ch, -9223372036854775808 ≤ x ∧ x ≤ 9223372036854775807) (h2 : IS w wk A2c c2) (hr2 : ∀ x ∈ wk, -9223372036854775808 ≤ x ∧ x ≤ 9223372036854775807) : Calls Tryz.prog 8 #[.slice Al l.length cl, .slice A1c ch.length c1, .slice A2c wk.length c2] w fun e w' => e = .returned (.bool true) ∧ Below w.heap.size w w' := by
 by_cases h : l.length ≤ 40 ∧ ch.length ≤ 10 ∧ wk.length ≤ 10
 ·exact roots_main hl hcl h.1 h1 hr1 h.2.1 h2 hr2 h.2.2
 ·exact roots_big h
end
end Go.Proofs.YtjpaogapclfajaaGreat
