/- Law 12: CompactionWalks. (printed by gen/walks.py) -/
import Derived.Test.YtjpaogapclfajaaGreatBa31
import Derived.Test.YtjpaogapclfajaaGreatBaTgt
namespace Go.Proofs.YtjpaogapclfajaaGreat
set_option linter.unusedVariables false
set_option linter.unusedSimpArgs false
set_option linter.unusedSectionVars false
open Go.RowKit Go.Sort
attribute [local go_sem] Oper.semAt_some onlyN_normal
set_option maxRecDepth 100000
section
variable {w : World} {Al A1 A2 : Option Addr} {n cl n1 c1 n2 c2 : Nat}
theorem walks_big (h : ¬ (n ≤ 40 ∧ n1 ≤ 10 ∧ n2 ≤ 10)) : Calls Tryz.prog 11 #[.slice Al n cl, .slice A1 n1 c1, .slice A2 n2 c2] w fun e w' => e = .returned (.bool true) ∧ Below w.heap.size w w' := by
 have cF := few_any (w := w) (Al := Al) (A1 := A1) (A2 := A2) (n := n) (cl := cl) (n1 := n1) (c1 := c1) (n2 := n2) (c2 := c2)
 rw [decide_eq_false h] at cF
 have cA := awake12_any (w := w)
 clear h
 go_enter Tryz.func11, Tryz.ntmps11
 go_wp2_with fail
 refine cF.mono ?_
 rintro e w1 ⟨rfl, rfl⟩
 go_wp2_with fail
 refine cA.mono ?_
 rintro e w1 ⟨rfl, hb1⟩
 have HB1 := Lib.hid hb1
 clear hb1 cA cF
 go_wp2_with fail
 go_ret
 exact ⟨rfl, HB1.out⟩
end
section
variable {w : World} {l : List Op1} {Al : Option Addr} {cl : Nat} {ch wk : List Int} {A1c A2c : Option Addr} {c1 c2 : Nat}
set_option maxHeartbeats 16000000 in
theorem walks_main (hl : Op1s w Al l) (hcl : l.length ≤ cl) (hn : l.length ≤ 40) (h1 : IS w ch A1c c1) (hr1 : ∀ x ∈ ch, -9223372036854775808 ≤ x ∧ x ≤ 9223372036854775807) (hn1 : ch.length ≤ 10) (h2 : IS w wk A2c c2) (hr2 : ∀ x ∈ wk, -9223372036854775808 ≤ x ∧ x ≤ 9223372036854775807) (hn2 : wk.length ≤ 10) : Calls Tryz.prog 11 #[.slice Al l.length cl, .slice A1c ch.length c1, .slice A2c wk.length c2] w fun e w' => e = .returned (.bool true) ∧ Below w.heap.size w w' := by
 have cF := few_any (w := w) (Al := Al) (A1 := A1c) (A2 := A2c) (n := l.length) (cl := cl) (n1 := ch.length) (c1 := c1) (n2 := wk.length) (c2 := c2)
 rw [decide_eq_true ⟨hn, hn1, hn2⟩] at cF
 have cB := build12_any hl hcl hn h1 hr1 hn1 h2 hr2 hn2
 have cA := fun w => awake12_any (w := w)
 clear hl hcl h1 hr1 h2 hr2
 go_enter Tryz.func11, Tryz.ntmps11
 go_wp2_with fail
 refine cF.mono ?_
 rintro e w0 ⟨rfl, rfl⟩
 go_wp2_with fail
 refine cB.mono ?_
 rintro e w2 hbp
 unfold Bd12P at hbp
 obtain ⟨q, hq⟩ : ∃ q, q = bld1 l := ⟨_, rfl⟩
 rw [← hq] at hbp
 obtain ⟨ra, hra⟩ : ∃ ra, ra = rts1 q.2 ch := ⟨_, rfl⟩
 obtain ⟨rk, hrk⟩ : ∃ rk, rk = rts1 q.2 wk := ⟨_, rfl⟩
 rw [← hra, ← hrk] at hbp
 clear hq hra hrk cB cF
 cases hm : (Mm.one q.1.old).marks ra with
 | none =>
  rw [hm] at hbp
  obtain ⟨⟨y0, y1, y2, y3, y4, y5, y6, y7, y8, y9, ya, yb, rfl⟩, hb⟩ := hbp
  have HB := Lib.hid hb
  clear hm hb
  go_wp2_with fail
  refine (cA _).mono ?_
  rintro e w3 ⟨rfl, hb3⟩
  have HB3 := Lib.hid hb3
  clear hb3
  go_wp2_with fail
  go_ret
  exact ⟨rfl, HB.out.trans ((((Below.refl _ _).alloc (Nat.le_refl _) _).trans (HB3.out.mono (by simp))).mono HB.out.size)⟩
 | some pr =>
  obtain ⟨sg, wl0⟩ := pr
  rw [hm] at hbp
  dsimp only at hbp
  obtain ⟨g, V, A1, e1, gm, bm, Am, cm, Ar, cr, Aw, cw, rfl, hen⟩ := hbp
  obtain ⟨wl, hwl⟩ : ∃ wl, wl = (Mm.one q.1.old).kpx sg wl0 rk := ⟨_, rfl⟩
  rw [← hwl] at hen ⊢
  obtain ⟨s, hs⟩ : ∃ s, s = q.1.old := ⟨_, rfl⟩
  rw [← hs] at hen ⊢
  obtain ⟨ms, hms⟩ : ∃ ms, ms = srtI (sg ++ wl) := ⟨_, rfl⟩
  rw [← hms]
  have HEN := Lib.hid hen
  have HMS := Lib.hid hms
  clear hm hwl hs hms hen
  go_upto_region 6 with fail
  have hbx : Below w2.heap.size w2 (w2.alloc (.cells #[.pointer (some ⟨g, 0, none⟩), .int .i64 s.base, .int .i64 s.limit, .slice A1 s.ws.length e1, .pointer (some ⟨gm, 0, none⟩), .slice Am ms.length cm, .slice Ar ra.length cr, .slice Aw rk.length cw] 64)) := (Below.refl _ _).alloc (Nat.le_refl _) _
  have HT : Hid (Bk (w2.alloc (.cells #[.pointer (some ⟨g, 0, none⟩), .int .i64 s.base, .int .i64 s.limit, .slice A1 s.ws.length e1, .pointer (some ⟨gm, 0, none⟩), .slice Am ms.length cm, .slice Ar ra.length cr, .slice Aw rk.length cw] 64)) w2.heap.size 64 #[.pointer (some ⟨g, 0, none⟩), .int .i64 s.base, .int .i64 s.limit, .slice A1 s.ws.length e1, .pointer (some ⟨gm, 0, none⟩), .slice Am ms.length cm, .slice Ar ra.length cr, .slice Aw rk.length cw]) := Lib.hid (Bk.new _ _ _)
  have HE3 := Lib.hid (HEN.out.below hbx)
  have hgt : w.heap.size ≤ w2.heap.size := HEN.out.bl.size
  clear hbx HEN
  generalize w2.alloc (.cells #[.pointer (some ⟨g, 0, none⟩), .int .i64 s.base, .int .i64 s.limit, .slice A1 s.ws.length e1, .pointer (some ⟨gm, 0, none⟩), .slice Am ms.length cm, .slice Ar ra.length cr, .slice Aw rk.length cw] 64) = w3 at *
  generalize w2.heap.size = gt at *
  have cP := HE3.out.plan
  rw [← HMS.out] at cP
  unfold PlanP at cP
  have d0 : w3.cell? ⟨gt, 0, none⟩ = some (.pointer (some ⟨g, 0, none⟩)) := HT.out.cell 0
  have d4 : w3.cell? ⟨gt, 4, none⟩ = some (.pointer (some ⟨gm, 0, none⟩)) := HT.out.cell 4
  cases hpl : s.plan ms with
  | none =>
   rw [hpl] at cP
   dsimp only at cP
   have HPL := Lib.hid hpl
   clear hpl
   go_wp2_with fail
   refine cP.mono ?_
   rintro e w4 ⟨hb4, rfl⟩
   have HE4 := Lib.hid (HE3.out.below hb4)
   have HT4 := Lib.hid (HT.out.below hb4 HT.out.lt)
   have HB4 := Lib.hid hb4
   clear cP d0 d4 hb4
   have cC := HE4.out.compact HE4.out.rt HE4.out.rc HE4.out.ru (by have := HE4.out.rl; omega)
   rw [← HMS.out] at cC
   unfold CmpP at cC
   rw [HPL.out] at cC
   dsimp only at cC
   have d0 : w4.cell? ⟨gt, 0, none⟩ = some (.pointer (some ⟨g, 0, none⟩)) := HT4.out.cell 0
   have d4 : w4.cell? ⟨gt, 4, none⟩ = some (.pointer (some ⟨gm, 0, none⟩)) := HT4.out.cell 4
   have d6 : w4.cell? ⟨gt, 6, none⟩ = some (.slice Ar ra.length cr) := HT4.out.cell 6
   go_wp2_with fail
   refine cC.mono ?_
   rintro e w5 ⟨rfl, hb5⟩
   have HE5 := Lib.hid (HE4.out.below hb5)
   clear cC hb5 d0 d4 d6
   go_wp2_with fail
   refine (cA _).mono ?_
   rintro e w6 ⟨rfl, hb6⟩
   have HB6 := Lib.hid hb6
   clear hb6
   go_wp2_with fail
   go_ret
   exact ⟨rfl, HE5.out.bl.trans (HB6.out.mono HE5.out.bl.size)⟩
  | some ns =>
   rw [hpl] at cP
   dsimp only at cP
   have HPL := Lib.hid hpl
   clear hpl
   go_wp2_with fail
   refine cP.mono ?_
   rintro e w4 ⟨hb4, v1, v2, rfl, ho1, ho2⟩
   have HE4 := Lib.hid (HE3.out.below hb4)
   have HT4 := Lib.hid (HT.out.below hb4 HT.out.lt)
   have HB4 := Lib.hid hb4
   have HO1 := Lib.hid ho1
   have HO2 := Lib.hid ho2
   clear cP d0 d4 hb4 ho1 ho2
   have hpl2 := Spc.plan_some (by rw [HMS.out]; exact srtI_lt HE4.out.mks.nd) HPL.out
   have HP := Lib.hid hpl2.1
   have HN := Lib.hid hpl2.2
   have HK4 : Hid (∀ a ∈ ms, ((Mm.one s).hdr a).1 = 0 ∧ ((Mm.one s).hdr a).2.k ≠ 4) := Lib.hid fun a ha => HE4.out.mks.hdr a (by rw [HMS.out] at ha; exact (srtI_mem _ a).1 ha)
   have hml : ms.length ≤ 16777216 := by rw [HMS.out, srtI_len]; exact HE4.out.mln
   have HNL : Hid (ns.length = ms.length) := Lib.hid (by rw [hpl2.2, newsL_len])
   have HB0 := Lib.hid HE4.out.b0
   have HL0 := Lib.hid HE4.out.l0
   have HOK := Lib.hid HE4.out.sp.ok
   clear hpl2
   have cC := HE4.out.compact HE4.out.rt HE4.out.rc HE4.out.ru (by have := HE4.out.rl; omega)
   rw [← HMS.out] at cC
   unfold CmpP at cC
   rw [HPL.out, updL_of HE4.out.mks.good.1] at cC
   dsimp only at cC
   have hg3 : g < w3.heap.size := HE3.out.sp.hd.lt
   have HV3 : Hid (∀ k, V.ownBlock = some k → k < w3.heap.size) := Lib.hid fun k hk => (HE3.out.sp.own.lt k hk).2
   have d0 : w4.cell? ⟨gt, 0, none⟩ = some (.pointer (some ⟨g, 0, none⟩)) := HT4.out.cell 0
   have d4 : w4.cell? ⟨gt, 4, none⟩ = some (.pointer (some ⟨gm, 0, none⟩)) := HT4.out.cell 4
   have d6 : w4.cell? ⟨gt, 6, none⟩ = some (.slice Ar ra.length cr) := HT4.out.cell 6
   go_wp2_with fail
   refine cC.mono ?_
   rintro e w5 ⟨v, V', rfl, ho5, hsp, hva, hvv, hkp⟩
   have HC5 := Lib.hid (HE4.out.cpd hsp hkp)
   have HO5 := Lib.hid ho5
   have HT5 : Hid (Bk w5 gt 64 #[.pointer (some ⟨g, 0, none⟩), .int .i64 s.base, .int .i64 s.limit, .slice A1 s.ws.length e1, .pointer (some ⟨gm, 0, none⟩), .slice Am ms.length cm, .slice Ar ra.length cr, .slice Aw rk.length cw]) := Lib.hid (HT4.out.kp hkp fun e => by
    rcases e with e | e
    ·exact Bk.neT HT4.out HE4.out.sp.hd (by decide) e
    ·exact HE4.out.sp.own_ne HT4.out (by decide) e)
   have hne : ∀ k, w3.heap.size ≤ k → ¬ (k = g ∨ V.ownBlock = some k) := fun k hk e => by
    rcases e with e | e
    ·omega
    ·have := HV3.out k e; omega
   have HNE := Lib.hid hne
   have HKP := Lib.hid hkp
   clear cC d0 d4 d6 ho5 hsp hva hvv hkp hne HV3
   have HO25 := Lib.hid (own_local HO2.out (w' := w5) fun k hk => HKP.out.block k (HO2.out.lt k hk).2 (HNE.out k (HO2.out.lt k hk).1))
   obtain ⟨Ay, cy, rfl, hcy⟩ := own_shape HO25.out
   have hsy := Lib.hid (own_sl HO25.out)
   have cO := fun {w9 : World} (hb : Below w5.heap.size w5 w9) => Objects_any (HC5.out.below hb).sp
   simp only [cmp_objs HP.out, ← HN.out] at cO
   have cO1 := cO (Below.refl _ _)
   have HCO := Lib.hid (fun (w9 : World) (hb : Below w5.heap.size w5 w9) => Objects_any (HC5.out.below hb).sp)
   simp only [cmp_objs HP.out, ← HN.out] at HCO
   have d0 : w5.cell? ⟨gt, 0, none⟩ = some (.pointer (some ⟨g, 0, none⟩)) := HT5.out.cell 0
   clear HKP HNE HO5 HO1 HO2 HO25 cO HE4 HT4
   go_wp2_with fail
   refine cO1.mono ?_
   rintro e w6 ⟨v6, rfl, ho6, hb6⟩
   obtain ⟨A6, c6, rfl, hc6⟩ := own_shape ho6
   have HS6 := Lib.hid (own_sl ho6)
   have HB6 := Lib.hid hb6
   clear cO1 ho6 hb6 d0
   go_wp2_with fail
   go_loopw [71] (fun i wr => ∃ j : Nat, i = .int .i64 (j : Int) ∧ j ≤ ns.length ∧ Below w6.heap.size w6 wr) (fun i _ => ns.length - (intOf i).toNat)
   case atStart => exact ⟨0, rfl, Nat.zero_le _, Below.refl _ _⟩
   case round =>
    obtain ⟨j, rfl, hj, hbr⟩ := hrel
    have HBR := Lib.hid hbr
    have hbs := hbr.size
    have HBX := Lib.hid (HB6.out.trans (hbr.mono HB6.out.size))
    have HCR := Lib.hid (HC5.out.below HBX.out)
    have HTR := Lib.hid (HT5.out.below HBX.out HT5.out.lt)
    by_cases hlt : j < ns.length
    ·obtain ⟨b2, o2, rfl, hbl, hcc⟩ := (HS6.out.below hbr).get hlt
     have hlm : j < ms.length := by have := HNL.out; omega
     have t0 : ms[j]? = some ms[j] := List.getElem?_eq_getElem hlm
     have t1 : ns[j]? = some (newA (Mm.one s) s.base ms ms[j]) := by rw [HN.out]; exact newA_get HP.out.nd t0
     have e1' : wr.cell? ⟨b2, o2 + j, none⟩ = some (.int .i64 (newA (Mm.one s) s.base ms ms[j])) := hcc j _ (ints_get t1)
     have hm := List.getElem_mem hlm
     generalize ms[j] = x at e1' t0 t1 hm
     have hch := cmp_hdr HP.out hm
     have hrg := newA_inA HP.out HB0.out HL0.out HOK.out hm
     have hk4 := (HK4.out x hm).2
     have cH := header12_any HCR.out.sp HB0.out HL0.out HCR.out.bl.size (a := newA (Mm.one s) s.base ms x) (by rw [hch]) (by omega)
     rw [hch] at cH
     dsimp only at cH
     generalize newA (Mm.one s) s.base ms x = a at e1' cH
     generalize (Mm.one (s.cmp ms)).idOf a = i at cH
     obtain ⟨hd, hhd⟩ : ∃ hd, hd = ((Mm.one s).hdr x).2 := ⟨_, rfl⟩
     rw [← hhd] at cH hk4
     have hkb : (hd.k == 4) = false := by simp [hk4]
     have hcj : j < c6 := by omega
     have hjI : (j : Int) < (ns.length : Int) := by omega
     have d0 : wr.cell? ⟨gt, 0, none⟩ = some (.pointer (some ⟨g, 0, none⟩)) := HTR.out.cell 0
     clear hbr hcc t0 t1 hm hch hrg hk4 hhd hbl
     go_wp2_with fail
     refine cH.mono ?_
     rintro e w7 ⟨rfl, hb7⟩
     have HB7 := Lib.hid (HBR.out.trans (hb7.mono hbs))
     clear cH hb7 d0 e1'
     go_wp2_with fail
     go_roundw
     case rel => exact ⟨j + 1, by go_num, by omega, (HB7.out.alloc HB7.out.size _).alloc (by simp; have := HB7.out.size; omega) _⟩
     case measure => simp [intOf]; omega
    ·obtain rfl : j = ns.length := by omega
     have hjI : ¬ ((ns.length : Nat) : Int) < (ns.length : Int) := by omega
     have cK := Check_any HCR.out.sp
     have hck : (s.cmp ms).chk = 0 := by unfold Spc.chk; rw [if_pos (cmp_walk2 HP.out)]
     rw [hck] at cK
     have d0 : wr.cell? ⟨gt, 0, none⟩ = some (.pointer (some ⟨g, 0, none⟩)) := HTR.out.cell 0
     clear hbr hck
     go_wp2_with fail
     refine cK.mono ?_
     rintro e w8 ⟨rfl, hb8⟩
     have HB8 := Lib.hid (HBX.out.trans (hb8.mono HBX.out.size))
     have HT8 := Lib.hid (HTR.out.below hb8 HTR.out.lt)
     have cO8 := HCO.out w8 HB8.out
     clear cK hb8 d0
     have d0 : w8.cell? ⟨gt, 0, none⟩ = some (.pointer (some ⟨g, 0, none⟩)) := HT8.out.cell 0
     have d5 : w8.cell? ⟨gt, 5, none⟩ = some (.slice Am ms.length cm) := HT8.out.cell 5
     go_wp2_with fail
     refine cO8.mono ?_
     rintro e w9 ⟨v9, rfl, ho9, hb9⟩
     obtain ⟨A9, c9, rfl, hc9⟩ := own_shape ho9
     have HB9 := Lib.hid (HB8.out.trans (hb9.mono HB8.out.size))
     have cS := Same8_t (l := ns) (m := ns) (c := c9) (d := cy) (by have := HNL.out; omega) hc9 hcy (own_sl ho9) (hsy.out.below HB9.out)
     rw [show eqL ns ns = true from decide_eq_true rfl] at cS
     clear cO8 ho9 hb9 d0 d5
     go_wp2_with fail
     refine cS.mono ?_
     rintro e w10 ⟨rfl, hb10⟩
     have HBF := Lib.hid (HC5.out.below (HB9.out.trans (hb10.mono HB9.out.size))).bl
     clear cS hb10
     go_wp2_with fail
     refine (cA _).mono ?_
     rintro e w11 ⟨rfl, hb11⟩
     have HB11 := Lib.hid hb11
     clear hb11
     go_wp2_with fail
     go_ret
     exact ⟨rfl, HBF.out.trans (HB11.out.mono HBF.out.size)⟩
theorem walks_any (hl : Op1s w Al l) (hcl : l.length ≤ cl) (h1 : IS w ch A1c c1) (hr1 : ∀ x ∈ ch, -9223372036854775808 ≤ x ∧ x ≤ 9223372036854775807) (h2 : IS w wk A2c c2) (hr2 : ∀ x ∈ wk, -9223372036854775808 ≤ x ∧ x ≤ 9223372036854775807) : Calls Tryz.prog 11 #[.slice Al l.length cl, .slice A1c ch.length c1, .slice A2c wk.length c2] w fun e w' => e = .returned (.bool true) ∧ Below w.heap.size w w' := by
 by_cases h : l.length ≤ 40 ∧ ch.length ≤ 10 ∧ wk.length ≤ 10
 ·exact walks_main hl hcl h.1 h1 hr1 h.2.1 h2 hr2 h.2.2
 ·exact walks_big h
end
end Go.Proofs.YtjpaogapclfajaaGreat
