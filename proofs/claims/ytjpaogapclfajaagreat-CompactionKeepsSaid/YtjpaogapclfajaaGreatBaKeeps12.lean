/- Law 12: CompactionKeeps. (printed by gen/keeps12.py) -/
import Derived.Test.YtjpaogapclfajaaGreatBa31
import Derived.Test.YtjpaogapclfajaaGreatBaClone
import Derived.Test.YtjpaogapclfajaaGreatBaTgt
namespace Go.Proofs.YtjpaogapclfajaaGreat
set_option linter.unusedVariables false
set_option linter.unusedSimpArgs false
set_option linter.unusedSectionVars false
open Go.RowKit Go.Sort
attribute [local go_sem] Oper.semAt_some onlyN_normal
set_option maxRecDepth 100000
theorem cmp_fld {s : Spc} {ms : List Int} (hP : s.Pl ms) (ho : s.Ok) {a : Int} (ha : a ∈ ms) (h3 : ((Mm.one s).hdr a).2.k ≠ 3) (h4 : ((Mm.one s).hdr a).2.k ≠ 4) {q : Nat} (hq : (q : Int) < ((Mm.one s).hdr a).2.f) : ∃ v, s.at_ (a + 2 + (q : Int)) = some v ∧ v ∈ (Mm.one s).flds a ∧ U64 v ∧ (s.cmp ms).at_ (newA (Mm.one s) s.base ms a + 2 + (q : Int)) = some ((Mm.one s).upd s.base ms v) := by
 have hw := hP.wk ha
 obtain ⟨v, hv⟩ := (Spc.objs_obj (hP.ob a ha)).1.word (k := 2 + (q : Int)) (by omega) (by omega)
 rw [show a + (2 + (q : Int)) = a + 2 + (q : Int) by omega] at hv
 have hvm : ((Mm.one s).at_ (a + 2 + (q : Int))).getD 0 = v := by rw [Mm.one_at, hv]; rfl
 refine ⟨v, hv, by rw [← hvm]; exact flds_get hq, ho.at_u hv, ?_⟩
 have hh := cmp_has hP ha (k := 2 + (q : Int)) (by omega) (by omega)
 rw [show newA (Mm.one s) s.base ms a + (2 + (q : Int)) = newA (Mm.one s) s.base ms a + 2 + (q : Int) by omega] at hh
 obtain ⟨_, _, _, y, _, hy⟩ := Spc.at_some hh
 have hf : ((Mm.one (s.cmp ms)).flds (newA (Mm.one s) s.base ms a))[q]? = (((Mm.one s).flds a).map ((Mm.one s).upd s.base ms))[q]? := by rw [cmp_flds hP ha h3 h4]
 unfold Mm.flds at hf
 rw [cmp_hdr hP ha] at hf
 dsimp only at hf
 rw [List.getElem?_map, List.getElem?_map, List.getElem?_map, List.getElem?_range (by omega)] at hf
 simp only [Option.map_some, hvm] at hf
 rw [Mm.one_at, hy] at hf
 rw [hy]
 exact hf
/-- what the law asks of a field -/
theorem fld_cases {s : Spc} {roots weak sg wl ms : List Int} (hk : Mks s roots weak sg wl) (hmem : ∀ a, a ∈ ms ↔ a ∈ sg ++ wl) (hP : s.Pl ms) {a v : Int} {o : Option Int} (ha : a ∈ ms) (h3 : ((Mm.one s).hdr a).2.k ≠ 3) (hv : v ∈ (Mm.one s).flds a) (ho : (Mm.one s).rfr v = some o) :
  (o = none ∧ (Mm.one s).upd s.base ms v = v ∧ tgtI (Mm.one (s.cmp ms)) (imgO s ms o) = Id.zero ∧ tgtI (Mm.one s) o = Id.zero) ∨
  (∃ i : Id, tgtI (Mm.one (s.cmp ms)) (imgO s ms o) = i ∧ tgtI (Mm.one s) o = i ∧ (i.m == 0) = false) ∨
  (∃ b, o = some b ∧ ms.contains b = false ∧ ((Mm.one s).hdr a).2.k = 2 ∧ (Mm.one s).upd s.base ms v = 0 ∧ tgtI (Mm.one (s.cmp ms)) (imgO s ms o) = Id.zero ∧ tgtI (Mm.one s) o = (Mm.one s).idOf b ∧ (((Mm.one s).idOf b).m == 0) = false) := by
 cases o with
 | none =>
  refine .inl ⟨rfl, ?_, rfl, rfl⟩
  unfold Mm.upd Mm.updW
  rw [ho]
  rfl
 | some b =>
  right
  have hb0 := (Mm.rfr_hdr ho).1
  have hidn : (((Mm.one s).idOf b).m == 0) = false := by
   have h1 : vI ((Mm.one s).idOf b) = true := by
    obtain ⟨x, y, _, _, h3, h4, _⟩ := Spc.hdr_ok (s := (Mm.one s).sp b) (a := b) hb0
    unfold Mm.idOf
    have : (Mm.one s).at_ (b + 1) = some y := by
     rw [Mm.one_at]
     have hh : s.has b = true := by
      have := Mm.hdr_has hb0
      rwa [one_has_iff] at this
     have e : (Mm.one s).sp b = s := by
      unfold Mm.sp Mm.one
      dsimp only
      rw [if_pos hh]
     rw [e] at h3
     exact h3
    rw [this]
    exact dI_ne h4
   have := (vI_iff _).1 h1
   have h2 : ((Mm.one s).idOf b).m ≠ 0 := by omega
   simpa using h2
  by_cases hb : b ∈ ms
  ·refine .inl ⟨(Mm.one s).idOf b, ?_, rfl, hidn⟩
   unfold imgO
   dsimp only
   rw [if_pos (by simpa using hb)]
   exact cmp_id hP hb
  ·right
   have hc : ms.contains b = false := by simpa using hb
   refine ⟨b, rfl, hc, ?_, ?_, ?_, rfl, hidn⟩
   ·by_cases h2 : ((Mm.one s).hdr a).2.k = 2
    ·exact h2
    ·obtain ⟨wl0, h1, hwl⟩ := hk.mi
     have has : a ∈ sg := by
      rcases List.mem_append.1 ((hmem a).1 ha) with h | h
      ·exact h
      ·rw [hwl] at h
       rcases (kpx_mem _ _ a).1 h with h | ⟨_, h, _⟩
       ·exact absurd ((h1.wk a).1 h).1 h3
       ·exact absurd h h3
     have hrb : (Mm.one s).Rch roots b := .step ((h1.rch a).1 has) h3 h2 hv ho
     exact absurd ((hmem b).2 (List.mem_append.2 (.inl ((h1.rch b).2 hrb)))) hb
   ·unfold Mm.upd Mm.updW
    rw [ho]
    dsimp only
    rw [if_neg (by simpa using hb)]
    rfl
   ·unfold imgO
    dsimp only
    rw [if_neg (by simpa using hb)]
    rfl
section
variable {w : World} {Al A1 A2 : Option Addr} {n cl n1 c1 n2 c2 : Nat}
theorem keeps12_big (h : ¬ (n ≤ 40 ∧ n1 ≤ 10 ∧ n2 ≤ 10)) : Calls Tryz.prog 12 #[.slice Al n cl, .slice A1 n1 c1, .slice A2 n2 c2] w fun e w' => e = .returned (.bool true) ∧ Below w.heap.size w w' := by
 have cF := few_any (w := w) (Al := Al) (A1 := A1) (A2 := A2) (n := n) (cl := cl) (n1 := n1) (c1 := c1) (n2 := n2) (c2 := c2)
 rw [decide_eq_false h] at cF
 have cA := awake12_any (w := w)
 clear h
 go_enter Tryz.func12, Tryz.ntmps12
 go_wp2_with fail
 refine cF.mono ?_
 rintro e w1 ⟨rfl, rfl⟩
 go_wp2_with fail
 refine cA.mono ?_
 rintro e w1 ⟨rfl, hb1⟩
 have HB1 := Lib.hid hb1
 clear hb1 cA cF
 go_wp2_with fail
 go_ret
 exact ⟨rfl, HB1.out⟩
end
section
variable {w : World} {l : List Op1} {Al : Option Addr} {cl : Nat} {ch wk : List Int} {A1c A2c : Option Addr} {c1 c2 : Nat}
set_option maxHeartbeats 16000000 in
theorem keeps12_main (hl : Op1s w Al l) (hcl : l.length ≤ cl) (hn : l.length ≤ 40) (h1 : IS w ch A1c c1) (hr1 : ∀ x ∈ ch, -9223372036854775808 ≤ x ∧ x ≤ 9223372036854775807) (hn1 : ch.length ≤ 10) (h2 : IS w wk A2c c2) (hr2 : ∀ x ∈ wk, -9223372036854775808 ≤ x ∧ x ≤ 9223372036854775807) (hn2 : wk.length ≤ 10) : Calls Tryz.prog 12 #[.slice Al l.length cl, .slice A1c ch.length c1, .slice A2c wk.length c2] w fun e w' => e = .returned (.bool true) ∧ Below w.heap.size w w' := by
 have cF := few_any (w := w) (Al := Al) (A1 := A1c) (A2 := A2c) (n := l.length) (cl := cl) (n1 := ch.length) (c1 := c1) (n2 := wk.length) (c2 := c2)
 rw [decide_eq_true ⟨hn, hn1, hn2⟩] at cF
 have cB := build12_any hl hcl hn h1 hr1 hn1 h2 hr2 hn2
 have cA := fun w => awake12_any (w := w)
 clear hl hcl h1 hr1 h2 hr2
 go_enter Tryz.func12, Tryz.ntmps12
 go_wp2_with fail
 refine cF.mono ?_
 rintro e w0 ⟨rfl, rfl⟩
 go_wp2_with fail
 refine cB.mono ?_
 rintro e w2 hbp
 unfold Bd12P at hbp
 obtain ⟨q, hq⟩ : ∃ q, q = bld1 l := ⟨_, rfl⟩
 rw [← hq] at hbp
 obtain ⟨ra, hra⟩ : ∃ ra, ra = rts1 q.2 ch := ⟨_, rfl⟩
 obtain ⟨rk, hrk⟩ : ∃ rk, rk = rts1 q.2 wk := ⟨_, rfl⟩
 rw [← hra, ← hrk] at hbp
 clear hq hra hrk cB cF
 cases hm : (Mm.one q.1.old).marks ra with
 | none =>
  rw [hm] at hbp
  obtain ⟨⟨y0, y1, y2, y3, y4, y5, y6, y7, y8, y9, ya, yb, rfl⟩, hb⟩ := hbp
  have HB := Lib.hid hb
  clear hm hb
  go_wp2_with fail
  refine (cA _).mono ?_
  rintro e w3 ⟨rfl, hb3⟩
  have HB3 := Lib.hid hb3
  clear hb3
  go_wp2_with fail
  go_ret
  exact ⟨rfl, HB.out.trans ((((Below.refl _ _).alloc (Nat.le_refl _) _).trans (HB3.out.mono (by simp))).mono HB.out.size)⟩
 | some pr =>
  obtain ⟨sg, wl0⟩ := pr
  rw [hm] at hbp
  dsimp only at hbp
  obtain ⟨g, V, A1, e1, gm, bm, Am, cm, Ar, cr, Aw, cw, rfl, hen⟩ := hbp
  obtain ⟨wl, hwl⟩ : ∃ wl, wl = (Mm.one q.1.old).kpx sg wl0 rk := ⟨_, rfl⟩
  rw [← hwl] at hen ⊢
  obtain ⟨s, hs⟩ : ∃ s, s = q.1.old := ⟨_, rfl⟩
  rw [← hs] at hen ⊢
  obtain ⟨ms, hms⟩ : ∃ ms, ms = srtI (sg ++ wl) := ⟨_, rfl⟩
  rw [← hms]
  have HEN := Lib.hid hen
  have HMS := Lib.hid hms
  clear hm hwl hs hms hen
  go_upto_region 6 with fail
  have hbx : Below w2.heap.size w2 (w2.alloc (.cells #[.pointer (some ⟨g, 0, none⟩), .int .i64 s.base, .int .i64 s.limit, .slice A1 s.ws.length e1, .pointer (some ⟨gm, 0, none⟩), .slice Am ms.length cm, .slice Ar ra.length cr, .slice Aw rk.length cw] 64)) := (Below.refl _ _).alloc (Nat.le_refl _) _
  have HT : Hid (Bk (w2.alloc (.cells #[.pointer (some ⟨g, 0, none⟩), .int .i64 s.base, .int .i64 s.limit, .slice A1 s.ws.length e1, .pointer (some ⟨gm, 0, none⟩), .slice Am ms.length cm, .slice Ar ra.length cr, .slice Aw rk.length cw] 64)) w2.heap.size 64 #[.pointer (some ⟨g, 0, none⟩), .int .i64 s.base, .int .i64 s.limit, .slice A1 s.ws.length e1, .pointer (some ⟨gm, 0, none⟩), .slice Am ms.length cm, .slice Ar ra.length cr, .slice Aw rk.length cw]) := Lib.hid (Bk.new _ _ _)
  have HE3 := Lib.hid (HEN.out.below hbx)
  have hgt : w.heap.size ≤ w2.heap.size := HEN.out.bl.size
  clear hbx HEN
  generalize w2.alloc (.cells #[.pointer (some ⟨g, 0, none⟩), .int .i64 s.base, .int .i64 s.limit, .slice A1 s.ws.length e1, .pointer (some ⟨gm, 0, none⟩), .slice Am ms.length cm, .slice Ar ra.length cr, .slice Aw rk.length cw] 64) = w3 at *
  generalize w2.heap.size = gt at *
  have cCl := SpClone_any HE3.out.sp
  unfold CloneP at cCl
  have d0 : w3.cell? ⟨gt, 0, none⟩ = some (.pointer (some ⟨g, 0, none⟩)) := HT.out.cell 0
  have hg3x : g < w3.heap.size := HE3.out.sp.hd.lt
  have HV3x : Hid (∀ k, V.ownBlock = some k → k < w3.heap.size) := Lib.hid fun k hk => (HE3.out.sp.own.lt k hk).2
  go_wp2_with fail
  refine cCl.mono ?_
  rintro e wc ⟨gb, Vb, rfl, hcl, hgb, hbc⟩
  have HE3 := Lib.hid (HE3.out.below hbc)
  have HT := Lib.hid (HT.out.below hbc HT.out.lt)
  have HCL := Lib.hid hcl
  have hgw : g < gb := by omega
  have HVB : Hid (∀ k, V.ownBlock = some k → Vb.ownBlock ≠ some k) := Lib.hid fun k hk e => by
   have h1 := HV3x.out k hk
   have h2 := (hcl.own.lt k e).1
   omega
  have hbw : w3.heap.size ≤ wc.heap.size := hbc.size
  have hvbl : ∀ k, Vb.ownBlock = some k → w3.heap.size ≤ k := fun k hk => (hcl.own.lt k hk).1
  have HVL := Lib.hid hvbl
  clear cCl hcl hbc d0 hvbl
  have cP := HE3.out.plan
  rw [← HMS.out] at cP
  unfold PlanP at cP
  have d0 : wc.cell? ⟨gt, 0, none⟩ = some (.pointer (some ⟨g, 0, none⟩)) := HT.out.cell 0
  have d4 : wc.cell? ⟨gt, 4, none⟩ = some (.pointer (some ⟨gm, 0, none⟩)) := HT.out.cell 4
  cases hpl : s.plan ms with
  | none =>
   rw [hpl] at cP
   dsimp only at cP
   have HPL := Lib.hid hpl
   clear hpl
   go_wp2_with fail
   refine cP.mono ?_
   rintro e w4 ⟨hb4, rfl⟩
   have HE4 := Lib.hid (HE3.out.below hb4)
   have HT4 := Lib.hid (HT.out.below hb4 HT.out.lt)
   have HB4 := Lib.hid hb4
   clear cP d0 d4 hb4
   have cC := HE4.out.compact (⟨rfl, .inl rfl⟩ : Sl w4 1 none ([] : List Int).length (wds [])) (Nat.le_refl _) (fun x hx => by cases hx) (by decide)
   rw [← HMS.out] at cC
   unfold CmpP at cC
   rw [HPL.out] at cC
   dsimp only at cC
   have d0 : w4.cell? ⟨gt, 0, none⟩ = some (.pointer (some ⟨g, 0, none⟩)) := HT4.out.cell 0
   have d4 : w4.cell? ⟨gt, 4, none⟩ = some (.pointer (some ⟨gm, 0, none⟩)) := HT4.out.cell 4
   go_wp2_with fail
   refine cC.mono ?_
   rintro e w5 ⟨rfl, hb5⟩
   have HE5 := Lib.hid (HE4.out.below hb5)
   clear cC hb5 d0 d4
   go_wp2_with fail
   refine (cA _).mono ?_
   rintro e w6 ⟨rfl, hb6⟩
   have HB6 := Lib.hid hb6
   clear hb6
   go_wp2_with fail
   go_ret
   exact ⟨rfl, HE5.out.bl.trans (HB6.out.mono HE5.out.bl.size)⟩
  | some ns =>
   rw [hpl] at cP
   dsimp only at cP
   have HPL := Lib.hid hpl
   clear hpl
   go_wp2_with fail
   refine cP.mono ?_
   rintro e w4 ⟨hb4, v1, v2, rfl, ho1, ho2⟩
   have HE4 := Lib.hid (HE3.out.below hb4)
   have HT4 := Lib.hid (HT.out.below hb4 HT.out.lt)
   have HB4 := Lib.hid hb4
   have HO1 := Lib.hid ho1
   have HO2 := Lib.hid ho2
   clear cP d0 d4 hb4 ho1 ho2
   have hpl2 := Spc.plan_some (by rw [HMS.out]; exact srtI_lt HE4.out.mks.nd) HPL.out
   have HP := Lib.hid hpl2.1
   have HN := Lib.hid hpl2.2
   have HK4 : Hid (∀ a ∈ ms, ((Mm.one s).hdr a).1 = 0 ∧ ((Mm.one s).hdr a).2.k ≠ 4) := Lib.hid fun a ha => HE4.out.mks.hdr a (by rw [HMS.out] at ha; exact (srtI_mem _ a).1 ha)
   have hml : ms.length ≤ 16777216 := by rw [HMS.out, srtI_len]; exact HE4.out.mln
   have HNL : Hid (ns.length = ms.length) := Lib.hid (by rw [hpl2.2, newsL_len])
   have HB0 := Lib.hid HE4.out.b0
   have HL0 := Lib.hid HE4.out.l0
   have HOK := Lib.hid HE4.out.sp.ok
   clear hpl2
   have HMKS := Lib.hid HE4.out.mks
   have HMEM : Hid (∀ a, a ∈ ms ↔ a ∈ sg ++ wl) := Lib.hid fun a => by rw [HMS.out]; exact srtI_mem _ a
   have HRGG := Lib.hid (HE4.out.mks.rg HE4.out.ok)
   have HCL4 := Lib.hid (HCL.out.below HB4.out)
   have cC := HE4.out.compact (⟨rfl, .inl rfl⟩ : Sl w4 1 none ([] : List Int).length (wds [])) (Nat.le_refl _) (fun x hx => by cases hx) (by decide)
   rw [← HMS.out] at cC
   unfold CmpP at cC
   rw [HPL.out, updL_of (l := []) (fun x hx => by cases hx)] at cC
   dsimp only at cC
   have hg3 : g < wc.heap.size := HE3.out.sp.hd.lt
   have HV3 : Hid (∀ k, V.ownBlock = some k → k < wc.heap.size) := Lib.hid fun k hk => (HE3.out.sp.own.lt k hk).2
   have d0 : w4.cell? ⟨gt, 0, none⟩ = some (.pointer (some ⟨g, 0, none⟩)) := HT4.out.cell 0
   have d4 : w4.cell? ⟨gt, 4, none⟩ = some (.pointer (some ⟨gm, 0, none⟩)) := HT4.out.cell 4
   go_wp2_with fail
   refine cC.mono ?_
   rintro e w5 ⟨v, V', rfl, ho5, hsp, hva, hvv, hkp⟩
   have HC5 := Lib.hid (HE4.out.cpd hsp hkp)
   have HO5 := Lib.hid ho5
   have HT5 : Hid (Bk w5 gt 64 #[.pointer (some ⟨g, 0, none⟩), .int .i64 s.base, .int .i64 s.limit, .slice A1 s.ws.length e1, .pointer (some ⟨gm, 0, none⟩), .slice Am ms.length cm, .slice Ar ra.length cr, .slice Aw rk.length cw]) := Lib.hid (HT4.out.kp hkp fun e => by
    rcases e with e | e
    ·exact Bk.neT HT4.out HE4.out.sp.hd (by decide) e
    ·exact HE4.out.sp.own_ne HT4.out (by decide) e)
   have hne : ∀ k, wc.heap.size ≤ k → ¬ (k = g ∨ V.ownBlock = some k) := fun k hk e => by
    rcases e with e | e
    ·omega
    ·have := HV3.out k e; omega
   have HNE := Lib.hid hne
   have HKP := Lib.hid hkp
   clear cC d0 d4 ho5 hsp hva hvv hkp hne HV3
   have HO15 := Lib.hid (own_local HO1.out (w' := w5) fun k hk => HKP.out.block k (HO1.out.lt k hk).2 (HNE.out k (HO1.out.lt k hk).1))
   have HO25 := Lib.hid (own_local HO2.out (w' := w5) fun k hk => HKP.out.block k (HO2.out.lt k hk).2 (HNE.out k (HO2.out.lt k hk).1))
   have HCL5 : Hid (SpR w5 w3.heap.size gb s Vb) := Lib.hid (HCL4.out.kp HKP.out (fun e => by
    rcases e with e | e
    ·omega
    ·have := HV3x.out gb e; omega) (fun k hk e => by
    rcases e with e | e
    ·have := HVL.out k hk; omega
    ·exact HVB.out k e hk))
   have hw35 : w3.heap.size ≤ w5.heap.size := Nat.le_trans hbw (Nat.le_trans HB4.out.size HKP.out.size)
   obtain ⟨Ax, cx, rfl, hcx⟩ := own_shape HO15.out
   obtain ⟨Ay, cy, rfl, hcy⟩ := own_shape HO25.out
   have hsx := Lib.hid (own_sl HO15.out)
   have hsy := Lib.hid (own_sl HO25.out)
   have hnl := HNL.out
   rw [hnl]
   rw [hnl] at hcy
   clear hnl HKP HNE HO5 HO1 HO2 HO15 HO25 HE4 HT4 HCL4 HB4 HE3 HT HCL HVB HVL HV3x
   go_wp2_with fail
   go_loopw [97] (fun i wr => ∃ j : Nat, i = .int .i64 (j : Int) ∧ j ≤ ms.length ∧ Below w5.heap.size w5 wr) (fun i _ => ms.length - (intOf i).toNat)
   case atStart => exact ⟨0, rfl, Nat.zero_le _, Below.refl _ _⟩
   case round =>
    obtain ⟨j, rfl, hj, hbr⟩ := hrel
    have HBR := Lib.hid hbr
    have hbs := hbr.size
    have HC6 := Lib.hid (HC5.out.below hbr)
    have HT6 := Lib.hid (HT5.out.below hbr HT5.out.lt)
    have HCL6 := Lib.hid (HCL5.out.below hbr)
    by_cases hlt : j < ms.length
    ·have t0 : ms[j]? = some ms[j] := List.getElem?_eq_getElem hlt
     obtain ⟨bx, ox, hAx, hbxl, hccx⟩ := (hsx.out.below hbr).get hlt
     obtain ⟨by_, oy, hAy, hbyl, hccy⟩ := (hsy.out.below hbr).get (by rw [HNL.out]; exact hlt)
     have t1 : ns[j]? = some (newA (Mm.one s) s.base ms ms[j]) := by rw [HN.out]; exact newA_get HP.out.nd t0
     have ex : wr.cell? ⟨bx, ox + j, none⟩ = some (.int .i64 ms[j]) := hccx j _ (ints_get t0)
     have ey : wr.cell? ⟨by_, oy + j, none⟩ = some (.int .i64 (newA (Mm.one s) s.base ms ms[j])) := hccy j _ (ints_get t1)
     have hm := List.getElem_mem hlt
     subst hAx
     subst hAy
     generalize ms[j] = a at ex ey t0 t1 hm
     obtain ⟨h0, h4⟩ := HK4.out a hm
     have hrg := HRGG.out a ((HMEM.out a).1 hm)
     have hrn := newA_inA HP.out HB0.out HL0.out HOK.out hm
     have hch := cmp_hdr HP.out hm
     have hci := cmp_id HP.out hm
     have hvi := (vI_iff _).1 (HP.out.id hm)
     have hvh := Mm.hdr_valid h0
     have hfb := vH_bound hvh
     have HFL := Lib.hid (fun (h3 : ((Mm.one s).hdr a).2.k ≠ 3) (q : Nat) (hq : (q : Int) < ((Mm.one s).hdr a).2.f) => cmp_fld HP.out HOK.out hm h3 h4 hq)
     have HFC := Lib.hid (fun (h3 : ((Mm.one s).hdr a).2.k ≠ 3) (v : Int) (o : Option Int) (hv : v ∈ (Mm.one s).flds a) (ho : (Mm.one s).rfr v = some o) => fld_cases HMKS.out HMEM.out HP.out hm h3 hv ho)
     have HGF := Lib.hid (HMKS.out.good.2 a ((HMEM.out a).1 hm))
     have cH1 := header12_any HCL6.out HB0.out HL0.out (by omega) h0 hrg
     have cH2 := fun {w9 : World} (hb : Below wr.heap.size wr w9) => header12_any (HC6.out.below hb).sp HB0.out HL0.out (HC6.out.below hb).bl.size (a := newA (Mm.one s) s.base ms a) (by rw [hch]) (by omega)
     simp only [hch, hci] at cH2
     obtain ⟨hd, hhd⟩ : ∃ hd, hd = ((Mm.one s).hdr a).2 := ⟨_, rfl⟩
     obtain ⟨i, hi⟩ : ∃ i, i = (Mm.one s).idOf a := ⟨_, rfl⟩
     obtain ⟨bb, hbb⟩ : ∃ bb, bb = newA (Mm.one s) s.base ms a := ⟨_, rfl⟩
     simp only [← hhd, ← hi, ← hbb] at cH2
     simp only [← hhd, ← hi] at cH1
     rw [← hbb] at ey hrn
     simp only [← hhd, ← hbb] at HFL HFC HGF
     rw [← hhd] at hfb
     have him0 : i.m ≠ 0 := by rw [hi]; omega
     have him : (i.m == 0) = false := by simpa using him0
     have himd : decide (i.m = 0) = false := decide_eq_false him0
     have hcj : j < cx := by omega
     have hcjy : j < cy := by omega
     have hjI : (j : Int) < (ms.length : Int) := by omega
     have HEX := Lib.hid (And.intro hbxl ex)
     have HEY := Lib.hid (And.intro hbyl ey)
     have hd_a : 0 ≤ a ∧ a ≤ 4294967296 := hrg
     clear hbr t0 t1 hccx hccy hm h0 h4 hrg hch hci hvi hvh hhd hi hbb hbxl hbyl ey
     go_wp2_with fail
     refine cH1.mono ?_
     rintro e w6 ⟨rfl, hb6⟩
     go_upto_region 17 with fail
     have hba : Below w6.heap.size w6 ((w6.alloc (.cells #[.int .i64 hd.k, .int .i64 hd.c, .int .i64 hd.f] 55)).alloc (.cells #[.int .i64 i.m, .int .i64 i.s] 79)) := ((Below.refl _ _).alloc (Nat.le_refl _) _).alloc (by simp) _
     have HK18 : Hid (Bk ((w6.alloc (.cells #[.int .i64 hd.k, .int .i64 hd.c, .int .i64 hd.f] 55)).alloc (.cells #[.int .i64 i.m, .int .i64 i.s] 79)) w6.heap.size 55 #[.int .i64 hd.k, .int .i64 hd.c, .int .i64 hd.f]) := Lib.hid ((Bk.new _ _ _).alloc _)
     have HK19 : Hid (Bk ((w6.alloc (.cells #[.int .i64 hd.k, .int .i64 hd.c, .int .i64 hd.f] 55)).alloc (.cells #[.int .i64 i.m, .int .i64 i.s] 79)) (w6.heap.size + 1) 79 #[.int .i64 i.m, .int .i64 i.s]) := Lib.hid (Bk.here _ _ _ (by simp))
     have hb7 := hb6.trans (hba.mono hb6.size)
     have HB7 := Lib.hid hb7
     have HT7 := Lib.hid (HT6.out.below hb7 HT6.out.lt)
     clear cH1 hb6 hba hb7 ex
     generalize ((w6.alloc (.cells #[.int .i64 hd.k, .int .i64 hd.c, .int .i64 hd.f] 55)).alloc (.cells #[.int .i64 i.m, .int .i64 i.s] 79)) = w7 at *
     generalize w6.heap.size = g18 at *
     have hb7s := HB7.out.size
     refine wp_region_addsF0 12 (fun i => ([[], [0], [], [], [2, 3], [4], [1, 5], [6], [7], [7], [], []] : List (List Nat)).getD i []) [9] (EL [Ent.val (.pointer (some ⟨gt, 0, none⟩)), Ent.val (.pointer (some ⟨g, 0, none⟩)), Ent.val (.slice (some ⟨by_, oy, none⟩) ms.length cy), Ent.val (.int .i64 (j : Int)), Ent.val (.pointer (some ⟨by_, oy + j, none⟩)), Ent.val (.int .i64 bb), Ent.val (.tuple #[.agg #[.int .i64 hd.k, .int .i64 hd.c, .int .i64 hd.f], .agg #[.int .i64 i.m, .int .i64 i.s]]), Ent.val (.tuple #[.agg #[.int .i64 hd.k, .int .i64 hd.c, .int .i64 hd.f], .agg #[.int .i64 i.m, .int .i64 i.s]]), Ent.val (.agg #[.int .i64 hd.k, .int .i64 hd.c, .int .i64 hd.f]), Ent.val (.agg #[.int .i64 i.m, .int .i64 i.s]), Ent.blk 55 #[.int .i64 0, .int .i64 0, .int .i64 0], Ent.blk 79 #[.int .i64 0, .int .i64 0]]) (by kernel_rfl) (by kernel_rfl) (by kernel_rfl) (by kernel_rfl) (by kernel_rfl) (by rfl) ?_ ?_
     ·intro i hi o ho vs w9 hb1 hgr
      rcases (show i = 0 ∨ i = 1 ∨ i = 2 ∨ i = 3 ∨ i = 4 ∨ i = 5 ∨ i = 6 ∨ i = 7 ∨ i = 8 ∨ i = 9 ∨ i = 10 ∨ i = 11 by omega) with rfl | rfl | rfl | rfl | rfl | rfl | rfl | rfl | rfl | rfl | rfl | rfl <;> cases ho
      ·clear hgr
       change Made _ (Adds _ _ _) (Sem.run _ (execOp (Act.eval (frm _ _ _ [])) _) _)
       simp only [frm]
       go_simp
       exact adds_val rfl
      ·have h0 : vs 0 = _ := hgr 0 (by decide)
       clear hgr
       change Made _ (Adds _ _ _) (Sem.run _ (execOp (Act.eval (Act.put (frm _ _ _ []) (some 110) (vs 0))) _) _)
       simp only [frm, h0]
       have hbk := HT7.out.below hb1 HT7.out.lt
       have c0 : w9.cell? ⟨gt, 0, none⟩ = some (.pointer (some ⟨g, 0, none⟩)) := hbk.cell 0
       clear hbk
       go_simp
       exact adds_val rfl
      ·clear hgr
       change Made _ (Adds _ _ _) (Sem.run _ (execOp (Act.eval (frm _ _ _ [])) _) _)
       simp only [frm]
       go_simp
       exact adds_val rfl
      ·clear hgr
       change Made _ (Adds _ _ _) (Sem.run _ (execOp (Act.eval (frm _ _ _ [])) _) _)
       simp only [frm]
       go_simp
       exact adds_val rfl
      ·have h2 : vs 2 = _ := hgr 2 (by decide)
       have h3 : vs 3 = _ := hgr 3 (by decide)
       clear hgr
       change Made _ (Adds _ _ _) (Sem.run _ (execOp (Act.eval (Act.put (Act.put (frm _ _ _ []) (some 113) (vs 3)) (some 112) (vs 2))) _) _)
       simp only [frm, h2, h3]
       go_simp
       exact adds_val rfl
      ·have h4 : vs 4 = _ := hgr 4 (by decide)
       clear hgr
       change Made _ (Adds _ _ _) (Sem.run _ (execOp (Act.eval (Act.put (frm _ _ _ []) (some 114) (vs 4))) _) _)
       simp only [frm, h4]
       have e4 : w9.cell? ⟨by_, oy + j, none⟩ = some (.int .i64 bb) := ((bcell (HB7.out.trans (hb1.mono hb7s))).1 _ _ HEY.out.1).trans HEY.out.2
       go_simp
       exact adds_val rfl
      ·have h1 : vs 1 = _ := hgr 1 (by decide)
       have h5 : vs 5 = _ := hgr 5 (by decide)
       clear hgr
       change Made _ (Adds _ _ _) (Sem.run _ (execOp (Act.eval (Act.put (Act.put (frm _ _ _ []) (some 115) (vs 5)) (some 111) (vs 1))) _) _)
       simp only [frm, h1, h5]
       have cH3 := cH2 (HB7.out.trans (hb1.mono hb7s))
       go_simp
       exact adds_below cH3
      ·have h6 : vs 6 = _ := hgr 6 (by decide)
       clear hgr
       change Made _ (Adds _ _ _) (Sem.run _ (execOp (Act.eval (Act.put (frm _ _ _ []) (some 116) (vs 6))) _) _)
       simp only [frm, h6]
       go_simp
       exact adds_val rfl
      ·have h7 : vs 7 = _ := hgr 7 (by decide)
       clear hgr
       change Made _ (Adds _ _ _) (Sem.run _ (execOp (Act.eval (Act.put (frm _ _ _ []) (some 109) (vs 7))) _) _)
       simp only [frm, h7]
       go_simp
       exact adds_val rfl
      ·have h7 : vs 7 = _ := hgr 7 (by decide)
       clear hgr
       change Made _ (Adds _ _ _) (Sem.run _ (execOp (Act.eval (Act.put (frm _ _ _ []) (some 109) (vs 7))) _) _)
       simp only [frm, h7]
       go_simp
       exact adds_val rfl
      ·clear hgr
       change Made _ (Adds _ _ _) (Sem.run _ (execOp (Act.eval (frm _ _ _ [])) _) _)
       simp only [frm]
       go_simp
       exact adds_blk
      ·clear hgr
       change Made _ (Adds _ _ _) (Sem.run _ (execOp (Act.eval (frm _ _ _ [])) _) _)
       simp only [frm]
       go_simp
       exact adds_blk
     ·intro vs w9 hb1 hall hap
      obtain ⟨⟨g10, h10, k10⟩, q10⟩ := hall 10 (by omega)
      have r10 : w7.heap.size ≤ g10 ∧ g10 < w9.heap.size := q10 g10 (by rw [h10]; rfl)
      clear q10
      obtain ⟨⟨g11, h11, k11⟩, q11⟩ := hall 11 (by omega)
      have r11 : w7.heap.size ≤ g11 ∧ g11 < w9.heap.size := q11 g11 (by rw [h11]; rfl)
      clear q11
      have h8 : vs 8 = _ := (hall 8 (by omega)).1
      have h9 : vs 9 = _ := (hall 9 (by omega)).1
      clear hall hap
      change wpList _ _ _ [_, _] (Act.put (Act.put (Act.put (Act.put (Act.put (Act.put (Act.put (Act.put (Act.put (Act.put (Act.put (Act.put (frm _ _ _ []) (some 21) (vs 11)) (some 20) (vs 10)) (some 118) (vs 9)) (some 117) (vs 8)) (some 109) (vs 7)) (some 116) (vs 6)) (some 115) (vs 5)) (some 114) (vs 4)) (some 113) (vs 3)) (some 112) (vs 2)) (some 111) (vs 1)) (some 110) (vs 0)) _
      simp only [frm, h8, h9, h10, h11]
      have hbx9 : Below w7.heap.size w7 (((((w9.setCell ⟨g10, 0, none⟩ (.int .i64 hd.k)).setCell ⟨g10, 1, none⟩ (.int .i64 hd.c)).setCell ⟨g10, 2, none⟩ (.int .i64 hd.f)).setCell ⟨g11, 0, none⟩ (.int .i64 i.m)).setCell ⟨g11, 1, none⟩ (.int .i64 i.s)) := ((((hb1.setCell (p := ⟨g10, 0, none⟩) r10.1 _).setCell (p := ⟨g10, 1, none⟩) r10.1 _).setCell (p := ⟨g10, 2, none⟩) r10.1 _).setCell (p := ⟨g11, 0, none⟩) r11.1 _).setCell (p := ⟨g11, 1, none⟩) r11.1 _
      have hne : g11 ≠ g10 := Bk.neT k11 k10 (by decide)
      have HK20 : Hid (Bk (((((w9.setCell ⟨g10, 0, none⟩ (.int .i64 hd.k)).setCell ⟨g10, 1, none⟩ (.int .i64 hd.c)).setCell ⟨g10, 2, none⟩ (.int .i64 hd.f)).setCell ⟨g11, 0, none⟩ (.int .i64 i.m)).setCell ⟨g11, 1, none⟩ (.int .i64 i.s)) g10 55 #[.int .i64 hd.k, .int .i64 hd.c, .int .i64 hd.f]) := Lib.hid (((k10.set3 (.int .i64 hd.k) (.int .i64 hd.c) (.int .i64 hd.f)).far (p := ⟨g11, 0, none⟩) (fun e => hne e.symm) _).far (p := ⟨g11, 1, none⟩) (fun e => hne e.symm) _)
      have hk21 : Bk ((((w9.setCell ⟨g10, 0, none⟩ (.int .i64 hd.k)).setCell ⟨g10, 1, none⟩ (.int .i64 hd.c)).setCell ⟨g10, 2, none⟩ (.int .i64 hd.f))) g11 79 #[.int .i64 0, .int .i64 0] := ((k11.far (p := ⟨g10, 0, none⟩) hne _).far (p := ⟨g10, 1, none⟩) hne _).far (p := ⟨g10, 2, none⟩) hne _
      have HK21 : Hid (Bk (((((w9.setCell ⟨g10, 0, none⟩ (.int .i64 hd.k)).setCell ⟨g10, 1, none⟩ (.int .i64 hd.c)).setCell ⟨g10, 2, none⟩ (.int .i64 hd.f)).setCell ⟨g11, 0, none⟩ (.int .i64 i.m)).setCell ⟨g11, 1, none⟩ (.int .i64 i.s)) g11 79 #[.int .i64 i.m, .int .i64 i.s]) := Lib.hid ((hk21.set 0 (.int .i64 i.m)).set 1 (.int .i64 i.s))
      have d0 : w9.cell? ⟨g10, 0, none⟩ = some (.int .i64 0) := k10.cell 0
      have d1 : w9.cell? ⟨g10, 1, none⟩ = some (.int .i64 0) := k10.cell 1
      have d2 : w9.cell? ⟨g10, 2, none⟩ = some (.int .i64 0) := k10.cell 2
      have f0 := k10.free 0
      have f1 := k10.free 1
      have f2 := k10.free 2
      have z0 : w9.cell? ⟨g11, 0, none⟩ = some (.int .i64 0) := k11.cell 0
      have z1 : w9.cell? ⟨g11, 1, none⟩ = some (.int .i64 0) := k11.cell 1
      have v0 := k11.free 0
      have v1 := k11.free 1
      have HBX7 := Lib.hid hbx9
      have HNE' := Lib.hid hne
      have hne2 : g10 ≠ g11 := fun e => hne e.symm
      clear hb1 k10 k11 r10 r11 h8 h9 h10 h11 cH2 hbx9 hk21
      go_upto_region 18 with fail
      rw [onlyN_normal]
      have HBX := Lib.hid (HB7.out.trans (HBX7.out.mono hb7s))
      have HK18x := Lib.hid (HK18.out.below HBX7.out HK18.out.lt)
      have HK19x := Lib.hid (HK19.out.below HBX7.out HK19.out.lt)
      clear d0 d1 d2 f0 f1 f2 z0 z1 v0 v1 hne hne2 HBX7 HK18 HK19 HT7 HB7
      generalize ((((w9.setCell ⟨g10, 0, none⟩ (.int .i64 hd.k)).setCell ⟨g10, 1, none⟩ (.int .i64 hd.c)).setCell ⟨g10, 2, none⟩ (.int .i64 hd.f)).setCell ⟨g11, 0, none⟩ (.int .i64 i.m)).setCell ⟨g11, 1, none⟩ (.int .i64 i.s) = wx at *
      have a0 : wx.cell? ⟨g18, 0, none⟩ = some (.int .i64 hd.k) := HK18x.out.cell 0
      have a1 : wx.cell? ⟨g18, 1, none⟩ = some (.int .i64 hd.c) := HK18x.out.cell 1
      have a2 : wx.cell? ⟨g18, 2, none⟩ = some (.int .i64 hd.f) := HK18x.out.cell 2
      have b0 : wx.cell? ⟨g18 + 1, 0, none⟩ = some (.int .i64 i.m) := HK19x.out.cell 0
      have b1 : wx.cell? ⟨g18 + 1, 1, none⟩ = some (.int .i64 i.s) := HK19x.out.cell 1
      have c0 : wx.cell? ⟨g10, 0, none⟩ = some (.int .i64 hd.k) := HK20.out.cell 0
      have c1' : wx.cell? ⟨g10, 1, none⟩ = some (.int .i64 hd.c) := HK20.out.cell 1
      have c2' : wx.cell? ⟨g10, 2, none⟩ = some (.int .i64 hd.f) := HK20.out.cell 2
      have e0 : wx.cell? ⟨g11, 0, none⟩ = some (.int .i64 i.m) := HK21.out.cell 0
      have e1' : wx.cell? ⟨g11, 1, none⟩ = some (.int .i64 i.s) := HK21.out.cell 1
      have hbxs := HBX.out.size
      by_cases hk3 : hd.k = 3
      ·have hk3b : (hd.k == 3) = true := by simp [hk3]
       clear hk3
       go_wp2_with fail
       go_roundw
       case rel => exact ⟨j + 1, by go_num, by omega, HBR.out.trans (HBX.out.mono hbs)⟩
       case measure => simp [intOf]; omega
      ·have hk3b : (hd.k == 3) = false := by simp [hk3]
       have HK3 := Lib.hid hk3
       clear hk3
       go_wp2_with fail
       obtain ⟨wo, rfl⟩ : ∃ wo : World, wo = wr := ⟨_, rfl⟩
       go_loopw [137] (fun i wr => ∃ q : Nat, i = .int .i64 (q : Int) ∧ q ≤ hd.f.toNat ∧ Below wx.heap.size wx wr) (fun i _ => hd.f.toNat - (intOf i).toNat)
       case atStart => exact ⟨0, rfl, Nat.zero_le _, Below.refl _ _⟩
       case round =>
        obtain ⟨q, rfl, hq, hbq⟩ := hrel
        have HBQ := Lib.hid hbq
        have hqs := hbq.size
        have HBO := Lib.hid (HBX.out.trans (hbq.mono hbxs))
        have HCQ := Lib.hid (HC6.out.below HBO.out)
        have HTQ := Lib.hid (HT6.out.below HBO.out HT6.out.lt)
        have HCLQ := Lib.hid (HCL6.out.below HBO.out)
        have HKQ := Lib.hid (HK18x.out.below hbq HK18x.out.lt)
        by_cases hlq : (q : Int) < hd.f
        ·obtain ⟨v', hv, hvf, hvu, hv2⟩ := HFL.out HK3.out q hlq
         obtain ⟨o, ho⟩ : ∃ o, (Mm.one s).rfr v' = some o := by
          cases h : (Mm.one s).rfr v' with
          | none => exact absurd h (HGF.out HK3.out v' hvf)
          | some o => exact ⟨o, rfl⟩
         have hcs := HFC.out HK3.out v' o hvf ho
         have hl1 : ldV s (a + 2 + (q : Int)) = .tuple #[.int .u64 v', .int .i64 0] := by unfold ldV; rw [hv]
         have hl2 : ldV (s.cmp ms) (bb + 2 + (q : Int)) = .tuple #[.int .u64 ((Mm.one s).upd s.base ms v'), .int .i64 0] := by unfold ldV; rw [hv2]
         have hyu : U64 ((Mm.one s).upd s.base ms v') := updW_u64 hvu
         have hry := cmp_rfr HP.out HB0.out HL0.out HOK.out (fun a ha => (HK4.out a ha).2) ho
         have cL1 := SLoad_any HCLQ.out (a + 2 + (q : Int))
         rw [hl1] at cL1
         have HL2 := Lib.hid hl2
         have HVU := Lib.hid hvu
         have HO := Lib.hid ho
         have HYU := Lib.hid hyu
         have HRY := Lib.hid hry
         have ex : wr.cell? ⟨bx, ox + j, none⟩ = some (.int .i64 a) := ((bcell HBO.out).1 _ _ HEX.out.1).trans HEX.out.2
         have w1 : IntKind.i64.wrap (a + 2) = a + 2 := IntWalk.i64_in _ (by omega)
         have w2 : IntKind.i64.wrap (a + 2 + (q : Int)) = a + 2 + (q : Int) := IntWalk.i64_in _ (by omega)
         have w3' : IntKind.i64.wrap (bb + 2) = bb + 2 := IntWalk.i64_in _ (by omega)
         have w4' : IntKind.i64.wrap (bb + 2 + (q : Int)) = bb + 2 + (q : Int) := IntWalk.i64_in _ (by omega)
         clear hbq hv hvf hvu hv2 ho hl1 hl2 hyu hry
         go_wp2_with fail
         refine cL1.mono ?_
         rintro e w8 ⟨rfl, hb8⟩
         have HB8 := Lib.hid (HBQ.out.trans (hb8.mono hqs))
         have HBO8 := Lib.hid (HBO.out.trans (hb8.mono HBO.out.size))
         have cL2 := fun dd os => Calls.regrown_of (w := w8) (SLoad_any ((HC6.out.below HBO8.out).sp.below (below_regrown w8 dd os)) (bb + 2 + (q : Int)))
         rw [HL2.out] at cL2
         have hb8s := HBO8.out.size
         have hb8x := HB8.out.size
         have ey : w8.cell? ⟨by_, oy + j, none⟩ = some (.int .i64 bb) := ((bcell HBO8.out).1 _ _ HEY.out.1).trans HEY.out.2
         have y0 : w8.cell? ⟨gt, 0, none⟩ = some (.pointer (some ⟨g, 0, none⟩)) := (HT6.out.below HBO8.out HT6.out.lt).cell 0
         have k0 := cell_regrown y0
         have ky := cell_regrown ey
         clear cL1 hb8 ex w1 w2
         generalize (Mm.one s).upd s.base ms v' = y at cL2 HYU HRY hcs
         go_upto_region 25 with fail
         refine wp_region_quiet_below (by kernel_rfl) (by kernel_rfl) ?_
         repeat (first | go_big_quiet_step ((go_at_call 47; exact cL2 _ _)) | quiet_step ((go_at_call 47; exact cL2 _ _)))
         refine wpQuiet_nil ?_
         intro w9 hw'
         have hb9 := quiet_below_one hw'
         have HB9 := Lib.hid (HB8.out.trans (hb9.mono hb8x))
         have HBO9 := Lib.hid (HBO8.out.trans (hb9.mono hb8s))
         have cT1 := target12_any (HCL6.out.below HBO9.out) HB0.out HL0.out (by have := HBO9.out.size; omega) HVU.out HO.out
         clear hw' hb9 cL2 k0 ky y0 ey w3' w4' HB8 HBO8
         rcases hcs with ⟨rfl, rfl, h1, h2⟩ | ⟨i', h1, h2, hi0⟩ | ⟨b, rfl, hc, hk2, rfl, h1, h2, hi0⟩
         ·simp only [h2] at cT1
          dsimp only [Id.zero] at cT1
          go_wp2_with fail
          refine cT1.mono ?_
          rintro e w10 ⟨rfl, hb10⟩
          go_upto_region 27 with fail
          have hbx10 : Below w10.heap.size w10 (w10.alloc (.cells #[.int .i64 0, .int .i64 0] 79)) := (Below.refl _ _).alloc (Nat.le_refl _) _
          have HK27 : Hid (Bk (w10.alloc (.cells #[.int .i64 0, .int .i64 0] 79)) w10.heap.size 79 #[.int .i64 0, .int .i64 0]) := Lib.hid (Bk.new _ _ _)
          have HB11 := Lib.hid (HB9.out.trans ((hb10.trans (hbx10.mono hb10.size)).mono HB9.out.size))
          have HBO11 := Lib.hid (HBO9.out.trans ((hb10.trans (hbx10.mono hb10.size)).mono HBO9.out.size))
          clear cT1 hb10 hbx10 HB9 HBO9
          generalize w10.alloc (.cells #[.int .i64 0, .int .i64 0] 79) = w11 at *
          generalize w10.heap.size = g27 at *
          have y0 : w11.cell? ⟨gt, 0, none⟩ = some (.pointer (some ⟨g, 0, none⟩)) := (HT6.out.below HBO11.out HT6.out.lt).cell 0
          have u0 : w11.cell? ⟨g27, 0, none⟩ = some (.int .i64 0) := HK27.out.cell 0
          have u1 : w11.cell? ⟨g27, 1, none⟩ = some (.int .i64 0) := HK27.out.cell 1
          have cT2 := target12_any (HC6.out.below HBO11.out).sp HB0.out HL0.out (HC6.out.below HBO11.out).bl.size HYU.out HRY.out
          simp only [h1] at cT2
          dsimp only [Id.zero] at cT2
          go_wp2_with fail
          refine cT2.mono ?_
          rintro e w12 ⟨rfl, hb12⟩
          go_upto_region 30 with fail
          have hbx12 : Below w12.heap.size w12 (w12.alloc (.cells #[.int .i64 0, .int .i64 0] 79)) := (Below.refl _ _).alloc (Nat.le_refl _) _
          have HK28 : Hid (Bk (w12.alloc (.cells #[.int .i64 0, .int .i64 0] 79)) w12.heap.size 79 #[.int .i64 0, .int .i64 0]) := Lib.hid (Bk.new _ _ _)
          have HB13 := Lib.hid (HB11.out.trans ((hb12.trans (hbx12.mono hb12.size)).mono HB11.out.size))
          have HBO13 := Lib.hid (HBO11.out.trans ((hb12.trans (hbx12.mono hb12.size)).mono HBO11.out.size))
          have HK27x := Lib.hid (HK27.out.below (hb12.trans (hbx12.mono hb12.size)) HK27.out.lt)
          clear cT2 hb12 hbx12 HB11 HBO11 y0 u0 u1 HK27
          generalize w12.alloc (.cells #[.int .i64 0, .int .i64 0] 79) = w13 at *
          generalize w12.heap.size = g28 at *
          have u0 : w13.cell? ⟨g27, 0, none⟩ = some (.int .i64 0) := HK27x.out.cell 0
          have u1 : w13.cell? ⟨g27, 1, none⟩ = some (.int .i64 0) := HK27x.out.cell 1
          have x0 : w13.cell? ⟨g28, 0, none⟩ = some (.int .i64 0) := HK28.out.cell 0
          have x1' : w13.cell? ⟨g28, 1, none⟩ = some (.int .i64 0) := HK28.out.cell 1
          clear HK27x HK28
          go_wp2_with fail
          go_roundw
          case rel => exact ⟨q + 1, by go_num, by omega, HB13.out⟩
          case measure => simp [intOf]; omega
         ·simp only [h2] at cT1
          go_wp2_with fail
          refine cT1.mono ?_
          rintro e w10 ⟨rfl, hb10⟩
          go_upto_region 27 with fail
          have hbx10 : Below w10.heap.size w10 (w10.alloc (.cells #[.int .i64 i'.m, .int .i64 i'.s] 79)) := (Below.refl _ _).alloc (Nat.le_refl _) _
          have HK27 : Hid (Bk (w10.alloc (.cells #[.int .i64 i'.m, .int .i64 i'.s] 79)) w10.heap.size 79 #[.int .i64 i'.m, .int .i64 i'.s]) := Lib.hid (Bk.new _ _ _)
          have HB11 := Lib.hid (HB9.out.trans ((hb10.trans (hbx10.mono hb10.size)).mono HB9.out.size))
          have HBO11 := Lib.hid (HBO9.out.trans ((hb10.trans (hbx10.mono hb10.size)).mono HBO9.out.size))
          clear cT1 hb10 hbx10 HB9 HBO9
          generalize w10.alloc (.cells #[.int .i64 i'.m, .int .i64 i'.s] 79) = w11 at *
          generalize w10.heap.size = g27 at *
          have y0 : w11.cell? ⟨gt, 0, none⟩ = some (.pointer (some ⟨g, 0, none⟩)) := (HT6.out.below HBO11.out HT6.out.lt).cell 0
          have u0 : w11.cell? ⟨g27, 0, none⟩ = some (.int .i64 i'.m) := HK27.out.cell 0
          have u1 : w11.cell? ⟨g27, 1, none⟩ = some (.int .i64 i'.s) := HK27.out.cell 1
          have cT2 := target12_any (HC6.out.below HBO11.out).sp HB0.out HL0.out (HC6.out.below HBO11.out).bl.size HYU.out HRY.out
          simp only [h1] at cT2
          have hi0d : decide (i'.m = 0) = false := by simpa using hi0
          go_wp2_with fail
          refine cT2.mono ?_
          rintro e w12 ⟨rfl, hb12⟩
          go_upto_region 30 with fail
          have hbx12 : Below w12.heap.size w12 (w12.alloc (.cells #[.int .i64 i'.m, .int .i64 i'.s] 79)) := (Below.refl _ _).alloc (Nat.le_refl _) _
          have HK28 : Hid (Bk (w12.alloc (.cells #[.int .i64 i'.m, .int .i64 i'.s] 79)) w12.heap.size 79 #[.int .i64 i'.m, .int .i64 i'.s]) := Lib.hid (Bk.new _ _ _)
          have HB13 := Lib.hid (HB11.out.trans ((hb12.trans (hbx12.mono hb12.size)).mono HB11.out.size))
          have HBO13 := Lib.hid (HBO11.out.trans ((hb12.trans (hbx12.mono hb12.size)).mono HBO11.out.size))
          have HK27x := Lib.hid (HK27.out.below (hb12.trans (hbx12.mono hb12.size)) HK27.out.lt)
          clear cT2 hb12 hbx12 HB11 HBO11 y0 u0 u1 HK27
          generalize w12.alloc (.cells #[.int .i64 i'.m, .int .i64 i'.s] 79) = w13 at *
          generalize w12.heap.size = g28 at *
          have u0 : w13.cell? ⟨g27, 0, none⟩ = some (.int .i64 i'.m) := HK27x.out.cell 0
          have u1 : w13.cell? ⟨g27, 1, none⟩ = some (.int .i64 i'.s) := HK27x.out.cell 1
          have x0 : w13.cell? ⟨g28, 0, none⟩ = some (.int .i64 i'.m) := HK28.out.cell 0
          have x1' : w13.cell? ⟨g28, 1, none⟩ = some (.int .i64 i'.s) := HK28.out.cell 1
          clear HK27x HK28
          go_wp2_with fail
          go_roundw
          case rel => exact ⟨q + 1, by go_num, by omega, HB13.out⟩
          case measure => simp [intOf]; omega
         ·obtain ⟨i', hi'⟩ : ∃ i', i' = (Mm.one s).idOf b := ⟨_, rfl⟩
          rw [← hi'] at h2 hi0
          clear hi'
          simp only [h2] at cT1
          have hkk : (hd.k != 2) = false := by simp [hk2]
          have HCC := Lib.hid hc
          clear hk2 hc
          go_wp2_with fail
          refine cT1.mono ?_
          rintro e w10 ⟨rfl, hb10⟩
          go_upto_region 27 with fail
          have hbx10 : Below w10.heap.size w10 (w10.alloc (.cells #[.int .i64 i'.m, .int .i64 i'.s] 79)) := (Below.refl _ _).alloc (Nat.le_refl _) _
          have HK27 : Hid (Bk (w10.alloc (.cells #[.int .i64 i'.m, .int .i64 i'.s] 79)) w10.heap.size 79 #[.int .i64 i'.m, .int .i64 i'.s]) := Lib.hid (Bk.new _ _ _)
          have HB11 := Lib.hid (HB9.out.trans ((hb10.trans (hbx10.mono hb10.size)).mono HB9.out.size))
          have HBO11 := Lib.hid (HBO9.out.trans ((hb10.trans (hbx10.mono hb10.size)).mono HBO9.out.size))
          clear cT1 hb10 hbx10 HB9 HBO9
          generalize w10.alloc (.cells #[.int .i64 i'.m, .int .i64 i'.s] 79) = w11 at *
          generalize w10.heap.size = g27 at *
          have y0 : w11.cell? ⟨gt, 0, none⟩ = some (.pointer (some ⟨g, 0, none⟩)) := (HT6.out.below HBO11.out HT6.out.lt).cell 0
          have u0 : w11.cell? ⟨g27, 0, none⟩ = some (.int .i64 i'.m) := HK27.out.cell 0
          have u1 : w11.cell? ⟨g27, 1, none⟩ = some (.int .i64 i'.s) := HK27.out.cell 1
          have cT2 := target12_any (HC6.out.below HBO11.out).sp HB0.out HL0.out (HC6.out.below HBO11.out).bl.size HYU.out HRY.out
          simp only [h1] at cT2
          dsimp only [Id.zero] at cT2
          have hi0d : decide (i'.m = 0) = false := by simpa using hi0
          have hi0e : decide (0 = i'.m) = false := by
           have h9 : i'.m ≠ 0 := by simpa using hi0
           exact decide_eq_false fun e => h9 e.symm
          go_wp2_with fail
          refine cT2.mono ?_
          rintro e w12 ⟨rfl, hb12⟩
          go_upto_region 30 with fail
          have hbx12 : Below w12.heap.size w12 (w12.alloc (.cells #[.int .i64 0, .int .i64 0] 79)) := (Below.refl _ _).alloc (Nat.le_refl _) _
          have HK28 : Hid (Bk (w12.alloc (.cells #[.int .i64 0, .int .i64 0] 79)) w12.heap.size 79 #[.int .i64 0, .int .i64 0]) := Lib.hid (Bk.new _ _ _)
          have HB13 := Lib.hid (HB11.out.trans ((hb12.trans (hbx12.mono hb12.size)).mono HB11.out.size))
          have HBO13 := Lib.hid (HBO11.out.trans ((hb12.trans (hbx12.mono hb12.size)).mono HBO11.out.size))
          have HK27x := Lib.hid (HK27.out.below (hb12.trans (hbx12.mono hb12.size)) HK27.out.lt)
          clear cT2 hb12 hbx12 HB11 HBO11 y0 u0 u1 HK27
          generalize w12.alloc (.cells #[.int .i64 0, .int .i64 0] 79) = w13 at *
          generalize w12.heap.size = g28 at *
          have u0 : w13.cell? ⟨g27, 0, none⟩ = some (.int .i64 i'.m) := HK27x.out.cell 0
          have u1 : w13.cell? ⟨g27, 1, none⟩ = some (.int .i64 i'.s) := HK27x.out.cell 1
          have x0 : w13.cell? ⟨g28, 0, none⟩ = some (.int .i64 0) := HK28.out.cell 0
          have x1' : w13.cell? ⟨g28, 1, none⟩ = some (.int .i64 0) := HK28.out.cell 1
          have z0 : w13.cell? ⟨g18, 0, none⟩ = some (.int .i64 hd.k) := (HK18x.out.below HB13.out HK18x.out.lt).cell 0
          have z5 : w13.cell? ⟨gt, 5, none⟩ = some (.slice Am ms.length cm) := (HT6.out.below HBO13.out HT6.out.lt).cell 5
          have hi0' : (0 == i'.m) = false := by
           have h9 : i'.m ≠ 0 := by simpa using hi0
           exact beq_false_of_ne fun e => h9 e.symm
          have cM := marked12_any (HCL6.out.below HBO13.out) (by have := (HC6.out.below HBO13.out).ms; rw [← HMS.out] at this; exact this) hml HB0.out HL0.out (by have := HBO13.out.size; omega) HVU.out HO.out
          rw [HCC.out] at cM
          clear HK27x HK28
          go_wp2_with fail
          refine cM.mono ?_
          rintro e w14 ⟨rfl, hb14⟩
          have HB14 := Lib.hid (HB13.out.trans (hb14.mono HB13.out.size))
          clear cM hb14 u0 u1 x0 x1' z0 z5
          go_wp2_with fail
          go_roundw
          case rel => exact ⟨q + 1, by go_num, by omega, HB14.out⟩
          case measure => simp [intOf]; omega
        ·have hqI : ¬ (q : Int) < hd.f := hlq
         clear hbq hlq
         go_wp2_with fail
         go_roundw
         case rel => exact ⟨j + 1, by go_num, by omega, HBR.out.trans (HBO.out.mono hbs)⟩
         case measure => simp [intOf]; omega
    ·have hjI : ¬ (j : Int) < (ms.length : Int) := by omega
     clear hbr hlt
     go_wp2_with fail
     refine (cA _).mono ?_
     rintro e w8 ⟨rfl, hb8⟩
     have HB8 := Lib.hid hb8
     clear hb8
     go_wp2_with fail
     go_ret
     exact ⟨rfl, HC6.out.bl.trans (HB8.out.mono HC6.out.bl.size)⟩
theorem keeps12_any (hl : Op1s w Al l) (hcl : l.length ≤ cl) (h1 : IS w ch A1c c1) (hr1 : ∀ x ∈ ch, -9223372036854775808 ≤ x ∧ x ≤ 9223372036854775807) (h2 : IS w wk A2c c2) (hr2 : ∀ x ∈ wk, -9223372036854775808 ≤ x ∧ x ≤ 9223372036854775807) : Calls Tryz.prog 12 #[.slice Al l.length cl, .slice A1c ch.length c1, .slice A2c wk.length c2] w fun e w' => e = .returned (.bool true) ∧ Below w.heap.size w w' := by
 by_cases h : l.length ≤ 40 ∧ ch.length ≤ 10 ∧ wk.length ≤ 10
 ·exact keeps12_main hl hcl h.1 h1 hr1 h.2.1 h2 hr2 h.2.2
 ·exact keeps12_big h
end
end Go.Proofs.YtjpaogapclfajaaGreat
