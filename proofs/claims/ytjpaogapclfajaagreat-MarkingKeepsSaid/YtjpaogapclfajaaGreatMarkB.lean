/- Package marking: keep, Has, Weak, Words, Keep. -/
import Derived.Test.YtjpaogapclfajaaGreatMarkA
namespace Go.Proofs.YtjpaogapclfajaaGreat
set_option linter.unusedVariables false
set_option linter.unusedSimpArgs false
set_option linter.unusedSectionVars false
open Go.RowKit Go.Maps
attribute [local go_sem] Oper.semAt_some
set_option maxRecDepth 100000

/-- the marks of a memory: the strongly and the weakly marked objects -/
def MkR (w : World) (B g b : Nat) (m : Mm) (sg wl : List Int) : Prop := MkR0 w B g b (sg ++ wl).length (mkF sg wl) (wSum m (sg ++ wl))
def Keeps (sg wl : List Int) (a : Int) : Bool := sg.contains a || wl.contains a
theorem mkF_no {sg wl : List Int} {a : Int} (h : Keeps sg wl a = false) : mkF sg wl a = none := by
  unfold Keeps at h
  rw [Bool.or_eq_false_iff] at h
  unfold mkF
  rw [if_neg (by rw [h.1]; simp), if_neg (by rw [h.2]; simp)]
theorem mkF_strong {sg wl : List Int} {a : Int} (h : sg.contains a = true) : mkF sg wl a = some 2 := by unfold mkF; rw [if_pos h]
theorem mkF_weak {sg wl : List Int} {a : Int} (h : sg.contains a = false) (h2 : wl.contains a = true) : mkF sg wl a = some 1 := by unfold mkF; rw [if_neg (by rw [h]; simp), if_pos h2]
theorem mkF_putW {sg wl : List Int} {a : Int} (h : Keeps sg wl a = false) (x : Int) : updZ (mkF sg wl) a 1 x = mkF sg (wl ++ [a]) x := by
  unfold Keeps at h
  rw [Bool.or_eq_false_iff] at h
  unfold updZ
  by_cases hx : x = a
  · subst hx
    rw [if_pos rfl, mkF_weak h.1 (by simp)]
  · rw [if_neg hx]
    unfold mkF
    simp [hx]
theorem mkF_putS {sg : List Int} {a : Int} (x : Int) : updZ (mkF sg []) a 2 x = mkF (sg ++ [a]) [] x := by
  unfold updZ
  by_cases hx : x = a
  · subst hx
    rw [if_pos rfl, mkF_strong (by simp)]
  · rw [if_neg hx]
    unfold mkF
    simp [hx]
theorem MkR.putW {w : World} {B g b : Nat} {m : Mm} {sg wl : List Int} {a : Int} (h : MkR0 w B g b ((sg ++ wl).length + 1) (updZ (mkF sg wl) a 1) (wSum m (sg ++ wl) + wH (m.hdr a).2)) (hk : Keeps sg wl a = false) : MkR w B g b m sg (wl ++ [a]) := by
  unfold MkR
  rw [← List.append_assoc, wSum_app, wSum_one, List.length_append]
  exact ⟨h.hd, h.mp.congr fun x _ => mkF_putW hk x, h.ge, h.gm⟩
theorem MkR.putS {w : World} {B g b : Nat} {m : Mm} {sg : List Int} {a : Int} (h : MkR0 w B g b ((sg ++ []).length + 1) (updZ (mkF sg []) a 2) (wSum m (sg ++ []) + wH (m.hdr a).2)) : MkR w B g b m (sg ++ [a]) [] := by
  unfold MkR
  simp only [List.append_nil] at h ⊢
  rw [wSum_app, wSum_one, List.length_append]
  exact ⟨h.hd, h.mp.congr fun x _ => mkF_putS x, h.ge, h.gm⟩
section
variable {w : World} {Bm g b : Nat} {m : Mm} {sg wl : List Int}
theorem Has_any (h : MkR w Bm g b m sg wl) (a : Int) (ha : -9223372036854775808 ≤ a ∧ a ≤ 9223372036854775807) : Calls Tryz.prog 20 #[.pointer (some ⟨g, 0, none⟩), .int .i64 a] w fun e w' => e = .returned (.bool (sg.contains a)) ∧ w = w' := by
  have c0 : w.cell? ⟨g, 0, none⟩ = some (.map (some b)) := h.hd.cell 0
  have HM := Lib.hid h.mp
  have HWA : Hid ((Lit.int .i64 a).wf = true) := Lib.hid (WalkArith.wf_i64 (by omega))
  have HE : Hid ((((mkF sg wl a).getD 0) == 2) = sg.contains a) := Lib.hid (by
    cases hs : sg.contains a with
    | true => rw [mkF_strong hs]; rfl
    | false =>
      cases hw : wl.contains a with
      | true => rw [mkF_weak hs hw]; rfl
      | false => rw [mkF_no (by unfold Keeps; rw [hs, hw]; rfl)]; rfl)
  obtain ⟨v, hv⟩ : ∃ v, v = (mkF sg wl a).getD 0 := ⟨_, rfl⟩
  have HV := Lib.hid hv
  rw [← hv] at HE
  clear h ha hv
  go_enter Tryz.func20, Tryz.ntmps20
  go_wp2_with (refine wpList_map_look hKI hKI hMI hZI rfl (m := .tmp 8) (x := .tmp 9) rfl HM.out rfl rfl HWA.out ?_; rw [← HV.out])
  go_ret
  exact ⟨ret_bool HE.out, rfl⟩
theorem Weak_any (h : MkR w Bm g b m sg wl) (a : Int) (ha : -9223372036854775808 ≤ a ∧ a ≤ 9223372036854775807) : Calls Tryz.prog 22 #[.pointer (some ⟨g, 0, none⟩), .int .i64 a] w fun e w' => e = .returned (.bool (!sg.contains a && wl.contains a)) ∧ w = w' := by
  have c0 : w.cell? ⟨g, 0, none⟩ = some (.map (some b)) := h.hd.cell 0
  have HM := Lib.hid h.mp
  have HWA : Hid ((Lit.int .i64 a).wf = true) := Lib.hid (WalkArith.wf_i64 (by omega))
  have HE : Hid ((((mkF sg wl a).getD 0) == 1) = (!sg.contains a && wl.contains a)) := Lib.hid (by
    cases hs : sg.contains a with
    | true => rw [mkF_strong hs]; rfl
    | false =>
      cases hw : wl.contains a with
      | true => rw [mkF_weak hs hw]; rfl
      | false => rw [mkF_no (by unfold Keeps; rw [hs, hw]; rfl)]; rfl)
  obtain ⟨v, hv⟩ : ∃ v, v = (mkF sg wl a).getD 0 := ⟨_, rfl⟩
  have HV := Lib.hid hv
  rw [← hv] at HE
  clear h ha hv
  go_enter Tryz.func22, Tryz.ntmps22
  go_wp2_with (refine wpList_map_look hKI hKI hMI hZI rfl (m := .tmp 8) (x := .tmp 9) rfl HM.out rfl rfl HWA.out ?_; rw [← HV.out])
  go_ret
  exact ⟨ret_bool HE.out, rfl⟩
theorem Words_mk (h : MkR w Bm g b m sg wl) : Calls Tryz.prog 26 #[.pointer (some ⟨g, 0, none⟩)] w fun e w' => e = .returned (.int .i64 (wSum m (sg ++ wl))) ∧ w = w' := by
  have c0 : w.cell? ⟨g, 1, none⟩ = some (.int .i64 (wSum m (sg ++ wl))) := h.hd.cell 1
  clear h
  go_enter Tryz.func26, Tryz.ntmps26
  go_wp2_with fail
  go_ret
  exact ⟨rfl, rfl⟩
end
section
variable {w : World} {B g1 g2 Bm g b : Nat} {V1 V2 : Value} {m : Mm} {sg wl : List Int}
def KeepP (w : World) (Bm g b : Nat) (m : Mm) (sg wl wl' : List Int) (q : Bool) (e : Ending) (w' : World) : Prop := e = .returned (.bool q) ∧ MkR w' Bm g b m sg wl' ∧ Kp (fun k => k = g ∨ k = b) w w'
set_option maxHeartbeats 2000000 in
theorem keep_any (h : MR w B g1 g2 V1 V2 m) (hm : MkR w Bm g b m sg wl) (hl : (sg ++ wl).length ≤ 100000000) (a : Int) (ha : -9223372036854775808 ≤ a ∧ a ≤ 9223372036854775807) :
    Calls Tryz.prog 65 #[.pointer (some ⟨g, 0, none⟩), .agg #[.pointer (some ⟨g1, 0, none⟩), .pointer (some ⟨g2, 0, none⟩)], .int .i64 a] w (KeepP w Bm g b m sg wl (m.keepW sg wl a) (Keeps sg (m.keepW sg wl a) a)) := by
  have HB := Lib.hid (boxM w g1 g2)
  have cH := MHdr_of (h.below HB.out) a
  have HM := Lib.hid (hm.below HB.out)
  have H := Lib.hid (h.below HB.out)
  have HQ := Lib.hid (Bk.new w 27 #[.pointer (some ⟨g1, 0, none⟩), .pointer (some ⟨g2, 0, none⟩)])
  have HWA : Hid ((Lit.int .i64 a).wf = true) := Lib.hid (WalkArith.wf_i64 (by omega))
  have HA := Lib.hid ha
  have HL := Lib.hid hl
  obtain ⟨hh, hhh⟩ : ∃ hh, hh = (m.hdr a).2 := ⟨_, rfl⟩
  obtain ⟨er, her⟩ : ∃ er, er = (m.hdr a).1 := ⟨_, rfl⟩
  rw [← hhh, ← her] at cH
  have HHH := Lib.hid hhh
  have HG := Lib.hid hm
  clear h hm ha her hhh hl
  cases hk : Keeps sg wl a with
  | true =>
    have HE : Hid (m.keepW sg wl a = wl) := Lib.hid (by
      unfold Mm.keepW
      rw [if_neg]
      rintro ⟨h1, h2, _⟩
      unfold Keeps at hk
      rw [h1, h2] at hk
      cases hk)
    obtain ⟨v, hv0, hv⟩ : ∃ v : Int, (v == 0) = false ∧ (mkF sg wl a).getD 0 = v := by
      cases hs : sg.contains a with
      | true => exact ⟨2, rfl, by rw [mkF_strong hs]; rfl⟩
      | false =>
        cases hw : wl.contains a with
        | true => exact ⟨1, rfl, by rw [mkF_weak hs hw]; rfl⟩
        | false => unfold Keeps at hk; rw [hs, hw] at hk; cases hk
    have HV := Lib.hid hv
    have hv1 : (v != 0) = true := by simp at hv0; simp [hv0]
    have HKK := Lib.hid hk
    clear hv hk
    go_enter Tryz.func65, Tryz.ntmps65
    go_wp2_with fail
    refine cH.mono ?_
    rintro e w2 ⟨rfl, hb⟩
    have HB2 := Lib.hid (HB.out.trans (hb.mono HB.out.size))
    have hm2 := HM.out.below hb
    have HM2 : Hid (MkR w2 Bm g b m sg wl) := Lib.hid hm2
    have c0 : w2.cell? ⟨g, 0, none⟩ = some (.map (some b)) := hm2.hd.cell 0
    have hgl := hm2.hd.lt
    have hne : w2.heap.size ≠ g := by omega
    clear hb cH hm2
    go_wp2_with (first | (refine wpList_map_look hKI hKI hMI hZI rfl (m := .tmp 18) (x := .tmp 19) rfl (HM2.out.mp.alloc _) rfl rfl HWA.out ?_; rw [HV.out]) | (refine wpList_map_look hKI hKI hMI hZI rfl (m := .tmp 34) (x := .tmp 35) rfl (HM2.out.mp.alloc _) rfl rfl HWA.out ?_; rw [HV.out]))
    go_ret
    have hbl : Below w2.heap.size w2 (w2.alloc (.cells #[.int .i64 hh.k, .int .i64 hh.c, .int .i64 hh.f] 55)) := (Below.refl _ _).alloc (Nat.le_refl _) _
    rw [HE.out, HKK.out]
    exact ⟨rfl, HM2.out.below hbl, (Kp.of_below HB2.out).trans (Kp.of_below (S := fun _ => False) hbl) fun _ _ h => h.elim⟩
  | false =>
    have HV := Lib.hid (mkF_no hk)
    have HKK := Lib.hid hk
    by_cases h3 : hh.k = 3
    · have HE : Hid (m.keepW sg wl a = wl ++ [a]) := Lib.hid (by
        unfold Mm.keepW
        unfold Keeps at hk
        rw [Bool.or_eq_false_iff] at hk
        rw [if_pos ⟨hk.1, hk.2, by rw [← HHH.out]; exact h3⟩])
      have e3 : (hh.k == 3) = true := by simp [h3]
      clear h3 hk
      go_enter Tryz.func65, Tryz.ntmps65
      go_wp2_with fail
      refine cH.mono ?_
      rintro e w2 ⟨rfl, hb⟩
      have HB2 := Lib.hid (HB.out.trans (hb.mono HB.out.size))
      have hm2 := HM.out.below hb
      have HM2 : Hid (MkR w2 Bm g b m sg wl) := Lib.hid hm2
      have H2 := Lib.hid (H.out.below hb)
      have hq2 := HQ.out.below hb HQ.out.lt
      have c0 : w2.cell? ⟨g, 0, none⟩ = some (.map (some b)) := hm2.hd.cell 0
      have q0 : w2.cell? ⟨w.heap.size, 0, none⟩ = some (.pointer (some ⟨g1, 0, none⟩)) := hq2.cell 0
      have q1 : w2.cell? ⟨w.heap.size, 1, none⟩ = some (.pointer (some ⟨g2, 0, none⟩)) := hq2.cell 1
      have hgl := hm2.hd.lt
      have hql := hq2.lt
      have hne : w2.heap.size ≠ g := by omega
      have hne2 : w2.heap.size ≠ w.heap.size := by omega
      have hbl : Below w2.heap.size w2 (w2.alloc (.cells #[.int .i64 hh.k, .int .i64 hh.c, .int .i64 hh.f] 55)) := (Below.refl _ _).alloc (Nat.le_refl _) _
      have cP := put_any (H2.out.below hbl) (MkR0.below HM2.out hbl) (by have := HL.out; omega) (wSum_rg m (sg ++ wl)).1 (by have := (wSum_rg m (sg ++ wl)).2; have := HL.out; omega) a 1 HA.out (.inl rfl)
      have HBL := Lib.hid hbl
      clear hb cH hm2 hbl hq2
      go_wp2_with (refine wpList_map_look hKI hKI hMI hZI rfl (m := .tmp 18) (x := .tmp 19) rfl (HM2.out.mp.alloc _) rfl rfl HWA.out ?_; rw [HV.out]; dsimp only [Option.getD_none])
      refine cP.mono ?_
      rintro e w3 ⟨rfl, hm3, hk3⟩
      have HM3 := Lib.hid hm3
      have HK3 := Lib.hid hk3
      have d0 : w3.cell? ⟨g, 0, none⟩ = some (.map (some b)) := hm3.hd.cell 0
      clear hm3 hk3 cP
      have HU : Hid ((updZ (mkF sg wl) a 1 a).getD 0 = 1) := Lib.hid (by unfold updZ; rw [if_pos rfl]; rfl)
      go_wp2_with (refine wpList_map_look hKI hKI hMI hZI rfl (m := .tmp 34) (x := .tmp 35) rfl HM3.out.mp rfl rfl HWA.out ?_; rw [HU.out])
      go_ret
      rw [HE.out]
      refine ⟨ret_bool ?_, MkR.putW HM3.out HKK.out, ((Kp.of_below HB2.out).trans (Kp.of_below (S := fun _ => False) HBL.out) fun _ _ h => h.elim).trans HK3.out fun _ _ h => h⟩
      unfold Keeps
      simp
    · have HE : Hid (m.keepW sg wl a = wl) := Lib.hid (by
        unfold Mm.keepW
        rw [if_neg]
        rintro ⟨_, _, h4⟩
        rw [← HHH.out] at h4
        exact h3 h4)
      have e3 : (hh.k == 3) = false := by simp [h3]
      clear h3 hk
      go_enter Tryz.func65, Tryz.ntmps65
      go_wp2_with fail
      refine cH.mono ?_
      rintro e w2 ⟨rfl, hb⟩
      have HB2 := Lib.hid (HB.out.trans (hb.mono HB.out.size))
      have hm2 := HM.out.below hb
      have HM2 : Hid (MkR w2 Bm g b m sg wl) := Lib.hid hm2
      have c0 : w2.cell? ⟨g, 0, none⟩ = some (.map (some b)) := hm2.hd.cell 0
      have hgl := hm2.hd.lt
      have hne : w2.heap.size ≠ g := by omega
      clear hb cH hm2
      go_wp2_with (first | (refine wpList_map_look hKI hKI hMI hZI rfl (m := .tmp 18) (x := .tmp 19) rfl (HM2.out.mp.alloc _) rfl rfl HWA.out ?_; rw [HV.out]; dsimp only [Option.getD_none]) | (refine wpList_map_look hKI hKI hMI hZI rfl (m := .tmp 34) (x := .tmp 35) rfl (HM2.out.mp.alloc _) rfl rfl HWA.out ?_; rw [HV.out]; dsimp only [Option.getD_none]))
      go_ret
      have hbl : Below w2.heap.size w2 (w2.alloc (.cells #[.int .i64 hh.k, .int .i64 hh.c, .int .i64 hh.f] 55)) := (Below.refl _ _).alloc (Nat.le_refl _) _
      rw [HE.out, HKK.out]
      exact ⟨rfl, HM2.out.below hbl, (Kp.of_below HB2.out).trans (Kp.of_below (S := fun _ => False) hbl) fun _ _ h => h.elim⟩
end
end Go.Proofs.YtjpaogapclfajaaGreat
