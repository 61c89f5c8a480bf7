/- Package barrier: Store. -/
import Derived.Test.YtaecdpijpdfboaaGreatObj
namespace Go.Proofs.YtaecdpijpdfboaaGreat
set_option linter.unusedVariables false
set_option linter.unusedSimpArgs false
set_option linter.unusedSectionVars false
open Go.RowKit Go.Sort
set_option maxRecDepth 100000

/-- a store past the barrier: the error, the memory, the cards -/
def bst (m : Mm) (cs : List Int) (a i x : Int) : Int × Mm × List Int :=
  if m.fldE a i ≠ 0 then (m.fldE a i, m, cs)
  else if m.old.has a = true ∧ ygW x = true then ((cardMark cs (a + 2 + i)).1, m.put (a + 2 + i) x, (cardMark cs (a + 2 + i)).2)
  else (0, m.put (a + 2 + i) x, cs)
theorem Mm.put_old_has (m : Mm) (a x b : Int) : (m.put a x).old.has b = m.old.has b := by
  unfold Mm.put
  split
  · exact Spc.put_has _ _ _ _
  · rfl
theorem Mm.Ok.setF_ok {m : Mm} (h : m.Ok) {a i x : Int} (he : m.fldE a i = 0) : m.setF a i x = (0, m.put (a + 2 + i) x) := by
  obtain ⟨h1, h2, h3, h4⟩ := Mm.fldE_ok he
  have hv := Mm.hdr_valid h1
  have h5 := (wH_ge hv).2
  have h6 := (h.has_near h1 (j := 2 + i) (by omega) (by omega)).1
  unfold Mm.setF
  rw [if_neg (by simp [he])]
  unfold Mm.store
  rw [show a + 2 + i = a + (2 + i) by omega, if_pos h6]
theorem MapT.ne_bk {P : Program} {k e t : TypeId} {w : World} {b n g : Nat} {f : Int → Bool} {cs : Array Value} (h : MapT P k e w b n f) (hk : Bk w g t cs) : g ≠ b := fun e => by
  subst e
  obtain ⟨D, ⟨es, clock, h1, _⟩, _⟩ := h
  unfold Bk at hk
  rw [h1] at hk
  cases hk
section
variable {w w' : World} {B g1 g2 gt b n : Nat} {V1 V2 : Value} {m : Mm} {cs : List Int}
/-- memory and cards are apart -/
theorem MR.kp_card (h : MR w B g1 g2 V1 V2 m) (hc : CR w B gt b n cs) (hk : Kp (fun k => k = b) w w') : MR w' B g1 g2 V1 V2 m :=
  ⟨h.o.kp hk (hc.mp.ne_bk h.o.hd) fun k hk' e => by
      subst e
      obtain ⟨_, ⟨rfl, _⟩ | ⟨g', cap, cur, rfl, _, h4, _⟩⟩ := h.o.own
      · cases hk'
      · injection hk' with hk'; exact hc.mp.ne_bk (show Bk w g' _ cur from h4) hk',
   h.y.kp hk (hc.mp.ne_bk h.y.hd) fun k hk' e => by
      subst e
      obtain ⟨_, ⟨rfl, _⟩ | ⟨g', cap, cur, rfl, _, h4, _⟩⟩ := h.y.own
      · cases hk'
      · injection hk' with hk'; exact hc.mp.ne_bk (show Bk w g' _ cur from h4) hk', h.ok, h.gg, h.vv⟩
theorem SpR.own_map {g : Nat} {s : Spc} {V : Value} (h : SpR w B g s V) (hc : CR w B gt b n cs) : V.ownBlock ≠ some b ∧ V.ownBlock ≠ some gt := by
  refine ⟨fun hk' => ?_, h.own_ne hc.hd (by decide)⟩
  obtain ⟨_, ⟨rfl, _⟩ | ⟨g', cap, cur, rfl, _, h4, _⟩⟩ := h.own
  · cases hk'
  · injection hk' with hk'; exact hc.mp.ne_bk (show Bk w g' _ cur from h4) hk'
theorem CR.kp_mem (hc : CR w B gt b n cs) (h : MR w B g1 g2 V1 V2 m) (hk : Kp (memS V1 V2) w w') : CR w' B gt b n cs :=
  hc.kp hk (fun e => e.elim (h.o.own_map hc).2 (h.y.own_map hc).2) (fun e => e.elim (h.o.own_map hc).1 (h.y.own_map hc).1)
def BstP (w : World) (B g1 g2 : Nat) (V1 V2 : Value) (gt b n : Nat) (r : Int × Mm × List Int) (e : Ending) (w' : World) : Prop :=
  e = .returned (.int .i64 r.1) ∧ MR w' B g1 g2 V1 V2 r.2.1 ∧ CR w' B gt b (n + 1) r.2.2 ∧ Kp (fun k => memS V1 V2 k ∨ k = b) w w'
theorem CR.mono (hc : CR w B gt b n cs) {k : Nat} (hk : n ≤ k) : CR w B gt b k cs := ⟨hc.hd, hc.mp.mono hk, hc.ge, hc.gm⟩
set_option maxHeartbeats 1000000 in
theorem BStore_any (h : MR w B g1 g2 V1 V2 m) (hc : CR w B gt b n cs) (hn : n < 1000000) (a i : Int) {x : Int} (hx : U64 x) : Calls Tryz.prog 21 #[memV g1 g2, .pointer (some ⟨gt, 0, none⟩), .int .i64 a, .int .i64 i, .int .u64 x] w (BstP w B g1 g2 V1 V2 gt b n (bst m cs a i x)) := by
  have HB := Lib.hid (boxM w g1 g2)
  have cF := MSetField_any (h.below HB.out) a i hx
  have H := Lib.hid h
  have HC := Lib.hid hc
  have HX := Lib.hid hx
  have cY := fun w => young_any hx w
  by_cases he : m.fldE a i = 0
  · rw [h.ok.setF_ok he] at cF
    have hbst : bst m cs a i x = if m.old.has a = true ∧ ygW x = true then ((cardMark cs (a + 2 + i)).1, m.put (a + 2 + i) x, (cardMark cs (a + 2 + i)).2) else (0, m.put (a + 2 + i) x, cs) := by
      unfold bst; rw [if_neg (by simp [he])]
    have HBST := Lib.hid hbst
    have hoh := Lib.hid (Mm.put_old_has m (a + 2 + i) x a)
    obtain ⟨h1, h2, h3, h4⟩ := Mm.fldE_ok he
    have hv := vH_bound (Mm.hdr_valid h1)
    obtain ⟨ab0, ab1⟩ : 0 ≤ a ∧ a < 4294967296 := by
      have := Mm.hdr_has h1
      unfold Mm.has Mm.sp at this
      split at this
      · have := h.ok.old_lt this; omega
      · have := h.ok.yng_ge this; omega
    have hi : i ≤ 30 := by omega
    obtain ⟨m1, hm1⟩ : ∃ m1, m1 = m.put (a + 2 + i) x := ⟨_, rfl⟩
    rw [← hm1] at cF HBST hoh
    unfold memV at *
    clear h hc he hx hbst h1 h2 h4 hv hm1
    go_enter Tryz.func21, Tryz.ntmps21
    go_wp2_with fail
    refine cF.mono ?_
    rintro e w1 ⟨rfl, hs, hk⟩
    have hq : Bk w1 w.heap.size 31 #[.pointer (some ⟨g1, 0, none⟩), .pointer (some ⟨g2, 0, none⟩)] := (Bk.new _ _ _).kp hk fun e => by
      rcases e with e | e
      · have := (H.out.o.own.lt _ e).2; omega
      · have := (H.out.y.own.lt _ e).2; omega
    have HS := Lib.hid hs
    have HK : Hid (Kp (memS V1 V2) w w1) := Lib.hid ((Kp.of_below HB.out).trans hk fun _ _ h => h)
    have k0 : w1.cell? ⟨w.heap.size, 0, none⟩ = some (.pointer (some ⟨g1, 0, none⟩)) := hq.cell 0
    have cC := Contains_any hs.o a
    rw [hoh.out] at cC
    clear hs hk hq
    cases ho : m.old.has a with
    | false =>
      rw [ho] at cC
      have HN := Lib.hid (show ¬ (m.old.has a = true ∧ ygW x = true) by rw [ho]; simp)
      clear ho
      go_wp2_with fail
      refine cC.mono ?_
      rintro e w2 ⟨rfl, hb⟩
      have HB2 := Lib.hid hb
      clear hb
      go_wp2_with fail
      go_ret
      have hc1 := (HC.out.kp_mem H.out HK.out).below HB2.out
      rw [HBST.out, if_neg HN.out]
      exact ⟨rfl, HS.out.below HB2.out, hc1.mono (by omega), (HK.out.trans (Kp.of_below (S := fun _ => False) HB2.out) fun _ _ h => h.elim).mono fun k _ h => .inl h⟩
    | true =>
      rw [ho] at cC
      cases hy : ygW x with
      | false =>
        rw [hy] at cY
        have HN := Lib.hid (show ¬ (m.old.has a = true ∧ ygW x = true) by rw [hy]; simp)
        clear ho hy
        go_wp2_with fail
        refine cC.mono ?_
        rintro e w2 ⟨rfl, hb⟩
        have HB2 := Lib.hid hb
        clear hb
        go_wp2_with fail
        refine (cY _).mono ?_
        rintro e w3 ⟨rfl, rfl⟩
        go_wp2_with fail
        go_ret
        have hc1 := (HC.out.kp_mem H.out HK.out).below HB2.out
        rw [HBST.out, if_neg HN.out]
        exact ⟨rfl, HS.out.below HB2.out, hc1.mono (by omega), (HK.out.trans (Kp.of_below (S := fun _ => False) HB2.out) fun _ _ h => h.elim).mono fun k _ h => .inl h⟩
      | true =>
        rw [hy] at cY
        have HN := Lib.hid (show (m.old.has a = true ∧ ygW x = true) from ⟨ho, hy⟩)
        clear ho hy
        go_wp2_with fail
        refine cC.mono ?_
        rintro e w2 ⟨rfl, hb⟩
        have HB2 := Lib.hid hb
        clear hb
        go_wp2_with fail
        refine (cY _).mono ?_
        rintro e w3 ⟨rfl, rfl⟩
        have hc1 := (HC.out.kp_mem H.out HK.out).below HB2.out
        have cM := Mark_any hc1 hn (a + 2 + i)
        have HC1 := Lib.hid hc1
        clear hc1
        go_wp2_with fail
        refine cM.mono ?_
        rintro e w4 ⟨rfl, hm4, hk4⟩
        have HM4 := Lib.hid hm4
        have HK4 := Lib.hid hk4
        clear hm4 hk4
        go_wp2_with fail
        go_ret
        rw [HBST.out, if_pos HN.out]
        exact ⟨rfl, (HS.out.below HB2.out).kp_card HC1.out HK4.out, HM4.out, ((HK.out.trans (Kp.of_below (S := fun _ => False) HB2.out) fun _ _ h => h.elim).mono fun k _ h => .inl h).trans HK4.out fun k _ h => .inr h⟩
  · have HBST := Lib.hid (show bst m cs a i x = (m.fldE a i, m, cs) by unfold bst; rw [if_pos he])
    rw [show m.setF a i x = (m.fldE a i, m) by unfold Mm.setF; rw [if_pos he]] at cF
    obtain ⟨er, her⟩ : ∃ er, er = m.fldE a i := ⟨_, rfl⟩
    rw [← her] at cF HBST he
    have e1 : (er == 0) = false := by simp [he]
    have e2 : (er != 0) = true := by simp [he]
    unfold memV at *
    clear h hc he hx her
    go_enter Tryz.func21, Tryz.ntmps21
    go_wp2_with fail
    refine cF.mono ?_
    rintro e w1 ⟨rfl, hs, hk⟩
    have HS := Lib.hid hs
    have HK : Hid (Kp (memS V1 V2) w w1) := Lib.hid ((Kp.of_below HB.out).trans hk fun _ _ h => h)
    clear hs hk
    go_wp2_with fail
    go_ret
    rw [HBST.out]
    exact ⟨rfl, HS.out, (HC.out.kp_mem H.out HK.out).mono (by omega), HK.out.mono fun k _ h => .inl h⟩
end
end Go.Proofs.YtaecdpijpdfboaaGreat
