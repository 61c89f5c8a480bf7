/- Parts of the proof: MarkV. -/
import Derived.Deep.AppendLies
import Derived.Maps.AppendAt
import Derived.Test.YtjpaogapclfajaaGreatBa14
set_option linter.unusedVariables false
set_option linter.unusedSimpArgs false
set_option linter.unusedSectionVars false
namespace Go.Proofs.YtjpaogapclfajaaGreat
open Go.RowKit Go.Maps
attribute [local go_sem] Oper.semAt_some
set_option maxRecDepth 100000
theorem Tryz.infoI : (Tryz.prog.info? 3).map (fun i => (i.zero, i.size, i.bytes)) = some (some (.int .i64 0), 1, 8) := by kernel_rfl
/-- the row behind block N does not lie in block T -/
def ApartR (w : World) (N T : Nat) : Prop := ∀ v, w.cell? ⟨N, 0, none⟩ = some v → v.ownBlock ≠ some T
/-- what the closure leaves alone -/
structure FR (Ns g b : Nat) (w w' : World) : Prop where
 sz : w.heap.size ≤ w'.heap.size
 bk : ∀ T, T < w.heap.size → T ≠ g → T ≠ b → T ≠ Ns → ApartR w Ns T → w'.heap[T]? = w.heap[T]? ∧ ApartR w' Ns T
section
variable {Ns g b : Nat} {w w1 w2 : World}
theorem FR.refl : FR Ns g b w w := ⟨Nat.le_refl _, fun T _ _ _ _ h => ⟨rfl, h⟩⟩
theorem FR.trans (h : FR Ns g b w w1) (h' : FR Ns g b w1 w2) : FR Ns g b w w2 :=
 ⟨Nat.le_trans h.sz h'.sz, fun T h0 h1 h2 h3 h4 => by
  obtain ⟨e1, a1⟩ := h.bk T h0 h1 h2 h3 h4
  obtain ⟨e2, a2⟩ := h'.bk T (Nat.lt_of_lt_of_le h0 h.sz) h1 h2 h3 a1
  exact ⟨e2.trans e1, a2⟩⟩
theorem FR.kp (hk : Kp (fun k => k = g ∨ k = b) w w1) (hN : Ns < w.heap.size) (h1 : Ns ≠ g) (h2 : Ns ≠ b) : FR Ns g b w w1 :=
 ⟨hk.size, fun T h0 t1 t2 _ h4 => ⟨hk.block T h0 (fun e => e.elim t1 t2), fun v hv => h4 v (by
  rw [← hv]
  exact (World.cell?_of_block (w := w) (a := ⟨Ns, 0, none⟩) (hk.block Ns hN fun e => e.elim h1 h2)).symm)⟩⟩
theorem FR.below (hb : Below w.heap.size w w1) (hN : Ns < w.heap.size) : FR Ns g b w w1 :=
 ⟨hb.size, fun T h0 _ _ _ h4 => ⟨hb.block T h0, fun v hv => h4 v (by
  rw [← hv]
  exact (World.cell?_of_block (w := w) (a := ⟨Ns, 0, none⟩) (hb.block Ns hN)).symm)⟩⟩
end
theorem ownRow_bk {w : World} {B g n s : Nat} {e t : TypeId} {V : Value} {xs : List Value} {c : Array Value} (hl : w.ownsRow B e s V n xs) (h : Bk w g t c) (ht : t ≠ e) : V.ownBlock ≠ some g := fun he => by
 obtain ⟨_, ⟨rfl, _⟩ | ⟨g2, cap, cur, rfl, _, h4, _⟩⟩ := hl
 ·cases he
 ·injection he with he
  change g2 = g at he
  rw [he] at h4
  unfold Bk at h
  rw [h] at h4
  injection h4 with h4
  injection h4 with _ h4
  exact ht h4
theorem Bk.neT {w : World} {g g' : Nat} {t t' : TypeId} {C C' : Array Value} (h : Bk w g t C) (h' : Bk w g' t' C') (ht : t ≠ t') : g ≠ g' := fun e => by
 subst e
 unfold Bk at h h'
 rw [h] at h'
 cases h'
 exact ht rfl
/-- the world of the closure -/
structure VR (w : World) (B B1 Nm Nx Ns g b g1 gy : Nat) (V1 V2 : Value) (m : Mm) (k : List Int × List Int) : Prop where
 bm : Bk w Nm 27 #[.pointer (some ⟨g1, 0, none⟩), .pointer (some ⟨gy, 0, none⟩)]
 bx : Bk w Nx 36 #[.pointer (some ⟨g, 0, none⟩)]
 mr : MR w B1 g1 gy V1 V2 m
 kr : MkR w B g b m k.2 []
 bs : ∃ v, Bk w Ns 23 #[v] ∧ w.ownsRow B 3 1 v k.1.length (ints k.1)
 ns : B ≤ Ns
 ki : m.MkI k
section
variable {w w' : World} {B B1 Nm Nx Ns g b g1 gy : Nat} {V1 V2 : Value} {m : Mm} {k : List Int × List Int}
theorem VR.below (h : VR w B B1 Nm Nx Ns g b g1 gy V1 V2 m k) (hb : Below w.heap.size w w') : VR w' B B1 Nm Nx Ns g b g1 gy V1 V2 m k :=
 ⟨h.bm.below hb h.bm.lt, h.bx.below hb h.bx.lt, h.mr.below hb, MkR0.below h.kr hb, let ⟨v, h1, h2⟩ := h.bs; ⟨v, h1.below hb h1.lt, own_local h2 fun q hq => hb.block q (h2.lt q hq).2⟩, h.ns, h.ki⟩
theorem VR.nsLt (h : VR w B B1 Nm Nx Ns g b g1 gy V1 V2 m k) : Ns < w.heap.size := let ⟨_, h1, _⟩ := h.bs; h1.lt
theorem VR.nsG (h : VR w B B1 Nm Nx Ns g b g1 gy V1 V2 m k) : Ns ≠ g ∧ Ns ≠ b := let ⟨_, h1, _⟩ := h.bs; ⟨h1.neT h.kr.hd (by decide), h.kr.mp.ne_bk h1⟩
/-- an object, marked -/
theorem VR.push {w2 w3 : World} {v v' : Value} {a : Int} {o : Obj} (h : VR w B B1 Nm Nx Ns g b g1 gy V1 V2 m k) (hki : m.MkI (k.1 ++ [a], k.2 ++ [a]))
  (hbs : Bk w Ns 23 #[v]) (hown : w.ownsRow B 3 1 v k.1.length (ints k.1))
  (hm2 : MkR w2 B g b m (k.2 ++ [a]) []) (hk2 : Kp (fun k => k = g ∨ k = b) w w2) (hown3 : w3.ownsRow B 3 1 v' (k.1.length + 1) (ints k.1 ++ [.int .i64 a])) (hg3 : (w2.alloc o).grownBy w3 v.ownBlock) (hloc : v'.ownBlock = v.ownBlock ∨ v'.ownBlock = some (w2.alloc o).heap.size) :
  VR (w3.setCell ⟨Ns, 0, none⟩ v') B B1 Nm Nx Ns g b g1 gy V1 V2 m (k.1 ++ [a], k.2 ++ [a]) ∧ FR Ns g b w (w3.setCell ⟨Ns, 0, none⟩ v') ∧ Below B w (w3.setCell ⟨Ns, 0, none⟩ v') := by
 obtain ⟨n1, n2⟩ := h.nsG
 have hbg := h.kr.ge
 have hbb := h.kr.gm
 have hvB : ∀ q, v.ownBlock = some q → B ≤ q := fun q hq => (hown.lt q hq).1
 have hNl := hbs.lt
 have vNm : v.ownBlock ≠ some Nm := ownRow_bk hown h.bm (by decide)
 have vNx : v.ownBlock ≠ some Nx := ownRow_bk hown h.bx (by decide)
 have vg : v.ownBlock ≠ some g := ownRow_bk hown h.kr.hd (by decide)
 have vNs : v.ownBlock ≠ some Ns := ownRow_bk hown hbs (by decide)
 have vb : v.ownBlock ≠ some b := h.kr.mp.ne_own hown
 have sz2 := hk2.size
 have sz3 := hg3.size
 simp only [World.size_alloc] at sz3
 have kp : ∀ q, q < w.heap.size → q ≠ g → q ≠ b → v.ownBlock ≠ some q → w3.heap[q]? = w.heap[q]? := fun q h0 h1 h2 h3 => by
  rw [hg3.block q (by simp; omega) (fun e => h3 e.symm), Below.heap_alloc _ _ _ (by omega), hk2.block q h0 (fun e => e.elim h1 h2)]
 have hkp : Kp (fun q => q = g ∨ q = b ∨ v.ownBlock = some q) w w3 := ⟨hg3.os.trans hk2.os, hg3.tape.trans hk2.tape, hg3.output.trans hk2.output, by omega, fun q h0 h1 => kp q h0 (fun e => h1 (.inl e)) (fun e => h1 (.inr (.inl e))) (fun e => h1 (.inr (.inr e)))⟩
 have hkS : Kp (fun q => q = g ∨ q = b ∨ v.ownBlock = some q ∨ q = Ns) w (w3.setCell ⟨Ns, 0, none⟩ v') := (hkp.mono fun q _ e => e.elim .inl fun e => e.elim (fun e => .inr (.inl e)) fun e => .inr (.inr (.inl e))).trans (Kp.setCell (S := fun q => q = Ns) w3 ⟨Ns, 0, none⟩ v' rfl) fun q _ e => .inr (.inr (.inr e))
 have nbS : ∀ {g' : Nat} {t : TypeId} {cs : Array Value}, Bk w g' t cs → t ≠ 103 → t ≠ 23 → t ≠ 3 → ¬ (g' = g ∨ g' = b ∨ v.ownBlock = some g' ∨ g' = Ns) := fun hb t1 t2 t3 e => by
  rcases e with rfl | rfl | e | rfl
  ·exact Bk.neT hb h.kr.hd t1 rfl
  ·exact h.kr.mp.ne_bk hb rfl
  ·exact ownRow_bk hown hb t3 e
  ·exact Bk.neT hb hbs t2 rfl
 have noS : ∀ {V : Value} {g' : Nat} {s : Spc}, SpR w B1 g' s V → ∀ q, V.ownBlock = some q → ¬ (q = g ∨ q = b ∨ v.ownBlock = some q ∨ q = Ns) := fun hs q hq e => by
  rcases e with rfl | rfl | e | rfl
  ·exact hs.own_ne h.kr.hd (by decide) hq
  ·exact h.kr.mp.ne_own hs.own hq
  ·obtain ⟨_, ⟨rfl, _⟩ | ⟨g', cap, cur, rfl, _, h4, _⟩⟩ := hown
   ·cases e
   ·injection e with e
    subst e
    exact hs.own_ne (show Bk w _ 3 cur from h4) (by decide) hq
  ·exact hs.own_ne hbs (by decide) hq
 have hbs3 : Bk w3 Ns 23 #[v] := hbs.kp hkp fun e => e.elim n1 fun e => e.elim n2 vNs
 have hm3 : MkR w3 B g b m (k.2 ++ [a]) [] := by
  have hgl := hm2.hd.lt
  have hbl := hm2.mp.lt
  have eg : w3.heap[g]? = w2.heap[g]? := by rw [hg3.block g (by simp; omega) (fun e => vg e.symm), Below.heap_alloc _ _ _ (by omega)]
  have eb : w3.heap[b]? = w2.heap[b]? := by rw [hg3.block b (by simp; omega) (fun e => vb e.symm), Below.heap_alloc _ _ _ (by omega)]
  exact ⟨eg.trans hm2.hd, hm2.mp.block eb, hm2.ge, hm2.gm⟩
 have v'Ns : ∀ q, v'.ownBlock = some q → q ≠ Ns := fun q hq e => by
  subst e
  rcases hloc with hl | hl
  ·rw [hl] at hq; exact vNs hq
  ·rw [hl] at hq
   have := Option.some.inj hq
   simp only [World.size_alloc] at this
   omega
 refine ⟨⟨h.bm.kp hkS (nbS h.bm (by decide) (by decide) (by decide)), h.bx.kp hkS (nbS h.bx (by decide) (by decide) (by decide)), ?_, ?_, ⟨v', hbs3.set 0 v', ?_⟩, h.ns, hki⟩, ⟨by simp [World.setCell]; omega, fun T h0 t1 t2 t3 h4 => ?_⟩, ?_⟩
 ·exact ⟨h.mr.o.kp hkS (nbS h.mr.o.hd (by decide) (by decide) (by decide)) (noS h.mr.o), h.mr.y.kp hkS (nbS h.mr.y.hd (by decide) (by decide) (by decide)) (noS h.mr.y), h.mr.ok, h.mr.gg, h.mr.vv⟩
 ·exact ⟨hm3.hd.far (Ne.symm n1) _, hm3.mp.setCell (Ne.symm n2) _, hm3.ge, hm3.gm⟩
 ·have e : ints (k.1 ++ [a]) = ints k.1 ++ [.int .i64 a] := by simp [ints]
  rw [e, List.length_append, List.length_singleton]
  exact own_local hown3 fun q hq => Below.heap_setCell _ _ _ _ (v'Ns q hq)
 ·have hv := h4 v (hbs.cell 0)
  refine ⟨(Below.heap_setCell _ _ _ _ t3).trans (kp T h0 t1 t2 hv), fun u hu => ?_⟩
  have e : (w3.setCell ⟨Ns, 0, none⟩ v').cell? ⟨Ns, 0, none⟩ = some v' := (hbs3.set 0 v').cell 0
  rw [e] at hu
  obtain rfl := Option.some.inj hu
  rcases hloc with hl | hl
  ·rw [hl]; exact hv
  ·rw [hl]
   intro e2
   have := Option.some.inj e2
   simp only [World.size_alloc] at this
   omega
 ·have hBw : B ≤ w.heap.size := by have := h.ns; omega
  refine hkS.toBelow (Below.refl _ w) hBw fun q hq => ?_
  rcases hq with rfl | rfl | e | rfl
  ·exact hbg
  ·exact hbb
  ·exact hvB q e
  ·exact h.ns
end
def visE (o : Option (List Int × List Int)) : Int := match o with | some _ => 0 | none => 11
def VisP (w : World) (B B1 Nm Nx Ns g b g1 gy : Nat) (V1 V2 : Value) (m : Mm) (o : Option (List Int × List Int)) (e : Ending) (w' : World) : Prop :=
 e = .returned (.int .i64 (visE o)) ∧ Below B w w' ∧ (∀ k', o = some k' → VR w' B B1 Nm Nx Ns g b g1 gy V1 V2 m k') ∧ FR Ns g b w w'
section
variable {w : World} {B B1 Nm Nx Ns g b g1 gy : Nat} {V1 V2 : Value} {m : Mm} {k : List Int × List Int} {l : List Int} {A : Option Addr} {c : Nat}
set_option maxHeartbeats 4000000 in
theorem visit_any (h : VR w B B1 Nm Nx Ns g b g1 gy V1 V2 m k) (hs : Sl w 1 A l.length (wds l)) (hlc : l.length ≤ c) (hll : l.length ≤ 1000000000) (hu : ∀ x ∈ l, U64 x) (hA : ∀ b' o, A = some ⟨b', o, none⟩ → b' ≠ g ∧ b' ≠ b ∧ b' ≠ Ns ∧ ApartR w Ns b') (hm : m.size ≤ 20000000) :
  Calls Tryz.prog 60 #[.slice A l.length c, .pointer (some ⟨Nm, 0, none⟩), .pointer (some ⟨Nx, 0, none⟩), .pointer (some ⟨Ns, 0, none⟩)] w (VisP w B B1 Nm Nx Ns g b g1 gy V1 V2 m (m.vis l k)) := by
 obtain ⟨R, hR⟩ : ∃ R, R = m.vis l k := ⟨_, rfl⟩
 rw [← hR]
 have HR := Lib.hid hR
 have H := Lib.hid h
 have HS := Lib.hid hs
 have HU := Lib.hid hu
 have HA := Lib.hid hA
 have HM := Lib.hid hm
 clear h hR hs hu hA hm
 go_enter Tryz.func60, Tryz.ntmps60
 go_wp2_with fail
 go_loopw [13] (fun i wr => ∃ (j : Nat) (kj : List Int × List Int), i = .int .i64 (j : Int) ∧ j ≤ l.length ∧ VR wr B B1 Nm Nx Ns g b g1 gy V1 V2 m kj ∧ Hid (R = m.vis (l.drop j) kj) ∧ FR Ns g b w wr ∧ Below B w wr) (fun i _ => l.length - (intOf i).toNat)
 case atStart => exact ⟨0, k, rfl, Nat.zero_le _, H.out, Lib.hid HR.out, FR.refl, Below.refl _ _⟩
 case round =>
  obtain ⟨j, kj, rfl, hj, hv, HRj, hfr, hbw⟩ := hrel
  have HV := Lib.hid hv
  have HF := Lib.hid hfr
  have HB := Lib.hid hbw
  clear hv hfr hbw
  by_cases hlt : j < l.length
  ·obtain ⟨bb, oo, rfl, hb1, hc1⟩ := HS.out.get hlt
   have t1 : l[j]? = some l[j] := List.getElem?_eq_getElem hlt
   have hdr : l.drop j = l[j] :: l.drop (j + 1) := List.drop_eq_getElem_cons hlt
   have e0 : w.cell? ⟨bb, oo + j, none⟩ = some (.int .u64 l[j]) := hc1 j _ (wds_get t1)
   obtain ⟨a1, a2, a3, a4⟩ := HA.out bb oo rfl
   have e1 : wr.cell? ⟨bb, oo + j, none⟩ = some (.int .u64 l[j]) := (World.cell?_of_block (w := w) (a := ⟨bb, oo + j, none⟩) (HF.out.bk bb hb1 a1 a2 a3 a4).1).trans e0
   have HXU := Lib.hid (HU.out l[j] (List.getElem_mem hlt))
   have HRJ : Hid (R = m.vis (l[j] :: l.drop (j + 1)) kj) := Lib.hid (by rw [← hdr]; exact HRj.out)
   generalize l[j] = x at e1 t1 HXU HRJ
   have hcc : j < c := by omega
   have m0 : wr.cell? ⟨Nm, 0, none⟩ = some (.pointer (some ⟨g1, 0, none⟩)) := HV.out.bm.cell 0
   have m1 : wr.cell? ⟨Nm, 1, none⟩ = some (.pointer (some ⟨gy, 0, none⟩)) := HV.out.bm.cell 1
   have cR := refers_any HV.out.mr HXU.out
   clear hdr e0 a1 a2 a3 a4 hc1 t1 HRj
   cases hr : m.rfr x with
   | none =>
    rw [hr] at cR
    unfold rfrV at cR
    have HE : Hid (R = none) := Lib.hid (by rw [HRJ.out]; unfold Mm.vis Mm.vis1; rw [hr])
    clear hr
    go_wp2_with fail
    refine cR.mono ?_
    rintro e w1 ⟨rfl, hb⟩
    have HB1 := Lib.hid hb
    clear hb cR
    go_wp2_with fail
    go_ret
    rw [HE.out]
    exact ⟨rfl, HB.out.trans (HB1.out.mono (by have := HV.out.ns; have := HV.out.nsLt; omega)), (fun k' hk' => by cases hk'), HF.out.trans (FR.below HB1.out HV.out.nsLt)⟩
   | some o =>
    cases o with
    | none =>
     rw [hr] at cR
     unfold rfrV at cR
     have HE : Hid (R = m.vis (l.drop (j + 1)) kj) := Lib.hid (by rw [HRJ.out]; conv => lhs; unfold Mm.vis Mm.vis1; rw [hr])
     clear hr
     go_wp2_with fail
     refine cR.mono ?_
     rintro e w1 ⟨rfl, hb⟩
     have HB1 := Lib.hid hb
     clear hb cR
     go_wp2_with fail
     go_roundw
     case rel => exact ⟨j + 1, kj, by go_num, by omega, HV.out.below HB1.out, HE, HF.out.trans (FR.below HB1.out HV.out.nsLt), HB.out.trans (HB1.out.mono (by have := HV.out.ns; have := HV.out.nsLt; omega))⟩
     case measure => simp [intOf]; omega
    | some a =>
     rw [hr] at cR
     unfold rfrV at cR
     have hab : 0 ≤ a ∧ a ≤ 4294967296 := by
      have h1 := Mm.hdr_has (Mm.rfr_hdr hr).1
      unfold Mm.has Mm.sp at h1
      split at h1
      ·have := HV.out.mr.ok.old_lt h1; omega
      ·have := HV.out.mr.ok.yng_ge h1; omega
     have HWA : Hid ((Lit.int .i64 a).wf = true) := Lib.hid (WalkArith.wf_i64 (by omega))
     have x0 : wr.cell? ⟨Nx, 0, none⟩ = some (.pointer (some ⟨g, 0, none⟩)) := HV.out.bx.cell 0
     have g0 : wr.cell? ⟨g, 0, none⟩ = some (.map (some b)) := HV.out.kr.hd.cell 0
     have gl := HV.out.kr.hd.lt
     have xl := HV.out.bx.lt
     have ml := HV.out.bm.lt
     cases hct : kj.2.contains a with
     | true =>
      have HE : Hid (R = m.vis (l.drop (j + 1)) kj) := Lib.hid (by rw [HRJ.out]; conv => lhs; unfold Mm.vis Mm.vis1; rw [hr]; simp only; rw [if_pos hct])
      have HV2 : Hid ((mkF kj.2 [] a).getD 0 = 2) := Lib.hid (by rw [mkF_strong hct]; rfl)
      clear hr hct
      go_wp2_with fail
      refine cR.mono ?_
      rintro e w1 ⟨rfl, hb⟩
      have HB1 := Lib.hid hb
      have HV1 := Lib.hid (HV.out.below hb)
      have x01 : w1.cell? ⟨Nx, 0, none⟩ = some (.pointer (some ⟨g, 0, none⟩)) := HV1.out.bx.cell 0
      have g01 : w1.cell? ⟨g, 0, none⟩ = some (.map (some b)) := HV1.out.kr.hd.cell 0
      clear hb cR
      have hlk := HV1.out.kr.mp.look hKI hKI hMI hZI HWA.out
      rw [HV2.out] at hlk
      go_wp2_with fail
      go_roundw
      case rel => exact ⟨j + 1, kj, by go_num, by omega, HV1.out, HE, HF.out.trans (FR.below HB1.out HV.out.nsLt), HB.out.trans (HB1.out.mono (by have := HV.out.ns; have := HV.out.nsLt; omega))⟩
      case measure => simp [intOf]; omega
     | false =>
      have HKI := Lib.hid (Mm.vis1_push HV.out.ki hr hct)
      have HE : Hid (R = m.vis (l.drop (j + 1)) (kj.1 ++ [a], kj.2 ++ [a])) := Lib.hid (by rw [HRJ.out]; conv => lhs; unfold Mm.vis Mm.vis1; rw [hr]; simp only; rw [if_neg (by rw [hct]; simp)])
      have HV2 : Hid ((mkF kj.2 [] a).getD 0 = 0) := Lib.hid (by rw [mkF_no (by unfold Keeps; rw [hct]; rfl)]; rfl)
      clear hr hct
      go_wp2_with fail
      refine cR.mono ?_
      rintro e w1 ⟨rfl, hb⟩
      have HB1 := Lib.hid hb
      have HV1 := Lib.hid (HV.out.below hb)
      have x01 : w1.cell? ⟨Nx, 0, none⟩ = some (.pointer (some ⟨g, 0, none⟩)) := HV1.out.bx.cell 0
      have g01 : w1.cell? ⟨g, 0, none⟩ = some (.map (some b)) := HV1.out.kr.hd.cell 0
      have m01 : w1.cell? ⟨Nm, 0, none⟩ = some (.pointer (some ⟨g1, 0, none⟩)) := HV1.out.bm.cell 0
      have m11 : w1.cell? ⟨Nm, 1, none⟩ = some (.pointer (some ⟨gy, 0, none⟩)) := HV1.out.bm.cell 1
      have hlen : kj.1.length ≤ kj.2.length ∧ kj.2.length ≤ 20000000 := by
       have h1 := HV.out.ki.len
       have h2 := nodup_len kj.1 kj.2 HV.out.ki.sn HV.out.ki.sub
       have := HM.out
       omega
      have HLEN := Lib.hid hlen
      have hws := wSum_rg m (kj.2 ++ [])
      have cP := put_any HV1.out.mr HV1.out.kr (by simp; omega) hws.1 (by have := hws.2; simp at this ⊢; omega) a 2 (by omega) (.inr rfl)
      obtain ⟨v, hbs, hown⟩ := HV1.out.bs
      have HBS := Lib.hid hbs
      have HOWN := Lib.hid hown
      clear hb cR hws hbs hown hlen
      have hlk := HV1.out.kr.mp.look hKI hKI hMI hZI HWA.out
      rw [HV2.out] at hlk
      go_wp2_with fail
      refine cP.mono ?_
      rintro e w2 ⟨rfl, hm2, hk2⟩
      have HM2 := Lib.hid (MkR.putS hm2)
      have HK2 := Lib.hid hk2
      have nsg := HV1.out.nsG
      have hbs2 : Bk w2 Ns 23 #[v] := HBS.out.kp hk2 fun e => e.elim nsg.1 nsg.2
      have HOWN2 : Hid (w2.ownsRow B 3 1 v kj.1.length (ints kj.1)) := Lib.hid (own_local HOWN.out fun q hq => hk2.block q (HOWN.out.lt q hq).2 fun e => by
       rcases e with rfl | rfl
       ·exact ownRow_bk HOWN.out HV1.out.kr.hd (by decide) hq
       ·exact HV1.out.kr.mp.ne_own HOWN.out hq)
      have HBS2 := Lib.hid hbs2
      have s0 : w2.cell? ⟨Ns, 0, none⟩ = some v := hbs2.cell 0
      have sl := hbs2.lt
      obtain ⟨i0, hi, hz0, hz1, hz2⟩ := info_parts Tryz.infoI
      have HI := Lib.hid (And.intro hi (And.intro hz0 (And.intro hz1 hz2)))
      have hBl : B ≤ w2.heap.size := by have := HV.out.ns; omega
      have hl1 : kj.1.length ≤ 20000000 := by have := HLEN.out; omega
      have vNs := Lib.hid (ownRow_bk HOWN.out HBS.out (by decide))
      clear hm2 hk2 cP nsg hbs2 hi hz0 hz1 hz2
      go_wp2_with (at_builtin; refine wpList_append_own_at _ rfl (.tmp 41) (.tmp 43) 23 rfl B 3 i0 (.int .i64 0) 1 8 Tryz.underlying23 HI.out.1 HI.out.2.1 HI.out.2.2.1 HI.out.2.2.2 rfl (by decide) v kj.1.length _ rfl (HOWN2.out.alloc _) ⟨w2.heap.size, 0, none⟩ 1 1 [.int .i64 a] rfl rfl (cell_one_new _ _ _) (by simp [Value.oneCell']) (by unfold maxLen; omega) (by omega) (by simp; omega) ?_; intro v' w3 hown3 hg3 _ hloc; have HOWN3 := Lib.hid hown3; have HG3 := Lib.hid hg3; have HLOC := Lib.hid hloc; obtain ⟨gq, cp, rfl, _, _⟩ := hown3.form (by omega); have cw3 : w3.cell? ⟨Ns, 0, none⟩ = some v := ((HBS2.out.alloc _).grown hg3 (fun e => vNs.out e.symm)).cell 0; have fw3 : w3.frozen? ⟨Ns, 0, none⟩ = false := ((HBS2.out.alloc _).grown hg3 (fun e => vNs.out e.symm)).free 0; clear hown3 hg3 hloc)
      have hp := VR.push HV1.out HKI.out HBS.out HOWN.out HM2.out HK2.out HOWN3.out HG3.out HLOC.out
      have HP := Lib.hid hp
      clear hp
      go_roundw
      case rel => exact ⟨j + 1, _, by go_num, by omega, HP.out.1, HE, (HF.out.trans (FR.below HB1.out HV.out.nsLt)).trans HP.out.2.1, (HB.out.trans (HB1.out.mono (by have := HV.out.ns; have := HV.out.nsLt; omega))).trans HP.out.2.2⟩
      case measure => simp [intOf]; omega
  ·have HE : Hid (R = some kj) := Lib.hid (by rw [HRj.out, List.drop_eq_nil_of_le (by omega)]; rfl)
   go_wp2_with fail
   go_ret
   rw [HE.out]
   exact ⟨rfl, HB.out, (fun k' hk' => by cases hk'; exact HV.out), HF.out⟩
end
end Go.Proofs.YtjpaogapclfajaaGreat
