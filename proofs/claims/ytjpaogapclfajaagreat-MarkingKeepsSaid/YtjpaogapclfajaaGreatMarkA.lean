/- Package marking: memory, refers, put, keep, Has, Weak, Words, Keep; package object: Field. (printed by gen/marka.py) -/
import Derived.Test.YtjpaogapclfajaaGreatMarkP
import Derived.Test.YtjpaogapclfajaaGreatNew
import Derived.Test.YtjpaogapclfajaaGreatFwd
import Derived.Test.YtjpaogapclfajaaGreatMap
import Derived.Test.YtjpaogapclfajaaGreatSepF
namespace Go.Proofs.YtjpaogapclfajaaGreat
set_option linter.unusedVariables false
set_option linter.unusedSimpArgs false
set_option linter.unusedSectionVars false
open Go.RowKit Go.Maps
attribute [local go_sem] Oper.semAt_some
set_option maxRecDepth 100000

theorem hKI : Tryz.prog.underlying 3 = some (.int .i64) := by kernel_rfl
theorem hMI : Tryz.prog.underlying 101 = some (.map 3 3) := by kernel_rfl
theorem hZI (w : World) : (zeroValue 3).run Tryz.prog w = .ok (.int .i64 0) w := by kernel_rfl
/-- the memory whose old space is a space -/
def Mm.one (s : Spc) : Mm := ⟨s, Spc.new 16777216 0⟩
theorem Mm.one_ok {s : Spc} (h : s.Ok) (hb : s.base = 0) (hl : s.limit ≤ 16777216) : (Mm.one s).Ok :=
  ⟨h, ⟨(fun x hx => by cases hx), (by show (0 : Int) ≤ 16777216; decide), (by show (16777216 : Int) + 0 ≤ 16777216 + 0; decide), (by show (16777216 : Int) + 0 ≤ 4294967296; decide)⟩, hb, hl, rfl⟩
def mkF (sg wl : List Int) (a : Int) : Option Int := if sg.contains a = true then some 2 else if wl.contains a = true then some 1 else none
def wSum (m : Mm) (l : List Int) : Int := (l.map fun a => wH (m.hdr a).2).sum
theorem wSum_nil (m : Mm) : wSum m [] = 0 := rfl
theorem wSum_app (m : Mm) (l l' : List Int) : wSum m (l ++ l') = wSum m l + wSum m l' := by simp [wSum]
theorem wSum_one (m : Mm) (a : Int) : wSum m [a] = wH (m.hdr a).2 := by simp [wSum]
theorem wSum_rg (m : Mm) : ∀ l : List Int, 0 ≤ wSum m l ∧ wSum m l ≤ 32 * l.length
  | [] => ⟨Int.le_refl _, Int.le_refl _⟩
  | a :: l => by
    have h1 := wSum_rg m l
    have h2 := wH_bound (m.hdr a).2
    have e : wSum m (a :: l) = wH (m.hdr a).2 + wSum m l := by simp [wSum]
    rw [e, List.length_cons]
    omega
/-- the marks of a space: block g, its map in block b, from strengths f, with ws words -/
structure MkR0 (w : World) (B g b n : Nat) (f : Int → Option Int) (ws : Int) : Prop where
  hd : Bk w g 103 #[.map (some b), .int .i64 ws]
  mp : MapI Tryz.prog 3 3 w b n f
  ge : B ≤ g
  gm : B ≤ b
theorem MapI.ne_bk {P : Program} {k e t : TypeId} {w : World} {b n g : Nat} {f : Int → Option Int} {cs : Array Value} (h : MapI P k e w b n f) (hk : Bk w g t cs) : g ≠ b := fun e => by
  subst e
  obtain ⟨D, ⟨es, clock, h1, _⟩, _⟩ := h
  unfold Bk at hk
  rw [h1] at hk
  cases hk
theorem MapI.ne_own {P : Program} {k e t : TypeId} {w : World} {b n B s m : Nat} {f : Int → Option Int} {V : Value} {xs : List Value} (h : MapI P k e w b n f) (hl : w.ownsRow B t s V m xs) : V.ownBlock ≠ some b := fun he => by
  obtain ⟨_, ⟨rfl, _⟩ | ⟨g', cap, cur, rfl, _, h4, _⟩⟩ := hl
  · cases he
  · injection he with he; exact h.ne_bk (show Bk w g' _ cur from h4) he
theorem MkR0.below {w w' : World} {B g b n : Nat} {f : Int → Option Int} {ws : Int} (h : MkR0 w B g b n f ws) (hb : Below w.heap.size w w') : MkR0 w' B g b n f ws :=
  ⟨h.hd.below hb h.hd.lt, h.mp.block (hb.block b h.mp.lt), h.ge, h.gm⟩
theorem MkR0.kp {S : Nat → Prop} {w w' : World} {B g b n : Nat} {f : Int → Option Int} {ws : Int} (h : MkR0 w B g b n f ws) (hk : Kp S w w') (h1 : ¬ S g) (h2 : ¬ S b) : MkR0 w' B g b n f ws :=
  ⟨h.hd.kp hk h1, h.mp.block (hk.block b h.mp.lt h2), h.ge, h.gm⟩
theorem MR.kpMk {w w' : World} {B Bk_ g1 g2 g b n : Nat} {V1 V2 : Value} {m : Mm} {f : Int → Option Int} {ws : Int} (h : MR w B g1 g2 V1 V2 m) (hm : MkR0 w Bk_ g b n f ws) (hk : Kp (fun k => k = g ∨ k = b) w w') : MR w' B g1 g2 V1 V2 m := by
  have nb : ∀ {g' : Nat} {t : TypeId} {cs : Array Value}, Bk w g' t cs → t ≠ 103 → ¬ (g' = g ∨ g' = b) := fun hb ht e => by
    rcases e with rfl | rfl
    · unfold Bk at hb; rw [hm.hd] at hb; cases hb; exact ht rfl
    · exact hm.mp.ne_bk hb rfl
  have no : ∀ {V : Value} {g' : Nat} {s : Spc}, SpR w B g' s V → ∀ k, V.ownBlock = some k → ¬ (k = g ∨ k = b) := fun hs k hk' e => by
    rcases e with rfl | rfl
    · exact hs.own_ne hm.hd (by decide) hk'
    · exact hm.mp.ne_own hs.own hk'
  exact ⟨h.o.kp hk (nb h.o.hd (by decide)) (no h.o), h.y.kp hk (nb h.y.hd (by decide)) (no h.y), h.ok, h.gg, h.vv⟩
theorem Bk.kpMk {w w' : World} {B g b n g' : Nat} {t : TypeId} {cs : Array Value} {f : Int → Option Int} {ws : Int} (h : Bk w g' t cs) (ht : t ≠ 103) (hm : MkR0 w B g b n f ws) (hk : Kp (fun k => k = g ∨ k = b) w w') : Bk w' g' t cs :=
  h.kp hk fun e => by
    rcases e with rfl | rfl
    · unfold Bk at h; rw [hm.hd] at h; cases h; exact ht rfl
    · exact hm.mp.ne_bk h rfl

section
variable {w : World} {B g1 g2 : Nat} {V1 V2 : Value} {m : Mm}
def fwV (m : Mm) (a i : Int) : Value := if m.fldE a i = 0 then .tuple #[.int .u64 ((m.at_ (a + 2 + i)).getD 0), .int .i64 0] else .tuple #[.int .u64 0, .int .i64 (m.fldE a i)]
set_option maxHeartbeats 1000000 in
theorem MField_any (h : MR w B g1 g2 V1 V2 m) (a i : Int) : Calls Tryz.prog 64 #[memV g1 g2, .int .i64 a, .int .i64 i] w fun e w' => e = .returned (fwV m a i) ∧ Below w.heap.size w w' := by
  have HB := Lib.hid (boxM w g1 g2)
  have cF := field_any (h.below HB.out) a i
  unfold fldV at cF
  by_cases he : m.fldE a i = 0
  · obtain ⟨h1, h2, h3, h4⟩ := Mm.fldE_ok he
    have h5 := (wH_ge (Mm.hdr_valid h1)).2
    have h6 := (h.ok.has_near h1 (j := 2 + i) (by omega) (by omega)).1
    rw [show a + (2 + i) = a + 2 + i by omega] at h6
    obtain ⟨_, _, _, x, _, hx⟩ := Spc.at_some (s := m.sp (a + 2 + i)) h6
    have hx : m.at_ (a + 2 + i) = some x := hx
    have hk := Lib.hid (show fwV m a i = .tuple #[.int .u64 x, .int .i64 0] by unfold fwV; rw [if_pos he, hx]; rfl)
    rw [if_pos he, he] at cF
    have cQ := Lib.hid fun w1 (hb : Below w.heap.size w w1) => MLoad_any (h.below hb) (a + 2 + i)
    rw [hx] at cQ
    unfold memV atV at *
    clear h he hx h1 h2 h3 h4 h5 h6
    go_enter Tryz.func64, Tryz.ntmps64
    go_wp2_with fail
    refine cF.mono ?_
    rintro e w1 ⟨rfl, hb⟩
    have HB1 := Lib.hid (HB.out.trans (hb.mono HB.out.size))
    have q := box_kept hb
    have k0 := q 0
    have k1 := q 1
    simp only [List.getElem?_toArray, List.getElem?_cons_zero, List.getElem?_cons_succ] at k0 k1
    clear hb q
    go_wp2_with fail
    refine (cQ.out _ HB1.out).mono ?_
    rintro e w2 ⟨rfl, hb⟩
    have HB2 := Lib.hid (HB1.out.trans (hb.mono HB1.out.size))
    clear hb
    go_wp2_with fail
    go_ret2
    rw [hk.out]
    exact ⟨rfl, HB2.out⟩
  · have hk := Lib.hid (show fwV m a i = .tuple #[.int .u64 0, .int .i64 (m.fldE a i)] by unfold fwV; rw [if_neg he])
    rw [if_neg he] at cF
    obtain ⟨er, her⟩ : ∃ er, er = m.fldE a i := ⟨_, rfl⟩
    rw [← her] at cF hk he
    have e1 : (er == 0) = false := by simp [he]
    have e2 : (er != 0) = true := by simp [he]
    unfold memV at *
    clear h her he
    go_enter Tryz.func64, Tryz.ntmps64
    go_wp2_with fail
    refine cF.mono ?_
    rintro e w1 ⟨rfl, hb⟩
    have HB1 := Lib.hid (HB.out.trans (hb.mono HB.out.size))
    clear hb
    go_wp2_with fail
    go_ret2
    rw [hk.out]
    exact ⟨rfl, HB1.out⟩
def MemoryP (w : World) (B g : Nat) (V : Value) (s : Spc) (e : Ending) (w' : World) : Prop := ∃ gy, e = .returned (.agg #[.pointer (some ⟨g, 0, none⟩), .pointer (some ⟨gy, 0, none⟩)]) ∧ MR w' B g gy V (.slice none 0 0) (Mm.one s) ∧ w.heap.size ≤ gy ∧ Below w.heap.size w w'
set_option maxHeartbeats 1000000 in
theorem memory_any {s : Spc} {g : Nat} {V : Value} (h : SpR w B g s V) (hb0 : s.base = 0) (hl : s.limit ≤ 16777216) (hB : B ≤ w.heap.size) : Calls Tryz.prog 59 #[.pointer (some ⟨g, 0, none⟩)] w (MemoryP w B g V s) := by
  have cN := fun w => SNew_any (w := w) 16777216 0 (.inr rfl) (by decide) (by decide)
  simp only [Int.add_zero] at cN
  have HB : Hid (Below w.heap.size w (w.alloc (.cells #[.pointer none, .pointer none] 27))) := Lib.hid ((Below.refl _ _).alloc (Nat.le_refl _) _)
  have hq : Bk (w.alloc (.cells #[.pointer none, .pointer none] 27)) w.heap.size 27 #[.pointer none, .pointer none] := Bk.new _ _ _
  have HQ := Lib.hid hq
  have H := Lib.hid h
  have HOK := Lib.hid (Mm.one_ok h.ok hb0 hl)
  have HBw := Lib.hid hB
  have hgl := h.hd.lt
  have HGL := Lib.hid hgl
  clear h hq hb0 hl hB hgl
  go_enter Tryz.func59, Tryz.ntmps59
  go_wp2_with fail
  refine (cN _).mono ?_
  rintro e w1 ⟨gy, rfl, hy, hb⟩
  have HB1 := Lib.hid (HB.out.trans (hb.mono HB.out.size))
  have HY := Lib.hid hy
  have hq1 := HQ.out.below hb HQ.out.lt
  have d0 : w1.cell? ⟨w.heap.size, 0, none⟩ = some (.pointer none) := hq1.cell 0
  have d1 : w1.cell? ⟨w.heap.size, 1, none⟩ = some (.pointer none) := hq1.cell 1
  have f0 : w1.frozen? ⟨w.heap.size, 0, none⟩ = false := hq1.free 0
  have f1 : w1.frozen? ⟨w.heap.size, 1, none⟩ = false := hq1.free 1
  clear hb hy hq1 cN
  go_wp2_with fail
  have hge := HY.out.ge
  simp only [World.size_alloc] at hge
  have hbb := (HB1.out.setCell (p := ⟨w.heap.size, 0, none⟩) (Nat.le_refl _) (.pointer (some ⟨g, 0, none⟩))).setCell (p := ⟨w.heap.size, 1, none⟩) (Nat.le_refl _) (.pointer (some ⟨gy, 0, none⟩))
  have hbw := HBw.out
  have hgl := HGL.out
  refine bodyPost_ret (v := .agg #[.pointer (some ⟨g, 0, none⟩), .pointer (some ⟨gy, 0, none⟩)]) (by simp [results, Tryz.results59, go_sem, d0, d1]) rfl ⟨gy, rfl, ⟨H.out.below hbb, ?_, HOK.out, by omega, fun k hk => by intro h2; cases h2⟩, by omega, hbb⟩
  exact ⟨(HY.out.hd.far (p := ⟨w.heap.size, 0, none⟩) (by show gy ≠ w.heap.size; omega) _).far (p := ⟨w.heap.size, 1, none⟩) (by show gy ≠ w.heap.size; omega) _, ⟨rfl, .inl ⟨rfl, rfl⟩⟩, by omega, HY.out.u, HY.out.b0, HY.out.lim, HY.out.l0⟩
def rfrV (o : Option (Option Int)) : Value := match o with
  | none => .tuple #[.int .i64 0, .bool false, .int .i64 11]
  | some none => .tuple #[.int .i64 0, .bool false, .int .i64 0]
  | some (some a) => .tuple #[.int .i64 a, .bool true, .int .i64 0]
set_option maxHeartbeats 1000000 in
theorem refers_any (h : MR w B g1 g2 V1 V2 m) {x : Int} (hx : U64 x) : Calls Tryz.prog 61 #[.agg #[.pointer (some ⟨g1, 0, none⟩), .pointer (some ⟨g2, 0, none⟩)], .int .u64 x] w fun e w' => e = .returned (rfrV (m.rfr x)) ∧ Below w.heap.size w w' := by
  have HB := Lib.hid (boxM w g1 g2)
  have cA := fun w => Address_any hx w
  unfold adrV at cA
  cases hd : adr x with
  | none =>
    have HR := Lib.hid (show m.rfr x = some none by unfold Mm.rfr; rw [hd])
    simp only [hd] at cA
    clear h hd
    go_enter Tryz.func61, Tryz.ntmps61
    go_wp2_with fail
    refine (cA _).mono ?_
    rintro e w1 ⟨rfl, rfl⟩
    go_wp2_with fail
    go_ret3
    rw [HR.out]
    exact ⟨rfl, HB.out⟩
  | some a =>
    simp only [hd] at cA
    have cR := MResolve_any (h.below HB.out) a
    have q : Hid (Bk (w.alloc (.cells #[.pointer (some ⟨g1, 0, none⟩), .pointer (some ⟨g2, 0, none⟩)] 27)) w.heap.size 27 #[.pointer (some ⟨g1, 0, none⟩), .pointer (some ⟨g2, 0, none⟩)]) := Lib.hid (Bk.new _ _ _)
    by_cases he : (m.resolve a).2 = 0
    · have HR := Lib.hid (show m.rfr x = some (some (m.resolve a).1) by unfold Mm.rfr; rw [hd]; simp only; rw [if_pos he])
      rw [he] at cR
      obtain ⟨r, hto⟩ : ∃ r, r = (m.resolve a).1 := ⟨_, rfl⟩
      rw [← hto] at cR HR
      unfold memV at cR
      clear h hd he hto
      go_enter Tryz.func61, Tryz.ntmps61
      go_wp2_with fail
      refine (cA _).mono ?_
      rintro e w1 ⟨rfl, rfl⟩
      go_wp2_with fail
      refine cR.mono ?_
      rintro e w2 ⟨rfl, hb⟩
      have HB2 := Lib.hid (HB.out.trans (hb.mono HB.out.size))
      clear hb
      go_wp2_with fail
      go_ret3
      rw [HR.out]
      exact ⟨rfl, HB2.out⟩
    · have HR := Lib.hid (show m.rfr x = none by unfold Mm.rfr; rw [hd]; simp only; rw [if_neg he])
      obtain ⟨r, hto⟩ : ∃ r, r = (m.resolve a).1 := ⟨_, rfl⟩
      obtain ⟨er, her⟩ : ∃ er, er = (m.resolve a).2 := ⟨_, rfl⟩
      rw [← hto, ← her] at cR
      rw [← her] at he
      have e1 : (er == 0) = false := by simp [he]
      have e2 : (er != 0) = true := by simp [he]
      unfold memV at cR
      clear h hd he hto her
      go_enter Tryz.func61, Tryz.ntmps61
      go_wp2_with fail
      refine (cA _).mono ?_
      rintro e w1 ⟨rfl, rfl⟩
      go_wp2_with fail
      refine cR.mono ?_
      rintro e w2 ⟨rfl, hb⟩
      have HB2 := Lib.hid (HB.out.trans (hb.mono HB.out.size))
      clear hb
      go_wp2_with fail
      go_ret3
      rw [HR.out]
      exact ⟨rfl, HB2.out⟩
end
section
variable {w : World} {B g1 g2 Bm g b n : Nat} {V1 V2 : Value} {m : Mm} {f : Int → Option Int} {ws : Int}
theorem MHdr_of (h : MR w B g1 g2 V1 V2 m) (a : Int) : Calls Tryz.prog 63 #[.agg #[.pointer (some ⟨g1, 0, none⟩), .pointer (some ⟨g2, 0, none⟩)], .int .i64 a] w fun e w' => e = .returned (.tuple #[.agg #[.int .i64 (m.hdr a).2.k, .int .i64 (m.hdr a).2.c, .int .i64 (m.hdr a).2.f], .int .i64 (m.hdr a).1]) ∧ Below w.heap.size w w' := MHeader_any h a
def PutP (w : World) (Bm g b n : Nat) (f : Int → Option Int) (ws : Int) (e : Ending) (w' : World) : Prop := e = .returned (.tuple #[]) ∧ MkR0 w' Bm g b n f ws ∧ Kp (fun k => k = g ∨ k = b) w w'
set_option maxHeartbeats 2000000 in
theorem put_any (h : MR w B g1 g2 V1 V2 m) (hm : MkR0 w Bm g b n f ws) (hn : n < 1000000000) (w0 : 0 ≤ ws) (w1 : ws ≤ 100000000000) (a st : Int) (ha : -9223372036854775808 ≤ a ∧ a ≤ 9223372036854775807) (hs : st = 1 ∨ st = 2) :
    Calls Tryz.prog 62 #[.pointer (some ⟨g, 0, none⟩), .agg #[.pointer (some ⟨g1, 0, none⟩), .pointer (some ⟨g2, 0, none⟩)], .int .i64 a, .int .i64 st] w (PutP w Bm g b (n + 1) (updZ f a st) (ws + wH (m.hdr a).2)) := by
  have HB := Lib.hid (boxM w g1 g2)
  have cH := MHdr_of (h.below HB.out) a
  have HM := Lib.hid (hm.below HB.out)
  have H := Lib.hid (h.below HB.out)
  have HWA : Hid ((Lit.int .i64 a).wf = true) := Lib.hid (WalkArith.wf_i64 (by omega))
  have HWS : Hid ((Lit.int .i64 st).wf = true) := Lib.hid (WalkArith.wf_i64 (by omega))
  have hwb := wH_bound (m.hdr a).2
  obtain ⟨hh, hhh⟩ : ∃ hh, hh = (m.hdr a).2 := ⟨_, rfl⟩
  obtain ⟨er, her⟩ : ∃ er, er = (m.hdr a).1 := ⟨_, rfl⟩
  rw [← hhh] at hwb
  rw [← hhh, ← her] at cH
  rw [← hhh]
  have HHH := Lib.hid hhh
  clear h hm ha hs her hhh
  go_enter Tryz.func62, Tryz.ntmps62
  go_wp2_with fail
  refine cH.mono ?_
  rintro e w2 ⟨rfl, hb⟩
  have HB2 := Lib.hid (HB.out.trans (hb.mono HB.out.size))
  have hm2 := HM.out.below hb
  have HM2 := Lib.hid hm2
  have c0 : w2.cell? ⟨g, 0, none⟩ = some (.map (some b)) := hm2.hd.cell 0
  have hgl := hm2.hd.lt
  have hne : w2.heap.size ≠ g := by omega
  clear hb cH hm2
  go_wp2_with (refine wpList_map_put hKI hKI hMI rfl (m := .tmp 19) (x := .tmp 20) (v := .tmp 21) rfl (HM2.out.mp.alloc _) (by unfold maxLen; omega) rfl rfl rfl HWA.out HWS.out ?_; intro w3 hm3 hg3; have HM3 := Lib.hid hm3; have HG3 := Lib.hid hg3; clear hm3 hg3)
  have hbl : Below w2.heap.size w2 (w2.alloc (.cells #[.int .i64 hh.k, .int .i64 hh.c, .int .i64 hh.f] 55)) := (Below.refl _ _).alloc (Nat.le_refl _) _
  have hgm : some g ≠ some b := fun e => HM2.out.mp.ne_bk HM2.out.hd (Option.some.inj e)
  have HGK : Hid (Bk w3 g 103 #[.map (some b), .int .i64 ws]) := Lib.hid ((HM2.out.hd.below hbl HM2.out.hd.lt).grown HG3.out hgm)
  have HHK : Hid (Bk w3 w2.heap.size 55 #[.int .i64 hh.k, .int .i64 hh.c, .int .i64 hh.f]) := Lib.hid ((Bk.new w2 55 #[.int .i64 hh.k, .int .i64 hh.c, .int .i64 hh.f]).grown HG3.out (fun e => by have := HM2.out.mp.lt; rw [← Option.some.inj e] at this; omega))
  have HKP : Hid (Kp (fun k => k = g ∨ k = b) w w3) := Lib.hid (((Kp.of_below HB2.out).trans (Kp.of_below (S := fun _ => False) hbl) fun _ _ h => h.elim).trans (Kp.of_grown (S := fun k => k = g ∨ k = b) HG3.out fun k hk => .inr (Option.some.inj hk).symm) fun _ _ h => h)
  have cW := fun w => Words_of hh w
  clear hbl c0 hgl hne HHH hgm
  generalize w2.heap.size = bh at *
  obtain ⟨wh, hwh⟩ : ∃ wh, wh = wH hh := ⟨_, rfl⟩
  rw [← hwh] at cW hwb ⊢
  clear hwh
  have hwr : IntKind.i64.wrap (ws + wh) = ws + wh := IntWalk.i64_in _ (by omega)

  refine wp_region_adds0 9 (fun i => ([[], [0], [1], [2], [], [4], [3, 5], [0], [7]] : List (List Nat)).getD i []) (EL [Ent.val (.pointer (some ⟨g, 0, none⟩)), Ent.val (.pointer (some ⟨g, 0, none⟩)), Ent.val (.pointer (some ⟨g, 1, none⟩)), Ent.val (.int .i64 ws), Ent.val (.agg #[.int .i64 hh.k, .int .i64 hh.c, .int .i64 hh.f]), Ent.val (.int .i64 wh), Ent.val (.int .i64 (ws + wh)), Ent.val (.pointer (some ⟨g, 0, none⟩)), Ent.val (.pointer (some ⟨g, 1, none⟩))]) (by kernel_rfl) (by kernel_rfl) (by kernel_rfl) (by kernel_rfl) (by rfl) ?_ ?_
  · intro i hi o ho vs w4 hb1 hgr
    rcases (show i = 0 ∨ i = 1 ∨ i = 2 ∨ i = 3 ∨ i = 4 ∨ i = 5 ∨ i = 6 ∨ i = 7 ∨ i = 8 by omega) with rfl | rfl | rfl | rfl | rfl | rfl | rfl | rfl | rfl <;> cases ho
    · clear hgr
      change Made _ (Adds _ _ _) (Sem.run _ (execOp (Act.eval (frm _ _ _ [])) _) _)
      simp only [frm]
      go_simp
      exact adds_val rfl
    · have h0 : vs 0 = _ := hgr 0 (by decide)
      clear hgr
      change Made _ (Adds _ _ _) (Sem.run _ (execOp (Act.eval (Act.put (frm _ _ _ []) (some 22) (vs 0))) _) _)
      simp only [frm, h0]
      go_simp
      exact adds_val rfl
    · have h1 : vs 1 = _ := hgr 1 (by decide)
      clear hgr
      change Made _ (Adds _ _ _) (Sem.run _ (execOp (Act.eval (Act.put (frm _ _ _ []) (some 23) (vs 1))) _) _)
      simp only [frm, h1]
      go_simp
      exact adds_val rfl
    · have h2 : vs 2 = _ := hgr 2 (by decide)
      clear hgr
      change Made _ (Adds _ _ _) (Sem.run _ (execOp (Act.eval (Act.put (frm _ _ _ []) (some 24) (vs 2))) _) _)
      simp only [frm, h2]
      have hbk := HGK.out.below hb1 HGK.out.lt
      have c0 : w4.cell? ⟨g, 1, none⟩ = some (.int .i64 ws) := hbk.cell 1
      clear hbk
      go_simp
      exact adds_val rfl
    · clear hgr
      change Made _ (Adds _ _ _) (Sem.run _ (execOp (Act.eval (frm _ _ _ [])) _) _)
      simp only [frm]
      have hbk := HHK.out.below hb1 HHK.out.lt
      have c0 : w4.cell? ⟨bh, 0, none⟩ = some (.int .i64 hh.k) := hbk.cell 0
      have c1 : w4.cell? ⟨bh, 1, none⟩ = some (.int .i64 hh.c) := hbk.cell 1
      have c2 : w4.cell? ⟨bh, 2, none⟩ = some (.int .i64 hh.f) := hbk.cell 2
      clear hbk
      go_simp
      exact adds_val rfl
    · have h4 : vs 4 = _ := hgr 4 (by decide)
      clear hgr
      change Made _ (Adds _ _ _) (Sem.run _ (execOp (Act.eval (Act.put (frm _ _ _ []) (some 26) (vs 4))) _) _)
      simp only [frm, h4]
      go_simp
      exact adds_below (cW _)
    · have h3 : vs 3 = _ := hgr 3 (by decide)
      have h5 : vs 5 = _ := hgr 5 (by decide)
      clear hgr
      change Made _ (Adds _ _ _) (Sem.run _ (execOp (Act.eval (Act.put (Act.put (frm _ _ _ []) (some 27) (vs 5)) (some 25) (vs 3))) _) _)
      simp only [frm, h3, h5]
      go_simp
      exact adds_val rfl
    · have h0 : vs 0 = _ := hgr 0 (by decide)
      clear hgr
      change Made _ (Adds _ _ _) (Sem.run _ (execOp (Act.eval (Act.put (frm _ _ _ []) (some 22) (vs 0))) _) _)
      simp only [frm, h0]
      go_simp
      exact adds_val rfl
    · have h7 : vs 7 = _ := hgr 7 (by decide)
      clear hgr
      change Made _ (Adds _ _ _) (Sem.run _ (execOp (Act.eval (Act.put (frm _ _ _ []) (some 29) (vs 7))) _) _)
      simp only [frm, h7]
      go_simp
      exact adds_val rfl
  · intro vs w4 hb1 hall hap
    have h6 : vs 6 = _ := (hall 6 (by omega)).1
    have h8 : vs 8 = _ := (hall 8 (by omega)).1
    clear hall hap
    change wpList _ _ _ [_] (Act.put (Act.put (Act.put (Act.put (Act.put (Act.put (Act.put (Act.put (Act.put (frm _ _ _ []) (some 30) (vs 8)) (some 29) (vs 7)) (some 28) (vs 6)) (some 27) (vs 5)) (some 26) (vs 4)) (some 25) (vs 3)) (some 24) (vs 2)) (some 23) (vs 1)) (some 22) (vs 0)) _
    simp only [frm, h6, h8]
    have HGK4 := Lib.hid (HGK.out.below hb1 HGK.out.lt)
    have HKP4 := Lib.hid (HKP.out.trans (Kp.of_below (S := fun _ => False) hb1) fun _ _ h => h.elim)
    have HM4 := Lib.hid (HM3.out.block (hb1.block b HM3.out.lt))
    have hfz : w4.frozen? ⟨g, 1, none⟩ = false := HGK4.out.free 1
    have hcc : w4.cell? ⟨g, 1, none⟩ = some (.int .i64 ws) := HGK4.out.cell 1
    clear hb1
    go_wp2_with fail
    refine bodyPost_end (results_none rfl _ _ _) rfl ⟨rfl, ⟨HGK4.out.set 1 (.int .i64 (ws + wh)), HM4.out.setCell (fun e => HM2.out.mp.ne_bk HM2.out.hd e.symm) _, HM2.out.ge, HM2.out.gm⟩, (HKP4.out.trans (Kp.setCell (S := fun k => k = g ∨ k = b) w4 ⟨g, 1, none⟩ _ (.inl rfl)) fun _ _ h => h)⟩
end
end Go.Proofs.YtjpaogapclfajaaGreat
