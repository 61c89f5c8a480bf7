/- Parts of the proof: MarkA, StrP. -/
import Derived.Test.YtjpaogapclfajaaGreatBcA
import Derived.Test.YtjpaogapclfajaaGreatBc10
import Derived.Test.YtjpaogapclfajaaGreatBc11
import Derived.Test.YtjpaogapclfajaaGreatBc6
import Derived.Test.YtjpaogapclfajaaGreatBc7
set_option linter.unusedVariables false
set_option linter.unusedSimpArgs false
set_option linter.unusedSectionVars false
namespace Go.Proofs.YtjpaogapclfajaaGreat
open Go.RowKit Go.Maps
attribute [local go_sem] Oper.semAt_some
set_option maxRecDepth 100000
theorem hKI : Tryz.prog.underlying 3 = some (.int .i64) := by kernel_rfl
theorem hMI : Tryz.prog.underlying 101 = some (.map 3 3) := by kernel_rfl
theorem hZI (w : World) : (zeroValue 3).run Tryz.prog w = .ok (.int .i64 0) w := by kernel_rfl
/-- the memory whose old space is a space -/
def Mm.one (s : Spc) : Mm := ⟨s, Spc.new 16777216 0⟩
theorem Mm.one_ok {s : Spc} (h : s.Ok) (hb : s.base = 0) (hl : s.limit ≤ 16777216) : (Mm.one s).Ok :=
 ⟨h, ⟨(fun x hx => by cases hx), (by show (0 : Int) ≤ 16777216; decide), (by show (16777216 : Int) + 0 ≤ 16777216 + 0; decide), (by show (16777216 : Int) + 0 ≤ 4294967296; decide)⟩, hb, hl, rfl⟩
def mkF (sg wl : List Int) (a : Int) : Option Int := if sg.contains a = true then some 2 else if wl.contains a = true then some 1 else none
def wSum (m : Mm) (l : List Int) : Int := (l.map fun a => wH (m.hdr a).2).sum
theorem wSum_nil (m : Mm) : wSum m [] = 0 := rfl
theorem wSum_app (m : Mm) (l l' : List Int) : wSum m (l ++ l') = wSum m l + wSum m l' := by simp [wSum]
theorem wSum_one (m : Mm) (a : Int) : wSum m [a] = wH (m.hdr a).2 := by simp [wSum]
theorem wSum_rg (m : Mm) : ∀ l : List Int, 0 ≤ wSum m l ∧ wSum m l ≤ 32 * l.length
 | [] => ⟨Int.le_refl _, Int.le_refl _⟩
 | a :: l => by
  have h1 := wSum_rg m l
  have h2 := wH_bound (m.hdr a).2
  have e : wSum m (a :: l) = wH (m.hdr a).2 + wSum m l := by simp [wSum]
  rw [e, List.length_cons]
  omega
/-- the marks of a space: block g, its map in block b, from strengths f, with ws words -/
structure MkR0 (w : World) (B g b n : Nat) (f : Int → Option Int) (ws : Int) : Prop where
 hd : Bk w g 103 #[.map (some b), .int .i64 ws]
 mp : MapI Tryz.prog 3 3 w b n f
 ge : B ≤ g
 gm : B ≤ b
theorem MapI.ne_bk {P : Program} {k e t : TypeId} {w : World} {b n g : Nat} {f : Int → Option Int} {cs : Array Value} (h : MapI P k e w b n f) (hk : Bk w g t cs) : g ≠ b := fun e => by
 subst e
 obtain ⟨D, ⟨es, clock, h1, _⟩, _⟩ := h
 unfold Bk at hk
 rw [h1] at hk
 cases hk
theorem MapI.ne_own {P : Program} {k e t : TypeId} {w : World} {b n B s m : Nat} {f : Int → Option Int} {V : Value} {xs : List Value} (h : MapI P k e w b n f) (hl : w.ownsRow B t s V m xs) : V.ownBlock ≠ some b := fun he => by
 obtain ⟨_, ⟨rfl, _⟩ | ⟨g', cap, cur, rfl, _, h4, _⟩⟩ := hl
 ·cases he
 ·injection he with he; exact h.ne_bk (show Bk w g' _ cur from h4) he
theorem MkR0.below {w w' : World} {B g b n : Nat} {f : Int → Option Int} {ws : Int} (h : MkR0 w B g b n f ws) (hb : Below w.heap.size w w') : MkR0 w' B g b n f ws :=
 ⟨h.hd.below hb h.hd.lt, h.mp.block (hb.block b h.mp.lt), h.ge, h.gm⟩
theorem MkR0.kp {S : Nat → Prop} {w w' : World} {B g b n : Nat} {f : Int → Option Int} {ws : Int} (h : MkR0 w B g b n f ws) (hk : Kp S w w') (h1 : ¬ S g) (h2 : ¬ S b) : MkR0 w' B g b n f ws :=
 ⟨h.hd.kp hk h1, h.mp.block (hk.block b h.mp.lt h2), h.ge, h.gm⟩
theorem MR.kpMk {w w' : World} {B Bk_ g1 g2 g b n : Nat} {V1 V2 : Value} {m : Mm} {f : Int → Option Int} {ws : Int} (h : MR w B g1 g2 V1 V2 m) (hm : MkR0 w Bk_ g b n f ws) (hk : Kp (fun k => k = g ∨ k = b) w w') : MR w' B g1 g2 V1 V2 m := by
 have nb : ∀ {g' : Nat} {t : TypeId} {cs : Array Value}, Bk w g' t cs → t ≠ 103 → ¬ (g' = g ∨ g' = b) := fun hb ht e => by
  rcases e with rfl | rfl
  ·unfold Bk at hb; rw [hm.hd] at hb; cases hb; exact ht rfl
  ·exact hm.mp.ne_bk hb rfl
 have no : ∀ {V : Value} {g' : Nat} {s : Spc}, SpR w B g' s V → ∀ k, V.ownBlock = some k → ¬ (k = g ∨ k = b) := fun hs k hk' e => by
  rcases e with rfl | rfl
  ·exact hs.own_ne hm.hd (by decide) hk'
  ·exact hm.mp.ne_own hs.own hk'
 exact ⟨h.o.kp hk (nb h.o.hd (by decide)) (no h.o), h.y.kp hk (nb h.y.hd (by decide)) (no h.y), h.ok, h.gg, h.vv⟩
theorem Bk.kpMk {w w' : World} {B g b n g' : Nat} {t : TypeId} {cs : Array Value} {f : Int → Option Int} {ws : Int} (h : Bk w g' t cs) (ht : t ≠ 103) (hm : MkR0 w B g b n f ws) (hk : Kp (fun k => k = g ∨ k = b) w w') : Bk w' g' t cs :=
 h.kp hk fun e => by
  rcases e with rfl | rfl
  ·unfold Bk at h; rw [hm.hd] at h; cases h; exact ht rfl
  ·exact hm.mp.ne_bk h rfl
section
variable {w : World} {B g1 g2 : Nat} {V1 V2 : Value} {m : Mm}
def fwV (m : Mm) (a i : Int) : Value := if m.fldE a i = 0 then .tuple #[.int .u64 ((m.at_ (a + 2 + i)).getD 0), .int .i64 0] else .tuple #[.int .u64 0, .int .i64 (m.fldE a i)]
set_option maxHeartbeats 1000000 in
theorem MField_any (h : MR w B g1 g2 V1 V2 m) (a i : Int) : Calls Tryz.prog 64 #[memV g1 g2, .int .i64 a, .int .i64 i] w fun e w' => e = .returned (fwV m a i) ∧ Below w.heap.size w w' := by
 have HB := lh (boxM w g1 g2)
 have cF := field_any (h.below HB.out) a i
 unfold fldV at cF
 by_cases he : m.fldE a i = 0
 ·obtain ⟨h1, h2, h3, h4⟩ := Mm.fldE_ok he
  have h5 := (wH_ge (Mm.hdr_valid h1)).2
  have h6 := (h.ok.has_near h1 (j := 2 + i) (by omega) (by omega)).1
  rw [show a + (2 + i) = a + 2 + i by omega] at h6
  obtain ⟨_, _, _, x, _, hx⟩ := Spc.at_some (s := m.sp (a + 2 + i)) h6
  have hx : m.at_ (a + 2 + i) = some x := hx
  have hk := lh (show fwV m a i = .tuple #[.int .u64 x, .int .i64 0] by unfold fwV; rw [if_pos he, hx]; rfl)
  rw [if_pos he, he] at cF
  have cQ := lh fun w1 (hb : Below w.heap.size w w1) => MLoad_any (h.below hb) (a + 2 + i)
  rw [hx] at cQ
  unfold memV atV at *
  clear h he hx h1 h2 h3 h4 h5 h6
  go_enter Tryz.func64, Tryz.ntmps64
  go_wp2_with fail
  refine cF.mono ?_
  rintro e w1 ⟨rfl, hb⟩
  have HB1 := lh (HB.out.trans (hb.mono HB.out.size))
  have q := box_kept hb
  have k0 := q 0
  have k1 := q 1
  simp only [List.getElem?_toArray, List.getElem?_cons_zero, List.getElem?_cons_succ] at k0 k1
  clear hb q
  go_wp2_with fail
  refine (cQ.out _ HB1.out).mono ?_
  rintro e w2 ⟨rfl, hb⟩
  have HB2 := lh (HB1.out.trans (hb.mono HB1.out.size))
  clear hb
  go_wp2_with fail
  go_ret2
  rw [hk.out]
  exact ⟨rfl, HB2.out⟩
 ·have hk := lh (show fwV m a i = .tuple #[.int .u64 0, .int .i64 (m.fldE a i)] by unfold fwV; rw [if_neg he])
  rw [if_neg he] at cF
  obtain ⟨er, her⟩ : ∃ er, er = m.fldE a i := ⟨_, rfl⟩
  rw [← her] at cF hk he
  have e1 : (er == 0) = false := by simp [he]
  have e2 : (er != 0) = true := by simp [he]
  unfold memV at *
  clear h her he
  go_enter Tryz.func64, Tryz.ntmps64
  go_wp2_with fail
  refine cF.mono ?_
  rintro e w1 ⟨rfl, hb⟩
  have HB1 := lh (HB.out.trans (hb.mono HB.out.size))
  clear hb
  go_wp2_with fail
  go_ret2
  rw [hk.out]
  exact ⟨rfl, HB1.out⟩
def MemoryP (w : World) (B g : Nat) (V : Value) (s : Spc) (e : Ending) (w' : World) : Prop := ∃ gy, e = .returned (.agg #[.pointer (some ⟨g, 0, none⟩), .pointer (some ⟨gy, 0, none⟩)]) ∧ MR w' B g gy V (.slice none 0 0) (Mm.one s) ∧ w.heap.size ≤ gy ∧ Below w.heap.size w w'
set_option maxHeartbeats 1000000 in
theorem memory_any {s : Spc} {g : Nat} {V : Value} (h : SpR w B g s V) (hb0 : s.base = 0) (hl : s.limit ≤ 16777216) (hB : B ≤ w.heap.size) : Calls Tryz.prog 59 #[.pointer (some ⟨g, 0, none⟩)] w (MemoryP w B g V s) := by
 have cN := fun w => SNew_any (w := w) 16777216 0 (.inr rfl) (by decide) (by decide)
 simp only [Int.add_zero] at cN
 have HB : Hid (Below w.heap.size w (w.alloc (.cells #[.pointer none, .pointer none] 27))) := lh ((Below.refl _ _).alloc (Nat.le_refl _) _)
 have hq : Bk (w.alloc (.cells #[.pointer none, .pointer none] 27)) w.heap.size 27 #[.pointer none, .pointer none] := Bk.new _ _ _
 have HQ := lh hq
 have H := lh h
 have HOK := lh (Mm.one_ok h.ok hb0 hl)
 have HBw := lh hB
 have hgl := h.hd.lt
 have HGL := lh hgl
 clear h hq hb0 hl hB hgl
 go_enter Tryz.func59, Tryz.ntmps59
 go_wp2_with fail
 refine (cN _).mono ?_
 rintro e w1 ⟨gy, rfl, hy, hb⟩
 have HB1 := lh (HB.out.trans (hb.mono HB.out.size))
 have HY := lh hy
 have hq1 := HQ.out.below hb HQ.out.lt
 have d0 : w1.cell? ⟨w.heap.size, 0, none⟩ = some (.pointer none) := hq1.cell 0
 have d1 : w1.cell? ⟨w.heap.size, 1, none⟩ = some (.pointer none) := hq1.cell 1
 have f0 : w1.frozen? ⟨w.heap.size, 0, none⟩ = false := hq1.free 0
 have f1 : w1.frozen? ⟨w.heap.size, 1, none⟩ = false := hq1.free 1
 clear hb hy hq1 cN
 go_wp2_with fail
 have hge := HY.out.ge
 simp only [World.size_alloc] at hge
 have hbb := (HB1.out.setCell (p := ⟨w.heap.size, 0, none⟩) (Nat.le_refl _) (.pointer (some ⟨g, 0, none⟩))).setCell (p := ⟨w.heap.size, 1, none⟩) (Nat.le_refl _) (.pointer (some ⟨gy, 0, none⟩))
 have hbw := HBw.out
 have hgl := HGL.out
 refine bodyPost_ret (v := .agg #[.pointer (some ⟨g, 0, none⟩), .pointer (some ⟨gy, 0, none⟩)]) (by simp [results, Tryz.results59, go_sem, d0, d1]) rfl ⟨gy, rfl, ⟨H.out.below hbb, ?_, HOK.out, by omega, fun k hk => by intro h2; cases h2⟩, by omega, hbb⟩
 exact ⟨(HY.out.hd.far (p := ⟨w.heap.size, 0, none⟩) (by show gy ≠ w.heap.size; omega) _).far (p := ⟨w.heap.size, 1, none⟩) (by show gy ≠ w.heap.size; omega) _, ⟨rfl, .inl ⟨rfl, rfl⟩⟩, by omega, HY.out.u, HY.out.b0, HY.out.lim, HY.out.l0⟩
def rfrV (o : Option (Option Int)) : Value := match o with
 | none => .tuple #[.int .i64 0, .bool false, .int .i64 11]
 | some none => .tuple #[.int .i64 0, .bool false, .int .i64 0]
 | some (some a) => .tuple #[.int .i64 a, .bool true, .int .i64 0]
set_option maxHeartbeats 1000000 in
theorem refers_any (h : MR w B g1 g2 V1 V2 m) {x : Int} (hx : U64 x) : Calls Tryz.prog 61 #[.agg #[.pointer (some ⟨g1, 0, none⟩), .pointer (some ⟨g2, 0, none⟩)], .int .u64 x] w fun e w' => e = .returned (rfrV (m.rfr x)) ∧ Below w.heap.size w w' := by
 have HB := lh (boxM w g1 g2)
 have cA := fun w => Address_any hx w
 unfold adrV at cA
 cases hd : adr x with
 | none =>
  have HR := lh (show m.rfr x = some none by unfold Mm.rfr; rw [hd])
  simp only [hd] at cA
  clear h hd
  go_enter Tryz.func61, Tryz.ntmps61
  go_wp2_with fail
  refine (cA _).mono ?_
  rintro e w1 ⟨rfl, rfl⟩
  go_wp2_with fail
  go_ret3
  rw [HR.out]
  exact ⟨rfl, HB.out⟩
 | some a =>
  simp only [hd] at cA
  have cR := MResolve_any (h.below HB.out) a
  have q : Hid (Bk (w.alloc (.cells #[.pointer (some ⟨g1, 0, none⟩), .pointer (some ⟨g2, 0, none⟩)] 27)) w.heap.size 27 #[.pointer (some ⟨g1, 0, none⟩), .pointer (some ⟨g2, 0, none⟩)]) := lh (Bk.new _ _ _)
  by_cases he : (m.resolve a).2 = 0
  ·have HR := lh (show m.rfr x = some (some (m.resolve a).1) by unfold Mm.rfr; rw [hd]; simp only; rw [if_pos he])
   rw [he] at cR
   obtain ⟨r, hto⟩ : ∃ r, r = (m.resolve a).1 := ⟨_, rfl⟩
   rw [← hto] at cR HR
   unfold memV at cR
   clear h hd he hto
   go_enter Tryz.func61, Tryz.ntmps61
   go_wp2_with fail
   refine (cA _).mono ?_
   rintro e w1 ⟨rfl, rfl⟩
   go_wp2_with fail
   refine cR.mono ?_
   rintro e w2 ⟨rfl, hb⟩
   have HB2 := lh (HB.out.trans (hb.mono HB.out.size))
   clear hb
   go_wp2_with fail
   go_ret3
   rw [HR.out]
   exact ⟨rfl, HB2.out⟩
  ·have HR := lh (show m.rfr x = none by unfold Mm.rfr; rw [hd]; simp only; rw [if_neg he])
   obtain ⟨r, hto⟩ : ∃ r, r = (m.resolve a).1 := ⟨_, rfl⟩
   obtain ⟨er, her⟩ : ∃ er, er = (m.resolve a).2 := ⟨_, rfl⟩
   rw [← hto, ← her] at cR
   rw [← her] at he
   have e1 : (er == 0) = false := by simp [he]
   have e2 : (er != 0) = true := by simp [he]
   unfold memV at cR
   clear h hd he hto her
   go_enter Tryz.func61, Tryz.ntmps61
   go_wp2_with fail
   refine (cA _).mono ?_
   rintro e w1 ⟨rfl, rfl⟩
   go_wp2_with fail
   refine cR.mono ?_
   rintro e w2 ⟨rfl, hb⟩
   have HB2 := lh (HB.out.trans (hb.mono HB.out.size))
   clear hb
   go_wp2_with fail
   go_ret3
   rw [HR.out]
   exact ⟨rfl, HB2.out⟩
end
section
variable {w : World} {B g1 g2 Bm g b n : Nat} {V1 V2 : Value} {m : Mm} {f : Int → Option Int} {ws : Int}
theorem MHdr_of (h : MR w B g1 g2 V1 V2 m) (a : Int) : Calls Tryz.prog 63 #[.agg #[.pointer (some ⟨g1, 0, none⟩), .pointer (some ⟨g2, 0, none⟩)], .int .i64 a] w fun e w' => e = .returned (.tuple #[.agg #[.int .i64 (m.hdr a).2.k, .int .i64 (m.hdr a).2.c, .int .i64 (m.hdr a).2.f], .int .i64 (m.hdr a).1]) ∧ Below w.heap.size w w' := MHeader_any h a
def PutP (w : World) (Bm g b n : Nat) (f : Int → Option Int) (ws : Int) (e : Ending) (w' : World) : Prop := e = .returned (.tuple #[]) ∧ MkR0 w' Bm g b n f ws ∧ Kp (fun k => k = g ∨ k = b) w w'
set_option maxHeartbeats 2000000 in
theorem put_any (h : MR w B g1 g2 V1 V2 m) (hm : MkR0 w Bm g b n f ws) (hn : n < 1000000000) (w0 : 0 ≤ ws) (w1 : ws ≤ 100000000000) (a st : Int) (ha : -9223372036854775808 ≤ a ∧ a ≤ 9223372036854775807) (hs : st = 1 ∨ st = 2) :
  Calls Tryz.prog 62 #[.pointer (some ⟨g, 0, none⟩), .agg #[.pointer (some ⟨g1, 0, none⟩), .pointer (some ⟨g2, 0, none⟩)], .int .i64 a, .int .i64 st] w (PutP w Bm g b (n + 1) (updZ f a st) (ws + wH (m.hdr a).2)) := by
 have HB := lh (boxM w g1 g2)
 have cH := MHdr_of (h.below HB.out) a
 have HM := lh (hm.below HB.out)
 have H := lh (h.below HB.out)
 have HWA : Hid ((Lit.int .i64 a).wf = true) := lh (WalkArith.wf_i64 (by omega))
 have HWS : Hid ((Lit.int .i64 st).wf = true) := lh (WalkArith.wf_i64 (by omega))
 have hwb := wH_bound (m.hdr a).2
 obtain ⟨hh, hhh⟩ : ∃ hh, hh = (m.hdr a).2 := ⟨_, rfl⟩
 obtain ⟨er, her⟩ : ∃ er, er = (m.hdr a).1 := ⟨_, rfl⟩
 rw [← hhh] at hwb
 rw [← hhh, ← her] at cH
 rw [← hhh]
 have HHH := lh hhh
 clear h hm ha hs her hhh
 go_enter Tryz.func62, Tryz.ntmps62
 go_wp2_with fail
 refine cH.mono ?_
 rintro e w2 ⟨rfl, hb⟩
 have HB2 := lh (HB.out.trans (hb.mono HB.out.size))
 have hm2 := HM.out.below hb
 have HM2 := lh hm2
 have c0 : w2.cell? ⟨g, 0, none⟩ = some (.map (some b)) := hm2.hd.cell 0
 have hgl := hm2.hd.lt
 have hne : w2.heap.size ≠ g := by omega
 clear hb cH hm2
 go_wp2_with (refine wpList_map_put hKI hKI hMI rfl (m := .tmp 19) (x := .tmp 20) (v := .tmp 21) rfl (HM2.out.mp.alloc _) (by unfold maxLen; omega) rfl rfl rfl HWA.out HWS.out ?_; intro w3 hm3 hg3; have HM3 := lh hm3; have HG3 := lh hg3; clear hm3 hg3)
 have hbl : Below w2.heap.size w2 (w2.alloc (.cells #[.int .i64 hh.k, .int .i64 hh.c, .int .i64 hh.f] 55)) := (Below.refl _ _).alloc (Nat.le_refl _) _
 have hgm : some g ≠ some b := fun e => HM2.out.mp.ne_bk HM2.out.hd (Option.some.inj e)
 have HGK : Hid (Bk w3 g 103 #[.map (some b), .int .i64 ws]) := lh ((HM2.out.hd.below hbl HM2.out.hd.lt).grown HG3.out hgm)
 have HHK : Hid (Bk w3 w2.heap.size 55 #[.int .i64 hh.k, .int .i64 hh.c, .int .i64 hh.f]) := lh ((Bk.new w2 55 #[.int .i64 hh.k, .int .i64 hh.c, .int .i64 hh.f]).grown HG3.out (fun e => by have := HM2.out.mp.lt; rw [← Option.some.inj e] at this; omega))
 have HKP : Hid (Kp (fun k => k = g ∨ k = b) w w3) := lh (((Kp.of_below HB2.out).trans (Kp.of_below (S := fun _ => False) hbl) fun _ _ h => h.elim).trans (Kp.of_grown (S := fun k => k = g ∨ k = b) HG3.out fun k hk => .inr (Option.some.inj hk).symm) fun _ _ h => h)
 have cW := fun w => Words_of hh w
 clear hbl c0 hgl hne HHH hgm
 generalize w2.heap.size = bh at *
 obtain ⟨wh, hwh⟩ : ∃ wh, wh = wH hh := ⟨_, rfl⟩
 rw [← hwh] at cW hwb ⊢
 clear hwh
 have hwr : IntKind.i64.wrap (ws + wh) = ws + wh := IntWalk.i64_in _ (by omega)
 refine wp_region_adds0 9 (fun i => ([[], [0], [1], [2], [], [4], [3, 5], [0], [7]] : List (List Nat)).getD i []) (EL [Ent.val (.pointer (some ⟨g, 0, none⟩)), Ent.val (.pointer (some ⟨g, 0, none⟩)), Ent.val (.pointer (some ⟨g, 1, none⟩)), Ent.val (.int .i64 ws), Ent.val (.agg #[.int .i64 hh.k, .int .i64 hh.c, .int .i64 hh.f]), Ent.val (.int .i64 wh), Ent.val (.int .i64 (ws + wh)), Ent.val (.pointer (some ⟨g, 0, none⟩)), Ent.val (.pointer (some ⟨g, 1, none⟩))]) (by kernel_rfl) (by kernel_rfl) (by kernel_rfl) (by kernel_rfl) (by rfl) ?_ ?_
 ·intro i hi o ho vs w4 hb1 hgr
  rcases (show i = 0 ∨ i = 1 ∨ i = 2 ∨ i = 3 ∨ i = 4 ∨ i = 5 ∨ i = 6 ∨ i = 7 ∨ i = 8 by omega) with rfl | rfl | rfl | rfl | rfl | rfl | rfl | rfl | rfl <;> cases ho
  ·clear hgr
   change Made _ (Adds _ _ _) (Sem.run _ (execOp (Act.eval (frm _ _ _ [])) _) _)
   simp only [frm]
   go_simp
   exact adds_val rfl
  ·have h0 : vs 0 = _ := hgr 0 (by decide)
   clear hgr
   change Made _ (Adds _ _ _) (Sem.run _ (execOp (Act.eval (Act.put (frm _ _ _ []) (some 22) (vs 0))) _) _)
   simp only [frm, h0]
   go_simp
   exact adds_val rfl
  ·have h1 : vs 1 = _ := hgr 1 (by decide)
   clear hgr
   change Made _ (Adds _ _ _) (Sem.run _ (execOp (Act.eval (Act.put (frm _ _ _ []) (some 23) (vs 1))) _) _)
   simp only [frm, h1]
   go_simp
   exact adds_val rfl
  ·have h2 : vs 2 = _ := hgr 2 (by decide)
   clear hgr
   change Made _ (Adds _ _ _) (Sem.run _ (execOp (Act.eval (Act.put (frm _ _ _ []) (some 24) (vs 2))) _) _)
   simp only [frm, h2]
   have hbk := HGK.out.below hb1 HGK.out.lt
   have c0 : w4.cell? ⟨g, 1, none⟩ = some (.int .i64 ws) := hbk.cell 1
   clear hbk
   go_simp
   exact adds_val rfl
  ·clear hgr
   change Made _ (Adds _ _ _) (Sem.run _ (execOp (Act.eval (frm _ _ _ [])) _) _)
   simp only [frm]
   have hbk := HHK.out.below hb1 HHK.out.lt
   have c0 : w4.cell? ⟨bh, 0, none⟩ = some (.int .i64 hh.k) := hbk.cell 0
   have c1 : w4.cell? ⟨bh, 1, none⟩ = some (.int .i64 hh.c) := hbk.cell 1
   have c2 : w4.cell? ⟨bh, 2, none⟩ = some (.int .i64 hh.f) := hbk.cell 2
   clear hbk
   go_simp
   exact adds_val rfl
  ·have h4 : vs 4 = _ := hgr 4 (by decide)
   clear hgr
   change Made _ (Adds _ _ _) (Sem.run _ (execOp (Act.eval (Act.put (frm _ _ _ []) (some 26) (vs 4))) _) _)
   simp only [frm, h4]
   go_simp
   exact adds_below (cW _)
  ·have h3 : vs 3 = _ := hgr 3 (by decide)
   have h5 : vs 5 = _ := hgr 5 (by decide)
   clear hgr
   change Made _ (Adds _ _ _) (Sem.run _ (execOp (Act.eval (Act.put (Act.put (frm _ _ _ []) (some 27) (vs 5)) (some 25) (vs 3))) _) _)
   simp only [frm, h3, h5]
   go_simp
   exact adds_val rfl
  ·have h0 : vs 0 = _ := hgr 0 (by decide)
   clear hgr
   change Made _ (Adds _ _ _) (Sem.run _ (execOp (Act.eval (Act.put (frm _ _ _ []) (some 22) (vs 0))) _) _)
   simp only [frm, h0]
   go_simp
   exact adds_val rfl
  ·have h7 : vs 7 = _ := hgr 7 (by decide)
   clear hgr
   change Made _ (Adds _ _ _) (Sem.run _ (execOp (Act.eval (Act.put (frm _ _ _ []) (some 29) (vs 7))) _) _)
   simp only [frm, h7]
   go_simp
   exact adds_val rfl
 ·intro vs w4 hb1 hall hap
  have h6 : vs 6 = _ := (hall 6 (by omega)).1
  have h8 : vs 8 = _ := (hall 8 (by omega)).1
  clear hall hap
  change wpList _ _ _ [_] (Act.put (Act.put (Act.put (Act.put (Act.put (Act.put (Act.put (Act.put (Act.put (frm _ _ _ []) (some 30) (vs 8)) (some 29) (vs 7)) (some 28) (vs 6)) (some 27) (vs 5)) (some 26) (vs 4)) (some 25) (vs 3)) (some 24) (vs 2)) (some 23) (vs 1)) (some 22) (vs 0)) _
  simp only [frm, h6, h8]
  have HGK4 := lh (HGK.out.below hb1 HGK.out.lt)
  have HKP4 := lh (HKP.out.trans (Kp.of_below (S := fun _ => False) hb1) fun _ _ h => h.elim)
  have HM4 := lh (HM3.out.block (hb1.block b HM3.out.lt))
  have hfz : w4.frozen? ⟨g, 1, none⟩ = false := HGK4.out.free 1
  have hcc : w4.cell? ⟨g, 1, none⟩ = some (.int .i64 ws) := HGK4.out.cell 1
  clear hb1
  go_wp2_with fail
  refine bodyPost_end (results_none rfl _ _ _) rfl ⟨rfl, ⟨HGK4.out.set 1 (.int .i64 (ws + wh)), HM4.out.setCell (fun e => HM2.out.mp.ne_bk HM2.out.hd e.symm) _, HM2.out.ge, HM2.out.gm⟩, (HKP4.out.trans (Kp.setCell (S := fun k => k = g ∨ k = b) w4 ⟨g, 1, none⟩ _ (.inl rfl)) fun _ _ h => h)⟩
end
end Go.Proofs.YtjpaogapclfajaaGreat
namespace Go.Proofs.YtjpaogapclfajaaGreat
/-- the memory that the reference makes of a space -/
def Mm.zer (s : Spc) : Mm := ⟨s, ⟨0, 0, []⟩⟩
theorem Mm.zer_at (s : Spc) (a : Int) : (Mm.zer s).at_ a = (Mm.one s).at_ a := by
 unfold Mm.at_ Mm.sp Mm.zer Mm.one
 dsimp only
 by_cases h : s.has a = true
 ·rw [if_pos h, if_pos h]
 ·rw [if_neg h, if_neg h, Spc.at_none, Spc.at_none]
  ·unfold Spc.has Spc.new; exact decide_eq_false (by simp <;> omega)
  ·unfold Spc.has; exact decide_eq_false (by simp <;> omega)
theorem Mm.zer_has (s : Spc) (a : Int) : (Mm.zer s).has a = (Mm.one s).has a := by
 unfold Mm.has Mm.sp Mm.zer Mm.one
 dsimp only
 by_cases h : s.has a = true
 ·rw [if_pos h, if_pos h]
 ·rw [if_neg h, if_neg h]
  have h1 : (Spc.mk 0 0 []).has a = false := by unfold Spc.has; exact decide_eq_false (by simp <;> omega)
  have h2 : (Spc.new 16777216 0).has a = false := by unfold Spc.has Spc.new; exact decide_eq_false (by simp <;> omega)
  rw [h1, h2]
theorem Mm.zer_hdr (s : Spc) (a : Int) : (Mm.zer s).hdr a = (Mm.one s).hdr a := by
 unfold Mm.hdr Mm.sp Mm.zer Mm.one
 dsimp only
 by_cases h : s.has a = true
 ·rw [if_pos h, if_pos h]
 ·rw [if_neg h, if_neg h, Spc.hdr_none, Spc.hdr_none]
  ·unfold Spc.has Spc.new; exact decide_eq_false (by simp <;> omega)
  ·unfold Spc.has; exact decide_eq_false (by simp <;> omega)
theorem Mm.zer_nxt (s : Spc) (a : Int) : (Mm.zer s).nxt a = (Mm.one s).nxt a := by
 unfold Mm.nxt
 rw [Mm.zer_hdr, Mm.zer_at]
theorem Mm.zer_resN (s : Spc) : ∀ (f : Nat) (a : Int), (Mm.zer s).resN f a = (Mm.one s).resN f a
 | 0, a => rfl
 | f + 1, a => by
  unfold Mm.resN
  rw [Mm.zer_nxt]
  split
  ·rfl
  ·rfl
  ·exact Mm.zer_resN s f _
theorem Mm.zer_resolve (s : Spc) (a : Int) : (Mm.zer s).resolve a = (Mm.one s).resolve a := by
 unfold Mm.resolve
 rw [Mm.zer_has, Mm.zer_resN]
 rfl
/-- the fields of an object that is no Stub and no Forward -/
def Mm.fldR (m : Mm) (a : Int) : List Int := if (m.hdr a).2.k = 3 ∨ (m.hdr a).2.k = 4 then [] else m.flds a
/-- the list of found objects behind some words -/
def Mm.addW (m : Mm) : List Int → List Int → Option (List Int)
 | [], out => some out
 | x :: l, out => match m.rfr x with
  | none => none
  | some none => m.addW l out
  | some (some a) => if out.contains a = true then m.addW l out else m.addW l (out ++ [a])
/-- the same for the words of a Weak: nothing is found -/
def Mm.chkW (m : Mm) : List Int → List Int → Option (List Int)
 | [], out => some out
 | x :: l, out => match m.rfr x with
  | none => none
  | some _ => m.chkW l out
def Mm.str1 (m : Mm) (a : Int) (l out : List Int) : Option (List Int) := if (m.hdr a).2.k = 2 then m.chkW l out else m.addW l out
def Mm.bfs (m : Mm) : Nat → Nat → List Int → Option (List Int)
 | 0, i, out => some out
 | f + 1, i, out => match out[i]? with
  | none => some out
  | some a => match m.str1 a (m.fldR a) out with
   | none => none
   | some out' => m.bfs f (i + 1) out'
def Mm.strong (m : Mm) (roots : List Int) : Option (List Int) := match m.addW roots [] with
 | none => none
 | some out => m.bfs (m.size + 1) 0 out
/-- a found object behind the Weak that refers to it -/
def Mm.weakB (m : Mm) (st out : List Int) (b : Int) : List Int :=
 if (m.hdr b).2.k ≠ 2 then out else match m.fldR b with
  | [] => out
  | x :: _ => match m.rfr x with
   | some (some a) => if (m.hdr a).2.k = 3 ∧ st.contains a = false ∧ out.contains a = false then out ++ [a] else out
   | _ => out
def Mm.weakR (m : Mm) (st : List Int) : List Int := st.foldl (m.weakB st) []
structure Mm.Fnd (m : Mm) (out : List Int) : Prop where
 nd : out.Nodup
 ok : ∀ a ∈ out, (m.hdr a).1 = 0 ∧ (m.hdr a).2.k ≠ 4
theorem Mm.Fnd.len {m : Mm} {out : List Int} (h : m.Fnd out) : out.length ≤ m.size := by
 have := nodup_len out _ h.nd fun y hy => m.all_has y (Mm.hdr_has (h.ok y hy).1)
 simpa [Mm.size] using this
theorem Mm.Fnd.nil (m : Mm) : m.Fnd [] := ⟨List.nodup_nil, fun a h => by cases h⟩
theorem Mm.Fnd.push {m : Mm} {out : List Int} (h : m.Fnd out) {x a : Int} (hr : m.rfr x = some (some a)) (ha : out.contains a = false) : m.Fnd (out ++ [a]) := by
 have ha' : a ∉ out := by simpa using ha
 refine ⟨nodup_snoc h.nd ha', fun b hb => ?_⟩
 rcases List.mem_append.1 hb with hb | hb
 ·exact h.ok b hb
 ·rw [List.mem_singleton.1 hb]; exact Mm.rfr_hdr hr
theorem Mm.addW_ok {m : Mm} : ∀ {l out out' : List Int}, m.Fnd out → m.addW l out = some out' → m.Fnd out' ∧ (∃ t, out' = out ++ t) ∧ (∀ x ∈ l, ∃ o, m.rfr x = some o ∧ ∀ a, o = some a → a ∈ out') ∧ ∀ a ∈ out', a ∈ out ∨ ∃ x ∈ l, m.rfr x = some (some a)
 | [], out, out', h, hv => by
  unfold Mm.addW at hv
  cases hv
  exact ⟨h, ⟨[], by simp⟩, fun x hx => (by cases hx), fun a ha => .inl ha⟩
 | x :: l, out, out', h, hv => by
  unfold Mm.addW at hv
  split at hv
  ·cases hv
  ·rename_i hr
   obtain ⟨h1, h2, h3, h4⟩ := Mm.addW_ok h hv
   refine ⟨h1, h2, fun y hy => ?_, fun a ha => ?_⟩
   ·rcases List.mem_cons.1 hy with rfl | hy
    ·exact ⟨none, hr, fun a e => by cases e⟩
    ·exact h3 y hy
   ·exact (h4 a ha).imp id fun ⟨y, hy, e⟩ => ⟨y, List.mem_cons_of_mem _ hy, e⟩
  ·rename_i b hr
   split at hv
   ·rename_i hc
    have hb : b ∈ out := by simpa using hc
    obtain ⟨h1, ⟨t, h2⟩, h3, h4⟩ := Mm.addW_ok h hv
    refine ⟨h1, ⟨t, h2⟩, fun y hy => ?_, fun a ha => ?_⟩
    ·rcases List.mem_cons.1 hy with rfl | hy
     ·exact ⟨some b, hr, fun a e => by cases e; rw [h2]; exact List.mem_append.2 (.inl hb)⟩
     ·exact h3 y hy
    ·exact (h4 a ha).imp id fun ⟨y, hy, e⟩ => ⟨y, List.mem_cons_of_mem _ hy, e⟩
   ·rename_i hc
    have hc : out.contains b = false := by simpa using hc
    obtain ⟨h1, ⟨t, h2⟩, h3, h4⟩ := Mm.addW_ok (h.push hr hc) hv
    refine ⟨h1, ⟨[b] ++ t, by rw [h2]; simp⟩, fun y hy => ?_, fun a ha => ?_⟩
    ·rcases List.mem_cons.1 hy with rfl | hy
     ·exact ⟨some b, hr, fun a e => by cases e; rw [h2]; simp⟩
     ·exact h3 y hy
    ·rcases h4 a ha with h5 | ⟨y, hy, e⟩
     ·rcases List.mem_append.1 h5 with h6 | h6
      ·exact .inl h6
      ·rw [List.mem_singleton.1 h6]; exact .inr ⟨x, List.mem_cons_self .., hr⟩
     ·exact .inr ⟨y, List.mem_cons_of_mem _ hy, e⟩
theorem Mm.addW_none {m : Mm} : ∀ {l out : List Int}, m.addW l out = none → ∃ x ∈ l, m.rfr x = none
 | [], out, h => by unfold Mm.addW at h; cases h
 | x :: l, out, h => by
  unfold Mm.addW at h
  split at h
  ·rename_i hr; exact ⟨x, List.mem_cons_self .., hr⟩
  ·obtain ⟨y, hy, e⟩ := Mm.addW_none h; exact ⟨y, List.mem_cons_of_mem _ hy, e⟩
  ·split at h <;> (obtain ⟨y, hy, e⟩ := Mm.addW_none h; exact ⟨y, List.mem_cons_of_mem _ hy, e⟩)
theorem Mm.chkW_ok {m : Mm} : ∀ {l out out' : List Int}, m.chkW l out = some out' → out' = out ∧ ∀ x ∈ l, ∃ o, m.rfr x = some o
 | [], out, out', hv => by unfold Mm.chkW at hv; cases hv; exact ⟨rfl, fun x hx => by cases hx⟩
 | x :: l, out, out', hv => by
  unfold Mm.chkW at hv
  split at hv
  ·cases hv
  ·rename_i o hr
   obtain ⟨h1, h2⟩ := Mm.chkW_ok hv
   exact ⟨h1, fun y hy => by
    rcases List.mem_cons.1 hy with rfl | hy
    ·exact ⟨o, hr⟩
    ·exact h2 y hy⟩
theorem Mm.chkW_none {m : Mm} : ∀ {l out : List Int}, m.chkW l out = none → ∃ x ∈ l, m.rfr x = none
 | [], out, h => by unfold Mm.chkW at h; cases h
 | x :: l, out, h => by
  unfold Mm.chkW at h
  split at h
  ·rename_i hr; exact ⟨x, List.mem_cons_self .., hr⟩
  ·obtain ⟨y, hy, e⟩ := Mm.chkW_none h; exact ⟨y, List.mem_cons_of_mem _ hy, e⟩
structure Mm.BfI (m : Mm) (roots : List Int) (i : Nat) (out : List Int) : Prop where
 fnd : m.Fnd out
 rch : ∀ a ∈ out, m.Rch roots a
 root : ∀ x ∈ roots, ∃ o, m.rfr x = some o ∧ ∀ a, o = some a → a ∈ out
 done : ∀ b ∈ out.take i, (m.hdr b).2.k ≠ 3 → ∀ x ∈ m.flds b, ∃ o, m.rfr x = some o ∧ ((m.hdr b).2.k ≠ 2 → ∀ a, o = some a → a ∈ out)
theorem Mm.fldR_in {m : Mm} {a : Int} (h3 : (m.hdr a).2.k ≠ 3) (h4 : (m.hdr a).2.k ≠ 4) : m.fldR a = m.flds a := by unfold Mm.fldR; rw [if_neg (by omega)]
theorem Mm.fldR_stub {m : Mm} {a : Int} (h3 : (m.hdr a).2.k = 3) : m.fldR a = [] := by unfold Mm.fldR; rw [if_pos (.inl h3)]
theorem Mm.str1_ok {m : Mm} {roots out out' : List Int} {i : Nat} {a : Int} (h : m.BfI roots i out) (ha : out[i]? = some a) (hs : m.str1 a (m.fldR a) out = some out') : m.BfI roots (i + 1) out' ∧ ∃ t, out' = out ++ t := by
 obtain ⟨fnd, rch, root, done⟩ := h
 have hm : a ∈ out := List.mem_of_getElem? ha
 have hok := fnd.ok a hm
 obtain ⟨hlt, he⟩ := List.getElem?_eq_some_iff.1 ha
 have htk : out.take (i + 1) = out.take i ++ [a] := by rw [List.take_succ_eq_append_getElem hlt, he]
 unfold Mm.str1 at hs
 split at hs
 ·rename_i h2
  obtain ⟨rfl, h1⟩ := Mm.chkW_ok hs
  refine ⟨⟨fnd, rch, root, fun b hb h3 x hx => ?_⟩, [], by simp⟩
  rw [htk] at hb
  rcases List.mem_append.1 hb with hb | hb
  ·exact done b hb h3 x hx
  ·rw [List.mem_singleton.1 hb] at h3 hx ⊢
   rw [Mm.fldR_in (by omega) (by omega)] at h1
   obtain ⟨o, ho⟩ := h1 x hx
   exact ⟨o, ho, fun h => absurd h2 h⟩
 ·rename_i h2
  obtain ⟨h1, ⟨t, rfl⟩, h3, h4⟩ := Mm.addW_ok fnd hs
  refine ⟨⟨h1, fun b hb => ?_, fun x hx => ?_, fun b hb hb3 x hx => ?_⟩, t, rfl⟩
  ·rcases h4 b hb with h5 | ⟨x, hx, hr⟩
   ·exact rch b h5
   ·by_cases h6 : (m.hdr a).2.k = 3
    ·rw [Mm.fldR_stub h6] at hx; cases hx
    ·rw [Mm.fldR_in h6 hok.2] at hx
     exact .step (rch a hm) h6 h2 hx hr
  ·obtain ⟨o, ho, hoa⟩ := root x hx
   exact ⟨o, ho, fun a e => List.mem_append.2 (.inl (hoa a e))⟩
  ·rw [List.take_append_of_le_length (by omega), htk] at hb
   rcases List.mem_append.1 hb with hb | hb
   ·obtain ⟨o, ho, hoa⟩ := done b hb hb3 x hx
    exact ⟨o, ho, fun h5 a e => List.mem_append.2 (.inl (hoa h5 a e))⟩
   ·rw [List.mem_singleton.1 hb] at hb3 hx ⊢
    rw [Mm.fldR_in hb3 hok.2] at h3
    obtain ⟨o, ho, hoa⟩ := h3 x hx
    exact ⟨o, ho, fun _ => hoa⟩
theorem Mm.str1_bad {m : Mm} {a : Int} {out : List Int} (hs : m.str1 a (m.fldR a) out = none) : (m.hdr a).2.k ≠ 3 ∧ ∃ x ∈ m.flds a, m.rfr x = none := by
 have hx : ∃ x ∈ m.fldR a, m.rfr x = none := by
  unfold Mm.str1 at hs
  split at hs
  ·exact Mm.chkW_none hs
  ·exact Mm.addW_none hs
 obtain ⟨x, hx, hr⟩ := hx
 unfold Mm.fldR at hx
 split at hx
 ·cases hx
 ·rename_i h; exact ⟨by omega, x, hx, hr⟩
theorem Mm.bfs_ok {m : Mm} {roots : List Int} : ∀ {f i : Nat} {out : List Int}, m.BfI roots i out → i ≤ out.length → m.size + 1 ≤ f + i → (m.bfs f i out = none → m.Bad roots) ∧ ∀ out', m.bfs f i out = some out' → m.BfI roots out'.length out'
 | 0, i, out, h, hi, hf => by
  have := h.fnd.len
  omega
 | f + 1, i, out, h, hi, hf => by
  unfold Mm.bfs
  cases ha : out[i]? with
  | none =>
   have hl : out.length ≤ i := List.getElem?_eq_none_iff.1 ha
   obtain rfl : i = out.length := by omega
   exact ⟨(fun e => by cases e), (fun out' e => by cases e; exact h)⟩
  | some a =>
   dsimp only
   cases hs : m.str1 a (m.fldR a) out with
   | none =>
    refine ⟨fun _ => ?_, fun out' e => by cases e⟩
    obtain ⟨h3, x, hx, hr⟩ := Mm.str1_bad hs
    exact .inr ⟨a, x, h.rch a (List.mem_of_getElem? ha), h3, hx, hr⟩
   | some out' =>
    obtain ⟨h1, t, rfl⟩ := Mm.str1_ok h ha hs
    have hlt := (List.getElem?_eq_some_iff.1 ha).1
    exact Mm.bfs_ok h1 (by simp; omega) (by omega)
/-- what the reference finds is what is reachable -/
structure Mm.StrI (m : Mm) (roots st : List Int) : Prop where
 fnd : m.Fnd st
 rch : ∀ a, a ∈ st ↔ m.Rch roots a
 good : ¬ m.Bad roots
theorem Mm.BfI.all {m : Mm} {roots out : List Int} (h : m.BfI roots out.length out) : m.StrI roots out := by
 have hd : ∀ b ∈ out, (m.hdr b).2.k ≠ 3 → ∀ x ∈ m.flds b, ∃ o, m.rfr x = some o ∧ ((m.hdr b).2.k ≠ 2 → ∀ a, o = some a → a ∈ out) := fun b hb => h.done b (by rw [List.take_length]; exact hb)
 have h1 : ∀ a, m.Rch roots a → a ∈ out := fun a ha => by
  induction ha with
  | root hx hr =>
   obtain ⟨o, ho, hoa⟩ := h.root _ hx
   rw [hr] at ho
   cases ho
   exact hoa _ rfl
  | step hb h3 h2 hx hr ih =>
   obtain ⟨o, ho, hoa⟩ := hd _ ih h3 _ hx
   rw [hr] at ho
   cases ho
   exact hoa h2 _ rfl
 refine ⟨h.fnd, fun a => ⟨h.rch a, h1 a⟩, ?_⟩
 rintro (⟨x, hx, hr⟩ | ⟨b, x, hb, h3, hx, hr⟩)
 ·obtain ⟨o, ho, _⟩ := h.root x hx
  rw [hr] at ho
  cases ho
 ·obtain ⟨o, ho, _⟩ := hd b (h1 b hb) h3 x hx
  rw [hr] at ho
  cases ho
theorem Mm.strong_start {m : Mm} {roots out : List Int} (h : m.addW roots [] = some out) : m.BfI roots 0 out := by
 obtain ⟨h1, _, h3, h4⟩ := Mm.addW_ok (Mm.Fnd.nil m) h
 refine ⟨h1, fun a ha => ?_, h3, fun b hb => by cases hb⟩
 rcases h4 a ha with h5 | ⟨x, hx, hr⟩
 ·cases h5
 ·exact .root hx hr
theorem Mm.strong_none {m : Mm} {roots : List Int} (h : m.strong roots = none) : m.Bad roots := by
 unfold Mm.strong at h
 split at h
 ·rename_i hv; exact .inl (Mm.addW_none hv)
 ·rename_i out hv
  exact (Mm.bfs_ok (Mm.strong_start hv) (Nat.zero_le _) (Nat.le_refl _)).1 h
theorem Mm.strong_some {m : Mm} {roots st : List Int} (h : m.strong roots = some st) : m.StrI roots st := by
 unfold Mm.strong at h
 split at h
 ·cases h
 ·rename_i out hv
  exact ((Mm.bfs_ok (Mm.strong_start hv) (Nat.zero_le _) (Nat.le_refl _)).2 _ h).all
/-- the Stubs behind Weaks -/
theorem Mm.weakB_mem {m : Mm} {st : List Int} : ∀ (l out : List Int) (a : Int), a ∈ l.foldl (m.weakB st) out ↔ a ∈ out ∨ (a ∉ st ∧ (m.hdr a).2.k = 3 ∧ ∃ b ∈ l, (m.hdr b).2.k = 2 ∧ ∃ x t, m.fldR b = x :: t ∧ m.rfr x = some (some a))
 | [], out, a => by simp
 | b :: l, out, a => by
  rw [List.foldl_cons, Mm.weakB_mem l]
  have key : a ∈ m.weakB st out b ↔ a ∈ out ∨ (a ∉ st ∧ (m.hdr a).2.k = 3 ∧ (m.hdr b).2.k = 2 ∧ ∃ x t, m.fldR b = x :: t ∧ m.rfr x = some (some a)) := by
   unfold Mm.weakB
   split
   ·rename_i h; exact ⟨.inl, fun h' => h'.elim id fun h' => absurd h'.2.2.1 h⟩
   ·rename_i h2
    have h2 : (m.hdr b).2.k = 2 := by omega
    split
    ·rename_i hf; rw [hf]; exact ⟨.inl, fun h' => h'.elim id fun ⟨_, _, _, x, t, e, _⟩ => by cases e⟩
    ·rename_i x t hf
     rw [hf]
     split
     ·rename_i c hr
      split
      ·rename_i hc
       rw [List.mem_append, List.mem_singleton]
       constructor
       ·rintro (h | h)
        ·exact .inl h
        ·subst h; exact .inr ⟨by simpa using hc.2.1, hc.1, h2, x, t, rfl, hr⟩
       ·rintro (h | ⟨_, _, _, y, u, e, hy⟩)
        ·exact .inl h
        ·cases e; rw [hr] at hy; cases hy; exact .inr rfl
      ·rename_i hc
       refine ⟨.inl, ?_⟩
       rintro (h | ⟨h3, h4, _, y, u, e, hy⟩)
       ·exact h
       ·cases e
        rw [hr] at hy
        cases hy
        by_cases hm : a ∈ out
        ·exact hm
        ·exact absurd ⟨h4, by simpa using h3, by simpa using hm⟩ hc
     ·rename_i hr
      refine ⟨.inl, ?_⟩
      rintro (h | ⟨_, _, _, y, u, e, hy⟩)
      ·exact h
      ·cases e; exact absurd hy (hr _)
  rw [key]
  simp only [List.mem_cons]
  constructor
  ·rintro ((h | ⟨h1, h2, h3, h4⟩) | ⟨h1, h2, c, hc, h3⟩)
   ·exact .inl h
   ·exact .inr ⟨h1, h2, b, .inl rfl, h3, h4⟩
   ·exact .inr ⟨h1, h2, c, .inr hc, h3⟩
  ·rintro (h | ⟨h1, h2, c, hc | hc, h3⟩)
   ·exact .inl (.inl h)
   ·subst hc; exact .inl (.inr ⟨h1, h2, h3⟩)
   ·exact .inr ⟨h1, h2, c, hc, h3⟩
theorem Mm.weakB_nd {m : Mm} {st : List Int} : ∀ (l out : List Int), out.Nodup → (l.foldl (m.weakB st) out).Nodup
 | [], out, h => h
 | b :: l, out, h => by
  rw [List.foldl_cons]
  refine Mm.weakB_nd l _ ?_
  unfold Mm.weakB
  split
  ·exact h
  ·split
   ·exact h
   ·split
    ·split
     ·rename_i hc; exact nodup_snoc h (by simpa using hc.2.2)
     ·exact h
    ·exact h
theorem Mm.StrI.weak {m : Mm} {roots st : List Int} (h : m.StrI roots st) (a : Int) : a ∈ m.weakR st ↔ m.Wk roots a := by
 unfold Mm.weakR Mm.Wk
 rw [Mm.weakB_mem]
 constructor
 ·rintro (h1 | ⟨h1, h2, b, hb, h3, x, t, hf, hr⟩)
  ·cases h1
  ·rw [Mm.fldR_in (by omega) (by omega)] at hf
   exact ⟨h2, fun e => h1 ((h.rch a).2 e), b, x, (h.rch b).1 hb, h3, by rw [hf]; simp, hr⟩
 ·rintro ⟨h2, h1, b, x, hb, h3, hx, hr⟩
  have hbm := (h.rch b).2 hb
  obtain ⟨y, hy⟩ := Mm.flds_weak (h.fnd.ok b hbm).1 h3
  rw [hy, List.mem_singleton] at hx
  subst hx
  exact .inr ⟨fun e => h1 ((h.rch a).1 e), h2, b, hbm, h3, x, [], by rw [Mm.fldR_in (by omega) (by omega), hy], hr⟩
/-- the two agree -/
theorem Mm.marks_strong (m : Mm) (roots : List Int) : (m.marks roots = none ∧ m.strong roots = none) ∨ ∃ sg wl st, m.marks roots = some (sg, wl) ∧ m.strong roots = some st ∧ m.MarksI roots sg wl ∧ m.StrI roots st ∧ sg.Perm st ∧ wl.Perm (m.weakR st) := by
 cases h : m.marks roots with
 | none =>
  left
  refine ⟨rfl, ?_⟩
  cases h' : m.strong roots with
  | none => rfl
  | some st => exact absurd (Mm.marks_none h) (Mm.strong_some h').good
 | some p =>
  obtain ⟨sg, wl⟩ := p
  right
  have h1 := Mm.marks_some h
  cases h' : m.strong roots with
  | none => exact absurd (Mm.strong_none h') h1.good
  | some st =>
   have h2 := Mm.strong_some h'
   refine ⟨sg, wl, st, rfl, rfl, h1, h2, (List.perm_ext_iff_of_nodup h1.nd h2.fnd.nd).2 fun a => (h1.rch a).trans (h2.rch a).symm, (List.perm_ext_iff_of_nodup h1.nw (Mm.weakB_nd _ _ List.nodup_nil)).2 fun a => (h1.wk a).trans (h2.weak a).symm⟩
theorem Mm.MarksI.disj {m : Mm} {roots sg wl : List Int} (h : m.MarksI roots sg wl) : (sg ++ wl).Nodup :=
 List.nodup_append.2 ⟨h.nd, h.nw, fun a ha b hb e => ((h.wk b).1 hb).2.1 ((h.rch b).1 (e ▸ ha))⟩
theorem contains_perm {l l' : List Int} (h : l.Perm l') (a : Int) : l.contains a = l'.contains a := by
 rw [Bool.eq_iff_iff]
 simpa using h.mem_iff
/-- the place of a number in a list that is sorted: behind the last one that is not greater -/
def insP (x : Int) (out : List Int) : Nat → Nat
 | 0 => 0
 | k + 1 => if x < out.getD k 0 then insP x out k else k + 1
def insS (out : List Int) (x : Int) : List Int := out.take (insP x out out.length) ++ [x] ++ out.drop (insP x out out.length)
def srtI (l : List Int) : List Int := l.foldl insS []
theorem insP_le (x : Int) (out : List Int) : ∀ k, insP x out k ≤ k
 | 0 => Nat.le_refl _
 | k + 1 => by
  unfold insP
  split
  ·exact Nat.le_succ_of_le (insP_le x out k)
  ·exact Nat.le_refl _
theorem insP_gt (x : Int) (out : List Int) : ∀ k j, insP x out k ≤ j → j < k → x < out.getD j 0
 | 0, j, _, h => by omega
 | k + 1, j, h, hj => by
  unfold insP at h
  split at h
  ·by_cases e : j = k
   ·subst e; assumption
   ·exact insP_gt x out k j h (by omega)
  ·omega
theorem insP_last (x : Int) (out : List Int) : ∀ k, insP x out k = 0 ∨ out.getD (insP x out k - 1) 0 ≤ x
 | 0 => .inl rfl
 | k + 1 => by
  unfold insP
  split
  ·exact insP_last x out k
  ·rename_i h; right; simp at h ⊢; omega
theorem insS_perm (out : List Int) (x : Int) : (insS out x).Perm (x :: out) := by
 unfold insS
 have h := List.take_append_drop (insP x out out.length) out
 rw [List.append_assoc]
 refine (List.perm_middle (l₁ := out.take (insP x out out.length)) (l₂ := out.drop (insP x out out.length)) (a := x)).trans ?_
 rw [h]
theorem insS_sorted {out : List Int} (h : out.Pairwise (· ≤ ·)) (x : Int) : (insS out x).Pairwise (· ≤ ·) := by
 unfold insS
 have hle := insP_le x out out.length
 have hgt := insP_gt x out out.length
 have hla := insP_last x out out.length
 generalize insP x out out.length = p at *
 have hidx := List.pairwise_iff_getElem.1 h
 have hd : ∀ y ∈ out.drop p, x ≤ y := fun y hy => by
  obtain ⟨j, hj, rfl⟩ := List.mem_iff_getElem.1 hy
  rw [List.getElem_drop]
  have hj' : p + j < out.length := by simp at hj; omega
  have := hgt (p + j) (by omega) hj'
  rw [List.getD_eq_getElem?_getD, List.getElem?_eq_getElem hj'] at this
  simp at this
  omega
 have ht : ∀ y ∈ out.take p, y ≤ x := fun y hy => by
  obtain ⟨j, hj, rfl⟩ := List.mem_iff_getElem.1 hy
  rw [List.getElem_take]
  have hj' : j < p := by simp at hj; omega
  rcases hla with h0 | h0
  ·omega
  ·rw [List.getD_eq_getElem?_getD, List.getElem?_eq_getElem (by omega)] at h0
   simp at h0
   by_cases e : j = p - 1
   ·subst e; exact h0
   ·have := hidx j (p - 1) (by omega) (by omega) (by omega)
    omega
 rw [List.append_assoc, List.pairwise_append]
 refine ⟨h.sublist (List.take_sublist _ _), ?_, fun a ha b hb => ?_⟩
 ·rw [List.singleton_append, List.pairwise_cons]
  exact ⟨hd, h.sublist (List.drop_sublist _ _)⟩
 ·rw [List.singleton_append, List.mem_cons] at hb
  rcases hb with rfl | hb
  ·exact ht a ha
  ·exact Int.le_trans (ht a ha) (hd b hb)
theorem srtI_go : ∀ (l out : List Int), out.Pairwise (· ≤ ·) → (l.foldl insS out).Pairwise (· ≤ ·) ∧ (l.foldl insS out).Perm (l ++ out)
 | [], out, h => ⟨h, List.Perm.refl _⟩
 | x :: l, out, h => by
  rw [List.foldl_cons]
  obtain ⟨h1, h2⟩ := srtI_go l _ (insS_sorted h x)
  refine ⟨h1, h2.trans ?_⟩
  exact ((insS_perm out x).append_left l).trans List.perm_middle
theorem srtI_sorted (l : List Int) : (srtI l).Pairwise (· ≤ ·) := (srtI_go l [] List.Pairwise.nil).1
theorem srtI_perm (l : List Int) : (srtI l).Perm l := by simpa [srtI] using (srtI_go l [] List.Pairwise.nil).2
theorem srtI_len (l : List Int) : (srtI l).length = l.length := (srtI_perm l).length_eq
theorem srtI_mem (l : List Int) (a : Int) : a ∈ srtI l ↔ a ∈ l := (srtI_perm l).mem_iff
/-- two sorted lists of the same numbers are one -/
theorem sorted_eq {l l' : List Int} (h : l.Perm l') (hs : l.Pairwise (· ≤ ·)) (hs' : l'.Pairwise (· ≤ ·)) : l = l' := h.eq_of_pairwise (le := (· ≤ ·)) (fun a b _ _ h1 h2 => Int.le_antisymm h1 h2) hs hs'
theorem srtI_eq {l l' : List Int} (h : l.Perm l') : srtI l = srtI l' := sorted_eq ((srtI_perm l).trans (h.trans (srtI_perm l').symm)) (srtI_sorted l) (srtI_sorted l')
theorem srtI_lt {l : List Int} (h : l.Nodup) : (srtI l).Pairwise (· < ·) := by
 have h1 := srtI_sorted l
 have h2 : (srtI l).Nodup := (srtI_perm l).nodup_iff.2 h
 have := h1.and h2
 exact this.imp fun {a b} h => by have := h.1; have := h.2; omega
end Go.Proofs.YtjpaogapclfajaaGreat
