/- Parts of the proof: Tgt. -/
import Derived.Test.YtjpaogapclfajaaGreatBa14
import Derived.Test.YtjpaogapclfajaaGreatBa28
set_option linter.unusedVariables false
set_option linter.unusedSimpArgs false
set_option linter.unusedSectionVars false
namespace Go.Proofs.YtjpaogapclfajaaGreat
open Go.RowKit Go.Sort
attribute [local go_sem] Oper.semAt_some onlyN_normal
set_option maxRecDepth 100000
theorem Mm.Ok.id_at {m : Mm} (ok : m.Ok) {a : Int} (h0 : (m.hdr a).1 = 0) : ∃ v, m.at_ (a + 1) = some v ∧ dI v = m.idOf a ∧ U64 v := by
 have hw := wH_ge (Mm.hdr_valid h0)
 obtain ⟨hh, hs⟩ := ok.has_near h0 (j := 1) (by omega) (by omega)
 obtain ⟨i, _, _, v, _, hv⟩ := Spc.at_some (s := m.sp (a + 1)) (a := a + 1) hh
 have hv' : m.at_ (a + 1) = some v := hv
 refine ⟨v, hv', ?_, ok.at_u hv'⟩
 unfold Mm.idOf
 rw [hv']
 rfl
section
variable {w : World} {B g g1 g2 : Nat} {V V1 V2 : Value} {m : Mm} {s : Spc}
set_option maxHeartbeats 4000000 in
theorem MID_yes (h : MR w B g1 g2 V1 V2 m) {a : Int} (h0 : (m.hdr a).1 = 0) (ha : 0 ≤ a ∧ a ≤ 4294967296) : Calls Tryz.prog 91 #[.agg #[.pointer (some ⟨g1, 0, none⟩), .pointer (some ⟨g2, 0, none⟩)], .int .i64 a] w fun e w' => e = .returned (.tuple #[.agg #[.int .i64 (m.idOf a).m, .int .i64 (m.idOf a).s], .int .i64 0]) ∧ Below w.heap.size w w' := by
 obtain ⟨v, hv, hid, hvu⟩ := h.ok.id_at h0
 rw [← hid]
 have hHB : Below w.heap.size w ((w.alloc (.cells #[.pointer (some ⟨g1, 0, none⟩), .pointer (some ⟨g2, 0, none⟩)] 27)).alloc (.cells #[.int .i64 0, .int .i64 0] 79)) := ((Below.refl _ _).alloc (Nat.le_refl _) _).alloc (by simp) _
 have HB := Lib.hid hHB
 have HM : Hid (Bk ((w.alloc (.cells #[.pointer (some ⟨g1, 0, none⟩), .pointer (some ⟨g2, 0, none⟩)] 27)).alloc (.cells #[.int .i64 0, .int .i64 0] 79)) w.heap.size 27 #[.pointer (some ⟨g1, 0, none⟩), .pointer (some ⟨g2, 0, none⟩)]) := Lib.hid ((Bk.new _ _ _).alloc _)
 have HI : Hid (Bk ((w.alloc (.cells #[.pointer (some ⟨g1, 0, none⟩), .pointer (some ⟨g2, 0, none⟩)] 27)).alloc (.cells #[.int .i64 0, .int .i64 0] 79)) (w.heap.size + 1) 79 #[.int .i64 0, .int .i64 0]) := Lib.hid (Bk.here _ _ _ (by simp))
 have H := Lib.hid (h.below hHB)
 have cH := MHdr_of H.out a
 rw [h0] at cH
 have HV := Lib.hid hv
 have HVU := Lib.hid hvu
 have cD := fun w => DecodeID_any hvu w
 unfold Id.val at cD
 have hwp : IntKind.i64.wrap (a + 1) = a + 1 := IntWalk.i64_in _ (by omega)
 clear h hHB hv hid hvu h0
 go_enter Tryz.func91, Tryz.ntmps91
 go_upto_region 1 with fail
 generalize (w.alloc (.cells #[.pointer (some ⟨g1, 0, none⟩), .pointer (some ⟨g2, 0, none⟩)] 27)).alloc (.cells #[.int .i64 0, .int .i64 0] 79) = wB at *
 have q0 : wB.cell? ⟨w.heap.size, 0, none⟩ = some (.pointer (some ⟨g1, 0, none⟩)) := HM.out.cell 0
 have q1 : wB.cell? ⟨w.heap.size, 1, none⟩ = some (.pointer (some ⟨g2, 0, none⟩)) := HM.out.cell 1
 go_wp2_with fail
 refine cH.mono ?_
 rintro e w1 ⟨rfl, hb1⟩
 have hbx := hb1.trans (((Below.refl w1.heap.size w1).alloc (Nat.le_refl _) (.cells #[.int .i64 (m.hdr a).2.k, .int .i64 (m.hdr a).2.c, .int .i64 (m.hdr a).2.f] 55)).mono hb1.size)
 clear cH q0 q1
 go_upto_region 4 with fail
 have HB1 := Lib.hid (HB.out.trans (hbx.mono HB.out.size))
 have HM1 := Lib.hid (HM.out.below hbx HM.out.lt)
 have HI1 := Lib.hid (HI.out.below hbx HI.out.lt)
 have H1 := Lib.hid (H.out.below hbx)
 clear hbx hb1 HB HM HI H
 generalize w1.alloc (.cells #[.int .i64 (m.hdr a).2.k, .int .i64 (m.hdr a).2.c, .int .i64 (m.hdr a).2.f] 55) = w2 at *
 have q0 : w2.cell? ⟨w.heap.size, 0, none⟩ = some (.pointer (some ⟨g1, 0, none⟩)) := HM1.out.cell 0
 have q1 : w2.cell? ⟨w.heap.size, 1, none⟩ = some (.pointer (some ⟨g2, 0, none⟩)) := HM1.out.cell 1
 have cL := MLoad_any H1.out (a + 1)
 rw [HV.out] at cL
 unfold memV atV at cL
 go_wp2_with fail
 refine cL.mono ?_
 rintro e w3 ⟨rfl, hb3⟩
 have HB3 := Lib.hid (HB1.out.trans (hb3.mono HB1.out.size))
 have HI3 := Lib.hid (HI1.out.below hb3 HI1.out.lt)
 clear cL q0 q1 hb3 HM1 HI1 HB1 H1
 go_wp2_with fail
 refine (cD _).mono ?_
 rintro e w4 ⟨rfl, hb4⟩
 have HB4 := Lib.hid (HB3.out.trans (hb4.mono HB3.out.size))
 have HI4 := Lib.hid (HI3.out.below hb4 HI3.out.lt)
 have d0 : w4.cell? ⟨w.heap.size + 1, 0, none⟩ = some (.int .i64 0) := HI4.out.cell 0
 have d1 : w4.cell? ⟨w.heap.size + 1, 1, none⟩ = some (.int .i64 0) := HI4.out.cell 1
 have f0 := HI4.out.free 0
 have f1 := HI4.out.free 1
 clear hb4 cD HB3 HI3
 go_wp2_with fail
 refine bodyPost_ret (v := .tuple #[.agg #[.int .i64 (dI v).m, .int .i64 (dI v).s], .int .i64 0]) (by simp [results, Tryz.results91, go_sem, d0, d1]) rfl ⟨rfl, ?_⟩
 exact (HB4.out.setCell (p := ⟨w.heap.size + 1, 0, none⟩) (by simp) _).setCell (p := ⟨w.heap.size + 1, 1, none⟩) (by simp) _
/-- a space and the empty young space, as a memory -/
theorem MR.one {gy : Nat} (h : SpR w B g s V) (hb0 : s.base = 0) (hl : s.limit ≤ 16777216) (hy : Bk w gy 115 #[.int .i64 16777216, .int .i64 16777216, .slice none 0 0]) (hB : B ≤ gy) (hg : g < gy) : MR w B g gy V (.slice none 0 0) (Mm.one s) :=
 ⟨h, ⟨hy, ⟨rfl, .inl ⟨rfl, rfl⟩⟩, hB, (fun x hx => by cases hx), (by show (0 : Int) ≤ 16777216; decide), (by show (16777216 : Int) + 0 ≤ 16777216 + 0; decide), (by show (16777216 : Int) + 0 ≤ 4294967296; decide)⟩, Mm.one_ok h.ok hb0 hl, by omega, fun k hk h2 => by cases h2⟩
def hdV (hd : Hdr) (i : Id) : Value := .tuple #[.agg #[.int .i64 hd.k, .int .i64 hd.c, .int .i64 hd.f], .agg #[.int .i64 i.m, .int .i64 i.s]]
set_option maxHeartbeats 4000000 in
theorem header12_any (h : SpR w B g s V) (hb0 : s.base = 0) (hl : s.limit ≤ 16777216) (hB : B ≤ w.heap.size) {a : Int} (ha0 : ((Mm.one s).hdr a).1 = 0) (ha : 0 ≤ a ∧ a ≤ 4294967296) : Calls Tryz.prog 44 #[.pointer (some ⟨g, 0, none⟩), .int .i64 a] w fun e w' => e = .returned (.tuple #[.agg #[.int .i64 ((Mm.one s).hdr a).2.k, .int .i64 ((Mm.one s).hdr a).2.c, .int .i64 ((Mm.one s).hdr a).2.f], .agg #[.int .i64 ((Mm.one s).idOf a).m, .int .i64 ((Mm.one s).idOf a).s]]) ∧ Below w.heap.size w w' := by
 have hHB : Below w.heap.size w ((w.alloc (.cells #[.int .i64 0, .int .i64 0, .int .i64 0] 55)).alloc (.cells #[.int .i64 0, .int .i64 0] 79)) := ((Below.refl _ _).alloc (Nat.le_refl _) _).alloc (by simp) _
 have HB := Lib.hid hHB
 have HK : Hid (Bk ((w.alloc (.cells #[.int .i64 0, .int .i64 0, .int .i64 0] 55)).alloc (.cells #[.int .i64 0, .int .i64 0] 79)) w.heap.size 55 #[.int .i64 0, .int .i64 0, .int .i64 0]) := Lib.hid ((Bk.new _ _ _).alloc _)
 have HI : Hid (Bk ((w.alloc (.cells #[.int .i64 0, .int .i64 0, .int .i64 0] 55)).alloc (.cells #[.int .i64 0, .int .i64 0] 79)) (w.heap.size + 1) 79 #[.int .i64 0, .int .i64 0]) := Lib.hid (Bk.here _ _ _ (by simp))
 have H := Lib.hid (h.below hHB)
 have cN := fun w => SNew_any (w := w) 16777216 0 (.inr rfl) (by decide) (by decide)
 simp only [Int.add_zero] at cN
 have hgl := h.hd.lt
 obtain ⟨m, hm⟩ : ∃ m, m = Mm.one s := ⟨_, rfl⟩
 have HMO := Lib.hid hm
 have hh0 : (m.hdr a).1 = 0 := by rw [hm]; exact ha0
 rw [← hm]
 obtain ⟨hd, hhd⟩ : ∃ hd, hd = (m.hdr a).2 := ⟨_, rfl⟩
 obtain ⟨i, hi⟩ : ∃ i, i = m.idOf a := ⟨_, rfl⟩
 rw [← hhd, ← hi]
 have HHD := Lib.hid (And.intro hhd hi)
 clear hhd hi
 have HHB := Lib.hid hB
 have HB00 := Lib.hid hb0
 have HL0 := Lib.hid hl
 have hsz : (((w.alloc (.cells #[.int .i64 0, .int .i64 0, .int .i64 0] 55)).alloc (.cells #[.int .i64 0, .int .i64 0] 79))).heap.size = w.heap.size + 2 := by simp
 clear h hHB hb0 hl ha0 hB hm
 go_enter Tryz.func44, Tryz.ntmps44
 go_upto_region 1 with fail
 generalize (w.alloc (.cells #[.int .i64 0, .int .i64 0, .int .i64 0] 55)).alloc (.cells #[.int .i64 0, .int .i64 0] 79) = wB at *
 go_wp2_with fail
 refine (cN _).mono ?_
 rintro e w1 ⟨gy, rfl, hy, hb1⟩
 have hyb : Bk w1 gy 115 #[.int .i64 16777216, .int .i64 16777216, .slice none 0 0] := hy.hd
 have hyg := hy.ge
 have hbx : Below w1.heap.size w1 (w1.alloc (.cells #[.pointer (some ⟨g, 0, none⟩), .pointer (some ⟨gy, 0, none⟩)] 27)) := (Below.refl _ _).alloc (Nat.le_refl _) _
 have hmr : MR (w1.alloc (.cells #[.pointer (some ⟨g, 0, none⟩), .pointer (some ⟨gy, 0, none⟩)] 27)) B g gy V (.slice none 0 0) m := by
  rw [HMO.out]
  exact MR.one ((H.out.below hb1).below hbx) HB00.out HL0.out (hyb.below hbx hyb.lt) (by have := HHB.out; omega) (by omega)
 have HMR := Lib.hid hmr
 have HM : Hid (Bk (w1.alloc (.cells #[.pointer (some ⟨g, 0, none⟩), .pointer (some ⟨gy, 0, none⟩)] 27)) w1.heap.size 27 #[.pointer (some ⟨g, 0, none⟩), .pointer (some ⟨gy, 0, none⟩)]) := Lib.hid (Bk.new _ _ _)
 have HB2 := Lib.hid (HB.out.trans ((hb1.trans (hbx.mono hb1.size)).mono HB.out.size))
 have HK2 := Lib.hid ((HK.out.below hb1 HK.out.lt).below hbx (Nat.lt_of_lt_of_le HK.out.lt hb1.size))
 have HI2 := Lib.hid ((HI.out.below hb1 HI.out.lt).below hbx (Nat.lt_of_lt_of_le HI.out.lt hb1.size))
 clear hy hyb hbx hmr HB HK HI H cN hyg hb1
 go_upto_region 2 with fail
 generalize w1.alloc (.cells #[.pointer (some ⟨g, 0, none⟩), .pointer (some ⟨gy, 0, none⟩)] 27) = w2 at *
 generalize w1.heap.size = gm at *
 have q0 : w2.cell? ⟨gm, 0, none⟩ = some (.pointer (some ⟨g, 0, none⟩)) := HM.out.cell 0
 have q1 : w2.cell? ⟨gm, 1, none⟩ = some (.pointer (some ⟨gy, 0, none⟩)) := HM.out.cell 1
 have cH := MHdr_of HMR.out a
 rw [hh0] at cH
 have HH0 := Lib.hid hh0
 rw [← HHD.out.1] at cH
 clear hh0
 go_wp2_with fail
 refine cH.mono ?_
 rintro e w3 ⟨rfl, hb3⟩
 have hbx := hb3.trans (((Below.refl w3.heap.size w3).alloc (Nat.le_refl _) (.cells #[.int .i64 hd.k, .int .i64 hd.c, .int .i64 hd.f] 55)).mono hb3.size)
 have HX : Hid (Bk (w3.alloc (.cells #[.int .i64 hd.k, .int .i64 hd.c, .int .i64 hd.f] 55)) w3.heap.size 55 #[.int .i64 hd.k, .int .i64 hd.c, .int .i64 hd.f]) := Lib.hid (Bk.new _ _ _)
 have HB4 := Lib.hid (HB2.out.trans (hbx.mono HB2.out.size))
 have HK4 := Lib.hid (HK2.out.below hbx HK2.out.lt)
 have HI4 := Lib.hid (HI2.out.below hbx HI2.out.lt)
 have HM4 := Lib.hid (HM.out.below hbx HM.out.lt)
 have HMR4 := Lib.hid (HMR.out.below hbx)
 have hg23 : w2.heap.size ≤ w3.heap.size := hb3.size
 have hw2s := HB2.out.size
 have hki : w.heap.size + 1 < w2.heap.size := HI2.out.lt
 clear cH hb3 hbx q0 q1 HB2 HK2 HI2 HM HMR
 go_upto_region 3 with fail
 generalize w3.alloc (.cells #[.int .i64 hd.k, .int .i64 hd.c, .int .i64 hd.f] 55) = w4 at *
 generalize w3.heap.size = gx at *
 have q0 : w4.cell? ⟨gm, 0, none⟩ = some (.pointer (some ⟨g, 0, none⟩)) := HM4.out.cell 0
 have q1 : w4.cell? ⟨gm, 1, none⟩ = some (.pointer (some ⟨gy, 0, none⟩)) := HM4.out.cell 1
 have cI := MID_yes HMR4.out HH0.out ha
 rw [← HHD.out.2] at cI
 go_wp2_with fail
 refine cI.mono ?_
 rintro e w5 ⟨rfl, hb5⟩
 have hbx := hb5.trans (((Below.refl w5.heap.size w5).alloc (Nat.le_refl _) (.cells #[.int .i64 i.m, .int .i64 i.s] 79)).mono hb5.size)
 have HY : Hid (Bk (w5.alloc (.cells #[.int .i64 i.m, .int .i64 i.s] 79)) w5.heap.size 79 #[.int .i64 i.m, .int .i64 i.s]) := Lib.hid (Bk.new _ _ _)
 have HB6 := Lib.hid (HB4.out.trans (hbx.mono HB4.out.size))
 have HK6 := Lib.hid (HK4.out.below hbx HK4.out.lt)
 have HI6 := Lib.hid (HI4.out.below hbx HI4.out.lt)
 have HX6 := Lib.hid (HX.out.below hbx HX.out.lt)
 clear cI hb5 hbx q0 q1 HB4 HK4 HI4 HM4 HMR4 HX
 go_upto_region 6 with fail
 generalize w5.alloc (.cells #[.int .i64 i.m, .int .i64 i.s] 79) = w6 at *
 generalize w5.heap.size = gz at *
 have d0 : w6.cell? ⟨w.heap.size, 0, none⟩ = some (.int .i64 0) := HK6.out.cell 0
 have d1 : w6.cell? ⟨w.heap.size, 1, none⟩ = some (.int .i64 0) := HK6.out.cell 1
 have d2 : w6.cell? ⟨w.heap.size, 2, none⟩ = some (.int .i64 0) := HK6.out.cell 2
 have k0 : w6.cell? ⟨w.heap.size + 1, 0, none⟩ = some (.int .i64 0) := HI6.out.cell 0
 have k1 : w6.cell? ⟨w.heap.size + 1, 1, none⟩ = some (.int .i64 0) := HI6.out.cell 1
 have x0 : w6.cell? ⟨gx, 0, none⟩ = some (.int .i64 hd.k) := HX6.out.cell 0
 have x1 : w6.cell? ⟨gx, 1, none⟩ = some (.int .i64 hd.c) := HX6.out.cell 1
 have x2 : w6.cell? ⟨gx, 2, none⟩ = some (.int .i64 hd.f) := HX6.out.cell 2
 have z0 : w6.cell? ⟨gz, 0, none⟩ = some (.int .i64 i.m) := HY.out.cell 0
 have z1 : w6.cell? ⟨gz, 1, none⟩ = some (.int .i64 i.s) := HY.out.cell 1
 have f0 := HK6.out.free 0
 have f1 := HK6.out.free 1
 have f2 := HK6.out.free 2
 have u0 := HI6.out.free 0
 have u1 := HI6.out.free 1
 have hne : gz ≠ w.heap.size := Bk.neT HY.out HK6.out (by decide)
 go_region
 have hbf := ((((HB6.out.setCell (p := ⟨w.heap.size, 0, none⟩) (by simp) (.int .i64 hd.k)).setCell (p := ⟨w.heap.size, 1, none⟩) (by simp) (.int .i64 hd.c)).setCell (p := ⟨w.heap.size, 2, none⟩) (by simp) (.int .i64 hd.f)).setCell (p := ⟨w.heap.size + 1, 0, none⟩) (by simp) (.int .i64 i.m)).setCell (p := ⟨w.heap.size + 1, 1, none⟩) (by simp) (.int .i64 i.s)
 have HBF := Lib.hid hbf
 clear hbf HB6 HK6 HI6 HX6 HY
 go_wp2_with fail
 refine bodyPost_ret (v := .tuple #[.agg #[.int .i64 hd.k, .int .i64 hd.c, .int .i64 hd.f], .agg #[.int .i64 i.m, .int .i64 i.s]]) (by simp [results, Tryz.results44, go_sem, d0, d1, d2, k0, k1]) rfl ⟨rfl, ?_⟩
 exact ⟨HBF.out.os, HBF.out.tape, HBF.out.output, HBF.out.size, HBF.out.block⟩
def tgtI (m : Mm) (o : Option Int) : Id := match o with
 | none => Id.zero
 | some a => m.idOf a
theorem rfr_cases {m : Mm} {x : Int} {o : Option Int} (h : m.rfr x = some o) : (adr x = none ∧ o = none) ∨ ∃ a b, adr x = some a ∧ m.resolve a = (b, 0) ∧ o = some b := by
 unfold Mm.rfr at h
 split at h
 ·cases h; exact .inl ⟨by assumption, rfl⟩
 ·rename_i a ha
  split at h
  ·rename_i h0
   cases h
   exact .inr ⟨a, (m.resolve a).1, ha, by rw [← h0], rfl⟩
  ·cases h
set_option maxHeartbeats 4000000 in
theorem target12_any (h : SpR w B g s V) (hb0 : s.base = 0) (hl : s.limit ≤ 16777216) (hB : B ≤ w.heap.size) {x : Int} (hx : U64 x) {o : Option Int} (ho : (Mm.one s).rfr x = some o) : Calls Tryz.prog 42 #[.pointer (some ⟨g, 0, none⟩), .int .u64 x] w fun e w' => e = .returned (.agg #[.int .i64 (tgtI (Mm.one s) o).m, .int .i64 (tgtI (Mm.one s) o).s]) ∧ Below w.heap.size w w' := by
 have hHB : Below w.heap.size w (w.alloc (.cells #[.int .i64 0, .int .i64 0] 79)) := (Below.refl _ _).alloc (Nat.le_refl _) _
 have HB := Lib.hid hHB
 have HI : Hid (Bk (w.alloc (.cells #[.int .i64 0, .int .i64 0] 79)) w.heap.size 79 #[.int .i64 0, .int .i64 0]) := Lib.hid (Bk.new _ _ _)
 have H := Lib.hid (h.below hHB)
 have cA := fun w => Address_any hx w
 unfold adrV at cA
 have cN := fun w => SNew_any (w := w) 16777216 0 (.inr rfl) (by decide) (by decide)
 simp only [Int.add_zero] at cN
 have hgl := h.hd.lt
 have HHB := Lib.hid hB
 have HB00 := Lib.hid hb0
 have HL0 := Lib.hid hl
 rcases rfr_cases ho with ⟨hd, rfl⟩ | ⟨a, b, hd, hr, rfl⟩
 ·simp only [hd] at cA
  clear h hHB hb0 hl hB ho hd hgl hx
  unfold tgtI
  dsimp only [Id.zero]
  go_enter Tryz.func42, Tryz.ntmps42
  go_upto_region 1 with fail
  generalize w.alloc (.cells #[.int .i64 0, .int .i64 0] 79) = wB at *
  go_wp2_with fail
  refine (cA _).mono ?_
  rintro e w1 ⟨rfl, rfl⟩
  have d0 : wB.cell? ⟨w.heap.size, 0, none⟩ = some (.int .i64 0) := HI.out.cell 0
  have d1 : wB.cell? ⟨w.heap.size, 1, none⟩ = some (.int .i64 0) := HI.out.cell 1
  have f0 := HI.out.free 0
  have f1 := HI.out.free 1
  clear cA
  go_wp2_with fail
  refine bodyPost_ret (v := .agg #[.int .i64 0, .int .i64 0]) (by simp [results, Tryz.results42, go_sem, d0, d1]) rfl ⟨rfl, ?_⟩
  exact (HB.out.setCell (p := ⟨w.heap.size, 0, none⟩) (by simp) _).setCell (p := ⟨w.heap.size, 1, none⟩) (by simp) _
 ·simp only [hd] at cA
  have hrf := Mm.rfr_hdr ho
  have hrg := Mm.res_has (Mm.one_ok h.ok hb0 hl) (Mm.hdr_has hrf.1)
  obtain ⟨m, hm⟩ : ∃ m, m = Mm.one s := ⟨_, rfl⟩
  have HMO := Lib.hid hm
  rw [← hm] at hr hrf ⊢
  have HR := Lib.hid hr
  have HF := Lib.hid hrf.1
  unfold tgtI
  dsimp only
  obtain ⟨i, hi⟩ : ∃ i, i = m.idOf b := ⟨_, rfl⟩
  rw [← hi]
  have HID := Lib.hid hi
  clear h hHB hb0 hl hB ho hd hx hr hrf hm hi
  go_enter Tryz.func42, Tryz.ntmps42
  go_upto_region 1 with fail
  have hszB : (w.alloc (.cells #[.int .i64 0, .int .i64 0] 79)).heap.size = w.heap.size + 1 := by simp
  generalize w.alloc (.cells #[.int .i64 0, .int .i64 0] 79) = wB at *
  go_wp2_with fail
  refine (cA _).mono ?_
  rintro e w1 ⟨rfl, rfl⟩
  clear cA
  go_wp2_with fail
  refine (cN _).mono ?_
  rintro e w1 ⟨gy, rfl, hy, hb1⟩
  have hyb : Bk w1 gy 115 #[.int .i64 16777216, .int .i64 16777216, .slice none 0 0] := hy.hd
  have hyg := hy.ge
  have hbx : Below w1.heap.size w1 (w1.alloc (.cells #[.pointer (some ⟨g, 0, none⟩), .pointer (some ⟨gy, 0, none⟩)] 27)) := (Below.refl _ _).alloc (Nat.le_refl _) _
  have hmr : MR (w1.alloc (.cells #[.pointer (some ⟨g, 0, none⟩), .pointer (some ⟨gy, 0, none⟩)] 27)) B g gy V (.slice none 0 0) m := by
   rw [HMO.out]
   exact MR.one ((H.out.below hb1).below hbx) HB00.out HL0.out (hyb.below hbx hyb.lt) (by have := HHB.out; omega) (by omega)
  have HMR := Lib.hid hmr
  have HM : Hid (Bk (w1.alloc (.cells #[.pointer (some ⟨g, 0, none⟩), .pointer (some ⟨gy, 0, none⟩)] 27)) w1.heap.size 27 #[.pointer (some ⟨g, 0, none⟩), .pointer (some ⟨gy, 0, none⟩)]) := Lib.hid (Bk.new _ _ _)
  have HB2 := Lib.hid (HB.out.trans ((hb1.trans (hbx.mono hb1.size)).mono HB.out.size))
  have HI2 := Lib.hid ((HI.out.below hb1 HI.out.lt).below hbx (Nat.lt_of_lt_of_le HI.out.lt hb1.size))
  clear hy hyb hbx hmr HB HI H cN hyg hb1
  go_upto_region 5 with fail
  generalize w1.alloc (.cells #[.pointer (some ⟨g, 0, none⟩), .pointer (some ⟨gy, 0, none⟩)] 27) = w2 at *
  generalize w1.heap.size = gm at *
  have q0 : w2.cell? ⟨gm, 0, none⟩ = some (.pointer (some ⟨g, 0, none⟩)) := HM.out.cell 0
  have q1 : w2.cell? ⟨gm, 1, none⟩ = some (.pointer (some ⟨gy, 0, none⟩)) := HM.out.cell 1
  have cH := MResolve_any HMR.out a
  rw [HR.out] at cH
  unfold memV at cH
  go_wp2_with fail
  refine cH.mono ?_
  rintro e w3 ⟨rfl, hb3⟩
  have HB3 := Lib.hid (HB2.out.trans (hb3.mono HB2.out.size))
  have HI3 := Lib.hid (HI2.out.below hb3 HI2.out.lt)
  have HM3 := Lib.hid (HM.out.below hb3 HM.out.lt)
  have HMR3 := Lib.hid (HMR.out.below hb3)
  clear cH hb3 q0 q1 HB2 HI2 HM HMR
  have q0 : w3.cell? ⟨gm, 0, none⟩ = some (.pointer (some ⟨g, 0, none⟩)) := HM3.out.cell 0
  have q1 : w3.cell? ⟨gm, 1, none⟩ = some (.pointer (some ⟨gy, 0, none⟩)) := HM3.out.cell 1
  have cI := MID_yes HMR3.out HF.out hrg
  rw [← HID.out] at cI
  go_wp2_with fail
  refine cI.mono ?_
  rintro e w5 ⟨rfl, hb5⟩
  have hbx := hb5.trans (((Below.refl w5.heap.size w5).alloc (Nat.le_refl _) (.cells #[.int .i64 i.m, .int .i64 i.s] 79)).mono hb5.size)
  have HY : Hid (Bk (w5.alloc (.cells #[.int .i64 i.m, .int .i64 i.s] 79)) w5.heap.size 79 #[.int .i64 i.m, .int .i64 i.s]) := Lib.hid (Bk.new _ _ _)
  have HB6 := Lib.hid (HB3.out.trans (hbx.mono HB3.out.size))
  have HI6 := Lib.hid (HI3.out.below hbx HI3.out.lt)
  clear cI hb5 hbx q0 q1 HB3 HI3 HM3 HMR3
  go_upto_region 9 with fail
  generalize w5.alloc (.cells #[.int .i64 i.m, .int .i64 i.s] 79) = w6 at *
  generalize w5.heap.size = gz at *
  have d0 : w6.cell? ⟨w.heap.size, 0, none⟩ = some (.int .i64 0) := HI6.out.cell 0
  have d1 : w6.cell? ⟨w.heap.size, 1, none⟩ = some (.int .i64 0) := HI6.out.cell 1
  have z0 : w6.cell? ⟨gz, 0, none⟩ = some (.int .i64 i.m) := HY.out.cell 0
  have z1 : w6.cell? ⟨gz, 1, none⟩ = some (.int .i64 i.s) := HY.out.cell 1
  have f0 := HI6.out.free 0
  have f1 := HI6.out.free 1
  have hbf := (HB6.out.setCell (p := ⟨w.heap.size, 0, none⟩) (by simp) (.int .i64 i.m)).setCell (p := ⟨w.heap.size, 1, none⟩) (by simp) (.int .i64 i.s)
  have HBF := Lib.hid hbf
  clear hbf HB6 HI6 HY
  go_wp2_with fail
  refine bodyPost_ret (v := .agg #[.int .i64 i.m, .int .i64 i.s]) (by simp [results, Tryz.results42, go_sem, d0, d1]) rfl ⟨rfl, HBF.out⟩
set_option maxHeartbeats 4000000 in
theorem marked12_any {ms : List Int} {A : Option Addr} {c : Nat} (h : SpR w B g s V) (hm : IS w ms A c) (hml : ms.length ≤ 16777216) (hb0 : s.base = 0) (hl : s.limit ≤ 16777216) (hB : B ≤ w.heap.size) {x : Int} (hx : U64 x) {b : Int} (ho : (Mm.one s).rfr x = some (some b)) : Calls Tryz.prog 50 #[.slice A ms.length c, .pointer (some ⟨g, 0, none⟩), .int .u64 x] w fun e w' => e = .returned (.bool (ms.contains b)) ∧ Below w.heap.size w w' := by
 have H := Lib.hid h
 have cA := fun w => Address_any hx w
 unfold adrV at cA
 have cN := fun w => SNew_any (w := w) 16777216 0 (.inr rfl) (by decide) (by decide)
 simp only [Int.add_zero] at cN
 have hgl := h.hd.lt
 have HHB := Lib.hid hB
 have HB00 := Lib.hid hb0
 have HL0 := Lib.hid hl
 have HM := Lib.hid hm
 rcases rfr_cases ho with ⟨hd, hn⟩ | ⟨a, b', hd, hr, hbb⟩
 ·cases hn
 ·cases hbb
  simp only [hd] at cA
  have HR := Lib.hid hr
  obtain ⟨q, hq⟩ : ∃ q, ms.contains b = q := ⟨_, rfl⟩
  rw [hq]
  have HQ := Lib.hid hq
  clear h hb0 hl hB ho hd hx hr hm hq
  go_enter Tryz.func50, Tryz.ntmps50
  go_wp2_with fail
  refine (cA _).mono ?_
  rintro e w1 ⟨rfl, rfl⟩
  clear cA
  go_wp2_with fail
  refine (cN _).mono ?_
  rintro e w1 ⟨gy, rfl, hy, hb1⟩
  have hyb : Bk w1 gy 115 #[.int .i64 16777216, .int .i64 16777216, .slice none 0 0] := hy.hd
  have hyg := hy.ge
  have hmr : MR w1 B g gy V (.slice none 0 0) (Mm.one s) := MR.one (H.out.below hb1) HB00.out HL0.out hyb (by have := HHB.out; omega) (by omega)
  have cH := MResolve_any hmr a
  rw [HR.out] at cH
  unfold memV at cH
  have HB1 := Lib.hid hb1
  have HM1 := Lib.hid (HM.out.below hb1)
  clear hy hyb hmr cN hyg hb1 H HM HR
  go_wp2_with fail
  refine cH.mono ?_
  rintro e w2 ⟨rfl, hb2⟩
  have HB2 := Lib.hid (HB1.out.trans (hb2.mono HB1.out.size))
  have cS := R11Has_any (HM1.out.below hb2) (by omega) b
  rw [HQ.out] at cS
  clear cH hb2 HB1 HM1
  go_wp2_with fail
  refine cS.mono ?_
  rintro e w3 ⟨rfl, rfl⟩
  go_wp2_with fail
  go_ret
  exact ⟨rfl, HB2.out⟩
end
end Go.Proofs.YtjpaogapclfajaaGreat
