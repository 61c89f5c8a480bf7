/- Parts of the proof: RMAlloc, RMark, RBst, New, Map. -/
import Derived.Deep.CutBlock
import Derived.Deep.CutRange
import Derived.Maps.Own
import Derived.Maps.OwnOps
import Derived.Maps.OwnSet
import Derived.RegionTactic
import Derived.Test.YtjpaogapclfajaaGreatBcA
import Derived.Test.YtjpaogapclfajaaGreatBc0
import Derived.Test.YtjpaogapclfajaaGreatBc2
import Derived.Test.YtjpaogapclfajaaGreatBc9
set_option linter.unusedVariables false
set_option linter.unusedSimpArgs false
set_option linter.unusedSectionVars false
namespace Go.Proofs.YtjpaogapclfajaaGreat
open Go.RowKit Go.Sort
set_option maxRecDepth 100000
def RMAlP (w : World) (B1 B2 : Option Addr) (r : Int × Mm × Int) (e : Ending) (w' : World) : Prop := ∃ A1 c1 A2 c2, e = .returned (.tuple #[rmV r.2.1 A1 c1 A2 c2, .int .i64 r.2.2, .int .i64 r.1]) ∧ RM w' r.2.1 A1 c1 A2 c2 ∧ Below w.heap.size w w' ∧ Nw w.heap.size B1 A1 ∧ Nw w.heap.size B2 A2
theorem Spc.alloc_bl (s : Spc) (h : Hdr) (i : Id) : (s.alloc h i).2.1.base = s.base ∧ (s.alloc h i).2.1.limit = s.limit := by
 unfold Spc.alloc
 split
 ·exact ⟨rfl, rfl⟩
 ·split
  ·exact ⟨rfl, rfl⟩
  ·exact ⟨rfl, rfl⟩
section
variable {w : World} {m : Mm} {A1 A2 : Option Addr} {c1 c2 : Nat}
set_option maxHeartbeats 4000000 in
theorem RMAlloc_y (h : RM w m A1 c1 A2 c2) (hd : Hdr) (i : Id) : Calls Tryz.prog 108 #[rmV m A1 c1 A2 c2, .bool true, hd.val, i.val] w (RMAlP w A1 A2 (m.alloc true hd i)) := by
 have HB0 : Hid (Below w.heap.size w ((((w.alloc (.cells #[.int .i64 m.old.base, .int .i64 m.old.limit, .slice A1 m.old.ws.length c1, .int .i64 m.yng.base, .int .i64 m.yng.limit, .slice A2 m.yng.ws.length c2] 32)).alloc (.cells #[.int .i64 hd.k, .int .i64 hd.c, .int .i64 hd.f] 55)).alloc (.cells #[.int .i64 i.m, .int .i64 i.s] 79)).alloc (.cells #[.int .i64 0, .int .i64 0, .slice none 0 0, .int .i64 0, .int .i64 0, .slice none 0 0] 32))) := lh (((((Below.refl _ _).alloc (Nat.le_refl _) _).alloc (by simp) _).alloc (by simp; omega) _).alloc (by simp; omega) _)
 have B00 : Hid (Bk ((((w.alloc (.cells #[.int .i64 m.old.base, .int .i64 m.old.limit, .slice A1 m.old.ws.length c1, .int .i64 m.yng.base, .int .i64 m.yng.limit, .slice A2 m.yng.ws.length c2] 32)).alloc (.cells #[.int .i64 hd.k, .int .i64 hd.c, .int .i64 hd.f] 55)).alloc (.cells #[.int .i64 i.m, .int .i64 i.s] 79)).alloc (.cells #[.int .i64 0, .int .i64 0, .slice none 0 0, .int .i64 0, .int .i64 0, .slice none 0 0] 32)) (w.heap.size) 32 #[.int .i64 m.old.base, .int .i64 m.old.limit, .slice A1 m.old.ws.length c1, .int .i64 m.yng.base, .int .i64 m.yng.limit, .slice A2 m.yng.ws.length c2]) := lh (((Bk.new _ _ _).alloc _).alloc _ |>.alloc _)
 have B30 : Hid (Bk ((((w.alloc (.cells #[.int .i64 m.old.base, .int .i64 m.old.limit, .slice A1 m.old.ws.length c1, .int .i64 m.yng.base, .int .i64 m.yng.limit, .slice A2 m.yng.ws.length c2] 32)).alloc (.cells #[.int .i64 hd.k, .int .i64 hd.c, .int .i64 hd.f] 55)).alloc (.cells #[.int .i64 i.m, .int .i64 i.s] 79)).alloc (.cells #[.int .i64 0, .int .i64 0, .slice none 0 0, .int .i64 0, .int .i64 0, .slice none 0 0] 32)) (w.heap.size + 1 + 1 + 1) 32 #[.int .i64 0, .int .i64 0, .slice none 0 0, .int .i64 0, .int .i64 0, .slice none 0 0]) := lh (Bk.here _ _ _ (by simp))
 have hoB := (h.below HB0.out).o
 have cA := RAlloc_any (h.below HB0.out).y hd i
 have H := lh h
 obtain ⟨hbs, hlm⟩ := Spc.alloc_bl m.yng hd i
 obtain ⟨r, hr⟩ : ∃ r, r = m.yng.alloc hd i := ⟨_, rfl⟩
 have HR : Hid (m.alloc true hd i = (r.1, { m with yng := r.2.1 }, r.2.2)) := lh (by rw [hr]; rfl)
 rw [← hr] at cA hbs hlm
 have hbs := lh hbs
 have hlm := lh hlm
 unfold rmV Hdr.val Id.val rsV at *
 clear h hr hoB
 go_enter Tryz.func108, Tryz.ntmps108
 go_wp2_with fail
 refine cA.mono ?_
 rintro e w1 ⟨A', c', rfl, hs1, hb, hnw⟩
 have HNW := lh (hnw.mono HB0.out.size)
 clear hnw
 have HB1 := lh (HB0.out.trans (hb.mono HB0.out.size))
 have HS1 := lh hs1
 have Q1 := lh (B00.out.below hb B00.out.lt)
 have Z1 := lh (B30.out.below hb B30.out.lt)
 have hz1 := Z1.out.lt
 unfold rsV
 rw [hbs.out, hlm.out]
 clear hs1 hb
 go_upto_region 3 with fail
 have hB3 := HB1.out.alloc HB1.out.size (.cells #[.int .i64 m.yng.base, .int .i64 m.yng.limit, .slice A' r.2.1.ws.length c'] 30)
 have q3 := Q1.out.alloc (.cells #[.int .i64 m.yng.base, .int .i64 m.yng.limit, .slice A' r.2.1.ws.length c'] 30)
 have z3 := Z1.out.alloc (.cells #[.int .i64 m.yng.base, .int .i64 m.yng.limit, .slice A' r.2.1.ws.length c'] 30)
 have n3 := Bk.new w1 30 #[.int .i64 m.yng.base, .int .i64 m.yng.limit, .slice A' r.2.1.ws.length c']
 have hs3 : RS (w1.alloc (.cells #[.int .i64 m.yng.base, .int .i64 m.yng.limit, .slice A' r.2.1.ws.length c'] 30)) r.2.1 A' c' := HS1.out.below ((Below.refl _ _).alloc (Nat.le_refl _) _)
 obtain ⟨w3, hw3⟩ : ∃ w3, w1.alloc (.cells #[.int .i64 m.yng.base, .int .i64 m.yng.limit, .slice A' r.2.1.ws.length c'] 30) = w3 := ⟨_, rfl⟩
 rw [hw3] at hB3 q3 z3 n3 hs3 ⊢
 have HB3 := lh hB3
 have HS3 := lh hs3
 have Q3 := lh q3
 have Z3 := lh z3
 have n0 : w3.cell? ⟨w1.heap.size, 0, none⟩ = some (.int .i64 m.yng.base) := n3.cell 0
 have n1 : w3.cell? ⟨w1.heap.size, 1, none⟩ = some (.int .i64 m.yng.limit) := n3.cell 1
 have n2 : w3.cell? ⟨w1.heap.size, 2, none⟩ = some (.slice A' r.2.1.ws.length c') := n3.cell 2
 have k0 : w3.cell? ⟨w.heap.size, 0, none⟩ = some (.int .i64 m.old.base) := q3.cell 0
 have kf0 : w3.frozen? ⟨w.heap.size, 0, none⟩ = false := q3.free 0
 have k1 : w3.cell? ⟨w.heap.size, 1, none⟩ = some (.int .i64 m.old.limit) := q3.cell 1
 have kf1 : w3.frozen? ⟨w.heap.size, 1, none⟩ = false := q3.free 1
 have k2 : w3.cell? ⟨w.heap.size, 2, none⟩ = some (.slice A1 m.old.ws.length c1) := q3.cell 2
 have kf2 : w3.frozen? ⟨w.heap.size, 2, none⟩ = false := q3.free 2
 have k3 : w3.cell? ⟨w.heap.size, 3, none⟩ = some (.int .i64 m.yng.base) := q3.cell 3
 have kf3 : w3.frozen? ⟨w.heap.size, 3, none⟩ = false := q3.free 3
 have k4 : w3.cell? ⟨w.heap.size, 4, none⟩ = some (.int .i64 m.yng.limit) := q3.cell 4
 have kf4 : w3.frozen? ⟨w.heap.size, 4, none⟩ = false := q3.free 4
 have k5 : w3.cell? ⟨w.heap.size, 5, none⟩ = some (.slice A2 m.yng.ws.length c2) := q3.cell 5
 have kf5 : w3.frozen? ⟨w.heap.size, 5, none⟩ = false := q3.free 5
 have hne1 : w.heap.size ≠ w1.heap.size := by omega
 clear hw3 hB3 q3 z3 n3 hs3
 go_upto_region 4 with fail
 obtain ⟨w4, hw4⟩ : ∃ w4, (((w3.setCell ⟨w.heap.size, 3, none⟩ (.int .i64 m.yng.base)).setCell ⟨w.heap.size, 4, none⟩ (.int .i64 m.yng.limit)).setCell ⟨w.heap.size, 5, none⟩ (.slice A' r.2.1.ws.length c')) = w4 := ⟨_, rfl⟩
 have hB4 : Below w.heap.size w (((w3.setCell ⟨w.heap.size, 3, none⟩ (.int .i64 m.yng.base)).setCell ⟨w.heap.size, 4, none⟩ (.int .i64 m.yng.limit)).setCell ⟨w.heap.size, 5, none⟩ (.slice A' r.2.1.ws.length c')) := ((HB3.out.setCell (p := ⟨w.heap.size, 3, none⟩) (Nat.le_refl _) _).setCell (p := ⟨w.heap.size, 4, none⟩) (Nat.le_refl _) _).setCell (p := ⟨w.heap.size, 5, none⟩) (Nat.le_refl _) _
 have q4 : Bk (((w3.setCell ⟨w.heap.size, 3, none⟩ (.int .i64 m.yng.base)).setCell ⟨w.heap.size, 4, none⟩ (.int .i64 m.yng.limit)).setCell ⟨w.heap.size, 5, none⟩ (.slice A' r.2.1.ws.length c')) w.heap.size 32 #[.int .i64 m.old.base, .int .i64 m.old.limit, .slice A1 m.old.ws.length c1, .int .i64 m.yng.base, .int .i64 m.yng.limit, .slice A' r.2.1.ws.length c'] := ((Q3.out.set 3 _).set 4 _).set 5 _
 have z4 : Bk (((w3.setCell ⟨w.heap.size, 3, none⟩ (.int .i64 m.yng.base)).setCell ⟨w.heap.size, 4, none⟩ (.int .i64 m.yng.limit)).setCell ⟨w.heap.size, 5, none⟩ (.slice A' r.2.1.ws.length c')) (w.heap.size + 1 + 1 + 1) 32 #[.int .i64 0, .int .i64 0, .slice none 0 0, .int .i64 0, .int .i64 0, .slice none 0 0] := Z3.out.far3 (by omega) _ _ _ _ _ _
 have hs4 : RS (((w3.setCell ⟨w.heap.size, 3, none⟩ (.int .i64 m.yng.base)).setCell ⟨w.heap.size, 4, none⟩ (.int .i64 m.yng.limit)).setCell ⟨w.heap.size, 5, none⟩ (.slice A' r.2.1.ws.length c')) r.2.1 A' c' := ((HS3.out.setCell (p := ⟨w.heap.size, 3, none⟩) (HS3.out.away Q3.out rfl) _).setCell (p := ⟨w.heap.size, 4, none⟩) (HS3.out.away Q3.out rfl) _).setCell (p := ⟨w.heap.size, 5, none⟩) (HS3.out.away Q3.out rfl) _
 rw [hw4] at hB4 q4 z4 hs4 ⊢
 have HB4 := lh hB4
 have HS4 := lh hs4
 have HAW := lh (hs4.away z4 rfl)
 clear k0 k1 k2 k3 k4 k5 kf0 kf1 kf2 kf3 kf4 kf5 n0 n1 n2 hw4 hB4 hs4
 have k0 : w4.cell? ⟨w.heap.size, 0, none⟩ = some (.int .i64 m.old.base) := q4.cell 0
 have k1 : w4.cell? ⟨w.heap.size, 1, none⟩ = some (.int .i64 m.old.limit) := q4.cell 1
 have k2 : w4.cell? ⟨w.heap.size, 2, none⟩ = some (.slice A1 m.old.ws.length c1) := q4.cell 2
 have k3 : w4.cell? ⟨w.heap.size, 3, none⟩ = some (.int .i64 m.yng.base) := q4.cell 3
 have k4 : w4.cell? ⟨w.heap.size, 4, none⟩ = some (.int .i64 m.yng.limit) := q4.cell 4
 have k5 : w4.cell? ⟨w.heap.size, 5, none⟩ = some (.slice A' r.2.1.ws.length c') := q4.cell 5
 have d0 : w4.cell? ⟨w.heap.size + 1 + 1 + 1, 0, none⟩ = some (.int .i64 0) := z4.cell 0
 have df0 : w4.frozen? ⟨w.heap.size + 1 + 1 + 1, 0, none⟩ = false := z4.free 0
 have d1 : w4.cell? ⟨w.heap.size + 1 + 1 + 1, 1, none⟩ = some (.int .i64 0) := z4.cell 1
 have df1 : w4.frozen? ⟨w.heap.size + 1 + 1 + 1, 1, none⟩ = false := z4.free 1
 have d2 : w4.cell? ⟨w.heap.size + 1 + 1 + 1, 2, none⟩ = some (.slice none 0 0) := z4.cell 2
 have df2 : w4.frozen? ⟨w.heap.size + 1 + 1 + 1, 2, none⟩ = false := z4.free 2
 have d3 : w4.cell? ⟨w.heap.size + 1 + 1 + 1, 3, none⟩ = some (.int .i64 0) := z4.cell 3
 have df3 : w4.frozen? ⟨w.heap.size + 1 + 1 + 1, 3, none⟩ = false := z4.free 3
 have d4 : w4.cell? ⟨w.heap.size + 1 + 1 + 1, 4, none⟩ = some (.int .i64 0) := z4.cell 4
 have df4 : w4.frozen? ⟨w.heap.size + 1 + 1 + 1, 4, none⟩ = false := z4.free 4
 have d5 : w4.cell? ⟨w.heap.size + 1 + 1 + 1, 5, none⟩ = some (.slice none 0 0) := z4.cell 5
 have df5 : w4.frozen? ⟨w.heap.size + 1 + 1 + 1, 5, none⟩ = false := z4.free 5
 clear q4 z4
 go_wp2_with fail
 have hle3 : w.heap.size ≤ w.heap.size + 1 + 1 + 1 := by omega
 have hbb := ((((((HB4.out.setCell (p := ⟨w.heap.size + 1 + 1 + 1, 0, none⟩) hle3 (.int .i64 m.old.base)).setCell (p := ⟨w.heap.size + 1 + 1 + 1, 1, none⟩) hle3 (.int .i64 m.old.limit)).setCell (p := ⟨w.heap.size + 1 + 1 + 1, 2, none⟩) hle3 (.slice A1 m.old.ws.length c1)).setCell (p := ⟨w.heap.size + 1 + 1 + 1, 3, none⟩) hle3 (.int .i64 m.yng.base)).setCell (p := ⟨w.heap.size + 1 + 1 + 1, 4, none⟩) hle3 (.int .i64 m.yng.limit)).setCell (p := ⟨w.heap.size + 1 + 1 + 1, 5, none⟩) hle3 (.slice A' r.2.1.ws.length c'))
 have hns := ((((((HS4.out.setCell (p := ⟨w.heap.size + 1 + 1 + 1, 0, none⟩) HAW.out (.int .i64 m.old.base)).setCell (p := ⟨w.heap.size + 1 + 1 + 1, 1, none⟩) HAW.out (.int .i64 m.old.limit)).setCell (p := ⟨w.heap.size + 1 + 1 + 1, 2, none⟩) HAW.out (.slice A1 m.old.ws.length c1)).setCell (p := ⟨w.heap.size + 1 + 1 + 1, 3, none⟩) HAW.out (.int .i64 m.yng.base)).setCell (p := ⟨w.heap.size + 1 + 1 + 1, 4, none⟩) HAW.out (.int .i64 m.yng.limit)).setCell (p := ⟨w.heap.size + 1 + 1 + 1, 5, none⟩) HAW.out (.slice A' r.2.1.ws.length c'))
 refine bodyPost_ret (v := .tuple #[.agg #[.int .i64 m.old.base, .int .i64 m.old.limit, .slice A1 m.old.ws.length c1, .int .i64 m.yng.base, .int .i64 m.yng.limit, .slice A' r.2.1.ws.length c'], .int .i64 r.2.2, .int .i64 r.1]) (by simp [results, Tryz.results108, go_sem, d0, d1, d2, d3, d4, d5]) rfl ?_
 rw [HR.out]
 refine ⟨A1, c1, A', c', ?_, ⟨(H.out.below hbb).o, hns⟩, hbb, Nw.refl _ _, HNW.out⟩
 unfold rmV
 simp only [hbs.out, hlm.out]
set_option maxHeartbeats 4000000 in
theorem RMAlloc_o (h : RM w m A1 c1 A2 c2) (hd : Hdr) (i : Id) : Calls Tryz.prog 108 #[rmV m A1 c1 A2 c2, .bool false, hd.val, i.val] w (RMAlP w A1 A2 (m.alloc false hd i)) := by
 have HB0 : Hid (Below w.heap.size w ((((w.alloc (.cells #[.int .i64 m.old.base, .int .i64 m.old.limit, .slice A1 m.old.ws.length c1, .int .i64 m.yng.base, .int .i64 m.yng.limit, .slice A2 m.yng.ws.length c2] 32)).alloc (.cells #[.int .i64 hd.k, .int .i64 hd.c, .int .i64 hd.f] 55)).alloc (.cells #[.int .i64 i.m, .int .i64 i.s] 79)).alloc (.cells #[.int .i64 0, .int .i64 0, .slice none 0 0, .int .i64 0, .int .i64 0, .slice none 0 0] 32))) := lh (((((Below.refl _ _).alloc (Nat.le_refl _) _).alloc (by simp) _).alloc (by simp; omega) _).alloc (by simp; omega) _)
 have B00 : Hid (Bk ((((w.alloc (.cells #[.int .i64 m.old.base, .int .i64 m.old.limit, .slice A1 m.old.ws.length c1, .int .i64 m.yng.base, .int .i64 m.yng.limit, .slice A2 m.yng.ws.length c2] 32)).alloc (.cells #[.int .i64 hd.k, .int .i64 hd.c, .int .i64 hd.f] 55)).alloc (.cells #[.int .i64 i.m, .int .i64 i.s] 79)).alloc (.cells #[.int .i64 0, .int .i64 0, .slice none 0 0, .int .i64 0, .int .i64 0, .slice none 0 0] 32)) (w.heap.size) 32 #[.int .i64 m.old.base, .int .i64 m.old.limit, .slice A1 m.old.ws.length c1, .int .i64 m.yng.base, .int .i64 m.yng.limit, .slice A2 m.yng.ws.length c2]) := lh (((Bk.new _ _ _).alloc _).alloc _ |>.alloc _)
 have B30 : Hid (Bk ((((w.alloc (.cells #[.int .i64 m.old.base, .int .i64 m.old.limit, .slice A1 m.old.ws.length c1, .int .i64 m.yng.base, .int .i64 m.yng.limit, .slice A2 m.yng.ws.length c2] 32)).alloc (.cells #[.int .i64 hd.k, .int .i64 hd.c, .int .i64 hd.f] 55)).alloc (.cells #[.int .i64 i.m, .int .i64 i.s] 79)).alloc (.cells #[.int .i64 0, .int .i64 0, .slice none 0 0, .int .i64 0, .int .i64 0, .slice none 0 0] 32)) (w.heap.size + 1 + 1 + 1) 32 #[.int .i64 0, .int .i64 0, .slice none 0 0, .int .i64 0, .int .i64 0, .slice none 0 0]) := lh (Bk.here _ _ _ (by simp))
 have hoB := (h.below HB0.out).y
 have cA := RAlloc_any (h.below HB0.out).o hd i
 have H := lh h
 obtain ⟨hbs, hlm⟩ := Spc.alloc_bl m.old hd i
 obtain ⟨r, hr⟩ : ∃ r, r = m.old.alloc hd i := ⟨_, rfl⟩
 have HR : Hid (m.alloc false hd i = (r.1, { m with old := r.2.1 }, r.2.2)) := lh (by rw [hr]; rfl)
 rw [← hr] at cA hbs hlm
 have hbs := lh hbs
 have hlm := lh hlm
 unfold rmV Hdr.val Id.val rsV at *
 clear h hr hoB
 go_enter Tryz.func108, Tryz.ntmps108
 go_wp2_with fail
 refine cA.mono ?_
 rintro e w1 ⟨A', c', rfl, hs1, hb, hnw⟩
 have HNW := lh (hnw.mono HB0.out.size)
 clear hnw
 have HB1 := lh (HB0.out.trans (hb.mono HB0.out.size))
 have HS1 := lh hs1
 have Q1 := lh (B00.out.below hb B00.out.lt)
 have Z1 := lh (B30.out.below hb B30.out.lt)
 have hz1 := Z1.out.lt
 unfold rsV
 rw [hbs.out, hlm.out]
 clear hs1 hb
 go_upto_region 6 with fail
 have hB3 := HB1.out.alloc HB1.out.size (.cells #[.int .i64 m.old.base, .int .i64 m.old.limit, .slice A' r.2.1.ws.length c'] 30)
 have q3 := Q1.out.alloc (.cells #[.int .i64 m.old.base, .int .i64 m.old.limit, .slice A' r.2.1.ws.length c'] 30)
 have z3 := Z1.out.alloc (.cells #[.int .i64 m.old.base, .int .i64 m.old.limit, .slice A' r.2.1.ws.length c'] 30)
 have n3 := Bk.new w1 30 #[.int .i64 m.old.base, .int .i64 m.old.limit, .slice A' r.2.1.ws.length c']
 have hs3 : RS (w1.alloc (.cells #[.int .i64 m.old.base, .int .i64 m.old.limit, .slice A' r.2.1.ws.length c'] 30)) r.2.1 A' c' := HS1.out.below ((Below.refl _ _).alloc (Nat.le_refl _) _)
 obtain ⟨w3, hw3⟩ : ∃ w3, w1.alloc (.cells #[.int .i64 m.old.base, .int .i64 m.old.limit, .slice A' r.2.1.ws.length c'] 30) = w3 := ⟨_, rfl⟩
 rw [hw3] at hB3 q3 z3 n3 hs3 ⊢
 have HB3 := lh hB3
 have HS3 := lh hs3
 have Q3 := lh q3
 have Z3 := lh z3
 have n0 : w3.cell? ⟨w1.heap.size, 0, none⟩ = some (.int .i64 m.old.base) := n3.cell 0
 have n1 : w3.cell? ⟨w1.heap.size, 1, none⟩ = some (.int .i64 m.old.limit) := n3.cell 1
 have n2 : w3.cell? ⟨w1.heap.size, 2, none⟩ = some (.slice A' r.2.1.ws.length c') := n3.cell 2
 have k0 : w3.cell? ⟨w.heap.size, 0, none⟩ = some (.int .i64 m.old.base) := q3.cell 0
 have kf0 : w3.frozen? ⟨w.heap.size, 0, none⟩ = false := q3.free 0
 have k1 : w3.cell? ⟨w.heap.size, 1, none⟩ = some (.int .i64 m.old.limit) := q3.cell 1
 have kf1 : w3.frozen? ⟨w.heap.size, 1, none⟩ = false := q3.free 1
 have k2 : w3.cell? ⟨w.heap.size, 2, none⟩ = some (.slice A1 m.old.ws.length c1) := q3.cell 2
 have kf2 : w3.frozen? ⟨w.heap.size, 2, none⟩ = false := q3.free 2
 have k3 : w3.cell? ⟨w.heap.size, 3, none⟩ = some (.int .i64 m.yng.base) := q3.cell 3
 have kf3 : w3.frozen? ⟨w.heap.size, 3, none⟩ = false := q3.free 3
 have k4 : w3.cell? ⟨w.heap.size, 4, none⟩ = some (.int .i64 m.yng.limit) := q3.cell 4
 have kf4 : w3.frozen? ⟨w.heap.size, 4, none⟩ = false := q3.free 4
 have k5 : w3.cell? ⟨w.heap.size, 5, none⟩ = some (.slice A2 m.yng.ws.length c2) := q3.cell 5
 have kf5 : w3.frozen? ⟨w.heap.size, 5, none⟩ = false := q3.free 5
 have hne1 : w.heap.size ≠ w1.heap.size := by omega
 clear hw3 hB3 q3 z3 n3 hs3
 go_upto_region 7 with fail
 obtain ⟨w4, hw4⟩ : ∃ w4, (((w3.setCell ⟨w.heap.size, 0, none⟩ (.int .i64 m.old.base)).setCell ⟨w.heap.size, 1, none⟩ (.int .i64 m.old.limit)).setCell ⟨w.heap.size, 2, none⟩ (.slice A' r.2.1.ws.length c')) = w4 := ⟨_, rfl⟩
 have hB4 : Below w.heap.size w (((w3.setCell ⟨w.heap.size, 0, none⟩ (.int .i64 m.old.base)).setCell ⟨w.heap.size, 1, none⟩ (.int .i64 m.old.limit)).setCell ⟨w.heap.size, 2, none⟩ (.slice A' r.2.1.ws.length c')) := ((HB3.out.setCell (p := ⟨w.heap.size, 0, none⟩) (Nat.le_refl _) _).setCell (p := ⟨w.heap.size, 1, none⟩) (Nat.le_refl _) _).setCell (p := ⟨w.heap.size, 2, none⟩) (Nat.le_refl _) _
 have q4 : Bk (((w3.setCell ⟨w.heap.size, 0, none⟩ (.int .i64 m.old.base)).setCell ⟨w.heap.size, 1, none⟩ (.int .i64 m.old.limit)).setCell ⟨w.heap.size, 2, none⟩ (.slice A' r.2.1.ws.length c')) w.heap.size 32 #[.int .i64 m.old.base, .int .i64 m.old.limit, .slice A' r.2.1.ws.length c', .int .i64 m.yng.base, .int .i64 m.yng.limit, .slice A2 m.yng.ws.length c2] := ((Q3.out.set 0 _).set 1 _).set 2 _
 have z4 : Bk (((w3.setCell ⟨w.heap.size, 0, none⟩ (.int .i64 m.old.base)).setCell ⟨w.heap.size, 1, none⟩ (.int .i64 m.old.limit)).setCell ⟨w.heap.size, 2, none⟩ (.slice A' r.2.1.ws.length c')) (w.heap.size + 1 + 1 + 1) 32 #[.int .i64 0, .int .i64 0, .slice none 0 0, .int .i64 0, .int .i64 0, .slice none 0 0] := Z3.out.far3 (by omega) _ _ _ _ _ _
 have hs4 : RS (((w3.setCell ⟨w.heap.size, 0, none⟩ (.int .i64 m.old.base)).setCell ⟨w.heap.size, 1, none⟩ (.int .i64 m.old.limit)).setCell ⟨w.heap.size, 2, none⟩ (.slice A' r.2.1.ws.length c')) r.2.1 A' c' := ((HS3.out.setCell (p := ⟨w.heap.size, 0, none⟩) (HS3.out.away Q3.out rfl) _).setCell (p := ⟨w.heap.size, 1, none⟩) (HS3.out.away Q3.out rfl) _).setCell (p := ⟨w.heap.size, 2, none⟩) (HS3.out.away Q3.out rfl) _
 rw [hw4] at hB4 q4 z4 hs4 ⊢
 have HB4 := lh hB4
 have HS4 := lh hs4
 have HAW := lh (hs4.away z4 rfl)
 clear k0 k1 k2 k3 k4 k5 kf0 kf1 kf2 kf3 kf4 kf5 n0 n1 n2 hw4 hB4 hs4
 have k0 : w4.cell? ⟨w.heap.size, 0, none⟩ = some (.int .i64 m.old.base) := q4.cell 0
 have k1 : w4.cell? ⟨w.heap.size, 1, none⟩ = some (.int .i64 m.old.limit) := q4.cell 1
 have k2 : w4.cell? ⟨w.heap.size, 2, none⟩ = some (.slice A' r.2.1.ws.length c') := q4.cell 2
 have k3 : w4.cell? ⟨w.heap.size, 3, none⟩ = some (.int .i64 m.yng.base) := q4.cell 3
 have k4 : w4.cell? ⟨w.heap.size, 4, none⟩ = some (.int .i64 m.yng.limit) := q4.cell 4
 have k5 : w4.cell? ⟨w.heap.size, 5, none⟩ = some (.slice A2 m.yng.ws.length c2) := q4.cell 5
 have d0 : w4.cell? ⟨w.heap.size + 1 + 1 + 1, 0, none⟩ = some (.int .i64 0) := z4.cell 0
 have df0 : w4.frozen? ⟨w.heap.size + 1 + 1 + 1, 0, none⟩ = false := z4.free 0
 have d1 : w4.cell? ⟨w.heap.size + 1 + 1 + 1, 1, none⟩ = some (.int .i64 0) := z4.cell 1
 have df1 : w4.frozen? ⟨w.heap.size + 1 + 1 + 1, 1, none⟩ = false := z4.free 1
 have d2 : w4.cell? ⟨w.heap.size + 1 + 1 + 1, 2, none⟩ = some (.slice none 0 0) := z4.cell 2
 have df2 : w4.frozen? ⟨w.heap.size + 1 + 1 + 1, 2, none⟩ = false := z4.free 2
 have d3 : w4.cell? ⟨w.heap.size + 1 + 1 + 1, 3, none⟩ = some (.int .i64 0) := z4.cell 3
 have df3 : w4.frozen? ⟨w.heap.size + 1 + 1 + 1, 3, none⟩ = false := z4.free 3
 have d4 : w4.cell? ⟨w.heap.size + 1 + 1 + 1, 4, none⟩ = some (.int .i64 0) := z4.cell 4
 have df4 : w4.frozen? ⟨w.heap.size + 1 + 1 + 1, 4, none⟩ = false := z4.free 4
 have d5 : w4.cell? ⟨w.heap.size + 1 + 1 + 1, 5, none⟩ = some (.slice none 0 0) := z4.cell 5
 have df5 : w4.frozen? ⟨w.heap.size + 1 + 1 + 1, 5, none⟩ = false := z4.free 5
 clear q4 z4
 go_wp2_with fail
 have hle3 : w.heap.size ≤ w.heap.size + 1 + 1 + 1 := by omega
 have hbb := ((((((HB4.out.setCell (p := ⟨w.heap.size + 1 + 1 + 1, 0, none⟩) hle3 (.int .i64 m.old.base)).setCell (p := ⟨w.heap.size + 1 + 1 + 1, 1, none⟩) hle3 (.int .i64 m.old.limit)).setCell (p := ⟨w.heap.size + 1 + 1 + 1, 2, none⟩) hle3 (.slice A' r.2.1.ws.length c')).setCell (p := ⟨w.heap.size + 1 + 1 + 1, 3, none⟩) hle3 (.int .i64 m.yng.base)).setCell (p := ⟨w.heap.size + 1 + 1 + 1, 4, none⟩) hle3 (.int .i64 m.yng.limit)).setCell (p := ⟨w.heap.size + 1 + 1 + 1, 5, none⟩) hle3 (.slice A2 m.yng.ws.length c2))
 have hns := ((((((HS4.out.setCell (p := ⟨w.heap.size + 1 + 1 + 1, 0, none⟩) HAW.out (.int .i64 m.old.base)).setCell (p := ⟨w.heap.size + 1 + 1 + 1, 1, none⟩) HAW.out (.int .i64 m.old.limit)).setCell (p := ⟨w.heap.size + 1 + 1 + 1, 2, none⟩) HAW.out (.slice A' r.2.1.ws.length c')).setCell (p := ⟨w.heap.size + 1 + 1 + 1, 3, none⟩) HAW.out (.int .i64 m.yng.base)).setCell (p := ⟨w.heap.size + 1 + 1 + 1, 4, none⟩) HAW.out (.int .i64 m.yng.limit)).setCell (p := ⟨w.heap.size + 1 + 1 + 1, 5, none⟩) HAW.out (.slice A2 m.yng.ws.length c2))
 refine bodyPost_ret (v := .tuple #[.agg #[.int .i64 m.old.base, .int .i64 m.old.limit, .slice A' r.2.1.ws.length c', .int .i64 m.yng.base, .int .i64 m.yng.limit, .slice A2 m.yng.ws.length c2], .int .i64 r.2.2, .int .i64 r.1]) (by simp [results, Tryz.results108, go_sem, d0, d1, d2, d3, d4, d5]) rfl ?_
 rw [HR.out]
 refine ⟨A', c', A2, c2, ?_, ⟨hns, (H.out.below hbb).y⟩, hbb, HNW.out, Nw.refl _ _⟩
 unfold rmV
 simp only [hbs.out, hlm.out]
theorem RMAlloc_any (h : RM w m A1 c1 A2 c2) (young : Bool) (hd : Hdr) (i : Id) : Calls Tryz.prog 108 #[rmV m A1 c1 A2 c2, .bool young, hd.val, i.val] w (RMAlP w A1 A2 (m.alloc young hd i)) := by
 cases young with
 | true => exact RMAlloc_y h hd i
 | false => exact RMAlloc_o h hd i
end
end Go.Proofs.YtjpaogapclfajaaGreat
namespace Go.Proofs.YtjpaogapclfajaaGreat
open Go.RowKit Go.Sort
set_option maxRecDepth 100000
theorem i_int : (Tryz.prog.info? 3).map (fun i => (i.zero, i.size, i.bytes)) = some (some (.int .i64 0), 1, 8) := by kernel_rfl
theorem ints_one (l : List Int) : ∀ u ∈ ints l, u.oneCell' = true := by
 intro u hu
 obtain ⟨x, _, rfl⟩ := List.mem_map.1 hu
 rfl
theorem ints_get {l : List Int} {i : Nat} {x : Int} (h : l[i]? = some x) : (ints l)[i]? = some (.int .i64 x) := by simp [ints, h]
/-- a list of numbers lies in a slice -/
structure IS (w : World) (l : List Int) (A : Option Addr) (c : Nat) : Prop where
 sl : Sl w 1 A l.length (ints l)
 cap : l.length ≤ c
theorem IS.below {w w' : World} {l : List Int} {A : Option Addr} {c : Nat} (h : IS w l A c) (hb : Below w.heap.size w w') : IS w' l A c := ⟨h.sl.below hb, h.cap⟩
section
variable {w : World} {cs : List Int} {A : Option Addr} {c : Nat}
end
end Go.Proofs.YtjpaogapclfajaaGreat
namespace Go.Proofs.YtjpaogapclfajaaGreat
open Go.RowKit Go.Sort
set_option maxRecDepth 100000
theorem Sl.take {w : World} {A : Option Addr} {l : List Int} (h : Sl w 1 A l.length (ints l)) {k : Nat} (hk : k ≤ l.length) : Sl w 1 A k (ints (l.take k)) := by
 refine ⟨by simp [ints, hk], ?_⟩
 rcases h.2 with h0 | ⟨b, o, e, hb, hc⟩
 ·exact .inl (by omega)
 ·refine .inr ⟨b, o, e, hb, fun j x hx => hc j x ?_⟩
  simp only [ints, List.map_take] at hx ⊢
  exact (List.getElem?_take_of_lt (by have := (List.getElem?_eq_some_iff.1 hx).1; simp at this; omega)).symm.trans hx
theorem Sl.drop {w : World} {b o : Nat} {l : List Int} (h : Sl w 1 (some ⟨b, o, none⟩) l.length (ints l)) {k : Nat} (hk : k ≤ l.length) : Sl w 1 (some ⟨b, o + k, none⟩) (l.length - k) (ints (l.drop k)) := by
 refine ⟨by simp [ints], ?_⟩
 rcases h.2 with h0 | ⟨b', o', e, hb, hc⟩
 ·exact .inl (by omega)
 ·cases e
  refine .inr ⟨b, o + k, rfl, hb, fun j x hx => ?_⟩
  rw [Nat.add_assoc]
  refine hc (k + j) x ?_
  simpa [ints] using hx
section
variable {w : World} {cs : List Int} {A : Option Addr} {c : Nat}
end
section
variable {w : World} {cs : List Int} {A : Option Addr} {c : Nat}
end
end Go.Proofs.YtjpaogapclfajaaGreat
namespace Go.Proofs.YtjpaogapclfajaaGreat
open Go.RowKit Go.Sort
set_option maxRecDepth 100000
/-- the reference's cards -/
structure RC (w : World) (cs : List Int) (A : Option Addr) (c : Nat) : Prop where
 s : IS w cs A c
 m : c ≤ maxLen
 n : cs = [] → A = none ∧ c = 0
theorem RC.below {w w' : World} {cs : List Int} {A : Option Addr} {c : Nat} (h : RC w cs A c) (hb : Below w.heap.size w w') : RC w' cs A c := ⟨h.s.below hb, h.m, h.n⟩
theorem RC.away {w : World} {cs : List Int} {A A' : Option Addr} {c g H n : Nat} (h : RC w cs A c) (hA : ∀ b o, A' = some ⟨b, o, none⟩ → A' = A ∨ H ≤ b) (h1 : w.heap.size ≤ g) (h2 : g < H) : Away A' n g := by
 refine .inr fun b o e hb => ?_
 rcases hA b o e with h3 | h3
 ·rw [h3] at e
  rcases Nat.eq_zero_or_pos cs.length with h0 | h0
  ·have := (h.n (List.length_eq_zero_iff.1 h0)).1
   rw [e] at this
   cases this
  ·obtain ⟨b', o', e', hl, _⟩ := h.s.sl.get h0
   rw [e] at e'
   cases e'
   omega
 ·omega
theorem RC.setCell {w : World} {cs : List Int} {A : Option Addr} {c : Nat} (h : RC w cs A c) {p : Addr} (ha : Away A cs.length p.block) (u : Value) : RC (w.setCell p u) cs A c := by
 refine ⟨⟨⟨h.s.sl.1, ?_⟩, h.s.cap⟩, h.m, h.n⟩
 rcases h.s.sl.2 with h0 | ⟨b, o, e, hb, hc⟩
 ·exact .inl h0
 ·rcases ha with h1 | h1
  ·exact .inl h1
  ·subst e
   exact .inr ⟨b, o, rfl, by simpa [World.setCell] using hb, fun j x hx => cellFar u (hc j x hx) (h1 b o rfl)⟩
theorem RS.drew {w : World} {s : Spc} {A : Option Addr} {c : Nat} (h : RS w s A c) : RS w.drew s A c := ⟨h.sl.drew, h.cap, h.u, h.b0, h.lim, h.l0, h.lt⟩
theorem RC.drew {w : World} {cs : List Int} {A : Option Addr} {c : Nat} (h : RC w cs A c) : RC w.drew cs A c := ⟨⟨h.s.sl.drew, h.s.cap⟩, h.m, h.n⟩
section
variable {w : World} {m : Mm} {A1 A2 : Option Addr} {c1 c2 : Nat} {cs : List Int} {A : Option Addr} {c : Nat}
end
end Go.Proofs.YtjpaogapclfajaaGreat
namespace Go.Proofs.YtjpaogapclfajaaGreat
open Go.RowKit Go.Sort
set_option maxRecDepth 100000
/-- a space without words -/
def Spc.new (b n : Int) : Spc := ⟨b, b + n, []⟩
def lim (l : Int) : Int := min (max l 0) 16777216
theorem lim_bound (l : Int) : 0 ≤ lim l ∧ lim l ≤ 16777216 := by unfold lim; omega
theorem run_max2 {P : Program} (ts : Array TypeId) (t : TypeId) (x y : Int) (w : World) : (Builtin.max_ ts t #[.int .i64 x, .int .i64 y]).run P w = .ok (.int .i64 (max x y)) w := by
 have h : (Builtin.max_ ts t #[.int .i64 x, .int .i64 y]).run P w = .ok (.int .i64 (if y > x then y else x)) w := by
  simp [Builtin.max_, Builtin.max2]
 rw [h]
 congr 2
 split <;> omega
theorem run_min2 {P : Program} (ts : Array TypeId) (t : TypeId) (x y : Int) (w : World) : (Builtin.min_ ts t #[.int .i64 x, .int .i64 y]).run P w = .ok (.int .i64 (min x y)) w := by
 have h : (Builtin.min_ ts t #[.int .i64 x, .int .i64 y]).run P w = .ok (.int .i64 (if y < x then y else x)) w := by
  simp [Builtin.min_, Builtin.min2]
 rw [h]
 congr 2
 split <;> omega
section
variable {w : World}
def NewP (w : World) (s : Spc) (e : Ending) (w' : World) : Prop := ∃ g, e = .returned (.pointer (some ⟨g, 0, none⟩)) ∧ SpR w' w.heap.size g s (.slice none 0 0) ∧ Below w.heap.size w w'
theorem SNew_any (b n : Int) (hb : b = 0 ∨ b = 16777216) (h0 : 0 ≤ n) (h1 : n ≤ 16777216) : Calls Tryz.prog 80 #[.int .i64 b, .int .i64 (b + n)] w (NewP w (Spc.new b n)) := by
 have hmx : ∀ (ts : Array TypeId) (t : TypeId) (x y : Int) (w : World), (Builtin.max_ ts t #[.int .i64 x, .int .i64 y]).run Tryz.prog w = .ok (.int .i64 (max x y)) w := run_max2
 have hmn : ∀ (ts : Array TypeId) (t : TypeId) (x y : Int) (w : World), (Builtin.min_ ts t #[.int .i64 x, .int .i64 y]).run Tryz.prog w = .ok (.int .i64 (min x y)) w := run_min2
 obtain ⟨b', hb'⟩ : ∃ b', b' = max b 0 := ⟨_, rfl⟩
 obtain ⟨l', hl'⟩ : ∃ l', l' = min (b + n) (max (max b 0) 4294967296) := ⟨_, rfl⟩
 have e1 := lh (show max b 0 = b by omega)
 have e2 := lh (show max (min (b + n) (max b (max 0 4294967296))) (max b 0) = b + n by omega)
 have HB := lh hb
 clear hb' hl' b' l' hb
 go_enter Tryz.func80, Tryz.ntmps80
 go_wp2_with fail
 go_ret
 refine ⟨w.heap.size, rfl, ⟨?_, ⟨rfl, .inl ⟨rfl, rfl⟩⟩, Nat.le_refl _, (fun x hx => by cases hx), ?_, ?_, ?_⟩, (Below.refl _ _).alloc (Nat.le_refl _) _⟩
 ·rw [e2.out, e1.out]
  exact Bk.new w 115 #[.int .i64 b, .int .i64 (b + n), .slice none 0 0]
 ·show 0 ≤ b; rcases HB.out with h | h <;> omega
 ·show b + 0 ≤ b + n; omega
 ·show b + n ≤ 4294967296; rcases HB.out with h | h <;> omega
/-- an empty memory -/
def Mm.new (l : Int) : Mm := ⟨Spc.new 0 (lim l), Spc.new 16777216 (lim l)⟩
theorem Mm.new_ok (l : Int) : (Mm.new l).Ok := by
 have := lim_bound l
 refine ⟨⟨(fun x hx => by cases hx), Int.le_refl _, ?_, ?_⟩, ⟨(fun x hx => by cases hx), (by show (0 : Int) ≤ 16777216; decide), ?_, ?_⟩, rfl, ?_, rfl⟩
 ·show (0 : Int) + 0 ≤ 0 + lim l; omega
 ·show 0 + lim l ≤ 4294967296; omega
 ·show (16777216 : Int) + 0 ≤ 16777216 + lim l; omega
 ·show 16777216 + lim l ≤ 4294967296; omega
 ·show 0 + lim l ≤ 16777216; omega
def ONewP (w : World) (m : Mm) (e : Ending) (w' : World) : Prop := ∃ g1 g2, e = .returned (memV g1 g2) ∧ MR w' w.heap.size g1 g2 (.slice none 0 0) (.slice none 0 0) m ∧ Below w.heap.size w w'
set_option maxHeartbeats 1000000 in
theorem ONew_any (l : Int) : Calls Tryz.prog 52 #[.int .i64 l] w (ONewP w (Mm.new l)) := by
 have hmx : ∀ (ts : Array TypeId) (t : TypeId) (x y : Int) (w : World), (Builtin.max_ ts t #[.int .i64 x, .int .i64 y]).run Tryz.prog w = .ok (.int .i64 (max x y)) w := run_max2
 have hmn : ∀ (ts : Array TypeId) (t : TypeId) (x y : Int) (w : World), (Builtin.min_ ts t #[.int .i64 x, .int .i64 y]).run Tryz.prog w = .ok (.int .i64 (min x y)) w := run_min2
 obtain ⟨l0, l1⟩ := lim_bound l
 have hok := lh (Mm.new_ok l)
 have hl := lh (show min (max l 0) 16777216 = lim l from rfl)
 have HB : Hid (Below w.heap.size w (w.alloc (.cells #[.pointer none, .pointer none] 27))) := lh ((Below.refl _ _).alloc (Nat.le_refl _) _)
 have B0 := lh (Bk.new w 27 #[.pointer none, .pointer none])
 have c1 := fun w => SNew_any (w := w) 0 (lim l) (.inl rfl) l0 l1
 have c2 := fun w => SNew_any (w := w) 16777216 (lim l) (.inr rfl) l0 l1
 simp only [Int.zero_add] at c1
 unfold Mm.new
 obtain ⟨n, hn⟩ : ∃ n, n = lim l := ⟨_, rfl⟩
 rw [← hn] at c1 c2 l0 l1 hl ⊢
 have hok2 : Hid ((⟨Spc.new 0 n, Spc.new 16777216 n⟩ : Mm).Ok) := by rw [hn]; exact hok
 clear hn hok
 go_enter Tryz.func52, Tryz.ntmps52
 go_upto_region 2 with fail
 rw [hl.out]
 go_wp2_with fail
 refine (c1 _).mono ?_
 rintro e w1 ⟨g1, rfl, hs1, hb⟩
 have HB1 := lh (HB.out.trans (hb.mono HB.out.size))
 have B1 := lh (B0.out.below hb B0.out.lt)
 have HS1 := lh hs1
 clear hs1 hb
 go_wp2_with fail
 refine (c2 _).mono ?_
 rintro e w2 ⟨g2, rfl, hs2, hb⟩
 have HB2 := lh (HB1.out.trans (hb.mono HB1.out.size))
 have b2 := B1.out.below hb B1.out.lt
 have HS1' := lh (HS1.out.below hb)
 have HS2 := lh hs2
 have d0 : w2.cell? ⟨w.heap.size, 0, none⟩ = some (.pointer none) := b2.cell 0
 have d1 : w2.cell? ⟨w.heap.size, 1, none⟩ = some (.pointer none) := b2.cell 1
 have f0 : w2.frozen? ⟨w.heap.size, 0, none⟩ = false := b2.free 0
 have f1 : w2.frozen? ⟨w.heap.size, 1, none⟩ = false := b2.free 1
 have hg1 := HS1.out.hd.lt
 clear hs2 hb b2
 go_wp2_with fail
 have hbb := (HB2.out.setCell (p := ⟨w.heap.size, 0, none⟩) (Nat.le_refl _) (.pointer (some ⟨g1, 0, none⟩))).setCell (p := ⟨w.heap.size, 1, none⟩) (Nat.le_refl _) (.pointer (some ⟨g2, 0, none⟩))
 have hge1 := HS1.out.ge
 have hge2 := HS2.out.ge
 simp only [World.size_alloc] at hge1
 refine bodyPost_ret (v := .agg #[.pointer (some ⟨g1, 0, none⟩), .pointer (some ⟨g2, 0, none⟩)]) (by simp [results, Tryz.results52, go_sem, d0, d1]) rfl ⟨g1, g2, rfl, ⟨?_, ?_, hok2.out, by omega, fun k hk => by cases hk⟩, hbb⟩
 ·exact ⟨(HS1'.out.hd.far (p := ⟨w.heap.size, 0, none⟩) (by show g1 ≠ w.heap.size; omega) _).far (p := ⟨w.heap.size, 1, none⟩) (by show g1 ≠ w.heap.size; omega) _, ⟨rfl, .inl ⟨rfl, rfl⟩⟩, by omega, HS1'.out.u, HS1'.out.b0, HS1'.out.lim, HS1'.out.l0⟩
 ·exact ⟨(HS2.out.hd.far (p := ⟨w.heap.size, 0, none⟩) (by show g2 ≠ w.heap.size; omega) _).far (p := ⟨w.heap.size, 1, none⟩) (by show g2 ≠ w.heap.size; omega) _, ⟨rfl, .inl ⟨rfl, rfl⟩⟩, by omega, HS2.out.u, HS2.out.b0, HS2.out.lim, HS2.out.l0⟩
theorem RSNew_any (b n : Int) (hb : b = 0 ∨ b = 16777216) (h0 : 0 ≤ n) (h1 : n ≤ 16777216) : Calls Tryz.prog 97 #[.int .i64 b, .int .i64 (b + n)] w fun e w' => e = .returned (.agg #[.int .i64 b, .int .i64 (b + n), .slice none 0 0]) ∧ Below w.heap.size w w' := by
 have hmx : ∀ (ts : Array TypeId) (t : TypeId) (x y : Int) (w : World), (Builtin.max_ ts t #[.int .i64 x, .int .i64 y]).run Tryz.prog w = .ok (.int .i64 (max x y)) w := run_max2
 have hmn : ∀ (ts : Array TypeId) (t : TypeId) (x y : Int) (w : World), (Builtin.min_ ts t #[.int .i64 x, .int .i64 y]).run Tryz.prog w = .ok (.int .i64 (min x y)) w := run_min2
 have e1 := lh (show max b 0 = b by omega)
 have e2 := lh (show max (min (b + n) (max b (max 0 4294967296))) (max b 0) = b + n by omega)
 have HB : Hid (Below w.heap.size w (w.alloc (.cells #[.int .i64 0, .int .i64 0, .slice none 0 0] 30))) := lh ((Below.refl _ _).alloc (Nat.le_refl _) _)
 clear hb
 go_enter Tryz.func97, Tryz.ntmps97
 go_wp2_with fail
 rw [e2.out, e1.out]
 exact bodyPost_ret (v := .agg #[.int .i64 b, .int .i64 (b + n), .slice none 0 0]) (by simp [results, Tryz.results97, go_sem]) rfl ⟨rfl, (Below.refl _ _).alloc (Nat.le_refl _) _⟩
def RMNewP (w : World) (m : Mm) (e : Ending) (w' : World) : Prop := e = .returned (rmV m none 0 none 0) ∧ Below w.heap.size w w'
set_option maxHeartbeats 1000000 in
theorem RMNew_any (l : Int) : Calls Tryz.prog 53 #[.int .i64 l] w (RMNewP w (Mm.new l)) := by
 have hmx : ∀ (ts : Array TypeId) (t : TypeId) (x y : Int) (w : World), (Builtin.max_ ts t #[.int .i64 x, .int .i64 y]).run Tryz.prog w = .ok (.int .i64 (max x y)) w := run_max2
 have hmn : ∀ (ts : Array TypeId) (t : TypeId) (x y : Int) (w : World), (Builtin.min_ ts t #[.int .i64 x, .int .i64 y]).run Tryz.prog w = .ok (.int .i64 (min x y)) w := run_min2
 obtain ⟨l0, l1⟩ := lim_bound l
 have hl := lh (show max 0 (min l 16777216) = lim l by unfold lim; omega)
 have HB : Hid (Below w.heap.size w (w.alloc (.cells #[.int .i64 0, .int .i64 0, .slice none 0 0, .int .i64 0, .int .i64 0, .slice none 0 0] 32))) := lh ((Below.refl _ _).alloc (Nat.le_refl _) _)
 have B0 := lh (Bk.new w 32 #[.int .i64 0, .int .i64 0, .slice none 0 0, .int .i64 0, .int .i64 0, .slice none 0 0])
 have c1 := fun w => RSNew_any (w := w) 0 (lim l) (.inl rfl) l0 l1
 have c2 := fun w => RSNew_any (w := w) 16777216 (lim l) (.inr rfl) l0 l1
 simp only [Int.zero_add] at c1
 unfold Mm.new
 obtain ⟨n, hn⟩ : ∃ n, n = lim l := ⟨_, rfl⟩
 rw [← hn] at c1 c2 l0 l1 hl ⊢
 clear hn
 go_enter Tryz.func53, Tryz.ntmps53
 go_upto_region 2 with fail
 rw [hl.out]
 go_wp2_with fail
 refine (c1 _).mono ?_
 rintro e w1 ⟨rfl, hb⟩
 have HB1 := lh (HB.out.trans (hb.mono HB.out.size))
 have B1 := lh (B0.out.below hb B0.out.lt)
 clear hb
 go_wp2_with fail
 refine (c2 _).mono ?_
 rintro e w2 ⟨rfl, hb⟩
 have HB2 := lh (HB1.out.trans (hb.mono HB1.out.size))
 have b2 := B1.out.below hb B1.out.lt
 have d0 : w2.cell? ⟨w.heap.size, 0, none⟩ = some (.int .i64 0) := b2.cell 0
 have d1 : w2.cell? ⟨w.heap.size, 1, none⟩ = some (.int .i64 0) := b2.cell 1
 have d2 : w2.cell? ⟨w.heap.size, 2, none⟩ = some (.slice none 0 0) := b2.cell 2
 have d3 : w2.cell? ⟨w.heap.size, 3, none⟩ = some (.int .i64 0) := b2.cell 3
 have d4 : w2.cell? ⟨w.heap.size, 4, none⟩ = some (.int .i64 0) := b2.cell 4
 have d5 : w2.cell? ⟨w.heap.size, 5, none⟩ = some (.slice none 0 0) := b2.cell 5
 have f0 : w2.frozen? ⟨w.heap.size, 0, none⟩ = false := b2.free 0
 have f1 : w2.frozen? ⟨w.heap.size, 1, none⟩ = false := b2.free 1
 have f2 : w2.frozen? ⟨w.heap.size, 2, none⟩ = false := b2.free 2
 have f3 : w2.frozen? ⟨w.heap.size, 3, none⟩ = false := b2.free 3
 have f4 : w2.frozen? ⟨w.heap.size, 4, none⟩ = false := b2.free 4
 have f5 : w2.frozen? ⟨w.heap.size, 5, none⟩ = false := b2.free 5
 clear hb b2
 go_wp2_with fail
 have hbb := (below_set3 (g := w.heap.size) HB2.out (Nat.le_refl _) (.int .i64 0) (.int .i64 n) (.slice none 0 0))
 have hbb2 := ((hbb.setCell (p := ⟨w.heap.size, 3, none⟩) (Nat.le_refl _) (.int .i64 16777216)).setCell (p := ⟨w.heap.size, 4, none⟩) (Nat.le_refl _) (.int .i64 (16777216 + n))).setCell (p := ⟨w.heap.size, 5, none⟩) (Nat.le_refl _) (.slice none 0 0)
 refine bodyPost_ret (v := .agg #[.int .i64 0, .int .i64 n, .slice none 0 0, .int .i64 16777216, .int .i64 (16777216 + n), .slice none 0 0]) (by simp [results, Tryz.results53, go_sem, d0, d1, d2, d3, d4, d5]) rfl ⟨?_, hbb2⟩
 unfold rmV Spc.new
 simp
theorem RM.new (w : World) (l : Int) : RM w (Mm.new l) none 0 none 0 :=
 have ho := (Mm.new_ok l).o
 have hy := (Mm.new_ok l).y
 ⟨⟨Sl.nil _ _ _, Nat.le_refl _, ho.u, ho.b0, ho.lim, ho.l0, (fun _ _ e => nomatch e)⟩, ⟨Sl.nil _ _ _, Nat.le_refl _, hy.u, hy.b0, hy.lim, hy.l0, (fun _ _ e => nomatch e)⟩⟩
theorem RC.new (w : World) : RC w [] none 0 := ⟨⟨Sl.nil _ _ _, Nat.le_refl _⟩, Nat.zero_le _, fun _ => ⟨rfl, rfl⟩⟩
end
end Go.Proofs.YtjpaogapclfajaaGreat
namespace Go.Proofs.YtjpaogapclfajaaGreat
open Go.RowKit Go.Maps
def updZ (f : Int → Option Int) (n d : Int) : Int → Option Int := fun k => if k = n then some d else f k
section
variable {P : Program} {k e t : TypeId} {w w' : World} {b n : Nat} {f : Int → Option Int}
/-- Block b is a map of at most n entries that maps as f says. -/
def MapI (P : Program) (k e : TypeId) (w : World) (b n : Nat) (f : Int → Option Int) : Prop :=
 ∃ D : DataW Unit, w.ownsMap P k (plainElem P e) b n D ∧ ∀ x, (Lit.int .i64 x).wf = true → Maps.has D (.int .i64 x) = (f x).isSome ∧ D.atKey (.int .i64 x) (.lit (.int .i64 0)) = .lit (.int .i64 ((f x).getD 0))
theorem MapI.made (P : Program) (k e : TypeId) (w : World) : MapI P k e (w.alloc (.map #[] 0)) w.heap.size 0 (fun _ => none) :=
 ⟨_, World.ownsMap_made _ _ _ _, fun x _ => ⟨rfl, rfl⟩⟩
theorem MapI.mono (h : MapI P k e w b n f) {m : Nat} (hm : n ≤ m) : MapI P k e w b m f := let ⟨D, h1, h2⟩ := h; ⟨D, h1.mono hm, h2⟩
theorem MapI.lt (h : MapI P k e w b n f) : b < w.heap.size := let ⟨_, h1, _⟩ := h; h1.lt
theorem MapI.kept {row : Option Nat} (h : MapI P k e w b n f) (hg : w.grownBy w' row) (hne : some b ≠ row) : MapI P k e w' b n f := let ⟨D, h1, h2⟩ := h; ⟨D, h1.kept hg hne, h2⟩
theorem MapI.alloc (h : MapI P k e w b n f) (o : Obj) : MapI P k e (w.alloc o) b n f := let ⟨D, h1, h2⟩ := h; ⟨D, h1.alloc o, h2⟩
theorem MapI.drew (h : MapI P k e w b n f) : MapI P k e w.drew b n f := h
theorem MapI.drewN (h : MapI P k e w b n f) (i : Nat) : MapI P k e (w.drewN i) b n f := h
theorem MapI.setCell (h : MapI P k e w b n f) {a : Addr} (ha : b ≠ a.block) (u : Value) : MapI P k e (w.setCell a u) b n f := let ⟨D, h1, h2⟩ := h; ⟨D, h1.setCell ha u, h2⟩
theorem MapI.block (h : MapI P k e w b n f) (hb : w'.heap[b]? = w.heap[b]?) : MapI P k e w' b n f := by
 obtain ⟨D, ⟨es, clock, h1, h2⟩, h3⟩ := h
 exact ⟨D, ⟨es, clock, hb.trans h1, h2⟩, h3⟩
theorem MapI.congr {g : Int → Option Int} (h : MapI P k e w b n f) (hg : ∀ x, (Lit.int .i64 x).wf = true → f x = g x) : MapI P k e w b n g :=
 let ⟨D, h1, h2⟩ := h; ⟨D, h1, fun x hx => by rw [← hg x hx]; exact h2 x hx⟩
variable (hk : P.underlying k = some (.int .i64)) (he : P.underlying e = some (.int .i64)) (ht : P.underlying t = some (.map k e)) (hz : ∀ w, (zeroValue e).run P w = .ok (.int .i64 0) w)
include hk he ht
theorem MapI.put (h : MapI P k e w b n f) (hn : n < maxLen) {x y : Int} (hx : (Lit.int .i64 x).wf = true) (hy : (Lit.int .i64 y).wf = true) :
  ∃ w', (Instr.mapUpdate t (.map (some b)) (.int .i64 x) (.int .i64 y)).run P w = .ok () w' ∧ MapI P k e w' b (n + 1) (updZ f x y) ∧ w.grownBy w' (some b) := by
 obtain ⟨D, h1, h2⟩ := h
 obtain ⟨w', r1, r2, r3⟩ := h1.update (int_keyed hk) ht hn (keyOf_int_mk hk hx) (plainElem_int he hy)
 refine ⟨w', r1, ⟨_, r2, fun z hz => ?_⟩, r3⟩
 have hm := h1.isMap
 unfold updZ
 by_cases hzx : z = x
 ·subst hzx
  rw [if_pos rfl]
  have hkl : WideAt.IsKeyLit (.int .i64 z) := trivial
  exact ⟨has_put_same hm hkl _, atKey_put_same hm hkl _ _⟩
 ·rw [if_neg hzx]
  have hne : (Lit.int .i64 z) ≠ Lit.int .i64 x := by intro hh; injection hh with _ hh; exact hzx hh
  rw [has_put_other hne, atKey_put_other hne]
  exact h2 z hz
theorem wpList_map_put {ops : Array Oper} {rest : List Oper} {o : Oper} {a : Act} {Q : Exit → Act → World → Prop}
  (hg : o.guard = none) {m x v : Operand} (hop : o.op = Op.mapUpdate t m x v) (h : MapI P k e w b n f) (hn : n < maxLen) {i j : Int}
  (hm : a.eval m = .map (some b)) (hi : a.eval x = .int .i64 i) (hj : a.eval v = .int .i64 j) (wi : (Lit.int .i64 i).wf = true) (wj : (Lit.int .i64 j).wf = true)
  (hK : ∀ w', MapI P k e w' b (n + 1) (updZ f i j) → w.grownBy w' (some b) → wpList P ops Q rest (a.put o.dst undef) w') :
  wpList P ops Q (o :: rest) a w := by
 obtain ⟨w', r1, r2, r3⟩ := h.put hk he ht hn wi wj
 refine wpList_plain hg fun K' hK' => ?_
 unfold Oper.wp execOp
 simp only [hop, hm, hi, hj, Sem.run_bind, r1, Result.andThen_ok]
 exact hK' _ _ (hK w' r2 r3)
include hz
theorem MapI.look (h : MapI P k e w b n f) {x : Int} (hx : (Lit.int .i64 x).wf = true) : (Instr.lookup t (.map (some b)) (.int .i64 x) false).run P w = .ok (.int .i64 ((f x).getD 0)) w := by
 obtain ⟨D, h1, h2⟩ := h
 obtain ⟨c, r1, r2, _⟩ := h1.lookup_int (int_keyed hk) ht he (hz w) (keyOf_int_mk hk hx)
 rw [(h2 x hx).2] at r2
 injection r2 with r2
 injection r2 with _ r2
 rw [r1, r2]
theorem MapI.look_ok (h : MapI P k e w b n f) {x : Int} (hx : (Lit.int .i64 x).wf = true) : (Instr.lookup t (.map (some b)) (.int .i64 x) true).run P w = .ok (.tuple #[.int .i64 ((f x).getD 0), .bool (f x).isSome]) w := by
 obtain ⟨D, h1, h2⟩ := h
 obtain ⟨v, ps, r1, r2⟩ := h1.look_ok (int_keyed hk) ht (hz w) (plainElem_int he (by decide)) (keyOf_int_mk hk hx)
 obtain ⟨c, rfl, hc, _⟩ := plainElem_int_inv he r2
 rw [(h2 x hx).1] at r1
 rw [(h2 x hx).2] at hc
 simp only [Prod.mk.injEq] at hc
 have := hc.1
 injection this with this
 injection this with _ this
 rw [r1, this]
theorem wpList_map_look {ops : Array Oper} {rest : List Oper} {o : Oper} {a : Act} {Q : Exit → Act → World → Prop}
  (hg : o.guard = none) {m x : Operand} (hop : o.op = Op.lookup t m x false) (h : MapI P k e w b n f) {i : Int}
  (hm : a.eval m = .map (some b)) (hi : a.eval x = .int .i64 i) (wi : (Lit.int .i64 i).wf = true)
  (hK : wpList P ops Q rest (a.put o.dst (.int .i64 ((f i).getD 0))) w) :
  wpList P ops Q (o :: rest) a w := by
 refine wpList_plain hg fun K' hK' => ?_
 unfold Oper.wp execOp
 simp only [hop, hm, hi, Sem.run_bind, h.look hk he ht hz wi, Result.andThen_ok]
 exact hK' _ _ hK
end
end Go.Proofs.YtjpaogapclfajaaGreat
