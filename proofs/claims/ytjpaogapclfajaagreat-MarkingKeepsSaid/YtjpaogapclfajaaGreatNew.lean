/- New spaces, memories and tables, of the program and of the reference. -/
import Derived.Test.YtjpaogapclfajaaGreatRBst
import Derived.Deep.CutRange
namespace Go.Proofs.YtjpaogapclfajaaGreat
set_option linter.unusedVariables false
set_option linter.unusedSimpArgs false
set_option linter.unusedSectionVars false
open Go.RowKit Go.Sort
set_option maxRecDepth 100000

/-- a space without words -/
def Spc.new (b n : Int) : Spc := ⟨b, b + n, []⟩
def lim (l : Int) : Int := min (max l 0) 16777216
theorem lim_bound (l : Int) : 0 ≤ lim l ∧ lim l ≤ 16777216 := by unfold lim; omega
theorem run_max2 {P : Program} (ts : Array TypeId) (t : TypeId) (x y : Int) (w : World) : (Builtin.max_ ts t #[.int .i64 x, .int .i64 y]).run P w = .ok (.int .i64 (max x y)) w := by
  have h : (Builtin.max_ ts t #[.int .i64 x, .int .i64 y]).run P w = .ok (.int .i64 (if y > x then y else x)) w := by
    simp [Builtin.max_, Builtin.max2]
  rw [h]
  congr 2
  split <;> omega
theorem run_min2 {P : Program} (ts : Array TypeId) (t : TypeId) (x y : Int) (w : World) : (Builtin.min_ ts t #[.int .i64 x, .int .i64 y]).run P w = .ok (.int .i64 (min x y)) w := by
  have h : (Builtin.min_ ts t #[.int .i64 x, .int .i64 y]).run P w = .ok (.int .i64 (if y < x then y else x)) w := by
    simp [Builtin.min_, Builtin.min2]
  rw [h]
  congr 2
  split <;> omega
section
variable {w : World}
def NewP (w : World) (s : Spc) (e : Ending) (w' : World) : Prop := ∃ g, e = .returned (.pointer (some ⟨g, 0, none⟩)) ∧ SpR w' w.heap.size g s (.slice none 0 0) ∧ Below w.heap.size w w'
theorem SNew_any (b n : Int) (hb : b = 0 ∨ b = 16777216) (h0 : 0 ≤ n) (h1 : n ≤ 16777216) : Calls Tryz.prog 80 #[.int .i64 b, .int .i64 (b + n)] w (NewP w (Spc.new b n)) := by
  have hmx : ∀ (ts : Array TypeId) (t : TypeId) (x y : Int) (w : World), (Builtin.max_ ts t #[.int .i64 x, .int .i64 y]).run Tryz.prog w = .ok (.int .i64 (max x y)) w := run_max2
  have hmn : ∀ (ts : Array TypeId) (t : TypeId) (x y : Int) (w : World), (Builtin.min_ ts t #[.int .i64 x, .int .i64 y]).run Tryz.prog w = .ok (.int .i64 (min x y)) w := run_min2
  obtain ⟨b', hb'⟩ : ∃ b', b' = max b 0 := ⟨_, rfl⟩
  obtain ⟨l', hl'⟩ : ∃ l', l' = min (b + n) (max (max b 0) 4294967296) := ⟨_, rfl⟩
  have e1 := Lib.hid (show max b 0 = b by omega)
  have e2 := Lib.hid (show max (min (b + n) (max b (max 0 4294967296))) (max b 0) = b + n by omega)
  have HB := Lib.hid hb
  clear hb' hl' b' l' hb
  go_enter Tryz.func80, Tryz.ntmps80
  go_wp2_with fail
  go_ret
  refine ⟨w.heap.size, rfl, ⟨?_, ⟨rfl, .inl ⟨rfl, rfl⟩⟩, Nat.le_refl _, (fun x hx => by cases hx), ?_, ?_, ?_⟩, (Below.refl _ _).alloc (Nat.le_refl _) _⟩
  · rw [e2.out, e1.out]
    exact Bk.new w 115 #[.int .i64 b, .int .i64 (b + n), .slice none 0 0]
  · show 0 ≤ b; rcases HB.out with h | h <;> omega
  · show b + 0 ≤ b + n; omega
  · show b + n ≤ 4294967296; rcases HB.out with h | h <;> omega
/-- an empty memory -/
def Mm.new (l : Int) : Mm := ⟨Spc.new 0 (lim l), Spc.new 16777216 (lim l)⟩
theorem Mm.new_ok (l : Int) : (Mm.new l).Ok := by
  have := lim_bound l
  refine ⟨⟨(fun x hx => by cases hx), Int.le_refl _, ?_, ?_⟩, ⟨(fun x hx => by cases hx), (by show (0 : Int) ≤ 16777216; decide), ?_, ?_⟩, rfl, ?_, rfl⟩
  · show (0 : Int) + 0 ≤ 0 + lim l; omega
  · show 0 + lim l ≤ 4294967296; omega
  · show (16777216 : Int) + 0 ≤ 16777216 + lim l; omega
  · show 16777216 + lim l ≤ 4294967296; omega
  · show 0 + lim l ≤ 16777216; omega
def ONewP (w : World) (m : Mm) (e : Ending) (w' : World) : Prop := ∃ g1 g2, e = .returned (memV g1 g2) ∧ MR w' w.heap.size g1 g2 (.slice none 0 0) (.slice none 0 0) m ∧ Below w.heap.size w w'
set_option maxHeartbeats 1000000 in
theorem ONew_any (l : Int) : Calls Tryz.prog 52 #[.int .i64 l] w (ONewP w (Mm.new l)) := by
  have hmx : ∀ (ts : Array TypeId) (t : TypeId) (x y : Int) (w : World), (Builtin.max_ ts t #[.int .i64 x, .int .i64 y]).run Tryz.prog w = .ok (.int .i64 (max x y)) w := run_max2
  have hmn : ∀ (ts : Array TypeId) (t : TypeId) (x y : Int) (w : World), (Builtin.min_ ts t #[.int .i64 x, .int .i64 y]).run Tryz.prog w = .ok (.int .i64 (min x y)) w := run_min2
  obtain ⟨l0, l1⟩ := lim_bound l
  have hok := Lib.hid (Mm.new_ok l)
  have hl := Lib.hid (show min (max l 0) 16777216 = lim l from rfl)
  have HB : Hid (Below w.heap.size w (w.alloc (.cells #[.pointer none, .pointer none] 27))) := Lib.hid ((Below.refl _ _).alloc (Nat.le_refl _) _)
  have B0 := Lib.hid (Bk.new w 27 #[.pointer none, .pointer none])
  have c1 := fun w => SNew_any (w := w) 0 (lim l) (.inl rfl) l0 l1
  have c2 := fun w => SNew_any (w := w) 16777216 (lim l) (.inr rfl) l0 l1
  simp only [Int.zero_add] at c1
  unfold Mm.new
  obtain ⟨n, hn⟩ : ∃ n, n = lim l := ⟨_, rfl⟩
  rw [← hn] at c1 c2 l0 l1 hl ⊢
  have hok2 : Hid ((⟨Spc.new 0 n, Spc.new 16777216 n⟩ : Mm).Ok) := by rw [hn]; exact hok
  clear hn hok
  go_enter Tryz.func52, Tryz.ntmps52
  go_upto_region 2 with fail
  rw [hl.out]
  go_wp2_with fail
  refine (c1 _).mono ?_
  rintro e w1 ⟨g1, rfl, hs1, hb⟩
  have HB1 := Lib.hid (HB.out.trans (hb.mono HB.out.size))
  have B1 := Lib.hid (B0.out.below hb B0.out.lt)
  have HS1 := Lib.hid hs1
  clear hs1 hb
  go_wp2_with fail
  refine (c2 _).mono ?_
  rintro e w2 ⟨g2, rfl, hs2, hb⟩
  have HB2 := Lib.hid (HB1.out.trans (hb.mono HB1.out.size))
  have b2 := B1.out.below hb B1.out.lt
  have HS1' := Lib.hid (HS1.out.below hb)
  have HS2 := Lib.hid hs2
  have d0 : w2.cell? ⟨w.heap.size, 0, none⟩ = some (.pointer none) := b2.cell 0
  have d1 : w2.cell? ⟨w.heap.size, 1, none⟩ = some (.pointer none) := b2.cell 1
  have f0 : w2.frozen? ⟨w.heap.size, 0, none⟩ = false := b2.free 0
  have f1 : w2.frozen? ⟨w.heap.size, 1, none⟩ = false := b2.free 1
  have hg1 := HS1.out.hd.lt
  clear hs2 hb b2
  go_wp2_with fail
  have hbb := (HB2.out.setCell (p := ⟨w.heap.size, 0, none⟩) (Nat.le_refl _) (.pointer (some ⟨g1, 0, none⟩))).setCell (p := ⟨w.heap.size, 1, none⟩) (Nat.le_refl _) (.pointer (some ⟨g2, 0, none⟩))
  have hge1 := HS1.out.ge
  have hge2 := HS2.out.ge
  simp only [World.size_alloc] at hge1
  refine bodyPost_ret (v := .agg #[.pointer (some ⟨g1, 0, none⟩), .pointer (some ⟨g2, 0, none⟩)]) (by simp [results, Tryz.results52, go_sem, d0, d1]) rfl ⟨g1, g2, rfl, ⟨?_, ?_, hok2.out, by omega, fun k hk => by cases hk⟩, hbb⟩
  · exact ⟨(HS1'.out.hd.far (p := ⟨w.heap.size, 0, none⟩) (by show g1 ≠ w.heap.size; omega) _).far (p := ⟨w.heap.size, 1, none⟩) (by show g1 ≠ w.heap.size; omega) _, ⟨rfl, .inl ⟨rfl, rfl⟩⟩, by omega, HS1'.out.u, HS1'.out.b0, HS1'.out.lim, HS1'.out.l0⟩
  · exact ⟨(HS2.out.hd.far (p := ⟨w.heap.size, 0, none⟩) (by show g2 ≠ w.heap.size; omega) _).far (p := ⟨w.heap.size, 1, none⟩) (by show g2 ≠ w.heap.size; omega) _, ⟨rfl, .inl ⟨rfl, rfl⟩⟩, by omega, HS2.out.u, HS2.out.b0, HS2.out.lim, HS2.out.l0⟩
theorem RSNew_any (b n : Int) (hb : b = 0 ∨ b = 16777216) (h0 : 0 ≤ n) (h1 : n ≤ 16777216) : Calls Tryz.prog 97 #[.int .i64 b, .int .i64 (b + n)] w fun e w' => e = .returned (.agg #[.int .i64 b, .int .i64 (b + n), .slice none 0 0]) ∧ Below w.heap.size w w' := by
  have hmx : ∀ (ts : Array TypeId) (t : TypeId) (x y : Int) (w : World), (Builtin.max_ ts t #[.int .i64 x, .int .i64 y]).run Tryz.prog w = .ok (.int .i64 (max x y)) w := run_max2
  have hmn : ∀ (ts : Array TypeId) (t : TypeId) (x y : Int) (w : World), (Builtin.min_ ts t #[.int .i64 x, .int .i64 y]).run Tryz.prog w = .ok (.int .i64 (min x y)) w := run_min2
  have e1 := Lib.hid (show max b 0 = b by omega)
  have e2 := Lib.hid (show max (min (b + n) (max b (max 0 4294967296))) (max b 0) = b + n by omega)
  have HB : Hid (Below w.heap.size w (w.alloc (.cells #[.int .i64 0, .int .i64 0, .slice none 0 0] 30))) := Lib.hid ((Below.refl _ _).alloc (Nat.le_refl _) _)
  clear hb
  go_enter Tryz.func97, Tryz.ntmps97
  go_wp2_with fail
  rw [e2.out, e1.out]
  exact bodyPost_ret (v := .agg #[.int .i64 b, .int .i64 (b + n), .slice none 0 0]) (by simp [results, Tryz.results97, go_sem]) rfl ⟨rfl, (Below.refl _ _).alloc (Nat.le_refl _) _⟩
def RMNewP (w : World) (m : Mm) (e : Ending) (w' : World) : Prop := e = .returned (rmV m none 0 none 0) ∧ Below w.heap.size w w'
set_option maxHeartbeats 1000000 in
theorem RMNew_any (l : Int) : Calls Tryz.prog 53 #[.int .i64 l] w (RMNewP w (Mm.new l)) := by
  have hmx : ∀ (ts : Array TypeId) (t : TypeId) (x y : Int) (w : World), (Builtin.max_ ts t #[.int .i64 x, .int .i64 y]).run Tryz.prog w = .ok (.int .i64 (max x y)) w := run_max2
  have hmn : ∀ (ts : Array TypeId) (t : TypeId) (x y : Int) (w : World), (Builtin.min_ ts t #[.int .i64 x, .int .i64 y]).run Tryz.prog w = .ok (.int .i64 (min x y)) w := run_min2
  obtain ⟨l0, l1⟩ := lim_bound l
  have hl := Lib.hid (show max 0 (min l 16777216) = lim l by unfold lim; omega)
  have HB : Hid (Below w.heap.size w (w.alloc (.cells #[.int .i64 0, .int .i64 0, .slice none 0 0, .int .i64 0, .int .i64 0, .slice none 0 0] 32))) := Lib.hid ((Below.refl _ _).alloc (Nat.le_refl _) _)
  have B0 := Lib.hid (Bk.new w 32 #[.int .i64 0, .int .i64 0, .slice none 0 0, .int .i64 0, .int .i64 0, .slice none 0 0])
  have c1 := fun w => RSNew_any (w := w) 0 (lim l) (.inl rfl) l0 l1
  have c2 := fun w => RSNew_any (w := w) 16777216 (lim l) (.inr rfl) l0 l1
  simp only [Int.zero_add] at c1
  unfold Mm.new
  obtain ⟨n, hn⟩ : ∃ n, n = lim l := ⟨_, rfl⟩
  rw [← hn] at c1 c2 l0 l1 hl ⊢
  clear hn
  go_enter Tryz.func53, Tryz.ntmps53
  go_upto_region 2 with fail
  rw [hl.out]
  go_wp2_with fail
  refine (c1 _).mono ?_
  rintro e w1 ⟨rfl, hb⟩
  have HB1 := Lib.hid (HB.out.trans (hb.mono HB.out.size))
  have B1 := Lib.hid (B0.out.below hb B0.out.lt)
  clear hb
  go_wp2_with fail
  refine (c2 _).mono ?_
  rintro e w2 ⟨rfl, hb⟩
  have HB2 := Lib.hid (HB1.out.trans (hb.mono HB1.out.size))
  have b2 := B1.out.below hb B1.out.lt
  have d0 : w2.cell? ⟨w.heap.size, 0, none⟩ = some (.int .i64 0) := b2.cell 0
  have d1 : w2.cell? ⟨w.heap.size, 1, none⟩ = some (.int .i64 0) := b2.cell 1
  have d2 : w2.cell? ⟨w.heap.size, 2, none⟩ = some (.slice none 0 0) := b2.cell 2
  have d3 : w2.cell? ⟨w.heap.size, 3, none⟩ = some (.int .i64 0) := b2.cell 3
  have d4 : w2.cell? ⟨w.heap.size, 4, none⟩ = some (.int .i64 0) := b2.cell 4
  have d5 : w2.cell? ⟨w.heap.size, 5, none⟩ = some (.slice none 0 0) := b2.cell 5
  have f0 : w2.frozen? ⟨w.heap.size, 0, none⟩ = false := b2.free 0
  have f1 : w2.frozen? ⟨w.heap.size, 1, none⟩ = false := b2.free 1
  have f2 : w2.frozen? ⟨w.heap.size, 2, none⟩ = false := b2.free 2
  have f3 : w2.frozen? ⟨w.heap.size, 3, none⟩ = false := b2.free 3
  have f4 : w2.frozen? ⟨w.heap.size, 4, none⟩ = false := b2.free 4
  have f5 : w2.frozen? ⟨w.heap.size, 5, none⟩ = false := b2.free 5
  clear hb b2
  go_wp2_with fail
  have hbb := (below_set3 (g := w.heap.size) HB2.out (Nat.le_refl _) (.int .i64 0) (.int .i64 n) (.slice none 0 0))
  have hbb2 := ((hbb.setCell (p := ⟨w.heap.size, 3, none⟩) (Nat.le_refl _) (.int .i64 16777216)).setCell (p := ⟨w.heap.size, 4, none⟩) (Nat.le_refl _) (.int .i64 (16777216 + n))).setCell (p := ⟨w.heap.size, 5, none⟩) (Nat.le_refl _) (.slice none 0 0)
  refine bodyPost_ret (v := .agg #[.int .i64 0, .int .i64 n, .slice none 0 0, .int .i64 16777216, .int .i64 (16777216 + n), .slice none 0 0]) (by simp [results, Tryz.results53, go_sem, d0, d1, d2, d3, d4, d5]) rfl ⟨?_, hbb2⟩
  unfold rmV Spc.new
  simp
theorem RM.new (w : World) (l : Int) : RM w (Mm.new l) none 0 none 0 :=
  have ho := (Mm.new_ok l).o
  have hy := (Mm.new_ok l).y
  ⟨⟨Sl.nil _ _ _, Nat.le_refl _, ho.u, ho.b0, ho.lim, ho.l0, (fun _ _ e => nomatch e)⟩, ⟨Sl.nil _ _ _, Nat.le_refl _, hy.u, hy.b0, hy.lim, hy.l0, (fun _ _ e => nomatch e)⟩⟩
theorem RC.new (w : World) : RC w [] none 0 := ⟨⟨Sl.nil _ _ _, Nat.le_refl _⟩, Nat.zero_le _, fun _ => ⟨rfl, rfl⟩⟩
end
end Go.Proofs.YtjpaogapclfajaaGreat
