/- Parts of the proof: Stp1. -/
import Derived.Test.YtjpaogapclfajaaGreatBcA
import Derived.Test.YtjpaogapclfajaaGreatBc11
import Derived.Test.YtjpaogapclfajaaGreatBc14
set_option linter.unusedVariables false
set_option linter.unusedSimpArgs false
set_option linter.unusedSectionVars false
namespace Go.Proofs.YtjpaogapclfajaaGreat
open Go.RowKit Go.Sort
attribute [local go_sem] Oper.semAt_some onlyN_normal
set_option maxRecDepth 100000
def StP1 (w : World) (B1 B2 Ba : Option Addr) (p : Mm × List Int) (e : Ending) (w' : World) : Prop := ∃ A1 e1 A2 e2 A c, e = .returned (.tuple #[.agg #[.int .i64 p.1.old.base, .int .i64 p.1.old.limit, .slice A1 p.1.old.ws.length e1, .int .i64 p.1.yng.base, .int .i64 p.1.yng.limit, .slice A2 p.1.yng.ws.length e2], .slice A p.2.length c]) ∧ RM w' p.1 A1 e1 A2 e2 ∧ IS w' p.2 A c ∧ (∀ b o, A = some ⟨b, o, none⟩ → b < w'.heap.size) ∧ Nw w.heap.size B1 A1 ∧ Nw w.heap.size B2 A2 ∧ Nw w.heap.size Ba A ∧ Below w.heap.size w w'
def RMsT1 (H : Nat) (B1 B2 : Option Addr) (er : Int) (m : Mm) (v : Value) (w : World) : Prop := ∃ A1 e1 A2 e2, v = .tuple #[.agg #[.int .i64 m.old.base, .int .i64 m.old.limit, .slice A1 m.old.ws.length e1, .int .i64 m.yng.base, .int .i64 m.yng.limit, .slice A2 m.yng.ws.length e2], .int .i64 er] ∧ RM w m A1 e1 A2 e2 ∧ Nw H B1 A1 ∧ Nw H B2 A2
theorem RMsT1.below {H : Nat} {B1 B2 : Option Addr} {er : Int} {m : Mm} (v : Value) (w w' : World) (h : RMsT1 H B1 B2 er m v w) (hb : Below w.heap.size w w') : RMsT1 H B1 B2 er m v w' :=
 let ⟨A1, c1, A2, c2, e, h1, h3⟩ := h; ⟨A1, c1, A2, c2, e, h1.below hb, h3⟩
abbrev set6 (w : World) (g : Nat) (v0 v1 v2 v3 v4 v5 : Value) : World := (((((w.setCell ⟨g, 0, none⟩ v0).setCell ⟨g, 1, none⟩ v1).setCell ⟨g, 2, none⟩ v2).setCell ⟨g, 3, none⟩ v3).setCell ⟨g, 4, none⟩ v4).setCell ⟨g, 5, none⟩ v5
section
variable {w w0 : World} {g g' B : Nat} {t : TypeId} {v0 v1 v2 v3 v4 v5 u0 u1 u2 u3 u4 u5 : Value}
theorem Bk.set6a (h : Bk w g t #[u0, u1, u2, u3, u4, u5]) : Bk (set6 w g v0 v1 v2 v3 v4 v5) g t #[v0, v1, v2, v3, v4, v5] := (((((h.set 0 v0).set 1 v1).set 2 v2).set 3 v3).set 4 v4).set 5 v5
theorem Bk.far6a {cs : Array Value} (h : Bk w g' t cs) (hg : g' ≠ g) : Bk (set6 w g v0 v1 v2 v3 v4 v5) g' t cs := (((((h.far (p := ⟨g, 0, none⟩) hg _).far (p := ⟨g, 1, none⟩) hg _).far (p := ⟨g, 2, none⟩) hg _).far (p := ⟨g, 3, none⟩) hg _).far (p := ⟨g, 4, none⟩) hg _).far (p := ⟨g, 5, none⟩) hg _
theorem RS.set6a {s : Spc} {A : Option Addr} {c : Nat} (h : RS w s A c) (ha : Away A s.ws.length g) : RS (set6 w g v0 v1 v2 v3 v4 v5) s A c := (((((h.setCell (p := ⟨g, 0, none⟩) ha _).setCell (p := ⟨g, 1, none⟩) ha _).setCell (p := ⟨g, 2, none⟩) ha _).setCell (p := ⟨g, 3, none⟩) ha _).setCell (p := ⟨g, 4, none⟩) ha _).setCell (p := ⟨g, 5, none⟩) ha _
theorem RM.set6a {m : Mm} {A1 A2 : Option Addr} {c1 c2 : Nat} {cs : Array Value} (h : RM w m A1 c1 A2 c2) (hk : Bk w g t cs) (hn : noW cs = true) : RM (set6 w g v0 v1 v2 v3 v4 v5) m A1 c1 A2 c2 := ⟨h.o.set6a (h.o.away hk hn), h.y.set6a (h.y.away hk hn)⟩
theorem IS.set1 {l : List Int} {A : Option Addr} {c : Nat} (h : IS w l A c) {p : Addr} (ha : ∀ b o, A = some ⟨b, o, none⟩ → b ≠ p.block) (u : Value) : IS (w.setCell p u) l A c := by
 refine ⟨⟨h.sl.1, ?_⟩, h.cap⟩
 rcases h.sl.2 with h0 | ⟨b, o, e, hb, hc⟩
 ·exact .inl h0
 ·subst e
  exact .inr ⟨b, o, rfl, by simpa [World.setCell] using hb, fun j x hx => cellFar u (hc j x hx) (ha b o rfl)⟩
theorem IS.set6a {l : List Int} {A : Option Addr} {c : Nat} (h : IS w l A c) (ha : ∀ b o, A = some ⟨b, o, none⟩ → b ≠ g) : IS (set6 w g v0 v1 v2 v3 v4 v5) l A c := (((((h.set1 (p := ⟨g, 0, none⟩) ha _).set1 (p := ⟨g, 1, none⟩) ha _).set1 (p := ⟨g, 2, none⟩) ha _).set1 (p := ⟨g, 3, none⟩) ha _).set1 (p := ⟨g, 4, none⟩) ha _).set1 (p := ⟨g, 5, none⟩) ha _
theorem below_set6a (h : Below B w0 w) (hg : B ≤ g) : Below B w0 (set6 w g v0 v1 v2 v3 v4 v5) := (((((h.setCell (p := ⟨g, 0, none⟩) hg _).setCell (p := ⟨g, 1, none⟩) hg _).setCell (p := ⟨g, 2, none⟩) hg _).setCell (p := ⟨g, 3, none⟩) hg _).setCell (p := ⟨g, 4, none⟩) hg _).setCell (p := ⟨g, 5, none⟩) hg _
theorem size_set6a : (set6 w g v0 v1 v2 v3 v4 v5).heap.size = w.heap.size := by simp [World.setCell]
end
section
variable {w : World} {q : Mm × List Int} {A1 A2 A : Option Addr} {e1 e2 c : Nat}
set_option maxHeartbeats 4000000 in
theorem step1_1 (h : RM w q.1 A1 e1 A2 e2) (ok : q.1.Ok) (hs : IS w q.2 A c) (hlt : ∀ b o, A = some ⟨b, o, none⟩ → b < w.heap.size) (hl : q.2.length ≤ 1000000) (x : Op1) (hx : x.Ok) (hK : x.k = 1) : Calls Tryz.prog 58 #[.agg #[.int .i64 q.1.old.base, .int .i64 q.1.old.limit, .slice A1 q.1.old.ws.length e1, .int .i64 q.1.yng.base, .int .i64 q.1.yng.limit, .slice A2 q.1.yng.ws.length e2], .slice A q.2.length c, .agg #[.int .i64 1, .int .i64 x.h.k, .int .i64 x.h.c, .int .i64 x.h.f, .int .i64 x.a, .int .i64 x.b, .int .i64 x.i, .int .u64 x.w]] w (StP1 w A1 A2 A (st1 q x)) := by
 have hb0 : Below w.heap.size w (((w.alloc (.cells #[.int .i64 q.1.old.base, .int .i64 q.1.old.limit, .slice A1 q.1.old.ws.length e1, .int .i64 q.1.yng.base, .int .i64 q.1.yng.limit, .slice A2 q.1.yng.ws.length e2] 32)).alloc (.cells #[.int .i64 1, .int .i64 x.h.k, .int .i64 x.h.c, .int .i64 x.h.f, .int .i64 x.a, .int .i64 x.b, .int .i64 x.i, .int .u64 x.w] 90)).alloc (.cells #[.int .i64 0, .int .i64 0, .slice none 0 0, .int .i64 0, .int .i64 0, .slice none 0 0] 32)) := (((Below.refl _ w).alloc (Nat.le_refl _) _).alloc (by simp) _).alloc (by simp; omega) _
 have HQM : Hid (Bk (((w.alloc (.cells #[.int .i64 q.1.old.base, .int .i64 q.1.old.limit, .slice A1 q.1.old.ws.length e1, .int .i64 q.1.yng.base, .int .i64 q.1.yng.limit, .slice A2 q.1.yng.ws.length e2] 32)).alloc (.cells #[.int .i64 1, .int .i64 x.h.k, .int .i64 x.h.c, .int .i64 x.h.f, .int .i64 x.a, .int .i64 x.b, .int .i64 x.i, .int .u64 x.w] 90)).alloc (.cells #[.int .i64 0, .int .i64 0, .slice none 0 0, .int .i64 0, .int .i64 0, .slice none 0 0] 32)) w.heap.size 32 #[.int .i64 q.1.old.base, .int .i64 q.1.old.limit, .slice A1 q.1.old.ws.length e1, .int .i64 q.1.yng.base, .int .i64 q.1.yng.limit, .slice A2 q.1.yng.ws.length e2]) := lh (((Bk.new _ _ _).alloc _).alloc _)
 have HQO : Hid (Bk (((w.alloc (.cells #[.int .i64 q.1.old.base, .int .i64 q.1.old.limit, .slice A1 q.1.old.ws.length e1, .int .i64 q.1.yng.base, .int .i64 q.1.yng.limit, .slice A2 q.1.yng.ws.length e2] 32)).alloc (.cells #[.int .i64 1, .int .i64 x.h.k, .int .i64 x.h.c, .int .i64 x.h.f, .int .i64 x.a, .int .i64 x.b, .int .i64 x.i, .int .u64 x.w] 90)).alloc (.cells #[.int .i64 0, .int .i64 0, .slice none 0 0, .int .i64 0, .int .i64 0, .slice none 0 0] 32)) (w.heap.size + 1) 90 #[.int .i64 1, .int .i64 x.h.k, .int .i64 x.h.c, .int .i64 x.h.f, .int .i64 x.a, .int .i64 x.b, .int .i64 x.i, .int .u64 x.w]) := lh (Bk.alloc (Bk.here _ _ _ (by simp)) _)
 have HQZ : Hid (Bk (((w.alloc (.cells #[.int .i64 q.1.old.base, .int .i64 q.1.old.limit, .slice A1 q.1.old.ws.length e1, .int .i64 q.1.yng.base, .int .i64 q.1.yng.limit, .slice A2 q.1.yng.ws.length e2] 32)).alloc (.cells #[.int .i64 1, .int .i64 x.h.k, .int .i64 x.h.c, .int .i64 x.h.f, .int .i64 x.a, .int .i64 x.b, .int .i64 x.i, .int .u64 x.w] 90)).alloc (.cells #[.int .i64 0, .int .i64 0, .slice none 0 0, .int .i64 0, .int .i64 0, .slice none 0 0] 32)) (w.heap.size + 1 + 1) 32 #[.int .i64 0, .int .i64 0, .slice none 0 0, .int .i64 0, .int .i64 0, .slice none 0 0]) := lh (Bk.here _ _ _ (by simp))
 have H := lh (h.below hb0)
 have HS := lh (hs.below hb0)
 have HB := lh hb0
 have OK := lh ok
 have HLT := lh hlt
 have HA : Hid (-9223372036854775808 ≤ x.a ∧ x.a ≤ 9223372036854775807) := lh ⟨hx.a0, hx.a1⟩
 have HBb : Hid (-9223372036854775808 ≤ x.b ∧ x.b ≤ 9223372036854775807) := lh ⟨hx.b0, hx.b1⟩
 have HXU := lh hx.w
 have HL := lh hl
 have HK := lh hK
 clear h hs hb0 ok hlt hx hK
 go_enter Tryz.func58, Tryz.ntmps58
 go_upto_region 1 with fail
 generalize ((w.alloc (.cells #[.int .i64 q.1.old.base, .int .i64 q.1.old.limit, .slice A1 q.1.old.ws.length e1, .int .i64 q.1.yng.base, .int .i64 q.1.yng.limit, .slice A2 q.1.yng.ws.length e2] 32)).alloc (.cells #[.int .i64 1, .int .i64 x.h.k, .int .i64 x.h.c, .int .i64 x.h.f, .int .i64 x.a, .int .i64 x.b, .int .i64 x.i, .int .u64 x.w] 90)).alloc (.cells #[.int .i64 0, .int .i64 0, .slice none 0 0, .int .i64 0, .int .i64 0, .slice none 0 0] 32) = w0 at *
 obtain ⟨bm, hbm⟩ : ∃ bm, bm = w.heap.size := ⟨_, rfl⟩
 obtain ⟨bo, hbo⟩ : ∃ bo, bo = w.heap.size + 1 := ⟨_, rfl⟩
 obtain ⟨bz, hbz⟩ : ∃ bz, bz = w.heap.size + 1 + 1 := ⟨_, rfl⟩
 have HNE : Hid (bm < bo ∧ bo < bz ∧ w.heap.size ≤ bm) := lh ⟨by omega, by omega, by omega⟩
 rw [← hbz] at HQZ
 rw [← hbo] at HQO
 rw [← hbm] at HQM
 rw [← hbz, ← hbo, ← hbm]
 clear hbm hbo hbz
 have cP := fun n a ha => Pick_any (w := w0.drewN n) ((HS.out.below (below_drewN (Below.refl _ w0) n))) HL.out a ha
 have o0 : w0.cell? ⟨bo, 0, none⟩ = some (.int .i64 1) := HQO.out.cell 0
 have o1 : w0.cell? ⟨bo, 1, none⟩ = some (.int .i64 x.h.k) := HQO.out.cell 1
 have o2 : w0.cell? ⟨bo, 2, none⟩ = some (.int .i64 x.h.c) := HQO.out.cell 2
 have o3 : w0.cell? ⟨bo, 3, none⟩ = some (.int .i64 x.h.f) := HQO.out.cell 3
 have o4 : w0.cell? ⟨bo, 4, none⟩ = some (.int .i64 x.a) := HQO.out.cell 4
 have o5 : w0.cell? ⟨bo, 5, none⟩ = some (.int .i64 x.b) := HQO.out.cell 5
 have o6 : w0.cell? ⟨bo, 6, none⟩ = some (.int .i64 x.i) := HQO.out.cell 6
 have o7 : w0.cell? ⟨bo, 7, none⟩ = some (.int .u64 x.w) := HQO.out.cell 7
 go_quiet ((go_at_call 54; exact Calls.quiet_of_same ((cP _ _ (by first | exact HA.out | exact HBb.out)).mono fun _ _ h => ⟨h.1, h.2.symm⟩)))
 clear cP
 obtain ⟨pa, hpa⟩ : ∃ pa, pa = pick1 q.2 x.a := ⟨_, rfl⟩
 obtain ⟨pb, hpb⟩ : ∃ pb, pb = pick1 q.2 x.b := ⟨_, rfl⟩
 have HPA := lh hpa
 have HPB := lh hpb
 rw [← hpa, ← hpb]
 clear hpa hpb
 obtain ⟨er, m2, hr⟩ : ∃ er m2, q.1.setF pa x.i (frW pb) = (er, m2) := ⟨_, _, rfl⟩
 have HRR : Hid (st1 q x = (m2, q.2)) := lh (by
  unfold st1
  rw [if_neg (show ¬ (x.k = 0) by rw [HK.out]; decide)]
  rw [if_pos HK.out, ← HPA.out, ← HPB.out, hr])
 have HR := lh hr
 clear hr
 have hbq := below_drewN (Below.refl w0.heap.size w0) nq
 replace H := lh (H.out.below hbq)
 replace HS := lh (HS.out.below hbq)
 replace HQM := lh (HQM.out.below hbq HQM.out.lt)
 replace HQO := lh (HQO.out.below hbq HQO.out.lt)
 replace HQZ := lh (HQZ.out.below hbq HQZ.out.lt)
 replace HB := lh (HB.out.trans (hbq.mono HB.out.size))
 clear hbq o0 o1 o2 o3 o4 o5 o6 o7
 generalize w0.drewN nq = wq at *
 have cR := fun {w2 : World} (hb : Below wq.heap.size wq w2) => RSetField_any (H.out.below hb) pa x.i (frW_u pb)
 simp only [HR.out] at cR
 unfold rmV at cR
 have o0 : wq.cell? ⟨bo, 0, none⟩ = some (.int .i64 1) := HQO.out.cell 0
 have o1 : wq.cell? ⟨bo, 1, none⟩ = some (.int .i64 x.h.k) := HQO.out.cell 1
 have o2 : wq.cell? ⟨bo, 2, none⟩ = some (.int .i64 x.h.c) := HQO.out.cell 2
 have o3 : wq.cell? ⟨bo, 3, none⟩ = some (.int .i64 x.h.f) := HQO.out.cell 3
 have o4 : wq.cell? ⟨bo, 4, none⟩ = some (.int .i64 x.a) := HQO.out.cell 4
 have o5 : wq.cell? ⟨bo, 5, none⟩ = some (.int .i64 x.b) := HQO.out.cell 5
 have o6 : wq.cell? ⟨bo, 6, none⟩ = some (.int .i64 x.i) := HQO.out.cell 6
 have o7 : wq.cell? ⟨bo, 7, none⟩ = some (.int .u64 x.w) := HQO.out.cell 7
 have y0 : wq.cell? ⟨bm, 0, none⟩ = some (.int .i64 q.1.old.base) := HQM.out.cell 0
 have yf0 : wq.frozen? ⟨bm, 0, none⟩ = false := HQM.out.free 0
 have y1 : wq.cell? ⟨bm, 1, none⟩ = some (.int .i64 q.1.old.limit) := HQM.out.cell 1
 have yf1 : wq.frozen? ⟨bm, 1, none⟩ = false := HQM.out.free 1
 have y2 : wq.cell? ⟨bm, 2, none⟩ = some (.slice A1 q.1.old.ws.length e1) := HQM.out.cell 2
 have yf2 : wq.frozen? ⟨bm, 2, none⟩ = false := HQM.out.free 2
 have y3 : wq.cell? ⟨bm, 3, none⟩ = some (.int .i64 q.1.yng.base) := HQM.out.cell 3
 have yf3 : wq.frozen? ⟨bm, 3, none⟩ = false := HQM.out.free 3
 have y4 : wq.cell? ⟨bm, 4, none⟩ = some (.int .i64 q.1.yng.limit) := HQM.out.cell 4
 have yf4 : wq.frozen? ⟨bm, 4, none⟩ = false := HQM.out.free 4
 have y5 : wq.cell? ⟨bm, 5, none⟩ = some (.slice A2 q.1.yng.ws.length e2) := HQM.out.cell 5
 have yf5 : wq.frozen? ⟨bm, 5, none⟩ = false := HQM.out.free 5
 go_upto_region 11 with fail
 have cW := fun w => Word_any pb w
 refine wp_region_addsF0 10 (fun i => ([[], [], [], [2], [], [4], [0, 1, 3, 5], [6], [7], [7]] : List (List Nat)).getD i []) [9] (EL [Ent.val (.agg #[.int .i64 q.1.old.base, .int .i64 q.1.old.limit, .slice A1 q.1.old.ws.length e1, .int .i64 q.1.yng.base, .int .i64 q.1.yng.limit, .slice A2 q.1.yng.ws.length e2]), Ent.val (.int .i64 pa), Ent.val (.pointer (some ⟨bo, 6, none⟩)), Ent.val (.int .i64 x.i), Ent.val (.int .i64 pb), Ent.val (.int .u64 (frW pb)), Ent.of (RMsT1 wq.heap.size A1 A2 er m2) RMsT1.below, Ent.same 6 (RMsT1 wq.heap.size A1 A2 er m2) RMsT1.below, Ent.ext 7 0, Ent.ext 7 1]) (by kernel_rfl) (by kernel_rfl) (by kernel_rfl) (by kernel_rfl) (by kernel_rfl) (by rfl) ?_ ?_
 ·intro i hi o ho vs w2 hb1 hgr
  rcases (show i = 0 ∨ i = 1 ∨ i = 2 ∨ i = 3 ∨ i = 4 ∨ i = 5 ∨ i = 6 ∨ i = 7 ∨ i = 8 ∨ i = 9 by omega) with rfl | rfl | rfl | rfl | rfl | rfl | rfl | rfl | rfl | rfl <;> cases ho
  ·clear hgr
   change Made _ (Adds _ _ _) (Sem.run _ (execOp (Act.eval (frm _ _ _ [])) _) _)
   simp only [frm]
   have hbk := HQM.out.below hb1 HQM.out.lt
   have c0 : w2.cell? ⟨bm, 0, none⟩ = some (.int .i64 q.1.old.base) := hbk.cell 0
   have c1 : w2.cell? ⟨bm, 1, none⟩ = some (.int .i64 q.1.old.limit) := hbk.cell 1
   have c2 : w2.cell? ⟨bm, 2, none⟩ = some (.slice A1 q.1.old.ws.length e1) := hbk.cell 2
   have c3 : w2.cell? ⟨bm, 3, none⟩ = some (.int .i64 q.1.yng.base) := hbk.cell 3
   have c4 : w2.cell? ⟨bm, 4, none⟩ = some (.int .i64 q.1.yng.limit) := hbk.cell 4
   have c5 : w2.cell? ⟨bm, 5, none⟩ = some (.slice A2 q.1.yng.ws.length e2) := hbk.cell 5
   clear hbk
   go_simp
   exact adds_val rfl
  ·clear hgr
   change Made _ (Adds _ _ _) (Sem.run _ (execOp (Act.eval (frm _ _ _ [])) _) _)
   simp only [frm]
   go_simp
   exact adds_val rfl
  ·clear hgr
   change Made _ (Adds _ _ _) (Sem.run _ (execOp (Act.eval (frm _ _ _ [])) _) _)
   simp only [frm]
   go_simp
   exact adds_val rfl
  ·have h2 : vs 2 = _ := hgr 2 (by decide)
   clear hgr
   change Made _ (Adds _ _ _) (Sem.run _ (execOp (Act.eval (Act.put (frm _ _ _ []) (some 57) (vs 2))) _) _)
   simp only [frm, h2]
   have hbk := HQO.out.below hb1 HQO.out.lt
   have c0 : w2.cell? ⟨bo, 6, none⟩ = some (.int .i64 x.i) := hbk.cell 6
   clear hbk
   go_simp
   exact adds_val rfl
  ·clear hgr
   change Made _ (Adds _ _ _) (Sem.run _ (execOp (Act.eval (frm _ _ _ [])) _) _)
   simp only [frm]
   go_simp
   exact adds_val rfl
  ·have h4 : vs 4 = _ := hgr 4 (by decide)
   clear hgr
   change Made _ (Adds _ _ _) (Sem.run _ (execOp (Act.eval (Act.put (frm _ _ _ []) (some 59) (vs 4))) _) _)
   simp only [frm, h4]
   go_simp
   exact adds_still (cW _)
  ·have h0 : vs 0 = _ := hgr 0 (by decide)
   have h1 : vs 1 = _ := hgr 1 (by decide)
   have h3 : vs 3 = _ := hgr 3 (by decide)
   have h5 : vs 5 = _ := hgr 5 (by decide)
   clear hgr
   change Made _ (Adds _ _ _) (Sem.run _ (execOp (Act.eval (Act.put (Act.put (Act.put (Act.put (frm _ _ _ []) (some 60) (vs 5)) (some 58) (vs 3)) (some 56) (vs 1)) (some 55) (vs 0))) _) _)
   simp only [frm, h0, h1, h3, h5]
   go_simp
   refine adds_call (T := RMsT1 wq.heap.size A1 A2 er m2) (hT := RMsT1.below) (ob := fun _ => none) (cR hb1) ?_
   rintro e w3 ⟨A3, e3, A4, e4, rfl, hm, hb, n1, n2⟩
   exact ⟨_, rfl, ⟨A3, e3, A4, e4, rfl, hm, n1.mono hb1.size, n2.mono hb1.size⟩, hb, (fun k hk => nomatch hk)⟩
  ·obtain ⟨A3, e3, A4, e4, h6, hm3, n1, n2⟩ := hgr 6 (by decide)
   clear hgr
   change Made _ (Adds _ _ _) (Sem.run _ (execOp (Act.eval (Act.put (frm _ _ _ []) (some 61) (vs 6))) _) _)
   simp only [frm, h6]
   go_simp
   rw [← h6]
   exact adds_same (hT := RMsT1.below) ⟨A3, e3, A4, e4, h6, hm3, n1, n2⟩
  ·obtain ⟨h7e, A3, e3, A4, e4, h7, hm3, n1, n2⟩ := hgr 7 (by decide)
   clear hgr
   change Made _ (Adds _ _ _) (Sem.run _ (execOp (Act.eval (Act.put (frm _ _ _ []) (some 54) (vs 7))) _) _)
   simp only [frm, h7]
   go_simp
   exact adds_ext h7 rfl
  ·obtain ⟨h7e, A3, e3, A4, e4, h7, hm3, n1, n2⟩ := hgr 7 (by decide)
   clear hgr
   change Made _ (Adds _ _ _) (Sem.run _ (execOp (Act.eval (Act.put (frm _ _ _ []) (some 54) (vs 7))) _) _)
   simp only [frm, h7]
   go_simp
   exact adds_ext h7 rfl
 ·intro vs w2 hb1 hall hap
  obtain ⟨A3, e3, A4, e4, h6, hm3, n1, n2⟩ := (hall 6 (by omega)).1
  have h7e := (hall 7 (by omega)).1.1
  have h8 : vs 8 = .agg #[.int .i64 m2.old.base, .int .i64 m2.old.limit, .slice A3 m2.old.ws.length e3, .int .i64 m2.yng.base, .int .i64 m2.yng.limit, .slice A4 m2.yng.ws.length e4] := ext_eq (hall 8 (by omega)).1 (h7e.trans h6) rfl
  clear hall hap
  change wpList _ _ _ [_] (Act.put (Act.put (Act.put (Act.put (Act.put (Act.put (Act.put (Act.put (Act.put (Act.put (frm _ _ _ []) (some 63) (vs 9)) (some 62) (vs 8)) (some 54) (vs 7)) (some 61) (vs 6)) (some 60) (vs 5)) (some 59) (vs 4)) (some 58) (vs 3)) (some 57) (vs 2)) (some 56) (vs 1)) (some 55) (vs 0)) _
  simp only [frm, h6, h8]
  have HM3 := lh hm3
  have HN := lh (And.intro n1 n2)
  have HB2 := lh hb1
  clear hm3 n1 n2 hb1 cR cW h7e h6 h8
  have HSX := lh (HS.out.below HB2.out)
  have HLX : Hid (∀ b o, A = some ⟨b, o, none⟩ → b < w2.heap.size ∧ b ≠ bm ∧ b ≠ bz) := lh (fun b o e => by have h1 := HLT.out b o e; have h2 := HB.out.size; have h3 := HB2.out.size; have h4 := HNE.out; omega)
  have HNX := lh (Nw.refl w.heap.size A)
  have hq2 := HQM.out.below HB2.out HQM.out.lt
  have hz2 := HQZ.out.below HB2.out HQZ.out.lt
  have HQM2 := lh hq2
  have HQZ2 := lh hz2
  have n0 : w2.cell? ⟨bm, 0, none⟩ = some (.int .i64 q.1.old.base) := hq2.cell 0
  have nf0 : w2.frozen? ⟨bm, 0, none⟩ = false := hq2.free 0
  have n1 : w2.cell? ⟨bm, 1, none⟩ = some (.int .i64 q.1.old.limit) := hq2.cell 1
  have nf1 : w2.frozen? ⟨bm, 1, none⟩ = false := hq2.free 1
  have n2 : w2.cell? ⟨bm, 2, none⟩ = some (.slice A1 q.1.old.ws.length e1) := hq2.cell 2
  have nf2 : w2.frozen? ⟨bm, 2, none⟩ = false := hq2.free 2
  have n3 : w2.cell? ⟨bm, 3, none⟩ = some (.int .i64 q.1.yng.base) := hq2.cell 3
  have nf3 : w2.frozen? ⟨bm, 3, none⟩ = false := hq2.free 3
  have n4 : w2.cell? ⟨bm, 4, none⟩ = some (.int .i64 q.1.yng.limit) := hq2.cell 4
  have nf4 : w2.frozen? ⟨bm, 4, none⟩ = false := hq2.free 4
  have n5 : w2.cell? ⟨bm, 5, none⟩ = some (.slice A2 q.1.yng.ws.length e2) := hq2.cell 5
  have nf5 : w2.frozen? ⟨bm, 5, none⟩ = false := hq2.free 5
  have hzl := hz2.lt
  have hql := hq2.lt
  clear hq2 hz2
  go_wp2_with fail
  rw [onlyN_normal]
  have hq4 : Bk (set6 w2 bm (.int .i64 m2.old.base) (.int .i64 m2.old.limit) (.slice A3 m2.old.ws.length e3) (.int .i64 m2.yng.base) (.int .i64 m2.yng.limit) (.slice A4 m2.yng.ws.length e4)) bm 32 #[.int .i64 m2.old.base, .int .i64 m2.old.limit, .slice A3 m2.old.ws.length e3, .int .i64 m2.yng.base, .int .i64 m2.yng.limit, .slice A4 m2.yng.ws.length e4] := HQM2.out.set6a
  have hz4 : Bk (set6 w2 bm (.int .i64 m2.old.base) (.int .i64 m2.old.limit) (.slice A3 m2.old.ws.length e3) (.int .i64 m2.yng.base) (.int .i64 m2.yng.limit) (.slice A4 m2.yng.ws.length e4)) bz 32 #[.int .i64 0, .int .i64 0, .slice none 0 0, .int .i64 0, .int .i64 0, .slice none 0 0] := HQZ2.out.far6a (by have := HNE.out; omega)
  have hm4 : RM (set6 w2 bm (.int .i64 m2.old.base) (.int .i64 m2.old.limit) (.slice A3 m2.old.ws.length e3) (.int .i64 m2.yng.base) (.int .i64 m2.yng.limit) (.slice A4 m2.yng.ws.length e4)) m2 A3 e3 A4 e4 := HM3.out.set6a HQM2.out rfl
  have hs4 : IS (set6 w2 bm (.int .i64 m2.old.base) (.int .i64 m2.old.limit) (.slice A3 m2.old.ws.length e3) (.int .i64 m2.yng.base) (.int .i64 m2.yng.limit) (.slice A4 m2.yng.ws.length e4)) q.2 A c := HSX.out.set6a fun b o e => (HLX.out b o e).2.1
  have hb4 : Below w.heap.size w (set6 w2 bm (.int .i64 m2.old.base) (.int .i64 m2.old.limit) (.slice A3 m2.old.ws.length e3) (.int .i64 m2.yng.base) (.int .i64 m2.yng.limit) (.slice A4 m2.yng.ws.length e4)) := below_set6a (HB.out.trans (HB2.out.mono HB.out.size)) HNE.out.2.2
  have hsz : w2.heap.size ≤ (set6 w2 bm (.int .i64 m2.old.base) (.int .i64 m2.old.limit) (.slice A3 m2.old.ws.length e3) (.int .i64 m2.yng.base) (.int .i64 m2.yng.limit) (.slice A4 m2.yng.ws.length e4)).heap.size := by rw [size_set6a]; exact Nat.le_refl _
  obtain ⟨w4, hw4⟩ : ∃ w4, set6 w2 bm (.int .i64 m2.old.base) (.int .i64 m2.old.limit) (.slice A3 m2.old.ws.length e3) (.int .i64 m2.yng.base) (.int .i64 m2.yng.limit) (.slice A4 m2.yng.ws.length e4) = w4 := ⟨_, rfl⟩
  rw [hw4] at hq4 hz4 hm4 hs4 hb4 hsz
  change (set6 w2 bm (.int .i64 m2.old.base) (.int .i64 m2.old.limit) (.slice A3 m2.old.ws.length e3) (.int .i64 m2.yng.base) (.int .i64 m2.yng.limit) (.slice A4 m2.yng.ws.length e4)) = w4 at hw4
  unfold set6 at hw4
  try rw [hw4]
  try simp only [hw4]
  have HM4 := lh hm4
  have HS4 := lh hs4
  have HB4 := lh hb4
  have HZ4 := lh hz4
  have HSZ := lh hsz
  have a0 : w4.cell? ⟨bm, 0, none⟩ = some (.int .i64 m2.old.base) := hq4.cell 0
  have a1 : w4.cell? ⟨bm, 1, none⟩ = some (.int .i64 m2.old.limit) := hq4.cell 1
  have a2 : w4.cell? ⟨bm, 2, none⟩ = some (.slice A3 m2.old.ws.length e3) := hq4.cell 2
  have a3 : w4.cell? ⟨bm, 3, none⟩ = some (.int .i64 m2.yng.base) := hq4.cell 3
  have a4 : w4.cell? ⟨bm, 4, none⟩ = some (.int .i64 m2.yng.limit) := hq4.cell 4
  have a5 : w4.cell? ⟨bm, 5, none⟩ = some (.slice A4 m2.yng.ws.length e4) := hq4.cell 5
  have z0 : w4.cell? ⟨bz, 0, none⟩ = some (.int .i64 0) := hz4.cell 0
  have zf0 : w4.frozen? ⟨bz, 0, none⟩ = false := hz4.free 0
  have z1 : w4.cell? ⟨bz, 1, none⟩ = some (.int .i64 0) := hz4.cell 1
  have zf1 : w4.frozen? ⟨bz, 1, none⟩ = false := hz4.free 1
  have z2 : w4.cell? ⟨bz, 2, none⟩ = some (.slice none 0 0) := hz4.cell 2
  have zf2 : w4.frozen? ⟨bz, 2, none⟩ = false := hz4.free 2
  have z3 : w4.cell? ⟨bz, 3, none⟩ = some (.int .i64 0) := hz4.cell 3
  have zf3 : w4.frozen? ⟨bz, 3, none⟩ = false := hz4.free 3
  have z4 : w4.cell? ⟨bz, 4, none⟩ = some (.int .i64 0) := hz4.cell 4
  have zf4 : w4.frozen? ⟨bz, 4, none⟩ = false := hz4.free 4
  have z5 : w4.cell? ⟨bz, 5, none⟩ = some (.slice none 0 0) := hz4.cell 5
  have zf5 : w4.frozen? ⟨bz, 5, none⟩ = false := hz4.free 5
  clear n0 nf0 n1 nf1 n2 nf2 n3 nf3 n4 nf4 n5 nf5 hq4 hz4 hm4 hs4 hb4 hw4 hsz
  go_wp2_with fail
  rw [HRR.out]
  refine bodyPost_ret (v := .tuple #[.agg #[.int .i64 m2.old.base, .int .i64 m2.old.limit, .slice A3 m2.old.ws.length e3, .int .i64 m2.yng.base, .int .i64 m2.yng.limit, .slice A4 m2.yng.ws.length e4], .slice A q.2.length c]) (by simp [results, Tryz.results58, go_sem, z0, z1, z2, z3, z4, z5]) rfl ?_
  exact ⟨A3, e3, A4, e4, A, c, rfl, HM4.out.set6a HZ4.out rfl, HS4.out.set6a fun b o e => (HLX.out b o e).2.2, fun b o e => by have h1 := (HLX.out b o e).1; have h2 := HSZ.out; simp only [size_set6a]; omega, HN.out.1.mono HB.out.size, HN.out.2.mono HB.out.size, HNX.out, below_set6a HB4.out (by have := HNE.out; omega)⟩
set_option maxHeartbeats 4000000 in
theorem step1_2 (h : RM w q.1 A1 e1 A2 e2) (ok : q.1.Ok) (hs : IS w q.2 A c) (hlt : ∀ b o, A = some ⟨b, o, none⟩ → b < w.heap.size) (hl : q.2.length ≤ 1000000) (x : Op1) (hx : x.Ok) (hK : x.k = 2) : Calls Tryz.prog 58 #[.agg #[.int .i64 q.1.old.base, .int .i64 q.1.old.limit, .slice A1 q.1.old.ws.length e1, .int .i64 q.1.yng.base, .int .i64 q.1.yng.limit, .slice A2 q.1.yng.ws.length e2], .slice A q.2.length c, .agg #[.int .i64 2, .int .i64 x.h.k, .int .i64 x.h.c, .int .i64 x.h.f, .int .i64 x.a, .int .i64 x.b, .int .i64 x.i, .int .u64 x.w]] w (StP1 w A1 A2 A (st1 q x)) := by
 have hb0 : Below w.heap.size w (((w.alloc (.cells #[.int .i64 q.1.old.base, .int .i64 q.1.old.limit, .slice A1 q.1.old.ws.length e1, .int .i64 q.1.yng.base, .int .i64 q.1.yng.limit, .slice A2 q.1.yng.ws.length e2] 32)).alloc (.cells #[.int .i64 2, .int .i64 x.h.k, .int .i64 x.h.c, .int .i64 x.h.f, .int .i64 x.a, .int .i64 x.b, .int .i64 x.i, .int .u64 x.w] 90)).alloc (.cells #[.int .i64 0, .int .i64 0, .slice none 0 0, .int .i64 0, .int .i64 0, .slice none 0 0] 32)) := (((Below.refl _ w).alloc (Nat.le_refl _) _).alloc (by simp) _).alloc (by simp; omega) _
 have HQM : Hid (Bk (((w.alloc (.cells #[.int .i64 q.1.old.base, .int .i64 q.1.old.limit, .slice A1 q.1.old.ws.length e1, .int .i64 q.1.yng.base, .int .i64 q.1.yng.limit, .slice A2 q.1.yng.ws.length e2] 32)).alloc (.cells #[.int .i64 2, .int .i64 x.h.k, .int .i64 x.h.c, .int .i64 x.h.f, .int .i64 x.a, .int .i64 x.b, .int .i64 x.i, .int .u64 x.w] 90)).alloc (.cells #[.int .i64 0, .int .i64 0, .slice none 0 0, .int .i64 0, .int .i64 0, .slice none 0 0] 32)) w.heap.size 32 #[.int .i64 q.1.old.base, .int .i64 q.1.old.limit, .slice A1 q.1.old.ws.length e1, .int .i64 q.1.yng.base, .int .i64 q.1.yng.limit, .slice A2 q.1.yng.ws.length e2]) := lh (((Bk.new _ _ _).alloc _).alloc _)
 have HQO : Hid (Bk (((w.alloc (.cells #[.int .i64 q.1.old.base, .int .i64 q.1.old.limit, .slice A1 q.1.old.ws.length e1, .int .i64 q.1.yng.base, .int .i64 q.1.yng.limit, .slice A2 q.1.yng.ws.length e2] 32)).alloc (.cells #[.int .i64 2, .int .i64 x.h.k, .int .i64 x.h.c, .int .i64 x.h.f, .int .i64 x.a, .int .i64 x.b, .int .i64 x.i, .int .u64 x.w] 90)).alloc (.cells #[.int .i64 0, .int .i64 0, .slice none 0 0, .int .i64 0, .int .i64 0, .slice none 0 0] 32)) (w.heap.size + 1) 90 #[.int .i64 2, .int .i64 x.h.k, .int .i64 x.h.c, .int .i64 x.h.f, .int .i64 x.a, .int .i64 x.b, .int .i64 x.i, .int .u64 x.w]) := lh (Bk.alloc (Bk.here _ _ _ (by simp)) _)
 have HQZ : Hid (Bk (((w.alloc (.cells #[.int .i64 q.1.old.base, .int .i64 q.1.old.limit, .slice A1 q.1.old.ws.length e1, .int .i64 q.1.yng.base, .int .i64 q.1.yng.limit, .slice A2 q.1.yng.ws.length e2] 32)).alloc (.cells #[.int .i64 2, .int .i64 x.h.k, .int .i64 x.h.c, .int .i64 x.h.f, .int .i64 x.a, .int .i64 x.b, .int .i64 x.i, .int .u64 x.w] 90)).alloc (.cells #[.int .i64 0, .int .i64 0, .slice none 0 0, .int .i64 0, .int .i64 0, .slice none 0 0] 32)) (w.heap.size + 1 + 1) 32 #[.int .i64 0, .int .i64 0, .slice none 0 0, .int .i64 0, .int .i64 0, .slice none 0 0]) := lh (Bk.here _ _ _ (by simp))
 have H := lh (h.below hb0)
 have HS := lh (hs.below hb0)
 have HB := lh hb0
 have OK := lh ok
 have HLT := lh hlt
 have HA : Hid (-9223372036854775808 ≤ x.a ∧ x.a ≤ 9223372036854775807) := lh ⟨hx.a0, hx.a1⟩
 have HBb : Hid (-9223372036854775808 ≤ x.b ∧ x.b ≤ 9223372036854775807) := lh ⟨hx.b0, hx.b1⟩
 have HXU := lh hx.w
 have HL := lh hl
 have HK := lh hK
 clear h hs hb0 ok hlt hx hK
 go_enter Tryz.func58, Tryz.ntmps58
 go_upto_region 1 with fail
 generalize ((w.alloc (.cells #[.int .i64 q.1.old.base, .int .i64 q.1.old.limit, .slice A1 q.1.old.ws.length e1, .int .i64 q.1.yng.base, .int .i64 q.1.yng.limit, .slice A2 q.1.yng.ws.length e2] 32)).alloc (.cells #[.int .i64 2, .int .i64 x.h.k, .int .i64 x.h.c, .int .i64 x.h.f, .int .i64 x.a, .int .i64 x.b, .int .i64 x.i, .int .u64 x.w] 90)).alloc (.cells #[.int .i64 0, .int .i64 0, .slice none 0 0, .int .i64 0, .int .i64 0, .slice none 0 0] 32) = w0 at *
 obtain ⟨bm, hbm⟩ : ∃ bm, bm = w.heap.size := ⟨_, rfl⟩
 obtain ⟨bo, hbo⟩ : ∃ bo, bo = w.heap.size + 1 := ⟨_, rfl⟩
 obtain ⟨bz, hbz⟩ : ∃ bz, bz = w.heap.size + 1 + 1 := ⟨_, rfl⟩
 have HNE : Hid (bm < bo ∧ bo < bz ∧ w.heap.size ≤ bm) := lh ⟨by omega, by omega, by omega⟩
 rw [← hbz] at HQZ
 rw [← hbo] at HQO
 rw [← hbm] at HQM
 rw [← hbz, ← hbo, ← hbm]
 clear hbm hbo hbz
 have cP := fun n a ha => Pick_any (w := w0.drewN n) ((HS.out.below (below_drewN (Below.refl _ w0) n))) HL.out a ha
 have o0 : w0.cell? ⟨bo, 0, none⟩ = some (.int .i64 2) := HQO.out.cell 0
 have o1 : w0.cell? ⟨bo, 1, none⟩ = some (.int .i64 x.h.k) := HQO.out.cell 1
 have o2 : w0.cell? ⟨bo, 2, none⟩ = some (.int .i64 x.h.c) := HQO.out.cell 2
 have o3 : w0.cell? ⟨bo, 3, none⟩ = some (.int .i64 x.h.f) := HQO.out.cell 3
 have o4 : w0.cell? ⟨bo, 4, none⟩ = some (.int .i64 x.a) := HQO.out.cell 4
 have o5 : w0.cell? ⟨bo, 5, none⟩ = some (.int .i64 x.b) := HQO.out.cell 5
 have o6 : w0.cell? ⟨bo, 6, none⟩ = some (.int .i64 x.i) := HQO.out.cell 6
 have o7 : w0.cell? ⟨bo, 7, none⟩ = some (.int .u64 x.w) := HQO.out.cell 7
 go_quiet ((go_at_call 54; exact Calls.quiet_of_same ((cP _ _ (by first | exact HA.out | exact HBb.out)).mono fun _ _ h => ⟨h.1, h.2.symm⟩)))
 clear cP
 obtain ⟨pa, hpa⟩ : ∃ pa, pa = pick1 q.2 x.a := ⟨_, rfl⟩
 obtain ⟨pb, hpb⟩ : ∃ pb, pb = pick1 q.2 x.b := ⟨_, rfl⟩
 have HPA := lh hpa
 have HPB := lh hpb
 rw [← hpa, ← hpb]
 clear hpa hpb
 obtain ⟨er, m2, hr⟩ : ∃ er m2, q.1.setF pa x.i x.w = (er, m2) := ⟨_, _, rfl⟩
 have HRR : Hid (st1 q x = (m2, q.2)) := lh (by
  unfold st1
  rw [if_neg (show ¬ (x.k = 0) by rw [HK.out]; decide)]
  rw [if_neg (show ¬ (x.k = 1) by rw [HK.out]; decide)]
  rw [if_pos HK.out, ← HPA.out, hr])
 have HR := lh hr
 clear hr
 have hbq := below_drewN (Below.refl w0.heap.size w0) nq
 replace H := lh (H.out.below hbq)
 replace HS := lh (HS.out.below hbq)
 replace HQM := lh (HQM.out.below hbq HQM.out.lt)
 replace HQO := lh (HQO.out.below hbq HQO.out.lt)
 replace HQZ := lh (HQZ.out.below hbq HQZ.out.lt)
 replace HB := lh (HB.out.trans (hbq.mono HB.out.size))
 clear hbq o0 o1 o2 o3 o4 o5 o6 o7
 generalize w0.drewN nq = wq at *
 have cR := fun {w2 : World} (hb : Below wq.heap.size wq w2) => RSetField_any (H.out.below hb) pa x.i HXU.out
 simp only [HR.out] at cR
 unfold rmV at cR
 have o0 : wq.cell? ⟨bo, 0, none⟩ = some (.int .i64 2) := HQO.out.cell 0
 have o1 : wq.cell? ⟨bo, 1, none⟩ = some (.int .i64 x.h.k) := HQO.out.cell 1
 have o2 : wq.cell? ⟨bo, 2, none⟩ = some (.int .i64 x.h.c) := HQO.out.cell 2
 have o3 : wq.cell? ⟨bo, 3, none⟩ = some (.int .i64 x.h.f) := HQO.out.cell 3
 have o4 : wq.cell? ⟨bo, 4, none⟩ = some (.int .i64 x.a) := HQO.out.cell 4
 have o5 : wq.cell? ⟨bo, 5, none⟩ = some (.int .i64 x.b) := HQO.out.cell 5
 have o6 : wq.cell? ⟨bo, 6, none⟩ = some (.int .i64 x.i) := HQO.out.cell 6
 have o7 : wq.cell? ⟨bo, 7, none⟩ = some (.int .u64 x.w) := HQO.out.cell 7
 have y0 : wq.cell? ⟨bm, 0, none⟩ = some (.int .i64 q.1.old.base) := HQM.out.cell 0
 have yf0 : wq.frozen? ⟨bm, 0, none⟩ = false := HQM.out.free 0
 have y1 : wq.cell? ⟨bm, 1, none⟩ = some (.int .i64 q.1.old.limit) := HQM.out.cell 1
 have yf1 : wq.frozen? ⟨bm, 1, none⟩ = false := HQM.out.free 1
 have y2 : wq.cell? ⟨bm, 2, none⟩ = some (.slice A1 q.1.old.ws.length e1) := HQM.out.cell 2
 have yf2 : wq.frozen? ⟨bm, 2, none⟩ = false := HQM.out.free 2
 have y3 : wq.cell? ⟨bm, 3, none⟩ = some (.int .i64 q.1.yng.base) := HQM.out.cell 3
 have yf3 : wq.frozen? ⟨bm, 3, none⟩ = false := HQM.out.free 3
 have y4 : wq.cell? ⟨bm, 4, none⟩ = some (.int .i64 q.1.yng.limit) := HQM.out.cell 4
 have yf4 : wq.frozen? ⟨bm, 4, none⟩ = false := HQM.out.free 4
 have y5 : wq.cell? ⟨bm, 5, none⟩ = some (.slice A2 q.1.yng.ws.length e2) := HQM.out.cell 5
 have yf5 : wq.frozen? ⟨bm, 5, none⟩ = false := HQM.out.free 5
 have cR2 := cR (Below.refl _ _)
 clear cR
 go_wp2_with fail
 refine cR2.mono ?_
 rintro e w2 ⟨A3, e3, A4, e4, rfl, hm3, hb1, n1, n2⟩
 unfold rmV
 have HM3 := lh hm3
 have HN := lh (And.intro n1 n2)
 have HB2 := lh hb1
 clear hm3 n1 n2 hb1 cR2
 have HSX := lh (HS.out.below HB2.out)
 have HLX : Hid (∀ b o, A = some ⟨b, o, none⟩ → b < w2.heap.size ∧ b ≠ bm ∧ b ≠ bz) := lh (fun b o e => by have h1 := HLT.out b o e; have h2 := HB.out.size; have h3 := HB2.out.size; have h4 := HNE.out; omega)
 have HNX := lh (Nw.refl w.heap.size A)
 have hq2 := HQM.out.below HB2.out HQM.out.lt
 have hz2 := HQZ.out.below HB2.out HQZ.out.lt
 have HQM2 := lh hq2
 have HQZ2 := lh hz2
 have n0 : w2.cell? ⟨bm, 0, none⟩ = some (.int .i64 q.1.old.base) := hq2.cell 0
 have nf0 : w2.frozen? ⟨bm, 0, none⟩ = false := hq2.free 0
 have n1 : w2.cell? ⟨bm, 1, none⟩ = some (.int .i64 q.1.old.limit) := hq2.cell 1
 have nf1 : w2.frozen? ⟨bm, 1, none⟩ = false := hq2.free 1
 have n2 : w2.cell? ⟨bm, 2, none⟩ = some (.slice A1 q.1.old.ws.length e1) := hq2.cell 2
 have nf2 : w2.frozen? ⟨bm, 2, none⟩ = false := hq2.free 2
 have n3 : w2.cell? ⟨bm, 3, none⟩ = some (.int .i64 q.1.yng.base) := hq2.cell 3
 have nf3 : w2.frozen? ⟨bm, 3, none⟩ = false := hq2.free 3
 have n4 : w2.cell? ⟨bm, 4, none⟩ = some (.int .i64 q.1.yng.limit) := hq2.cell 4
 have nf4 : w2.frozen? ⟨bm, 4, none⟩ = false := hq2.free 4
 have n5 : w2.cell? ⟨bm, 5, none⟩ = some (.slice A2 q.1.yng.ws.length e2) := hq2.cell 5
 have nf5 : w2.frozen? ⟨bm, 5, none⟩ = false := hq2.free 5
 have hzl := hz2.lt
 have hql := hq2.lt
 clear hq2 hz2
 go_upto_region 18 with fail
 have hq4 : Bk (set6 w2 bm (.int .i64 m2.old.base) (.int .i64 m2.old.limit) (.slice A3 m2.old.ws.length e3) (.int .i64 m2.yng.base) (.int .i64 m2.yng.limit) (.slice A4 m2.yng.ws.length e4)) bm 32 #[.int .i64 m2.old.base, .int .i64 m2.old.limit, .slice A3 m2.old.ws.length e3, .int .i64 m2.yng.base, .int .i64 m2.yng.limit, .slice A4 m2.yng.ws.length e4] := HQM2.out.set6a
 have hz4 : Bk (set6 w2 bm (.int .i64 m2.old.base) (.int .i64 m2.old.limit) (.slice A3 m2.old.ws.length e3) (.int .i64 m2.yng.base) (.int .i64 m2.yng.limit) (.slice A4 m2.yng.ws.length e4)) bz 32 #[.int .i64 0, .int .i64 0, .slice none 0 0, .int .i64 0, .int .i64 0, .slice none 0 0] := HQZ2.out.far6a (by have := HNE.out; omega)
 have hm4 : RM (set6 w2 bm (.int .i64 m2.old.base) (.int .i64 m2.old.limit) (.slice A3 m2.old.ws.length e3) (.int .i64 m2.yng.base) (.int .i64 m2.yng.limit) (.slice A4 m2.yng.ws.length e4)) m2 A3 e3 A4 e4 := HM3.out.set6a HQM2.out rfl
 have hs4 : IS (set6 w2 bm (.int .i64 m2.old.base) (.int .i64 m2.old.limit) (.slice A3 m2.old.ws.length e3) (.int .i64 m2.yng.base) (.int .i64 m2.yng.limit) (.slice A4 m2.yng.ws.length e4)) q.2 A c := HSX.out.set6a fun b o e => (HLX.out b o e).2.1
 have hb4 : Below w.heap.size w (set6 w2 bm (.int .i64 m2.old.base) (.int .i64 m2.old.limit) (.slice A3 m2.old.ws.length e3) (.int .i64 m2.yng.base) (.int .i64 m2.yng.limit) (.slice A4 m2.yng.ws.length e4)) := below_set6a (HB.out.trans (HB2.out.mono HB.out.size)) HNE.out.2.2
 have hsz : w2.heap.size ≤ (set6 w2 bm (.int .i64 m2.old.base) (.int .i64 m2.old.limit) (.slice A3 m2.old.ws.length e3) (.int .i64 m2.yng.base) (.int .i64 m2.yng.limit) (.slice A4 m2.yng.ws.length e4)).heap.size := by rw [size_set6a]; exact Nat.le_refl _
 obtain ⟨w4, hw4⟩ : ∃ w4, set6 w2 bm (.int .i64 m2.old.base) (.int .i64 m2.old.limit) (.slice A3 m2.old.ws.length e3) (.int .i64 m2.yng.base) (.int .i64 m2.yng.limit) (.slice A4 m2.yng.ws.length e4) = w4 := ⟨_, rfl⟩
 rw [hw4] at hq4 hz4 hm4 hs4 hb4 hsz
 change (set6 w2 bm (.int .i64 m2.old.base) (.int .i64 m2.old.limit) (.slice A3 m2.old.ws.length e3) (.int .i64 m2.yng.base) (.int .i64 m2.yng.limit) (.slice A4 m2.yng.ws.length e4)) = w4 at hw4
 unfold set6 at hw4
 try rw [hw4]
 try simp only [hw4]
 have HM4 := lh hm4
 have HS4 := lh hs4
 have HB4 := lh hb4
 have HZ4 := lh hz4
 have HSZ := lh hsz
 have a0 : w4.cell? ⟨bm, 0, none⟩ = some (.int .i64 m2.old.base) := hq4.cell 0
 have a1 : w4.cell? ⟨bm, 1, none⟩ = some (.int .i64 m2.old.limit) := hq4.cell 1
 have a2 : w4.cell? ⟨bm, 2, none⟩ = some (.slice A3 m2.old.ws.length e3) := hq4.cell 2
 have a3 : w4.cell? ⟨bm, 3, none⟩ = some (.int .i64 m2.yng.base) := hq4.cell 3
 have a4 : w4.cell? ⟨bm, 4, none⟩ = some (.int .i64 m2.yng.limit) := hq4.cell 4
 have a5 : w4.cell? ⟨bm, 5, none⟩ = some (.slice A4 m2.yng.ws.length e4) := hq4.cell 5
 have z0 : w4.cell? ⟨bz, 0, none⟩ = some (.int .i64 0) := hz4.cell 0
 have zf0 : w4.frozen? ⟨bz, 0, none⟩ = false := hz4.free 0
 have z1 : w4.cell? ⟨bz, 1, none⟩ = some (.int .i64 0) := hz4.cell 1
 have zf1 : w4.frozen? ⟨bz, 1, none⟩ = false := hz4.free 1
 have z2 : w4.cell? ⟨bz, 2, none⟩ = some (.slice none 0 0) := hz4.cell 2
 have zf2 : w4.frozen? ⟨bz, 2, none⟩ = false := hz4.free 2
 have z3 : w4.cell? ⟨bz, 3, none⟩ = some (.int .i64 0) := hz4.cell 3
 have zf3 : w4.frozen? ⟨bz, 3, none⟩ = false := hz4.free 3
 have z4 : w4.cell? ⟨bz, 4, none⟩ = some (.int .i64 0) := hz4.cell 4
 have zf4 : w4.frozen? ⟨bz, 4, none⟩ = false := hz4.free 4
 have z5 : w4.cell? ⟨bz, 5, none⟩ = some (.slice none 0 0) := hz4.cell 5
 have zf5 : w4.frozen? ⟨bz, 5, none⟩ = false := hz4.free 5
 clear n0 nf0 n1 nf1 n2 nf2 n3 nf3 n4 nf4 n5 nf5 hq4 hz4 hm4 hs4 hb4 hw4 hsz
 go_wp2_with fail
 rw [HRR.out]
 refine bodyPost_ret (v := .tuple #[.agg #[.int .i64 m2.old.base, .int .i64 m2.old.limit, .slice A3 m2.old.ws.length e3, .int .i64 m2.yng.base, .int .i64 m2.yng.limit, .slice A4 m2.yng.ws.length e4], .slice A q.2.length c]) (by simp [results, Tryz.results58, go_sem, z0, z1, z2, z3, z4, z5]) rfl ?_
 exact ⟨A3, e3, A4, e4, A, c, rfl, HM4.out.set6a HZ4.out rfl, HS4.out.set6a fun b o e => (HLX.out b o e).2.2, fun b o e => by have h1 := (HLX.out b o e).1; have h2 := HSZ.out; simp only [size_set6a]; omega, HN.out.1.mono HB.out.size, HN.out.2.mono HB.out.size, HNX.out, below_set6a HB4.out (by have := HNE.out; omega)⟩
set_option maxHeartbeats 4000000 in
theorem step1_3 (h : RM w q.1 A1 e1 A2 e2) (ok : q.1.Ok) (hs : IS w q.2 A c) (hlt : ∀ b o, A = some ⟨b, o, none⟩ → b < w.heap.size) (hl : q.2.length ≤ 1000000) (x : Op1) (hx : x.Ok) (hK : x.k = 3) : Calls Tryz.prog 58 #[.agg #[.int .i64 q.1.old.base, .int .i64 q.1.old.limit, .slice A1 q.1.old.ws.length e1, .int .i64 q.1.yng.base, .int .i64 q.1.yng.limit, .slice A2 q.1.yng.ws.length e2], .slice A q.2.length c, .agg #[.int .i64 3, .int .i64 x.h.k, .int .i64 x.h.c, .int .i64 x.h.f, .int .i64 x.a, .int .i64 x.b, .int .i64 x.i, .int .u64 x.w]] w (StP1 w A1 A2 A (st1 q x)) := by
 have hb0 : Below w.heap.size w (((w.alloc (.cells #[.int .i64 q.1.old.base, .int .i64 q.1.old.limit, .slice A1 q.1.old.ws.length e1, .int .i64 q.1.yng.base, .int .i64 q.1.yng.limit, .slice A2 q.1.yng.ws.length e2] 32)).alloc (.cells #[.int .i64 3, .int .i64 x.h.k, .int .i64 x.h.c, .int .i64 x.h.f, .int .i64 x.a, .int .i64 x.b, .int .i64 x.i, .int .u64 x.w] 90)).alloc (.cells #[.int .i64 0, .int .i64 0, .slice none 0 0, .int .i64 0, .int .i64 0, .slice none 0 0] 32)) := (((Below.refl _ w).alloc (Nat.le_refl _) _).alloc (by simp) _).alloc (by simp; omega) _
 have HQM : Hid (Bk (((w.alloc (.cells #[.int .i64 q.1.old.base, .int .i64 q.1.old.limit, .slice A1 q.1.old.ws.length e1, .int .i64 q.1.yng.base, .int .i64 q.1.yng.limit, .slice A2 q.1.yng.ws.length e2] 32)).alloc (.cells #[.int .i64 3, .int .i64 x.h.k, .int .i64 x.h.c, .int .i64 x.h.f, .int .i64 x.a, .int .i64 x.b, .int .i64 x.i, .int .u64 x.w] 90)).alloc (.cells #[.int .i64 0, .int .i64 0, .slice none 0 0, .int .i64 0, .int .i64 0, .slice none 0 0] 32)) w.heap.size 32 #[.int .i64 q.1.old.base, .int .i64 q.1.old.limit, .slice A1 q.1.old.ws.length e1, .int .i64 q.1.yng.base, .int .i64 q.1.yng.limit, .slice A2 q.1.yng.ws.length e2]) := lh (((Bk.new _ _ _).alloc _).alloc _)
 have HQO : Hid (Bk (((w.alloc (.cells #[.int .i64 q.1.old.base, .int .i64 q.1.old.limit, .slice A1 q.1.old.ws.length e1, .int .i64 q.1.yng.base, .int .i64 q.1.yng.limit, .slice A2 q.1.yng.ws.length e2] 32)).alloc (.cells #[.int .i64 3, .int .i64 x.h.k, .int .i64 x.h.c, .int .i64 x.h.f, .int .i64 x.a, .int .i64 x.b, .int .i64 x.i, .int .u64 x.w] 90)).alloc (.cells #[.int .i64 0, .int .i64 0, .slice none 0 0, .int .i64 0, .int .i64 0, .slice none 0 0] 32)) (w.heap.size + 1) 90 #[.int .i64 3, .int .i64 x.h.k, .int .i64 x.h.c, .int .i64 x.h.f, .int .i64 x.a, .int .i64 x.b, .int .i64 x.i, .int .u64 x.w]) := lh (Bk.alloc (Bk.here _ _ _ (by simp)) _)
 have HQZ : Hid (Bk (((w.alloc (.cells #[.int .i64 q.1.old.base, .int .i64 q.1.old.limit, .slice A1 q.1.old.ws.length e1, .int .i64 q.1.yng.base, .int .i64 q.1.yng.limit, .slice A2 q.1.yng.ws.length e2] 32)).alloc (.cells #[.int .i64 3, .int .i64 x.h.k, .int .i64 x.h.c, .int .i64 x.h.f, .int .i64 x.a, .int .i64 x.b, .int .i64 x.i, .int .u64 x.w] 90)).alloc (.cells #[.int .i64 0, .int .i64 0, .slice none 0 0, .int .i64 0, .int .i64 0, .slice none 0 0] 32)) (w.heap.size + 1 + 1) 32 #[.int .i64 0, .int .i64 0, .slice none 0 0, .int .i64 0, .int .i64 0, .slice none 0 0]) := lh (Bk.here _ _ _ (by simp))
 have H := lh (h.below hb0)
 have HS := lh (hs.below hb0)
 have HB := lh hb0
 have OK := lh ok
 have HLT := lh hlt
 have HA : Hid (-9223372036854775808 ≤ x.a ∧ x.a ≤ 9223372036854775807) := lh ⟨hx.a0, hx.a1⟩
 have HBb : Hid (-9223372036854775808 ≤ x.b ∧ x.b ≤ 9223372036854775807) := lh ⟨hx.b0, hx.b1⟩
 have HXU := lh hx.w
 have HL := lh hl
 have HK := lh hK
 clear h hs hb0 ok hlt hx hK
 go_enter Tryz.func58, Tryz.ntmps58
 go_upto_region 1 with fail
 generalize ((w.alloc (.cells #[.int .i64 q.1.old.base, .int .i64 q.1.old.limit, .slice A1 q.1.old.ws.length e1, .int .i64 q.1.yng.base, .int .i64 q.1.yng.limit, .slice A2 q.1.yng.ws.length e2] 32)).alloc (.cells #[.int .i64 3, .int .i64 x.h.k, .int .i64 x.h.c, .int .i64 x.h.f, .int .i64 x.a, .int .i64 x.b, .int .i64 x.i, .int .u64 x.w] 90)).alloc (.cells #[.int .i64 0, .int .i64 0, .slice none 0 0, .int .i64 0, .int .i64 0, .slice none 0 0] 32) = w0 at *
 obtain ⟨bm, hbm⟩ : ∃ bm, bm = w.heap.size := ⟨_, rfl⟩
 obtain ⟨bo, hbo⟩ : ∃ bo, bo = w.heap.size + 1 := ⟨_, rfl⟩
 obtain ⟨bz, hbz⟩ : ∃ bz, bz = w.heap.size + 1 + 1 := ⟨_, rfl⟩
 have HNE : Hid (bm < bo ∧ bo < bz ∧ w.heap.size ≤ bm) := lh ⟨by omega, by omega, by omega⟩
 rw [← hbz] at HQZ
 rw [← hbo] at HQO
 rw [← hbm] at HQM
 rw [← hbz, ← hbo, ← hbm]
 clear hbm hbo hbz
 have cP := fun n a ha => Pick_any (w := w0.drewN n) ((HS.out.below (below_drewN (Below.refl _ w0) n))) HL.out a ha
 have o0 : w0.cell? ⟨bo, 0, none⟩ = some (.int .i64 3) := HQO.out.cell 0
 have o1 : w0.cell? ⟨bo, 1, none⟩ = some (.int .i64 x.h.k) := HQO.out.cell 1
 have o2 : w0.cell? ⟨bo, 2, none⟩ = some (.int .i64 x.h.c) := HQO.out.cell 2
 have o3 : w0.cell? ⟨bo, 3, none⟩ = some (.int .i64 x.h.f) := HQO.out.cell 3
 have o4 : w0.cell? ⟨bo, 4, none⟩ = some (.int .i64 x.a) := HQO.out.cell 4
 have o5 : w0.cell? ⟨bo, 5, none⟩ = some (.int .i64 x.b) := HQO.out.cell 5
 have o6 : w0.cell? ⟨bo, 6, none⟩ = some (.int .i64 x.i) := HQO.out.cell 6
 have o7 : w0.cell? ⟨bo, 7, none⟩ = some (.int .u64 x.w) := HQO.out.cell 7
 go_quiet ((go_at_call 54; exact Calls.quiet_of_same ((cP _ _ (by first | exact HA.out | exact HBb.out)).mono fun _ _ h => ⟨h.1, h.2.symm⟩)))
 clear cP
 obtain ⟨pa, hpa⟩ : ∃ pa, pa = pick1 q.2 x.a := ⟨_, rfl⟩
 obtain ⟨pb, hpb⟩ : ∃ pb, pb = pick1 q.2 x.b := ⟨_, rfl⟩
 have HPA := lh hpa
 have HPB := lh hpb
 rw [← hpa, ← hpb]
 clear hpa hpb
 have HWU : Hid (U64 (IntKind.u64.wrap x.i)) := lh (wrapU_u x.i)
 obtain ⟨er, m2, hr⟩ : ∃ er m2, q.1.toStub pa 2 (IntKind.u64.wrap x.i) = (er, m2) := ⟨_, _, rfl⟩
 have HRR : Hid (st1 q x = (m2, q.2)) := lh (by
  unfold st1
  rw [if_neg (show ¬ (x.k = 0) by rw [HK.out]; decide)]
  rw [if_neg (show ¬ (x.k = 1) by rw [HK.out]; decide)]
  rw [if_neg (show ¬ (x.k = 2) by rw [HK.out]; decide)]
  rw [if_pos HK.out, ← HPA.out, hr])
 have HR := lh hr
 clear hr
 have hbq := below_drewN (Below.refl w0.heap.size w0) nq
 replace H := lh (H.out.below hbq)
 replace HS := lh (HS.out.below hbq)
 replace HQM := lh (HQM.out.below hbq HQM.out.lt)
 replace HQO := lh (HQO.out.below hbq HQO.out.lt)
 replace HQZ := lh (HQZ.out.below hbq HQZ.out.lt)
 replace HB := lh (HB.out.trans (hbq.mono HB.out.size))
 clear hbq o0 o1 o2 o3 o4 o5 o6 o7
 generalize w0.drewN nq = wq at *
 have cR := fun {w2 : World} (hb : Below wq.heap.size wq w2) => RToStub_any (H.out.below hb) OK.out pa 2 HWU.out
 simp only [HR.out] at cR
 unfold rmV at cR
 have o0 : wq.cell? ⟨bo, 0, none⟩ = some (.int .i64 3) := HQO.out.cell 0
 have o1 : wq.cell? ⟨bo, 1, none⟩ = some (.int .i64 x.h.k) := HQO.out.cell 1
 have o2 : wq.cell? ⟨bo, 2, none⟩ = some (.int .i64 x.h.c) := HQO.out.cell 2
 have o3 : wq.cell? ⟨bo, 3, none⟩ = some (.int .i64 x.h.f) := HQO.out.cell 3
 have o4 : wq.cell? ⟨bo, 4, none⟩ = some (.int .i64 x.a) := HQO.out.cell 4
 have o5 : wq.cell? ⟨bo, 5, none⟩ = some (.int .i64 x.b) := HQO.out.cell 5
 have o6 : wq.cell? ⟨bo, 6, none⟩ = some (.int .i64 x.i) := HQO.out.cell 6
 have o7 : wq.cell? ⟨bo, 7, none⟩ = some (.int .u64 x.w) := HQO.out.cell 7
 have y0 : wq.cell? ⟨bm, 0, none⟩ = some (.int .i64 q.1.old.base) := HQM.out.cell 0
 have yf0 : wq.frozen? ⟨bm, 0, none⟩ = false := HQM.out.free 0
 have y1 : wq.cell? ⟨bm, 1, none⟩ = some (.int .i64 q.1.old.limit) := HQM.out.cell 1
 have yf1 : wq.frozen? ⟨bm, 1, none⟩ = false := HQM.out.free 1
 have y2 : wq.cell? ⟨bm, 2, none⟩ = some (.slice A1 q.1.old.ws.length e1) := HQM.out.cell 2
 have yf2 : wq.frozen? ⟨bm, 2, none⟩ = false := HQM.out.free 2
 have y3 : wq.cell? ⟨bm, 3, none⟩ = some (.int .i64 q.1.yng.base) := HQM.out.cell 3
 have yf3 : wq.frozen? ⟨bm, 3, none⟩ = false := HQM.out.free 3
 have y4 : wq.cell? ⟨bm, 4, none⟩ = some (.int .i64 q.1.yng.limit) := HQM.out.cell 4
 have yf4 : wq.frozen? ⟨bm, 4, none⟩ = false := HQM.out.free 4
 have y5 : wq.cell? ⟨bm, 5, none⟩ = some (.slice A2 q.1.yng.ws.length e2) := HQM.out.cell 5
 have yf5 : wq.frozen? ⟨bm, 5, none⟩ = false := HQM.out.free 5
 have cR2 := cR (Below.refl _ _)
 clear cR
 go_wp2_with fail
 refine cR2.mono ?_
 rintro e w2 ⟨A3, e3, A4, e4, rfl, hm3, hb1, n1, n2⟩
 unfold rmV
 have HM3 := lh hm3
 have HN := lh (And.intro n1 n2)
 have HB2 := lh hb1
 clear hm3 n1 n2 hb1 cR2
 have HSX := lh (HS.out.below HB2.out)
 have HLX : Hid (∀ b o, A = some ⟨b, o, none⟩ → b < w2.heap.size ∧ b ≠ bm ∧ b ≠ bz) := lh (fun b o e => by have h1 := HLT.out b o e; have h2 := HB.out.size; have h3 := HB2.out.size; have h4 := HNE.out; omega)
 have HNX := lh (Nw.refl w.heap.size A)
 have hq2 := HQM.out.below HB2.out HQM.out.lt
 have hz2 := HQZ.out.below HB2.out HQZ.out.lt
 have HQM2 := lh hq2
 have HQZ2 := lh hz2
 have n0 : w2.cell? ⟨bm, 0, none⟩ = some (.int .i64 q.1.old.base) := hq2.cell 0
 have nf0 : w2.frozen? ⟨bm, 0, none⟩ = false := hq2.free 0
 have n1 : w2.cell? ⟨bm, 1, none⟩ = some (.int .i64 q.1.old.limit) := hq2.cell 1
 have nf1 : w2.frozen? ⟨bm, 1, none⟩ = false := hq2.free 1
 have n2 : w2.cell? ⟨bm, 2, none⟩ = some (.slice A1 q.1.old.ws.length e1) := hq2.cell 2
 have nf2 : w2.frozen? ⟨bm, 2, none⟩ = false := hq2.free 2
 have n3 : w2.cell? ⟨bm, 3, none⟩ = some (.int .i64 q.1.yng.base) := hq2.cell 3
 have nf3 : w2.frozen? ⟨bm, 3, none⟩ = false := hq2.free 3
 have n4 : w2.cell? ⟨bm, 4, none⟩ = some (.int .i64 q.1.yng.limit) := hq2.cell 4
 have nf4 : w2.frozen? ⟨bm, 4, none⟩ = false := hq2.free 4
 have n5 : w2.cell? ⟨bm, 5, none⟩ = some (.slice A2 q.1.yng.ws.length e2) := hq2.cell 5
 have nf5 : w2.frozen? ⟨bm, 5, none⟩ = false := hq2.free 5
 have hzl := hz2.lt
 have hql := hq2.lt
 clear hq2 hz2
 go_upto_region 18 with fail
 have hq4 : Bk (set6 w2 bm (.int .i64 m2.old.base) (.int .i64 m2.old.limit) (.slice A3 m2.old.ws.length e3) (.int .i64 m2.yng.base) (.int .i64 m2.yng.limit) (.slice A4 m2.yng.ws.length e4)) bm 32 #[.int .i64 m2.old.base, .int .i64 m2.old.limit, .slice A3 m2.old.ws.length e3, .int .i64 m2.yng.base, .int .i64 m2.yng.limit, .slice A4 m2.yng.ws.length e4] := HQM2.out.set6a
 have hz4 : Bk (set6 w2 bm (.int .i64 m2.old.base) (.int .i64 m2.old.limit) (.slice A3 m2.old.ws.length e3) (.int .i64 m2.yng.base) (.int .i64 m2.yng.limit) (.slice A4 m2.yng.ws.length e4)) bz 32 #[.int .i64 0, .int .i64 0, .slice none 0 0, .int .i64 0, .int .i64 0, .slice none 0 0] := HQZ2.out.far6a (by have := HNE.out; omega)
 have hm4 : RM (set6 w2 bm (.int .i64 m2.old.base) (.int .i64 m2.old.limit) (.slice A3 m2.old.ws.length e3) (.int .i64 m2.yng.base) (.int .i64 m2.yng.limit) (.slice A4 m2.yng.ws.length e4)) m2 A3 e3 A4 e4 := HM3.out.set6a HQM2.out rfl
 have hs4 : IS (set6 w2 bm (.int .i64 m2.old.base) (.int .i64 m2.old.limit) (.slice A3 m2.old.ws.length e3) (.int .i64 m2.yng.base) (.int .i64 m2.yng.limit) (.slice A4 m2.yng.ws.length e4)) q.2 A c := HSX.out.set6a fun b o e => (HLX.out b o e).2.1
 have hb4 : Below w.heap.size w (set6 w2 bm (.int .i64 m2.old.base) (.int .i64 m2.old.limit) (.slice A3 m2.old.ws.length e3) (.int .i64 m2.yng.base) (.int .i64 m2.yng.limit) (.slice A4 m2.yng.ws.length e4)) := below_set6a (HB.out.trans (HB2.out.mono HB.out.size)) HNE.out.2.2
 have hsz : w2.heap.size ≤ (set6 w2 bm (.int .i64 m2.old.base) (.int .i64 m2.old.limit) (.slice A3 m2.old.ws.length e3) (.int .i64 m2.yng.base) (.int .i64 m2.yng.limit) (.slice A4 m2.yng.ws.length e4)).heap.size := by rw [size_set6a]; exact Nat.le_refl _
 obtain ⟨w4, hw4⟩ : ∃ w4, set6 w2 bm (.int .i64 m2.old.base) (.int .i64 m2.old.limit) (.slice A3 m2.old.ws.length e3) (.int .i64 m2.yng.base) (.int .i64 m2.yng.limit) (.slice A4 m2.yng.ws.length e4) = w4 := ⟨_, rfl⟩
 rw [hw4] at hq4 hz4 hm4 hs4 hb4 hsz
 change (set6 w2 bm (.int .i64 m2.old.base) (.int .i64 m2.old.limit) (.slice A3 m2.old.ws.length e3) (.int .i64 m2.yng.base) (.int .i64 m2.yng.limit) (.slice A4 m2.yng.ws.length e4)) = w4 at hw4
 unfold set6 at hw4
 try rw [hw4]
 try simp only [hw4]
 have HM4 := lh hm4
 have HS4 := lh hs4
 have HB4 := lh hb4
 have HZ4 := lh hz4
 have HSZ := lh hsz
 have a0 : w4.cell? ⟨bm, 0, none⟩ = some (.int .i64 m2.old.base) := hq4.cell 0
 have a1 : w4.cell? ⟨bm, 1, none⟩ = some (.int .i64 m2.old.limit) := hq4.cell 1
 have a2 : w4.cell? ⟨bm, 2, none⟩ = some (.slice A3 m2.old.ws.length e3) := hq4.cell 2
 have a3 : w4.cell? ⟨bm, 3, none⟩ = some (.int .i64 m2.yng.base) := hq4.cell 3
 have a4 : w4.cell? ⟨bm, 4, none⟩ = some (.int .i64 m2.yng.limit) := hq4.cell 4
 have a5 : w4.cell? ⟨bm, 5, none⟩ = some (.slice A4 m2.yng.ws.length e4) := hq4.cell 5
 have z0 : w4.cell? ⟨bz, 0, none⟩ = some (.int .i64 0) := hz4.cell 0
 have zf0 : w4.frozen? ⟨bz, 0, none⟩ = false := hz4.free 0
 have z1 : w4.cell? ⟨bz, 1, none⟩ = some (.int .i64 0) := hz4.cell 1
 have zf1 : w4.frozen? ⟨bz, 1, none⟩ = false := hz4.free 1
 have z2 : w4.cell? ⟨bz, 2, none⟩ = some (.slice none 0 0) := hz4.cell 2
 have zf2 : w4.frozen? ⟨bz, 2, none⟩ = false := hz4.free 2
 have z3 : w4.cell? ⟨bz, 3, none⟩ = some (.int .i64 0) := hz4.cell 3
 have zf3 : w4.frozen? ⟨bz, 3, none⟩ = false := hz4.free 3
 have z4 : w4.cell? ⟨bz, 4, none⟩ = some (.int .i64 0) := hz4.cell 4
 have zf4 : w4.frozen? ⟨bz, 4, none⟩ = false := hz4.free 4
 have z5 : w4.cell? ⟨bz, 5, none⟩ = some (.slice none 0 0) := hz4.cell 5
 have zf5 : w4.frozen? ⟨bz, 5, none⟩ = false := hz4.free 5
 clear n0 nf0 n1 nf1 n2 nf2 n3 nf3 n4 nf4 n5 nf5 hq4 hz4 hm4 hs4 hb4 hw4 hsz
 go_wp2_with fail
 rw [HRR.out]
 refine bodyPost_ret (v := .tuple #[.agg #[.int .i64 m2.old.base, .int .i64 m2.old.limit, .slice A3 m2.old.ws.length e3, .int .i64 m2.yng.base, .int .i64 m2.yng.limit, .slice A4 m2.yng.ws.length e4], .slice A q.2.length c]) (by simp [results, Tryz.results58, go_sem, z0, z1, z2, z3, z4, z5]) rfl ?_
 exact ⟨A3, e3, A4, e4, A, c, rfl, HM4.out.set6a HZ4.out rfl, HS4.out.set6a fun b o e => (HLX.out b o e).2.2, fun b o e => by have h1 := (HLX.out b o e).1; have h2 := HSZ.out; simp only [size_set6a]; omega, HN.out.1.mono HB.out.size, HN.out.2.mono HB.out.size, HNX.out, below_set6a HB4.out (by have := HNE.out; omega)⟩
set_option maxHeartbeats 4000000 in
theorem step1_4 (h : RM w q.1 A1 e1 A2 e2) (ok : q.1.Ok) (hs : IS w q.2 A c) (hlt : ∀ b o, A = some ⟨b, o, none⟩ → b < w.heap.size) (hl : q.2.length ≤ 1000000) (x : Op1) (hx : x.Ok) (hK : x.k = 4) : Calls Tryz.prog 58 #[.agg #[.int .i64 q.1.old.base, .int .i64 q.1.old.limit, .slice A1 q.1.old.ws.length e1, .int .i64 q.1.yng.base, .int .i64 q.1.yng.limit, .slice A2 q.1.yng.ws.length e2], .slice A q.2.length c, .agg #[.int .i64 4, .int .i64 x.h.k, .int .i64 x.h.c, .int .i64 x.h.f, .int .i64 x.a, .int .i64 x.b, .int .i64 x.i, .int .u64 x.w]] w (StP1 w A1 A2 A (st1 q x)) := by
 have hb0 : Below w.heap.size w (((w.alloc (.cells #[.int .i64 q.1.old.base, .int .i64 q.1.old.limit, .slice A1 q.1.old.ws.length e1, .int .i64 q.1.yng.base, .int .i64 q.1.yng.limit, .slice A2 q.1.yng.ws.length e2] 32)).alloc (.cells #[.int .i64 4, .int .i64 x.h.k, .int .i64 x.h.c, .int .i64 x.h.f, .int .i64 x.a, .int .i64 x.b, .int .i64 x.i, .int .u64 x.w] 90)).alloc (.cells #[.int .i64 0, .int .i64 0, .slice none 0 0, .int .i64 0, .int .i64 0, .slice none 0 0] 32)) := (((Below.refl _ w).alloc (Nat.le_refl _) _).alloc (by simp) _).alloc (by simp; omega) _
 have HQM : Hid (Bk (((w.alloc (.cells #[.int .i64 q.1.old.base, .int .i64 q.1.old.limit, .slice A1 q.1.old.ws.length e1, .int .i64 q.1.yng.base, .int .i64 q.1.yng.limit, .slice A2 q.1.yng.ws.length e2] 32)).alloc (.cells #[.int .i64 4, .int .i64 x.h.k, .int .i64 x.h.c, .int .i64 x.h.f, .int .i64 x.a, .int .i64 x.b, .int .i64 x.i, .int .u64 x.w] 90)).alloc (.cells #[.int .i64 0, .int .i64 0, .slice none 0 0, .int .i64 0, .int .i64 0, .slice none 0 0] 32)) w.heap.size 32 #[.int .i64 q.1.old.base, .int .i64 q.1.old.limit, .slice A1 q.1.old.ws.length e1, .int .i64 q.1.yng.base, .int .i64 q.1.yng.limit, .slice A2 q.1.yng.ws.length e2]) := lh (((Bk.new _ _ _).alloc _).alloc _)
 have HQO : Hid (Bk (((w.alloc (.cells #[.int .i64 q.1.old.base, .int .i64 q.1.old.limit, .slice A1 q.1.old.ws.length e1, .int .i64 q.1.yng.base, .int .i64 q.1.yng.limit, .slice A2 q.1.yng.ws.length e2] 32)).alloc (.cells #[.int .i64 4, .int .i64 x.h.k, .int .i64 x.h.c, .int .i64 x.h.f, .int .i64 x.a, .int .i64 x.b, .int .i64 x.i, .int .u64 x.w] 90)).alloc (.cells #[.int .i64 0, .int .i64 0, .slice none 0 0, .int .i64 0, .int .i64 0, .slice none 0 0] 32)) (w.heap.size + 1) 90 #[.int .i64 4, .int .i64 x.h.k, .int .i64 x.h.c, .int .i64 x.h.f, .int .i64 x.a, .int .i64 x.b, .int .i64 x.i, .int .u64 x.w]) := lh (Bk.alloc (Bk.here _ _ _ (by simp)) _)
 have HQZ : Hid (Bk (((w.alloc (.cells #[.int .i64 q.1.old.base, .int .i64 q.1.old.limit, .slice A1 q.1.old.ws.length e1, .int .i64 q.1.yng.base, .int .i64 q.1.yng.limit, .slice A2 q.1.yng.ws.length e2] 32)).alloc (.cells #[.int .i64 4, .int .i64 x.h.k, .int .i64 x.h.c, .int .i64 x.h.f, .int .i64 x.a, .int .i64 x.b, .int .i64 x.i, .int .u64 x.w] 90)).alloc (.cells #[.int .i64 0, .int .i64 0, .slice none 0 0, .int .i64 0, .int .i64 0, .slice none 0 0] 32)) (w.heap.size + 1 + 1) 32 #[.int .i64 0, .int .i64 0, .slice none 0 0, .int .i64 0, .int .i64 0, .slice none 0 0]) := lh (Bk.here _ _ _ (by simp))
 have H := lh (h.below hb0)
 have HS := lh (hs.below hb0)
 have HB := lh hb0
 have OK := lh ok
 have HLT := lh hlt
 have HA : Hid (-9223372036854775808 ≤ x.a ∧ x.a ≤ 9223372036854775807) := lh ⟨hx.a0, hx.a1⟩
 have HBb : Hid (-9223372036854775808 ≤ x.b ∧ x.b ≤ 9223372036854775807) := lh ⟨hx.b0, hx.b1⟩
 have HXU := lh hx.w
 have HL := lh hl
 have HK := lh hK
 clear h hs hb0 ok hlt hx hK
 go_enter Tryz.func58, Tryz.ntmps58
 go_upto_region 1 with fail
 generalize ((w.alloc (.cells #[.int .i64 q.1.old.base, .int .i64 q.1.old.limit, .slice A1 q.1.old.ws.length e1, .int .i64 q.1.yng.base, .int .i64 q.1.yng.limit, .slice A2 q.1.yng.ws.length e2] 32)).alloc (.cells #[.int .i64 4, .int .i64 x.h.k, .int .i64 x.h.c, .int .i64 x.h.f, .int .i64 x.a, .int .i64 x.b, .int .i64 x.i, .int .u64 x.w] 90)).alloc (.cells #[.int .i64 0, .int .i64 0, .slice none 0 0, .int .i64 0, .int .i64 0, .slice none 0 0] 32) = w0 at *
 obtain ⟨bm, hbm⟩ : ∃ bm, bm = w.heap.size := ⟨_, rfl⟩
 obtain ⟨bo, hbo⟩ : ∃ bo, bo = w.heap.size + 1 := ⟨_, rfl⟩
 obtain ⟨bz, hbz⟩ : ∃ bz, bz = w.heap.size + 1 + 1 := ⟨_, rfl⟩
 have HNE : Hid (bm < bo ∧ bo < bz ∧ w.heap.size ≤ bm) := lh ⟨by omega, by omega, by omega⟩
 rw [← hbz] at HQZ
 rw [← hbo] at HQO
 rw [← hbm] at HQM
 rw [← hbz, ← hbo, ← hbm]
 clear hbm hbo hbz
 have cP := fun n a ha => Pick_any (w := w0.drewN n) ((HS.out.below (below_drewN (Below.refl _ w0) n))) HL.out a ha
 have o0 : w0.cell? ⟨bo, 0, none⟩ = some (.int .i64 4) := HQO.out.cell 0
 have o1 : w0.cell? ⟨bo, 1, none⟩ = some (.int .i64 x.h.k) := HQO.out.cell 1
 have o2 : w0.cell? ⟨bo, 2, none⟩ = some (.int .i64 x.h.c) := HQO.out.cell 2
 have o3 : w0.cell? ⟨bo, 3, none⟩ = some (.int .i64 x.h.f) := HQO.out.cell 3
 have o4 : w0.cell? ⟨bo, 4, none⟩ = some (.int .i64 x.a) := HQO.out.cell 4
 have o5 : w0.cell? ⟨bo, 5, none⟩ = some (.int .i64 x.b) := HQO.out.cell 5
 have o6 : w0.cell? ⟨bo, 6, none⟩ = some (.int .i64 x.i) := HQO.out.cell 6
 have o7 : w0.cell? ⟨bo, 7, none⟩ = some (.int .u64 x.w) := HQO.out.cell 7
 go_quiet ((go_at_call 54; exact Calls.quiet_of_same ((cP _ _ (by first | exact HA.out | exact HBb.out)).mono fun _ _ h => ⟨h.1, h.2.symm⟩)))
 clear cP
 obtain ⟨pa, hpa⟩ : ∃ pa, pa = pick1 q.2 x.a := ⟨_, rfl⟩
 obtain ⟨pb, hpb⟩ : ∃ pb, pb = pick1 q.2 x.b := ⟨_, rfl⟩
 have HPA := lh hpa
 have HPB := lh hpb
 rw [← hpa, ← hpb]
 clear hpa hpb
 obtain ⟨er, m2, hr⟩ : ∃ er m2, q.1.toFwd pa pb = (er, m2) := ⟨_, _, rfl⟩
 have HRR : Hid (st1 q x = (m2, q.2)) := lh (by
  unfold st1
  rw [if_neg (show ¬ (x.k = 0) by rw [HK.out]; decide)]
  rw [if_neg (show ¬ (x.k = 1) by rw [HK.out]; decide)]
  rw [if_neg (show ¬ (x.k = 2) by rw [HK.out]; decide)]
  rw [if_neg (show ¬ (x.k = 3) by rw [HK.out]; decide)]
  rw [if_pos HK.out, ← HPA.out, ← HPB.out, hr])
 have HR := lh hr
 clear hr
 have hbq := below_drewN (Below.refl w0.heap.size w0) nq
 replace H := lh (H.out.below hbq)
 replace HS := lh (HS.out.below hbq)
 replace HQM := lh (HQM.out.below hbq HQM.out.lt)
 replace HQO := lh (HQO.out.below hbq HQO.out.lt)
 replace HQZ := lh (HQZ.out.below hbq HQZ.out.lt)
 replace HB := lh (HB.out.trans (hbq.mono HB.out.size))
 clear hbq o0 o1 o2 o3 o4 o5 o6 o7
 generalize w0.drewN nq = wq at *
 have cR := fun {w2 : World} (hb : Below wq.heap.size wq w2) => RToForward_any (H.out.below hb) OK.out pa pb
 simp only [HR.out] at cR
 unfold rmV at cR
 have o0 : wq.cell? ⟨bo, 0, none⟩ = some (.int .i64 4) := HQO.out.cell 0
 have o1 : wq.cell? ⟨bo, 1, none⟩ = some (.int .i64 x.h.k) := HQO.out.cell 1
 have o2 : wq.cell? ⟨bo, 2, none⟩ = some (.int .i64 x.h.c) := HQO.out.cell 2
 have o3 : wq.cell? ⟨bo, 3, none⟩ = some (.int .i64 x.h.f) := HQO.out.cell 3
 have o4 : wq.cell? ⟨bo, 4, none⟩ = some (.int .i64 x.a) := HQO.out.cell 4
 have o5 : wq.cell? ⟨bo, 5, none⟩ = some (.int .i64 x.b) := HQO.out.cell 5
 have o6 : wq.cell? ⟨bo, 6, none⟩ = some (.int .i64 x.i) := HQO.out.cell 6
 have o7 : wq.cell? ⟨bo, 7, none⟩ = some (.int .u64 x.w) := HQO.out.cell 7
 have y0 : wq.cell? ⟨bm, 0, none⟩ = some (.int .i64 q.1.old.base) := HQM.out.cell 0
 have yf0 : wq.frozen? ⟨bm, 0, none⟩ = false := HQM.out.free 0
 have y1 : wq.cell? ⟨bm, 1, none⟩ = some (.int .i64 q.1.old.limit) := HQM.out.cell 1
 have yf1 : wq.frozen? ⟨bm, 1, none⟩ = false := HQM.out.free 1
 have y2 : wq.cell? ⟨bm, 2, none⟩ = some (.slice A1 q.1.old.ws.length e1) := HQM.out.cell 2
 have yf2 : wq.frozen? ⟨bm, 2, none⟩ = false := HQM.out.free 2
 have y3 : wq.cell? ⟨bm, 3, none⟩ = some (.int .i64 q.1.yng.base) := HQM.out.cell 3
 have yf3 : wq.frozen? ⟨bm, 3, none⟩ = false := HQM.out.free 3
 have y4 : wq.cell? ⟨bm, 4, none⟩ = some (.int .i64 q.1.yng.limit) := HQM.out.cell 4
 have yf4 : wq.frozen? ⟨bm, 4, none⟩ = false := HQM.out.free 4
 have y5 : wq.cell? ⟨bm, 5, none⟩ = some (.slice A2 q.1.yng.ws.length e2) := HQM.out.cell 5
 have yf5 : wq.frozen? ⟨bm, 5, none⟩ = false := HQM.out.free 5
 have cR2 := cR (Below.refl _ _)
 clear cR
 go_wp2_with fail
 refine cR2.mono ?_
 rintro e w2 ⟨A3, e3, A4, e4, rfl, hm3, hb1, n1, n2⟩
 unfold rmV
 have HM3 := lh hm3
 have HN := lh (And.intro n1 n2)
 have HB2 := lh hb1
 clear hm3 n1 n2 hb1 cR2
 have HSX := lh (HS.out.below HB2.out)
 have HLX : Hid (∀ b o, A = some ⟨b, o, none⟩ → b < w2.heap.size ∧ b ≠ bm ∧ b ≠ bz) := lh (fun b o e => by have h1 := HLT.out b o e; have h2 := HB.out.size; have h3 := HB2.out.size; have h4 := HNE.out; omega)
 have HNX := lh (Nw.refl w.heap.size A)
 have hq2 := HQM.out.below HB2.out HQM.out.lt
 have hz2 := HQZ.out.below HB2.out HQZ.out.lt
 have HQM2 := lh hq2
 have HQZ2 := lh hz2
 have n0 : w2.cell? ⟨bm, 0, none⟩ = some (.int .i64 q.1.old.base) := hq2.cell 0
 have nf0 : w2.frozen? ⟨bm, 0, none⟩ = false := hq2.free 0
 have n1 : w2.cell? ⟨bm, 1, none⟩ = some (.int .i64 q.1.old.limit) := hq2.cell 1
 have nf1 : w2.frozen? ⟨bm, 1, none⟩ = false := hq2.free 1
 have n2 : w2.cell? ⟨bm, 2, none⟩ = some (.slice A1 q.1.old.ws.length e1) := hq2.cell 2
 have nf2 : w2.frozen? ⟨bm, 2, none⟩ = false := hq2.free 2
 have n3 : w2.cell? ⟨bm, 3, none⟩ = some (.int .i64 q.1.yng.base) := hq2.cell 3
 have nf3 : w2.frozen? ⟨bm, 3, none⟩ = false := hq2.free 3
 have n4 : w2.cell? ⟨bm, 4, none⟩ = some (.int .i64 q.1.yng.limit) := hq2.cell 4
 have nf4 : w2.frozen? ⟨bm, 4, none⟩ = false := hq2.free 4
 have n5 : w2.cell? ⟨bm, 5, none⟩ = some (.slice A2 q.1.yng.ws.length e2) := hq2.cell 5
 have nf5 : w2.frozen? ⟨bm, 5, none⟩ = false := hq2.free 5
 have hzl := hz2.lt
 have hql := hq2.lt
 clear hq2 hz2
 go_upto_region 18 with fail
 have hq4 : Bk (set6 w2 bm (.int .i64 m2.old.base) (.int .i64 m2.old.limit) (.slice A3 m2.old.ws.length e3) (.int .i64 m2.yng.base) (.int .i64 m2.yng.limit) (.slice A4 m2.yng.ws.length e4)) bm 32 #[.int .i64 m2.old.base, .int .i64 m2.old.limit, .slice A3 m2.old.ws.length e3, .int .i64 m2.yng.base, .int .i64 m2.yng.limit, .slice A4 m2.yng.ws.length e4] := HQM2.out.set6a
 have hz4 : Bk (set6 w2 bm (.int .i64 m2.old.base) (.int .i64 m2.old.limit) (.slice A3 m2.old.ws.length e3) (.int .i64 m2.yng.base) (.int .i64 m2.yng.limit) (.slice A4 m2.yng.ws.length e4)) bz 32 #[.int .i64 0, .int .i64 0, .slice none 0 0, .int .i64 0, .int .i64 0, .slice none 0 0] := HQZ2.out.far6a (by have := HNE.out; omega)
 have hm4 : RM (set6 w2 bm (.int .i64 m2.old.base) (.int .i64 m2.old.limit) (.slice A3 m2.old.ws.length e3) (.int .i64 m2.yng.base) (.int .i64 m2.yng.limit) (.slice A4 m2.yng.ws.length e4)) m2 A3 e3 A4 e4 := HM3.out.set6a HQM2.out rfl
 have hs4 : IS (set6 w2 bm (.int .i64 m2.old.base) (.int .i64 m2.old.limit) (.slice A3 m2.old.ws.length e3) (.int .i64 m2.yng.base) (.int .i64 m2.yng.limit) (.slice A4 m2.yng.ws.length e4)) q.2 A c := HSX.out.set6a fun b o e => (HLX.out b o e).2.1
 have hb4 : Below w.heap.size w (set6 w2 bm (.int .i64 m2.old.base) (.int .i64 m2.old.limit) (.slice A3 m2.old.ws.length e3) (.int .i64 m2.yng.base) (.int .i64 m2.yng.limit) (.slice A4 m2.yng.ws.length e4)) := below_set6a (HB.out.trans (HB2.out.mono HB.out.size)) HNE.out.2.2
 have hsz : w2.heap.size ≤ (set6 w2 bm (.int .i64 m2.old.base) (.int .i64 m2.old.limit) (.slice A3 m2.old.ws.length e3) (.int .i64 m2.yng.base) (.int .i64 m2.yng.limit) (.slice A4 m2.yng.ws.length e4)).heap.size := by rw [size_set6a]; exact Nat.le_refl _
 obtain ⟨w4, hw4⟩ : ∃ w4, set6 w2 bm (.int .i64 m2.old.base) (.int .i64 m2.old.limit) (.slice A3 m2.old.ws.length e3) (.int .i64 m2.yng.base) (.int .i64 m2.yng.limit) (.slice A4 m2.yng.ws.length e4) = w4 := ⟨_, rfl⟩
 rw [hw4] at hq4 hz4 hm4 hs4 hb4 hsz
 change (set6 w2 bm (.int .i64 m2.old.base) (.int .i64 m2.old.limit) (.slice A3 m2.old.ws.length e3) (.int .i64 m2.yng.base) (.int .i64 m2.yng.limit) (.slice A4 m2.yng.ws.length e4)) = w4 at hw4
 unfold set6 at hw4
 try rw [hw4]
 try simp only [hw4]
 have HM4 := lh hm4
 have HS4 := lh hs4
 have HB4 := lh hb4
 have HZ4 := lh hz4
 have HSZ := lh hsz
 have a0 : w4.cell? ⟨bm, 0, none⟩ = some (.int .i64 m2.old.base) := hq4.cell 0
 have a1 : w4.cell? ⟨bm, 1, none⟩ = some (.int .i64 m2.old.limit) := hq4.cell 1
 have a2 : w4.cell? ⟨bm, 2, none⟩ = some (.slice A3 m2.old.ws.length e3) := hq4.cell 2
 have a3 : w4.cell? ⟨bm, 3, none⟩ = some (.int .i64 m2.yng.base) := hq4.cell 3
 have a4 : w4.cell? ⟨bm, 4, none⟩ = some (.int .i64 m2.yng.limit) := hq4.cell 4
 have a5 : w4.cell? ⟨bm, 5, none⟩ = some (.slice A4 m2.yng.ws.length e4) := hq4.cell 5
 have z0 : w4.cell? ⟨bz, 0, none⟩ = some (.int .i64 0) := hz4.cell 0
 have zf0 : w4.frozen? ⟨bz, 0, none⟩ = false := hz4.free 0
 have z1 : w4.cell? ⟨bz, 1, none⟩ = some (.int .i64 0) := hz4.cell 1
 have zf1 : w4.frozen? ⟨bz, 1, none⟩ = false := hz4.free 1
 have z2 : w4.cell? ⟨bz, 2, none⟩ = some (.slice none 0 0) := hz4.cell 2
 have zf2 : w4.frozen? ⟨bz, 2, none⟩ = false := hz4.free 2
 have z3 : w4.cell? ⟨bz, 3, none⟩ = some (.int .i64 0) := hz4.cell 3
 have zf3 : w4.frozen? ⟨bz, 3, none⟩ = false := hz4.free 3
 have z4 : w4.cell? ⟨bz, 4, none⟩ = some (.int .i64 0) := hz4.cell 4
 have zf4 : w4.frozen? ⟨bz, 4, none⟩ = false := hz4.free 4
 have z5 : w4.cell? ⟨bz, 5, none⟩ = some (.slice none 0 0) := hz4.cell 5
 have zf5 : w4.frozen? ⟨bz, 5, none⟩ = false := hz4.free 5
 clear n0 nf0 n1 nf1 n2 nf2 n3 nf3 n4 nf4 n5 nf5 hq4 hz4 hm4 hs4 hb4 hw4 hsz
 go_wp2_with fail
 rw [HRR.out]
 refine bodyPost_ret (v := .tuple #[.agg #[.int .i64 m2.old.base, .int .i64 m2.old.limit, .slice A3 m2.old.ws.length e3, .int .i64 m2.yng.base, .int .i64 m2.yng.limit, .slice A4 m2.yng.ws.length e4], .slice A q.2.length c]) (by simp [results, Tryz.results58, go_sem, z0, z1, z2, z3, z4, z5]) rfl ?_
 exact ⟨A3, e3, A4, e4, A, c, rfl, HM4.out.set6a HZ4.out rfl, HS4.out.set6a fun b o e => (HLX.out b o e).2.2, fun b o e => by have h1 := (HLX.out b o e).1; have h2 := HSZ.out; simp only [size_set6a]; omega, HN.out.1.mono HB.out.size, HN.out.2.mono HB.out.size, HNX.out, below_set6a HB4.out (by have := HNE.out; omega)⟩
set_option maxHeartbeats 4000000 in
theorem step1_o (h : RM w q.1 A1 e1 A2 e2) (ok : q.1.Ok) (hs : IS w q.2 A c) (hlt : ∀ b o, A = some ⟨b, o, none⟩ → b < w.heap.size) (hl : q.2.length ≤ 1000000) (x : Op1) (hx : x.Ok) (h0 : ¬ (0 ≤ x.k ∧ x.k ≤ 4)) : Calls Tryz.prog 58 #[.agg #[.int .i64 q.1.old.base, .int .i64 q.1.old.limit, .slice A1 q.1.old.ws.length e1, .int .i64 q.1.yng.base, .int .i64 q.1.yng.limit, .slice A2 q.1.yng.ws.length e2], .slice A q.2.length c, .agg #[.int .i64 x.k, .int .i64 x.h.k, .int .i64 x.h.c, .int .i64 x.h.f, .int .i64 x.a, .int .i64 x.b, .int .i64 x.i, .int .u64 x.w]] w (StP1 w A1 A2 A (st1 q x)) := by
 have hb0 : Below w.heap.size w (((w.alloc (.cells #[.int .i64 q.1.old.base, .int .i64 q.1.old.limit, .slice A1 q.1.old.ws.length e1, .int .i64 q.1.yng.base, .int .i64 q.1.yng.limit, .slice A2 q.1.yng.ws.length e2] 32)).alloc (.cells #[.int .i64 x.k, .int .i64 x.h.k, .int .i64 x.h.c, .int .i64 x.h.f, .int .i64 x.a, .int .i64 x.b, .int .i64 x.i, .int .u64 x.w] 90)).alloc (.cells #[.int .i64 0, .int .i64 0, .slice none 0 0, .int .i64 0, .int .i64 0, .slice none 0 0] 32)) := (((Below.refl _ w).alloc (Nat.le_refl _) _).alloc (by simp) _).alloc (by simp; omega) _
 have HQM : Hid (Bk (((w.alloc (.cells #[.int .i64 q.1.old.base, .int .i64 q.1.old.limit, .slice A1 q.1.old.ws.length e1, .int .i64 q.1.yng.base, .int .i64 q.1.yng.limit, .slice A2 q.1.yng.ws.length e2] 32)).alloc (.cells #[.int .i64 x.k, .int .i64 x.h.k, .int .i64 x.h.c, .int .i64 x.h.f, .int .i64 x.a, .int .i64 x.b, .int .i64 x.i, .int .u64 x.w] 90)).alloc (.cells #[.int .i64 0, .int .i64 0, .slice none 0 0, .int .i64 0, .int .i64 0, .slice none 0 0] 32)) w.heap.size 32 #[.int .i64 q.1.old.base, .int .i64 q.1.old.limit, .slice A1 q.1.old.ws.length e1, .int .i64 q.1.yng.base, .int .i64 q.1.yng.limit, .slice A2 q.1.yng.ws.length e2]) := lh (((Bk.new _ _ _).alloc _).alloc _)
 have HQO : Hid (Bk (((w.alloc (.cells #[.int .i64 q.1.old.base, .int .i64 q.1.old.limit, .slice A1 q.1.old.ws.length e1, .int .i64 q.1.yng.base, .int .i64 q.1.yng.limit, .slice A2 q.1.yng.ws.length e2] 32)).alloc (.cells #[.int .i64 x.k, .int .i64 x.h.k, .int .i64 x.h.c, .int .i64 x.h.f, .int .i64 x.a, .int .i64 x.b, .int .i64 x.i, .int .u64 x.w] 90)).alloc (.cells #[.int .i64 0, .int .i64 0, .slice none 0 0, .int .i64 0, .int .i64 0, .slice none 0 0] 32)) (w.heap.size + 1) 90 #[.int .i64 x.k, .int .i64 x.h.k, .int .i64 x.h.c, .int .i64 x.h.f, .int .i64 x.a, .int .i64 x.b, .int .i64 x.i, .int .u64 x.w]) := lh (Bk.alloc (Bk.here _ _ _ (by simp)) _)
 have HQZ : Hid (Bk (((w.alloc (.cells #[.int .i64 q.1.old.base, .int .i64 q.1.old.limit, .slice A1 q.1.old.ws.length e1, .int .i64 q.1.yng.base, .int .i64 q.1.yng.limit, .slice A2 q.1.yng.ws.length e2] 32)).alloc (.cells #[.int .i64 x.k, .int .i64 x.h.k, .int .i64 x.h.c, .int .i64 x.h.f, .int .i64 x.a, .int .i64 x.b, .int .i64 x.i, .int .u64 x.w] 90)).alloc (.cells #[.int .i64 0, .int .i64 0, .slice none 0 0, .int .i64 0, .int .i64 0, .slice none 0 0] 32)) (w.heap.size + 1 + 1) 32 #[.int .i64 0, .int .i64 0, .slice none 0 0, .int .i64 0, .int .i64 0, .slice none 0 0]) := lh (Bk.here _ _ _ (by simp))
 have H := lh (h.below hb0)
 have HS := lh (hs.below hb0)
 have HB := lh hb0
 have OK := lh ok
 have HLT := lh hlt
 have HA : Hid (-9223372036854775808 ≤ x.a ∧ x.a ≤ 9223372036854775807) := lh ⟨hx.a0, hx.a1⟩
 have HBb : Hid (-9223372036854775808 ≤ x.b ∧ x.b ≤ 9223372036854775807) := lh ⟨hx.b0, hx.b1⟩
 have HXU := lh hx.w
 have HL := lh hl
 clear h hs hb0 ok hlt hx
 go_enter Tryz.func58, Tryz.ntmps58
 go_upto_region 1 with fail
 generalize ((w.alloc (.cells #[.int .i64 q.1.old.base, .int .i64 q.1.old.limit, .slice A1 q.1.old.ws.length e1, .int .i64 q.1.yng.base, .int .i64 q.1.yng.limit, .slice A2 q.1.yng.ws.length e2] 32)).alloc (.cells #[.int .i64 x.k, .int .i64 x.h.k, .int .i64 x.h.c, .int .i64 x.h.f, .int .i64 x.a, .int .i64 x.b, .int .i64 x.i, .int .u64 x.w] 90)).alloc (.cells #[.int .i64 0, .int .i64 0, .slice none 0 0, .int .i64 0, .int .i64 0, .slice none 0 0] 32) = w0 at *
 obtain ⟨bm, hbm⟩ : ∃ bm, bm = w.heap.size := ⟨_, rfl⟩
 obtain ⟨bo, hbo⟩ : ∃ bo, bo = w.heap.size + 1 := ⟨_, rfl⟩
 obtain ⟨bz, hbz⟩ : ∃ bz, bz = w.heap.size + 1 + 1 := ⟨_, rfl⟩
 have HNE : Hid (bm < bo ∧ bo < bz ∧ w.heap.size ≤ bm) := lh ⟨by omega, by omega, by omega⟩
 rw [← hbz] at HQZ
 rw [← hbo] at HQO
 rw [← hbm] at HQM
 rw [← hbz, ← hbo, ← hbm]
 clear hbm hbo hbz
 have cP := fun n a ha => Pick_any (w := w0.drewN n) ((HS.out.below (below_drewN (Below.refl _ w0) n))) HL.out a ha
 have o0 : w0.cell? ⟨bo, 0, none⟩ = some (.int .i64 x.k) := HQO.out.cell 0
 have o1 : w0.cell? ⟨bo, 1, none⟩ = some (.int .i64 x.h.k) := HQO.out.cell 1
 have o2 : w0.cell? ⟨bo, 2, none⟩ = some (.int .i64 x.h.c) := HQO.out.cell 2
 have o3 : w0.cell? ⟨bo, 3, none⟩ = some (.int .i64 x.h.f) := HQO.out.cell 3
 have o4 : w0.cell? ⟨bo, 4, none⟩ = some (.int .i64 x.a) := HQO.out.cell 4
 have o5 : w0.cell? ⟨bo, 5, none⟩ = some (.int .i64 x.b) := HQO.out.cell 5
 have o6 : w0.cell? ⟨bo, 6, none⟩ = some (.int .i64 x.i) := HQO.out.cell 6
 have o7 : w0.cell? ⟨bo, 7, none⟩ = some (.int .u64 x.w) := HQO.out.cell 7
 go_quiet ((go_at_call 54; exact Calls.quiet_of_same ((cP _ _ (by first | exact HA.out | exact HBb.out)).mono fun _ _ h => ⟨h.1, h.2.symm⟩)))
 clear cP
 have HRR : Hid (st1 q x = q) := lh (by
  unfold st1
  rw [if_neg (by omega)]
  rw [if_neg (by omega)]
  rw [if_neg (by omega)]
  rw [if_neg (by omega)]
  rw [if_neg (by omega)]
  )
 have k0 : (x.k == 0) = false := by simp; omega
 have k1 : (x.k == 1) = false := by simp; omega
 have k2 : (x.k == 2) = false := by simp; omega
 have k3 : (x.k == 3) = false := by simp; omega
 have k4 : (x.k == 4) = false := by simp; omega
 clear h0
 have hbq := below_drewN (Below.refl w0.heap.size w0) nq
 replace H := lh (H.out.below hbq)
 replace HS := lh (HS.out.below hbq)
 replace HQM := lh (HQM.out.below hbq HQM.out.lt)
 replace HQO := lh (HQO.out.below hbq HQO.out.lt)
 replace HQZ := lh (HQZ.out.below hbq HQZ.out.lt)
 replace HB := lh (HB.out.trans (hbq.mono HB.out.size))
 clear hbq o0 o1 o2 o3 o4 o5 o6 o7
 generalize w0.drewN nq = wq at *
 have o0 : wq.cell? ⟨bo, 0, none⟩ = some (.int .i64 x.k) := HQO.out.cell 0
 have o1 : wq.cell? ⟨bo, 1, none⟩ = some (.int .i64 x.h.k) := HQO.out.cell 1
 have o2 : wq.cell? ⟨bo, 2, none⟩ = some (.int .i64 x.h.c) := HQO.out.cell 2
 have o3 : wq.cell? ⟨bo, 3, none⟩ = some (.int .i64 x.h.f) := HQO.out.cell 3
 have o4 : wq.cell? ⟨bo, 4, none⟩ = some (.int .i64 x.a) := HQO.out.cell 4
 have o5 : wq.cell? ⟨bo, 5, none⟩ = some (.int .i64 x.b) := HQO.out.cell 5
 have o6 : wq.cell? ⟨bo, 6, none⟩ = some (.int .i64 x.i) := HQO.out.cell 6
 have o7 : wq.cell? ⟨bo, 7, none⟩ = some (.int .u64 x.w) := HQO.out.cell 7
 have y0 : wq.cell? ⟨bm, 0, none⟩ = some (.int .i64 q.1.old.base) := HQM.out.cell 0
 have y1 : wq.cell? ⟨bm, 1, none⟩ = some (.int .i64 q.1.old.limit) := HQM.out.cell 1
 have y2 : wq.cell? ⟨bm, 2, none⟩ = some (.slice A1 q.1.old.ws.length e1) := HQM.out.cell 2
 have y3 : wq.cell? ⟨bm, 3, none⟩ = some (.int .i64 q.1.yng.base) := HQM.out.cell 3
 have y4 : wq.cell? ⟨bm, 4, none⟩ = some (.int .i64 q.1.yng.limit) := HQM.out.cell 4
 have y5 : wq.cell? ⟨bm, 5, none⟩ = some (.slice A2 q.1.yng.ws.length e2) := HQM.out.cell 5
 have z0 : wq.cell? ⟨bz, 0, none⟩ = some (.int .i64 0) := HQZ.out.cell 0
 have zf0 : wq.frozen? ⟨bz, 0, none⟩ = false := HQZ.out.free 0
 have z1 : wq.cell? ⟨bz, 1, none⟩ = some (.int .i64 0) := HQZ.out.cell 1
 have zf1 : wq.frozen? ⟨bz, 1, none⟩ = false := HQZ.out.free 1
 have z2 : wq.cell? ⟨bz, 2, none⟩ = some (.slice none 0 0) := HQZ.out.cell 2
 have zf2 : wq.frozen? ⟨bz, 2, none⟩ = false := HQZ.out.free 2
 have z3 : wq.cell? ⟨bz, 3, none⟩ = some (.int .i64 0) := HQZ.out.cell 3
 have zf3 : wq.frozen? ⟨bz, 3, none⟩ = false := HQZ.out.free 3
 have z4 : wq.cell? ⟨bz, 4, none⟩ = some (.int .i64 0) := HQZ.out.cell 4
 have zf4 : wq.frozen? ⟨bz, 4, none⟩ = false := HQZ.out.free 4
 have z5 : wq.cell? ⟨bz, 5, none⟩ = some (.slice none 0 0) := HQZ.out.cell 5
 have zf5 : wq.frozen? ⟨bz, 5, none⟩ = false := HQZ.out.free 5
 go_upto_region 18 with fail
 go_wp2_with fail
 rw [HRR.out]
 refine bodyPost_ret (v := .tuple #[.agg #[.int .i64 q.1.old.base, .int .i64 q.1.old.limit, .slice A1 q.1.old.ws.length e1, .int .i64 q.1.yng.base, .int .i64 q.1.yng.limit, .slice A2 q.1.yng.ws.length e2], .slice A q.2.length c]) (by simp [results, Tryz.results58, go_sem, z0, z1, z2, z3, z4, z5]) rfl ?_
 exact ⟨A1, e1, A2, e2, A, c, rfl, H.out.set6a HQZ.out rfl, HS.out.set6a fun b o e => by have h1 := HLT.out b o e; have h4 := HNE.out; omega, fun b o e => by have h1 := HLT.out b o e; have h2 := HB.out.size; simp only [size_set6a]; omega, Nw.refl _ _, Nw.refl _ _, Nw.refl _ _, below_set6a HB.out (by have := HNE.out; omega)⟩
set_option maxHeartbeats 4000000 in
theorem step1_f (h : RM w q.1 A1 e1 A2 e2) (ok : q.1.Ok) (hs : IS w q.2 A c) (hlt : ∀ b o, A = some ⟨b, o, none⟩ → b < w.heap.size) (hl : q.2.length ≤ 1000000) (x : Op1) (hx : x.Ok) (hK : x.k = 0) : Calls Tryz.prog 58 #[.agg #[.int .i64 q.1.old.base, .int .i64 q.1.old.limit, .slice A1 q.1.old.ws.length e1, .int .i64 q.1.yng.base, .int .i64 q.1.yng.limit, .slice A2 q.1.yng.ws.length e2], .slice A q.2.length c, .agg #[.int .i64 0, .int .i64 x.h.k, .int .i64 x.h.c, .int .i64 x.h.f, .int .i64 x.a, .int .i64 x.b, .int .i64 x.i, .int .u64 x.w]] w (StP1 w A1 A2 A (st1 q x)) := by
 have hb0 : Below w.heap.size w (((w.alloc (.cells #[.int .i64 q.1.old.base, .int .i64 q.1.old.limit, .slice A1 q.1.old.ws.length e1, .int .i64 q.1.yng.base, .int .i64 q.1.yng.limit, .slice A2 q.1.yng.ws.length e2] 32)).alloc (.cells #[.int .i64 0, .int .i64 x.h.k, .int .i64 x.h.c, .int .i64 x.h.f, .int .i64 x.a, .int .i64 x.b, .int .i64 x.i, .int .u64 x.w] 90)).alloc (.cells #[.int .i64 0, .int .i64 0, .slice none 0 0, .int .i64 0, .int .i64 0, .slice none 0 0] 32)) := (((Below.refl _ w).alloc (Nat.le_refl _) _).alloc (by simp) _).alloc (by simp; omega) _
 have HQM : Hid (Bk (((w.alloc (.cells #[.int .i64 q.1.old.base, .int .i64 q.1.old.limit, .slice A1 q.1.old.ws.length e1, .int .i64 q.1.yng.base, .int .i64 q.1.yng.limit, .slice A2 q.1.yng.ws.length e2] 32)).alloc (.cells #[.int .i64 0, .int .i64 x.h.k, .int .i64 x.h.c, .int .i64 x.h.f, .int .i64 x.a, .int .i64 x.b, .int .i64 x.i, .int .u64 x.w] 90)).alloc (.cells #[.int .i64 0, .int .i64 0, .slice none 0 0, .int .i64 0, .int .i64 0, .slice none 0 0] 32)) w.heap.size 32 #[.int .i64 q.1.old.base, .int .i64 q.1.old.limit, .slice A1 q.1.old.ws.length e1, .int .i64 q.1.yng.base, .int .i64 q.1.yng.limit, .slice A2 q.1.yng.ws.length e2]) := lh (((Bk.new _ _ _).alloc _).alloc _)
 have HQO : Hid (Bk (((w.alloc (.cells #[.int .i64 q.1.old.base, .int .i64 q.1.old.limit, .slice A1 q.1.old.ws.length e1, .int .i64 q.1.yng.base, .int .i64 q.1.yng.limit, .slice A2 q.1.yng.ws.length e2] 32)).alloc (.cells #[.int .i64 0, .int .i64 x.h.k, .int .i64 x.h.c, .int .i64 x.h.f, .int .i64 x.a, .int .i64 x.b, .int .i64 x.i, .int .u64 x.w] 90)).alloc (.cells #[.int .i64 0, .int .i64 0, .slice none 0 0, .int .i64 0, .int .i64 0, .slice none 0 0] 32)) (w.heap.size + 1) 90 #[.int .i64 0, .int .i64 x.h.k, .int .i64 x.h.c, .int .i64 x.h.f, .int .i64 x.a, .int .i64 x.b, .int .i64 x.i, .int .u64 x.w]) := lh (Bk.alloc (Bk.here _ _ _ (by simp)) _)
 have HQZ : Hid (Bk (((w.alloc (.cells #[.int .i64 q.1.old.base, .int .i64 q.1.old.limit, .slice A1 q.1.old.ws.length e1, .int .i64 q.1.yng.base, .int .i64 q.1.yng.limit, .slice A2 q.1.yng.ws.length e2] 32)).alloc (.cells #[.int .i64 0, .int .i64 x.h.k, .int .i64 x.h.c, .int .i64 x.h.f, .int .i64 x.a, .int .i64 x.b, .int .i64 x.i, .int .u64 x.w] 90)).alloc (.cells #[.int .i64 0, .int .i64 0, .slice none 0 0, .int .i64 0, .int .i64 0, .slice none 0 0] 32)) (w.heap.size + 1 + 1) 32 #[.int .i64 0, .int .i64 0, .slice none 0 0, .int .i64 0, .int .i64 0, .slice none 0 0]) := lh (Bk.here _ _ _ (by simp))
 have H := lh (h.below hb0)
 have HS := lh (hs.below hb0)
 have HB := lh hb0
 have OK := lh ok
 have HLT := lh hlt
 have HA : Hid (-9223372036854775808 ≤ x.a ∧ x.a ≤ 9223372036854775807) := lh ⟨hx.a0, hx.a1⟩
 have HBb : Hid (-9223372036854775808 ≤ x.b ∧ x.b ≤ 9223372036854775807) := lh ⟨hx.b0, hx.b1⟩
 have HXU := lh hx.w
 have HL := lh hl
 have HK := lh hK
 clear h hs hb0 ok hlt hx hK
 go_enter Tryz.func58, Tryz.ntmps58
 go_upto_region 1 with fail
 generalize ((w.alloc (.cells #[.int .i64 q.1.old.base, .int .i64 q.1.old.limit, .slice A1 q.1.old.ws.length e1, .int .i64 q.1.yng.base, .int .i64 q.1.yng.limit, .slice A2 q.1.yng.ws.length e2] 32)).alloc (.cells #[.int .i64 0, .int .i64 x.h.k, .int .i64 x.h.c, .int .i64 x.h.f, .int .i64 x.a, .int .i64 x.b, .int .i64 x.i, .int .u64 x.w] 90)).alloc (.cells #[.int .i64 0, .int .i64 0, .slice none 0 0, .int .i64 0, .int .i64 0, .slice none 0 0] 32) = w0 at *
 obtain ⟨bm, hbm⟩ : ∃ bm, bm = w.heap.size := ⟨_, rfl⟩
 obtain ⟨bo, hbo⟩ : ∃ bo, bo = w.heap.size + 1 := ⟨_, rfl⟩
 obtain ⟨bz, hbz⟩ : ∃ bz, bz = w.heap.size + 1 + 1 := ⟨_, rfl⟩
 have HNE : Hid (bm < bo ∧ bo < bz ∧ w.heap.size ≤ bm) := lh ⟨by omega, by omega, by omega⟩
 rw [← hbz] at HQZ
 rw [← hbo] at HQO
 rw [← hbm] at HQM
 rw [← hbz, ← hbo, ← hbm]
 clear hbm hbo hbz
 have cP := fun n a ha => Pick_any (w := w0.drewN n) ((HS.out.below (below_drewN (Below.refl _ w0) n))) HL.out a ha
 have o0 : w0.cell? ⟨bo, 0, none⟩ = some (.int .i64 0) := HQO.out.cell 0
 have o1 : w0.cell? ⟨bo, 1, none⟩ = some (.int .i64 x.h.k) := HQO.out.cell 1
 have o2 : w0.cell? ⟨bo, 2, none⟩ = some (.int .i64 x.h.c) := HQO.out.cell 2
 have o3 : w0.cell? ⟨bo, 3, none⟩ = some (.int .i64 x.h.f) := HQO.out.cell 3
 have o4 : w0.cell? ⟨bo, 4, none⟩ = some (.int .i64 x.a) := HQO.out.cell 4
 have o5 : w0.cell? ⟨bo, 5, none⟩ = some (.int .i64 x.b) := HQO.out.cell 5
 have o6 : w0.cell? ⟨bo, 6, none⟩ = some (.int .i64 x.i) := HQO.out.cell 6
 have o7 : w0.cell? ⟨bo, 7, none⟩ = some (.int .u64 x.w) := HQO.out.cell 7
 go_quiet ((go_at_call 54; exact Calls.quiet_of_same ((cP _ _ (by first | exact HA.out | exact HBb.out)).mono fun _ _ h => ⟨h.1, h.2.symm⟩)))
 clear cP
 have HRR : x.h.k = 4 → Hid (st1 q x = q) := fun e => lh (by unfold st1; rw [if_pos HK.out, if_pos e])
 have hbq := below_drewN (Below.refl w0.heap.size w0) nq
 replace H := lh (H.out.below hbq)
 replace HS := lh (HS.out.below hbq)
 replace HQM := lh (HQM.out.below hbq HQM.out.lt)
 replace HQO := lh (HQO.out.below hbq HQO.out.lt)
 replace HQZ := lh (HQZ.out.below hbq HQZ.out.lt)
 replace HB := lh (HB.out.trans (hbq.mono HB.out.size))
 clear hbq o0 o1 o2 o3 o4 o5 o6 o7
 generalize w0.drewN nq = wq at *
 have o0 : wq.cell? ⟨bo, 0, none⟩ = some (.int .i64 0) := HQO.out.cell 0
 have o1 : wq.cell? ⟨bo, 1, none⟩ = some (.int .i64 x.h.k) := HQO.out.cell 1
 have o2 : wq.cell? ⟨bo, 2, none⟩ = some (.int .i64 x.h.c) := HQO.out.cell 2
 have o3 : wq.cell? ⟨bo, 3, none⟩ = some (.int .i64 x.h.f) := HQO.out.cell 3
 have o4 : wq.cell? ⟨bo, 4, none⟩ = some (.int .i64 x.a) := HQO.out.cell 4
 have o5 : wq.cell? ⟨bo, 5, none⟩ = some (.int .i64 x.b) := HQO.out.cell 5
 have o6 : wq.cell? ⟨bo, 6, none⟩ = some (.int .i64 x.i) := HQO.out.cell 6
 have o7 : wq.cell? ⟨bo, 7, none⟩ = some (.int .u64 x.w) := HQO.out.cell 7
 by_cases hf : x.h.k = 4
 ·have HRR := HRR hf
  have e4 : (x.h.k == 4) = true := by simp [hf]
  clear hf
  have y0 : wq.cell? ⟨bm, 0, none⟩ = some (.int .i64 q.1.old.base) := HQM.out.cell 0
  have y1 : wq.cell? ⟨bm, 1, none⟩ = some (.int .i64 q.1.old.limit) := HQM.out.cell 1
  have y2 : wq.cell? ⟨bm, 2, none⟩ = some (.slice A1 q.1.old.ws.length e1) := HQM.out.cell 2
  have y3 : wq.cell? ⟨bm, 3, none⟩ = some (.int .i64 q.1.yng.base) := HQM.out.cell 3
  have y4 : wq.cell? ⟨bm, 4, none⟩ = some (.int .i64 q.1.yng.limit) := HQM.out.cell 4
  have y5 : wq.cell? ⟨bm, 5, none⟩ = some (.slice A2 q.1.yng.ws.length e2) := HQM.out.cell 5
  have z0 : wq.cell? ⟨bz, 0, none⟩ = some (.int .i64 0) := HQZ.out.cell 0
  have zf0 : wq.frozen? ⟨bz, 0, none⟩ = false := HQZ.out.free 0
  have z1 : wq.cell? ⟨bz, 1, none⟩ = some (.int .i64 0) := HQZ.out.cell 1
  have zf1 : wq.frozen? ⟨bz, 1, none⟩ = false := HQZ.out.free 1
  have z2 : wq.cell? ⟨bz, 2, none⟩ = some (.slice none 0 0) := HQZ.out.cell 2
  have zf2 : wq.frozen? ⟨bz, 2, none⟩ = false := HQZ.out.free 2
  have z3 : wq.cell? ⟨bz, 3, none⟩ = some (.int .i64 0) := HQZ.out.cell 3
  have zf3 : wq.frozen? ⟨bz, 3, none⟩ = false := HQZ.out.free 3
  have z4 : wq.cell? ⟨bz, 4, none⟩ = some (.int .i64 0) := HQZ.out.cell 4
  have zf4 : wq.frozen? ⟨bz, 4, none⟩ = false := HQZ.out.free 4
  have z5 : wq.cell? ⟨bz, 5, none⟩ = some (.slice none 0 0) := HQZ.out.cell 5
  have zf5 : wq.frozen? ⟨bz, 5, none⟩ = false := HQZ.out.free 5
  go_wp2_with fail
  rw [HRR.out]
  refine bodyPost_ret (v := .tuple #[.agg #[.int .i64 q.1.old.base, .int .i64 q.1.old.limit, .slice A1 q.1.old.ws.length e1, .int .i64 q.1.yng.base, .int .i64 q.1.yng.limit, .slice A2 q.1.yng.ws.length e2], .slice A q.2.length c]) (by simp [results, Tryz.results58, go_sem, z0, z1, z2, z3, z4, z5]) rfl ?_
  exact ⟨A1, e1, A2, e2, A, c, rfl, H.out.set6a HQZ.out rfl, HS.out.set6a fun b o e => by have h1 := HLT.out b o e; have h4 := HNE.out; omega, fun b o e => by have h1 := HLT.out b o e; have h2 := HB.out.size; simp only [size_set6a]; omega, Nw.refl _ _, Nw.refl _ _, Nw.refl _ _, below_set6a HB.out (by have := HNE.out; omega)⟩
 ·clear HRR
  have e4 : (x.h.k == 4) = false := by simp [hf]
  obtain ⟨⟨er, m2, ad⟩, hr⟩ : ∃ r, q.1.alloc false x.h ⟨1, q.2.length + 1⟩ = r := ⟨_, rfl⟩
  have HR1 : Hid (st1 q x = (m2, if er = 0 then q.2 ++ [ad] else q.2)) := lh (by unfold st1; rw [if_pos HK.out, if_neg hf, hr])
  have cR := RMAlloc_any H.out false x.h ⟨1, q.2.length + 1⟩
  rw [hr] at cR
  unfold rmV Hdr.val Id.val at cR
  clear hr hf
  have y0 : wq.cell? ⟨bm, 0, none⟩ = some (.int .i64 q.1.old.base) := HQM.out.cell 0
  have y1 : wq.cell? ⟨bm, 1, none⟩ = some (.int .i64 q.1.old.limit) := HQM.out.cell 1
  have y2 : wq.cell? ⟨bm, 2, none⟩ = some (.slice A1 q.1.old.ws.length e1) := HQM.out.cell 2
  have y3 : wq.cell? ⟨bm, 3, none⟩ = some (.int .i64 q.1.yng.base) := HQM.out.cell 3
  have y4 : wq.cell? ⟨bm, 4, none⟩ = some (.int .i64 q.1.yng.limit) := HQM.out.cell 4
  have y5 : wq.cell? ⟨bm, 5, none⟩ = some (.slice A2 q.1.yng.ws.length e2) := HQM.out.cell 5
  go_wp2_with fail
  refine cR.mono ?_
  rintro e w9 ⟨A3, e3, A4, e4, rfl, hm3, hb1, n1, n2⟩
  unfold rmV
  go_upto_region 7 with fail
  have hbl : Below w9.heap.size w9 (w9.alloc (.cells #[.int .i64 m2.old.base, .int .i64 m2.old.limit, .slice A3 m2.old.ws.length e3, .int .i64 m2.yng.base, .int .i64 m2.yng.limit, .slice A4 m2.yng.ws.length e4] 32)) := (Below.refl _ _).alloc (Nat.le_refl _) _
  have HBX : Hid (Bk (w9.alloc (.cells #[.int .i64 m2.old.base, .int .i64 m2.old.limit, .slice A3 m2.old.ws.length e3, .int .i64 m2.yng.base, .int .i64 m2.yng.limit, .slice A4 m2.yng.ws.length e4] 32)) w9.heap.size 32 #[.int .i64 m2.old.base, .int .i64 m2.old.limit, .slice A3 m2.old.ws.length e3, .int .i64 m2.yng.base, .int .i64 m2.yng.limit, .slice A4 m2.yng.ws.length e4]) := lh (Bk.new _ _ _)
  have HM3 := lh (hm3.below hbl)
  have HN := lh (And.intro n1 n2)
  have HB2 := lh (hb1.trans (hbl.mono hb1.size))
  have HXN : Hid (bm < w9.heap.size ∧ bz < w9.heap.size) := lh ⟨Nat.lt_of_lt_of_le HQM.out.lt hb1.size, Nat.lt_of_lt_of_le HQZ.out.lt hb1.size⟩
  clear hm3 n1 n2 hb1 cR hbl
  generalize w9.alloc (.cells #[.int .i64 m2.old.base, .int .i64 m2.old.limit, .slice A3 m2.old.ws.length e3, .int .i64 m2.yng.base, .int .i64 m2.yng.limit, .slice A4 m2.yng.ws.length e4] 32) = w2 at *
  generalize w9.heap.size = bx at *
  have x0 : w2.cell? ⟨bx, 0, none⟩ = some (.int .i64 m2.old.base) := HBX.out.cell 0
  have x1 : w2.cell? ⟨bx, 1, none⟩ = some (.int .i64 m2.old.limit) := HBX.out.cell 1
  have x2 : w2.cell? ⟨bx, 2, none⟩ = some (.slice A3 m2.old.ws.length e3) := HBX.out.cell 2
  have x3 : w2.cell? ⟨bx, 3, none⟩ = some (.int .i64 m2.yng.base) := HBX.out.cell 3
  have x4 : w2.cell? ⟨bx, 4, none⟩ = some (.int .i64 m2.yng.limit) := HBX.out.cell 4
  have x5 : w2.cell? ⟨bx, 5, none⟩ = some (.slice A4 m2.yng.ws.length e4) := HBX.out.cell 5
  by_cases he : er = 0
  ·subst he
   have HRR : Hid (st1 q x = (m2, q.2 ++ [ad])) := lh (by rw [HR1.out, if_pos rfl])
   have HSX0 := lh (HS.out.below HB2.out)
   obtain ⟨i0, hi, hz0, hz1, hz2⟩ := info_parts Tryz.infoI1
   have HI := lh (And.intro hi (And.intro hz0 (And.intro hz1 hz2)))
   have hll : q.2.length ≤ 1000000 := HL.out
   clear hi hz0 hz1 hz2
   go_upto_region 9 with (first | (at_builtin; refine wpList_app (base := w2.heap.size) rfl (.tmp 45) (.tmp 46) 23 rfl Tryz.underlying23 HI.out.1 HI.out.2.1 HI.out.2.2.1 HI.out.2.2.2 rfl (by decide) rfl (ownEmpty 1 (Bk.new _ _ _) (Nat.le_refl _)) rfl (HSX0.out.sl.below ((Below.refl _ _).alloc (Nat.le_refl _) _)) (by intro u hu; obtain ⟨_, _, rfl⟩ := List.mem_map.1 hu; rfl) (by unfold maxLen; omega) (by omega) (by simp) ?_; intro v3 w3 hown3 hg3 hl3; simp only [Nat.zero_add, List.nil_append] at hown3; have HO3 := lh hown3; have HG3 := lh hg3; have HS3 : w2.heap.size + 1 ≤ w3.heap.size := (by have := hg3.size; simp at this; omega); obtain ⟨A5, c5, rfl, hc5⟩ := own_shape hown3; clear hown3 hg3 hl3) | (at_builtin; refine wpList_app (base := w2.heap.size) rfl (.tmp 47) (.tmp 49) 23 rfl Tryz.underlying23 HI.out.1 HI.out.2.1 HI.out.2.2.1 HI.out.2.2.2 rfl (by decide) rfl (HO3.out.alloc _) rfl (Sl.new w3 3 [.int .i64 ad]) (by intro u hu; rw [List.mem_singleton.1 hu]; rfl) (by unfold maxLen; omega) (by omega) (by simp; omega) ?_; intro v4 w6 hown4 hg4 hl4; have HO4 := lh hown4; have HG4 := lh hg4; obtain ⟨A6, c6, rfl, hc6⟩ := own_shape hown4; clear hown4 hg4 hl4))
   have hb3 : Below w2.heap.size w2 w3 := ((Below.refl _ w2).alloc (Nat.le_refl _) (.cells #[] 3)).grown HG3.out (by simp) (fun k hk => by cases hk; exact Nat.le_refl _)
   have hb6 : Below w2.heap.size w2 w6 := (hb3.alloc (by omega) (.cells #[.int .i64 ad] 3)).grown HG4.out (by simp; omega) (fun k hk => (HO3.out.lt k hk).1)
   have HB6 := lh (HB2.out.trans (hb6.mono HB2.out.size))
   have HM6 := lh (HM3.out.below hb6)
   have HBX6 := lh (HBX.out.below hb6 HBX.out.lt)
   have HSX : Hid (IS w6 (q.2 ++ [ad]) A6 c6) := lh ⟨by have := own_sl HO4.out; rw [List.length_append, List.length_singleton, show ints (q.2 ++ [ad]) = ints q.2 ++ [.int .i64 ad] by simp [ints]]; exact this, by rw [List.length_append, List.length_singleton]; exact hc6⟩
   have HLX : Hid (∀ b o, A6 = some ⟨b, o, none⟩ → b < w6.heap.size ∧ b ≠ bm ∧ b ≠ bz) := lh (fun b o e => by have h1 := HO4.out.lt b (by rw [e]; rfl); have h2 := HQM.out.lt; have h3 := HQZ.out.lt; have h4 := HB2.out.size; omega)
   have HNX : Hid (Nw w.heap.size A A6) := lh ((Nw.own HO4.out).mono (Nat.le_trans HB.out.size HB2.out.size))
   clear hb3 hb6 hc5 hc6 HM3 HB2 HS3 x0 x1 x2 x3 x4 x5 y0 y1 y2 y3 y4 y5
   have x0 : w6.cell? ⟨bx, 0, none⟩ = some (.int .i64 m2.old.base) := HBX6.out.cell 0
   have x1 : w6.cell? ⟨bx, 1, none⟩ = some (.int .i64 m2.old.limit) := HBX6.out.cell 1
   have x2 : w6.cell? ⟨bx, 2, none⟩ = some (.slice A3 m2.old.ws.length e3) := HBX6.out.cell 2
   have x3 : w6.cell? ⟨bx, 3, none⟩ = some (.int .i64 m2.yng.base) := HBX6.out.cell 3
   have x4 : w6.cell? ⟨bx, 4, none⟩ = some (.int .i64 m2.yng.limit) := HBX6.out.cell 4
   have x5 : w6.cell? ⟨bx, 5, none⟩ = some (.slice A4 m2.yng.ws.length e4) := HBX6.out.cell 5
   have hq2 := HQM.out.below HB6.out HQM.out.lt
   have hz2 := HQZ.out.below HB6.out HQZ.out.lt
   have HQM2 := lh hq2
   have HQZ2 := lh hz2
   have n0 : w6.cell? ⟨bm, 0, none⟩ = some (.int .i64 q.1.old.base) := hq2.cell 0
   have nf0 : w6.frozen? ⟨bm, 0, none⟩ = false := hq2.free 0
   have n1 : w6.cell? ⟨bm, 1, none⟩ = some (.int .i64 q.1.old.limit) := hq2.cell 1
   have nf1 : w6.frozen? ⟨bm, 1, none⟩ = false := hq2.free 1
   have n2 : w6.cell? ⟨bm, 2, none⟩ = some (.slice A1 q.1.old.ws.length e1) := hq2.cell 2
   have nf2 : w6.frozen? ⟨bm, 2, none⟩ = false := hq2.free 2
   have n3 : w6.cell? ⟨bm, 3, none⟩ = some (.int .i64 q.1.yng.base) := hq2.cell 3
   have nf3 : w6.frozen? ⟨bm, 3, none⟩ = false := hq2.free 3
   have n4 : w6.cell? ⟨bm, 4, none⟩ = some (.int .i64 q.1.yng.limit) := hq2.cell 4
   have nf4 : w6.frozen? ⟨bm, 4, none⟩ = false := hq2.free 4
   have n5 : w6.cell? ⟨bm, 5, none⟩ = some (.slice A2 q.1.yng.ws.length e2) := hq2.cell 5
   have nf5 : w6.frozen? ⟨bm, 5, none⟩ = false := hq2.free 5
   have hzl := hz2.lt
   have hql := hq2.lt
   clear hq2 hz2
   go_upto_region 18 with fail
   have hq4 : Bk (set6 w6 bm (.int .i64 m2.old.base) (.int .i64 m2.old.limit) (.slice A3 m2.old.ws.length e3) (.int .i64 m2.yng.base) (.int .i64 m2.yng.limit) (.slice A4 m2.yng.ws.length e4)) bm 32 #[.int .i64 m2.old.base, .int .i64 m2.old.limit, .slice A3 m2.old.ws.length e3, .int .i64 m2.yng.base, .int .i64 m2.yng.limit, .slice A4 m2.yng.ws.length e4] := HQM2.out.set6a
   have hz4 : Bk (set6 w6 bm (.int .i64 m2.old.base) (.int .i64 m2.old.limit) (.slice A3 m2.old.ws.length e3) (.int .i64 m2.yng.base) (.int .i64 m2.yng.limit) (.slice A4 m2.yng.ws.length e4)) bz 32 #[.int .i64 0, .int .i64 0, .slice none 0 0, .int .i64 0, .int .i64 0, .slice none 0 0] := HQZ2.out.far6a (by have := HNE.out; omega)
   have hm4 : RM (set6 w6 bm (.int .i64 m2.old.base) (.int .i64 m2.old.limit) (.slice A3 m2.old.ws.length e3) (.int .i64 m2.yng.base) (.int .i64 m2.yng.limit) (.slice A4 m2.yng.ws.length e4)) m2 A3 e3 A4 e4 := HM6.out.set6a HQM2.out rfl
   have hs4 : IS (set6 w6 bm (.int .i64 m2.old.base) (.int .i64 m2.old.limit) (.slice A3 m2.old.ws.length e3) (.int .i64 m2.yng.base) (.int .i64 m2.yng.limit) (.slice A4 m2.yng.ws.length e4)) (q.2 ++ [ad]) A6 c6 := HSX.out.set6a fun b o e => (HLX.out b o e).2.1
   have hb4 : Below w.heap.size w (set6 w6 bm (.int .i64 m2.old.base) (.int .i64 m2.old.limit) (.slice A3 m2.old.ws.length e3) (.int .i64 m2.yng.base) (.int .i64 m2.yng.limit) (.slice A4 m2.yng.ws.length e4)) := below_set6a (HB.out.trans (HB6.out.mono HB.out.size)) HNE.out.2.2
   have hsz : w6.heap.size ≤ (set6 w6 bm (.int .i64 m2.old.base) (.int .i64 m2.old.limit) (.slice A3 m2.old.ws.length e3) (.int .i64 m2.yng.base) (.int .i64 m2.yng.limit) (.slice A4 m2.yng.ws.length e4)).heap.size := by rw [size_set6a]; exact Nat.le_refl _
   obtain ⟨w4, hw4⟩ : ∃ w4, set6 w6 bm (.int .i64 m2.old.base) (.int .i64 m2.old.limit) (.slice A3 m2.old.ws.length e3) (.int .i64 m2.yng.base) (.int .i64 m2.yng.limit) (.slice A4 m2.yng.ws.length e4) = w4 := ⟨_, rfl⟩
   rw [hw4] at hq4 hz4 hm4 hs4 hb4 hsz
   change (set6 w6 bm (.int .i64 m2.old.base) (.int .i64 m2.old.limit) (.slice A3 m2.old.ws.length e3) (.int .i64 m2.yng.base) (.int .i64 m2.yng.limit) (.slice A4 m2.yng.ws.length e4)) = w4 at hw4
   unfold set6 at hw4
   try rw [hw4]
   try simp only [hw4]
   have HM4 := lh hm4
   have HS4 := lh hs4
   have HB4 := lh hb4
   have HZ4 := lh hz4
   have HSZ := lh hsz
   have a0 : w4.cell? ⟨bm, 0, none⟩ = some (.int .i64 m2.old.base) := hq4.cell 0
   have a1 : w4.cell? ⟨bm, 1, none⟩ = some (.int .i64 m2.old.limit) := hq4.cell 1
   have a2 : w4.cell? ⟨bm, 2, none⟩ = some (.slice A3 m2.old.ws.length e3) := hq4.cell 2
   have a3 : w4.cell? ⟨bm, 3, none⟩ = some (.int .i64 m2.yng.base) := hq4.cell 3
   have a4 : w4.cell? ⟨bm, 4, none⟩ = some (.int .i64 m2.yng.limit) := hq4.cell 4
   have a5 : w4.cell? ⟨bm, 5, none⟩ = some (.slice A4 m2.yng.ws.length e4) := hq4.cell 5
   have z0 : w4.cell? ⟨bz, 0, none⟩ = some (.int .i64 0) := hz4.cell 0
   have zf0 : w4.frozen? ⟨bz, 0, none⟩ = false := hz4.free 0
   have z1 : w4.cell? ⟨bz, 1, none⟩ = some (.int .i64 0) := hz4.cell 1
   have zf1 : w4.frozen? ⟨bz, 1, none⟩ = false := hz4.free 1
   have z2 : w4.cell? ⟨bz, 2, none⟩ = some (.slice none 0 0) := hz4.cell 2
   have zf2 : w4.frozen? ⟨bz, 2, none⟩ = false := hz4.free 2
   have z3 : w4.cell? ⟨bz, 3, none⟩ = some (.int .i64 0) := hz4.cell 3
   have zf3 : w4.frozen? ⟨bz, 3, none⟩ = false := hz4.free 3
   have z4 : w4.cell? ⟨bz, 4, none⟩ = some (.int .i64 0) := hz4.cell 4
   have zf4 : w4.frozen? ⟨bz, 4, none⟩ = false := hz4.free 4
   have z5 : w4.cell? ⟨bz, 5, none⟩ = some (.slice none 0 0) := hz4.cell 5
   have zf5 : w4.frozen? ⟨bz, 5, none⟩ = false := hz4.free 5
   clear n0 nf0 n1 nf1 n2 nf2 n3 nf3 n4 nf4 n5 nf5 hq4 hz4 hm4 hs4 hb4 hw4 hsz
   go_wp2_with fail
   rw [HRR.out]
   refine bodyPost_ret (v := .tuple #[.agg #[.int .i64 m2.old.base, .int .i64 m2.old.limit, .slice A3 m2.old.ws.length e3, .int .i64 m2.yng.base, .int .i64 m2.yng.limit, .slice A4 m2.yng.ws.length e4], .slice A6 ((q.2 ++ [ad])).length c6]) (by simp [results, Tryz.results58, go_sem, z0, z1, z2, z3, z4, z5]) rfl ?_
   exact ⟨A3, e3, A4, e4, A6, c6, rfl, HM4.out.set6a HZ4.out rfl, HS4.out.set6a fun b o e => (HLX.out b o e).2.2, fun b o e => by have h1 := (HLX.out b o e).1; have h2 := HSZ.out; simp only [size_set6a]; omega, HN.out.1.mono HB.out.size, HN.out.2.mono HB.out.size, HNX.out, below_set6a HB4.out (by have := HNE.out; omega)⟩
  ·have HRR : Hid (st1 q x = (m2, q.2)) := lh (by rw [HR1.out, if_neg he])
   have e0 : (er == 0) = false := by simp [he]
   clear he y0 y1 y2 y3 y4 y5
   have HSX := lh (HS.out.below HB2.out)
   have HLX : Hid (∀ b o, A = some ⟨b, o, none⟩ → b < w2.heap.size ∧ b ≠ bm ∧ b ≠ bz) := lh (fun b o e => by have h1 := HLT.out b o e; have h2 := HB.out.size; have h3 := HB2.out.size; have h4 := HNE.out; omega)
   have HNX := lh (Nw.refl w.heap.size A)
   have hq2 := HQM.out.below HB2.out HQM.out.lt
   have hz2 := HQZ.out.below HB2.out HQZ.out.lt
   have HQM2 := lh hq2
   have HQZ2 := lh hz2
   have n0 : w2.cell? ⟨bm, 0, none⟩ = some (.int .i64 q.1.old.base) := hq2.cell 0
   have nf0 : w2.frozen? ⟨bm, 0, none⟩ = false := hq2.free 0
   have n1 : w2.cell? ⟨bm, 1, none⟩ = some (.int .i64 q.1.old.limit) := hq2.cell 1
   have nf1 : w2.frozen? ⟨bm, 1, none⟩ = false := hq2.free 1
   have n2 : w2.cell? ⟨bm, 2, none⟩ = some (.slice A1 q.1.old.ws.length e1) := hq2.cell 2
   have nf2 : w2.frozen? ⟨bm, 2, none⟩ = false := hq2.free 2
   have n3 : w2.cell? ⟨bm, 3, none⟩ = some (.int .i64 q.1.yng.base) := hq2.cell 3
   have nf3 : w2.frozen? ⟨bm, 3, none⟩ = false := hq2.free 3
   have n4 : w2.cell? ⟨bm, 4, none⟩ = some (.int .i64 q.1.yng.limit) := hq2.cell 4
   have nf4 : w2.frozen? ⟨bm, 4, none⟩ = false := hq2.free 4
   have n5 : w2.cell? ⟨bm, 5, none⟩ = some (.slice A2 q.1.yng.ws.length e2) := hq2.cell 5
   have nf5 : w2.frozen? ⟨bm, 5, none⟩ = false := hq2.free 5
   have hzl := hz2.lt
   have hql := hq2.lt
   clear hq2 hz2
   go_upto_region 18 with fail
   have hq4 : Bk (set6 w2 bm (.int .i64 m2.old.base) (.int .i64 m2.old.limit) (.slice A3 m2.old.ws.length e3) (.int .i64 m2.yng.base) (.int .i64 m2.yng.limit) (.slice A4 m2.yng.ws.length e4)) bm 32 #[.int .i64 m2.old.base, .int .i64 m2.old.limit, .slice A3 m2.old.ws.length e3, .int .i64 m2.yng.base, .int .i64 m2.yng.limit, .slice A4 m2.yng.ws.length e4] := HQM2.out.set6a
   have hz4 : Bk (set6 w2 bm (.int .i64 m2.old.base) (.int .i64 m2.old.limit) (.slice A3 m2.old.ws.length e3) (.int .i64 m2.yng.base) (.int .i64 m2.yng.limit) (.slice A4 m2.yng.ws.length e4)) bz 32 #[.int .i64 0, .int .i64 0, .slice none 0 0, .int .i64 0, .int .i64 0, .slice none 0 0] := HQZ2.out.far6a (by have := HNE.out; omega)
   have hm4 : RM (set6 w2 bm (.int .i64 m2.old.base) (.int .i64 m2.old.limit) (.slice A3 m2.old.ws.length e3) (.int .i64 m2.yng.base) (.int .i64 m2.yng.limit) (.slice A4 m2.yng.ws.length e4)) m2 A3 e3 A4 e4 := HM3.out.set6a HQM2.out rfl
   have hs4 : IS (set6 w2 bm (.int .i64 m2.old.base) (.int .i64 m2.old.limit) (.slice A3 m2.old.ws.length e3) (.int .i64 m2.yng.base) (.int .i64 m2.yng.limit) (.slice A4 m2.yng.ws.length e4)) q.2 A c := HSX.out.set6a fun b o e => (HLX.out b o e).2.1
   have hb4 : Below w.heap.size w (set6 w2 bm (.int .i64 m2.old.base) (.int .i64 m2.old.limit) (.slice A3 m2.old.ws.length e3) (.int .i64 m2.yng.base) (.int .i64 m2.yng.limit) (.slice A4 m2.yng.ws.length e4)) := below_set6a (HB.out.trans (HB2.out.mono HB.out.size)) HNE.out.2.2
   have hsz : w2.heap.size ≤ (set6 w2 bm (.int .i64 m2.old.base) (.int .i64 m2.old.limit) (.slice A3 m2.old.ws.length e3) (.int .i64 m2.yng.base) (.int .i64 m2.yng.limit) (.slice A4 m2.yng.ws.length e4)).heap.size := by rw [size_set6a]; exact Nat.le_refl _
   obtain ⟨w4, hw4⟩ : ∃ w4, set6 w2 bm (.int .i64 m2.old.base) (.int .i64 m2.old.limit) (.slice A3 m2.old.ws.length e3) (.int .i64 m2.yng.base) (.int .i64 m2.yng.limit) (.slice A4 m2.yng.ws.length e4) = w4 := ⟨_, rfl⟩
   rw [hw4] at hq4 hz4 hm4 hs4 hb4 hsz
   change (set6 w2 bm (.int .i64 m2.old.base) (.int .i64 m2.old.limit) (.slice A3 m2.old.ws.length e3) (.int .i64 m2.yng.base) (.int .i64 m2.yng.limit) (.slice A4 m2.yng.ws.length e4)) = w4 at hw4
   unfold set6 at hw4
   try rw [hw4]
   try simp only [hw4]
   have HM4 := lh hm4
   have HS4 := lh hs4
   have HB4 := lh hb4
   have HZ4 := lh hz4
   have HSZ := lh hsz
   have a0 : w4.cell? ⟨bm, 0, none⟩ = some (.int .i64 m2.old.base) := hq4.cell 0
   have a1 : w4.cell? ⟨bm, 1, none⟩ = some (.int .i64 m2.old.limit) := hq4.cell 1
   have a2 : w4.cell? ⟨bm, 2, none⟩ = some (.slice A3 m2.old.ws.length e3) := hq4.cell 2
   have a3 : w4.cell? ⟨bm, 3, none⟩ = some (.int .i64 m2.yng.base) := hq4.cell 3
   have a4 : w4.cell? ⟨bm, 4, none⟩ = some (.int .i64 m2.yng.limit) := hq4.cell 4
   have a5 : w4.cell? ⟨bm, 5, none⟩ = some (.slice A4 m2.yng.ws.length e4) := hq4.cell 5
   have z0 : w4.cell? ⟨bz, 0, none⟩ = some (.int .i64 0) := hz4.cell 0
   have zf0 : w4.frozen? ⟨bz, 0, none⟩ = false := hz4.free 0
   have z1 : w4.cell? ⟨bz, 1, none⟩ = some (.int .i64 0) := hz4.cell 1
   have zf1 : w4.frozen? ⟨bz, 1, none⟩ = false := hz4.free 1
   have z2 : w4.cell? ⟨bz, 2, none⟩ = some (.slice none 0 0) := hz4.cell 2
   have zf2 : w4.frozen? ⟨bz, 2, none⟩ = false := hz4.free 2
   have z3 : w4.cell? ⟨bz, 3, none⟩ = some (.int .i64 0) := hz4.cell 3
   have zf3 : w4.frozen? ⟨bz, 3, none⟩ = false := hz4.free 3
   have z4 : w4.cell? ⟨bz, 4, none⟩ = some (.int .i64 0) := hz4.cell 4
   have zf4 : w4.frozen? ⟨bz, 4, none⟩ = false := hz4.free 4
   have z5 : w4.cell? ⟨bz, 5, none⟩ = some (.slice none 0 0) := hz4.cell 5
   have zf5 : w4.frozen? ⟨bz, 5, none⟩ = false := hz4.free 5
   clear n0 nf0 n1 nf1 n2 nf2 n3 nf3 n4 nf4 n5 nf5 hq4 hz4 hm4 hs4 hb4 hw4 hsz
   go_wp2_with fail
   rw [HRR.out]
   refine bodyPost_ret (v := .tuple #[.agg #[.int .i64 m2.old.base, .int .i64 m2.old.limit, .slice A3 m2.old.ws.length e3, .int .i64 m2.yng.base, .int .i64 m2.yng.limit, .slice A4 m2.yng.ws.length e4], .slice A q.2.length c]) (by simp [results, Tryz.results58, go_sem, z0, z1, z2, z3, z4, z5]) rfl ?_
   exact ⟨A3, e3, A4, e4, A, c, rfl, HM4.out.set6a HZ4.out rfl, HS4.out.set6a fun b o e => (HLX.out b o e).2.2, fun b o e => by have h1 := (HLX.out b o e).1; have h2 := HSZ.out; simp only [size_set6a]; omega, HN.out.1.mono HB.out.size, HN.out.2.mono HB.out.size, HNX.out, below_set6a HB4.out (by have := HNE.out; omega)⟩
theorem Step1_any (h : RM w q.1 A1 e1 A2 e2) (ok : q.1.Ok) (hs : IS w q.2 A c) (hlt : ∀ b o, A = some ⟨b, o, none⟩ → b < w.heap.size) (hl : q.2.length ≤ 1000000) (x : Op1) (hx : x.Ok) : Calls Tryz.prog 58 #[.agg #[.int .i64 q.1.old.base, .int .i64 q.1.old.limit, .slice A1 q.1.old.ws.length e1, .int .i64 q.1.yng.base, .int .i64 q.1.yng.limit, .slice A2 q.1.yng.ws.length e2], .slice A q.2.length c, .agg x.cells] w (StP1 w A1 A2 A (st1 q x)) := by
 by_cases h0 : 0 ≤ x.k ∧ x.k ≤ 4
 ·unfold Op1.cells
  rcases (show x.k = 0 ∨ x.k = 1 ∨ x.k = 2 ∨ x.k = 3 ∨ x.k = 4 by omega) with e | e | e | e | e
  ·rw [e]; exact step1_f h ok hs hlt hl x hx e
  ·rw [e]; exact step1_1 h ok hs hlt hl x hx e
  ·rw [e]; exact step1_2 h ok hs hlt hl x hx e
  ·rw [e]; exact step1_3 h ok hs hlt hl x hx e
  ·rw [e]; exact step1_4 h ok hs hlt hl x hx e
 ·exact step1_o h ok hs hlt hl x hx h0
end
end Go.Proofs.YtjpaogapclfajaaGreat
