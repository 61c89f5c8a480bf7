/- Parts of the proof: Eq10. -/
import Derived.Test.YtaijmgkjbbiboaaGreatPeA
import Derived.Test.YtaijmgkjbbiboaaGreatPe17
import Derived.Test.YtaijmgkjbbiboaaGreatPe25
import Derived.Test.YtaijmgkjbbiboaaGreatPe31
import Derived.Test.YtaijmgkjbbiboaaGreatPe36
set_option linter.unusedVariables false
set_option linter.unusedSimpArgs false
set_option linter.unusedSectionVars false
set_option maxRecDepth 100000
namespace Go.Proofs.YtaijmgkjbbiboaaGreat
section
open Go.RowKit Go.Sort
attribute [local go_sem] Oper.semAt_some onlyN_normal
theorem CsI.hit {cs : List Int} {n : Nat} (h : CsI cs n) {j : Nat} {c : Int} (hc : cs[j]? = some c) : cardIn cs (16 * c) = true := by
 have hm := List.mem_of_getElem? hc
 have h1 := h.rg c hm
 unfold cardIn oldB
 rw [show 16 * c / 16 = c by omega]
 simp [hm]
 omega
section
variable {w : World} {B g1 g2 : Nat} {V1 V2 : Value} {m : Mm} {s : Spc} {A : Option Addr} {c : Nat}
set_option maxHeartbeats 8000000 in
theorem Equal10_any (h : MR w B g1 g2 V1 V2 m) (hs : RS w s A c) (hat : ∀ (j : Nat) (x : Int), s.ws[j]? = some x → m.at_ (s.base + (j : Int)) = some x) : Calls Tryz.prog 77 #[.agg #[.pointer (some ⟨g1, 0, none⟩), .pointer (some ⟨g2, 0, none⟩)], .agg #[.int .i64 s.base, .int .i64 s.limit, .slice A s.ws.length c], .int .i64 s.top] w fun e w' => e = .returned (.bool true) ∧ Below w.heap.size w w' := by
 have hb1 : Below w.heap.size w ((w.alloc (.cells #[.pointer (some ⟨g1, 0, none⟩), .pointer (some ⟨g2, 0, none⟩)] 29)).alloc (.cells #[.int .i64 s.base, .int .i64 s.limit, .slice A s.ws.length c] 33)) := ((Below.refl _ w).alloc (Nat.le_refl _) _).alloc (by simp) _
 have HBM : Hid (Bk ((w.alloc (.cells #[.pointer (some ⟨g1, 0, none⟩), .pointer (some ⟨g2, 0, none⟩)] 29)).alloc (.cells #[.int .i64 s.base, .int .i64 s.limit, .slice A s.ws.length c] 33)) w.heap.size 29 #[.pointer (some ⟨g1, 0, none⟩), .pointer (some ⟨g2, 0, none⟩)]) := lh (Bk.alloc (Bk.new _ _ _) _)
 have HBR : Hid (Bk ((w.alloc (.cells #[.pointer (some ⟨g1, 0, none⟩), .pointer (some ⟨g2, 0, none⟩)] 29)).alloc (.cells #[.int .i64 s.base, .int .i64 s.limit, .slice A s.ws.length c] 33)) (w.heap.size + 1) 33 #[.int .i64 s.base, .int .i64 s.limit, .slice A s.ws.length c]) := lh (Bk.here _ _ _ (by simp))
 have H := lh (h.below hb1)
 have HS := lh (hs.below hb1)
 have HB := lh hb1
 have HAT := lh hat
 have HLIM : Hid (0 ≤ s.base ∧ s.base + (s.ws.length : Int) ≤ 4294967296) := lh ⟨hs.b0, by have := hs.lim; have := hs.l0; omega⟩
 clear h hs hb1 hat
 go_enter Tryz.func77, Tryz.ntmps77
 go_upto_region 1 with fail
 generalize ((w.alloc (.cells #[.pointer (some ⟨g1, 0, none⟩), .pointer (some ⟨g2, 0, none⟩)] 29)).alloc (.cells #[.int .i64 s.base, .int .i64 s.limit, .slice A s.ws.length c] 33)) = w0 at *
 obtain ⟨bm, hbm⟩ : ∃ bm, bm = w.heap.size := ⟨_, rfl⟩
 obtain ⟨br, hbr⟩ : ∃ br, br = w.heap.size + 1 := ⟨_, rfl⟩
 rw [← hbr] at HBR
 rw [← hbm] at HBM
 rw [← hbr, ← hbm]
 clear hbr hbm
 have cT := RTop_any HS.out
 unfold rsV at cT
 have r0 : w0.cell? ⟨br, 0, none⟩ = some (.int .i64 s.base) := HBR.out.cell 0
 have r1 : w0.cell? ⟨br, 1, none⟩ = some (.int .i64 s.limit) := HBR.out.cell 1
 have r2 : w0.cell? ⟨br, 2, none⟩ = some (.slice A s.ws.length c) := HBR.out.cell 2
 go_wp2_with fail
 refine cT.mono ?_
 rintro e w1 ⟨rfl, hb1⟩
 have H1 := lh (H.out.below hb1)
 have HS1 := lh (HS.out.below hb1)
 have HB1 := lh (HB.out.trans (hb1.mono HB.out.size))
 have HBM1 := lh (HBM.out.below hb1 HBM.out.lt)
 have HBR1 := lh (HBR.out.below hb1 HBR.out.lt)
 clear hb1 H HS HB HBM HBR cT r0 r1 r2
 go_wp2_with fail
 go_loopw [7, 8, 9] (fun i _ _ wr => ∃ j : Nat, i = .int .i64 (j : Int) ∧ j ≤ s.ws.length ∧ Below w1.heap.size w1 wr) (fun i _ _ _ => s.ws.length - (intOf i).toNat)
 case atStart => exact ⟨0, rfl, Nat.zero_le _, Below.refl _ _⟩
 case round =>
  obtain ⟨j, rfl, hj, hb⟩ := hrel
  have HB2 := lh hb
  have hbm := HBM1.out.below hb HBM1.out.lt
  have hbr := HBR1.out.below hb HBR1.out.lt
  have HBM2 := lh hbm
  have HBR2 := lh hbr
  have m0 : wr.cell? ⟨bm, 0, none⟩ = some (.pointer (some ⟨g1, 0, none⟩)) := hbm.cell 0
  have m1 : wr.cell? ⟨bm, 1, none⟩ = some (.pointer (some ⟨g2, 0, none⟩)) := hbm.cell 1
  have r0 : wr.cell? ⟨br, 0, none⟩ = some (.int .i64 s.base) := hbr.cell 0
  have r2 : wr.cell? ⟨br, 2, none⟩ = some (.slice A s.ws.length c) := hbr.cell 2
  have HSR := lh (HS1.out.below hb)
  clear hbm hbr
  have hlb : s.ws.length ≤ 4294967296 := by have := HLIM.out; omega
  by_cases hlt : j < s.ws.length
  ·have hx : s.ws[j]? = some s.ws[j] := List.getElem?_eq_getElem hlt
   have hux := HS1.out.u _ (List.mem_of_getElem? hx)
   have cL := MLoad_of (H1.out.below hb) (s.base + (j : Int))
   unfold atV at cL
   rw [HAT.out j _ hx] at cL
   dsimp only at cL
   obtain ⟨bb, oo, hA, hbl, hc⟩ := HSR.out.sl.2.resolve_left (by omega)
   have hcj := hc j _ (wds_get hx)
   have hcap := HSR.out.cap
   have HCJ := lh hcj
   have HCB := lh hbl
   subst hA
   generalize s.ws[j] = x at *
   have hadd : IntKind.i64.wrap (s.base + (j : Int)) = s.base + (j : Int) := IntWalk.i64_in _ (by have := HLIM.out; omega)
   clear hb hx hc hcj hbl
   go_wp2_with fail
   refine cL.mono ?_
   rintro e w3 ⟨rfl, hb3⟩
   have HB3 := lh (HB2.out.trans (hb3.mono HB2.out.size))
   have hbr := HBR2.out.below hb3 HBR2.out.lt
   have r2 : w3.cell? ⟨br, 2, none⟩ = some (.slice (some ⟨bb, oo, none⟩) s.ws.length c) := hbr.cell 2
   have e1 : w3.cell? ⟨bb, oo + j, none⟩ = some (.int .u64 x) := ((bcell hb3).1 _ _ HCB.out).trans HCJ.out
   clear cL hb3 hbr m0 m1 r0
   go_wp2_with fail
   go_roundw
   case rel => exact ⟨j + 1, by go_num, by omega, HB3.out⟩
   case measure => simp [intOf]; omega
  ·go_wp2_with fail
   go_ret
   exact ⟨rfl, HB1.out.trans (HB2.out.mono HB1.out.size)⟩
end
section
variable {w : World} {B g1 g2 B2 gt bt k n : Nat} {V1 V2 : Value} {m : Mm} {cs : List Int} {A1 A2 A : Option Addr} {u1 u2 u : Nat}
set_option maxHeartbeats 8000000 in
theorem Same10_any (h : MR w B g1 g2 V1 V2 m) (hc : CR w B2 gt bt k cs) (hr : RM w m A1 u1 A2 u2) (hrc : RC w cs A u) (hci : CsI cs n) (hn : n ≤ 1000000) : Calls Tryz.prog 33 #[.agg #[.pointer (some ⟨g1, 0, none⟩), .pointer (some ⟨g2, 0, none⟩)], .pointer (some ⟨gt, 0, none⟩), .agg #[.int .i64 m.old.base, .int .i64 m.old.limit, .slice A1 m.old.ws.length u1, .int .i64 m.yng.base, .int .i64 m.yng.limit, .slice A2 m.yng.ws.length u2], .agg #[.slice A cs.length u]] w fun e w' => e = .returned (.bool true) ∧ Below w.heap.size w w' := by
 have hb1 : Below w.heap.size w (((w.alloc (.cells #[.pointer (some ⟨g1, 0, none⟩), .pointer (some ⟨g2, 0, none⟩)] 29)).alloc (.cells #[.int .i64 m.old.base, .int .i64 m.old.limit, .slice A1 m.old.ws.length u1, .int .i64 m.yng.base, .int .i64 m.yng.limit, .slice A2 m.yng.ws.length u2] 35)).alloc (.cells #[.slice A cs.length u] 37)) := (((Below.refl _ w).alloc (Nat.le_refl _) _).alloc (by simp) _).alloc (by simp; omega) _
 have HBM : Hid (Bk (((w.alloc (.cells #[.pointer (some ⟨g1, 0, none⟩), .pointer (some ⟨g2, 0, none⟩)] 29)).alloc (.cells #[.int .i64 m.old.base, .int .i64 m.old.limit, .slice A1 m.old.ws.length u1, .int .i64 m.yng.base, .int .i64 m.yng.limit, .slice A2 m.yng.ws.length u2] 35)).alloc (.cells #[.slice A cs.length u] 37)) w.heap.size 29 #[.pointer (some ⟨g1, 0, none⟩), .pointer (some ⟨g2, 0, none⟩)]) := lh (Bk.alloc (Bk.alloc (Bk.new _ _ _) _) _)
 have HBR : Hid (Bk (((w.alloc (.cells #[.pointer (some ⟨g1, 0, none⟩), .pointer (some ⟨g2, 0, none⟩)] 29)).alloc (.cells #[.int .i64 m.old.base, .int .i64 m.old.limit, .slice A1 m.old.ws.length u1, .int .i64 m.yng.base, .int .i64 m.yng.limit, .slice A2 m.yng.ws.length u2] 35)).alloc (.cells #[.slice A cs.length u] 37)) (w.heap.size + 1) 35 #[.int .i64 m.old.base, .int .i64 m.old.limit, .slice A1 m.old.ws.length u1, .int .i64 m.yng.base, .int .i64 m.yng.limit, .slice A2 m.yng.ws.length u2]) := lh (Bk.alloc (Bk.here _ _ _ (by simp)) _)
 have HBT : Hid (Bk (((w.alloc (.cells #[.pointer (some ⟨g1, 0, none⟩), .pointer (some ⟨g2, 0, none⟩)] 29)).alloc (.cells #[.int .i64 m.old.base, .int .i64 m.old.limit, .slice A1 m.old.ws.length u1, .int .i64 m.yng.base, .int .i64 m.yng.limit, .slice A2 m.yng.ws.length u2] 35)).alloc (.cells #[.slice A cs.length u] 37)) (w.heap.size + 1 + 1) 37 #[.slice A cs.length u]) := lh (Bk.here _ _ _ (by simp))
 have H := lh (h.below hb1)
 have HR := lh (hr.below hb1)
 have HC := lh (hc.below hb1)
 have HRC := lh (hrc.below hb1)
 have HB := lh hb1
 have HCI := lh hci
 have HWF : Hid (∀ x ∈ cs, (Lit.int .i64 x).wf = true) := lh (fun x hx => WalkArith.wf_i64 (by have := hci.rg x hx; omega))
 have HAO : Hid (∀ (j : Nat) (x : Int), m.old.ws[j]? = some x → m.at_ (m.old.base + (j : Int)) = some x) := lh (fun j x hx => by
  have hl := (List.getElem?_eq_some_iff.1 hx).1
  have hh : m.old.has (m.old.base + (j : Int)) = true := Spc.has_iff.2 ⟨by omega, by omega⟩
  unfold Mm.at_ Mm.sp
  rw [if_pos hh]
  unfold Spc.at_
  rw [if_pos hh, ← hx]
  congr 1
  omega)
 have HAY : Hid (∀ (j : Nat) (x : Int), m.yng.ws[j]? = some x → m.at_ (m.yng.base + (j : Int)) = some x) := lh (fun j x hx => by
  have hl := (List.getElem?_eq_some_iff.1 hx).1
  have hh : m.yng.has (m.yng.base + (j : Int)) = true := Spc.has_iff.2 ⟨by omega, by omega⟩
  have hg := h.ok.yng_ge hh
  have hno : ¬ m.old.has (m.yng.base + (j : Int)) = true := fun e => by have := h.ok.old_lt e; omega
  unfold Mm.at_ Mm.sp
  rw [if_neg hno]
  unfold Spc.at_
  rw [if_pos hh, ← hx]
  congr 1
  omega)
 have hcl : cs.length ≤ 1000000 := Nat.le_trans hci.len hn
 clear h hr hc hrc hb1 hci
 go_enter Tryz.func33, Tryz.ntmps33
 go_upto_region 1 with fail
 generalize (((w.alloc (.cells #[.pointer (some ⟨g1, 0, none⟩), .pointer (some ⟨g2, 0, none⟩)] 29)).alloc (.cells #[.int .i64 m.old.base, .int .i64 m.old.limit, .slice A1 m.old.ws.length u1, .int .i64 m.yng.base, .int .i64 m.yng.limit, .slice A2 m.yng.ws.length u2] 35)).alloc (.cells #[.slice A cs.length u] 37)) = w0 at *
 obtain ⟨bm, hbm⟩ : ∃ bm, bm = w.heap.size := ⟨_, rfl⟩
 obtain ⟨br, hbr⟩ : ∃ br, br = w.heap.size + 1 := ⟨_, rfl⟩
 obtain ⟨bt_, hbt⟩ : ∃ bt_, bt_ = w.heap.size + 1 + 1 := ⟨_, rfl⟩
 rw [← hbt] at HBT
 rw [← hbr] at HBR
 rw [← hbm] at HBM
 rw [← hbt, ← hbr, ← hbm]
 clear hbt hbr hbm
 refine wp_region_addsG 26 (fun i => ([[], [], [1], [], [3], [4], [0, 2, 5], [6], [7], [8], [8], [8, 10], [8], [8, 12], [8, 13], [8, 9, 11, 14], [8, 15], [8, 16], [17], [18], [18, 19], [18, 20], [18], [18, 22], [18, 23], [18, 21, 24]] : List (List Nat)).getD i []) (EL [Ent.val (.agg #[.pointer (some ⟨g1, 0, none⟩), .pointer (some ⟨g2, 0, none⟩)]), Ent.val (.pointer (some ⟨br, 0, none⟩)), Ent.val (.agg #[.int .i64 m.old.base, .int .i64 m.old.limit, .slice A1 m.old.ws.length u1]), Ent.val (.pointer (some ⟨bm, 0, none⟩)), Ent.val (.pointer (some ⟨g1, 0, none⟩)), Ent.val (.int .i64 m.old.top), Ent.val (.bool true), Ent.val (.bool false), Ent.val (.bool false), Ent.val (.agg #[.pointer (some ⟨g1, 0, none⟩), .pointer (some ⟨g2, 0, none⟩)]), Ent.val (.pointer (some ⟨br, 3, none⟩)), Ent.val (.agg #[.int .i64 m.yng.base, .int .i64 m.yng.limit, .slice A2 m.yng.ws.length u2]), Ent.val (.pointer (some ⟨bm, 1, none⟩)), Ent.val (.pointer (some ⟨g2, 0, none⟩)), Ent.val (.int .i64 m.yng.top), Ent.val (.bool true), Ent.val (.bool false), Ent.val (.bool false), Ent.val (.bool false), Ent.val (.pointer (some ⟨gt, 0, none⟩)), Ent.of (IsT w0.heap.size cs) IsT.bl, Ent.val (.int .i64 (cs.length : Int)), Ent.val (.pointer (some ⟨bt_, 0, none⟩)), Ent.val (.slice A cs.length u), Ent.val (.int .i64 (cs.length : Int)), Ent.val (.bool false)]) (by kernel_rfl) (by kernel_rfl) (by kernel_rfl) (by rfl) ?_ ?_ ?_
 ·intro i hi o ho g b hgb vs v w1 hR
  rcases (show i = 0 ∨ i = 1 ∨ i = 2 ∨ i = 3 ∨ i = 4 ∨ i = 5 ∨ i = 6 ∨ i = 7 ∨ i = 8 ∨ i = 9 ∨ i = 10 ∨ i = 11 ∨ i = 12 ∨ i = 13 ∨ i = 14 ∨ i = 15 ∨ i = 16 ∨ i = 17 ∨ i = 18 ∨ i = 19 ∨ i = 20 ∨ i = 21 ∨ i = 22 ∨ i = 23 ∨ i = 24 ∨ i = 25 by omega) with rfl | rfl | rfl | rfl | rfl | rfl | rfl | rfl | rfl | rfl | rfl | rfl | rfl | rfl | rfl | rfl | rfl | rfl | rfl | rfl | rfl | rfl | rfl | rfl | rfl | rfl <;> cases ho <;> first | (cases hgb; exact hR) | cases hgb
 ·intro i hi o ho vs w1 hb1 hgr
  rcases (show i = 0 ∨ i = 1 ∨ i = 2 ∨ i = 3 ∨ i = 4 ∨ i = 5 ∨ i = 6 ∨ i = 7 ∨ i = 8 ∨ i = 9 ∨ i = 10 ∨ i = 11 ∨ i = 12 ∨ i = 13 ∨ i = 14 ∨ i = 15 ∨ i = 16 ∨ i = 17 ∨ i = 18 ∨ i = 19 ∨ i = 20 ∨ i = 21 ∨ i = 22 ∨ i = 23 ∨ i = 24 ∨ i = 25 by omega) with rfl | rfl | rfl | rfl | rfl | rfl | rfl | rfl | rfl | rfl | rfl | rfl | rfl | rfl | rfl | rfl | rfl | rfl | rfl | rfl | rfl | rfl | rfl | rfl | rfl | rfl <;> cases ho
  ·clear hgr
   change Made _ (Adds _ _ _) (Sem.run _ (execOp (Act.eval (frm _ _ _ [])) _) _)
   simp only [frm]
   have hbk := HBM.out.below hb1 HBM.out.lt
   have c0 : w1.cell? ⟨bm, 0, none⟩ = some (.pointer (some ⟨g1, 0, none⟩)) := hbk.cell 0
   have c1 : w1.cell? ⟨bm, 1, none⟩ = some (.pointer (some ⟨g2, 0, none⟩)) := hbk.cell 1
   clear hbk
   go_simp
   exact adds_val rfl
  ·clear hgr
   change Made _ (Adds _ _ _) (Sem.run _ (execOp (Act.eval (frm _ _ _ [])) _) _)
   simp only [frm]
   go_simp
   exact adds_val rfl
  ·have h1 : vs 1 = _ := hgr 1 (by decide)
   clear hgr
   change Made _ (Adds _ _ _) (Sem.run _ (execOp (Act.eval (Act.put (frm _ _ _ []) (some 11) (vs 1))) _) _)
   simp only [frm, h1]
   have hbk := HBR.out.below hb1 HBR.out.lt
   have c0 : w1.cell? ⟨br, 0, none⟩ = some (.int .i64 m.old.base) := hbk.cell 0
   have c1 : w1.cell? ⟨br, 1, none⟩ = some (.int .i64 m.old.limit) := hbk.cell 1
   have c2 : w1.cell? ⟨br, 2, none⟩ = some (.slice A1 m.old.ws.length u1) := hbk.cell 2
   clear hbk
   go_simp
   exact adds_val rfl
  ·clear hgr
   change Made _ (Adds _ _ _) (Sem.run _ (execOp (Act.eval (frm _ _ _ [])) _) _)
   simp only [frm]
   go_simp
   exact adds_val rfl
  ·have h3 : vs 3 = _ := hgr 3 (by decide)
   clear hgr
   change Made _ (Adds _ _ _) (Sem.run _ (execOp (Act.eval (Act.put (frm _ _ _ []) (some 13) (vs 3))) _) _)
   simp only [frm, h3]
   have hbk := HBM.out.below hb1 HBM.out.lt
   have c0 : w1.cell? ⟨bm, 0, none⟩ = some (.pointer (some ⟨g1, 0, none⟩)) := hbk.cell 0
   clear hbk
   go_simp
   exact adds_val rfl
  ·have h4 : vs 4 = _ := hgr 4 (by decide)
   clear hgr
   change Made _ (Adds _ _ _) (Sem.run _ (execOp (Act.eval (Act.put (frm _ _ _ []) (some 14) (vs 4))) _) _)
   simp only [frm, h4]
   have cM := Top_any (H.out.below hb1).o
   go_simp
   exact adds_below cM
  ·have h0 : vs 0 = _ := hgr 0 (by decide)
   have h2 : vs 2 = _ := hgr 2 (by decide)
   have h5 : vs 5 = _ := hgr 5 (by decide)
   clear hgr
   change Made _ (Adds _ _ _) (Sem.run _ (execOp (Act.eval (Act.put (Act.put (Act.put (frm _ _ _ []) (some 15) (vs 5)) (some 12) (vs 2)) (some 10) (vs 0))) _) _)
   simp only [frm, h0, h2, h5]
   have cM := Equal10_any (H.out.below hb1) (HR.out.below hb1).o HAO.out
   go_simp
   exact adds_below cM
  ·have h6 : vs 6 = _ := hgr 6 (by decide)
   clear hgr
   change Made _ (Adds _ _ _) (Sem.run _ (execOp (Act.eval (Act.put (frm _ _ _ []) (some 16) (vs 6))) _) _)
   simp only [frm, h6]
   go_simp
   exact adds_val rfl
  ·have h7 : vs 7 = _ := hgr 7 (by decide)
   clear hgr
   change Made _ (Adds _ _ _) (Sem.run _ (execOp (Act.eval (Act.put (frm _ _ _ []) (some 17) (vs 7))) _) _)
   simp only [frm, h7]
   go_simp
   exact adds_val rfl
  ·have h8 : vs 8 = _ := hgr 8 (by decide)
   clear hgr
   change Made _ (Adds _ _ _) (Sem.run _ (execOp (Act.eval (Act.put (frm _ _ _ []) (some 18) (vs 8))) _) _)
   simp only [frm, h8]
   have hbk := HBM.out.below hb1 HBM.out.lt
   have c0 : w1.cell? ⟨bm, 0, none⟩ = some (.pointer (some ⟨g1, 0, none⟩)) := hbk.cell 0
   have c1 : w1.cell? ⟨bm, 1, none⟩ = some (.pointer (some ⟨g2, 0, none⟩)) := hbk.cell 1
   clear hbk
   go_simp
   exact adds_val rfl
  ·have h8 : vs 8 = _ := hgr 8 (by decide)
   clear hgr
   change Made _ (Adds _ _ _) (Sem.run _ (execOp (Act.eval (Act.put (frm _ _ _ []) (some 18) (vs 8))) _) _)
   simp only [frm, h8]
   go_simp
   exact adds_val rfl
  ·have h8 : vs 8 = _ := hgr 8 (by decide)
   have h10 : vs 10 = _ := hgr 10 (by decide)
   clear hgr
   change Made _ (Adds _ _ _) (Sem.run _ (execOp (Act.eval (Act.put (Act.put (frm _ _ _ []) (some 20) (vs 10)) (some 18) (vs 8))) _) _)
   simp only [frm, h8, h10]
   have hbk := HBR.out.below hb1 HBR.out.lt
   have c0 : w1.cell? ⟨br, 3, none⟩ = some (.int .i64 m.yng.base) := hbk.cell 3
   have c1 : w1.cell? ⟨br, 4, none⟩ = some (.int .i64 m.yng.limit) := hbk.cell 4
   have c2 : w1.cell? ⟨br, 5, none⟩ = some (.slice A2 m.yng.ws.length u2) := hbk.cell 5
   clear hbk
   go_simp
   exact adds_val rfl
  ·have h8 : vs 8 = _ := hgr 8 (by decide)
   clear hgr
   change Made _ (Adds _ _ _) (Sem.run _ (execOp (Act.eval (Act.put (frm _ _ _ []) (some 18) (vs 8))) _) _)
   simp only [frm, h8]
   go_simp
   exact adds_val rfl
  ·have h8 : vs 8 = _ := hgr 8 (by decide)
   have h12 : vs 12 = _ := hgr 12 (by decide)
   clear hgr
   change Made _ (Adds _ _ _) (Sem.run _ (execOp (Act.eval (Act.put (Act.put (frm _ _ _ []) (some 22) (vs 12)) (some 18) (vs 8))) _) _)
   simp only [frm, h8, h12]
   have hbk := HBM.out.below hb1 HBM.out.lt
   have c0 : w1.cell? ⟨bm, 1, none⟩ = some (.pointer (some ⟨g2, 0, none⟩)) := hbk.cell 1
   clear hbk
   go_simp
   exact adds_val rfl
  ·have h8 : vs 8 = _ := hgr 8 (by decide)
   have h13 : vs 13 = _ := hgr 13 (by decide)
   clear hgr
   change Made _ (Adds _ _ _) (Sem.run _ (execOp (Act.eval (Act.put (Act.put (frm _ _ _ []) (some 23) (vs 13)) (some 18) (vs 8))) _) _)
   simp only [frm, h8, h13]
   have cM := Top_any (H.out.below hb1).y
   go_simp
   exact adds_below cM
  ·have h8 : vs 8 = _ := hgr 8 (by decide)
   have h9 : vs 9 = _ := hgr 9 (by decide)
   have h11 : vs 11 = _ := hgr 11 (by decide)
   have h14 : vs 14 = _ := hgr 14 (by decide)
   clear hgr
   change Made _ (Adds _ _ _) (Sem.run _ (execOp (Act.eval (Act.put (Act.put (Act.put (Act.put (frm _ _ _ []) (some 24) (vs 14)) (some 21) (vs 11)) (some 19) (vs 9)) (some 18) (vs 8))) _) _)
   simp only [frm, h8, h9, h11, h14]
   have cM := Equal10_any (H.out.below hb1) (HR.out.below hb1).y HAY.out
   go_simp
   exact adds_below cM
  ·have h8 : vs 8 = _ := hgr 8 (by decide)
   have h15 : vs 15 = _ := hgr 15 (by decide)
   clear hgr
   change Made _ (Adds _ _ _) (Sem.run _ (execOp (Act.eval (Act.put (Act.put (frm _ _ _ []) (some 25) (vs 15)) (some 18) (vs 8))) _) _)
   simp only [frm, h8, h15]
   go_simp
   exact adds_val rfl
  ·have h8 : vs 8 = _ := hgr 8 (by decide)
   have h16 : vs 16 = _ := hgr 16 (by decide)
   clear hgr
   change Made _ (Adds _ _ _) (Sem.run _ (execOp (Act.eval (Act.put (Act.put (frm _ _ _ []) (some 26) (vs 16)) (some 18) (vs 8))) _) _)
   simp only [frm, h8, h16]
   go_simp
   exact adds_val rfl
  ·have h17 : vs 17 = _ := hgr 17 (by decide)
   clear hgr
   change Made _ (Adds _ _ _) (Sem.run _ (execOp (Act.eval (Act.put (frm _ _ _ []) (some 27) (vs 17))) _) _)
   simp only [frm, h17]
   go_simp
   exact adds_val rfl
  ·have h18 : vs 18 = _ := hgr 18 (by decide)
   clear hgr
   change Made _ (Adds _ _ _) (Sem.run _ (execOp (Act.eval (Act.put (frm _ _ _ []) (some 28) (vs 18))) _) _)
   simp only [frm, h18]
   go_simp
   exact adds_val rfl
  ·have h18 : vs 18 = _ := hgr 18 (by decide)
   have h19 : vs 19 = _ := hgr 19 (by decide)
   clear hgr
   change Made _ (Adds _ _ _) (Sem.run _ (execOp (Act.eval (Act.put (Act.put (frm _ _ _ []) (some 29) (vs 19)) (some 28) (vs 18))) _) _)
   simp only [frm, h18, h19]
   have cM := Cards_any (HC.out.below hb1) HCI.out.inc HWF.out (by have := HCI.out.len; omega)
   go_simp
   exact adds_call (T := IsT w0.heap.size cs) (hT := IsT.bl) (ob := fun _ => none) cM fun e w2 ⟨v, he, ho, hb⟩ => ⟨v, he, IsT.of ho hb1.size, hb, (fun k hk => nomatch hk)⟩
  ·have h18 : vs 18 = _ := hgr 18 (by decide)
   obtain ⟨Ar, cr, h20, hsr, hcr, hgr20⟩ := hgr 20 (by decide)
   clear hgr
   change Made _ (Adds _ _ _) (Sem.run _ (execOp (Act.eval (Act.put (Act.put (frm _ _ _ []) (some 30) (vs 20)) (some 28) (vs 18))) _) _)
   simp only [frm, h18, h20]
   go_simp
   exact adds_val rfl
  ·have h18 : vs 18 = _ := hgr 18 (by decide)
   clear hgr
   change Made _ (Adds _ _ _) (Sem.run _ (execOp (Act.eval (Act.put (frm _ _ _ []) (some 28) (vs 18))) _) _)
   simp only [frm, h18]
   go_simp
   exact adds_val rfl
  ·have h18 : vs 18 = _ := hgr 18 (by decide)
   have h22 : vs 22 = _ := hgr 22 (by decide)
   clear hgr
   change Made _ (Adds _ _ _) (Sem.run _ (execOp (Act.eval (Act.put (Act.put (frm _ _ _ []) (some 32) (vs 22)) (some 28) (vs 18))) _) _)
   simp only [frm, h18, h22]
   have hbk := HBT.out.below hb1 HBT.out.lt
   have c0 : w1.cell? ⟨bt_, 0, none⟩ = some (.slice A cs.length u) := hbk.cell 0
   clear hbk
   go_simp
   exact adds_val rfl
  ·have h18 : vs 18 = _ := hgr 18 (by decide)
   have h23 : vs 23 = _ := hgr 23 (by decide)
   clear hgr
   change Made _ (Adds _ _ _) (Sem.run _ (execOp (Act.eval (Act.put (Act.put (frm _ _ _ []) (some 33) (vs 23)) (some 28) (vs 18))) _) _)
   simp only [frm, h18, h23]
   go_simp
   exact adds_val rfl
  ·have h18 : vs 18 = _ := hgr 18 (by decide)
   have h21 : vs 21 = _ := hgr 21 (by decide)
   have h24 : vs 24 = _ := hgr 24 (by decide)
   clear hgr
   change Made _ (Adds _ _ _) (Sem.run _ (execOp (Act.eval (Act.put (Act.put (Act.put (frm _ _ _ []) (some 34) (vs 24)) (some 31) (vs 21)) (some 28) (vs 18))) _) _)
   simp only [frm, h18, h21, h24]
   go_simp
   exact adds_val rfl
 ·intro vs w1 hb1 hall hap
  have h18 : vs 18 = _ := (hall 18 (by omega)).1
  have h25 : vs 25 = _ := (hall 25 (by omega)).1
  clear hall hap
  change wpList _ _ _ [_] (Act.put (Act.put (Act.put (Act.put (Act.put (Act.put (Act.put (Act.put (Act.put (Act.put (Act.put (Act.put (Act.put (Act.put (Act.put (Act.put (Act.put (Act.put (Act.put (Act.put (Act.put (Act.put (Act.put (Act.put (Act.put (Act.put (frm _ _ _ []) (some 35) (vs 25)) (some 34) (vs 24)) (some 33) (vs 23)) (some 32) (vs 22)) (some 31) (vs 21)) (some 30) (vs 20)) (some 29) (vs 19)) (some 28) (vs 18)) (some 27) (vs 17)) (some 26) (vs 16)) (some 25) (vs 15)) (some 24) (vs 14)) (some 23) (vs 13)) (some 22) (vs 12)) (some 21) (vs 11)) (some 20) (vs 10)) (some 19) (vs 9)) (some 18) (vs 8)) (some 17) (vs 7)) (some 16) (vs 6)) (some 15) (vs 5)) (some 14) (vs 4)) (some 13) (vs 3)) (some 12) (vs 2)) (some 11) (vs 1)) (some 10) (vs 0)) _
  simp only [frm, h18, h25]
  have H1 := lh (H.out.below hb1)
  have HC1 := lh (HC.out.below hb1)
  have HRC1 := lh (HRC.out.below hb1)
  have HB1 := lh (HB.out.trans (hb1.mono HB.out.size))
  have HBT1 := lh (HBT.out.below hb1 HBT.out.lt)
  clear hb1 H HC HRC HB HBM HBR HBT HAO HAY HWF HR
  go_wp2_with fail
  go_loopw [9] (fun i wr => ∃ j : Nat, i = .int .i64 (j : Int) ∧ j ≤ cs.length ∧ Below w1.heap.size w1 wr) (fun i _ => cs.length - (intOf i).toNat)
  case atStart => exact ⟨0, rfl, Nat.zero_le _, Below.refl _ _⟩
  case round =>
   obtain ⟨j, rfl, hj, hb⟩ := hrel
   have HB2 := lh hb
   have hbt := HBT1.out.below hb HBT1.out.lt
   have r0 : wr.cell? ⟨bt_, 0, none⟩ = some (.slice A cs.length u) := hbt.cell 0
   clear hbt
   by_cases hlt : j < cs.length
   ·have hx : cs[j]? = some cs[j] := List.getElem?_eq_getElem hlt
    have hrg := HCI.out.rg _ (List.mem_of_getElem? hx)
    have cM := Marked_any (HC1.out.below hb) (16 * cs[j])
    have hin : cardIn cs (16 * cs[j]) = true := HCI.out.hit hx
    rw [hin] at cM
    obtain ⟨bb, oo, hA, hbl, hc⟩ := (HRC1.out.below hb).s.sl.2.resolve_left (by omega)
    have hcj : wr.cell? ⟨bb, oo + j, none⟩ = some (.int .i64 cs[j]) := hc j _ (ints_get hx)
    have hcap := HRC1.out.s.cap
    subst hA
    generalize cs[j] = x at *
    have hmul : IntKind.i64.wrap (16 * x) = 16 * x := IntWalk.i64_in _ (by omega)
    clear hb hx hc hin hbl
    go_wp2_with fail
    refine cM.mono ?_
    rintro e w3 ⟨rfl, rfl⟩
    go_wp2_with fail
    go_roundw
    case rel => exact ⟨j + 1, by go_num, by omega, HB2.out⟩
    case measure => simp [intOf]; omega
   ·go_wp2_with fail
    go_ret
    exact ⟨rfl, HB1.out.trans (HB2.out.mono HB1.out.size)⟩
end
end
end Go.Proofs.YtaijmgkjbbiboaaGreat
