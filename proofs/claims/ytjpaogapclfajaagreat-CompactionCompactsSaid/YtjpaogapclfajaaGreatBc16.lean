/- Parts of the proof: RMk2. -/
import Derived.BigQuiet
import Derived.Deep.QuietTactic
import Derived.Lib.QuietBelow
import Derived.Test.YtjpaogapclfajaaGreatBcA
import Derived.Test.YtjpaogapclfajaaGreatBc11
import Derived.Test.YtjpaogapclfajaaGreatBc12
import Derived.Test.YtjpaogapclfajaaGreatBc13
import Derived.Test.YtjpaogapclfajaaGreatBc14
import Derived.Test.YtjpaogapclfajaaGreatBc15
set_option linter.unusedVariables false
set_option linter.unusedSimpArgs false
set_option linter.unusedSectionVars false
namespace Go.Proofs.YtjpaogapclfajaaGreat
open Go.RowKit Go.Sort
attribute [local go_sem] Oper.semAt_some
set_option maxRecDepth 100000
theorem Mm.one_at (s : Spc) (a : Int) : (Mm.one s).at_ a = s.at_ a := by
 unfold Mm.at_ Mm.sp Mm.one
 dsimp only
 by_cases h : s.has a = true
 ·rw [if_pos h]
 ·have h' : s.has a = false := by simpa using h
  rw [if_neg h, Spc.at_none h', Spc.at_none]
  unfold Spc.has Spc.new
  exact decide_eq_false (by simp <;> omega)
theorem Mm.zer_ok {s : Spc} (h : s.Ok) (hb : s.base = 0) (hl : s.limit ≤ 16777216) : (Mm.zer s).Ok2 := by
 have h2 := (Mm.one_ok h hb hl).two
 refine ⟨h, ⟨(fun x hx => by cases hx), (by show (0 : Int) ≤ 0; decide), (by show (0 : Int) + 0 ≤ 0; decide), (by show (0 : Int) ≤ 4294967296; decide)⟩, fun a h0 h4 => ?_, fun a x hx => ?_, fun a ha => ?_⟩
 ·rw [Mm.zer_hdr] at h0 h4
  rw [Mm.zer_at, Mm.zer_nxt]
  exact h2.fwd a h0 h4
 ·rw [Mm.zer_at] at hx
  exact h2.u a x hx
 ·rw [Mm.zer_has] at ha
  exact h2.has a ha
theorem RS.zero (w : World) : RS w ⟨0, 0, []⟩ none 0 := ⟨Sl.nil _ _ _, Nat.le_refl _, (fun x hx => by cases hx), Int.le_refl _, (by show (0 : Int) + 0 ≤ 0; decide), (by show (0 : Int) ≤ 4294967296; decide), (fun b o e => by cases e)⟩
theorem RS.zer {w : World} {s : Spc} {A : Option Addr} {c : Nat} (h : RS w s A c) : RM w (Mm.zer s) A c none 0 := ⟨h, RS.zero w⟩
theorem Mm.f_rg (m : Mm) (a : Int) : 0 ≤ (m.hdr a).2.f ∧ (m.hdr a).2.f ≤ 30 := by
 by_cases h : (m.hdr a).1 = 0
 ·have := (vH_iff _).1 (Mm.hdr_valid h)
  omega
 ·rw [Mm.hdr_zero h]
  exact ⟨by decide, by decide⟩
theorem ownBase {w : World} {B B' n s : Nat} {e : TypeId} {v : Value} {xs : List Value} (h : w.ownsRow B e s v n xs) (hb : B' ≤ B) : w.ownsRow B' e s v n xs := by
 obtain ⟨h1, h2 | ⟨g, cap, cur, rfl, h3, h4, h5⟩⟩ := h
 ·exact ⟨h1, .inl h2⟩
 ·exact ⟨h1, .inr ⟨g, cap, cur, rfl, Nat.le_trans hb h3, h4, h5⟩⟩
theorem flds_len (m : Mm) (a : Int) : (m.flds a).length = (m.hdr a).2.f.toNat := by simp [Mm.flds]
theorem fldR_len (m : Mm) (a : Int) : (m.fldR a).length ≤ 30 := by
 have := m.f_rg a
 unfold Mm.fldR
 split
 ·simp
 ·rw [flds_len]; omega
theorem Mm.Ok.flds_u {m : Mm} (h : m.Ok) (a : Int) : ∀ x ∈ m.flds a, U64 x := fun x hx => by
 obtain ⟨i, _, rfl⟩ := List.mem_map.1 hx
 exact h.fld_u _
theorem Mm.Ok.fldR_u {m : Mm} (h : m.Ok) (a : Int) : ∀ x ∈ m.fldR a, U64 x := fun x hx => by
 unfold Mm.fldR at hx
 split at hx
 ·cases hx
 ·exact h.flds_u a x hx
section
variable {w : World} {s : Spc} {A : Option Addr} {c : Nat}
set_option maxHeartbeats 1000000 in
theorem RMemory_any (h : RS w s A c) : Calls Tryz.prog 67 #[rsV s A c] w fun e w' => e = .returned (.agg #[.int .i64 s.base, .int .i64 s.limit, .slice A s.ws.length c, .int .i64 0, .int .i64 0, .slice none 0 0]) ∧ Below w.heap.size w w' := by
 have cN := fun w => RSNew_any (w := w) 0 0 (.inl rfl) (by decide) (by decide)
 simp only [Int.add_zero] at cN
 have HB : Hid (Below w.heap.size w ((w.alloc (.cells #[.int .i64 s.base, .int .i64 s.limit, .slice A s.ws.length c] 30)).alloc (.cells #[.int .i64 0, .int .i64 0, .slice none 0 0, .int .i64 0, .int .i64 0, .slice none 0 0] 32))) := lh (((Below.refl _ _).alloc (Nat.le_refl _) _).alloc (by simp) _)
 have HQ : Hid (Bk ((w.alloc (.cells #[.int .i64 s.base, .int .i64 s.limit, .slice A s.ws.length c] 30)).alloc (.cells #[.int .i64 0, .int .i64 0, .slice none 0 0, .int .i64 0, .int .i64 0, .slice none 0 0] 32)) w.heap.size 30 #[.int .i64 s.base, .int .i64 s.limit, .slice A s.ws.length c]) := lh ((Bk.new _ _ _).alloc _)
 have HZ : Hid (Bk ((w.alloc (.cells #[.int .i64 s.base, .int .i64 s.limit, .slice A s.ws.length c] 30)).alloc (.cells #[.int .i64 0, .int .i64 0, .slice none 0 0, .int .i64 0, .int .i64 0, .slice none 0 0] 32)) (w.heap.size + 1) 32 #[.int .i64 0, .int .i64 0, .slice none 0 0, .int .i64 0, .int .i64 0, .slice none 0 0]) := lh (Bk.here _ _ _ (by simp))
 unfold rsV
 clear h
 go_enter Tryz.func67, Tryz.ntmps67
 go_upto_region 1 with fail
 generalize (w.alloc (.cells #[.int .i64 s.base, .int .i64 s.limit, .slice A s.ws.length c] 30)).alloc (.cells #[.int .i64 0, .int .i64 0, .slice none 0 0, .int .i64 0, .int .i64 0, .slice none 0 0] 32) = wB at *
 refine wp_region_adds0 3 (fun i => ([[], [], [0, 1]] : List (List Nat)).getD i []) (EL [Ent.val (.agg #[.int .i64 s.base, .int .i64 s.limit, .slice A s.ws.length c]), Ent.val (.agg #[.int .i64 0, .int .i64 0, .slice none 0 0]), Ent.val (.agg #[.int .i64 s.base, .int .i64 s.limit, .slice A s.ws.length c, .int .i64 0, .int .i64 0, .slice none 0 0])]) (by kernel_rfl) (by kernel_rfl) (by kernel_rfl) (by kernel_rfl) (by rfl) ?_ ?_
 ·intro i hi o ho vs w1 hb1 hgr
  rcases (show i = 0 ∨ i = 1 ∨ i = 2 by omega) with rfl | rfl | rfl <;> cases ho
  ·clear hgr
   change Made _ (Adds _ _ _) (Sem.run _ (execOp (Act.eval (frm _ _ _ [])) _) _)
   simp only [frm]
   have hbk := HQ.out.below hb1 HQ.out.lt
   have c0 : w1.cell? ⟨w.heap.size, 0, none⟩ = some (.int .i64 s.base) := hbk.cell 0
   have c1 : w1.cell? ⟨w.heap.size, 1, none⟩ = some (.int .i64 s.limit) := hbk.cell 1
   have c2 : w1.cell? ⟨w.heap.size, 2, none⟩ = some (.slice A s.ws.length c) := hbk.cell 2
   clear hbk
   go_simp
   exact adds_val rfl
  ·clear hgr
   change Made _ (Adds _ _ _) (Sem.run _ (execOp (Act.eval (frm _ _ _ [])) _) _)
   simp only [frm]
   go_simp
   exact adds_below (cN _)
  ·have h0 : vs 0 = _ := hgr 0 (by decide)
   have h1 : vs 1 = _ := hgr 1 (by decide)
   clear hgr
   change Made _ (Adds _ _ _) (Sem.run _ (execOp (Act.eval (Act.put (Act.put (frm _ _ _ []) (some 4) (vs 1)) (some 3) (vs 0))) _) _)
   simp only [frm, h0, h1]
   go_simp
   exact adds_val rfl
 ·intro vs w1 hb1 hall hap
  have h2 : vs 2 = _ := (hall 2 (by omega)).1
  clear hall hap
  change wpList _ _ _ [_] (Act.put (Act.put (Act.put (frm _ _ _ []) (some 5) (vs 2)) (some 4) (vs 1)) (some 3) (vs 0)) _
  simp only [frm, h2]
  have hz := HZ.out.below hb1 HZ.out.lt
  have d0 := hz.cell 0
  have d1 := hz.cell 1
  have d2 := hz.cell 2
  have d3 := hz.cell 3
  have d4 := hz.cell 4
  have d5 := hz.cell 5
  have f0 := hz.free 0
  have f1 := hz.free 1
  have f2 := hz.free 2
  have f3 := hz.free 3
  have f4 := hz.free 4
  have f5 := hz.free 5
  simp only [List.getElem?_toArray, List.getElem?_cons_zero, List.getElem?_cons_succ] at d0 d1 d2 d3 d4 d5
  have HB1 := lh (HB.out.trans (hb1.mono HB.out.size))
  clear hb1 hz h2 cN
  go_wp2_with fail
  refine bodyPost_ret (v := .agg #[.int .i64 s.base, .int .i64 s.limit, .slice A s.ws.length c, .int .i64 0, .int .i64 0, .slice none 0 0]) (by simp [results, Tryz.results67, go_sem, d0, d1, d2, d3, d4, d5]) rfl ⟨rfl, ?_⟩
  exact (((((HB1.out.setCell (p := ⟨w.heap.size + 1, 0, none⟩) (by simp) _).setCell (p := ⟨w.heap.size + 1, 1, none⟩) (by simp) _).setCell (p := ⟨w.heap.size + 1, 2, none⟩) (by simp) _).setCell (p := ⟨w.heap.size + 1, 3, none⟩) (by simp) _).setCell (p := ⟨w.heap.size + 1, 4, none⟩) (by simp) _).setCell (p := ⟨w.heap.size + 1, 5, none⟩) (by simp) _
/-- what Refers returns -/
def rfsV (o : Option (Option Int)) : Value := match o with
 | none => .tuple #[.int .i64 0, .bool false, .bool true]
 | some none => .tuple #[.int .i64 0, .bool false, .bool false]
 | some (some a) => .tuple #[.int .i64 a, .bool true, .bool false]
theorem Mm.resolve_fst {m : Mm} {a : Int} (h : (m.resolve a).2 ≠ 0) : (m.resolve a).1 = 0 := by
 unfold Mm.resolve at h ⊢
 split
 ·rfl
 ·rename_i hh
  rw [if_neg hh] at h
  split
  ·rename_i b hb; rw [hb] at h; exact absurd rfl h
  ·rfl
set_option maxHeartbeats 1000000 in
theorem Refers_any (h : RS w s A c) (hb : s.base = 0) (hl : s.limit ≤ 16777216) {x : Int} (hx : U64 x) : Calls Tryz.prog 28 #[.agg #[.int .i64 s.base, .int .i64 s.limit, .slice A s.ws.length c], .int .u64 x] w fun e w' => e = .returned (rfsV ((Mm.one s).rfr x)) ∧ Below w.heap.size w w' := by
 have HB := lh (boxS w s A c)
 have HQ := lh (Bk.new w 30 #[.int .i64 s.base, .int .i64 s.limit, .slice A s.ws.length c])
 have cA := fun w => RAddress_any hx w
 have H := lh (h.below HB.out)
 have OK := lh (Mm.zer_ok h.ok hb hl)
 unfold adrV at cA
 unfold Mm.rfr
 clear h hb hl
 cases ha : adr x with
 | none =>
  simp only [ha] at cA
  clear ha hx
  unfold rfsV
  go_enter Tryz.func28, Tryz.ntmps28
  go_wp2_with fail
  refine (cA _).mono ?_
  rintro e w1 ⟨rfl, rfl⟩
  go_wp2_with fail
  go_ret3
  exact ⟨rfl, HB.out⟩
 | some a =>
  simp only [ha] at cA
  clear ha hx
  have cM := RMemory_any H.out
  unfold rsV at cM
  have cR := fun {w2 : World} (hb : Below (w.alloc (.cells #[.int .i64 s.base, .int .i64 s.limit, .slice A s.ws.length c] 30)).heap.size (w.alloc (.cells #[.int .i64 s.base, .int .i64 s.limit, .slice A s.ws.length c] 30)) w2) => RResolve_go (H.out.below hb).zer OK.out a
  simp only [Mm.zer_resolve] at cR
  unfold rmV Mm.zer at cR
  have hfst := @Mm.resolve_fst (Mm.one s) a
  obtain ⟨q, hq⟩ : ∃ q, q = (Mm.one s).resolve a := ⟨_, rfl⟩
  rw [← hq] at hfst
  simp only [← hq] at cR
  dsimp only
  rw [← hq]
  obtain ⟨b, er⟩ := q
  dsimp only at cR hfst ⊢
  clear hq
  by_cases he : er = 0
  ·subst he
   rw [if_pos rfl]
   unfold rfsV
   clear hfst
   go_enter Tryz.func28, Tryz.ntmps28
   go_wp2_with fail
   refine (cA _).mono ?_
   rintro e w1 ⟨rfl, rfl⟩
   go_wp2_with fail
   refine cM.mono ?_
   rintro e w2 ⟨rfl, hb2⟩
   have cR := cR hb2
   have HB2 := lh (HB.out.trans (hb2.mono HB.out.size))
   clear hb2
   go_wp2_with fail
   refine cR.mono ?_
   rintro e w3 ⟨rfl, hb3⟩
   have HB3 := lh (HB2.out.trans (hb3.mono HB2.out.size))
   clear hb3
   go_wp2_with fail
   go_ret3
   exact ⟨rfl, HB3.out⟩
  ·rw [if_neg he]
   obtain rfl := hfst he
   have e1 : (er == 0) = false := by simp [he]
   have e2 : (er != 0) = true := by simp [he]
   unfold rfsV
   clear hfst he
   go_enter Tryz.func28, Tryz.ntmps28
   go_wp2_with fail
   refine (cA _).mono ?_
   rintro e w1 ⟨rfl, rfl⟩
   go_wp2_with fail
   refine cM.mono ?_
   rintro e w2 ⟨rfl, hb2⟩
   have cR := cR hb2
   have HB2 := lh (HB.out.trans (hb2.mono HB.out.size))
   clear hb2
   go_wp2_with fail
   refine cR.mono ?_
   rintro e w3 ⟨rfl, hb3⟩
   have HB3 := lh (HB2.out.trans (hb3.mono HB2.out.size))
   clear hb3
   go_wp2_with fail
   go_ret3
   exact ⟨rfl, HB3.out⟩
theorem R11Has_any {l : List Int} (h : IS w l A c) (hl : l.length ≤ 140737488355328) (n : Int) : Calls Tryz.prog 21 #[.slice A l.length c, .int .i64 n] w fun e w' => e = .returned (.bool (l.contains n)) ∧ w = w' := by
 have H := lh h
 have hcap := h.cap
 obtain ⟨R, hR⟩ : ∃ R, R = l.contains n := ⟨_, rfl⟩
 rw [← hR]
 have HR := lh hR
 clear h hR
 go_enter Tryz.func21, Tryz.ntmps21
 go_wp2_with fail
 go_loop [5] (fun i => ∃ j : Nat, i = .int .i64 (j : Int) ∧ j ≤ l.length ∧ (l.drop j).contains n = R) (fun i => l.length - (intOf i).toNat)
 case atStart => exact ⟨0, rfl, Nat.zero_le _, by rw [List.drop_zero]; exact HR.out.symm⟩
 case round =>
  obtain ⟨j, rfl, hj, hc⟩ := hrel
  have HC := lh hc
  clear hc
  by_cases hlt : j < l.length
  ·obtain ⟨b, o, rfl, hbl, hcc⟩ := H.out.sl.get hlt
   have t1 : l[j]? = some l[j] := List.getElem?_eq_getElem hlt
   have e1 : w.cell? ⟨b, o + j, none⟩ = some (.int .i64 l[j]) := hcc j _ (ints_get t1)
   have hd : Hid (l.drop j = l[j] :: l.drop (j + 1)) := lh (List.drop_eq_getElem_cons hlt)
   generalize l[j] = x at e1 hd t1
   have hcj : j < c := by omega
   clear t1 hcc
   by_cases hxy : x = n
   ·have hb : (x == n) = true := by simp [hxy]
    have HX := lh hxy
    clear hxy
    go_wp2_with fail
    go_ret
    refine ⟨ret_bool ?_, rfl⟩
    rw [← HC.out, hd.out, HX.out]
    simp
   ·have hb : (x == n) = false := by simp [hxy]
    have HX := lh hxy
    clear hxy
    go_wp2_with fail
    go_round
    case rel =>
     refine ⟨j + 1, by go_num, by omega, ?_⟩
     rw [← HC.out, hd.out, List.contains_cons, show (n == x) = false from beq_false_of_ne fun e => HX.out e.symm, Bool.false_or]
    case measure => simp [intOf]; omega
  ·go_wp2_with fail
   go_ret
   refine ⟨ret_bool ?_, rfl⟩
   rw [← HC.out, List.drop_eq_nil_of_le (by omega)]
   rfl
/-- what Fields returns -/
def FieldsP (w : World) (h : Hdr) (xs : List Int) (e : Ending) (w' : World) : Prop := ∃ v, e = .returned (.tuple #[.agg #[.int .i64 h.k, .int .i64 h.c, .int .i64 h.f], v]) ∧ w'.ownsRow w.heap.size 51 1 v xs.length (wds xs) ∧ Below w.heap.size w w'
theorem Mm.flds_take (m : Mm) (a : Int) {j : Nat} (h : j < (m.hdr a).2.f.toNat) : (m.flds a).take (j + 1) = (m.flds a).take j ++ [(m.at_ (a + 2 + (j : Int))).getD 0] := by
 rw [List.take_add_one, Mm.flds_get m a h]
 rfl
def RFl (w : World) (A : Option Addr) (c : Nat) (s : Spc) (a : Int) : Prop := Calls Tryz.prog 29 #[.agg #[.int .i64 s.base, .int .i64 s.limit, .slice A s.ws.length c], .int .i64 a] w (FieldsP w ((Mm.one s).hdr a).2 ((Mm.one s).fldR a))
set_option maxHeartbeats 2000000 in
theorem RFields_any (h : RS w s A c) (a : Int) (ha : -1000000000000 ≤ a ∧ a ≤ 1000000000000) : RFl w A c s a := by
 unfold RFl
 have hf := (Mm.one s).f_rg a
 have hHB : Below w.heap.size w ((w.alloc (.cells #[.int .i64 s.base, .int .i64 s.limit, .slice A s.ws.length c] 30)).alloc (.cells #[.int .i64 0, .int .i64 0, .int .i64 0] 55)) := ((Below.refl _ _).alloc (Nat.le_refl _) _).alloc (by simp) _
 have HB := lh hHB
 have HQ : Hid (Bk ((w.alloc (.cells #[.int .i64 s.base, .int .i64 s.limit, .slice A s.ws.length c] 30)).alloc (.cells #[.int .i64 0, .int .i64 0, .int .i64 0] 55)) w.heap.size 30 #[.int .i64 s.base, .int .i64 s.limit, .slice A s.ws.length c]) := lh ((Bk.new _ _ _).alloc _)
 have HZ : Hid (Bk ((w.alloc (.cells #[.int .i64 s.base, .int .i64 s.limit, .slice A s.ws.length c] 30)).alloc (.cells #[.int .i64 0, .int .i64 0, .int .i64 0] 55)) (w.heap.size + 1) 55 #[.int .i64 0, .int .i64 0, .int .i64 0]) := lh (Bk.here _ _ _ (by simp))
 have H := lh (h.below hHB)
 have cM := RMemory_any H.out
 unfold rsV at cM
 have cH := fun {w2 : World} (hb : Below ((w.alloc (.cells #[.int .i64 s.base, .int .i64 s.limit, .slice A s.ws.length c] 30)).alloc (.cells #[.int .i64 0, .int .i64 0, .int .i64 0] 55)).heap.size ((w.alloc (.cells #[.int .i64 s.base, .int .i64 s.limit, .slice A s.ws.length c] 30)).alloc (.cells #[.int .i64 0, .int .i64 0, .int .i64 0] 55)) w2) => RHeader_any (H.out.below hb).zer a
 simp only [Mm.zer_hdr] at cH
 unfold rmV Mm.zer hdrV Hdr.val at cH
 have HF := lh (fun j (hj : j < ((Mm.one s).hdr a).2.f.toNat) => (Mm.one s).flds_take a hj)
 have HFL := lh (flds_len (Mm.one s) a)
 have HR : Hid ((Mm.one s).fldR a = if ((Mm.one s).hdr a).2.k = 3 ∨ ((Mm.one s).hdr a).2.k = 4 then [] else (Mm.one s).flds a) := lh rfl
 obtain ⟨rs, hrs⟩ : ∃ rs, rs = (Mm.one s).fldR a := ⟨_, rfl⟩
 rw [← hrs] at HR ⊢
 obtain ⟨q, hq⟩ : ∃ q, q = (Mm.one s).hdr a := ⟨_, rfl⟩
 rw [← hq] at HR HF HFL hf ⊢
 simp only [← hq] at cH
 obtain ⟨er, hd⟩ := q
 dsimp only at cH hf HR HF HFL ⊢
 clear hq hrs hHB h
 go_enter Tryz.func29, Tryz.ntmps29
 go_wp2_with fail
 refine cM.mono ?_
 rintro e w2 ⟨rfl, hb2⟩
 have cH := cH hb2
 have HB2 := lh hb2
 clear hb2
 go_wp2_with fail
 refine cH.mono ?_
 rintro e w3 ⟨rfl, hb3⟩
 have HB3 := lh (HB2.out.trans (hb3.mono HB2.out.size))
 clear hb3 cH cM HB2
 go_upto_region 2 with fail
 have hb4 : Below w3.heap.size w3 (w3.alloc (.cells #[.int .i64 hd.k, .int .i64 hd.c, .int .i64 hd.f] 55)) := (Below.refl _ _).alloc (Nat.le_refl _) _
 have HH : Hid (Bk (w3.alloc (.cells #[.int .i64 hd.k, .int .i64 hd.c, .int .i64 hd.f] 55)) w3.heap.size 55 #[.int .i64 hd.k, .int .i64 hd.c, .int .i64 hd.f]) := lh (Bk.new _ _ _)
 have HB4 := lh (HB3.out.trans (hb4.mono HB3.out.size))
 have HQ4 := lh (HQ.out.below HB4.out HQ.out.lt)
 have HZ4 := lh (HZ.out.below HB4.out HZ.out.lt)
 have H4 := lh (H.out.below HB4.out)
 have HW4 := lh (HB.out.trans (HB4.out.mono HB.out.size))
 clear hb4 HB3 HB4 HQ HZ H HB
 generalize w3.alloc (.cells #[.int .i64 hd.k, .int .i64 hd.c, .int .i64 hd.f] 55) = w4 at *
 generalize w3.heap.size = gh at *
 have hgw := HW4.out.size
 have g0 : w4.cell? ⟨gh, 0, none⟩ = some (.int .i64 hd.k) := HH.out.cell 0
 have g1 : w4.cell? ⟨gh, 1, none⟩ = some (.int .i64 hd.c) := HH.out.cell 1
 have g2 : w4.cell? ⟨gh, 2, none⟩ = some (.int .i64 hd.f) := HH.out.cell 2
 have hgl := HH.out.lt
 have d0 : w4.cell? ⟨w.heap.size + 1, 0, none⟩ = some (.int .i64 0) := HZ4.out.cell 0
 have d1 : w4.cell? ⟨w.heap.size + 1, 1, none⟩ = some (.int .i64 0) := HZ4.out.cell 1
 have d2 : w4.cell? ⟨w.heap.size + 1, 2, none⟩ = some (.int .i64 0) := HZ4.out.cell 2
 have f0 := HZ4.out.free 0
 have f1 := HZ4.out.free 1
 have f2 := HZ4.out.free 2
 have hz4 := HZ4.out.lt
 have hne4 : w.heap.size + 1 ≠ w4.heap.size := by omega
 by_cases hst : hd.k = 3 ∨ hd.k = 4
 ·have HRS : Hid (rs = []) := lh (by rw [HR.out, if_pos hst])
  have hd34 : ((hd.k == 3) = true) ∨ ((hd.k == 3) = false ∧ (hd.k == 4) = true) := by
   rcases hst with h3 | h4
   ·exact .inl (by simp [h3])
   ·exact .inr ⟨by simp [h4], by simp [h4]⟩
  clear hst HR HF HFL
  rcases hd34 with h3 | ⟨h3, h4⟩
  all_goals
   go_wp2_with fail
   refine bodyPost_ret (v := .tuple #[.agg #[.int .i64 hd.k, .int .i64 hd.c, .int .i64 hd.f], .slice (some ⟨w4.heap.size, 0, none⟩) 0 0]) (by simp [results, Tryz.results29, go_sem, d0, d1, d2, hz4, hne4]) rfl ⟨_, rfl, ?_, ?_⟩
   ·rw [HRS.out]
    exact ownEmpty 1 (Bk.here _ _ _ (by simp)) hgw
   ·exact (below_set3 HW4.out (by omega) _ _ _).alloc (by simp; omega) _
 ·have HRS : Hid (rs = (Mm.one s).flds a) := lh (by rw [HR.out, if_neg hst])
  have h3 : (hd.k == 3) = false := by simp; omega
  have h4 : (hd.k == 4) = false := by simp; omega
  have cL := fun {w5 : World} (hb : Below w4.heap.size w4 w5) (b : Int) => RSLoad_any (H4.out.below hb) b
  simp only [ldV_eq] at cL
  simp only [← Mm.one_at] at cL
  unfold rsV at cL
  clear hst HR
  obtain ⟨fl, hfl⟩ : ∃ fl, fl = (Mm.one s).flds a := ⟨_, rfl⟩
  rw [← hfl] at HRS HFL
  simp only [← hfl] at HF
  clear hfl
  go_wp2_with fail
  go_loopw [8, 9] (fun v i wr => ∃ j : Nat, i = .int .i64 (j : Int) ∧ j ≤ hd.f.toNat ∧ wr.ownsRow w4.heap.size 51 1 v j (wds (fl.take j)) ∧ Below w4.heap.size w4 wr) (fun _ i _ => hd.f.toNat - (intOf i).toNat)
  case atStart => exact ⟨0, rfl, Nat.zero_le _, ownEmpty 1 (Bk.new _ _ _) (Nat.le_refl _), (Below.refl _ _).alloc (Nat.le_refl _) _⟩
  case round =>
   obtain ⟨j, rfl, hj, hown, hb⟩ := hrel
   have HO := lh hown
   have HBr := lh hb
   have hhr := HH.out.below hb HH.out.lt
   have hqr := HQ4.out.below hb HQ4.out.lt
   have hzr := HZ4.out.below hb HZ4.out.lt
   clear g0 g1 g2 d0 d1 d2 f0 f1 f2
   have g0 : wr.cell? ⟨gh, 0, none⟩ = some (.int .i64 hd.k) := hhr.cell 0
   have g1 : wr.cell? ⟨gh, 1, none⟩ = some (.int .i64 hd.c) := hhr.cell 1
   have g2 : wr.cell? ⟨gh, 2, none⟩ = some (.int .i64 hd.f) := hhr.cell 2
   obtain ⟨A0, c0, rfl, hac⟩ := own_shape hown
   have hbs := hb.size
   by_cases hlt : j < hd.f.toNat
   ·have q0 : wr.cell? ⟨w.heap.size, 0, none⟩ = some (.int .i64 s.base) := hqr.cell 0
    have q1 : wr.cell? ⟨w.heap.size, 1, none⟩ = some (.int .i64 s.limit) := hqr.cell 1
    have q2 : wr.cell? ⟨w.heap.size, 2, none⟩ = some (.slice A s.ws.length c) := hqr.cell 2
    have cL := cL hb (a + 2 + (j : Int))
    have HT := lh (HF.out j hlt)
    obtain ⟨i0, hi, hz0, hz1, hz2⟩ := info_parts Tryz.infoU
    have HI := lh (And.intro hi (And.intro hz0 (And.intro hz1 hz2)))
    obtain ⟨ox, hox⟩ : ∃ ox, ox = (Mm.one s).at_ (a + 2 + (j : Int)) := ⟨_, rfl⟩
    rw [← hox] at cL HT
    have hdlt : (j : Int) < hd.f := by omega
    clear hox hown hb hhr hqr hzr hi hz0 hz1 hz2
    unfold atV at cL
    rcases ox with _ | y
    all_goals
     simp only [Option.getD_none, Option.getD_some] at HT
     dsimp only at cL
     go_wp2_with fail
     refine cL.mono ?_
     rintro e w6 ⟨rfl, hb6⟩
     have HB6 := lh (HBr.out.trans (hb6.mono HBr.out.size))
     have HO6 := lh (own_local HO.out fun k hk => hb6.block k (HO.out.lt k hk).2)
     have hb6s := hb6.size
     clear hb6 cL
    ·go_wp2_with (at_builtin; refine wpList_append_own_at _ rfl (.tmp 45) (.tmp 47) 28 rfl w4.heap.size 51 i0 (.int .u64 0) 1 8 Tryz.underlying28 HI.out.1 HI.out.2.1 HI.out.2.2.1 HI.out.2.2.2 rfl (by decide) _ j _ rfl (HO6.out.alloc _) ⟨w6.heap.size, 0, none⟩ 1 1 [.int .u64 0] rfl rfl (cell_one_new _ _ _) (by simp [Value.oneCell']) (by unfold maxLen; omega) (by omega) (by simp; omega) ?_; intro v' w7 hown3 hg3 _ hloc; have HOWN3 := lh hown3; have HG3 := lh hg3; clear hown3 hg3 hloc)
     go_roundw
     case rel =>
      refine ⟨j + 1, by go_num, by omega, ?_, ?_⟩
      ·rw [HT.out, show wds (fl.take j ++ [0]) = wds (fl.take j) ++ [.int .u64 0] by simp [wds]]; exact HOWN3.out
      ·exact (HB6.out.alloc (by omega) _).grown HG3.out (by simp; omega) (fun k hk => (HO6.out.lt k hk).1)
     case measure => simp [intOf]; omega
    ·go_wp2_with (at_builtin; refine wpList_append_own_at _ rfl (.tmp 45) (.tmp 47) 28 rfl w4.heap.size 51 i0 (.int .u64 0) 1 8 Tryz.underlying28 HI.out.1 HI.out.2.1 HI.out.2.2.1 HI.out.2.2.2 rfl (by decide) _ j _ rfl (HO6.out.alloc _) ⟨w6.heap.size, 0, none⟩ 1 1 [.int .u64 y] rfl rfl (cell_one_new _ _ _) (by simp [Value.oneCell']) (by unfold maxLen; omega) (by omega) (by simp; omega) ?_; intro v' w7 hown3 hg3 _ hloc; have HOWN3 := lh hown3; have HG3 := lh hg3; clear hown3 hg3 hloc)
     go_roundw
     case rel =>
      refine ⟨j + 1, by go_num, by omega, ?_, ?_⟩
      ·rw [HT.out, show wds (fl.take j ++ [y]) = wds (fl.take j) ++ [.int .u64 y] by simp [wds]]; exact HOWN3.out
      ·exact (HB6.out.alloc (by omega) _).grown HG3.out (by simp; omega) (fun k hk => (HO6.out.lt k hk).1)
     case measure => simp [intOf]; omega
   ·have d0 : wr.cell? ⟨w.heap.size + 1, 0, none⟩ = some (.int .i64 0) := hzr.cell 0
    have d1 : wr.cell? ⟨w.heap.size + 1, 1, none⟩ = some (.int .i64 0) := hzr.cell 1
    have d2 : wr.cell? ⟨w.heap.size + 1, 2, none⟩ = some (.int .i64 0) := hzr.cell 2
    have f0 := hzr.free 0
    have f1 := hzr.free 1
    have f2 := hzr.free 2
    have hdlt : ¬ (j : Int) < hd.f := by omega
    have HJ : Hid (j = hd.f.toNat) := lh (by omega)
    clear hown hb hhr hqr hzr
    go_wp2_with fail
    refine bodyPost_ret (v := .tuple #[.agg #[.int .i64 hd.k, .int .i64 hd.c, .int .i64 hd.f], .slice A0 j c0]) (by simp [results, Tryz.results29, go_sem, d0, d1, d2]) rfl ⟨_, rfl, ?_, ?_⟩
    ·have ho := HO.out
     rw [List.take_of_length_le (by rw [HFL.out, HJ.out]; exact Nat.le_refl _)] at ho
     rw [HRS.out, HFL.out, ← HJ.out]
     refine own_local (ownBase ho hgw) fun k hk => ?_
     have := (HO.out.lt k hk).1
     rw [Below.heap_setCell _ _ _ _ (by simp; omega), Below.heap_setCell _ _ _ _ (by simp; omega), Below.heap_setCell _ _ _ _ (by simp; omega)]
    ·exact below_set3 (HW4.out.trans (HBr.out.mono hgw)) (by omega) _ _ _
end
end Go.Proofs.YtjpaogapclfajaaGreat
namespace Go.Proofs.YtjpaogapclfajaaGreat
open Go.RowKit Go.Sort
attribute [local go_sem] Oper.semAt_some onlyN_normal
set_option maxRecDepth 100000
theorem own_ne_own {w : World} {B B' n n' s s' k : Nat} {e e' : TypeId} {v v' : Value} {xs xs' : List Value} (h : w.ownsRow B e s v n xs) (h' : w.ownsRow B' e' s' v' n' xs') (ht : e ≠ e') (hk : v.ownBlock = some k) : v'.ownBlock ≠ some k := fun hk' => by
 obtain ⟨_, ⟨rfl, _⟩ | ⟨g, cap, cur, rfl, _, h4, _⟩⟩ := h
 ·cases hk
 ·obtain ⟨_, ⟨rfl, _⟩ | ⟨g', cap', cur', rfl, _, h4', _⟩⟩ := h'
  ·cases hk'
  ·have e1 : g = k := by injection hk
   have e2 : g' = k := by injection hk'
   subst e1
   subst e2
   rw [h4'] at h4
   injection h4 with h4
   injection h4 with _ h4
   exact ht h4.symm
/-- what Fields hands back, as a value of a region -/
def FldT (B : Nat) (hd : Hdr) (xs : List Int) (v : Value) (w : World) : Prop := ∃ u, v = .tuple #[.agg #[.int .i64 hd.k, .int .i64 hd.c, .int .i64 hd.f], u] ∧ w.ownsRow B 51 1 u xs.length (wds xs)
theorem FldT.below {B : Nat} {hd : Hdr} {xs : List Int} (v : Value) (w w' : World) (h : FldT B hd xs v w) (hb : Below w.heap.size w w') : FldT B hd xs v w' := let ⟨u, e, h1⟩ := h; ⟨u, e, own_local h1 fun k hk => hb.block k (h1.lt k hk).2⟩
/-- the step of the inner loop -/
def Mm.strN (m : Mm) (k : Int) (l out : List Int) : Option (List Int) := if k = 2 then m.chkW l out else m.addW l out
section
variable {m : Mm} {k x : Int} {l out : List Int}
theorem Mm.strN_nil : m.strN k [] out = some out := by unfold Mm.strN; split <;> rfl
theorem Mm.strN_none (h : m.rfr x = none) : m.strN k (x :: l) out = none := by
 unfold Mm.strN Mm.chkW Mm.addW
 split <;> rw [h]
theorem Mm.strN_skip (h : m.rfr x = some none) : m.strN k (x :: l) out = m.strN k l out := by
 unfold Mm.strN
 split
 ·conv => lhs; unfold Mm.chkW; rw [h]
 ·conv => lhs; unfold Mm.addW; rw [h]
theorem Mm.strN_weak {b : Int} (hk : k = 2) (h : m.rfr x = some (some b)) : m.strN k (x :: l) out = m.strN k l out := by
 unfold Mm.strN
 rw [if_pos hk, if_pos hk]
 conv => lhs; unfold Mm.chkW; rw [h]
theorem Mm.strN_has {b : Int} (hk : k ≠ 2) (h : m.rfr x = some (some b)) (hc : out.contains b = true) : m.strN k (x :: l) out = m.strN k l out := by
 unfold Mm.strN
 rw [if_neg hk, if_neg hk]
 conv => lhs; unfold Mm.addW; rw [h]
 dsimp only
 rw [if_pos hc]
theorem Mm.strN_push {b : Int} (hk : k ≠ 2) (h : m.rfr x = some (some b)) (hc : out.contains b = false) : m.strN k (x :: l) out = m.strN k l (out ++ [b]) := by
 unfold Mm.strN
 rw [if_neg hk, if_neg hk]
 conv => lhs; unfold Mm.addW; rw [h]
 dsimp only
 rw [if_neg (by rw [hc]; simp)]
theorem Mm.bfs_end {f i : Nat} (h : out[i]? = none) : m.bfs f i out = some out := by
 cases f with
 | zero => rfl
 | succ f => unfold Mm.bfs; rw [h]
theorem Mm.bfs_bad {f i : Nat} {a : Int} (h : out[i]? = some a) (hs : m.strN (m.hdr a).2.k (m.fldR a) out = none) : m.bfs (f + 1) i out = none := by
 unfold Mm.bfs
 rw [h]
 dsimp only
 rw [show m.str1 a (m.fldR a) out = none from hs]
theorem Mm.bfs_step {f i : Nat} {a : Int} {out' : List Int} (h : out[i]? = some a) (hs : m.strN (m.hdr a).2.k (m.fldR a) out = some out') : m.bfs (f + 1) i out = m.bfs f (i + 1) out' := by
 conv => lhs; unfold Mm.bfs; rw [h]
 dsimp only
 rw [show m.str1 a (m.fldR a) out = some out' from hs]
end
/-- the list of found objects, and what lies beside it -/
structure StR (w wB : World) (g : Nat) (hd : Hdr) (fl : List Int) (u : Value) (out : List Int) (v : Value) : Prop where
 ow : w.ownsRow wB.heap.size 3 1 v out.length (ints out)
 bl : Below wB.heap.size wB w
 hb : Bk w g 55 #[.int .i64 hd.k, .int .i64 hd.c, .int .i64 hd.f]
 fu : w.ownsRow wB.heap.size 51 1 u fl.length (wds fl)
section
variable {w w' wB : World} {g : Nat} {hd : Hdr} {fl out : List Int} {u v v' : Value}
theorem StR.below (h : StR w wB g hd fl u out v) (hb : Below w.heap.size w w') : StR w' wB g hd fl u out v :=
 ⟨own_local h.ow fun k hk => hb.block k (h.ow.lt k hk).2, h.bl.trans (hb.mono h.bl.size), h.hb.below hb h.hb.lt, own_local h.fu fun k hk => hb.block k (h.fu.lt k hk).2⟩
theorem StR.push {b : Int} {o : Obj} (h : StR w wB g hd fl u out v) (ho : w'.ownsRow wB.heap.size 3 1 v' (out.length + 1) (ints out ++ [.int .i64 b])) (hg : (w.alloc o).grownBy w' v.ownBlock) : StR w' wB g hd fl u (out ++ [b]) v' := by
 have ha : StR (w.alloc o) wB g hd fl u out v := h.below ((Below.refl _ _).alloc (Nat.le_refl _) _)
 refine ⟨?_, ha.bl.grown hg ha.bl.size fun k hk => (ha.ow.lt k hk).1, ha.hb.grown hg fun e => ownRow_bk ha.ow ha.hb (by decide) e.symm, ?_⟩
 ·rw [List.length_append, List.length_singleton, show ints (out ++ [b]) = ints out ++ [.int .i64 b] by simp [ints]]
  exact ho
 ·exact own_local ha.fu fun k hk => hg.block k (ha.fu.lt k hk).2 fun e => own_ne_own ha.fu ha.ow (by decide) hk e.symm
end
def StrongP (w : World) (o : Option (List Int)) (e : Ending) (w' : World) : Prop := Below w.heap.size w w' ∧ match o with
 | none => e = .returned (.tuple #[.slice none 0 0, .bool false])
 | some st => ∃ v, e = .returned (.tuple #[v, .bool true]) ∧ w'.ownsRow w.heap.size 3 1 v st.length (ints st)
theorem Mm.one_size (s : Spc) : (Mm.one s).size = s.ws.length := by unfold Mm.size Mm.one Spc.new; simp
section
variable {w : World} {s : Spc} {A A2 : Option Addr} {c c2 : Nat} {roots : List Int}
set_option maxHeartbeats 4000000 in
theorem Strong_any (h : RS w s A c) (hb0 : s.base = 0) (hl0 : s.limit ≤ 16777216) (hr : Sl w 1 A2 roots.length (wds roots)) (hc2 : roots.length ≤ c2) (hu : ∀ x ∈ roots, U64 x) (hll : roots.length ≤ 1000000) :
  Calls Tryz.prog 17 #[.agg #[.int .i64 s.base, .int .i64 s.limit, .slice A s.ws.length c], .slice A2 roots.length c2] w (StrongP w ((Mm.one s).strong roots)) := by
 have hHB := boxS w s A c
 have HB := lh hHB
 have HQ := lh (Bk.new w 30 #[.int .i64 s.base, .int .i64 s.limit, .slice A s.ws.length c])
 have H := lh (h.below hHB)
 have HRT := lh (hr.below hHB)
 have HU := lh hu
 have OK := lh (Mm.one_ok h.ok hb0 hl0)
 have HSZ : Hid ((Mm.one s).size ≤ 16777216) := lh (by rw [Mm.one_size]; have := h.lim; have := h.b0; omega)
 have cRf := fun (w1 : World) (hb : Below (w.alloc (.cells #[.int .i64 s.base, .int .i64 s.limit, .slice A s.ws.length c] 30)).heap.size (w.alloc (.cells #[.int .i64 s.base, .int .i64 s.limit, .slice A s.ws.length c] 30)) w1) (x : Int) (hx : U64 x) => Refers_any (H.out.below hb) hb0 hl0 hx
 have cFl := fun (w1 : World) (hb : Below (w.alloc (.cells #[.int .i64 s.base, .int .i64 s.limit, .slice A s.ws.length c] 30)).heap.size (w.alloc (.cells #[.int .i64 s.base, .int .i64 s.limit, .slice A s.ws.length c] 30)) w1) (a : Int) (ha : -1000000000000 ≤ a ∧ a ≤ 1000000000000) => RFields_any (H.out.below hb) a ha
 unfold RFl at cFl
 have HCF := lh cFl
 have HCR := lh cRf
 obtain ⟨m, hm⟩ : ∃ m, m = Mm.one s := ⟨_, rfl⟩
 simp only [← hm] at HCF HCR OK HSZ ⊢
 obtain ⟨R, hR⟩ : ∃ R, R = m.strong roots := ⟨_, rfl⟩
 obtain ⟨R1, hR1⟩ : ∃ R1, R1 = m.addW roots [] := ⟨_, rfl⟩
 rw [← hR]
 have HR := lh hR
 have HR1 := lh hR1
 clear h hr hu hb0 hl0 cFl cRf hm hR hR1 H
 go_enter Tryz.func17, Tryz.ntmps17
 go_upto_region 1 with fail
 generalize w.alloc (.cells #[.int .i64 s.base, .int .i64 s.limit, .slice A s.ws.length c] 30) = wB at *
 go_wp2_with fail
 go_loopw [6, 7] (fun v i wr => ∃ (j : Nat) (out : List Int), i = .int .i64 (j : Int) ∧ j ≤ roots.length ∧ m.addW (roots.drop j) out = R1 ∧ m.Fnd out ∧ wr.ownsRow wB.heap.size 3 1 v out.length (ints out) ∧ Below wB.heap.size wB wr) (fun _ i _ => roots.length - (intOf i).toNat)
 case atStart =>
  exact ⟨0, [], rfl, Nat.zero_le _, by rw [List.drop_zero]; exact HR1.out.symm, Mm.Fnd.nil m, ownEmpty 1 (Bk.new _ _ _) (Nat.le_refl _), (Below.refl _ _).alloc (Nat.le_refl _) _⟩
 case round =>
  obtain ⟨j, out, rfl, hj, hadd, hfnd, hown, hbr⟩ := hrel
  have HADD := lh hadd
  have HFND := lh hfnd
  have HOWN := lh hown
  have HBR := lh hbr
  have hlen : out.length ≤ 16777216 := Nat.le_trans hfnd.len HSZ.out
  have hqr := HQ.out.below hbr HQ.out.lt
  have q0 : wr.cell? ⟨w.heap.size, 0, none⟩ = some (.int .i64 s.base) := hqr.cell 0
  have q1 : wr.cell? ⟨w.heap.size, 1, none⟩ = some (.int .i64 s.limit) := hqr.cell 1
  have q2 : wr.cell? ⟨w.heap.size, 2, none⟩ = some (.slice A s.ws.length c) := hqr.cell 2
  obtain ⟨A0, c0, rfl, hac⟩ := own_shape hown
  have hbs := hbr.size
  clear hadd hfnd hown hqr
  by_cases hlt : j < roots.length
  ·obtain ⟨b2, o2, rfl, hbl, hcc⟩ := (HRT.out.below hbr).get hlt
   have t1 : roots[j]? = some roots[j] := List.getElem?_eq_getElem hlt
   have e1 : wr.cell? ⟨b2, o2 + j, none⟩ = some (.int .u64 roots[j]) := hcc j _ (wds_get t1)
   have hxu := HU.out roots[j] (List.getElem_mem hlt)
   have HD : Hid (roots.drop j = roots[j] :: roots.drop (j + 1)) := lh (List.drop_eq_getElem_cons hlt)
   have hcj : j < c2 := by omega
   have hjI : (j : Int) < (roots.length : Int) := by omega
   generalize roots[j] = x at e1 hxu HD t1
   have k0 := cell_regrown q0
   have k1 := cell_regrown q1
   have k2 := cell_regrown q2
   have k3 := cell_regrown e1
   have cR := fun dd os => Calls.regrown_of (w := wr) (HCR.out _ (hbr.trans ((below_regrown wr dd os).mono hbs)) _ hxu)
   obtain ⟨o, ho⟩ : ∃ o, o = m.rfr x := ⟨_, rfl⟩
   rw [← ho] at cR
   have HO := lh ho.symm
   clear t1 hcc hbr ho hxu
   rcases o with _ | _ | b
   ·unfold rfsV at cR
    dsimp only at cR
    go_wp2_with fail
    refine wp_region_quiet_below (by kernel_rfl) (by kernel_rfl) ?_
    repeat (first | go_big_quiet_step ((go_at_call 28; exact cR _ _)) | quiet_step ((go_at_call 28; exact cR _ _)))
    refine wpQuiet_nil ?_
    intro w7 hw'
    have hb7 := quiet_below_one hw'
    have HB7 := lh (HBR.out.trans (hb7.mono hbs))
    clear hw' hb7 cR k0 k1 k2 k3
    go_wp2_with fail
    go_ret2
    have e : R = none := by rw [HR.out]; unfold Mm.strong; rw [← HR1.out, ← HADD.out, HD.out, show m.addW (x :: roots.drop (j + 1)) out = none by unfold Mm.addW; rw [HO.out]]
    rw [e]
    exact ⟨HB.out.trans (HB7.out.mono HB.out.size), rfl⟩
   all_goals
    unfold rfsV at cR
    dsimp only at cR
    go_wp2_with fail
    refine wp_region_quiet_below (by kernel_rfl) (by kernel_rfl) ?_
    repeat (first | go_big_quiet_step ((go_at_call 28; exact cR _ _)) | quiet_step ((go_at_call 28; exact cR _ _)))
    refine wpQuiet_nil ?_
    intro w7 hw'
    have hb7 := quiet_below_one hw'
    have HB7 := lh (HBR.out.trans (hb7.mono hbs))
    have hs7 := hb7.size
    have HO7 : Hid (w7.ownsRow wB.heap.size 3 1 (.slice A0 out.length c0) out.length (ints out)) := lh (own_local HOWN.out fun k hk => hb7.block k (HOWN.out.lt k hk).2)
    clear hw' hb7 cR k0 k1 k2 k3 q0 q1 q2 e1
   ·go_wp2_with fail
    go_roundw
    case rel =>
     exact ⟨j + 1, out, by go_num, by omega, by rw [← HADD.out, HD.out]; conv => rhs; unfold Mm.addW; rw [HO.out], HFND.out, HO7.out, HB7.out⟩
    case measure => simp [intOf]; omega
   ·have hIS : IS w7 out A0 c0 := ⟨own_sl HO7.out, hac⟩
    have cH := R11Has_any hIS (by omega) b
    clear hIS
    cases hc : out.contains b with
    | true =>
     rw [hc] at cH
     have HC := lh hc
     clear hc
     go_wp2_with (go_at_call 21; refine cH.mono ?_; rintro e w8 ⟨rfl, rfl⟩)
     go_roundw
     case rel =>
      exact ⟨j + 1, out, by go_num, by omega, by rw [← HADD.out, HD.out]; conv => rhs; unfold Mm.addW; rw [HO.out]; dsimp only; rw [if_pos HC.out], HFND.out, HO7.out, HB7.out⟩
     case measure => simp [intOf]; omega
    | false =>
     rw [hc] at cH
     have HC := lh hc
     obtain ⟨i0, hi, hz0, hz1, hz2⟩ := info_parts Tryz.infoI1
     have HI := lh (And.intro hi (And.intro hz0 (And.intro hz1 hz2)))
     clear hc hi hz0 hz1 hz2
     go_wp2_with (first | (go_at_call 21; refine cH.mono ?_; rintro e w8 ⟨rfl, rfl⟩) | (at_builtin; refine wpList_append_own_at _ rfl (.tmp 43) (.tmp 45) 23 rfl wB.heap.size 3 i0 (.int .i64 0) 1 8 Tryz.underlying23 HI.out.1 HI.out.2.1 HI.out.2.2.1 HI.out.2.2.2 rfl (by decide) _ out.length _ rfl (HO7.out.alloc _) ⟨w7.heap.size, 0, none⟩ 1 1 [.int .i64 b] rfl rfl (cell_one_new _ _ _) (by simp [Value.oneCell']) (by unfold maxLen; omega) (by omega) (by simp; omega) ?_; intro v' w9 hown3 hg3 _ hloc; have HOWN3 := lh hown3; have HG3 := lh hg3; clear hown3 hg3 hloc))
     go_roundw
     case rel =>
      refine ⟨j + 1, out ++ [b], by go_num, by omega, by rw [← HADD.out, HD.out]; conv => rhs; unfold Mm.addW; rw [HO.out]; dsimp only; rw [if_neg (by rw [HC.out]; simp)], HFND.out.push HO.out HC.out, ?_, ?_⟩
      ·rw [List.length_append, List.length_singleton, show ints (out ++ [b]) = ints out ++ [.int .i64 b] by simp [ints]]
       exact HOWN3.out
      ·exact (HB7.out.alloc (by omega) _).grown HG3.out (by simp; omega) (fun k hk => (HO7.out.lt k hk).1)
     case measure => simp [intOf]; omega
  ·have HS1 : Hid (R1 = some out) := lh (by rw [← HADD.out, List.drop_eq_nil_of_le (by omega)]; rfl)
   have HS2 : Hid (m.bfs (m.size + 1) 0 out = R) := lh (by rw [HR.out]; unfold Mm.strong; rw [← HR1.out, HS1.out])
   clear q0 q1 q2 hj HADD hac hlen
   go_wp2_with fail
   obtain ⟨wo, rfl⟩ : ∃ wo : World, wo = wr := ⟨_, rfl⟩
   go_loopw [6, 11] (fun v i wr => ∃ (j : Nat) (out : List Int), i = .int .i64 (j : Int) ∧ j ≤ out.length ∧ m.bfs (m.size + 1 - j) j out = R ∧ m.Fnd out ∧ wr.ownsRow wB.heap.size 3 1 v out.length (ints out) ∧ Below wB.heap.size wB wr) (fun _ i _ => m.size + 1 - (intOf i).toNat)
   case atStart => exact ⟨0, out, rfl, Nat.zero_le _, HS2.out, HFND.out, HOWN.out, HBR.out⟩
   case round =>
    clear HS2 HFND HOWN HBR HS1 hbr hbs hlt
    obtain ⟨j, out, rfl, hj, hbfs, hfnd, hown, hbr⟩ := hrel
    have HBFS := lh hbfs
    have HFND := lh hfnd
    have HOWN := lh hown
    have HBR := lh hbr
    have hlm := hfnd.len
    have hsz := HSZ.out
    have hlen : out.length ≤ 16777216 := Nat.le_trans hfnd.len HSZ.out
    have hqr := HQ.out.below hbr HQ.out.lt
    have HQR := lh hqr
    obtain ⟨A0, c0, rfl, hac⟩ := own_shape hown
    have hbs := hbr.size
    clear hbfs hfnd hown hqr hbr
    by_cases hlt : j < out.length
    ·have t1 : out[j]? = some out[j] := List.getElem?_eq_getElem hlt
     have HT := lh t1
     obtain ⟨b2, o2, rfl, hbl, hcc⟩ := (own_sl HOWN.out).get hlt
     have e1 : wr.cell? ⟨b2, o2 + j, none⟩ = some (.int .i64 out[j]) := hcc j _ (ints_get t1)
     have hok := HFND.out.ok out[j] (List.getElem_mem hlt)
     generalize out[j] = a at e1 hok HT t1
     have harg := Mm.res_has OK.out (Mm.hdr_has hok.1)
     have HE1 := lh (And.intro hbl e1)
     have cF := fun {w1 : World} (hb : Below wr.heap.size wr w1) => HCF.out _ (HBR.out.trans (hb.mono hbs)) a (by omega)
     have hfl := fldR_len m a
     have HFU := lh (OK.out.fldR_u a)
     obtain ⟨fl, hfle⟩ : ∃ fl, fl = m.fldR a := ⟨_, rfl⟩
     obtain ⟨hd, hhd⟩ : ∃ hd, hd = (m.hdr a).2 := ⟨_, rfl⟩
     simp only [← hfle, ← hhd] at cF
     rw [← hfle] at hfl HFU
     have HHD := lh (And.intro hfle hhd)
     obtain ⟨R2, hR2⟩ : ∃ R2, R2 = m.strN hd.k fl out := ⟨_, rfl⟩
     have HR2 := lh hR2
     have hcj : j < c0 := by omega
     have hjI : (j : Int) < (out.length : Int) := by omega
     clear t1 hcc hfle hhd hR2 hok harg e1 hbl
     go_upto_region 13 with fail
     refine wp_region_addsF0 10 (fun i => ([[], [], [], [1, 2], [3], [0, 4], [5], [6], [6], []] : List (List Nat)).getD i []) [8] (EL [Ent.val (.agg #[.int .i64 s.base, .int .i64 s.limit, .slice A s.ws.length c]), Ent.val (.slice (some ⟨b2, o2, none⟩) out.length c0), Ent.val (.int .i64 (j : Int)), Ent.val (.pointer (some ⟨b2, o2 + j, none⟩)), Ent.val (.int .i64 a), Ent.of (FldT wr.heap.size hd fl) FldT.below, Ent.same 5 (FldT wr.heap.size hd fl) FldT.below, Ent.ext 6 0, Ent.ext 6 1, Ent.blk 55 #[.int .i64 0, .int .i64 0, .int .i64 0]]) (by kernel_rfl) (by kernel_rfl) (by kernel_rfl) (by kernel_rfl) (by kernel_rfl) (by rfl) ?_ ?_
     ·intro i hi o ho vs w1 hb1 hgr
      rcases (show i = 0 ∨ i = 1 ∨ i = 2 ∨ i = 3 ∨ i = 4 ∨ i = 5 ∨ i = 6 ∨ i = 7 ∨ i = 8 ∨ i = 9 by omega) with rfl | rfl | rfl | rfl | rfl | rfl | rfl | rfl | rfl | rfl <;> cases ho
      ·clear hgr
       change Made _ (Adds _ _ _) (Sem.run _ (execOp (Act.eval (frm _ _ _ [])) _) _)
       simp only [frm]
       have hbk := HQR.out.below hb1 HQR.out.lt
       have c0 : w1.cell? ⟨w.heap.size, 0, none⟩ = some (.int .i64 s.base) := hbk.cell 0
       have c1 : w1.cell? ⟨w.heap.size, 1, none⟩ = some (.int .i64 s.limit) := hbk.cell 1
       have c2 : w1.cell? ⟨w.heap.size, 2, none⟩ = some (.slice A s.ws.length c) := hbk.cell 2
       clear hbk
       go_simp
       exact adds_val rfl
      ·clear hgr
       change Made _ (Adds _ _ _) (Sem.run _ (execOp (Act.eval (frm _ _ _ [])) _) _)
       simp only [frm]
       go_simp
       exact adds_val rfl
      ·clear hgr
       change Made _ (Adds _ _ _) (Sem.run _ (execOp (Act.eval (frm _ _ _ [])) _) _)
       simp only [frm]
       go_simp
       exact adds_val rfl
      ·have h1 : vs 1 = _ := hgr 1 (by decide)
       have h2 : vs 2 = _ := hgr 2 (by decide)
       clear hgr
       change Made _ (Adds _ _ _) (Sem.run _ (execOp (Act.eval (Act.put (Act.put (frm _ _ _ []) (some 56) (vs 2)) (some 55) (vs 1))) _) _)
       simp only [frm, h1, h2]
       go_simp
       exact adds_val rfl
      ·have h3 : vs 3 = _ := hgr 3 (by decide)
       clear hgr
       change Made _ (Adds _ _ _) (Sem.run _ (execOp (Act.eval (Act.put (frm _ _ _ []) (some 57) (vs 3))) _) _)
       simp only [frm, h3]
       have e4 : w1.cell? ⟨b2, o2 + j, none⟩ = some (.int .i64 a) := ((bcell hb1).1 _ _ HE1.out.1).trans HE1.out.2
       go_simp
       exact adds_val rfl
      ·have h0 : vs 0 = _ := hgr 0 (by decide)
       have h4 : vs 4 = _ := hgr 4 (by decide)
       clear hgr
       change Made _ (Adds _ _ _) (Sem.run _ (execOp (Act.eval (Act.put (Act.put (frm _ _ _ []) (some 58) (vs 4)) (some 54) (vs 0))) _) _)
       simp only [frm, h0, h4]
       have cF1 := cF hb1
       go_simp
       refine adds_call (T := FldT wr.heap.size hd fl) (hT := FldT.below) (ob := fun _ => none) cF1 ?_
       rintro e w4 ⟨u, rfl, ho, hb⟩
       exact ⟨_, rfl, ⟨u, rfl, ownBase ho hb1.size⟩, hb, (fun k hk => nomatch hk)⟩
      ·obtain ⟨u5, h5, ho5⟩ := hgr 5 (by decide)
       clear hgr
       change Made _ (Adds _ _ _) (Sem.run _ (execOp (Act.eval (Act.put (frm _ _ _ []) (some 59) (vs 5))) _) _)
       simp only [frm, h5]
       go_simp
       rw [← h5]
       exact adds_same (hT := FldT.below) ⟨u5, h5, ho5⟩
      ·obtain ⟨h6e, u6, h6, ho6⟩ := hgr 6 (by decide)
       clear hgr
       change Made _ (Adds _ _ _) (Sem.run _ (execOp (Act.eval (Act.put (frm _ _ _ []) (some 53) (vs 6))) _) _)
       simp only [frm, h6]
       go_simp
       exact adds_ext h6 rfl
      ·obtain ⟨h6e, u6, h6, ho6⟩ := hgr 6 (by decide)
       clear hgr
       change Made _ (Adds _ _ _) (Sem.run _ (execOp (Act.eval (Act.put (frm _ _ _ []) (some 53) (vs 6))) _) _)
       simp only [frm, h6]
       go_simp
       exact adds_ext h6 rfl
      ·clear hgr
       change Made _ (Adds _ _ _) (Sem.run _ (execOp (Act.eval (frm _ _ _ [])) _) _)
       simp only [frm]
       go_simp
       exact adds_blk
     ·intro vs w1 hb1 hall hap
      obtain ⟨u5, h5, ho5⟩ := (hall 5 (by omega)).1
      obtain ⟨⟨g9, h9, k9⟩, q9⟩ := hall 9 (by omega)
      have r9 : wr.heap.size ≤ g9 ∧ g9 < w1.heap.size := q9 g9 (by rw [h9]; rfl)
      clear q9
      have h6e := (hall 6 (by omega)).1.1
      have h7 : vs 7 = .agg #[.int .i64 hd.k, .int .i64 hd.c, .int .i64 hd.f] := ext_eq (hall 7 (by omega)).1 (h6e.trans h5) rfl
      have h8 : vs 8 = u5 := ext_eq (hall 8 (by omega)).1 (h6e.trans h5) rfl
      clear hall hap
      change wpList _ _ _ [_, _] (Act.put (Act.put (Act.put (Act.put (Act.put (Act.put (Act.put (Act.put (Act.put (Act.put (frm _ _ _ []) (some 12) (vs 9)) (some 61) (vs 8)) (some 60) (vs 7)) (some 53) (vs 6)) (some 59) (vs 5)) (some 58) (vs 4)) (some 57) (vs 3)) (some 56) (vs 2)) (some 55) (vs 1)) (some 54) (vs 0)) _
      simp only [frm, h5, h7, h8, h9]
      have HB5 := lh hb1
      have HO5 := lh ho5
      have HK9 := lh k9
      have h9s := r9
      have d0 : w1.cell? ⟨g9, 0, none⟩ = some (.int .i64 0) := k9.cell 0
      have d1 : w1.cell? ⟨g9, 1, none⟩ = some (.int .i64 0) := k9.cell 1
      have d2 : w1.cell? ⟨g9, 2, none⟩ = some (.int .i64 0) := k9.cell 2
      have f0 := k9.free 0
      have f1 := k9.free 1
      have f2 := k9.free 2
      have h1s := hb1.size
      clear hb1 ho5 k9 r9 h5 h6e h7 h8 h9 cF
      obtain ⟨Af, cf, rfl, hcf⟩ := own_shape HO5.out
      go_wp2_with fail
      rw [onlyN_normal]
      go_upto_region 14 with fail
      have hsr : StR (((w1.setCell ⟨g9, 0, none⟩ (.int .i64 hd.k)).setCell ⟨g9, 1, none⟩ (.int .i64 hd.c)).setCell ⟨g9, 2, none⟩ (.int .i64 hd.f)) wB g9 hd fl (.slice Af fl.length cf) out (.slice (some ⟨b2, o2, none⟩) out.length c0) := by
       have hne : ∀ k, k ≠ g9 → (((w1.setCell ⟨g9, 0, none⟩ (.int .i64 hd.k)).setCell ⟨g9, 1, none⟩ (.int .i64 hd.c)).setCell ⟨g9, 2, none⟩ (.int .i64 hd.f)).heap[k]? = w1.heap[k]? := fun k hk => by
        rw [Below.heap_setCell _ _ _ _ hk, Below.heap_setCell _ _ _ _ hk, Below.heap_setCell _ _ _ _ hk]
       refine ⟨own_local (own_local HOWN.out fun k hk => HB5.out.block k (HOWN.out.lt k hk).2) fun k hk => hne k (by have := (HOWN.out.lt k hk).2; omega), ?_, HK9.out.set3 _ _ _, own_local (ownBase HO5.out hbs) fun k hk => hne k fun e => ownRow_bk HO5.out HK9.out (by decide) (e ▸ hk)⟩
       exact below_set3 (HBR.out.trans (HB5.out.mono hbs)) (by omega) _ _ _
      have HSR := lh hsr
      clear hsr HB5 HO5 HK9 h9s d0 d1 d2 f0 f1 f2 h1s HE1 HQR
      generalize ((w1.setCell ⟨g9, 0, none⟩ (.int .i64 hd.k)).setCell ⟨g9, 1, none⟩ (.int .i64 hd.c)).setCell ⟨g9, 2, none⟩ (.int .i64 hd.f) = w6 at *
      clear HOWN HBR
      have hbw : wB.heap.size ≤ wr.heap.size := hbs
      obtain ⟨wm, rfl⟩ : ∃ wm : World, wm = wr := ⟨_, rfl⟩
      go_wp2_with fail
      go_loopw [6, 14] (fun v i wr => ∃ (k : Nat) (out' : List Int), i = .int .i64 (k : Int) ∧ k ≤ fl.length ∧ m.strN hd.k (fl.drop k) out' = R2 ∧ m.Fnd out' ∧ out.length ≤ out'.length ∧ StR wr wB g9 hd fl (.slice Af fl.length cf) out' v) (fun _ i _ => fl.length - (intOf i).toNat)
      case atStart => exact ⟨0, out, rfl, Nat.zero_le _, by rw [List.drop_zero]; exact HR2.out.symm, HFND.out, Nat.le_refl _, HSR.out⟩
      case round =>
       clear HSR
       obtain ⟨k, out', rfl, hk, hst, hfnd', hol, hsr⟩ := hrel
       have HST := lh hst
       have HFN' := lh hfnd'
       have HSR := lh hsr
       have hlen' : out'.length ≤ 16777216 := Nat.le_trans hfnd'.len HSZ.out
       have hbs' := hsr.bl.size
       have hqr := HQ.out.below hsr.bl HQ.out.lt
       obtain ⟨A1, c1, rfl, hac1⟩ := own_shape hsr.ow
       have q0 : wr.cell? ⟨w.heap.size, 0, none⟩ = some (.int .i64 s.base) := hqr.cell 0
       have q1 : wr.cell? ⟨w.heap.size, 1, none⟩ = some (.int .i64 s.limit) := hqr.cell 1
       have q2 : wr.cell? ⟨w.heap.size, 2, none⟩ = some (.slice A s.ws.length c) := hqr.cell 2
       clear hst hfnd' hqr
       by_cases hlk : k < fl.length
       ·obtain ⟨b3, o3, rfl, hbl3, hcc3⟩ := (own_sl hsr.fu).get hlk
        have t1 : fl[k]? = some fl[k] := List.getElem?_eq_getElem hlk
        have e1 : wr.cell? ⟨b3, o3 + k, none⟩ = some (.int .u64 fl[k]) := hcc3 k _ (wds_get t1)
        have hxu := HFU.out fl[k] (List.getElem_mem hlk)
        have HD : Hid (fl.drop k = fl[k] :: fl.drop (k + 1)) := lh (List.drop_eq_getElem_cons hlk)
        have hck : k < cf := by omega
        have hkI : (k : Int) < (fl.length : Int) := by omega
        generalize fl[k] = x at e1 hxu HD t1
        have k0 := cell_regrown q0
        have k1 := cell_regrown q1
        have k2 := cell_regrown q2
        have k3 := cell_regrown e1
        have cR := fun dd os => Calls.regrown_of (w := wr) (HCR.out _ (hsr.bl.trans ((below_regrown wr dd os).mono hbs')) _ hxu)
        obtain ⟨o, ho⟩ : ∃ o, o = m.rfr x := ⟨_, rfl⟩
        rw [← ho] at cR
        have HO := lh ho.symm
        clear t1 hcc3 ho hxu hsr
        rcases o with _ | _ | b
        all_goals
         unfold rfsV at cR
         dsimp only at cR
         go_wp2_with fail
         refine wp_region_quiet_below (by kernel_rfl) (by kernel_rfl) ?_
         repeat (first | go_big_quiet_step ((go_at_call 28; exact cR _ _)) | quiet_step ((go_at_call 28; exact cR _ _)))
         refine wpQuiet_nil ?_
         intro w7 hw'
         have hb7 := quiet_below_one hw'
         have HS7 := lh (HSR.out.below hb7)
         have hs7 := hb7.size
         clear hw' hb7 cR k0 k1 k2 k3 q0 q1 q2 e1
        ·go_wp2_with fail
         go_ret2
         have e : R = none := by
          rw [← HBFS.out, show m.size + 1 - j = (m.size - j) + 1 by omega]
          refine Mm.bfs_bad HT.out ?_
          rw [← HHD.out.1, ← HHD.out.2, ← HR2.out, ← HST.out, HD.out]
          exact Mm.strN_none HO.out
         rw [e]
         exact ⟨HB.out.trans (HS7.out.bl.mono HB.out.size), rfl⟩
        ·go_wp2_with fail
         go_roundw
         case rel => exact ⟨k + 1, out', by go_num, by omega, by rw [← HST.out, HD.out]; exact (Mm.strN_skip HO.out).symm, HFN'.out, hol, HS7.out⟩
         case measure => simp [intOf]; omega
        ·have c0' : w7.cell? ⟨g9, 0, none⟩ = some (.int .i64 hd.k) := HS7.out.hb.cell 0
         by_cases hk2 : hd.k = 2
         ·have hkb : (hd.k != 2) = false := by simp [hk2]
          have HK2 := lh hk2
          clear hk2
          go_wp2_with fail
          go_roundw
          case rel => exact ⟨k + 1, out', by go_num, by omega, by rw [← HST.out, HD.out]; exact (Mm.strN_weak HK2.out HO.out).symm, HFN'.out, hol, HS7.out⟩
          case measure => simp [intOf]; omega
         ·have hkb : (hd.k != 2) = true := by simp [hk2]
          have HK2 := lh hk2
          have hIS : IS w7 out' A1 c1 := ⟨own_sl HS7.out.ow, hac1⟩
          have cH := R11Has_any hIS (by omega) b
          clear hIS hk2
          cases hc : out'.contains b with
          | true =>
           rw [hc] at cH
           have HC := lh hc
           clear hc
           go_wp2_with (go_at_call 21; refine cH.mono ?_; rintro e w8 ⟨rfl, rfl⟩)
           go_roundw
           case rel => exact ⟨k + 1, out', by go_num, by omega, by rw [← HST.out, HD.out]; exact (Mm.strN_has HK2.out HO.out HC.out).symm, HFN'.out, hol, HS7.out⟩
           case measure => simp [intOf]; omega
          | false =>
           rw [hc] at cH
           have HC := lh hc
           obtain ⟨i0, hi, hz0, hz1, hz2⟩ := info_parts Tryz.infoI1
           have HI := lh (And.intro hi (And.intro hz0 (And.intro hz1 hz2)))
           clear hc hi hz0 hz1 hz2
           go_wp2_with (first | (go_at_call 21; refine cH.mono ?_; rintro e w8 ⟨rfl, rfl⟩) | (at_builtin; refine wpList_append_own_at _ rfl (.tmp 91) (.tmp 93) 23 rfl wB.heap.size 3 i0 (.int .i64 0) 1 8 Tryz.underlying23 HI.out.1 HI.out.2.1 HI.out.2.2.1 HI.out.2.2.2 rfl (by decide) _ out'.length _ rfl (HS7.out.ow.alloc _) ⟨w7.heap.size, 0, none⟩ 1 1 [.int .i64 b] rfl rfl (cell_one_new _ _ _) (by simp [Value.oneCell']) (by unfold maxLen; omega) (by omega) (by simp; omega) ?_; intro v' w9 hown3 hg3 _ hloc; have HOWN3 := lh hown3; have HG3 := lh hg3; clear hown3 hg3 hloc))
           go_roundw
           case rel =>
            exact ⟨k + 1, out' ++ [b], by go_num, by omega, by rw [← HST.out, HD.out]; exact (Mm.strN_push HK2.out HO.out HC.out).symm, HFN'.out.push HO.out HC.out, by simp; omega, HS7.out.push HOWN3.out HG3.out⟩
           case measure => simp [intOf]; omega
       ·have hkI : ¬ (k : Int) < (fl.length : Int) := by omega
        have HS2 : Hid (m.strN hd.k fl out = some out') := lh (by rw [← HR2.out, ← HST.out, List.drop_eq_nil_of_le (by omega)]; exact Mm.strN_nil)
        clear hsr q0 q1 q2
        go_wp2_with fail
        go_roundw
        case rel =>
         refine ⟨j + 1, out', by go_num, by omega, ?_, HFN'.out, HSR.out.ow, HSR.out.bl⟩
         rw [← HBFS.out, show m.size + 1 - j = (m.size + 1 - (j + 1)) + 1 by omega]
         exact (Mm.bfs_step HT.out (by rw [← HHD.out.1, ← HHD.out.2]; exact HS2.out)).symm
        case measure => simp [intOf]; omega
    ·have hjI : ¬ (j : Int) < (out.length : Int) := by omega
     clear HQR
     go_wp2_with fail
     go_ret2
     have e : R = some out := by rw [← HBFS.out]; exact Mm.bfs_end (List.getElem?_eq_none (by omega))
     rw [e]
     exact ⟨HB.out.trans (HBR.out.mono HB.out.size), _, rfl, ownBase HOWN.out HB.out.size⟩
end
end Go.Proofs.YtjpaogapclfajaaGreat
