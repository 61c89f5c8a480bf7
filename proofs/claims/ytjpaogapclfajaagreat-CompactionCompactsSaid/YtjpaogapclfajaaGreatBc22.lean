/- Parts of the proof: Awk2, RMk3. -/
import Derived.Test.YtjpaogapclfajaaGreatBcA
import Derived.Test.YtjpaogapclfajaaGreatBc11
import Derived.Test.YtjpaogapclfajaaGreatBc12
import Derived.Test.YtjpaogapclfajaaGreatBc14
import Derived.Test.YtjpaogapclfajaaGreatBc15
import Derived.Test.YtjpaogapclfajaaGreatBc16
import Derived.Test.YtjpaogapclfajaaGreatBc21
set_option linter.unusedVariables false
set_option linter.unusedSimpArgs false
set_option linter.unusedSectionVars false
namespace Go.Proofs.YtjpaogapclfajaaGreat
open Go.RowKit
end Go.Proofs.YtjpaogapclfajaaGreat
namespace Go.Proofs.YtjpaogapclfajaaGreat
open Go.RowKit Go.Sort
attribute [local go_sem] Oper.semAt_some onlyN_normal
set_option maxRecDepth 100000
theorem flat_get {α β : Type} {f : α → List β} {s : Nat} (hf : ∀ x, (f x).length = s) : ∀ (l : List α) (i : Nat) (x : α), l[i]? = some x → ∀ j, j < s → (l.flatMap f)[i * s + j]? = (f x)[j]?
 | [], i, x, h, _, _ => by cases h
 | y :: l, 0, x, h, j, hj => by
  simp at h
  subst h
  rw [List.flatMap_cons, Nat.zero_mul, Nat.zero_add, List.getElem?_append_left (by rw [hf]; exact hj)]
 | y :: l, i + 1, x, h, j, hj => by
  have ih := flat_get hf l i x (by simpa using h) j hj
  rw [List.flatMap_cons, List.getElem?_append_right (by rw [hf, Nat.succ_mul]; omega), hf, show (i + 1) * s + j - s = i * s + j by rw [Nat.succ_mul]; omega]
  exact ih
theorem Op1s.ofBk {w : World} {g : Nat} {t : TypeId} {l : List Op1} (h : Bk w g t (l.flatMap fun x => x.cells.toList).toArray) (hl : ∀ x ∈ l, x.Ok) : Op1s w (some ⟨g, 0, none⟩) l :=
 .inr ⟨g, 0, rfl, h.lt, fun i x hx => ⟨hl x (List.mem_of_getElem? hx), fun j v hv => by
  have hj : j < 8 := (Array.getElem?_eq_some_iff.1 hv).1
  have e := flat_get (f := fun x : Op1 => x.cells.toList) (s := 8) (fun _ => rfl) l i x hx j hj
  have h2 := h.cell (0 + i * 8 + j)
  rw [Nat.zero_add] at h2 ⊢
  rw [h2, List.getElem?_toArray, e]
  simpa using hv⟩⟩
/-- what Mark hands back, within a region -/
def MkT (m : Mm) (o : Option (List Int × List Int)) (v : Value) (w : World) : Prop := match o with
 | none => v = .tuple #[.pointer none, .int .i64 11]
 | some (sg, wl) => ∃ B g b, v = .tuple #[.pointer (some ⟨g, 0, none⟩), .int .i64 0] ∧ MkR w B g b m sg wl
theorem MkT.below {m : Mm} {o : Option (List Int × List Int)} (v : Value) (w w' : World) (h : MkT m o v w) (hb : Below w.heap.size w w') : MkT m o v w' := by
 unfold MkT at *
 split
 ·exact h
 ·obtain ⟨B, g, b, e, h1⟩ := h
  exact ⟨B, g, b, e, MkR0.below h1 hb⟩
theorem MkT.of {w w' : World} {m : Mm} {o : Option (List Int × List Int)} {e : Ending} (h : MarkPost w m o e w') : ∃ v, e = .returned v ∧ MkT m o v w' ∧ Below w.heap.size w w' ∧ ∀ k, (fun _ => none : Value → Option Nat) v = some k → w.heap.size ≤ k ∧ k < w'.heap.size := by
 obtain ⟨hb, h⟩ := h
 split at h
 ·exact ⟨_, h, rfl, hb, (fun k hk => nomatch hk)⟩
 ·obtain ⟨g, b, e, h1⟩ := h
  exact ⟨_, e, ⟨_, g, b, rfl, h1⟩, hb, (fun k hk => nomatch hk)⟩
section
variable {P : Program} {W w : World} {vs : Nat → Value}
def Ent.sl (t : TypeId) (cs : Array Value) (n : Nat) : Ent W := Ent.of (fun v w => ∃ g, v = .slice (some ⟨g, 0, none⟩) n n ∧ Bk w g t cs) (fun v w w' ⟨g, e, h⟩ hb => ⟨g, e, h.below hb h.lt⟩)
end
section
variable {w : World}
end
end Go.Proofs.YtjpaogapclfajaaGreat
namespace Go.Proofs.YtjpaogapclfajaaGreat
open Go.RowKit Go.Sort
attribute [local go_sem] Oper.semAt_some onlyN_normal
set_option maxRecDepth 100000
section
variable {m : Mm} {st out : List Int} {b x a : Int} {t : List Int}
theorem Mm.weakB_no (h : (m.hdr b).2.k ≠ 2) : m.weakB st out b = out := by unfold Mm.weakB; rw [if_pos h]
theorem Mm.weakB_nil (h : m.fldR b = []) : m.weakB st out b = out := by unfold Mm.weakB; split; rfl; rw [h]
theorem Mm.weakB_ref (hk : (m.hdr b).2.k = 2) (h : m.fldR b = x :: t) (hr : m.rfr x = some (some a)) : m.weakB st out b = if (m.hdr a).2.k = 3 ∧ st.contains a = false ∧ out.contains a = false then out ++ [a] else out := by
 unfold Mm.weakB
 rw [if_neg (by simp [hk]), h]
 dsimp only
 rw [hr]
theorem Mm.weakB_none (h : m.fldR b = x :: t) (hr : ∀ a, m.rfr x ≠ some (some a)) : m.weakB st out b = out := by
 unfold Mm.weakB
 split
 ·rfl
 ·rw [h]
  dsimp only
  split
  ·rename_i hh; exact absurd hh (hr _)
  ·rfl
end
section
variable {w : World} {s : Spc} {A A2 : Option Addr} {c c2 : Nat} {st : List Int}
def WeakP (w : World) (l : List Int) (e : Ending) (w' : World) : Prop := ∃ v, e = .returned v ∧ w'.ownsRow w.heap.size 3 1 v l.length (ints l) ∧ Below w.heap.size w w'
theorem weakB_len (m : Mm) (st : List Int) : ∀ (l out : List Int), (l.foldl (m.weakB st) out).length ≤ out.length + l.length
 | [], out => Nat.le_refl _
 | b :: l, out => by
  have h1 := weakB_len m st l (m.weakB st out b)
  have h2 : (m.weakB st out b).length ≤ out.length + 1 := by
   unfold Mm.weakB
   split
   ·omega
   ·split
    ·omega
    ·split
     ·split <;> simp
     ·omega
  rw [List.foldl_cons, List.length_cons]
  omega
set_option maxHeartbeats 4000000 in
theorem RWeak_any (h : RS w s A c) (hb0 : s.base = 0) (hl0 : s.limit ≤ 16777216) (hr : IS w st A2 c2) (hu : ∀ a ∈ st, 0 ≤ a ∧ a ≤ 4294967296) (hll : st.length ≤ 16777216) :
  Calls Tryz.prog 18 #[.agg #[.int .i64 s.base, .int .i64 s.limit, .slice A s.ws.length c], .slice A2 st.length c2] w (WeakP w ((Mm.one s).weakR st)) := by
 have hHB := boxS w s A c
 have HB := lh hHB
 have HQ := lh (Bk.new w 30 #[.int .i64 s.base, .int .i64 s.limit, .slice A s.ws.length c])
 have H := lh (h.below hHB)
 have HST := lh (hr.below hHB)
 have HU := lh hu
 have OK := lh (Mm.one_ok h.ok hb0 hl0)
 have hcap := hr.cap
 have cRf := fun (w1 : World) (hb : Below (w.alloc (.cells #[.int .i64 s.base, .int .i64 s.limit, .slice A s.ws.length c] 30)).heap.size (w.alloc (.cells #[.int .i64 s.base, .int .i64 s.limit, .slice A s.ws.length c] 30)) w1) (x : Int) (hx : U64 x) => Refers_any (H.out.below hb) hb0 hl0 hx
 have cFl := fun (w1 : World) (hb : Below (w.alloc (.cells #[.int .i64 s.base, .int .i64 s.limit, .slice A s.ws.length c] 30)).heap.size (w.alloc (.cells #[.int .i64 s.base, .int .i64 s.limit, .slice A s.ws.length c] 30)) w1) (a : Int) (ha : -1000000000000 ≤ a ∧ a ≤ 1000000000000) => RFields_any (H.out.below hb) a ha
 have cMe := fun (w1 : World) (hb : Below (w.alloc (.cells #[.int .i64 s.base, .int .i64 s.limit, .slice A s.ws.length c] 30)).heap.size (w.alloc (.cells #[.int .i64 s.base, .int .i64 s.limit, .slice A s.ws.length c] 30)) w1) => RMemory_any (H.out.below hb)
 have cHe := fun (w1 : World) (hb : Below (w.alloc (.cells #[.int .i64 s.base, .int .i64 s.limit, .slice A s.ws.length c] 30)).heap.size (w.alloc (.cells #[.int .i64 s.base, .int .i64 s.limit, .slice A s.ws.length c] 30)) w1) (a : Int) => RHeader_any (H.out.below hb).zer a
 simp only [Mm.zer_hdr] at cHe
 unfold rmV Mm.zer hdrV Hdr.val at cHe
 unfold rsV at cMe
 unfold RFl at cFl
 have HCF := lh cFl
 have HCR := lh cRf
 have HCM := lh cMe
 have HCH := lh cHe
 obtain ⟨m, hm⟩ : ∃ m, m = Mm.one s := ⟨_, rfl⟩
 simp only [← hm] at HCF HCR HCH OK ⊢
 obtain ⟨R, hR⟩ : ∃ R, R = m.weakR st := ⟨_, rfl⟩
 rw [← hR]
 have HR := lh hR
 clear h hr hu hb0 hl0 cFl cRf cMe cHe hm hR H
 go_enter Tryz.func18, Tryz.ntmps18
 go_upto_region 1 with fail
 generalize w.alloc (.cells #[.int .i64 s.base, .int .i64 s.limit, .slice A s.ws.length c] 30) = wB at *
 go_wp2_with fail
 go_loopw [5, 6] (fun v i wr => ∃ (j : Nat) (out : List Int), i = .int .i64 (j : Int) ∧ j ≤ st.length ∧ (st.drop j).foldl (m.weakB st) out = R ∧ out.length ≤ j ∧ wr.ownsRow wB.heap.size 3 1 v out.length (ints out) ∧ Below wB.heap.size wB wr) (fun _ i _ => st.length - (intOf i).toNat)
 case atStart =>
  exact ⟨0, [], rfl, Nat.zero_le _, by rw [List.drop_zero]; exact HR.out.symm, Nat.le_refl _, ownEmpty 1 (Bk.new _ _ _) (Nat.le_refl _), (Below.refl _ _).alloc (Nat.le_refl _) _⟩
 case round =>
  obtain ⟨j, out, rfl, hj, hfd, hol, hown, hbr⟩ := hrel
  have HFD := lh hfd
  have HOWN := lh hown
  have HBR := lh hbr
  have hqr := HQ.out.below hbr HQ.out.lt
  have HQR := lh hqr
  obtain ⟨A0, c0, rfl, hac⟩ := own_shape hown
  have hbs := hbr.size
  clear hfd hown hqr
  by_cases hlt : j < st.length
  ·obtain ⟨b2, o2, rfl, hbl, hcc⟩ := (HST.out.below hbr).sl.get hlt
   have t1 : st[j]? = some st[j] := List.getElem?_eq_getElem hlt
   have e1 : wr.cell? ⟨b2, o2 + j, none⟩ = some (.int .i64 st[j]) := hcc j _ (ints_get t1)
   have hau := HU.out st[j] (List.getElem_mem hlt)
   have HD : Hid (st.drop j = st[j] :: st.drop (j + 1)) := lh (List.drop_eq_getElem_cons hlt)
   have hcj : j < c2 := by omega
   have hjI : (j : Int) < (st.length : Int) := by omega
   generalize st[j] = b at e1 hau HD t1
   have HE1 := lh (And.intro hbl e1)
   have cF := fun {w1 : World} (hb : Below wr.heap.size wr w1) => HCF.out _ (HBR.out.trans (hb.mono hbs)) b (by omega)
   have hfl := fldR_len m b
   have HFU := lh (OK.out.fldR_u b)
   obtain ⟨fl, hfle⟩ : ∃ fl, fl = m.fldR b := ⟨_, rfl⟩
   obtain ⟨hd, hhd⟩ : ∃ hd, hd = (m.hdr b).2 := ⟨_, rfl⟩
   simp only [← hfle, ← hhd] at cF
   rw [← hfle] at hfl HFU
   have HHD := lh (And.intro hfle hhd)
   clear t1 hcc hfle hhd e1 hbl hbr
   go_upto_region 5 with fail
   refine wp_region_addsF0 10 (fun i => ([[], [], [], [1, 2], [3], [0, 4], [5], [6], [6], []] : List (List Nat)).getD i []) [8] (EL [Ent.val (.agg #[.int .i64 s.base, .int .i64 s.limit, .slice A s.ws.length c]), Ent.val (.slice (some ⟨b2, o2, none⟩) st.length c2), Ent.val (.int .i64 (j : Int)), Ent.val (.pointer (some ⟨b2, o2 + j, none⟩)), Ent.val (.int .i64 b), Ent.of (FldT wr.heap.size hd fl) FldT.below, Ent.same 5 (FldT wr.heap.size hd fl) FldT.below, Ent.ext 6 0, Ent.ext 6 1, Ent.blk 55 #[.int .i64 0, .int .i64 0, .int .i64 0]]) (by kernel_rfl) (by kernel_rfl) (by kernel_rfl) (by kernel_rfl) (by kernel_rfl) (by rfl) ?_ ?_
   ·intro i hi o ho vs w1 hb1 hgr
    rcases (show i = 0 ∨ i = 1 ∨ i = 2 ∨ i = 3 ∨ i = 4 ∨ i = 5 ∨ i = 6 ∨ i = 7 ∨ i = 8 ∨ i = 9 by omega) with rfl | rfl | rfl | rfl | rfl | rfl | rfl | rfl | rfl | rfl <;> cases ho
    ·clear hgr
     change Made _ (Adds _ _ _) (Sem.run _ (execOp (Act.eval (frm _ _ _ [])) _) _)
     simp only [frm]
     have hbk := HQR.out.below hb1 HQR.out.lt
     have c0 : w1.cell? ⟨w.heap.size, 0, none⟩ = some (.int .i64 s.base) := hbk.cell 0
     have c1 : w1.cell? ⟨w.heap.size, 1, none⟩ = some (.int .i64 s.limit) := hbk.cell 1
     have c2 : w1.cell? ⟨w.heap.size, 2, none⟩ = some (.slice A s.ws.length c) := hbk.cell 2
     clear hbk
     go_simp
     exact adds_val rfl
    ·clear hgr
     change Made _ (Adds _ _ _) (Sem.run _ (execOp (Act.eval (frm _ _ _ [])) _) _)
     simp only [frm]
     go_simp
     exact adds_val rfl
    ·clear hgr
     change Made _ (Adds _ _ _) (Sem.run _ (execOp (Act.eval (frm _ _ _ [])) _) _)
     simp only [frm]
     go_simp
     exact adds_val rfl
    ·have h1 : vs 1 = _ := hgr 1 (by decide)
     have h2 : vs 2 = _ := hgr 2 (by decide)
     clear hgr
     change Made _ (Adds _ _ _) (Sem.run _ (execOp (Act.eval (Act.put (Act.put (frm _ _ _ []) (some 24) (vs 2)) (some 23) (vs 1))) _) _)
     simp only [frm, h1, h2]
     go_simp
     exact adds_val rfl
    ·have h3 : vs 3 = _ := hgr 3 (by decide)
     clear hgr
     change Made _ (Adds _ _ _) (Sem.run _ (execOp (Act.eval (Act.put (frm _ _ _ []) (some 25) (vs 3))) _) _)
     simp only [frm, h3]
     have e4 : w1.cell? ⟨b2, o2 + j, none⟩ = some (.int .i64 b) := ((bcell hb1).1 _ _ HE1.out.1).trans HE1.out.2
     go_simp
     exact adds_val rfl
    ·have h0 : vs 0 = _ := hgr 0 (by decide)
     have h4 : vs 4 = _ := hgr 4 (by decide)
     clear hgr
     change Made _ (Adds _ _ _) (Sem.run _ (execOp (Act.eval (Act.put (Act.put (frm _ _ _ []) (some 26) (vs 4)) (some 22) (vs 0))) _) _)
     simp only [frm, h0, h4]
     have cF1 := cF hb1
     go_simp
     refine adds_call (T := FldT wr.heap.size hd fl) (hT := FldT.below) (ob := fun _ => none) cF1 ?_
     rintro e w4 ⟨u, rfl, ho, hb⟩
     exact ⟨_, rfl, ⟨u, rfl, ownBase ho hb1.size⟩, hb, (fun k hk => nomatch hk)⟩
    ·obtain ⟨u5, h5, ho5⟩ := hgr 5 (by decide)
     clear hgr
     change Made _ (Adds _ _ _) (Sem.run _ (execOp (Act.eval (Act.put (frm _ _ _ []) (some 27) (vs 5))) _) _)
     simp only [frm, h5]
     go_simp
     rw [← h5]
     exact adds_same (hT := FldT.below) ⟨u5, h5, ho5⟩
    ·obtain ⟨h6e, u6, h6, ho6⟩ := hgr 6 (by decide)
     clear hgr
     change Made _ (Adds _ _ _) (Sem.run _ (execOp (Act.eval (Act.put (frm _ _ _ []) (some 21) (vs 6))) _) _)
     simp only [frm, h6]
     go_simp
     exact adds_ext h6 rfl
    ·obtain ⟨h6e, u6, h6, ho6⟩ := hgr 6 (by decide)
     clear hgr
     change Made _ (Adds _ _ _) (Sem.run _ (execOp (Act.eval (Act.put (frm _ _ _ []) (some 21) (vs 6))) _) _)
     simp only [frm, h6]
     go_simp
     exact adds_ext h6 rfl
    ·clear hgr
     change Made _ (Adds _ _ _) (Sem.run _ (execOp (Act.eval (frm _ _ _ [])) _) _)
     simp only [frm]
     go_simp
     exact adds_blk
   ·intro vs w1 hb1 hall hap
    obtain ⟨u5, h5, ho5⟩ := (hall 5 (by omega)).1
    obtain ⟨⟨g9, h9, k9⟩, q9⟩ := hall 9 (by omega)
    have r9 : wr.heap.size ≤ g9 ∧ g9 < w1.heap.size := q9 g9 (by rw [h9]; rfl)
    clear q9
    have h6e := (hall 6 (by omega)).1.1
    have h7 : vs 7 = .agg #[.int .i64 hd.k, .int .i64 hd.c, .int .i64 hd.f] := ext_eq (hall 7 (by omega)).1 (h6e.trans h5) rfl
    have h8 : vs 8 = u5 := ext_eq (hall 8 (by omega)).1 (h6e.trans h5) rfl
    clear hall hap
    change wpList _ _ _ [_, _] (Act.put (Act.put (Act.put (Act.put (Act.put (Act.put (Act.put (Act.put (Act.put (Act.put (frm _ _ _ []) (some 7) (vs 9)) (some 29) (vs 8)) (some 28) (vs 7)) (some 21) (vs 6)) (some 27) (vs 5)) (some 26) (vs 4)) (some 25) (vs 3)) (some 24) (vs 2)) (some 23) (vs 1)) (some 22) (vs 0)) _
    simp only [frm, h5, h7, h8, h9]
    have HB5 := lh hb1
    have HO5 := lh ho5
    have HK9 := lh k9
    have h9s := r9
    have d0 : w1.cell? ⟨g9, 0, none⟩ = some (.int .i64 0) := k9.cell 0
    have d1 : w1.cell? ⟨g9, 1, none⟩ = some (.int .i64 0) := k9.cell 1
    have d2 : w1.cell? ⟨g9, 2, none⟩ = some (.int .i64 0) := k9.cell 2
    have f0 := k9.free 0
    have f1 := k9.free 1
    have f2 := k9.free 2
    have h1s := hb1.size
    clear hb1 ho5 k9 r9 h5 h6e h7 h8 h9 cF
    obtain ⟨Af, cf, rfl, hcf⟩ := own_shape HO5.out
    go_wp2_with fail
    rw [onlyN_normal]
    go_upto_region 6 with fail
    have hsr : StR (((w1.setCell ⟨g9, 0, none⟩ (.int .i64 hd.k)).setCell ⟨g9, 1, none⟩ (.int .i64 hd.c)).setCell ⟨g9, 2, none⟩ (.int .i64 hd.f)) wB g9 hd fl (.slice Af fl.length cf) out (.slice A0 out.length c0) := by
     have hne : ∀ k, k ≠ g9 → (((w1.setCell ⟨g9, 0, none⟩ (.int .i64 hd.k)).setCell ⟨g9, 1, none⟩ (.int .i64 hd.c)).setCell ⟨g9, 2, none⟩ (.int .i64 hd.f)).heap[k]? = w1.heap[k]? := fun k hk => by
      rw [Below.heap_setCell _ _ _ _ hk, Below.heap_setCell _ _ _ _ hk, Below.heap_setCell _ _ _ _ hk]
     refine ⟨own_local (own_local HOWN.out fun k hk => HB5.out.block k (HOWN.out.lt k hk).2) fun k hk => hne k (by have := (HOWN.out.lt k hk).2; omega), ?_, HK9.out.set3 _ _ _, own_local (ownBase HO5.out hbs) fun k hk => hne k fun e => ownRow_bk HO5.out HK9.out (by decide) (e ▸ hk)⟩
     exact below_set3 (HBR.out.trans (HB5.out.mono hbs)) (by omega) _ _ _
    have HSR := lh hsr
    clear hsr HB5 HO5 HK9 h9s d0 d1 d2 f0 f1 f2 h1s HE1 HQR
    generalize ((w1.setCell ⟨g9, 0, none⟩ (.int .i64 hd.k)).setCell ⟨g9, 1, none⟩ (.int .i64 hd.c)).setCell ⟨g9, 2, none⟩ (.int .i64 hd.f) = w6 at *
    clear HOWN HBR
    have hsz6 := HSR.out.bl.size
    have c0' : w6.cell? ⟨g9, 0, none⟩ = some (.int .i64 hd.k) := HSR.out.hb.cell 0
    by_cases hk2 : hd.k = 2
    ·have hkb : (hd.k != 2) = false := by simp [hk2]
     have HK2 := lh hk2
     clear hk2
     by_cases hln : fl = []
     ·have HLN := lh hln
      have hl1 : ((fl.length : Int) == 0) = true := by rw [hln]; rfl
      clear hln
      go_wp2_with fail
      go_roundw
      case rel => exact ⟨j + 1, out, by go_num, by omega, by rw [← HFD.out, HD.out, List.foldl_cons, Mm.weakB_nil (HHD.out.1.symm.trans HLN.out)], by omega, HSR.out.ow, HSR.out.bl⟩
      case measure => simp [intOf]; omega
     ·obtain ⟨x, t, hxt⟩ : ∃ x t, fl = x :: t := by
       cases fl with
       | nil => exact absurd rfl hln
       | cons x t => exact ⟨x, t, rfl⟩
      have hl1 : ((fl.length : Int) == 0) = false := by rw [hxt]; simp; omega
      have hxu := HFU.out x (by rw [hxt]; simp)
      have hlp : 0 < fl.length := by rw [hxt]; simp
      obtain ⟨b3, o3, rfl, hbl3, hcc3⟩ := (own_sl HSR.out.fu).get hlp
      have e1 : w6.cell? ⟨b3, o3 + 0, none⟩ = some (.int .u64 x) := hcc3 0 _ (wds_get (by rw [hxt]; rfl))
      rw [Nat.add_zero] at e1
      have hqr := HQ.out.below HSR.out.bl HQ.out.lt
      have q0 : w6.cell? ⟨w.heap.size, 0, none⟩ = some (.int .i64 s.base) := hqr.cell 0
      have q1 : w6.cell? ⟨w.heap.size, 1, none⟩ = some (.int .i64 s.limit) := hqr.cell 1
      have q2 : w6.cell? ⟨w.heap.size, 2, none⟩ = some (.slice A s.ws.length c) := hqr.cell 2
      have hck : 0 < cf := by omega
      have hlI : (0 : Int) < (fl.length : Int) := by omega
      have HXT := lh hxt
      have k0 := cell_regrown q0
      have k1 := cell_regrown q1
      have k2 := cell_regrown q2
      have k3 := cell_regrown e1
      have cR := fun dd os => Calls.regrown_of (w := w6) (HCR.out _ (HSR.out.bl.trans ((below_regrown w6 dd os).mono hsz6)) _ hxu)
      obtain ⟨o, ho⟩ : ∃ o, o = m.rfr x := ⟨_, rfl⟩
      rw [← ho] at cR
      have HO := lh ho.symm
      obtain ⟨ad, ok, bd, hq, hov⟩ : ∃ (ad : Int) (ok bd : Bool), rfsV o = .tuple #[.int .i64 ad, .bool ok, .bool bd] ∧ ((ok = true ∧ o = some (some ad)) ∨ (ok = false ∧ ∀ a, o ≠ some (some a))) := by
       rcases o with _ | _ | a
       ·exact ⟨0, false, true, rfl, .inr ⟨rfl, fun a e => by cases e⟩⟩
       ·exact ⟨0, false, false, rfl, .inr ⟨rfl, fun a e => by cases e⟩⟩
       ·exact ⟨a, true, false, rfl, .inl ⟨rfl, rfl⟩⟩
      rw [hq] at cR
      have HOV := lh hov
      clear hln hxt hcc3 hqr ho hq hov hxu
      go_wp2_with fail
      refine wp_region_quiet_below (by kernel_rfl) (by kernel_rfl) ?_
      repeat (first | go_big_quiet_step ((go_at_call 28; exact cR _ _)) | quiet_step ((go_at_call 28; exact cR _ _)))
      refine wpQuiet_nil ?_
      intro w7 hw'
      have hb7 := quiet_below_one hw'
      have HS7 := lh (HSR.out.below hb7)
      have hqr := HQ.out.below HS7.out.bl HQ.out.lt
      clear hw' hb7 cR k0 k1 k2 k3 q0 q1 q2 e1 c0' HSR
      have q0 : w7.cell? ⟨w.heap.size, 0, none⟩ = some (.int .i64 s.base) := hqr.cell 0
      have q1 : w7.cell? ⟨w.heap.size, 1, none⟩ = some (.int .i64 s.limit) := hqr.cell 1
      have q2 : w7.cell? ⟨w.heap.size, 2, none⟩ = some (.slice A s.ws.length c) := hqr.cell 2
      have cM := HCM.out _ HS7.out.bl
      clear hqr
      go_wp2_with fail
      refine cM.mono ?_
      rintro e w8 ⟨rfl, hb8⟩
      have HS8 := lh (HS7.out.below hb8)
      have cH := HCH.out _ HS8.out.bl ad
      obtain ⟨er, hd2, hhd2⟩ : ∃ er hd2, m.hdr ad = (er, hd2) := ⟨_, _, rfl⟩
      rw [hhd2] at cH
      dsimp only at cH
      have HH2 := lh hhd2
      clear hb8 cM hhd2 q0 q1 q2
      go_wp2_with fail
      refine cH.mono ?_
      rintro e w9 ⟨rfl, hb9⟩
      have HS9 := lh (HS8.out.below hb9)
      clear hb9 cH HS8 HS7
      go_upto_region 9 with fail
      have hbx : Below w9.heap.size w9 (w9.alloc (.cells #[.int .i64 hd2.k, .int .i64 hd2.c, .int .i64 hd2.f] 55)) := (Below.refl _ _).alloc (Nat.le_refl _) _
      have HSX := lh (HS9.out.below hbx)
      have HX2 : Hid (Bk (w9.alloc (.cells #[.int .i64 hd2.k, .int .i64 hd2.c, .int .i64 hd2.f] 55)) w9.heap.size 55 #[.int .i64 hd2.k, .int .i64 hd2.c, .int .i64 hd2.f]) := lh (Bk.new _ _ _)
      clear hbx HS9
      generalize w9.alloc (.cells #[.int .i64 hd2.k, .int .i64 hd2.c, .int .i64 hd2.f] 55) = wx at *
      generalize w9.heap.size = gx at *
      have x0 : wx.cell? ⟨gx, 0, none⟩ = some (.int .i64 hd2.k) := HX2.out.cell 0
      have hsx := HSX.out.bl.size
      have cS := R11Has_any (HST.out.below HSX.out.bl) (by omega) ad
      have hIO : IS wx out A0 c0 := ⟨own_sl HSX.out.ow, hac⟩
      have cO := R11Has_any hIO (by omega) ad
      clear hIO
      have HK3 := lh HH2.out
      rcases HOV.out with ⟨hok, hoa⟩ | ⟨hok, hoa⟩
      ·subst hok
       have HWB : Hid (m.weakB st out b = if hd2.k = 3 ∧ st.contains ad = false ∧ out.contains ad = false then out ++ [ad] else out) := lh (by
        rw [Mm.weakB_ref (by rw [← HHD.out.2]; exact HK2.out) (HHD.out.1.symm.trans HXT.out) (HO.out.trans hoa), HH2.out])
       clear hoa
       by_cases hk3 : hd2.k = 3
       ·have hkb3 : (hd2.k == 3) = true := by simp [hk3]
        cases hc1 : st.contains ad with
        | true =>
         rw [hc1] at cS
         have HW2 : Hid (m.weakB st out b = out) := lh (by rw [HWB.out, if_neg (by rw [hc1]; simp)])
         clear hk3 hc1
         go_wp2_with (go_at_call 21; (with_reducible refine cS.mono ?_); rintro e wy ⟨rfl, rfl⟩)
         go_roundw
         case rel => exact ⟨j + 1, out, by go_num, by omega, by rw [← HFD.out, HD.out, List.foldl_cons, HW2.out], by omega, HSX.out.ow, HSX.out.bl⟩
         case measure => simp [intOf]; omega
        | false =>
         rw [hc1] at cS
         cases hc2' : out.contains ad with
         | true =>
          rw [hc2'] at cO
          have HW2 : Hid (m.weakB st out b = out) := lh (by rw [HWB.out, if_neg (by rw [hc2']; simp)])
          clear hk3 hc1 hc2'
          go_wp2_with (first | (go_at_call 21; (with_reducible refine cS.mono ?_); rintro e wy ⟨rfl, rfl⟩) | (go_at_call 21; (with_reducible refine cO.mono ?_); rintro e wy ⟨rfl, rfl⟩))
          go_roundw
          case rel => exact ⟨j + 1, out, by go_num, by omega, by rw [← HFD.out, HD.out, List.foldl_cons, HW2.out], by omega, HSX.out.ow, HSX.out.bl⟩
          case measure => simp [intOf]; omega
         | false =>
          rw [hc2'] at cO
          have HW2 : Hid (m.weakB st out b = out ++ [ad]) := lh (by rw [HWB.out, if_pos ⟨hk3, hc1, hc2'⟩])
          obtain ⟨i0, hi, hz0, hz1, hz2⟩ := info_parts Tryz.infoI1
          have HI := lh (And.intro hi (And.intro hz0 (And.intro hz1 hz2)))
          clear hk3 hc1 hc2' hi hz0 hz1 hz2
          go_wp2_with (first | (go_at_call 21; (with_reducible refine cS.mono ?_); rintro e wy ⟨rfl, rfl⟩) | (go_at_call 21; (with_reducible refine cO.mono ?_); rintro e wy ⟨rfl, rfl⟩) | (at_builtin; refine wpList_append_own_at _ rfl (.tmp 72) (.tmp 74) 23 rfl wB.heap.size 3 i0 (.int .i64 0) 1 8 Tryz.underlying23 HI.out.1 HI.out.2.1 HI.out.2.2.1 HI.out.2.2.2 rfl (by decide) _ out.length _ rfl (HSX.out.ow.alloc _) ⟨wx.heap.size, 0, none⟩ 1 1 [.int .i64 ad] rfl rfl (cell_one_new _ _ _) (by simp [Value.oneCell']) (by unfold maxLen; omega) (by omega) (by simp; omega) ?_; intro v' wz hown3 hg3 _ hloc; have HOWN3 := lh hown3; have HG3 := lh hg3; clear hown3 hg3 hloc))
          go_roundw
          case rel =>
           have hz := HSX.out.push HOWN3.out HG3.out
           exact ⟨j + 1, out ++ [ad], by go_num, by omega, by rw [← HFD.out, HD.out, List.foldl_cons, HW2.out], by simp; omega, hz.ow, hz.bl⟩
          case measure => simp [intOf]; omega
       ·have hkb3 : (hd2.k == 3) = false := by simp [hk3]
        have HW2 : Hid (m.weakB st out b = out) := lh (by rw [HWB.out, if_neg (fun e => hk3 e.1)])
        clear hk3
        go_wp2_with fail
        go_roundw
        case rel => exact ⟨j + 1, out, by go_num, by omega, by rw [← HFD.out, HD.out, List.foldl_cons, HW2.out], by omega, HSX.out.ow, HSX.out.bl⟩
        case measure => simp [intOf]; omega
      ·subst hok
       have HW2 : Hid (m.weakB st out b = out) := lh (Mm.weakB_none (HHD.out.1.symm.trans HXT.out) fun a e => hoa a (HO.out.symm.trans e))
       clear hoa
       go_wp2_with fail
       go_roundw
       case rel => exact ⟨j + 1, out, by go_num, by omega, by rw [← HFD.out, HD.out, List.foldl_cons, HW2.out], by omega, HSX.out.ow, HSX.out.bl⟩
       case measure => simp [intOf]; omega
    ·have hkb : (hd.k != 2) = true := by simp [hk2]
     have HW2 : Hid (m.weakB st out b = out) := lh (Mm.weakB_no (by rw [← HHD.out.2]; exact hk2))
     clear hk2
     go_wp2_with fail
     go_roundw
     case rel => exact ⟨j + 1, out, by go_num, by omega, by rw [← HFD.out, HD.out, List.foldl_cons, HW2.out], by omega, HSR.out.ow, HSR.out.bl⟩
     case measure => simp [intOf]; omega
  ·have hjI : ¬ (j : Int) < (st.length : Int) := by omega
   clear HQR hbr
   go_wp2_with fail
   go_ret
   have e : R = out := by rw [← HFD.out, List.drop_eq_nil_of_le (by omega)]; rfl
   rw [e]
   exact ⟨_, rfl, ownBase HOWN.out HB.out.size, HB.out.trans (HBR.out.mono HB.out.size)⟩
/-- the number of words of objects -/
theorem wSum_take (m : Mm) {l : List Int} {j : Nat} {a : Int} (h : l[j]? = some a) : wSum m (l.take (j + 1)) = wSum m (l.take j) + wH (m.hdr a).2 := by
 rw [List.take_add_one, h, wSum_app]
 show _ + wSum m [a] = _
 rw [wSum_one]
end
end Go.Proofs.YtjpaogapclfajaaGreat
