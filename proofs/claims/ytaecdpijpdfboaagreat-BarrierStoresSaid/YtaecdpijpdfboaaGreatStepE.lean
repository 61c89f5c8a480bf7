/- Package cards: Clear. The law's world: what stores, marks and clearings leave. -/
import Derived.Test.YtaecdpijpdfboaaGreatCards
import Derived.Test.YtaecdpijpdfboaaGreatStepH
import Derived.Test.YtaecdpijpdfboaaGreatRResolve
namespace Go.Proofs.YtaecdpijpdfboaaGreat
set_option linter.unusedVariables false
set_option linter.unusedSimpArgs false
set_option linter.unusedSectionVars false
open Go.RowKit Go.Maps Go.MapKept
set_option maxRecDepth 100000

theorem MapT.clear {P : Program} {k e t : TypeId} {w : World} {b n : Nat} {f : Int → Bool} (ht : P.underlying t = some (.map k e)) (h : MapT P k e w b n f) : ∃ w', (∀ ty, (Builtin.clear_ #[t] ty #[.map (some b)]).run P w = .ok (.tuple #[]) w') ∧ MapT P k e w' b 0 (fun _ => false) ∧ w.grownBy w' (some b) := by
  obtain ⟨D, ⟨es, clock, hb, _⟩, _⟩ := h
  refine ⟨{ w with heap := w.heap.setIfInBounds b (.map #[] clock) }, fun ty => ?_, ⟨.map [], ⟨#[], clock, (heap_set hb).1, ⟨by simp, stamped_empty clock, by simp⟩, Nat.le_refl _, rfl⟩, fun x _ => ⟨rfl, rfl⟩⟩, ?_⟩
  · simp [Builtin.clear_, run_underlying ht, MapKept.run_getObj_map hb, MapKept.run_setObj_map _ hb, Result.andThen]
  · exact ⟨rfl, rfl, rfl, by simp, fun k hk hne => (heap_set hb).2 k (fun e => hne (by rw [e]))⟩
section
variable {w : World} {B g b n : Nat} {cs : List Int}
theorem Clear_any (h : CR w B g b n cs) : Calls Tryz.prog 44 #[.pointer (some ⟨g, 0, none⟩)] w fun e w' => e = .returned (.tuple #[]) ∧ CR w' B g b 0 [] ∧ Kp (fun k => k = b) w w' := by
  obtain ⟨w2, hr, hm, hg⟩ := h.mp.clear Tryz.underlying94
  have c0 : w.cell? ⟨g, 0, none⟩ = some (.map (some b)) := h.hd.cell 0
  have H := Lib.hid h
  have HM := Lib.hid hm
  have HG := Lib.hid hg
  clear h hm hg
  go_enter Tryz.func44, Tryz.ntmps44
  go_wp2_with fail
  go_end0
  refine ⟨rfl, ⟨?_, HM.out.congr fun x _ => rfl, H.out.ge, H.out.gm⟩, Kp.of_grown HG.out fun k hk => (Option.some.inj hk).symm⟩
  refine H.out.hd.grown HG.out fun e => ?_
  cases e
  obtain ⟨D, ⟨es, clock, h1, _⟩, _⟩ := H.out.mp
  have h2 := H.out.hd
  unfold Bk at h2
  rw [h1] at h2
  cases h2
end
end Go.Proofs.YtaecdpijpdfboaaGreat
namespace Go.Proofs.YtaecdpijpdfboaaGreat
set_option linter.unusedVariables false
set_option linter.unusedSimpArgs false
set_option linter.unusedSectionVars false
open Go.RowKit Go.Sort Go.Shelf
set_option maxRecDepth 100000
section
variable {w w' w0 : World} {B k : Nat} {L : LP} {m m' : Mm} {cs cs' xs : List Int}
/-- the program writes its words -/
theorem LV.progM (h : LV w B L k m cs m' cs' xs) {m2 : Mm} (hm : MR w' B L.g1 L.g2 L.V1 L.V2 m2) (hk : Kp (memS L.V1 L.V2) w w') : LV w' B L k m2 cs m' cs' xs :=
  h.prog hm (h.tr.kp hk (fun e => e.elim (fun e => (h.mr.o.own_map h.tr).2 e) (fun e => (h.mr.y.own_map h.tr).2 e)) (fun e => e.elim (fun e => (h.mr.o.own_map h.tr).1 e) (fun e => (h.mr.y.own_map h.tr).1 e))) (hk.mono fun _ _ e => .inl e)
theorem LV.progMBk (h : LV w B L k m cs m' cs' xs) (hk : Kp (memS L.V1 L.V2) w w') {g : Nat} {t : TypeId} {C : Array Value} (hg : Bk w g t C) (ht : t ≠ 51) : Bk w' g t C := h.progBk (hk.mono fun _ _ e => .inl e) hg ht
theorem LV.progMBelow (h : LV w B L k m cs m' cs' xs) (hk : Kp (memS L.V1 L.V2) w w') (hb : Below B w0 w) (hB : B ≤ w.heap.size) : Below B w0 w' := h.progBelow (hk.mono fun _ _ e => .inl e) hb hB
/-- the program writes its cards -/
theorem LV.progC (h : LV w B L k m cs m' cs' xs) {k2 : Nat} {cs2 : List Int} (hc : CR w' B L.gt L.b k2 cs2) (hk : Kp (fun g => g = L.b) w w') : LV w' B L k2 m cs2 m' cs' xs :=
  h.prog ⟨h.mr.o.kp hk (fun e => (h.tr.mp.ne_bk h.mr.o.hd) e) (fun q hq e => (h.mr.o.own_map h.tr).1 (e ▸ hq)), h.mr.y.kp hk (fun e => (h.tr.mp.ne_bk h.mr.y.hd) e) (fun q hq e => (h.mr.y.own_map h.tr).1 (e ▸ hq)), h.mr.ok, h.mr.gg, h.mr.vv⟩ hc (hk.mono fun _ _ e => .inr e)
theorem LV.progCBk (h : LV w B L k m cs m' cs' xs) (hk : Kp (fun g => g = L.b) w w') {g : Nat} {t : TypeId} {C : Array Value} (hg : Bk w g t C) (ht : t ≠ 51) : Bk w' g t C := h.progBk (hk.mono fun _ _ e => .inr e) hg ht
theorem LV.progCBelow (h : LV w B L k m cs m' cs' xs) (hk : Kp (fun g => g = L.b) w w') (hb : Below B w0 w) (hB : B ≤ w.heap.size) : Below B w0 w' := h.progBelow (hk.mono fun _ _ e => .inr e) hb hB
end
section
variable {w w2 w4 : World} {B k : Nat} {L : LP} {m2 m3 m' : Mm} {cs2 cs3 cs' xs : List Int} {A1 A2 A : Option Addr} {c1 c2 c : Nat}
theorem LV.end6 (h2 : LV w2 B L k m2 cs2 m' cs' xs) (hb2 : Below B w w2) (hB : B ≤ w.heap.size) (hb4 : Below w2.heap.size w2 w4) (bp : Bk w4 L.p 41 (L.cells m' cs' xs))
    (hm : RM w4 m3 A1 c1 A2 c2) (hn : Nw w2.heap.size L.A1 A1 ∧ Nw w2.heap.size L.A2 A2) {F : World} (hF : ((((((w4.setCell ⟨L.p, 3, none⟩ (.int .i64 m3.old.base)).setCell ⟨L.p, 4, none⟩ (.int .i64 m3.old.limit)).setCell ⟨L.p, 5, none⟩ (.slice A1 m3.old.ws.length c1)).setCell ⟨L.p, 6, none⟩ (.int .i64 m3.yng.base)).setCell ⟨L.p, 7, none⟩ (.int .i64 m3.yng.limit)).setCell ⟨L.p, 8, none⟩ (.slice A2 m3.yng.ws.length c2)) = F) :
    (∃ L', L.same L' ∧ LV F B L' k m2 cs2 m3 cs' xs) ∧ Below B w F := by
  refine LV.end_of (A := L.Ac) (c := L.cc) h2 hb2 hB hb4 ?_ ?_ hm (h2.rc.below hb4) ⟨hn.1, hn.2, Nw.refl _ _⟩
  · rw [← hF]
    exact Kp.set6 (S := fun g => g = L.p) (Kp.refl _ _) rfl 3 _ _ _ _ _ _
  · rw [← hF]
    have b6 := bp.set6 3 (.int .i64 m3.old.base) (.int .i64 m3.old.limit) (.slice A1 m3.old.ws.length c1) (.int .i64 m3.yng.base) (.int .i64 m3.yng.limit) (.slice A2 m3.yng.ws.length c2)
    have e : ((((((L.cells m' cs' xs).setIfInBounds 3 (.int .i64 m3.old.base)).setIfInBounds (3 + 1) (.int .i64 m3.old.limit)).setIfInBounds (3 + 2) (.slice A1 m3.old.ws.length c1)).setIfInBounds (3 + 3) (.int .i64 m3.yng.base)).setIfInBounds (3 + 4) (.int .i64 m3.yng.limit)).setIfInBounds (3 + 5) (.slice A2 m3.yng.ws.length c2) = (LP.cells { L with A1 := A1, c1 := c1, A2 := A2, c2 := c2, Ac := L.Ac, cc := L.cc } m3 cs' xs) := by simp [LP.cells]
    rw [e] at b6
    exact b6
theorem LV.end1 (h2 : LV w2 B L k m2 cs2 m' cs' xs) (hb2 : Below B w w2) (hB : B ≤ w.heap.size) (hb4 : Below w2.heap.size w2 w4) (bp : Bk w4 L.p 41 (L.cells m' cs' xs))
    (hc : RC w4 cs3 A c) (hn : Nw w2.heap.size L.Ac A) {F : World} (hF : w4.setCell ⟨L.p, 9, none⟩ (.slice A cs3.length c) = F) :
    (∃ L', L.same L' ∧ LV F B L' k m2 cs2 m' cs3 xs) ∧ Below B w F := by
  refine LV.end_of (A1 := L.A1) (c1 := L.c1) (A2 := L.A2) (c2 := L.c2) h2 hb2 hB hb4 ?_ ?_ (h2.rm.below hb4) hc ⟨Nw.refl _ _, Nw.refl _ _, hn⟩
  · rw [← hF]
    exact Kp.set1 (S := fun g => g = L.p) (Kp.refl _ _) _ rfl _
  · rw [← hF]
    have b6 := bp.set 9 (.slice A cs3.length c)
    have e : (L.cells m' cs' xs).setIfInBounds 9 (.slice A cs3.length c) = (LP.cells { L with A1 := L.A1, c1 := L.c1, A2 := L.A2, c2 := L.c2, Ac := A, cc := c } m' cs3 xs) := by simp [LP.cells]
    rw [e] at b6
    exact b6
end
/-- what the reference's Mark hands back, within a region -/
def RCsT (H : Nat) (Bc : Option Addr) (er : Int) (cs : List Int) (v : Value) (w : World) : Prop := ∃ A c, v = .tuple #[.agg #[.slice A cs.length c], .int .i64 er] ∧ RC w cs A c ∧ Nw H Bc A
theorem RCsT.below {H : Nat} {Bc : Option Addr} {er : Int} {cs : List Int} (v : Value) (w w' : World) (h : RCsT H Bc er cs v w) (hb : Below w.heap.size w w') : RCsT H Bc er cs v w' :=
  let ⟨A, c, e, h1, h2⟩ := h; ⟨A, c, e, h1.below hb, h2⟩
end Go.Proofs.YtaecdpijpdfboaaGreat
