/- The law's world: step, its words. The law's world: what allocations and stores leave. -/
import Derived.Test.YtaecdpijpdfboaaGreatObject
import Derived.Test.YtaecdpijpdfboaaGreatBarQ
import Derived.Test.YtaecdpijpdfboaaGreatSepF
import Derived.Deep.DeepCutAuto
namespace Go.Proofs.YtaecdpijpdfboaaGreat
set_option linter.unusedVariables false
set_option linter.unusedSimpArgs false
set_option linter.unusedSectionVars false
open Go.RowKit Go.Sort Go.Shelf
attribute [local go_sem] Oper.semAt_some
set_option maxRecDepth 100000

def OpV.cells (o : OpV) : Array Value := #[.int .u8 o.k, .int .i64 o.h.k, .int .i64 o.h.c, .int .i64 o.h.f, .int .i64 o.a, .int .i64 o.b, .int .i64 o.i, .int .u64 o.w, .bool o.r]
def OpV.box (o : OpV) : Obj := .cells o.cells 53
structure OpV.Ok (o : OpV) : Prop where
  k0 : 0 ≤ o.k
  k1 : o.k ≤ 255
  a0 : -9223372036854775808 ≤ o.a
  a1 : o.a ≤ 9223372036854775807
  b0 : -9223372036854775808 ≤ o.b
  b1 : o.b ≤ 9223372036854775807
  w : U64 o.w
def LP.same (L L' : LP) : Prop := L'.p = L.p ∧ L'.g1 = L.g1 ∧ L'.g2 = L.g2 ∧ L'.gt = L.gt ∧ L'.b = L.b
def StepP (w : World) (B : Nat) (L : LP) (k : Nat) (s : St) (e : Ending) (w' : World) : Prop :=
  e = .returned (.bool true) ∧ (∃ L', L.same L' ∧ LW w' B L' (k + 1) s.m s.cs s.xs) ∧ Below B w w'
/-! ### what the reference's functions hand back, within a region -/
theorem RC.form {w : World} {cs : List Int} {A : Option Addr} {c : Nat} (h : RC w cs A c) : A = none ∨ ∃ b o, A = some ⟨b, o, none⟩ ∧ b < w.heap.size := by
  rcases h.s.sl.2 with h0 | ⟨b, o, e, hb, _⟩
  · exact .inl (h.n (List.length_eq_zero_iff.1 h0)).1
  · exact .inr ⟨b, o, e, hb⟩
def cardPart (v : Value) : Option Value := match v with
  | .tuple l => if l.size = 3 then (l[1]? : Option Value) else l[0]?
  | _ => none
def sliceBlk (v : Value) : Option Nat := match v with
  | .agg l => (match (l[0]? : Option Value) with
    | some (Value.slice (some a) _ _) => some a.block
    | _ => none)
  | _ => none
def newC (H : Nat) (v : Value) : Option Nat := match (cardPart v).bind sliceBlk with
  | some k => if H ≤ k then some k else none
  | none => none
theorem newC_ok {H n c c' k : Nat} {x y : Value} {A A' : Option Addr} {w w1 w4 : World} {cs cs' : List Int} (hn : Nw w1.heap.size A A') (hA : RC w cs A c) (hH : H = w.heap.size) (hA' : RC w4 cs' A' c') (h : newC H (.tuple #[x, .agg #[.slice A' n c'], y]) = some k ∨ newC H (.tuple #[.agg #[.slice A' n c'], y]) = some k) : w1.heap.size ≤ k ∧ k < w4.heap.size := by
  obtain hf | ⟨b, o, hf, hb⟩ := hA'.form
  · subst hf; simp [newC, cardPart, sliceBlk] at h
  · subst hf
    have h' : (if H ≤ b then some b else none) = some k := by simpa [newC, cardPart, sliceBlk] using h
    clear h
    split at h'
    · have hbk : b = k := Option.some.inj h'
      subst hbk
      refine ⟨?_, hb⟩
      rcases hn b o rfl with e | e
      · rcases hA.form with e2 | ⟨b2, o2, e2, hb2⟩
        · rw [e2] at e; cases e
        · rw [e2] at e; cases e; rw [hH] at *; omega
      · exact e
    · cases h'
/-- a new block of the region is no block of the cards that came back -/
theorem newC_far {H g n c : Nat} {x y : Value} {A : Option Addr} (hg : H ≤ g) (h : newC H (.tuple #[x, .agg #[.slice A n c], y]) ≠ some g ∨ newC H (.tuple #[.agg #[.slice A n c], y]) ≠ some g) : ∀ b o, A = some ⟨b, o, none⟩ → b ≠ g := by
  rintro b o rfl rfl
  simp [newC, cardPart, sliceBlk, hg] at h
def RBsT (H : Nat) (B1 B2 Bc : Option Addr) (er : Int) (m : Mm) (cs : List Int) (v : Value) (w : World) : Prop := ∃ A1 c1 A2 c2 A c, v = .tuple #[.agg #[.int .i64 m.old.base, .int .i64 m.old.limit, .slice A1 m.old.ws.length c1, .int .i64 m.yng.base, .int .i64 m.yng.limit, .slice A2 m.yng.ws.length c2], .agg #[.slice A cs.length c], .int .i64 er] ∧ RM w m A1 c1 A2 c2 ∧ RC w cs A c ∧ Nw H B1 A1 ∧ Nw H B2 A2 ∧ Nw H Bc A
theorem RBsT.below {H : Nat} {B1 B2 Bc : Option Addr} {er : Int} {m : Mm} {cs : List Int} (v : Value) (w w' : World) (h : RBsT H B1 B2 Bc er m cs v w) (hb : Below w.heap.size w w') : RBsT H B1 B2 Bc er m cs v w' :=
  let ⟨A1, c1, A2, c2, A, c, e, h1, h2, h3⟩ := h; ⟨A1, c1, A2, c2, A, c, e, h1.below hb, h2.below hb, h3⟩
/-- the program's stores leave other blocks alone -/
theorem LV.progBk {w w' : World} {B k : Nat} {L : LP} {m m' : Mm} {cs cs' xs : List Int} (h : LV w B L k m cs m' cs' xs) (hk : Kp (fun g => memS L.V1 L.V2 g ∨ g = L.b) w w') {g : Nat} {t : TypeId} {C : Array Value} (hg : Bk w g t C) (ht : t ≠ 51) : Bk w' g t C :=
  hg.kp hk fun e => e.elim (fun e => e.elim (h.mr.o.own_ne hg ht) (h.mr.y.own_ne hg ht)) (h.tr.mp.ne_bk hg)
theorem LV.progBelow {w0 w w' : World} {B k : Nat} {L : LP} {m m' : Mm} {cs cs' xs : List Int} (h : LV w B L k m cs m' cs' xs) (hk : Kp (fun g => memS L.V1 L.V2 g ∨ g = L.b) w w') (hb : Below B w0 w) (hB : B ≤ w.heap.size) : Below B w0 w' :=
  hk.toBelow hb hB fun k hk => by
    rcases hk with (hk | hk) | rfl
    · exact (h.mr.o.own.lt k hk).1
    · exact (h.mr.y.own.lt k hk).1
    · exact h.tr.gm
theorem Bk.ne {w : World} {g g' : Nat} {t t' : TypeId} {C C' : Array Value} (h : Bk w g t C) (h' : Bk w g' t' C') (ht : t ≠ t') : g ≠ g' := fun e => by
  subst e
  unfold Bk at h h'
  rw [h] at h'
  cases h'
  exact ht rfl
theorem RS.kpA {w w' : World} {S : Nat → Prop} {s : Spc} {A : Option Addr} {c : Nat} (h : RS w s A c) (hk : Kp S w w') (hs : s.ws.length = 0 ∨ ∀ b o, A = some ⟨b, o, none⟩ → ¬ S b) : RS w' s A c := by
  rcases hs with hs | hs
  · exact ⟨⟨h.sl.1, .inl hs⟩, h.cap, h.u, h.b0, h.lim, h.l0, fun b o e => Nat.lt_of_lt_of_le (h.lt b o e) hk.size⟩
  · exact h.kp hk hs
theorem RM.kpA {w w' : World} {S : Nat → Prop} {m : Mm} {A1 A2 : Option Addr} {c1 c2 : Nat} (h : RM w m A1 c1 A2 c2) (hk : Kp S w w') (h1 : m.old.ws.length = 0 ∨ ∀ b o, A1 = some ⟨b, o, none⟩ → ¬ S b) (h2 : m.yng.ws.length = 0 ∨ ∀ b o, A2 = some ⟨b, o, none⟩ → ¬ S b) : RM w' m A1 c1 A2 c2 := ⟨h.o.kpA hk h1, h.y.kpA hk h2⟩
theorem Away.two {A : Option Addr} {n g g' : Nat} (h : Away A n g) (h' : Away A n g') : n = 0 ∨ ∀ b o, A = some ⟨b, o, none⟩ → ¬ (b = g ∨ b = g') :=
  h.elim .inl fun h => h'.elim .inl fun h' => .inr fun b o e hb => hb.elim (h b o e) (h' b o e)
theorem Away.one {A : Option Addr} {n g : Nat} (h : Away A n g) : n = 0 ∨ ∀ b o, A = some ⟨b, o, none⟩ → ¬ (b = g) := h
theorem Kp.set6 {S : Nat → Prop} {w w' : World} {g : Nat} (h : Kp S w w') (hg : S g) (o : Nat) (v0 v1 v2 v3 v4 v5 : Value) : Kp S w ((((((w'.setCell ⟨g, o, none⟩ v0).setCell ⟨g, o + 1, none⟩ v1).setCell ⟨g, o + 2, none⟩ v2).setCell ⟨g, o + 3, none⟩ v3).setCell ⟨g, o + 4, none⟩ v4).setCell ⟨g, o + 5, none⟩ v5) := by
  have k : ∀ {w1 : World} (p : Addr) (v : Value), Kp S w w1 → S p.block → Kp S w (w1.setCell p v) := fun p v h1 hp => h1.trans (Kp.setCell _ p v hp) fun _ _ h => h
  exact k _ _ (k _ _ (k _ _ (k _ _ (k _ _ (k _ _ h hg) hg) hg) hg) hg) hg
theorem Kp.set1 {S : Nat → Prop} {w w' : World} (h : Kp S w w') (p : Addr) (hp : S p.block) (v : Value) : Kp S w (w'.setCell p v) := h.trans (Kp.setCell _ p v hp) fun _ _ h => h
theorem Bk.far6 {w : World} {g' : Nat} {t : TypeId} {C : Array Value} (h : Bk w g' t C) {g : Nat} (hg : g' ≠ g) (o : Nat) (v0 v1 v2 v3 v4 v5 : Value) : Bk ((((((w.setCell ⟨g, o, none⟩ v0).setCell ⟨g, o + 1, none⟩ v1).setCell ⟨g, o + 2, none⟩ v2).setCell ⟨g, o + 3, none⟩ v3).setCell ⟨g, o + 4, none⟩ v4).setCell ⟨g, o + 5, none⟩ v5) g' t C :=
  (((((h.far hg _).far hg _).far hg _).far hg _).far hg _).far hg _
theorem Bk.set6 {w : World} {g : Nat} {t : TypeId} {C : Array Value} (h : Bk w g t C) (o : Nat) (v0 v1 v2 v3 v4 v5 : Value) : Bk ((((((w.setCell ⟨g, o, none⟩ v0).setCell ⟨g, o + 1, none⟩ v1).setCell ⟨g, o + 2, none⟩ v2).setCell ⟨g, o + 3, none⟩ v3).setCell ⟨g, o + 4, none⟩ v4).setCell ⟨g, o + 5, none⟩ v5) g t ((((((C.setIfInBounds o v0).setIfInBounds (o + 1) v1).setIfInBounds (o + 2) v2).setIfInBounds (o + 3) v3).setIfInBounds (o + 4) v4).setIfInBounds (o + 5) v5) :=
  (((((h.set _ _).set _ _).set _ _).set _ _).set _ _).set _ _
theorem LV.end_of {w w2 w4 F : World} {B k : Nat} {L : LP} {m2 m3 m' : Mm} {cs2 cs3 cs' xs : List Int} {A1 A2 A : Option Addr} {c1 c2 c : Nat} (h2 : LV w2 B L k m2 cs2 m' cs' xs) (hb2 : Below B w w2) (hB : B ≤ w.heap.size) (hb4 : Below w2.heap.size w2 w4) (kpF : Kp (fun g => g = L.p) w4 F) (hdF : Bk F L.p 41 (LP.cells { L with A1 := A1, c1 := c1, A2 := A2, c2 := c2, Ac := A, cc := c } m3 cs3 xs))
    (hm : RM w4 m3 A1 c1 A2 c2) (hc : RC w4 cs3 A c) (hn : Nw w2.heap.size L.A1 A1 ∧ Nw w2.heap.size L.A2 A2 ∧ Nw w2.heap.size L.Ac A) : (∃ L', L.same L' ∧ LV F B L' k m2 cs2 m3 cs3 xs) ∧ Below B w F :=
  ⟨⟨{ L with A1 := A1, c1 := c1, A2 := A2, c2 := c2, Ac := A, cc := c }, ⟨rfl, rfl, rfl, rfl, rfl⟩, h2.refs (A1 := A1) (A2 := A2) (Ac := A) (c1 := c1) (c2 := c2) (cc := c) (Nat.le_refl _) hb4 hb4.size kpF hdF hm hc hn.1 hn.2.1 hn.2.2⟩,
   kpF.toBelow (hb2.trans (hb4.mono (Nat.le_trans hB hb2.size))) (Nat.le_trans (Nat.le_trans hB hb2.size) hb4.size) (fun k hk => by rw [hk]; exact h2.pB)⟩
theorem LV.end7 {w w2 w4 : World} {B k : Nat} {L : LP} {m2 m3 m' : Mm} {cs2 cs3 cs' xs : List Int} {A1 A2 A : Option Addr} {c1 c2 c : Nat} (h2 : LV w2 B L k m2 cs2 m' cs' xs) (hb2 : Below B w w2) (hB : B ≤ w.heap.size) (hb4 : Below w2.heap.size w2 w4) (bp : Bk w4 L.p 41 (L.cells m' cs' xs))
    (hm : RM w4 m3 A1 c1 A2 c2) (hc : RC w4 cs3 A c) (hn : Nw w2.heap.size L.A1 A1 ∧ Nw w2.heap.size L.A2 A2 ∧ Nw w2.heap.size L.Ac A) {F : World} (hF : (((((((w4.setCell ⟨L.p, 3, none⟩ (.int .i64 m3.old.base)).setCell ⟨L.p, 4, none⟩ (.int .i64 m3.old.limit)).setCell ⟨L.p, 5, none⟩ (.slice A1 m3.old.ws.length c1)).setCell ⟨L.p, 6, none⟩ (.int .i64 m3.yng.base)).setCell ⟨L.p, 7, none⟩ (.int .i64 m3.yng.limit)).setCell ⟨L.p, 8, none⟩ (.slice A2 m3.yng.ws.length c2)).setCell ⟨L.p, 9, none⟩ (.slice A cs3.length c)) = F) :
    (∃ L', L.same L' ∧ LV F.drew B L' k m2 cs2 m3 cs3 xs) ∧ Below B w F.drew := by
  refine LV.end_of h2 hb2 hB hb4 ?_ ?_ hm hc hn
  · rw [← hF]
    have k0 : Kp (fun g => g = L.p) w4 w4 := Kp.refl _ _
    have k1 := k0.set1 ⟨L.p, 3, none⟩ rfl (.int .i64 m3.old.base)
    have k2 := k1.set1 ⟨L.p, 4, none⟩ rfl (.int .i64 m3.old.limit)
    have k3 := k2.set1 ⟨L.p, 5, none⟩ rfl (.slice A1 m3.old.ws.length c1)
    have k4 := k3.set1 ⟨L.p, 6, none⟩ rfl (.int .i64 m3.yng.base)
    have k5 := k4.set1 ⟨L.p, 7, none⟩ rfl (.int .i64 m3.yng.limit)
    have k6 := k5.set1 ⟨L.p, 8, none⟩ rfl (.slice A2 m3.yng.ws.length c2)
    exact (k6.set1 ⟨L.p, 9, none⟩ rfl (.slice A cs3.length c)).drew
  · rw [← hF]
    have b1 := bp.set 3 (.int .i64 m3.old.base)
    have b2 := b1.set 4 (.int .i64 m3.old.limit)
    have b3 := b2.set 5 (.slice A1 m3.old.ws.length c1)
    have b4 := b3.set 6 (.int .i64 m3.yng.base)
    have b5 := b4.set 7 (.int .i64 m3.yng.limit)
    have b6 := b5.set 8 (.slice A2 m3.yng.ws.length c2)
    have b7 := b6.set 9 (.slice A cs3.length c)
    have e : (((((((L.cells m' cs' xs).setIfInBounds 3 (.int .i64 m3.old.base)).setIfInBounds 4 (.int .i64 m3.old.limit)).setIfInBounds 5 (.slice A1 m3.old.ws.length c1)).setIfInBounds 6 (.int .i64 m3.yng.base)).setIfInBounds 7 (.int .i64 m3.yng.limit)).setIfInBounds 8 (.slice A2 m3.yng.ws.length c2)).setIfInBounds 9 (.slice A cs3.length c) = (LP.cells { L with A1 := A1, c1 := c1, A2 := A2, c2 := c2, Ac := A, cc := c } m3 cs3 xs) := by simp [LP.cells]
    rw [e] at b7
    exact b7.drewI
section
variable {w : World} {B k : Nat} {L : LP} {s : St}
end
end Go.Proofs.YtaecdpijpdfboaaGreat
namespace Go.Proofs.YtaecdpijpdfboaaGreat
set_option linter.unusedVariables false
set_option linter.unusedSimpArgs false
set_option linter.unusedSectionVars false
open Go.RowKit Go.Sort Go.Shelf
set_option maxRecDepth 100000
theorem LV.mine_lt {w : World} {B k : Nat} {L : LP} {m m' : Mm} {cs cs' xs : List Int} (h : LV w B L k m cs m' cs' xs) : ∀ g, L.mine g → g < w.heap.size := fun g hg => by
  rcases hg with rfl | rfl | rfl | rfl | rfl | hg | hg | hg
  · exact h.hd.lt
  · exact h.mr.o.hd.lt
  · exact h.mr.y.hd.lt
  · exact h.tr.hd.lt
  · exact h.tr.mp.lt
  · exact (h.mr.o.own.lt g hg).2
  · exact (h.mr.y.own.lt g hg).2
  · exact (h.l.lt g hg).2
theorem LV.slice_lt {w : World} {B k : Nat} {L : LP} {m m' : Mm} {cs cs' xs : List Int} (h : LV w B L k m cs m' cs' xs) : ∀ b o, L.A1 = some ⟨b, o, none⟩ ∨ L.A2 = some ⟨b, o, none⟩ ∨ L.Ac = some ⟨b, o, none⟩ → b < w.heap.size := by
  rintro b o (e | e | e)
  · exact h.rm.o.lt b o e
  · exact h.rm.y.lt b o e
  · rcases h.rc.form with h1 | ⟨b', o', h1, h2⟩
    · rw [h1] at e; cases e
    · rw [h1] at e; cases e; exact h2
/-- the program allocates in its old space -/
theorem LV.progOld {w w' : World} {B k : Nat} {L : LP} {m m' : Mm} {cs cs' xs : List Int} (h : LV w B L k m cs m' cs' xs) {s' : Spc} {V' : Value} (hs : SpR w' B L.g1 s' V') (hv : ∀ q, V'.ownBlock = some q → L.V1.ownBlock = some q ∨ w.heap.size ≤ q) (hok : Mm.Ok { m with old := s' }) (hk : Kp (fun g => g = L.g1 ∨ L.V1.ownBlock = some g) w w') : LV w' B { L with V1 := V' } k { m with old := s' } cs m' cs' xs := by
  have hS : ∀ g, (g = L.g1 ∨ L.V1.ownBlock = some g) → L.mine g := fun g hg => hg.elim (fun e => .inr (.inl e)) (fun e => .inr (.inr (.inr (.inr (.inr (.inl e))))))
  refine ⟨h.hd.kp hk (fun e => e.elim (fun e => Bk.ne h.hd h.mr.o.hd (by decide) e) (fun e => h.mr.o.own_ne h.hd (by decide) e)), ⟨hs, (h.mr.y.kp hk (fun e => e.elim (fun e => h.mr.gg e.symm) (fun e => h.mr.o.own_ne h.mr.y.hd (by decide) e)) fun q hq e => e.elim (fun e => h.mr.y.own_ne h.mr.o.hd (by decide) (e ▸ hq)) (fun e => h.mr.vv q e hq)), hok, h.mr.gg, fun q h1 h2 => (hv q h1).elim (fun e => h.mr.vv q e h2) (fun e => by have := (h.mr.y.own.lt q h2).2; omega)⟩, h.tr.kp hk (fun e => e.elim (fun e => Bk.ne h.tr.hd h.mr.o.hd (by decide) e) (fun e => (h.mr.o.own_map h.tr).2 e)) (fun e => e.elim (fun e => h.tr.mp.ne_bk h.mr.o.hd e.symm) (fun e => (h.mr.o.own_map h.tr).1 e)), h.rm.kp hk (fun b o e hs => h.ap b o (e.elim .inl fun e => .inr (.inl e)) (hS b hs)), h.rc.kp hk (fun b o e hs => h.ap b o (.inr (.inr e)) (hS b hs)), own_local h.l (fun g hg => hk.block g (h.l.lt g hg).2 fun hs => hs.elim (fun e => own_int_bk h.l h.mr.o.hd (by decide) (e ▸ hg)) (fun e => own_int_ne h.l h.mr.o g hg e)), fun b o e hm => ?_, h.pB⟩
  have h1 := h.slice_lt b o e
  have h2 := h.ap b o e
  rcases hm with hm | hm | hm | hm | hm | hm | hm | hm
  · exact h2 (.inl hm)
  · exact h2 (.inr (.inl hm))
  · exact h2 (.inr (.inr (.inl hm)))
  · exact h2 (.inr (.inr (.inr (.inl hm))))
  · exact h2 (.inr (.inr (.inr (.inr (.inl hm)))))
  · rcases hv b hm with hq | hq
    · exact h2 (.inr (.inr (.inr (.inr (.inr (.inl hq))))))
    · omega
  · exact h2 (.inr (.inr (.inr (.inr (.inr (.inr (.inl hm)))))))
  · exact h2 (.inr (.inr (.inr (.inr (.inr (.inr (.inr (hm))))))))
/-- the program allocates in its young space -/
theorem LV.progYng {w w' : World} {B k : Nat} {L : LP} {m m' : Mm} {cs cs' xs : List Int} (h : LV w B L k m cs m' cs' xs) {s' : Spc} {V' : Value} (hs : SpR w' B L.g2 s' V') (hv : ∀ q, V'.ownBlock = some q → L.V2.ownBlock = some q ∨ w.heap.size ≤ q) (hok : Mm.Ok { m with yng := s' }) (hk : Kp (fun g => g = L.g2 ∨ L.V2.ownBlock = some g) w w') : LV w' B { L with V2 := V' } k { m with yng := s' } cs m' cs' xs := by
  have hS : ∀ g, (g = L.g2 ∨ L.V2.ownBlock = some g) → L.mine g := fun g hg => hg.elim (fun e => .inr (.inr (.inl e))) (fun e => .inr (.inr (.inr (.inr (.inr (.inr (.inl e)))))))
  refine ⟨h.hd.kp hk (fun e => e.elim (fun e => Bk.ne h.hd h.mr.y.hd (by decide) e) (fun e => h.mr.y.own_ne h.hd (by decide) e)), ⟨(h.mr.o.kp hk (fun e => e.elim (fun e => h.mr.gg e) (fun e => h.mr.y.own_ne h.mr.o.hd (by decide) e)) fun q hq e => e.elim (fun e => h.mr.o.own_ne h.mr.y.hd (by decide) (e ▸ hq)) (fun e => h.mr.vv q hq e)), hs, hok, h.mr.gg, fun q h1 h2 => (hv q h2).elim (fun e => h.mr.vv q h1 e) (fun e => by have := (h.mr.o.own.lt q h1).2; omega)⟩, h.tr.kp hk (fun e => e.elim (fun e => Bk.ne h.tr.hd h.mr.y.hd (by decide) e) (fun e => (h.mr.y.own_map h.tr).2 e)) (fun e => e.elim (fun e => h.tr.mp.ne_bk h.mr.y.hd e.symm) (fun e => (h.mr.y.own_map h.tr).1 e)), h.rm.kp hk (fun b o e hs => h.ap b o (e.elim .inl fun e => .inr (.inl e)) (hS b hs)), h.rc.kp hk (fun b o e hs => h.ap b o (.inr (.inr e)) (hS b hs)), own_local h.l (fun g hg => hk.block g (h.l.lt g hg).2 fun hs => hs.elim (fun e => own_int_bk h.l h.mr.y.hd (by decide) (e ▸ hg)) (fun e => own_int_ne h.l h.mr.y g hg e)), fun b o e hm => ?_, h.pB⟩
  have h1 := h.slice_lt b o e
  have h2 := h.ap b o e
  rcases hm with hm | hm | hm | hm | hm | hm | hm | hm
  · exact h2 (.inl hm)
  · exact h2 (.inr (.inl hm))
  · exact h2 (.inr (.inr (.inl hm)))
  · exact h2 (.inr (.inr (.inr (.inl hm))))
  · exact h2 (.inr (.inr (.inr (.inr (.inl hm)))))
  · exact h2 (.inr (.inr (.inr (.inr (.inr (.inl hm))))))
  · rcases hv b hm with hq | hq
    · exact h2 (.inr (.inr (.inr (.inr (.inr (.inr (.inl hq)))))))
    · omega
  · exact h2 (.inr (.inr (.inr (.inr (.inr (.inr (.inr (hm))))))))
theorem LV.mine_ge {w : World} {B k : Nat} {L : LP} {m m' : Mm} {cs cs' xs : List Int} (h : LV w B L k m cs m' cs' xs) : ∀ g, L.mine g → B ≤ g := fun g hg => by
  rcases hg with rfl | rfl | rfl | rfl | rfl | hg | hg | hg
  · exact h.pB
  · exact h.mr.o.ge
  · exact h.mr.y.ge
  · exact h.tr.ge
  · exact h.tr.gm
  · exact (h.mr.o.own.lt g hg).1
  · exact (h.mr.y.own.lt g hg).1
  · exact (h.l.lt g hg).1
theorem LV.monoK {w : World} {B k : Nat} {L : LP} {m m' : Mm} {cs cs' xs : List Int} (h : LV w B L k m cs m' cs' xs) {k' : Nat} (hk : k ≤ k') : LV w B L k' m cs m' cs' xs :=
  ⟨h.hd, h.mr, h.tr.mono hk, h.rm, h.rc, h.l, h.ap, h.pB⟩
def RL (l : List (Value → World → Prop)) (i : Nat) : Value → World → Prop := l.getD i (fun _ _ => False)
def OL (l : List (Value → Option Nat)) (i : Nat) : Value → Option Nat := l.getD i (fun _ => none)
def RMaT (H : Nat) (B1 B2 : Option Addr) (er ad : Int) (m : Mm) (v : Value) (w : World) : Prop := ∃ A1 c1 A2 c2, v = .tuple #[.agg #[.int .i64 m.old.base, .int .i64 m.old.limit, .slice A1 m.old.ws.length c1, .int .i64 m.yng.base, .int .i64 m.yng.limit, .slice A2 m.yng.ws.length c2], .int .i64 ad, .int .i64 er] ∧ RM w m A1 c1 A2 c2 ∧ Nw H B1 A1 ∧ Nw H B2 A2
theorem RMaT.below {H : Nat} {B1 B2 : Option Addr} {er ad : Int} {m : Mm} (v : Value) (w w' : World) (h : RMaT H B1 B2 er ad m v w) (hb : Below w.heap.size w w') : RMaT H B1 B2 er ad m v w' :=
  let ⟨A1, c1, A2, c2, e, h1, h3⟩ := h; ⟨A1, c1, A2, c2, e, h1.below hb, h3⟩
def RMsT (H : Nat) (B1 B2 : Option Addr) (er : Int) (m : Mm) (v : Value) (w : World) : Prop := ∃ A1 c1 A2 c2, v = .tuple #[.agg #[.int .i64 m.old.base, .int .i64 m.old.limit, .slice A1 m.old.ws.length c1, .int .i64 m.yng.base, .int .i64 m.yng.limit, .slice A2 m.yng.ws.length c2], .int .i64 er] ∧ RM w m A1 c1 A2 c2 ∧ Nw H B1 A1 ∧ Nw H B2 A2
theorem RMsT.below {H : Nat} {B1 B2 : Option Addr} {er : Int} {m : Mm} (v : Value) (w w' : World) (h : RMsT H B1 B2 er m v w) (hb : Below w.heap.size w w') : RMsT H B1 B2 er m v w' :=
  let ⟨A1, c1, A2, c2, e, h1, h3⟩ := h; ⟨A1, c1, A2, c2, e, h1.below hb, h3⟩
/-- the law takes the reference's memory over, and a further address -/
theorem LV.endA {w4 w5 F : World} {B k H : Nat} {L : LP} {m m3 m' : Mm} {cs xs : List Int} {ad : Int} {A1 A2 : Option Addr} {c1 c2 : Nat} {v' : Value} (h : LV w4 B L k m cs m' cs xs) (hk : Kp (fun g => L.vl.ownBlock = some g) w4 w5) (hrm : RM w4 m3 A1 c1 A2 c2) (n1 : Nw H L.A1 A1) (n2 : Nw H L.A2 A2) (hH : ∀ g, L.mine g → g < H) (hHs : ∀ g, L.mine g → g < w4.heap.size) (hHw : ∀ b o, A1 = some ⟨b, o, none⟩ ∨ A2 = some ⟨b, o, none⟩ → b < w4.heap.size)
    (hl : w5.ownsRow B 3 1 v' (xs.length + 1) (ints (xs ++ [ad]))) (hv : ∀ q, v'.ownBlock = some q → L.vl.ownBlock = some q ∨ w4.heap.size ≤ q)
    (hF : ((((((w5.setCell ⟨L.p, 3, none⟩ (.int .i64 m3.old.base)).setCell ⟨L.p, 4, none⟩ (.int .i64 m3.old.limit)).setCell ⟨L.p, 5, none⟩ (.slice A1 m3.old.ws.length c1)).setCell ⟨L.p, 6, none⟩ (.int .i64 m3.yng.base)).setCell ⟨L.p, 7, none⟩ (.int .i64 m3.yng.limit)).setCell ⟨L.p, 8, none⟩ (.slice A2 m3.yng.ws.length c2)).setCell ⟨L.p, 10, none⟩ v' = F) :
    (∃ L', L.same L' ∧ LV F B L' k m cs m3 cs (xs ++ [ad])) ∧ Kp L.mine w4 F := by
  have hvp : L.vl.ownBlock ≠ some L.p := own_int_bk h.l h.hd (by decide)
  have hap : ∀ b o, A1 = some ⟨b, o, none⟩ ∨ A2 = some ⟨b, o, none⟩ ∨ L.Ac = some ⟨b, o, none⟩ → ¬ L.mine b := by
    rintro b o (e | e | e) hm
    · rcases n1 b o e with e1 | e1
      · exact h.ap b o (.inl (e1 ▸ e)) hm
      · have := hH b hm; omega
    · rcases n2 b o e with e1 | e1
      · exact h.ap b o (.inr (.inl (e1 ▸ e))) hm
      · have := hH b hm; omega
    · exact h.ap b o (.inr (.inr e)) hm
  have kF : Kp (fun g => g = L.p ∨ L.vl.ownBlock = some g) w4 F := by
    rw [← hF]
    have k0 : Kp (fun g => g = L.p ∨ L.vl.ownBlock = some g) w4 w5 := hk.mono fun g _ hg => .inr hg
    have k1 := k0.set1 ⟨L.p, 3, none⟩ (.inl rfl) (.int .i64 m3.old.base)
    have k2 := k1.set1 ⟨L.p, 4, none⟩ (.inl rfl) (.int .i64 m3.old.limit)
    have k3 := k2.set1 ⟨L.p, 5, none⟩ (.inl rfl) (.slice A1 m3.old.ws.length c1)
    have k4 := k3.set1 ⟨L.p, 6, none⟩ (.inl rfl) (.int .i64 m3.yng.base)
    have k5 := k4.set1 ⟨L.p, 7, none⟩ (.inl rfl) (.int .i64 m3.yng.limit)
    have k6 := k5.set1 ⟨L.p, 8, none⟩ (.inl rfl) (.slice A2 m3.yng.ws.length c2)
    exact k6.set1 ⟨L.p, 10, none⟩ (.inl rfl) v'
  have hS : ∀ g, (g = L.p ∨ L.vl.ownBlock = some g) → L.mine g := fun g hg => hg.elim .inl fun e => .inr (.inr (.inr (.inr (.inr (.inr (.inr e))))))
  have hdF : Bk F L.p 41 (LP.cells { L with A1 := A1, c1 := c1, A2 := A2, c2 := c2, vl := v' } m3 cs (xs ++ [ad])) := by
    rw [← hF]
    have b0 := h.hd.kp hk (fun e => hvp e)
    have b1 := b0.set 3 (.int .i64 m3.old.base)
    have b2 := b1.set 4 (.int .i64 m3.old.limit)
    have b3 := b2.set 5 (.slice A1 m3.old.ws.length c1)
    have b4 := b3.set 6 (.int .i64 m3.yng.base)
    have b5 := b4.set 7 (.int .i64 m3.yng.limit)
    have b6 := b5.set 8 (.slice A2 m3.yng.ws.length c2)
    have b7 := b6.set 10 v'
    have e : (((((((L.cells m' cs xs).setIfInBounds 3 (.int .i64 m3.old.base)).setIfInBounds 4 (.int .i64 m3.old.limit)).setIfInBounds 5 (.slice A1 m3.old.ws.length c1)).setIfInBounds 6 (.int .i64 m3.yng.base)).setIfInBounds 7 (.int .i64 m3.yng.limit)).setIfInBounds 8 (.slice A2 m3.yng.ws.length c2)).setIfInBounds 10 v' = (LP.cells { L with A1 := A1, c1 := c1, A2 := A2, c2 := c2, vl := v' } m3 cs (xs ++ [ad])) := by simp [LP.cells]
    rw [e] at b7
    exact b7
  have hv' : ∀ q, v'.ownBlock = some q → q ≠ L.p := fun q hq e => (hv q hq).elim (fun h1 => hvp (e ▸ h1)) fun h1 => by have := h.hd.lt; omega
  have hlF : F.ownsRow B 3 1 v' (xs ++ [ad]).length (ints (xs ++ [ad])) := by
    rw [List.length_append, List.length_singleton]
    refine own_local hl fun q hq => ?_
    rw [← hF]
    have hne := hv' q hq
    simp only [World.setCell, Array.getElem?_modify]
    have : L.p ≠ q := Ne.symm hne
    simp [this]
  refine ⟨⟨{ L with A1 := A1, c1 := c1, A2 := A2, c2 := c2, vl := v' }, ⟨rfl, rfl, rfl, rfl, rfl⟩, ⟨hdF, ⟨h.mr.o.kp kF (fun e => ?_) (fun g hg e => ?_), h.mr.y.kp kF (fun e => ?_) (fun g hg e => ?_), h.mr.ok, h.mr.gg, h.mr.vv⟩, h.tr.kp kF (fun e => ?_) (fun e => ?_), hrm.kp kF (fun b o e hs => hap b o (e.elim .inl fun e => .inr (.inl e)) (hS b hs)), h.rc.kp kF (fun b o e hs => hap b o (.inr (.inr e)) (hS b hs)), hlF, ?_, h.pB⟩⟩, kF.mono fun g _ hg => hS g hg⟩
  · exact e.elim (fun e => Bk.ne h.mr.o.hd h.hd (by decide) e) fun e => own_int_bk h.l h.mr.o.hd (by decide) e
  · exact e.elim (fun e => h.mr.o.own_ne h.hd (by decide) (e ▸ hg)) fun e => own_int_ne h.l h.mr.o g e hg
  · exact e.elim (fun e => Bk.ne h.mr.y.hd h.hd (by decide) e) fun e => own_int_bk h.l h.mr.y.hd (by decide) e
  · exact e.elim (fun e => h.mr.y.own_ne h.hd (by decide) (e ▸ hg)) fun e => own_int_ne h.l h.mr.y g e hg
  · exact e.elim (fun e => Bk.ne h.tr.hd h.hd (by decide) e) fun e => own_int_bk h.l h.tr.hd (by decide) e
  · exact e.elim (fun e => h.tr.mp.ne_bk h.hd e.symm) fun e => own_int_map h.l h.tr.mp e
  · intro b o e hm
    have h1 := hap b o e
    rcases hm with hm | hm | hm | hm | hm | hm | hm | hm
    · exact h1 (.inl hm)
    · exact h1 (.inr (.inl hm))
    · exact h1 (.inr (.inr (.inl hm)))
    · exact h1 (.inr (.inr (.inr (.inl hm))))
    · exact h1 (.inr (.inr (.inr (.inr (.inl hm)))))
    · exact h1 (.inr (.inr (.inr (.inr (.inr (.inl hm))))))
    · exact h1 (.inr (.inr (.inr (.inr (.inr (.inr (.inl hm)))))))
    · rcases hv b hm with h2 | h2
      · exact h1 (.inr (.inr (.inr (.inr (.inr (.inr (.inr h2)))))))
      · have h3 : b < w4.heap.size := by
          rcases e with e | e | e
          · exact hHw b o (.inl e)
          · exact hHw b o (.inr e)
          · exact h.slice_lt b o (.inr (.inr e))
        omega
end Go.Proofs.YtaecdpijpdfboaaGreat
