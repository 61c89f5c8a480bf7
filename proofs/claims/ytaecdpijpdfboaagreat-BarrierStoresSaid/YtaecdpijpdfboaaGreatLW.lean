/- The law's world; open. -/
import Derived.Test.YtaecdpijpdfboaaGreatIntsM
namespace Go.Proofs.YtaecdpijpdfboaaGreat
set_option linter.unusedVariables false
set_option linter.unusedSimpArgs false
set_option linter.unusedSectionVars false
open Go.RowKit Go.Sort Go.Shelf
attribute [local go_sem] Oper.semAt_some
set_option maxRecDepth 100000

/-- what the law's world leads to -/
structure LP where
  p : Nat
  g1 : Nat
  g2 : Nat
  gt : Nat
  b : Nat
  V1 : Value
  V2 : Value
  A1 : Option Addr
  c1 : Nat
  A2 : Option Addr
  c2 : Nat
  Ac : Option Addr
  cc : Nat
  vl : Value
def LP.cells (L : LP) (m : Mm) (cs xs : List Int) : Array Value :=
  #[.pointer (some ⟨L.g1, 0, none⟩), .pointer (some ⟨L.g2, 0, none⟩), .pointer (some ⟨L.gt, 0, none⟩), .int .i64 m.old.base, .int .i64 m.old.limit, .slice L.A1 m.old.ws.length L.c1, .int .i64 m.yng.base, .int .i64 m.yng.limit, .slice L.A2 m.yng.ws.length L.c2, .slice L.Ac cs.length L.cc, L.vl]
/-- the blocks that the program and the law write -/
def LP.mine (L : LP) (g : Nat) : Prop := g = L.p ∨ g = L.g1 ∨ g = L.g2 ∨ g = L.gt ∨ g = L.b ∨ L.V1.ownBlock = some g ∨ L.V2.ownBlock = some g ∨ L.vl.ownBlock = some g
/-- no slice of the reference lies there -/
def LP.apart (L : LP) : Prop := ∀ b o, L.A1 = some ⟨b, o, none⟩ ∨ L.A2 = some ⟨b, o, none⟩ ∨ L.Ac = some ⟨b, o, none⟩ → ¬ L.mine b
/-- the law's world: the program's memory m and cards cs, the reference's memory m' and cards cs' -/
structure LV (w : World) (B : Nat) (L : LP) (k : Nat) (m : Mm) (cs : List Int) (m' : Mm) (cs' xs : List Int) : Prop where
  hd : Bk w L.p 41 (L.cells m' cs' xs)
  mr : MR w B L.g1 L.g2 L.V1 L.V2 m
  tr : CR w B L.gt L.b k cs
  rm : RM w m' L.A1 L.c1 L.A2 L.c2
  rc : RC w cs' L.Ac L.cc
  l : w.ownsRow B 3 1 L.vl xs.length (ints xs)
  ap : L.apart
  pB : B ≤ L.p
abbrev LW (w : World) (B : Nat) (L : LP) (k : Nat) (m : Mm) (cs xs : List Int) : Prop := LV w B L k m cs m cs xs
section
variable {w w' : World} {B : Nat} {L : LP} {k : Nat} {m m' : Mm} {cs cs' xs : List Int}
theorem LV.below (h : LV w B L k m cs m' cs' xs) (hb : Below w.heap.size w w') : LV w' B L k m cs m' cs' xs :=
  ⟨h.hd.below hb h.hd.lt, h.mr.below hb, h.tr.below hb, h.rm.below hb, h.rc.below hb, own_local h.l fun k hk => hb.block k (h.l.lt k hk).2, h.ap, h.pB⟩
theorem LV.drewN (h : LV w B L k m cs m' cs' xs) (j : Nat) : LV (w.drewN j) B L k m cs m' cs' xs := h.below (below_drewN (Below.refl _ w) j)
theorem MapT.sl_ne {P : Program} {kk e : TypeId} {b n b' o m : Nat} {f : Int → Bool} {x : Value} (h : MapT P kk e w b n f) (hc : w.cell? ⟨b', o, none⟩ = some x) : b' ≠ b := fun e' => by
  subst e'
  obtain ⟨D, ⟨es, clock, h1, _⟩, _⟩ := h
  simp [World.cell?, h1] at hc
/-- a row of ints is no row of words -/
theorem own_int_ne {V V' : Value} {g n : Nat} {xs : List Value} {s : Spc} (hl : w.ownsRow B 3 1 V n xs) (h : SpR w B g s V') : ∀ k, V.ownBlock = some k → V'.ownBlock ≠ some k := fun k hk hk' => by
  obtain ⟨_, ⟨rfl, _⟩ | ⟨g1, cap, cur, rfl, _, h4, _⟩⟩ := hl
  · cases hk
  · injection hk with hk
    subst hk
    exact h.own_ne (show Bk w g1 _ cur from h4) (by decide) hk'
theorem own_int_bk {V : Value} {g n : Nat} {t : TypeId} {xs : List Value} {c : Array Value} (hl : w.ownsRow B 3 1 V n xs) (h : Bk w g t c) (ht : t ≠ 3) : V.ownBlock ≠ some g := fun hk => by
  obtain ⟨_, ⟨rfl, _⟩ | ⟨g1, cap, cur, rfl, _, h4, _⟩⟩ := hl
  · cases hk
  · injection hk with hk
    subst hk
    have h5 : Bk w g1 _ cur := h4
    unfold Bk at h h5
    rw [h] at h5
    cases h5
    exact ht rfl
theorem own_int_map {P : Program} {V : Value} {kk e : TypeId} {b n k : Nat} {xs : List Value} {f : Int → Bool} (hl : w.ownsRow B 3 1 V n xs) (h : MapT P kk e w b k f) : V.ownBlock ≠ some b := fun hk => by
  obtain ⟨_, ⟨rfl, _⟩ | ⟨g1, cap, cur, rfl, _, h4, _⟩⟩ := hl
  · cases hk
  · injection hk with hk
    subst hk
    exact h.ne_bk (show Bk w g1 _ cur from h4) rfl
/-- slices that lie in other blocks than those that may have turned -/
theorem RS.kp {S : Nat → Prop} {s : Spc} {A : Option Addr} {c : Nat} (h : RS w s A c) (hk : Kp S w w') (hs : ∀ b o, A = some ⟨b, o, none⟩ → ¬ S b) : RS w' s A c := by
  refine ⟨⟨h.sl.1, h.sl.2.imp id ?_⟩, h.cap, h.u, h.b0, h.lim, h.l0, fun b o e => Nat.lt_of_lt_of_le (h.lt b o e) hk.size⟩
  rintro ⟨b, o, e, hb, hc⟩
  exact ⟨b, o, e, Nat.lt_of_lt_of_le hb hk.size, fun j x hx => hk.cell (hc j x hx) (hs b o e)⟩
theorem RM.kp {S : Nat → Prop} {A1 A2 : Option Addr} {c1 c2 : Nat} (h : RM w m A1 c1 A2 c2) (hk : Kp S w w') (hs : ∀ b o, A1 = some ⟨b, o, none⟩ ∨ A2 = some ⟨b, o, none⟩ → ¬ S b) : RM w' m A1 c1 A2 c2 :=
  ⟨h.o.kp hk fun b o e => hs b o (.inl e), h.y.kp hk fun b o e => hs b o (.inr e)⟩
theorem RC.kp {S : Nat → Prop} {A : Option Addr} {c : Nat} (h : RC w cs A c) (hk : Kp S w w') (hs : ∀ b o, A = some ⟨b, o, none⟩ → ¬ S b) : RC w' cs A c := by
  refine ⟨⟨⟨h.s.sl.1, h.s.sl.2.imp id ?_⟩, h.s.cap⟩, h.m, h.n⟩
  rintro ⟨b, o, e, hb, hc⟩
  exact ⟨b, o, e, Nat.lt_of_lt_of_le hb hk.size, fun j x hx => hk.cell (hc j x hx) (hs b o e)⟩
/-- the program writes its words and its cards -/
theorem LV.prog (h : LV w B L k m cs m' cs' xs) {k2 : Nat} {m2 : Mm} {cs2 : List Int} (hm : MR w' B L.g1 L.g2 L.V1 L.V2 m2) (ht : CR w' B L.gt L.b k2 cs2) (hk : Kp (fun g => memS L.V1 L.V2 g ∨ g = L.b) w w') : LV w' B L k2 m2 cs2 m' cs' xs := by
  refine ⟨h.hd.kp hk (fun e => e.elim (fun e => e.elim (h.mr.o.own_ne h.hd (by decide)) (h.mr.y.own_ne h.hd (by decide))) (h.tr.mp.ne_bk h.hd)), hm, ht, h.rm.kp hk fun b o e hs => h.ap b o (e.elim .inl fun e => .inr (.inl e)) ?_, h.rc.kp hk fun b o e hs => h.ap b o (.inr (.inr e)) ?_, own_local h.l fun g hg => hk.block g (h.l.lt g hg).2 fun hs => ?_, h.ap, h.pB⟩
  · rcases hs with (hs | hs) | hs
    · exact .inr (.inr (.inr (.inr (.inr (.inl hs)))))
    · exact .inr (.inr (.inr (.inr (.inr (.inr (.inl hs))))))
    · exact .inr (.inr (.inr (.inr (.inl hs))))
  · rcases hs with (hs | hs) | hs
    · exact .inr (.inr (.inr (.inr (.inr (.inl hs)))))
    · exact .inr (.inr (.inr (.inr (.inr (.inr (.inl hs))))))
    · exact .inr (.inr (.inr (.inr (.inl hs))))
  · rcases hs with (hs | hs) | hs
    · exact own_int_ne h.l h.mr.o g hg hs
    · exact own_int_ne h.l h.mr.y g hg hs
    · exact own_int_map h.l h.tr.mp (hs ▸ hg)
/-- the law's variable of the reference's memory and cards turns -/
theorem LV.refs (h : LV w B L k m cs m' cs' xs) {m3 : Mm} {cs3 : List Int} {A1 A2 Ac : Option Addr} {c1 c2 cc : Nat} {H : Nat} (hH : w.heap.size ≤ H) {w1 : World} (hb : Below w.heap.size w w1) (hH1 : H ≤ w1.heap.size) (hk : Kp (fun g => g = L.p) w1 w') (hhd : Bk w' L.p 41 ({ L with A1 := A1, c1 := c1, A2 := A2, c2 := c2, Ac := Ac, cc := cc }.cells m3 cs3 xs))
    (hrm : RM w1 m3 A1 c1 A2 c2) (hrc : RC w1 cs3 Ac cc) (n1 : Nw H L.A1 A1) (n2 : Nw H L.A2 A2) (nc : Nw H L.Ac Ac) : LV w' B { L with A1 := A1, c1 := c1, A2 := A2, c2 := c2, Ac := Ac, cc := cc } k m cs m3 cs3 xs := by
  have hlt : ∀ g, L.mine g → g < w.heap.size := fun g hg => by
    rcases hg with rfl | rfl | rfl | rfl | rfl | hg | hg | hg
    · exact h.hd.lt
    · exact h.mr.o.hd.lt
    · exact h.mr.y.hd.lt
    · exact h.tr.hd.lt
    · exact h.tr.mp.lt
    · exact (h.mr.o.own.lt g hg).2
    · exact (h.mr.y.own.lt g hg).2
    · exact (h.l.lt g hg).2
  have hap : ∀ b o, A1 = some ⟨b, o, none⟩ ∨ A2 = some ⟨b, o, none⟩ ∨ Ac = some ⟨b, o, none⟩ → ¬ L.mine b := by
    rintro b o (e | e | e) hm
    · rcases n1 b o e with e1 | e1
      · exact h.ap b o (.inl (e1 ▸ e)) hm
      · have := hlt b hm; omega
    · rcases n2 b o e with e1 | e1
      · exact h.ap b o (.inr (.inl (e1 ▸ e))) hm
      · have := hlt b hm; omega
    · rcases nc b o e with e1 | e1
      · exact h.ap b o (.inr (.inr (e1 ▸ e))) hm
      · have := hlt b hm; omega
  have h1 := h.below hb
  have hp : ∀ b, L.mine b → b ≠ L.p → True := fun _ _ _ => trivial
  refine ⟨hhd, ⟨h1.mr.o.kp hk (fun e => ?_) fun g hg e => ?_, h1.mr.y.kp hk (fun e => ?_) fun g hg e => ?_, h1.mr.ok, h1.mr.gg, h1.mr.vv⟩, h1.tr.kp hk (fun e => ?_) (fun e => ?_), hrm.kp hk fun b o e hs => hap b o (e.elim .inl fun e => .inr (.inl e)) (.inl hs), hrc.kp hk fun b o e hs => hap b o (.inr (.inr e)) (.inl hs), own_local h1.l fun g hg => hk.block g (h1.l.lt g hg).2 fun hs => ?_, hap, h.pB⟩
  · have h2 := h1.mr.o.hd; have h3 := h1.hd; rw [e] at h2; unfold Bk at h2 h3; rw [h2] at h3; cases h3
  · exact h1.mr.o.own_ne h1.hd (by decide) (e ▸ hg)
  · have h2 := h1.mr.y.hd; have h3 := h1.hd; rw [e] at h2; unfold Bk at h2 h3; rw [h2] at h3; cases h3
  · exact h1.mr.y.own_ne h1.hd (by decide) (e ▸ hg)
  · have h2 := h1.tr.hd; have h3 := h1.hd; rw [e] at h2; unfold Bk at h2 h3; rw [h2] at h3; cases h3
  · exact h1.tr.mp.ne_bk h1.hd e.symm
  · exact own_int_bk h1.l h1.hd (by decide) (hs ▸ hg)
end
def openP (w : World) (e : Ending) (w' : World) : Prop := ∃ L, e = .returned (.tuple #[.pointer (some ⟨L.p, 0, none⟩), .bool true]) ∧ LW w' w.heap.size L 0 (Mm.new 400) [] [] ∧ Below w.heap.size w w'
section
variable {w : World}
set_option maxHeartbeats 1000000 in
theorem open_any : Calls Tryz.prog 14 #[] w (openP w) := by
  have cO := fun w => ONew_any (w := w) 400
  have cC := fun w => CNew_any (w := w)
  have cR := fun w => RMNew_any (w := w) 400
  go_enter Tryz.func14, Tryz.ntmps14
  go_wp2_with fail
  refine (cO _).mono ?_
  rintro e w1 ⟨g1, g2, rfl, hm, hb1⟩
  unfold memV
  go_wp2_with fail
  refine (cC _).mono ?_
  rintro e w2 ⟨gt, b, rfl, ht, hb2⟩
  have hm2 := hm.below hb2
  have hb2' := below_trans1 hb1 hb2
  go_wp2_with fail
  refine (cR _).mono ?_
  rintro e w3 ⟨rfl, hb3⟩
  unfold rmV
  have hm3 := hm2.below hb3
  have ht3 := ht.below hb3
  have hb3' := below_trans1 hb2' hb3
  go_wp2_with fail
  go_quiet (fail)
  go_wp2_with fail
  have hba : Below w.heap.size w3 (w3.alloc (.cells #[.pointer (some ⟨g1, 0, none⟩), .pointer (some ⟨g2, 0, none⟩), .pointer (some ⟨gt, 0, none⟩), .int .i64 (Mm.new 400).old.base, .int .i64 (Mm.new 400).old.limit, .slice none (Mm.new 400).old.ws.length 0, .int .i64 (Mm.new 400).yng.base, .int .i64 (Mm.new 400).yng.limit, .slice none (Mm.new 400).yng.ws.length 0, .slice none 0 0, .slice none 0 0] 41)) := (Below.refl _ w3).alloc hb3'.size _
  have hbs : Below w3.heap.size w3 (w3.alloc (.cells #[.pointer (some ⟨g1, 0, none⟩), .pointer (some ⟨g2, 0, none⟩), .pointer (some ⟨gt, 0, none⟩), .int .i64 (Mm.new 400).old.base, .int .i64 (Mm.new 400).old.limit, .slice none (Mm.new 400).old.ws.length 0, .int .i64 (Mm.new 400).yng.base, .int .i64 (Mm.new 400).yng.limit, .slice none (Mm.new 400).yng.ws.length 0, .slice none 0 0, .slice none 0 0] 41)) := (Below.refl _ w3).alloc (Nat.le_refl _) _
  have hm4 := hm3.below hbs
  have ht4 := ht3.below hbs
  have hap : LP.apart ⟨w3.heap.size, g1, g2, gt, b, .slice none 0 0, .slice none 0 0, none, 0, none, 0, none, 0, .slice none 0 0⟩ := by
    rintro b o (h | h | h) <;> cases h
  refine bodyPost_ret (v := .tuple #[.pointer (some ⟨w3.heap.size, 0, none⟩), .bool true]) (by simp [results, Tryz.results14, go_sem]) rfl ?_
  refine ⟨⟨w3.heap.size, g1, g2, gt, b, .slice none 0 0, .slice none 0 0, none, 0, none, 0, none, 0, .slice none 0 0⟩, rfl, LV.drewN ⟨Bk.here _ _ _ rfl, hm4, ⟨ht4.hd, ht4.mp, Nat.le_trans hb1.size ht4.ge, Nat.le_trans hb1.size ht4.gm⟩, RM.new _ _, RC.new _, World.ownsRow_nil _ _ _ _, hap, hb3'.size⟩ _, below_drewN (hb3'.trans hba) _⟩
end
end Go.Proofs.YtaecdpijpdfboaaGreat
