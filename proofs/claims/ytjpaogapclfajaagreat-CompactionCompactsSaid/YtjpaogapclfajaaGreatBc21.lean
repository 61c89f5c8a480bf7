/- Parts of the proof: Build1. -/
import Derived.Deep.DeepCutAuto
import Derived.StillTailTactics
import Derived.Test.YtjpaogapclfajaaGreatBcA
import Derived.Test.YtjpaogapclfajaaGreatBc19
import Derived.Test.YtjpaogapclfajaaGreatBc20
import Derived.Test.YtjpaogapclfajaaGreatBc6
import Derived.Test.YtjpaogapclfajaaGreatBcSame1
set_option linter.unusedVariables false
set_option linter.unusedSimpArgs false
set_option linter.unusedSectionVars false
namespace Go.Proofs.YtjpaogapclfajaaGreat
open Go.RowKit Go.Sort
attribute [local go_sem] Oper.semAt_some onlyN_normal
set_option maxRecDepth 100000
/-- a slice of operations in memory -/
def Op1s (w : World) (A : Option Addr) (l : List Op1) : Prop := l = [] ∨ ∃ b o, A = some ⟨b, o, none⟩ ∧ b < w.heap.size ∧ ∀ i x, l[i]? = some x → x.Ok ∧ ∀ j v, x.cells[j]? = some v → w.cell? ⟨b, o + i * 8 + j, none⟩ = some v
theorem Op1s.below {w w' : World} {B : Nat} {A : Option Addr} {l : List Op1} (h : Op1s w A l) (hb : Below B w w') (hB : B = w.heap.size) : Op1s w' A l := by
 subst hB
 rcases h with h | ⟨b, o, h1, h2, h3⟩
 ·exact .inl h
 ·exact .inr ⟨b, o, h1, Nat.lt_of_lt_of_le h2 hb.size, fun i x hx => ⟨(h3 i x hx).1, fun j v hv => (hb.cell (p := ⟨b, o + i * 8 + j, none⟩) h2).trans ((h3 i x hx).2 j v hv)⟩⟩
/-- the world of Build: the program's memory m, the reference's q -/
structure BdR (w : World) (B g1 g2 : Nat) (V1 V2 : Value) (A1 : Option Addr) (e1 : Nat) (A2 : Option Addr) (e2 : Nat) (A : Option Addr) (c b2 b3 b6 b7 : Nat) (m : Mm) (q : Mm × List Int) : Prop where
 mr : MR w B g1 g2 V1 V2 m
 rm : RM w q.1 A1 e1 A2 e2
 is : IS w q.2 A c
 h2 : Bk w b2 27 #[.pointer none, .pointer none]
 h3 : Bk w b3 32 #[.int .i64 0, .int .i64 0, .slice none 0 0, .int .i64 0, .int .i64 0, .slice none 0 0]
 h6 : Bk w b6 27 #[.pointer (some ⟨g1, 0, none⟩), .pointer (some ⟨g2, 0, none⟩)]
 h7 : Bk w b7 32 #[.int .i64 q.1.old.base, .int .i64 q.1.old.limit, .slice A1 q.1.old.ws.length e1, .int .i64 q.1.yng.base, .int .i64 q.1.yng.limit, .slice A2 q.1.yng.ws.length e2]
 ap : ∀ b o, A1 = some ⟨b, o, none⟩ ∨ A2 = some ⟨b, o, none⟩ ∨ A = some ⟨b, o, none⟩ → b < w.heap.size ∧ b ≠ g1 ∧ ¬ memS V1 V2 b ∧ b ≠ b2 ∧ b ≠ b3 ∧ b ≠ b7
 ne : b2 ≠ b6 ∧ b3 ≠ b7
 ge : B ≤ b2 ∧ B ≤ b3 ∧ B ≤ b6 ∧ B ≤ b7
section
variable {w w' : World} {B g1 g2 : Nat} {V1 V2 : Value} {A1 A2 A : Option Addr} {e1 e2 c b2 b3 b6 b7 : Nat} {m : Mm} {q : Mm × List Int}
theorem RS.kpC {S : Nat → Prop} {s : Spc} {A : Option Addr} {c : Nat} (h : RS w s A c) (hk : Kp S w w') (hs : ∀ b o, A = some ⟨b, o, none⟩ → ¬ S b) : RS w' s A c := by
 refine ⟨⟨h.sl.1, ?_⟩, h.cap, h.u, h.b0, h.lim, h.l0, fun b o e => Nat.lt_of_lt_of_le (h.lt b o e) hk.size⟩
 rcases h.sl.2 with h0 | ⟨b, o, e, hb, hc⟩
 ·exact .inl h0
 ·exact .inr ⟨b, o, e, Nat.lt_of_lt_of_le hb hk.size, fun j x hx => hk.cell (hc j x hx) (hs b o e)⟩
theorem IS.kpC {S : Nat → Prop} {l : List Int} {A : Option Addr} {c : Nat} (h : IS w l A c) (hk : Kp S w w') (hs : ∀ b o, A = some ⟨b, o, none⟩ → ¬ S b) : IS w' l A c := by
 refine ⟨⟨h.sl.1, ?_⟩, h.cap⟩
 rcases h.sl.2 with h0 | ⟨b, o, e, hb, hc⟩
 ·exact .inl h0
 ·exact .inr ⟨b, o, e, Nat.lt_of_lt_of_le hb hk.size, fun j x hx => hk.cell (hc j x hx) (hs b o e)⟩
theorem Bk.neU {w : World} {g g' : Nat} {t t' : TypeId} {C C' : Array Value} (h : Bk w g t C) (h' : Bk w g' t' C') (ht : t ≠ t') : g ≠ g' := fun e => by
 subst e
 unfold Bk at h h'
 rw [h] at h'
 cases h'
 exact ht rfl
theorem SpR.base {g : Nat} {s : Spc} {V : Value} {B' : Nat} (h : SpR w B g s V) (hb : B' ≤ B) : SpR w B' g s V :=
 ⟨h.hd, ⟨h.own.1, h.own.2.imp id fun ⟨g', cap, cur, h1, h2, h3⟩ => ⟨g', cap, cur, h1, Nat.le_trans hb h2, h3⟩⟩, Nat.le_trans hb h.ge, h.u, h.b0, h.lim, h.l0⟩
theorem MR.base {B' : Nat} (h : MR w B g1 g2 V1 V2 m) (hb : B' ≤ B) : MR w B' g1 g2 V1 V2 m := ⟨h.o.base hb, h.y.base hb, h.ok, h.gg, h.vv⟩
theorem BdR.below (h : BdR w B g1 g2 V1 V2 A1 e1 A2 e2 A c b2 b3 b6 b7 m q) (hb : Below w.heap.size w w') : BdR w' B g1 g2 V1 V2 A1 e1 A2 e2 A c b2 b3 b6 b7 m q :=
 ⟨h.mr.below hb, h.rm.below hb, h.is.below hb, h.h2.below hb h.h2.lt, h.h3.below hb h.h3.lt, h.h6.below hb h.h6.lt, h.h7.below hb h.h7.lt, fun b o e => let ⟨h1, h2⟩ := h.ap b o e; ⟨Nat.lt_of_lt_of_le h1 hb.size, h2⟩, h.ne, h.ge⟩
theorem BdR.noS (h : BdR w B g1 g2 V1 V2 A1 e1 A2 e2 A c b2 b3 b6 b7 m q) {g' : Nat} {t : TypeId} {C : Array Value} (hg : Bk w g' t C) (h1 : t ≠ 115) (h2 : t ≠ 51) : ¬ (g' = g1 ∨ memS V1 V2 g') := fun e => by
 rcases e with rfl | e | e
 ·have := h.mr.o.hd
  unfold Bk at this hg
  rw [this] at hg
  cases hg
  exact h1 rfl
 ·exact h.mr.o.own_ne hg h2 e
 ·exact h.mr.y.own_ne hg h2 e
/-- the program has changed its memory -/
theorem BdR.prog (h : BdR w B g1 g2 V1 V2 A1 e1 A2 e2 A c b2 b3 b6 b7 m q) {V1' : Value} {m' : Mm} (hm : MR w' B g1 g2 V1' V2 m') (hk : Kp (fun k => k = g1 ∨ memS V1 V2 k) w w') (hv : ∀ k, V1'.ownBlock = some k → V1.ownBlock = some k ∨ w.heap.size ≤ k) : BdR w' B g1 g2 V1' V2 A1 e1 A2 e2 A c b2 b3 b6 b7 m' q := by
 have nS : ∀ b o, A1 = some ⟨b, o, none⟩ ∨ A2 = some ⟨b, o, none⟩ ∨ A = some ⟨b, o, none⟩ → ¬ (b = g1 ∨ memS V1 V2 b) := fun b o e hs => by
  obtain ⟨_, h1, h2, _⟩ := h.ap b o e
  exact hs.elim h1 h2
 refine ⟨hm, ⟨h.rm.o.kpC hk fun b o e => nS b o (.inl e), h.rm.y.kpC hk fun b o e => nS b o (.inr (.inl e))⟩, h.is.kpC hk fun b o e => nS b o (.inr (.inr e)), h.h2.kp hk (h.noS h.h2 (by decide) (by decide)), h.h3.kp hk (h.noS h.h3 (by decide) (by decide)), h.h6.kp hk (h.noS h.h6 (by decide) (by decide)), h.h7.kp hk (h.noS h.h7 (by decide) (by decide)), fun b o e => ?_, h.ne, h.ge⟩
 obtain ⟨h0, h1, h2, h3⟩ := h.ap b o e
 refine ⟨Nat.lt_of_lt_of_le h0 hk.size, h1, fun hs => ?_, h3⟩
 rcases hs with hs | hs
 ·rcases hv b hs with hs | hs
  ·exact h2 (.inl hs)
  ·omega
 ·exact h2 (.inr hs)
theorem BdR.progBelow (h : BdR w B g1 g2 V1 V2 A1 e1 A2 e2 A c b2 b3 b6 b7 m q) (hk : Kp (fun k => k = g1 ∨ memS V1 V2 k) w w') : Below B w w' :=
 hk.toBelow (Below.refl _ w) (by have := h.ge.1; have := h.h2.lt; omega) fun k hs => by
  rcases hs with rfl | hs | hs
  ·exact h.mr.o.ge
  ·exact (h.mr.o.own.lt k hs).1
  ·exact (h.mr.y.own.lt k hs).1
theorem BdR.progM (h : BdR w B g1 g2 V1 V2 A1 e1 A2 e2 A c b2 b3 b6 b7 m q) {m' : Mm} (hm : MR w' B g1 g2 V1 V2 m') (hk : Kp (memS V1 V2) w w') : BdR w' B g1 g2 V1 V2 A1 e1 A2 e2 A c b2 b3 b6 b7 m' q ∧ Below B w w' :=
 ⟨h.prog hm (hk.mono fun k _ e => .inr e) fun k e => .inl e, h.progBelow (hk.mono fun k _ e => .inr e)⟩
/-- the reference has made the next memory, and the law takes it over -/
theorem BdR.refs {w1 : World} {A1' A2' A' : Option Addr} {e1' e2' c' : Nat} {q' : Mm × List Int} (h : BdR w B g1 g2 V1 V2 A1 e1 A2 e2 A c b2 b3 b6 b7 m q) (hb : Below w.heap.size w w1) (hrm : RM w1 q'.1 A1' e1' A2' e2') (his : IS w1 q'.2 A' c') (hl : ∀ b o, A' = some ⟨b, o, none⟩ → b < w1.heap.size) (n1 : Nw w.heap.size A1 A1') (n2 : Nw w.heap.size A2 A2') (n3 : Nw w.heap.size A A') :
  BdR (set6 w1 b7 (.int .i64 q'.1.old.base) (.int .i64 q'.1.old.limit) (.slice A1' q'.1.old.ws.length e1') (.int .i64 q'.1.yng.base) (.int .i64 q'.1.yng.limit) (.slice A2' q'.1.yng.ws.length e2')) B g1 g2 V1 V2 A1' e1' A2' e2' A' c' b2 b3 b6 b7 m q' ∧ Below B w (set6 w1 b7 (.int .i64 q'.1.old.base) (.int .i64 q'.1.old.limit) (.slice A1' q'.1.old.ws.length e1') (.int .i64 q'.1.yng.base) (.int .i64 q'.1.yng.limit) (.slice A2' q'.1.yng.ws.length e2')) := by
 have h1 := h.below hb
 have h7l := h.h7.lt
 have h2l := h.h2.lt
 have h3l := h.h3.lt
 have hg1 := h.mr.o.hd.lt
 have n7 : ∀ {A0 A9 : Option Addr}, Nw w.heap.size A0 A9 → (∀ b o, A0 = some ⟨b, o, none⟩ → b < w.heap.size ∧ b ≠ g1 ∧ ¬ memS V1 V2 b ∧ b ≠ b2 ∧ b ≠ b3 ∧ b ≠ b7) → ∀ b o, A9 = some ⟨b, o, none⟩ → b ≠ g1 ∧ ¬ memS V1 V2 b ∧ b ≠ b2 ∧ b ≠ b3 ∧ b ≠ b7 := fun hn ha b o e => by
  rcases hn b o e with e1 | e1
  ·exact (ha b o (e1 ▸ e)).2
  ·refine ⟨by omega, fun hs => ?_, by omega, by omega, by omega⟩
   rcases hs with hs | hs
   ·have := (h.mr.o.own.lt b hs).2; omega
   ·have := (h.mr.y.own.lt b hs).2; omega
 have a1 := n7 n1 fun b o e => h.ap b o (.inl e)
 have a2 := n7 n2 fun b o e => h.ap b o (.inr (.inl e))
 have a3 := n7 n3 fun b o e => h.ap b o (.inr (.inr e))
 have hk : Kp (fun k => k = b7) w1 (set6 w1 b7 (.int .i64 q'.1.old.base) (.int .i64 q'.1.old.limit) (.slice A1' q'.1.old.ws.length e1') (.int .i64 q'.1.yng.base) (.int .i64 q'.1.yng.limit) (.slice A2' q'.1.yng.ws.length e2')) := by
  have k : ∀ {w2 : World} (p : Addr) (v : Value), Kp (fun k => k = b7) w1 w2 → p.block = b7 → Kp (fun k => k = b7) w1 (w2.setCell p v) := fun p v h1 hp => h1.trans (Kp.setCell _ p v hp) fun _ _ h => h
  exact k _ _ (k _ _ (k _ _ (k _ _ (k _ _ (k _ _ (Kp.refl _ _) rfl) rfl) rfl) rfl) rfl) rfl
 have bn : ∀ {g' : Nat} {t : TypeId} {C : Array Value}, Bk w1 g' t C → t ≠ 32 → g' ≠ b7 := fun hg ht e => by
  subst e
  have := h1.h7
  unfold Bk at this hg
  rw [this] at hg
  cases hg
  exact ht rfl
 refine ⟨⟨⟨h1.mr.o.kp hk (bn h1.mr.o.hd (by decide)) fun k hk' e => h1.mr.o.own_ne h1.h7 (by decide) (e ▸ hk'), h1.mr.y.kp hk (bn h1.mr.y.hd (by decide)) fun k hk' e => h1.mr.y.own_ne h1.h7 (by decide) (e ▸ hk'), h1.mr.ok, h1.mr.gg, h1.mr.vv⟩, hrm.set6a h1.h7 rfl, his.set6a fun b o e => (a3 b o e).2.2.2.2, h1.h2.far6a (bn h1.h2 (by decide)), h1.h3.far6a h.ne.2, h1.h6.far6a (bn h1.h6 (by decide)), h1.h7.set6a, fun b o e => ?_, h.ne, h.ge⟩, below_set6a (hb.mono (by have := h.ge.1; omega)) h.ge.2.2.2⟩
 rcases e with e | e | e
 ·exact ⟨Nat.lt_of_lt_of_le (hrm.o.lt b o e) (Nat.le_of_eq size_set6a.symm), a1 b o e⟩
 ·exact ⟨Nat.lt_of_lt_of_le (hrm.y.lt b o e) (Nat.le_of_eq size_set6a.symm), a2 b o e⟩
 ·exact ⟨Nat.lt_of_lt_of_le (hl b o e) (Nat.le_of_eq size_set6a.symm), a3 b o e⟩
end
/-- what Build returns -/
def BldP1 (w : World) (p : Mm × List Int) (e : Ending) (w' : World) : Prop := ∃ g1 g2 V1 V2 A1 e1 A2 e2 A c, e = .returned (.tuple #[.agg #[.pointer (some ⟨g1, 0, none⟩), .pointer (some ⟨g2, 0, none⟩)], .agg #[.int .i64 p.1.old.base, .int .i64 p.1.old.limit, .slice A1 p.1.old.ws.length e1, .int .i64 p.1.yng.base, .int .i64 p.1.yng.limit, .slice A2 p.1.yng.ws.length e2], .slice A p.2.length c, .bool true]) ∧ MR w' w.heap.size g1 g2 V1 V2 p.1 ∧ RM w' p.1 A1 e1 A2 e2 ∧ IS w' p.2 A c ∧ (∀ b o, A1 = some ⟨b, o, none⟩ ∨ A2 = some ⟨b, o, none⟩ ∨ A = some ⟨b, o, none⟩ → b < w'.heap.size ∧ b ≠ g1 ∧ ¬ memS V1 V2 b) ∧ Below w.heap.size w w' ∧ ∃ n, n ≤ 1000 ∧ Bld p n
section
variable {w : World} {l : List Op1} {Al : Option Addr} {cl : Nat}
set_option maxHeartbeats 8000000 in
theorem Build_any (hl : Op1s w Al l) (hn : l.length ≤ 1000) (hcl : l.length ≤ cl) : Calls Tryz.prog 14 #[.slice Al l.length cl] w (BldP1 w (bld1 l)) := by
 have HL := lh hl
 have cN := fun w => ONew_any (w := w) 600
 have cR := fun w => RMNew_any (w := w) 600
 clear hl
 go_enter Tryz.func14, Tryz.ntmps14
 go_wp2_with fail
 refine (cN _).mono ?_
 rintro e w1 ⟨g1, g2, rfl, hmr, hb1⟩
 have HMR := lh hmr
 have HB1 := lh hb1
 unfold memV
 clear hmr hb1 cN
 go_wp2_with fail
 refine (cR _).mono ?_
 rintro e w2 ⟨rfl, hb2⟩
 unfold rmV
 have HB2 := lh hb2
 clear hb2 cR
 go_wp2_with fail
 have hb0 : Below w.heap.size w ((w.alloc (.cells #[.pointer none, .pointer none] 27)).alloc (.cells #[.int .i64 0, .int .i64 0, .slice none 0 0, .int .i64 0, .int .i64 0, .slice none 0 0] 32)) := ((Below.refl _ w).alloc (Nat.le_refl _) _).alloc (by simp) _
 have hz0 : ((w.alloc (.cells #[.pointer none, .pointer none] 27)).alloc (.cells #[.int .i64 0, .int .i64 0, .slice none 0 0, .int .i64 0, .int .i64 0, .slice none 0 0] 32)).heap.size = w.heap.size + 2 := by simp
 have q2 : Bk ((w.alloc (.cells #[.pointer none, .pointer none] 27)).alloc (.cells #[.int .i64 0, .int .i64 0, .slice none 0 0, .int .i64 0, .int .i64 0, .slice none 0 0] 32)) w.heap.size 27 #[.pointer none, .pointer none] := Bk.alloc (Bk.new _ _ _) _
 have q3 : Bk ((w.alloc (.cells #[.pointer none, .pointer none] 27)).alloc (.cells #[.int .i64 0, .int .i64 0, .slice none 0 0, .int .i64 0, .int .i64 0, .slice none 0 0] 32)) (w.heap.size + 1) 32 #[.int .i64 0, .int .i64 0, .slice none 0 0, .int .i64 0, .int .i64 0, .slice none 0 0] := Bk.here _ _ _ (by simp)
 have hb1 := HB1.out
 have hb2 := HB2.out
 have hmr := HMR.out
 have hg1 := hmr.o.hd.lt
 have hs1 := hb1.size
 have hs2 := hb2.size
 have hal : Below w2.heap.size w2 (((w2.alloc (.cells #[.pointer (some ⟨g1, 0, none⟩), .pointer (some ⟨g2, 0, none⟩)] 27)).alloc (.cells #[.int .i64 (Mm.new 600).old.base, .int .i64 (Mm.new 600).old.limit, .slice none (Mm.new 600).old.ws.length 0, .int .i64 (Mm.new 600).yng.base, .int .i64 (Mm.new 600).yng.limit, .slice none (Mm.new 600).yng.ws.length 0] 32)).alloc (.cells #[] 3)) := (((Below.refl _ w2).alloc (Nat.le_refl _) _).alloc (by simp) _).alloc (by simp; omega) _
 have hb3 : Below w1.heap.size w1 (((w2.alloc (.cells #[.pointer (some ⟨g1, 0, none⟩), .pointer (some ⟨g2, 0, none⟩)] 27)).alloc (.cells #[.int .i64 (Mm.new 600).old.base, .int .i64 (Mm.new 600).old.limit, .slice none (Mm.new 600).old.ws.length 0, .int .i64 (Mm.new 600).yng.base, .int .i64 (Mm.new 600).yng.limit, .slice none (Mm.new 600).yng.ws.length 0] 32)).alloc (.cells #[] 3)) := hb2.trans (hal.mono hs2)
 have hbA : Below w.heap.size w (((w2.alloc (.cells #[.pointer (some ⟨g1, 0, none⟩), .pointer (some ⟨g2, 0, none⟩)] 27)).alloc (.cells #[.int .i64 (Mm.new 600).old.base, .int .i64 (Mm.new 600).old.limit, .slice none (Mm.new 600).old.ws.length 0, .int .i64 (Mm.new 600).yng.base, .int .i64 (Mm.new 600).yng.limit, .slice none (Mm.new 600).yng.ws.length 0] 32)).alloc (.cells #[] 3)) := hb0.trans ((hb1.mono hb0.size).trans (hb3.mono (by have := hb0.size; omega)))
 have hE : Bk (((w2.alloc (.cells #[.pointer (some ⟨g1, 0, none⟩), .pointer (some ⟨g2, 0, none⟩)] 27)).alloc (.cells #[.int .i64 (Mm.new 600).old.base, .int .i64 (Mm.new 600).old.limit, .slice none (Mm.new 600).old.ws.length 0, .int .i64 (Mm.new 600).yng.base, .int .i64 (Mm.new 600).yng.limit, .slice none (Mm.new 600).yng.ws.length 0] 32)).alloc (.cells #[] 3)) (w2.heap.size + 1 + 1) 3 #[] := Bk.here _ _ _ (by simp)
 have HI : Hid (BdR (((w2.alloc (.cells #[.pointer (some ⟨g1, 0, none⟩), .pointer (some ⟨g2, 0, none⟩)] 27)).alloc (.cells #[.int .i64 (Mm.new 600).old.base, .int .i64 (Mm.new 600).old.limit, .slice none (Mm.new 600).old.ws.length 0, .int .i64 (Mm.new 600).yng.base, .int .i64 (Mm.new 600).yng.limit, .slice none (Mm.new 600).yng.ws.length 0] 32)).alloc (.cells #[] 3)) w.heap.size g1 g2 (.slice none 0 0) (.slice none 0 0) none 0 none 0 (some ⟨w2.heap.size + 1 + 1, 0, none⟩) 0 w.heap.size (w.heap.size + 1) w2.heap.size (w2.heap.size + 1) (Mm.new 600) (Mm.new 600, [])) := lh
  ⟨(hmr.below hb3).base (by omega), RM.new _ _, ⟨⟨rfl, .inl rfl⟩, Nat.le_refl _⟩, (q2.below hb1 q2.lt).below hb3 (Nat.lt_of_lt_of_le q2.lt hs1), (q3.below hb1 q3.lt).below hb3 (Nat.lt_of_lt_of_le q3.lt hs1), ((Bk.new w2 _ _).alloc _).alloc _, (Bk.here _ _ _ (by simp)).alloc _, (fun b o e => by
   rcases e with e | e | e
   ·cases e
   ·cases e
   ·cases e
    refine ⟨hE.lt, by omega, (fun hs => by rcases hs with hs | hs <;> cases hs), by omega, by omega, by omega⟩), ⟨by omega, by omega⟩, ⟨Nat.le_refl _, by omega, by omega, by omega⟩⟩
 have HBA := lh hbA
 clear hb0 hz0 q2 q3 hb1 hb2 hmr hg1 hs1 hs2 hal hb3 hbA hE HMR HB1 HB2
 generalize hw3 : ((w2.alloc (.cells #[.pointer (some ⟨g1, 0, none⟩), .pointer (some ⟨g2, 0, none⟩)] 27)).alloc (.cells #[.int .i64 (Mm.new 600).old.base, .int .i64 (Mm.new 600).old.limit, .slice none (Mm.new 600).old.ws.length 0, .int .i64 (Mm.new 600).yng.base, .int .i64 (Mm.new 600).yng.limit, .slice none (Mm.new 600).yng.ws.length 0] 32)).alloc (.cells #[] 3) = w3 at *
 clear hw3
 obtain ⟨b2, hb2⟩ : ∃ b2, b2 = w.heap.size := ⟨_, rfl⟩
 obtain ⟨b3, hb3⟩ : ∃ b3, b3 = w.heap.size + 1 := ⟨_, rfl⟩
 obtain ⟨b6, hb6⟩ : ∃ b6, b6 = w2.heap.size := ⟨_, rfl⟩
 obtain ⟨b7, hb7⟩ : ∃ b7, b7 = w2.heap.size + 1 := ⟨_, rfl⟩
 obtain ⟨be, hbe⟩ : ∃ be, be = w2.heap.size + 1 + 1 := ⟨_, rfl⟩
 have HI2 : Hid (BdR w3 w.heap.size g1 g2 (.slice none 0 0) (.slice none 0 0) none 0 none 0 (some ⟨be, 0, none⟩) 0 b2 b3 b6 b7 (Mm.new 600) (Mm.new 600, [])) := lh (by rw [hb2, hb3, hb6, hb7, hbe]; exact HI.out)
 try rw [← hbe]
 try rw [← hb7]
 try rw [← hb6]
 rw [← hb3, ← hb2]
 clear HI hb2 hb3 hb6 hb7 hbe
 go_loopw [8, 9] (fun v i wr => ∃ (j : Nat) (V1 V2 : Value) (A1 : Option Addr) (e1 : Nat) (A2 : Option Addr) (e2 : Nat) (A : Option Addr) (c : Nat), i = .int .i64 (j : Int) ∧ j ≤ l.length ∧ v = .slice A (bld1 (l.take j)).2.length c ∧ BdR wr w.heap.size g1 g2 V1 V2 A1 e1 A2 e2 A c b2 b3 b6 b7 (bld1 (l.take j)).1 (bld1 (l.take j)) ∧ Bld (bld1 (l.take j)) j ∧ Below w.heap.size w wr) (fun _ i _ => l.length - (intOf i).toNat)
 case atStart => exact ⟨0, .slice none 0 0, .slice none 0 0, none, 0, none, 0, some ⟨be, 0, none⟩, 0, rfl, Nat.zero_le _, rfl, HI2.out, Bld.nil, HBA.out⟩
 case round =>
  clear HI2 HBA
  obtain ⟨j, V1, V2, A1, e1, A2, e2, A, c, rfl, hj, rfl, hbd, hld, hbw⟩ := hrel
  have HBW := lh hbw
  by_cases hlt : j < l.length
  ·have t1 : l[j]? = some l[j] := List.getElem?_eq_getElem hlt
   have HT : Hid (bld1 (l.take (j + 1)) = st1 (bld1 (l.take j)) l[j]) := lh (bld1_take t1)
   obtain ⟨b, o, rfl, hbl, hcc⟩ := HL.out.resolve_left (fun e => by rw [e] at hlt; cases hlt)
   obtain ⟨hxo, hxc⟩ := hcc j _ t1
   generalize l[j] = x at HT hxo hxc
   have HXO := lh hxo
   have cell : ∀ q v, x.cells[q]? = some v → wr.cell? ⟨b, o + j * 8 + q, none⟩ = some v := fun q v hv => (hbw.cell (p := ⟨b, o + j * 8 + q, none⟩) hbl).trans (hxc q v hv)
   unfold Op1.cells at cell
   have c0 : wr.cell? ⟨b, o + j * 8, none⟩ = some (.int .i64 x.k) := cell 0 _ rfl
   have c1 : wr.cell? ⟨b, o + j * 8 + 1, none⟩ = some (.int .i64 x.h.k) := cell 1 _ rfl
   have c2 : wr.cell? ⟨b, o + j * 8 + 2, none⟩ = some (.int .i64 x.h.c) := cell 2 _ rfl
   have c3 : wr.cell? ⟨b, o + j * 8 + 3, none⟩ = some (.int .i64 x.h.f) := cell 3 _ rfl
   have c4 : wr.cell? ⟨b, o + j * 8 + 4, none⟩ = some (.int .i64 x.a) := cell 4 _ rfl
   have c5 : wr.cell? ⟨b, o + j * 8 + 5, none⟩ = some (.int .i64 x.b) := cell 5 _ rfl
   have c6 : wr.cell? ⟨b, o + j * 8 + 6, none⟩ = some (.int .i64 x.i) := cell 6 _ rfl
   have c7 : wr.cell? ⟨b, o + j * 8 + 7, none⟩ = some (.int .u64 x.w) := cell 7 _ rfl
   have hlen := hld.len
   obtain ⟨q, hq⟩ : ∃ q, q = bld1 (l.take j) := ⟨_, rfl⟩
   rw [← hq] at HT hbd hld hlen ⊢
   have HBD := lh hbd
   have HLD := lh hld
   have hq1 : q.2.length ≤ 1000 := by omega
   clear t1 hcc hxo hxc cell hbd hld hq hbw hlen
   go_upto_region 9 with fail
   have hal : Below wr.heap.size wr (wr.alloc (.cells #[.int .i64 x.k, .int .i64 x.h.k, .int .i64 x.h.c, .int .i64 x.h.f, .int .i64 x.a, .int .i64 x.b, .int .i64 x.i, .int .u64 x.w] 90)) := (Below.refl _ _).alloc (Nat.le_refl _) _
   have h1 := HBD.out.below hal
   have HX0 := lh (Bk.new wr 90 #[.int .i64 x.k, .int .i64 x.h.k, .int .i64 x.h.c, .int .i64 x.h.f, .int .i64 x.a, .int .i64 x.b, .int .i64 x.i, .int .u64 x.w])
   have hB1 := HBW.out.trans (hal.mono HBW.out.size)
   generalize wr.alloc (.cells #[.int .i64 x.k, .int .i64 x.h.k, .int .i64 x.h.c, .int .i64 x.h.f, .int .i64 x.a, .int .i64 x.b, .int .i64 x.i, .int .u64 x.w] 90) = w4 at *
   generalize wr.heap.size = bx at *
   have cP := fun n a ha => Pick_any (w := w4.drewN n) ((h1.is.below (below_drewN (Below.refl _ w4) n))) (Nat.le_trans hq1 (by decide)) a ha
   have H1 := lh h1
   have HB1 := lh hB1
   have x4 : w4.cell? ⟨bx, 4, none⟩ = some (.int .i64 x.a) := HX0.out.cell 4
   have x5 : w4.cell? ⟨bx, 5, none⟩ = some (.int .i64 x.b) := HX0.out.cell 5
   clear h1 hB1 hal HBD HBW c0 c1 c2 c3 c4 c5 c6 c7
   go_quiet ((go_at_call 54; exact Calls.quiet_of_same ((cP _ _ (by first | exact ⟨HXO.out.a0, HXO.out.a1⟩ | exact ⟨HXO.out.b0, HXO.out.b1⟩)).mono fun _ _ h => ⟨h.1, h.2.symm⟩)))
   have hbq := below_drewN (Below.refl w4.heap.size w4) nq
   have H2 := lh (H1.out.below hbq)
   have HX := lh (HX0.out.below hbq HX0.out.lt)
   have HB2 := lh (HB1.out.trans (hbq.mono HB1.out.size))
   clear hbq cP x4 x5 H1 HB1 HX0
   generalize w4.drewN nq = w5 at *
   have x0 : w5.cell? ⟨bx, 0, none⟩ = some (.int .i64 x.k) := HX.out.cell 0
   obtain ⟨pa, hpa⟩ : ∃ pa, pa = pick1 q.2 x.a := ⟨_, rfl⟩
   obtain ⟨pb, hpb⟩ : ∃ pb, pb = pick1 q.2 x.b := ⟨_, rfl⟩
   have HPA := lh hpa
   have HPB := lh hpb
   rw [← hpa, ← hpb]
   clear hpa hpb
   go_upto_block 2 with fail
   go_cut [] from 47 to 93 (fun wx => ∃ V1', BdR wx w.heap.size g1 g2 V1' V2 A1 e1 A2 e2 A c b2 b3 b6 b7 (st1 q x).1 q ∧ Below w.heap.size w wx ∧ Bk wx bx 90 #[.int .i64 x.k, .int .i64 x.h.k, .int .i64 x.h.c, .int .i64 x.h.f, .int .i64 x.a, .int .i64 x.b, .int .i64 x.i, .int .u64 x.w])
   case first =>
    have hS : ∀ {g' : Nat} {C : Array Value}, Bk w5 g' 90 C → ¬ (g' = g1 ∨ memS V1 V2 g') := fun hg => H2.out.noS hg (by decide) (by decide)
    have HSX := lh (hS HX.out)
    clear hS
    have x1 : w5.cell? ⟨bx, 1, none⟩ = some (.int .i64 x.h.k) := HX.out.cell 1
    have x2 : w5.cell? ⟨bx, 2, none⟩ = some (.int .i64 x.h.c) := HX.out.cell 2
    have x3 : w5.cell? ⟨bx, 3, none⟩ = some (.int .i64 x.h.f) := HX.out.cell 3
    have x6 : w5.cell? ⟨bx, 6, none⟩ = some (.int .i64 x.i) := HX.out.cell 6
    have x7 : w5.cell? ⟨bx, 7, none⟩ = some (.int .u64 x.w) := HX.out.cell 7
    have m0 : w5.cell? ⟨b6, 0, none⟩ = some (.pointer (some ⟨g1, 0, none⟩)) := H2.out.h6.cell 0
    have m1 : w5.cell? ⟨b6, 1, none⟩ = some (.pointer (some ⟨g2, 0, none⟩)) := H2.out.h6.cell 1
    by_cases k0 : x.k = 0
    ·have d0 : (x.k == 0) = true := by simp [k0]
     by_cases hf : x.h.k = 4
     ·have HR : Hid (st1 q x = q) := lh (by unfold st1; rw [if_pos k0, if_pos hf])
      have d4 : (x.h.k != 4) = false := by simp [hf]
      clear k0 hf
      go_wp2_with fail
      go_meet
      case rel => exact ⟨V1, by rw [HR.out]; exact H2.out, HB2.out, HX.out⟩
     ·have HR : Hid ((st1 q x).1 = { q.1 with old := (q.1.old.alloc x.h ⟨1, q.2.length + 1⟩).2.1 }) := lh (by unfold st1; rw [if_pos k0, if_neg hf]; rfl)
      have d4 : (x.h.k != 4) = true := by simp [hf]
      have cA := SAlloc_any H2.out.mr.o (by have := H2.out.ge.1; have := H2.out.h2.lt; omega) x.h ⟨1, q.2.length + 1⟩
      unfold Hdr.val Id.val at cA
      clear k0 hf
      go_wp2_with fail
      refine cA.mono ?_
      rintro e w6 ⟨rfl, ⟨V3, hs6, hv6⟩, hk6⟩
      unfold alcV
      have hok := H2.out.mr.ok.alloc false x.h ⟨1, q.2.length + 1⟩
      have hS1 : Kp (fun k => k = g1 ∨ memS V1 V2 k) w5 w6 := hk6.mono fun k _ e => e.imp id .inl
      have hm6 : MR w6 w.heap.size g1 g2 V3 V2 (st1 q x).1 := by
       rw [HR.out]
       refine ⟨hs6, H2.out.mr.y.kp hk6 (fun e => e.elim (fun e => H2.out.mr.gg e.symm) (fun e => H2.out.mr.o.own_ne H2.out.mr.y.hd (by decide) e)) (fun k hk e => e.elim (fun e => H2.out.mr.y.own_ne H2.out.mr.o.hd (by decide) (e ▸ hk)) fun e => H2.out.mr.vv k e hk), hok, H2.out.mr.gg, fun k e1 e2 => ?_⟩
       rcases hv6 k e1 with e | e
       ·exact H2.out.mr.vv k e e2
       ·have := (H2.out.mr.y.own.lt k e2).2; omega
      have h6 := H2.out.prog hm6 hS1 hv6
      have H6 := lh h6
      have HB6 := lh (HB2.out.trans (H2.out.progBelow hS1))
      have HX6 := lh (HX.out.kp hS1 HSX.out)
      clear cA hs6 hv6 hk6 hok hS1 hm6 h6
      go_wp2_with fail
      go_meet
      case rel => exact ⟨V3, H6.out, HB6.out, HX6.out⟩
    ·have d0 : (x.k == 0) = false := by simp [k0]
     by_cases k1 : x.k = 1
     ·have d1 : (x.k == 1) = true := by simp [k1]
      have HR : Hid ((st1 q x).1 = (q.1.setF pa x.i (frW pb)).2) := lh (by unfold st1; rw [if_neg k0, if_pos k1, ← HPA.out, ← HPB.out])
      clear k0 k1
      have cW := fun w => Word_any pb w
      have HF6 : Hid (Bk w5 b6 27 #[.pointer (some ⟨g1, 0, none⟩), .pointer (some ⟨g2, 0, none⟩)]) := lh H2.out.h6
      go_upto_region 15 with fail
      refine wp_region_adds0 6 (fun i => ([[], [], [], [2], [], [4]] : List (List Nat)).getD i []) (EL [Ent.val (.agg #[.pointer (some ⟨g1, 0, none⟩), .pointer (some ⟨g2, 0, none⟩)]), Ent.val (.int .i64 pa), Ent.val (.pointer (some ⟨bx, 6, none⟩)), Ent.val (.int .i64 x.i), Ent.val (.int .i64 pb), Ent.val (.int .u64 (frW pb))]) (by kernel_rfl) (by kernel_rfl) (by kernel_rfl) (by kernel_rfl) (by rfl) ?_ ?_
      ·intro i hi o ho vs w6 hb1 hgr
       rcases (show i = 0 ∨ i = 1 ∨ i = 2 ∨ i = 3 ∨ i = 4 ∨ i = 5 by omega) with rfl | rfl | rfl | rfl | rfl | rfl <;> cases ho
       ·clear hgr
        change Made _ (Adds _ _ _) (Sem.run _ (execOp (Act.eval (frm _ _ _ [])) _) _)
        simp only [frm]
        have hbk := HF6.out.below hb1 HF6.out.lt
        have c0 : w6.cell? ⟨b6, 0, none⟩ = some (.pointer (some ⟨g1, 0, none⟩)) := hbk.cell 0
        have c1 : w6.cell? ⟨b6, 1, none⟩ = some (.pointer (some ⟨g2, 0, none⟩)) := hbk.cell 1
        clear hbk
        go_simp
        exact adds_val rfl
       ·clear hgr
        change Made _ (Adds _ _ _) (Sem.run _ (execOp (Act.eval (frm _ _ _ [])) _) _)
        simp only [frm]
        go_simp
        exact adds_val rfl
       ·clear hgr
        change Made _ (Adds _ _ _) (Sem.run _ (execOp (Act.eval (frm _ _ _ [])) _) _)
        simp only [frm]
        go_simp
        exact adds_val rfl
       ·have h2 : vs 2 = _ := hgr 2 (by decide)
        clear hgr
        change Made _ (Adds _ _ _) (Sem.run _ (execOp (Act.eval (Act.put (frm _ _ _ []) (some 66) (vs 2))) _) _)
        simp only [frm, h2]
        have hbk := HX.out.below hb1 HX.out.lt
        have c0 : w6.cell? ⟨bx, 6, none⟩ = some (.int .i64 x.i) := hbk.cell 6
        clear hbk
        go_simp
        exact adds_val rfl
       ·clear hgr
        change Made _ (Adds _ _ _) (Sem.run _ (execOp (Act.eval (frm _ _ _ [])) _) _)
        simp only [frm]
        go_simp
        exact adds_val rfl
       ·have h4 : vs 4 = _ := hgr 4 (by decide)
        clear hgr
        change Made _ (Adds _ _ _) (Sem.run _ (execOp (Act.eval (Act.put (frm _ _ _ []) (some 68) (vs 4))) _) _)
        simp only [frm, h4]
        go_simp
        exact adds_still (cW _)
      ·intro vs w6 hb1 hall hap
       have h0 : vs 0 = _ := (hall 0 (by omega)).1
       have h1 : vs 1 = _ := (hall 1 (by omega)).1
       have h3 : vs 3 = _ := (hall 3 (by omega)).1
       have h5 : vs 5 = _ := (hall 5 (by omega)).1
       clear hall hap
       change wpList _ _ _ [_] (Act.put (Act.put (Act.put (Act.put (Act.put (Act.put (frm _ _ _ []) (some 69) (vs 5)) (some 68) (vs 4)) (some 67) (vs 3)) (some 66) (vs 2)) (some 65) (vs 1)) (some 64) (vs 0)) _
       simp only [frm, h0, h1, h3, h5]
       have H26 := lh (H2.out.below hb1)
       have HX6 := lh (HX.out.below hb1 HX.out.lt)
       have HB6 := lh (HB2.out.trans (hb1.mono HB2.out.size))
       have cA := MSetField_any H26.out.mr pa x.i (frW_u pb)
       have hS : ∀ {g' : Nat} {C : Array Value}, Bk w6 g' 90 C → ¬ (g' = g1 ∨ memS V1 V2 g') := fun hg => H26.out.noS hg (by decide) (by decide)
       have HSX6 := lh (hS HX6.out)
       unfold memV at cA
       clear hb1 hS cW
       go_wp2_with fail
       refine cA.mono ?_
       rintro e w7 ⟨rfl, hm6, hk6⟩
       rw [← HR.out] at hm6
       have H6 := lh (H26.out.progM hm6 hk6)
       have HX7 := lh (HX6.out.kp hk6 (fun e => HSX6.out (.inr e)))
       clear cA hm6 hk6
       go_wp2_with fail
       try rw [normalTo_normal]
       go_meet
       case rel => exact ⟨V1, H6.out.1, HB6.out.trans H6.out.2, HX7.out⟩
     ·have d1 : (x.k == 1) = false := by simp [k1]
      by_cases k2 : x.k = 2
      ·have d2 : (x.k == 2) = true := by simp [k2]
       have HR : Hid ((st1 q x).1 = (q.1.setF pa x.i x.w).2) := lh (by unfold st1; rw [if_neg k0, if_neg k1, if_pos k2, ← HPA.out])
       have cA := MSetField_any H2.out.mr pa x.i HXO.out.w
       unfold memV at cA
       clear k0 k1 k2
       go_wp2_with fail
       refine cA.mono ?_
       rintro e w6 ⟨rfl, hm6, hk6⟩
       rw [← HR.out] at hm6
       have H6 := lh (H2.out.progM hm6 hk6)
       have HX6 := lh (HX.out.kp hk6 (fun e => HSX.out (.inr e)))
       clear cA hm6 hk6
       go_wp2_with fail
       go_meet
       case rel => exact ⟨V1, H6.out.1, HB2.out.trans H6.out.2, HX6.out⟩
      ·have d2 : (x.k == 2) = false := by simp [k2]
       by_cases k3 : x.k = 3
       ·have d3 : (x.k == 3) = true := by simp [k3]
        have HR : Hid ((st1 q x).1 = (q.1.toStub pa 2 (IntKind.u64.wrap x.i)).2) := lh (by unfold st1; rw [if_neg k0, if_neg k1, if_neg k2, if_pos k3, ← HPA.out])
        have cA := MToStub_any H2.out.mr pa 2 (wrapU_u x.i)
        unfold memV at cA
        clear k0 k1 k2 k3
        go_wp2_with fail
        refine cA.mono ?_
        rintro e w6 ⟨rfl, hm6, hk6⟩
        rw [← HR.out] at hm6
        have H6 := lh (H2.out.progM hm6 hk6)
        have HX6 := lh (HX.out.kp hk6 (fun e => HSX.out (.inr e)))
        clear cA hm6 hk6
        go_wp2_with fail
        go_meet
        case rel => exact ⟨V1, H6.out.1, HB2.out.trans H6.out.2, HX6.out⟩
       ·have d3 : (x.k == 3) = false := by simp [k3]
        by_cases k4 : x.k = 4
        ·have d4 : (x.k == 4) = true := by simp [k4]
         have HR : Hid ((st1 q x).1 = (q.1.toFwd pa pb).2) := lh (by unfold st1; rw [if_neg k0, if_neg k1, if_neg k2, if_neg k3, if_pos k4, ← HPA.out, ← HPB.out])
         have cA := MToForward_any H2.out.mr pa pb
         unfold memV at cA
         clear k0 k1 k2 k3 k4
         go_wp2_with fail
         refine cA.mono ?_
         rintro e w6 ⟨rfl, hm6, hk6⟩
         rw [← HR.out] at hm6
         have H6 := lh (H2.out.progM hm6 hk6)
         have HX6 := lh (HX.out.kp hk6 (fun e => HSX.out (.inr e)))
         clear cA hm6 hk6
         go_wp2_with fail
         go_meet
         case rel => exact ⟨V1, H6.out.1, HB2.out.trans H6.out.2, HX6.out⟩
        ·have d4 : (x.k == 4) = false := by simp [k4]
         have HR : Hid (st1 q x = q) := lh (by unfold st1; rw [if_neg k0, if_neg k1, if_neg k2, if_neg k3, if_neg k4])
         clear k0 k1 k2 k3 k4
         go_wp2_with fail
         go_meet
         case rel => exact ⟨V1, by rw [HR.out]; exact H2.out, HB2.out, HX.out⟩
   case rest =>
    clear H2 HB2 HX x0
    obtain ⟨V3, hbd, hbw, hxx⟩ := hcut
    have hok := hbd.mr.ok
    have H3 := lh hbd
    have HB3 := lh hbw
    have HOK := lh hok
    have cS := Step1_any hbd.rm HLD.out.ok hbd.is (fun b o e => (hbd.ap b o (.inr (.inr e))).1) (Nat.le_trans hq1 (by decide)) x HXO.out
    unfold Op1.cells StP1 at cS
    have y0 : wc.cell? ⟨b7, 0, none⟩ = some (.int .i64 q.1.old.base) := hbd.h7.cell 0
    have y1 : wc.cell? ⟨b7, 1, none⟩ = some (.int .i64 q.1.old.limit) := hbd.h7.cell 1
    have y2 : wc.cell? ⟨b7, 2, none⟩ = some (.slice A1 q.1.old.ws.length e1) := hbd.h7.cell 2
    have y3 : wc.cell? ⟨b7, 3, none⟩ = some (.int .i64 q.1.yng.base) := hbd.h7.cell 3
    have y4 : wc.cell? ⟨b7, 4, none⟩ = some (.int .i64 q.1.yng.limit) := hbd.h7.cell 4
    have y5 : wc.cell? ⟨b7, 5, none⟩ = some (.slice A2 q.1.yng.ws.length e2) := hbd.h7.cell 5
    have x0 : wc.cell? ⟨bx, 0, none⟩ = some (.int .i64 x.k) := hxx.cell 0
    have x1 : wc.cell? ⟨bx, 1, none⟩ = some (.int .i64 x.h.k) := hxx.cell 1
    have x2 : wc.cell? ⟨bx, 2, none⟩ = some (.int .i64 x.h.c) := hxx.cell 2
    have x3 : wc.cell? ⟨bx, 3, none⟩ = some (.int .i64 x.h.f) := hxx.cell 3
    have x4 : wc.cell? ⟨bx, 4, none⟩ = some (.int .i64 x.a) := hxx.cell 4
    have x5 : wc.cell? ⟨bx, 5, none⟩ = some (.int .i64 x.b) := hxx.cell 5
    have x6 : wc.cell? ⟨bx, 6, none⟩ = some (.int .i64 x.i) := hxx.cell 6
    have x7 : wc.cell? ⟨bx, 7, none⟩ = some (.int .u64 x.w) := hxx.cell 7
    have hl7 := hbd.h7.lt
    clear hbd hbw hxx hok
    go_wp2_with fail
    refine cS.mono ?_
    rintro e w7 ⟨A3, e3, A4, e4, A5, c5, rfl, hrm, his, hlt5, n1, n2, n3, hb7⟩
    have hq7 := H3.out.h7.below hb7 H3.out.h7.lt
    have z0 : w7.cell? ⟨b7, 0, none⟩ = some (.int .i64 q.1.old.base) := hq7.cell 0
    have zf0 : w7.frozen? ⟨b7, 0, none⟩ = false := hq7.free 0
    have z1 : w7.cell? ⟨b7, 1, none⟩ = some (.int .i64 q.1.old.limit) := hq7.cell 1
    have zf1 : w7.frozen? ⟨b7, 1, none⟩ = false := hq7.free 1
    have z2 : w7.cell? ⟨b7, 2, none⟩ = some (.slice A1 q.1.old.ws.length e1) := hq7.cell 2
    have zf2 : w7.frozen? ⟨b7, 2, none⟩ = false := hq7.free 2
    have z3 : w7.cell? ⟨b7, 3, none⟩ = some (.int .i64 q.1.yng.base) := hq7.cell 3
    have zf3 : w7.frozen? ⟨b7, 3, none⟩ = false := hq7.free 3
    have z4 : w7.cell? ⟨b7, 4, none⟩ = some (.int .i64 q.1.yng.limit) := hq7.cell 4
    have zf4 : w7.frozen? ⟨b7, 4, none⟩ = false := hq7.free 4
    have z5 : w7.cell? ⟨b7, 5, none⟩ = some (.slice A2 q.1.yng.ws.length e2) := hq7.cell 5
    have zf5 : w7.frozen? ⟨b7, 5, none⟩ = false := hq7.free 5
    have hR := H3.out.refs hb7 hrm his hlt5 n1 n2 n3
    have HR := lh hR
    clear hrm his hlt5 n1 n2 n3 hb7 hq7 cS hR
    go_wp2_with fail
    go_roundw
    case rel => exact ⟨j + 1, V3, V2, A3, e3, A4, e4, A5, c5, by go_num, by omega, by rw [HT.out], by rw [HT.out]; exact HR.out.1, by rw [HT.out]; exact HLD.out.step x HOK.out, HB3.out.trans HR.out.2⟩
    case measure => simp [intOf]; omega
  ·have e : j = l.length := by omega
   subst e
   rw [List.take_of_length_le (Nat.le_refl _)] at hbd hld
   have hdn : List.take l.length l = l := List.take_of_length_le (Nat.le_refl _)
   rw [hdn]
   obtain ⟨q, hq⟩ : ∃ q, q = bld1 l := ⟨_, rfl⟩
   rw [← hq] at hbd hld ⊢
   try rw [← hq]
   have HQ := lh hq
   have HLDN := lh hld
   have H2 := lh hbd
   have H26 := lh hbd.h6
   have H27 := lh hbd.h7
   have cS := fun {w1 : World} (hb : Below wr.heap.size wr w1) => Same11_any (hbd.mr.below hb) (hbd.rm.below hb)
   have hlt2 : ¬ (l.length < l.length) := by omega
   clear hbd hld hbw hq hdn hlt
   go_upto_region 23 with fail
   have hn23 : b2 ≠ b3 := fun e => Bk.neU H2.out.h2 H2.out.h3 (by decide) e
   have HNE := lh (And.intro hn23 H2.out.ne)
   clear hn23
   refine wp_region_inv 10 (fun i => ([[], [], [], [], [], [3, 4], [0], [1], [2], [5]] : List (List Nat)).getD i []) (fun L vs w3 => Vals ([some (.agg #[.pointer (some ⟨g1, 0, none⟩), .pointer (some ⟨g2, 0, none⟩)]), some (.agg #[.int .i64 q.1.old.base, .int .i64 q.1.old.limit, .slice A1 q.1.old.ws.length e1, .int .i64 q.1.yng.base, .int .i64 q.1.yng.limit, .slice A2 q.1.yng.ws.length e2]), some (.slice A q.2.length c), some (.agg #[.pointer (some ⟨g1, 0, none⟩), .pointer (some ⟨g2, 0, none⟩)]), some (.agg #[.int .i64 q.1.old.base, .int .i64 q.1.old.limit, .slice A1 q.1.old.ws.length e1, .int .i64 q.1.yng.base, .int .i64 q.1.yng.limit, .slice A2 q.1.yng.ws.length e2]), some (.bool true), none, none, some (.slice A q.2.length c), some (.bool true)] : List (Option Value)) L vs ∧ Kp (fun k => k = b2 ∨ k = b3) wr w3 ∧ Bk w3 b2 27 (stg L 6 (#[.pointer none, .pointer none] : Array Value) (#[.pointer (some ⟨g1, 0, none⟩), .pointer (some ⟨g2, 0, none⟩)] : Array Value)) ∧ Bk w3 b3 32 (stg L 7 (#[.int .i64 0, .int .i64 0, .slice none 0 0, .int .i64 0, .int .i64 0, .slice none 0 0] : Array Value) (#[.int .i64 q.1.old.base, .int .i64 q.1.old.limit, .slice A1 q.1.old.ws.length e1, .int .i64 q.1.yng.base, .int .i64 q.1.yng.limit, .slice A2 q.1.yng.ws.length e2] : Array Value))) rfl (by kernel_rfl) (by rfl) ?_ ?_ ?_
   ·intro vs
    exact ⟨(fun i v _ h => by rw [getD_replicate_false] at h; cases h), (Kp.refl _ _).drew, H2.out.h2, H2.out.h3⟩
   ·intro i hi o ho L vs w3 hls hun hwt hI
    obtain ⟨hV, hK, hB2, hB3⟩ := hI
    have hb6 : Bk w3 b6 27 #[.pointer (some ⟨g1, 0, none⟩), .pointer (some ⟨g2, 0, none⟩)] := H26.out.kp hK (fun e => e.elim (fun e => HNE.out.2.1 e.symm) fun e => Bk.neU H26.out H2.out.h3 (by decide) e)
    have hb7 : Bk w3 b7 32 #[.int .i64 q.1.old.base, .int .i64 q.1.old.limit, .slice A1 q.1.old.ws.length e1, .int .i64 q.1.yng.base, .int .i64 q.1.yng.limit, .slice A2 q.1.yng.ws.length e2] := H27.out.kp hK (fun e => e.elim (fun e => Bk.neU H27.out H2.out.h2 (by decide) e) fun e => HNE.out.2.2 e.symm)
    rcases (show i = 0 ∨ i = 1 ∨ i = 2 ∨ i = 3 ∨ i = 4 ∨ i = 5 ∨ i = 6 ∨ i = 7 ∨ i = 8 ∨ i = 9 by omega) with rfl | rfl | rfl | rfl | rfl | rfl | rfl | rfl | rfl | rfl <;> cases ho
    ·have c0 : w3.cell? ⟨b6, 0, none⟩ = some (.pointer (some ⟨g1, 0, none⟩)) := hb6.cell 0
     have c1 : w3.cell? ⟨b6, 1, none⟩ = some (.pointer (some ⟨g2, 0, none⟩)) := hb6.cell 1
     change Made _ _ (Sem.run _ (execOp (Act.eval (frm _ _ _ [])) _) _)
     simp only [frm]
     have HH := lh (And.intro hV (And.intro hK (And.intro hB2 hB3)))
     clear hV hK hB2 hB3 hwt hun
     go_simp
     refine made_ok ?_
     obtain ⟨hV, hK, hB2, hB3⟩ := HH.out
     exact ⟨hV.put (fun x hx => by cases hx; rfl), hK, by rw [stg_set _ _ (by decide)]; exact hB2, by rw [stg_set _ _ (by decide)]; exact hB3⟩
    ·have c0 : w3.cell? ⟨b7, 0, none⟩ = some (.int .i64 q.1.old.base) := hb7.cell 0
     have c1 : w3.cell? ⟨b7, 1, none⟩ = some (.int .i64 q.1.old.limit) := hb7.cell 1
     have c2 : w3.cell? ⟨b7, 2, none⟩ = some (.slice A1 q.1.old.ws.length e1) := hb7.cell 2
     have c3 : w3.cell? ⟨b7, 3, none⟩ = some (.int .i64 q.1.yng.base) := hb7.cell 3
     have c4 : w3.cell? ⟨b7, 4, none⟩ = some (.int .i64 q.1.yng.limit) := hb7.cell 4
     have c5 : w3.cell? ⟨b7, 5, none⟩ = some (.slice A2 q.1.yng.ws.length e2) := hb7.cell 5
     change Made _ _ (Sem.run _ (execOp (Act.eval (frm _ _ _ [])) _) _)
     simp only [frm]
     have HH := lh (And.intro hV (And.intro hK (And.intro hB2 hB3)))
     clear hV hK hB2 hB3 hwt hun
     go_simp
     refine made_ok ?_
     obtain ⟨hV, hK, hB2, hB3⟩ := HH.out
     exact ⟨hV.put (fun x hx => by cases hx; rfl), hK, by rw [stg_set _ _ (by decide)]; exact hB2, by rw [stg_set _ _ (by decide)]; exact hB3⟩
    ·change Made _ _ (Sem.run _ (execOp (Act.eval (frm _ _ _ [])) _) _)
     simp only [frm]
     have HH := lh (And.intro hV (And.intro hK (And.intro hB2 hB3)))
     clear hV hK hB2 hB3 hwt hun
     go_simp
     refine made_ok ?_
     obtain ⟨hV, hK, hB2, hB3⟩ := HH.out
     exact ⟨hV.put (fun x hx => by cases hx; rfl), hK, by rw [stg_set _ _ (by decide)]; exact hB2, by rw [stg_set _ _ (by decide)]; exact hB3⟩
    ·have c0 : w3.cell? ⟨b6, 0, none⟩ = some (.pointer (some ⟨g1, 0, none⟩)) := hb6.cell 0
     have c1 : w3.cell? ⟨b6, 1, none⟩ = some (.pointer (some ⟨g2, 0, none⟩)) := hb6.cell 1
     change Made _ _ (Sem.run _ (execOp (Act.eval (frm _ _ _ [])) _) _)
     simp only [frm]
     have HH := lh (And.intro hV (And.intro hK (And.intro hB2 hB3)))
     clear hV hK hB2 hB3 hwt hun
     go_simp
     refine made_ok ?_
     obtain ⟨hV, hK, hB2, hB3⟩ := HH.out
     exact ⟨hV.put (fun x hx => by cases hx; rfl), hK, by rw [stg_set _ _ (by decide)]; exact hB2, by rw [stg_set _ _ (by decide)]; exact hB3⟩
    ·have c0 : w3.cell? ⟨b7, 0, none⟩ = some (.int .i64 q.1.old.base) := hb7.cell 0
     have c1 : w3.cell? ⟨b7, 1, none⟩ = some (.int .i64 q.1.old.limit) := hb7.cell 1
     have c2 : w3.cell? ⟨b7, 2, none⟩ = some (.slice A1 q.1.old.ws.length e1) := hb7.cell 2
     have c3 : w3.cell? ⟨b7, 3, none⟩ = some (.int .i64 q.1.yng.base) := hb7.cell 3
     have c4 : w3.cell? ⟨b7, 4, none⟩ = some (.int .i64 q.1.yng.limit) := hb7.cell 4
     have c5 : w3.cell? ⟨b7, 5, none⟩ = some (.slice A2 q.1.yng.ws.length e2) := hb7.cell 5
     change Made _ _ (Sem.run _ (execOp (Act.eval (frm _ _ _ [])) _) _)
     simp only [frm]
     have HH := lh (And.intro hV (And.intro hK (And.intro hB2 hB3)))
     clear hV hK hB2 hB3 hwt hun
     go_simp
     refine made_ok ?_
     obtain ⟨hV, hK, hB2, hB3⟩ := HH.out
     exact ⟨hV.put (fun x hx => by cases hx; rfl), hK, by rw [stg_set _ _ (by decide)]; exact hB2, by rw [stg_set _ _ (by decide)]; exact hB3⟩
    ·have h3 : vs 3 = _ := hV 3 _ rfl (hwt 3 (by kernel_rfl))
     have h4 : vs 4 = _ := hV 4 _ rfl (hwt 4 (by kernel_rfl))
     change Made _ _ (Sem.run _ (execOp (Act.eval (Act.put (Act.put (frm _ _ _ []) (some 105) (vs 4)) (some 104) (vs 3))) _) _)
     simp only [frm, h3, h4]
     have HH := lh (And.intro hV (And.intro hK (And.intro hB2 hB3)))
     have hS : MR w3 w.heap.size g1 g2 V1 V2 q.1 ∧ RM w3 q.1 A1 e1 A2 e2 := ⟨⟨H2.out.mr.o.kp hK (fun e => e.elim (fun e => Bk.neU H2.out.mr.o.hd H2.out.h2 (by decide) e) fun e => Bk.neU H2.out.mr.o.hd H2.out.h3 (by decide) e) (fun k hk e => e.elim (fun e => H2.out.mr.o.own_ne H2.out.h2 (by decide) (e ▸ hk)) fun e => H2.out.mr.o.own_ne H2.out.h3 (by decide) (e ▸ hk)), H2.out.mr.y.kp hK (fun e => e.elim (fun e => Bk.neU H2.out.mr.y.hd H2.out.h2 (by decide) e) fun e => Bk.neU H2.out.mr.y.hd H2.out.h3 (by decide) e) (fun k hk e => e.elim (fun e => H2.out.mr.y.own_ne H2.out.h2 (by decide) (e ▸ hk)) fun e => H2.out.mr.y.own_ne H2.out.h3 (by decide) (e ▸ hk)), H2.out.mr.ok, H2.out.mr.gg, H2.out.mr.vv⟩, ⟨H2.out.rm.o.kpC hK fun b o e hs => by obtain ⟨_, _, _, a2, a3, _⟩ := H2.out.ap b o (.inl e); exact hs.elim a2 a3, H2.out.rm.y.kpC hK fun b o e hs => by obtain ⟨_, _, _, a2, a3, _⟩ := H2.out.ap b o (.inr (.inl e)); exact hs.elim a2 a3⟩⟩
     have cS := Same11_any hS.1 hS.2
     clear hV hK hB2 hB3 hwt hun hS
     go_simp
     refine made_call (cS.mono ?_)
     rintro e w4 ⟨rfl, hb⟩
     obtain ⟨hV, hK, hB2, hB3⟩ := HH.out
     exact ⟨_, rfl, hV.put (fun x hx => by cases hx; rfl), hK.trans (Kp.of_below (S := fun _ => False) hb) (fun _ _ h => h.elim), by rw [stg_set _ _ (by decide)]; exact hB2.below hb hB2.lt, by rw [stg_set _ _ (by decide)]; exact hB3.below hb hB3.lt⟩
    ·have h0 : vs 0 = _ := hV 0 _ rfl (hwt 0 (by kernel_rfl))
     change Made _ _ (Sem.run _ (execOp (Act.eval (Act.put (frm _ _ _ []) (some 101) (vs 0))) _) _)
     simp only [frm, h0]
     rw [stg_old _ _ hun] at hB2
     have y0 : w3.cell? ⟨b2, 0, none⟩ = some (.pointer none) := hB2.cell 0
     have yf0 : w3.frozen? ⟨b2, 0, none⟩ = false := hB2.free 0
     have y1 : w3.cell? ⟨b2, 1, none⟩ = some (.pointer none) := hB2.cell 1
     have yf1 : w3.frozen? ⟨b2, 1, none⟩ = false := hB2.free 1
     have HH := lh (And.intro hV (And.intro hK (And.intro hB2 hB3)))
     have HLS := lh hls
     clear hV hK hB2 hB3 hwt hun hls
     go_simp
     refine made_skip ?_
     obtain ⟨hV, hK, hB2, hB3⟩ := HH.out
     exact ⟨hV.put (fun x hx => by cases hx), (hK.trans (Kp.setCell (S := fun k => k = b2 ∨ k = b3) _ ⟨b2, 0, none⟩ _ (.inl rfl)) fun _ _ h => h).trans (Kp.setCell (S := fun k => k = b2 ∨ k = b3) _ ⟨b2, 1, none⟩ _ (.inl rfl)) (fun _ _ h => h), by rw [stg_new _ _ (by rw [HLS.out]; decide)]; exact (hB2.set 0 _).set 1 _, by rw [stg_set _ _ (by decide)]; exact (hB3.far (p := ⟨b2, 0, none⟩) (Ne.symm HNE.out.1) _).far (p := ⟨b2, 1, none⟩) (Ne.symm HNE.out.1) _⟩
    ·have h1 : vs 1 = _ := hV 1 _ rfl (hwt 1 (by kernel_rfl))
     change Made _ _ (Sem.run _ (execOp (Act.eval (Act.put (frm _ _ _ []) (some 102) (vs 1))) _) _)
     simp only [frm, h1]
     rw [stg_old _ _ hun] at hB3
     have y0 : w3.cell? ⟨b3, 0, none⟩ = some (.int .i64 0) := hB3.cell 0
     have yf0 : w3.frozen? ⟨b3, 0, none⟩ = false := hB3.free 0
     have y1 : w3.cell? ⟨b3, 1, none⟩ = some (.int .i64 0) := hB3.cell 1
     have yf1 : w3.frozen? ⟨b3, 1, none⟩ = false := hB3.free 1
     have y2 : w3.cell? ⟨b3, 2, none⟩ = some (.slice none 0 0) := hB3.cell 2
     have yf2 : w3.frozen? ⟨b3, 2, none⟩ = false := hB3.free 2
     have y3 : w3.cell? ⟨b3, 3, none⟩ = some (.int .i64 0) := hB3.cell 3
     have yf3 : w3.frozen? ⟨b3, 3, none⟩ = false := hB3.free 3
     have y4 : w3.cell? ⟨b3, 4, none⟩ = some (.int .i64 0) := hB3.cell 4
     have yf4 : w3.frozen? ⟨b3, 4, none⟩ = false := hB3.free 4
     have y5 : w3.cell? ⟨b3, 5, none⟩ = some (.slice none 0 0) := hB3.cell 5
     have yf5 : w3.frozen? ⟨b3, 5, none⟩ = false := hB3.free 5
     have HH := lh (And.intro hV (And.intro hK (And.intro hB2 hB3)))
     have HLS := lh hls
     clear hV hK hB2 hB3 hwt hun hls
     go_simp
     refine made_skip ?_
     obtain ⟨hV, hK, hB2, hB3⟩ := HH.out
     have k6 : ∀ {wa wb : World} (p : Addr) (v : Value), Kp (fun k => k = b2 ∨ k = b3) wa wb → p.block = b3 → Kp (fun k => k = b2 ∨ k = b3) wa (wb.setCell p v) := fun p v h1 hp => h1.trans (Kp.setCell (S := fun k => k = b2 ∨ k = b3) _ p v (.inr hp)) fun _ _ h => h
     exact ⟨hV.put (fun x hx => by cases hx), k6 _ _ (k6 _ _ (k6 _ _ (k6 _ _ (k6 _ _ (k6 _ _ hK rfl) rfl) rfl) rfl) rfl) rfl, by rw [stg_set _ _ (by decide)]; exact hB2.far6a HNE.out.1, by rw [stg_new _ _ (by rw [HLS.out]; decide)]; exact hB3.set6a⟩
    ·have h2 : vs 2 = _ := hV 2 _ rfl (hwt 2 (by kernel_rfl))
     change Made _ _ (Sem.run _ (execOp (Act.eval (Act.put (frm _ _ _ []) (some 103) (vs 2))) _) _)
     simp only [frm, h2]
     have HH := lh (And.intro hV (And.intro hK (And.intro hB2 hB3)))
     clear hV hK hB2 hB3 hwt hun
     go_simp
     refine made_ok ?_
     obtain ⟨hV, hK, hB2, hB3⟩ := HH.out
     exact ⟨hV.put (fun x hx => by cases hx; rfl), hK, by rw [stg_set _ _ (by decide)]; exact hB2, by rw [stg_set _ _ (by decide)]; exact hB3⟩
    ·have h5 : vs 5 = _ := hV 5 _ rfl (hwt 5 (by kernel_rfl))
     change Made _ _ (Sem.run _ (execOp (Act.eval (Act.put (frm _ _ _ []) (some 106) (vs 5))) _) _)
     simp only [frm, h5]
     have HH := lh (And.intro hV (And.intro hK (And.intro hB2 hB3)))
     clear hV hK hB2 hB3 hwt hun
     go_simp
     refine made_ok ?_
     obtain ⟨hV, hK, hB2, hB3⟩ := HH.out
     exact ⟨hV.put (fun x hx => by cases hx; rfl), hK, by rw [stg_set _ _ (by decide)]; exact hB2, by rw [stg_set _ _ (by decide)]; exact hB3⟩
   ·intro L vs w3 hls hall hI
    obtain ⟨hV, hK, hB2, hB3⟩ := hI
    rw [stg_done _ _ (hall 6 (by decide))] at hB2
    rw [stg_done _ _ (hall 7 (by decide))] at hB3
    have h8 : vs 8 = _ := hV 8 _ rfl (hall 8 (by decide))
    have h9 : vs 9 = _ := hV 9 _ rfl (hall 9 (by decide))
    change wpList _ _ _ [] (Act.put (Act.put (Act.put (Act.put (Act.put (Act.put (Act.put (Act.put (Act.put (Act.put (frm _ _ _ []) (some 5) (vs 9)) (some 4) (vs 8)) none (vs 7)) none (vs 6)) (some 106) (vs 5)) (some 105) (vs 4)) (some 104) (vs 3)) (some 103) (vs 2)) (some 102) (vs 1)) (some 101) (vs 0)) _
    simp only [frm, h8, h9]
    have HK := lh hK
    have d0 : w3.cell? ⟨b2, 0, none⟩ = some (.pointer (some ⟨g1, 0, none⟩)) := hB2.cell 0
    have d1 : w3.cell? ⟨b2, 1, none⟩ = some (.pointer (some ⟨g2, 0, none⟩)) := hB2.cell 1
    have f0 : w3.cell? ⟨b3, 0, none⟩ = some (.int .i64 q.1.old.base) := hB3.cell 0
    have f1 : w3.cell? ⟨b3, 1, none⟩ = some (.int .i64 q.1.old.limit) := hB3.cell 1
    have f2 : w3.cell? ⟨b3, 2, none⟩ = some (.slice A1 q.1.old.ws.length e1) := hB3.cell 2
    have f3 : w3.cell? ⟨b3, 3, none⟩ = some (.int .i64 q.1.yng.base) := hB3.cell 3
    have f4 : w3.cell? ⟨b3, 4, none⟩ = some (.int .i64 q.1.yng.limit) := hB3.cell 4
    have f5 : w3.cell? ⟨b3, 5, none⟩ = some (.slice A2 q.1.yng.ws.length e2) := hB3.cell 5
    clear hV hK hB2 hB3 hall hls h8 h9 cS
    go_wp2_with fail
    refine bodyPost_ret (v := .tuple #[.agg #[.pointer (some ⟨g1, 0, none⟩), .pointer (some ⟨g2, 0, none⟩)], .agg #[.int .i64 q.1.old.base, .int .i64 q.1.old.limit, .slice A1 q.1.old.ws.length e1, .int .i64 q.1.yng.base, .int .i64 q.1.yng.limit, .slice A2 q.1.yng.ws.length e2], .slice A q.2.length c, .bool true]) (by simp [results, Tryz.results14, go_sem, d0, d1, f0, f1, f2, f3, f4, f5]) rfl ?_
    have hK := HK.out
    rw [← HQ.out]
    have nS : ∀ b o, A1 = some ⟨b, o, none⟩ ∨ A2 = some ⟨b, o, none⟩ ∨ A = some ⟨b, o, none⟩ → ¬ (b = b2 ∨ b = b3) := fun b o e hs => by obtain ⟨_, _, _, a2, a3, _⟩ := H2.out.ap b o e; exact hs.elim a2 a3
    refine ⟨g1, g2, V1, V2, A1, e1, A2, e2, A, c, rfl, ⟨H2.out.mr.o.kp hK (fun e => e.elim (fun e => Bk.neU H2.out.mr.o.hd H2.out.h2 (by decide) e) fun e => Bk.neU H2.out.mr.o.hd H2.out.h3 (by decide) e) (fun k hk e => e.elim (fun e => H2.out.mr.o.own_ne H2.out.h2 (by decide) (e ▸ hk)) fun e => H2.out.mr.o.own_ne H2.out.h3 (by decide) (e ▸ hk)), H2.out.mr.y.kp hK (fun e => e.elim (fun e => Bk.neU H2.out.mr.y.hd H2.out.h2 (by decide) e) fun e => Bk.neU H2.out.mr.y.hd H2.out.h3 (by decide) e) (fun k hk e => e.elim (fun e => H2.out.mr.y.own_ne H2.out.h2 (by decide) (e ▸ hk)) fun e => H2.out.mr.y.own_ne H2.out.h3 (by decide) (e ▸ hk)), H2.out.mr.ok, H2.out.mr.gg, H2.out.mr.vv⟩, ⟨H2.out.rm.o.kpC hK fun b o e => nS b o (.inl e), H2.out.rm.y.kpC hK fun b o e => nS b o (.inr (.inl e))⟩, H2.out.is.kpC hK (fun b o e => nS b o (.inr (.inr e))), fun b o e => ?_, hK.toBelow HBW.out HBW.out.size fun k hk => hk.elim (fun e => e ▸ H2.out.ge.1) fun e => e ▸ H2.out.ge.2.1, l.length, hn, HLDN.out⟩
    obtain ⟨a0, a1, a2, _⟩ := H2.out.ap b o e
    exact ⟨Nat.lt_of_lt_of_le a0 hK.size, a1, a2⟩
end
end Go.Proofs.YtjpaogapclfajaaGreat
