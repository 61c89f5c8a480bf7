/- Parts of the proof: RBldB. -/
import Derived.Test.YtaijmgkjbbiboaaPaA
import Derived.Test.YtaijmgkjbbiboaaPa16
import Derived.Test.YtaijmgkjbbiboaaPa20
set_option linter.unusedVariables false
set_option linter.unusedSimpArgs false
set_option linter.unusedSectionVars false
set_option maxRecDepth 100000
namespace Go.Proofs.Ytaijmgkjbbiboaa
section
open Go.RowKit Go.Sort
attribute [local go_sem] Oper.semAt_some onlyN_normal
theorem i_hdr : (Try.prog.info? 54).map (fun i => (i.zero, i.size, i.bytes)) = some (some (.agg #[.int .i64 0, .int .i64 0, .int .i64 0]), 3, 24) := by kernel_rfl
theorem W10.step_bl (s : W10) (o : OpV) : (s.step o).m.old.base = s.m.old.base ∧ (s.step o).m.old.limit = s.m.old.limit ∧ (s.step o).m.yng.base = s.m.yng.base := by
 have ha : ∀ y hd, (s.alloc y hd).m.old.base = s.m.old.base ∧ (s.alloc y hd).m.old.limit = s.m.old.limit ∧ (s.alloc y hd).m.yng.base = s.m.yng.base := fun y hd => by
  unfold W10.alloc
  split
  ·dsimp only
   unfold Mm.alloc
   split
   ·exact ⟨rfl, rfl, (Spc.alloc_bl _ _ _).1⟩
   ·exact ⟨(Spc.alloc_bl _ _ _).1, (Spc.alloc_bl _ _ _).2, rfl⟩
  ·exact ⟨rfl, rfl, rfl⟩
 have hp : ∀ {m' : Mm}, m'.Sh s.m → m'.old.base = s.m.old.base ∧ m'.old.limit = s.m.old.limit ∧ m'.yng.base = s.m.yng.base := fun h => ⟨h.o.b, h.o.l, h.y.b⟩
 unfold W10.step
 split
 ·exact ha _ _
 ·split
  ·exact ha _ _
  ·split
   ·exact hp (bst_Sh _ _ _ _ _)
   ·split
    ·exact hp (Mm.setF_Sh _ _ _ _)
    ·split
     ·exact hp (Mm.store_Sh _ _ _)
     ·split
      ·exact ⟨rfl, rfl, rfl⟩
      ·split
       ·exact hp (Mm.toFwd_Sh _ _ _)
       ·split
        ·exact hp (Mm.toStub_Sh _ _ _ _)
        ·exact ⟨rfl, rfl, rfl⟩
theorem In10.stepR {limit : Int} {s : W10} {n : Nat} (h : In10 limit s n) (o : OpV) {w : World} {A1 A2 : Option Addr} {c1 c2 : Nat} (hm : RM w (s.step o).m A1 c1 A2 c2) : In10 limit (s.step o) (n + 1) :=
 let ⟨e1, e2, e3⟩ := s.step_bl o
 h.step o ⟨hm.o.ok, hm.y.ok, e1.trans h.ok.ob, by rw [e2]; exact h.ok.ol, e3.trans h.ok.yb⟩
abbrev wrC (s : W10) (A1 : Option Addr) (c1 : Nat) (A2 : Option Addr) (c2 : Nat) (A : Option Addr) (c : Nat) (Vx Vh : Value) : Array Value := #[.int .i64 s.m.old.base, .int .i64 s.m.old.limit, .slice A1 s.m.old.ws.length c1, .int .i64 s.m.yng.base, .int .i64 s.m.yng.limit, .slice A2 s.m.yng.ws.length c2, .slice A s.cs.length c, Vx, Vh]
/-- the world of the play at block Nx -/
structure WR10 (w : World) (B Nx : Nat) (s : W10) (A1 : Option Addr) (c1 : Nat) (A2 : Option Addr) (c2 : Nat) (A : Option Addr) (c : Nat) (Vx Vh : Value) : Prop where
 x : Bk w Nx 39 (wrC s A1 c1 A2 c2 A c Vx Vh)
 rm : RM w s.m A1 c1 A2 c2
 rc : RC w s.cs A c
 ox : w.ownsRow B 3 1 Vx s.xs.length (ints s.xs)
 oh : w.ownsRow B 54 3 Vh s.hs.length (hcs s.hs)
 d : ∀ b o, A1 = some ⟨b, o, none⟩ ∨ A2 = some ⟨b, o, none⟩ ∨ A = some ⟨b, o, none⟩ → b < w.heap.size ∧ Nx < b ∧ Vx.ownBlock ≠ some b ∧ Vh.ownBlock ≠ some b
section
variable {w w' w'' : World} {B Nx : Nat} {s : W10} {A1 A2 A A1' A2' A' : Option Addr} {c1 c2 c c1' c2' c' : Nat} {Vx Vh : Value} {m' : Mm} {cs' : List Int}
theorem WR10.below (h : WR10 w B Nx s A1 c1 A2 c2 A c Vx Vh) (hb : Below w.heap.size w w') : WR10 w' B Nx s A1 c1 A2 c2 A c Vx Vh :=
 ⟨h.x.below hb h.x.lt, h.rm.below hb, h.rc.below hb, own_local h.ox fun k hk => hb.block k (h.ox.lt k hk).2, own_local h.oh fun k hk => hb.block k (h.oh.lt k hk).2, fun b o e => let ⟨h1, h2⟩ := h.d b o e; ⟨Nat.lt_of_lt_of_le h1 hb.size, h2⟩⟩
theorem RC.lt {cs : List Int} (h : RC w cs A c) (b o : Nat) (e : A = some ⟨b, o, none⟩) : b < w.heap.size := by
 rcases h.form with h1 | ⟨b', o', h1, h2⟩
 ·rw [h1] at e; cases e
 ·rw [h1] at e
  cases e
  exact h2
/-- new words, new cards: written into the world's block -/
theorem WR10.put (h : WR10 w B Nx s A1 c1 A2 c2 A c Vx Vh) (hb : Below w.heap.size w w') (hm : RM w' m' A1' c1' A2' c2') (hc : RC w' cs' A' c') (n1 : Nw w.heap.size A1 A1') (n2 : Nw w.heap.size A2 A2') (n3 : Nw w.heap.size A A') (hk : Kp (fun k => k = Nx) w' w'') (hx : Bk w'' Nx 39 (wrC ⟨m', cs', s.xs, s.hs⟩ A1' c1' A2' c2' A' c' Vx Vh)) : WR10 w'' B Nx ⟨m', cs', s.xs, s.hs⟩ A1' c1' A2' c2' A' c' Vx Vh := by
 have hN := h.x.lt
 have hd : ∀ b o, A1' = some ⟨b, o, none⟩ ∨ A2' = some ⟨b, o, none⟩ ∨ A' = some ⟨b, o, none⟩ → b < w'.heap.size ∧ Nx < b ∧ Vx.ownBlock ≠ some b ∧ Vh.ownBlock ≠ some b := fun b o e => by
  have hlt : b < w'.heap.size := e.elim (hm.o.lt b o) fun e => e.elim (hm.y.lt b o) (hc.lt b o)
  have hor : (A1 = some ⟨b, o, none⟩ ∨ A2 = some ⟨b, o, none⟩ ∨ A = some ⟨b, o, none⟩) ∨ w.heap.size ≤ b := by
   rcases e with e | e | e
   ·exact (n1 b o e).imp (fun h1 => .inl (h1.symm.trans e)) id
   ·exact (n2 b o e).imp (fun h1 => .inr (.inl (h1.symm.trans e))) id
   ·exact (n3 b o e).imp (fun h1 => .inr (.inr (h1.symm.trans e))) id
  rcases hor with h1 | h1
  ·exact ⟨hlt, (h.d b o h1).2⟩
  ·exact ⟨hlt, by omega, fun e => by have := (h.ox.lt b e).2; omega, fun e => by have := (h.oh.lt b e).2; omega⟩
 have oxe : ∀ k, Vx.ownBlock = some k → k ≠ Nx := fun k hk e => ownRow_bk h.ox h.x (by decide) (e ▸ hk)
 have ohe : ∀ k, Vh.ownBlock = some k → k ≠ Nx := fun k hk e => ownRow_bk h.oh h.x (by decide) (e ▸ hk)
 refine ⟨hx, hm.kp hk fun b o e => Nat.ne_of_gt (hd b o (e.imp id .inl)).2.1, hc.kp hk fun b o e => Nat.ne_of_gt (hd b o (.inr (.inr e))).2.1, ?_, ?_, fun b o e => let ⟨h1, h2⟩ := hd b o e; ⟨Nat.lt_of_lt_of_le h1 hk.size, h2⟩⟩
 ·refine own_local h.ox fun k hk1 => ?_
  have := (h.ox.lt k hk1).2
  rw [hk.block k (Nat.lt_of_lt_of_le this hb.size) (oxe k hk1)]
  exact hb.block k this
 ·refine own_local h.oh fun k hk1 => ?_
  have := (h.oh.lt k hk1).2
  rw [hk.block k (Nat.lt_of_lt_of_le this hb.size) (ohe k hk1)]
  exact hb.block k this
end
section
variable {p : P15} {w w' : World} {s : W10} {m' : Mm} {A1 A2 A A1' A2' : Option Addr} {c1 c2 c c1' c2' : Nat} {L : Array Bool} {vs : Nat → Value}
/-- before the region -/
theorem R15.start (hw : p.W = w) (hx : Bk w p.Nx 39 #[p.c0, p.c1, p.c2, p.c3, p.c4, p.c5, p.Tv, p.Vx, p.Vh]) (ox : w.ownsRow p.B 3 1 p.Vx p.xs.length (ints p.xs)) (oh : w.ownsRow p.B 54 3 p.Vh p.hs.length (hcs p.hs)) (vs : Nat → Value) : R15 p (Array.replicate 18 false) vs w.drew := by
 subst hw
 refine ⟨(fun i v _ h => by rw [getD_replicate_false] at h; cases h), (Kp.refl _ _).drew, (fun h => by rw [getD_replicate_false] at h; cases h), (fun h => by rw [getD_replicate_false] at h; cases h), fun _ => own_local ox fun _ _ => rfl, (fun h => by rw [getD_replicate_false] at h; cases h), fun _ => own_local oh fun _ _ => rfl, (fun h => by rw [getD_replicate_false] at h; cases h), ?_⟩
 have e : p.cx (Array.replicate 18 false) vs = #[p.c0, p.c1, p.c2, p.c3, p.c4, p.c5, p.Tv, p.Vx, p.Vh] := by
  unfold P15.cx stg
  simp only [getD_replicate_false, Bool.false_eq_true, if_false]
 rw [e]
 exact hx
/-- after the region -/
theorem R15.done (h : R15 p L vs w') (hall : ∀ j, j < 18 → L.getD j false = true) (hm : RM p.W m' A1' c1' A2' c2') (hc : RC p.W s.cs A c) (hd : ∀ b o, A1' = some ⟨b, o, none⟩ ∨ A2' = some ⟨b, o, none⟩ ∨ A = some ⟨b, o, none⟩ → b < p.W.heap.size ∧ p.Nx < b ∧ p.Vx.ownBlock ≠ some b ∧ p.Vh.ownBlock ≠ some b)
  (hT : p.Tv = .slice A s.cs.length c) (e0 : p.d0 = .int .i64 m'.old.base) (e1 : p.d1 = .int .i64 m'.old.limit) (e2 : p.d2 = .slice A1' m'.old.ws.length c1') (e3 : p.d3 = .int .i64 m'.yng.base) (e4 : p.d4 = .int .i64 m'.yng.limit) (e5 : p.d5 = .slice A2' m'.yng.ws.length c2') :
  WR10 w' p.B p.Nx ⟨m', s.cs, p.xs ++ [p.ad], p.hs ++ [p.hd]⟩ A1' c1' A2' c2' A c (vs 5) (vs 11) := by
 have hq5 := h.q5 (hall 5 (by decide))
 have hq11 := h.q11 (hall 11 (by decide))
 have hs : ∀ b o, A1' = some ⟨b, o, none⟩ ∨ A2' = some ⟨b, o, none⟩ ∨ A = some ⟨b, o, none⟩ → ¬ (b = p.Nx ∨ p.Vx.ownBlock = some b ∨ p.Vh.ownBlock = some b) := fun b o e hn => by
  obtain ⟨h1, h2, h3, h4⟩ := hd b o e
  rcases hn with hn | hn | hn
  ·exact Nat.ne_of_gt h2 hn
  ·exact h3 hn
  ·exact h4 hn
 refine ⟨?_, hm.kp h.k fun b o e => hs b o (e.imp id .inl), hc.kp h.k fun b o e => hs b o (.inr (.inr e)), ?_, ?_, fun b o e => ?_⟩
 ·have := h.x
  unfold P15.cx at this
  simp only [stg_done _ _ (hall 13 (by decide)), stg_done _ _ (hall 15 (by decide)), stg_done _ _ (hall 17 (by decide)), hT, e0, e1, e2, e3, e4, e5] at this
  exact this
 ·rw [List.length_append, List.length_singleton, show ints (p.xs ++ [p.ad]) = ints p.xs ++ [.int .i64 p.ad] by simp [ints]]
  exact hq5.1
 ·rw [List.length_append, List.length_singleton, hcs_app]
  exact hq11.1
 ·obtain ⟨h1, h2, h3, h4⟩ := hd b o e
  exact ⟨Nat.lt_of_lt_of_le h1 h.k.size, h2, fun e => (hq5.2 b e).elim h3 fun h => by omega, fun e => (hq11.2 b e).elim h4 fun h => by omega⟩
theorem R15.keep (h : R15 p L vs w') {g : Nat} {t : TypeId} {C : Array Value} (hb : Bk p.W g t C) (hx : Bk p.W p.Nx 39 #[p.c0, p.c1, p.c2, p.c3, p.c4, p.c5, p.Tv, p.Vx, p.Vh]) (ox : p.W.ownsRow p.B 3 1 p.Vx p.xs.length (ints p.xs)) (oh : p.W.ownsRow p.B 54 3 p.Vh p.hs.length (hcs p.hs)) (h1 : t ≠ 39) (h2 : t ≠ 3) (h3 : t ≠ 54) : Bk w' g t C :=
 hb.kp h.k fun e => by
  rcases e with e | e | e
  ·subst e
   unfold Bk at hb hx
   rw [hb] at hx
   cases hx
   exact h1 rfl
  ·exact ownRow_bk ox hb h2 e
  ·exact ownRow_bk oh hb h3 e
end
/-- what Build leaves -/
def B10P (w : World) (s : W10) (e : Ending) (w' : World) : Prop := ∃ A1 c1 A2 c2 A c Vx Vh, e = .returned (.agg (wrC s A1 c1 A2 c2 A c Vx Vh)) ∧ RM w' s.m A1 c1 A2 c2 ∧ RC w' s.cs A c ∧ w'.ownsRow w.heap.size 3 1 Vx s.xs.length (ints s.xs) ∧ w'.ownsRow w.heap.size 54 3 Vh s.hs.length (hcs s.hs) ∧ (∀ b o, A1 = some ⟨b, o, none⟩ ∨ A2 = some ⟨b, o, none⟩ ∨ A = some ⟨b, o, none⟩ → w.heap.size ≤ b) ∧ Below w.heap.size w w'
/-- a slice of operations in memory -/
def Op10 (w : World) (A : Option Addr) (l : List OpV) : Prop := l = [] ∨ ∃ b o, A = some ⟨b, o, none⟩ ∧ b < w.heap.size ∧ ∀ i x, l[i]? = some x → x.Ok ∧ ∀ j v, x.cells[j]? = some v → w.cell? ⟨b, o + i * 9 + j, none⟩ = some v
theorem Op10.below {w w' : World} {B : Nat} {A : Option Addr} {l : List OpV} (h : Op10 w A l) (hb : Below B w w') (hB : B = w.heap.size) : Op10 w' A l := by
 subst hB
 rcases h with h | ⟨b, o, h1, h2, h3⟩
 ·exact .inl h
 ·exact .inr ⟨b, o, h1, Nat.lt_of_lt_of_le h2 hb.size, fun i x hx => ⟨(h3 i x hx).1, fun j v hv => (hb.cell (p := ⟨b, o + i * 9 + j, none⟩) h2).trans ((h3 i x hx).2 j v hv)⟩⟩
end
end Go.Proofs.Ytaijmgkjbbiboaa
