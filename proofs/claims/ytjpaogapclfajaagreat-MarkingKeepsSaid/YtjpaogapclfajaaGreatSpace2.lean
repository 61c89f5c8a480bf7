/- Package space: Store; what a function that writes leaves as it was. -/
import Derived.Test.YtjpaogapclfajaaGreatSpace
import Derived.StillTailTactics
namespace Go.Proofs.YtjpaogapclfajaaGreat
set_option linter.unusedVariables false
set_option linter.unusedSimpArgs false
set_option linter.unusedSectionVars false
open Go.RowKit Go.Sort
set_option maxRecDepth 100000

/-- w' is w but for the blocks of S and new ones -/
structure Kp (S : Nat → Prop) (w w' : World) : Prop where
  os : w'.os = w.os
  tape : w'.tape = w.tape
  output : w'.output = w.output
  size : w.heap.size ≤ w'.heap.size
  block : ∀ k, k < w.heap.size → ¬ S k → w'.heap[k]? = w.heap[k]?
section
variable {S T : Nat → Prop} {w w1 w2 : World}
theorem Kp.refl (S : Nat → Prop) (w : World) : Kp S w w := ⟨rfl, rfl, rfl, Nat.le_refl _, fun _ _ _ => rfl⟩
theorem Kp.of_below (h : Below w.heap.size w w1) : Kp S w w1 := ⟨h.os, h.tape, h.output, h.size, fun k hk _ => h.block k hk⟩
theorem Kp.of_grown {row : Option Nat} (h : w.grownBy w1 row) (hr : ∀ k, row = some k → S k) : Kp S w w1 := ⟨h.os, h.tape, h.output, h.size, fun k hk hn => h.block k hk fun e => hn (hr k e.symm)⟩
theorem Kp.mono (h : Kp S w w1) (hs : ∀ k, k < w.heap.size → S k → T k) : Kp T w w1 := ⟨h.os, h.tape, h.output, h.size, fun k hk hn => h.block k hk fun hS => hn (hs k hk hS)⟩
theorem Kp.trans (h : Kp S w w1) (h' : Kp T w1 w2) (hs : ∀ k, k < w.heap.size → T k → S k) : Kp S w w2 :=
  ⟨h'.os.trans h.os, h'.tape.trans h.tape, h'.output.trans h.output, Nat.le_trans h.size h'.size, fun k hk hn => (h'.block k (Nat.lt_of_lt_of_le hk h.size) fun hT => hn (hs k hk hT)).trans (h.block k hk hn)⟩
theorem Kp.toBelow {B : Nat} {w0 : World} (h : Kp S w w1) (hb : Below B w0 w) (hB : B ≤ w.heap.size) (hS : ∀ k, S k → B ≤ k) : Below B w0 w1 :=
  ⟨h.os.trans hb.os, h.tape.trans hb.tape, h.output.trans hb.output, Nat.le_trans hb.size h.size, fun k hk => (h.block k (Nat.lt_of_lt_of_le hk hB) fun hk' => by have := hS k hk'; omega).trans (hb.block k hk)⟩
theorem Kp.drew (h : Kp S w w1) : Kp S w w1.drew := ⟨h.os, h.tape, h.output, h.size, h.block⟩
theorem Kp.cell {a : Addr} {v : Value} (h : Kp S w w1) (hc : w.cell? a = some v) (hn : ¬ S a.block) : w1.cell? a = some v := by
  rw [World.cell?_of_block (h.block a.block (cell_lt hc) hn)]; exact hc
theorem Bk.kp {g : Nat} {t : TypeId} {cs : Array Value} (h : Bk w g t cs) (hk : Kp S w w1) (hn : ¬ S g) : Bk w1 g t cs := (hk.block g h.lt hn).trans h
theorem Kp.setCell (w : World) (a : Addr) (v : Value) (h : S a.block) : Kp S w (w.setCell a v) := ⟨rfl, rfl, rfl, by simp [World.setCell], fun k _ hn => Below.heap_setCell w a v k (fun e => hn (e ▸ h))⟩
end

theorem ownSetAt {w : World} {base : Nat} {e : TypeId} {n g o c i : Nat} {xs : List Value} (h : w.ownsRow base e 1 (.slice (some ⟨g, o, none⟩) n c) n xs) (hi : i < n) (v : Value) :
    (w.setCell ⟨g, o + i, none⟩ v).ownsRow base e 1 (.slice (some ⟨g, o, none⟩) n c) n (xs.set i v) := by
  obtain ⟨h1, h2 | ⟨g', cap, cur, hv, h3, h4, h5, h6, h7, h8⟩⟩ := h
  · cases h2.1
  · cases hv
    refine ⟨by simpa using h1, .inr ⟨g, c, cur.setIfInBounds i v, rfl, h3, ?_, h5, h6, by simpa using h7, ?_⟩⟩
    · have := (show Bk w g e cur from h4).set i v
      rw [Nat.zero_add]
      exact this
    · rw [Array.toList_setIfInBounds, ← h8]
      exact List.take_set
theorem SpR.put {w w' : World} {B g : Nat} {s : Spc} {V : Value} (h : SpR w B g s V) {x : Int} (hx : U64 x) {i : Nat} (hi : i < s.ws.length)
    (hhd : Bk w' g 115 #[.int .i64 s.base, .int .i64 s.limit, V]) (hown : w'.ownsRow B 51 1 V s.ws.length ((wds s.ws).set i (.int .u64 x))) : SpR w' B g { s with ws := s.ws.set i x } V := by
  refine ⟨hhd, ?_, h.ge, fun y hy => ?_, h.b0, by simpa using h.lim, h.l0⟩
  · have : wds (s.ws.set i x) = (wds s.ws).set i (.int .u64 x) := by simp [wds, List.map_set]
    simp only [List.length_set]
    rw [this]
    exact hown
  · rcases List.mem_or_eq_of_mem_set hy with h1 | h1
    · exact h.u y h1
    · rw [h1]; exact hx
theorem SpR.hd_ne {w : World} {B g : Nat} {s : Spc} {V : Value} (h : SpR w B g s V) : V.ownBlock ≠ some g := fun he => by
  obtain ⟨_, ⟨rfl, _⟩ | ⟨g', cap, cur, rfl, _, h4, _⟩⟩ := h.own
  · cases he
  · injection he with he
    subst he
    have h5 := h.hd
    unfold Bk at h5
    rw [h4] at h5
    cases h5

section
variable {w : World} {B g : Nat} {s : Spc} {V : Value}
set_option maxHeartbeats 1000000 in
theorem SStore_any (h : SpR w B g s V) (a : Int) {x : Int} (hx : U64 x) : Calls Tryz.prog 123 #[.pointer (some ⟨g, 0, none⟩), .int .i64 a, .int .u64 x] w fun e w' => e = .returned (.int .i64 (if s.has a = true then 0 else 2)) ∧ SpR w' B g (s.put a x) V ∧ Kp (fun k => V.ownBlock = some k) w w' := by
  have cC := Contains_any h a
  unfold Spc.put
  cases hh : s.has a with
  | false =>
    simp only [hh, Bool.false_eq_true, if_false] at cC ⊢
    have H := Lib.hid h
    clear hh h
    go_enter Tryz.func123, Tryz.ntmps123
    go_wp2_with fail
    refine cC.mono ?_
    rintro e w1 ⟨rfl, hb⟩
    have HB := Lib.hid hb
    clear hb
    go_wp2_with fail
    go_ret
    exact ⟨rfl, H.out.below HB.out, Kp.of_below HB.out⟩
  | true =>
    obtain ⟨i, hi, hil, x0, hx0, hat⟩ := Spc.at_some hh
    simp only [hh, if_true] at cC ⊢
    have hne := Lib.hid h.hd_ne
    obtain ⟨A, c, rfl, hle⟩ := own_shape h.own
    obtain ⟨b, cap, hV, _, hBb, hbl, hsl⟩ := ownSls h.own (by omega)
    cases hV
    have hcell : w.cell? ⟨b, 0 + i, none⟩ = some (.int .u64 x0) := by
      obtain ⟨b', o', hA, _, hc⟩ := hsl.get hil
      cases hA
      exact hc i _ (wds_get hx0)
    have b0 := h.b0
    have b1 := h.lim
    have b2 := h.l0
    have H := Lib.hid h
    have HC := Lib.hid hcell
    have HX := Lib.hid hx
    obtain rfl : a = s.base + i := by omega
    have hti : (s.base + (i : Int) - s.base).toNat = i := by omega
    rw [hti]
    have hw : IntKind.i64.wrap (s.base + (i : Int) - s.base) = (i : Int) := by
      rw [show s.base + (i : Int) - s.base = i by omega]; exact IntWalk.i64_in _ (by omega)
    have hw2 : s.base + (i : Int) - s.base = (i : Int) := by omega
    have hw3 : IntKind.i64.wrap (i : Int) = (i : Int) := IntWalk.i64_in _ (by omega)
    have i0 : (0 : Int) ≤ (i : Int) := by omega
    have i1 : (i : Int) < (s.ws.length : Int) := by omega
    have i2 : (s.ws.length : Int) ≤ (c : Int) := by omega
    clear h hh hat hcell hi hx0 hsl hx hti
    go_enter Tryz.func123, Tryz.ntmps123
    go_wp2_with fail
    refine cC.mono ?_
    rintro e w1 ⟨rfl, hb⟩
    have HB := Lib.hid hb
    have h1 := H.out.below hb
    have H1 := Lib.hid h1
    have c0 : w1.cell? ⟨g, 0, none⟩ = some (.int .i64 s.base) := h1.hd.cell 0
    have c2 : w1.cell? ⟨g, 2, none⟩ = some (.slice (some ⟨b, 0, none⟩) s.ws.length c) := h1.hd.cell 2
    have cx : w1.cell? ⟨b, 0 + i, none⟩ = some (.int .u64 x0) := ((bcell hb).1 _ _ hbl).trans HC.out
    have cx2 : w1.cell? ⟨b, i, none⟩ = some (.int .u64 x0) := by rw [Nat.zero_add] at cx; exact cx
    have cf : w1.frozen? ⟨b, i, none⟩ = false := by
      obtain ⟨_, ⟨h2, _⟩ | ⟨g', cap, cur, hv, _, h4, _⟩⟩ := h1.own
      · cases h2
      · cases hv
        exact (show Bk w1 b _ cur from h4).free i
    clear hb h1 cx
    go_wp2_with fail
    go_still_tail 12, (by kernel_rfl)
    change wpList _ _ _ _ _ w1.drew
    go_wp2_with fail
    go_ret
    have hne' : b ≠ g := fun e => hne.out (by rw [e]; rfl)
    refine ⟨rfl, ?_, ?_⟩
    · refine SpR.put (H1.out.below (below_drewN (Below.refl _ _) 1)) HX.out hil ?_ ?_
      · exact Bk.far (H1.out.hd) (Ne.symm hne') _
      · have := ownSetAt (H1.out.own) hil (.int .u64 x)
        rw [Nat.zero_add] at this
        exact this
    · exact ((Kp.of_below HB.out).trans (Kp.setCell (S := fun k => (Value.slice (some ⟨b, 0, none⟩) s.ws.length c).ownBlock = some k) w1 ⟨b, i, none⟩ (.int .u64 x) rfl) fun k _ hk => hk).drew
end
end Go.Proofs.YtjpaogapclfajaaGreat
