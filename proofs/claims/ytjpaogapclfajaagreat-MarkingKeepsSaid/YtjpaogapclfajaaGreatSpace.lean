/- Package space: a space of words in memory; Top, Contains, Load, Store. -/
import Derived.Test.YtjpaogapclfajaaGreatHdr
import Derived.Test.YtjpaogapclfajaaGreatSep
import Derived.Test.YtjpaogapclfajaaGreatMemP
import Derived.BigQuiet
import Derived.Deep.QuietTactic
import Derived.Deep.RegionHeld3
namespace Go.Proofs.YtjpaogapclfajaaGreat
set_option linter.unusedVariables false
set_option linter.unusedSimpArgs false
set_option linter.unusedSectionVars false
open Go.RowKit Go.Sort
set_option maxRecDepth 100000

def wds (l : List Int) : List Value := l.map (Value.int .u64)
theorem wds_length (l : List Int) : (wds l).length = l.length := by simp [wds]
theorem wds_get {l : List Int} {i : Nat} {x : Int} (h : l[i]? = some x) : (wds l)[i]? = some (.int .u64 x) := by simp [wds, h]
/-- the space s lies behind the pointer to block g, its words in a row of blocks from B on -/
structure SpR (w : World) (B g : Nat) (s : Spc) (V : Value) : Prop where
  hd : Bk w g 115 #[.int .i64 s.base, .int .i64 s.limit, V]
  own : w.ownsRow B 51 1 V s.ws.length (wds s.ws)
  ge : B ≤ g
  u : ∀ x ∈ s.ws, U64 x
  b0 : 0 ≤ s.base
  lim : s.base + s.ws.length ≤ s.limit
  l0 : s.limit ≤ 4294967296
theorem SpR.below {w w' : World} {B g : Nat} {s : Spc} {V : Value} (h : SpR w B g s V) (hb : Below w.heap.size w w') : SpR w' B g s V :=
  ⟨h.hd.below hb h.hd.lt, own_local h.own fun k hk => hb.block k (h.own.lt k hk).2, h.ge, h.u, h.b0, h.lim, h.l0⟩
theorem SpR.ok {w : World} {B g : Nat} {s : Spc} {V : Value} (h : SpR w B g s V) : s.Ok := ⟨h.u, h.b0, h.lim, h.l0⟩

section
variable {w : World} {B g : Nat} {s : Spc} {V : Value}
theorem Top_any (h : SpR w B g s V) : Calls Tryz.prog 19 #[.pointer (some ⟨g, 0, none⟩)] w fun e w' => e = .returned (.int .i64 s.top) ∧ Below w.heap.size w w' := by
  obtain ⟨A, c, rfl, hle⟩ := own_shape h.own
  have c0 : w.cell? ⟨g, 0, none⟩ = some (.int .i64 s.base) := h.hd.cell 0
  have c2 : w.cell? ⟨g, 2, none⟩ = some (.slice A s.ws.length c) := h.hd.cell 2
  have b0 := h.b0
  have b1 := h.lim
  have b2 := h.l0
  have hw : IntKind.i64.wrap (s.base + (s.ws.length : Int)) = s.base + (s.ws.length : Int) := IntWalk.i64_in _ (by omega)
  clear h
  unfold Spc.top
  go_enter Tryz.func19, Tryz.ntmps19
  go_wp2_with fail
  go_quiet (fail)
  go_wp2_with fail
  go_ret
  exact ⟨rfl, below_drewN (Below.refl _ _) _⟩
theorem Contains_any (h : SpR w B g s V) (a : Int) : Calls Tryz.prog 94 #[.pointer (some ⟨g, 0, none⟩), .int .i64 a] w fun e w' => e = .returned (.bool (s.has a)) ∧ Below w.heap.size w w' := by
  have c0 : w.cell? ⟨g, 0, none⟩ = some (.int .i64 s.base) := h.hd.cell 0
  have cT := Top_any h
  unfold Spc.top at cT
  clear h
  by_cases h0 : s.base ≤ a
  · have hk : Hid (s.has a = decide (a < s.base + (s.ws.length : Int))) := Lib.hid (by unfold Spc.has; simp [h0])
    go_enter Tryz.func94, Tryz.ntmps94
    go_wp2_with fail
    refine cT.mono ?_
    rintro e w1 ⟨rfl, hb⟩
    have HB := Lib.hid hb
    clear hb
    go_wp2_with fail
    go_ret
    exact ⟨ret_bool hk.out.symm, HB.out⟩
  · have hk : Hid (s.has a = false) := Lib.hid (decide_eq_false (by omega))
    have h1 : a < s.base := by omega
    go_enter Tryz.func94, Tryz.ntmps94
    go_wp2_with fail
    go_ret
    exact ⟨ret_bool hk.out.symm, Below.refl _ _⟩
def ldV (s : Spc) (a : Int) : Value := match s.at_ a with | some x => .tuple #[.int .u64 x, .int .i64 0] | none => .tuple #[.int .u64 0, .int .i64 2]
set_option maxHeartbeats 1000000 in
theorem SLoad_any (h : SpR w B g s V) (a : Int) : Calls Tryz.prog 47 #[.pointer (some ⟨g, 0, none⟩), .int .i64 a] w fun e w' => e = .returned (ldV s a) ∧ Below w.heap.size w w' := by
  have cC := Contains_any h a
  unfold ldV
  cases hh : s.has a with
  | false =>
    rw [Spc.at_none hh]
    simp only [hh] at cC ⊢
    clear hh h
    go_enter Tryz.func47, Tryz.ntmps47
    go_wp2_with fail
    refine cC.mono ?_
    rintro e w1 ⟨rfl, hb⟩
    have HB := Lib.hid hb
    clear hb
    go_wp2_with fail
    go_ret2
    exact ⟨rfl, HB.out⟩
  | true =>
    obtain ⟨i, hi, hil, x, hx, hat⟩ := Spc.at_some hh
    rw [hat]
    simp only [hh] at cC ⊢
    obtain ⟨A, c, rfl, hle⟩ := own_shape h.own
    obtain ⟨b, o, rfl, hbl, hcells⟩ := (own_sl h.own).get hil
    have b0 := h.b0
    have b1 := h.lim
    have b2 := h.l0
    have H := Lib.hid h
    have HC := Lib.hid (hcells i _ (wds_get hx))
    obtain rfl : a = s.base + i := by omega
    have hw : IntKind.i64.wrap (s.base + (i : Int) - s.base) = (i : Int) := by
      rw [show s.base + (i : Int) - s.base = i by omega]; exact IntWalk.i64_in _ (by omega)
    have hw2 : s.base + (i : Int) - s.base = (i : Int) := by omega
    have hw3 : IntKind.i64.wrap (i : Int) = (i : Int) := IntWalk.i64_in _ (by omega)
    have i0 : (0 : Int) ≤ (i : Int) := by omega
    have i1 : (i : Int) < (s.ws.length : Int) := by omega
    have i2 : (s.ws.length : Int) ≤ (c : Int) := by omega
    clear h hh hat hcells hi hx
    go_enter Tryz.func47, Tryz.ntmps47
    go_wp2_with fail
    refine cC.mono ?_
    rintro e w1 ⟨rfl, hb⟩
    have HB := Lib.hid hb
    have h1 := H.out.below hb
    have c0 : w1.cell? ⟨g, 0, none⟩ = some (.int .i64 s.base) := h1.hd.cell 0
    have c2 : w1.cell? ⟨g, 2, none⟩ = some (.slice (some ⟨b, o, none⟩) s.ws.length c) := h1.hd.cell 2
    have cx : w1.cell? ⟨b, o + i, none⟩ = some (.int .u64 x) := ((bcell hb).1 _ _ hbl).trans HC.out
    clear hb h1
    go_wp2_with fail
    go_quiet (fail)
    go_wp2_with fail
    go_ret2
    exact ⟨rfl, below_drewN HB.out _⟩
end
end Go.Proofs.YtjpaogapclfajaaGreat
