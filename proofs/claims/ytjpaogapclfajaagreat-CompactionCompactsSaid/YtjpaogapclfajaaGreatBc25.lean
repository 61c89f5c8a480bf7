/- Parts of the proof: Trunc, Rebld, CmpQ, R12p. -/
import Derived.RangeFuncNested
import Derived.Test.YtjpaogapclfajaaGreatBcA
import Derived.Test.YtjpaogapclfajaaGreatBc18
import Derived.Test.YtjpaogapclfajaaGreatBc22
import Derived.Test.YtjpaogapclfajaaGreatBc24
import Derived.Test.YtjpaogapclfajaaGreatBc4
set_option linter.unusedVariables false
set_option linter.unusedSimpArgs false
set_option linter.unusedSectionVars false
namespace Go.Proofs.YtjpaogapclfajaaGreat
open Go.RowKit Go.Sort Go.Shelf
attribute [local go_sem] Oper.semAt_some
set_option maxRecDepth 100000
theorem ownsRow_zero {w : World} {base : Nat} {e : TypeId} {size g cap n : Nat} {xs : List Value} (h : w.ownsRow base e size (.slice (some ⟨g, 0, none⟩) n cap) n xs) : w.ownsRow base e size (.slice (some ⟨g, 0, none⟩) 0 cap) 0 [] := by
 obtain ⟨_, h2⟩ := h
 rcases h2 with ⟨h0, _⟩ | ⟨g', cap', cur, hv, hg, hh, hn, hcap, hsz, htake⟩
 ·cases h0
 ·cases hv
  exact ⟨by simp, .inr ⟨g, cap, cur, rfl, hg, hh, by omega, hcap, hsz, by simp⟩⟩
theorem row_ne {W : World} {row : Option Nat} {B k : Nat} {t : TypeId} {cs : Array Value} (h : Bk W k t cs) (hr : ∀ r, row = some r → B ≤ r ∧ ∃ o : Obj, W.heap[r]? = some o ∧ o.isCells = false) : some k ≠ row := fun e => by
 obtain ⟨_, o, ho, hc⟩ := hr _ e.symm
 unfold Bk at h
 rw [h] at ho
 cases ho
 cases hc
theorem ownF_bk {β : Type} {B k : Nat} {t : TypeId} {cs : Array Value} : OwnFrom B (fun (_ : β) W => Bk W k t cs) := fun s W W' row hs hg hr => hs.grown hg (row_ne hs hr)
theorem ownF_spr {β : Type} {B Bs g : Nat} {s : Spc} {V : Value} : OwnFrom B (fun (_ : β) W => SpR W Bs g s V) := fun x W W' row hs hg hr => hs.grown hg (row_ne hs.hd hr) fun k hk => by
 obtain ⟨cur, hc⟩ := hs.own_cells hk
 exact row_ne hc hr
theorem ownF_kp {β : Type} {B : Nat} {S : Nat → Prop} {w : World} (hB : w.heap.size ≤ B) : OwnFrom B (fun (_ : β) W => Kp S w W) := fun x W W' row hs hg hr =>
 ⟨hg.os.trans hs.os, hg.tape.trans hs.tape, hg.output.trans hs.output, Nat.le_trans hs.size hg.size, fun k hk hn => (hg.block k (Nat.lt_of_lt_of_le hk hs.size) fun e => by have := (hr _ e.symm).1; omega).trans (hs.block k hk hn)⟩
theorem ownF_const {β : Type} {B : Nat} {p : β → Prop} : OwnFrom B (fun x (_ : World) => p x) := fun _ _ _ _ hs _ _ => hs
/-- what Truncate at the base leaves -/
def TruP (w : World) (B g : Nat) (s : Spc) (V : Value) (e : Ending) (w' : World) : Prop :=
 e = .returned (.int .i64 0) ∧ ∃ V', SpR w' B g { s with ws := [] } V' ∧ (∀ k, V'.ownBlock = some k → V.ownBlock = some k) ∧ Kp (fun k => k = g) w w'
section
variable {w : World} {B g : Nat} {s : Spc} {V : Value}
set_option maxHeartbeats 4000000 in
theorem Truncate_in (n : Nat) (hn : 5 ≤ n) (h : SpR w B g s V) (h0 : s.size 0 ≠ 0) :
  CallsIn Fence.wide n Tryz.prog 126 #[.pointer (some ⟨g, 0, none⟩), .int .i64 s.base] w (TruP w B g s V) := by
 have h1 : 1 ≤ n := by omega
 have hl1 := h.lim
 have hl2 := h.l0
 have hl0 := h.b0
 have hgl := h.hd.lt
 have hvl : ∀ k, V.ownBlock = some k → k < w.heap.size := fun k hk => (h.own.lt k hk).2
 have hws : 0 < s.ws.length := by
  have := s.size_le 0
  omega
 obtain ⟨bb, cap, rfl, hcap, hBb, hbl, hsl⟩ := ownSls h.own hws
 have hfirst : ∃ r, s.rst 0 = (s.base, true) :: r := ⟨s.rst (0 + s.size 0), by rw [s.rst_pos h0]; simp⟩
 refine callsIn_of_wp_marks Tryz.func126 rfl trivial ?_ rfl
 simp only [Tryz.ntmps126, List.size_toArray, List.length_cons, List.length_nil, Nat.reduceAdd, Nat.reduceSub, Array.replicate_succ, Array.replicate_zero, List.push_toArray, List.append_toArray, List.nil_append, List.cons_append]
 gi_wp2_with fail
 refine ⟨trivial, (toW (walk_any g _)).mono ?_⟩
 rintro e w' ⟨rfl, rfl⟩
 gi_wp2_with fail
 have hB0 : Below w.heap.size w ((((w.alloc (.cells #[.pointer (some ⟨g, 0, none⟩)] 25)).alloc (.cells #[.int .i64 s.base] 3)).alloc (.cells #[.int .i64 0] 37)).alloc (.cells #[.pointer (some ⟨g, 0, none⟩)] 25)) := ((((Below.refl _ w).alloc (Nat.le_refl _) _).alloc (by simp) _).alloc (by simp; omega) _).alloc (by simp; omega) _
 have hK2 : Bk ((((w.alloc (.cells #[.pointer (some ⟨g, 0, none⟩)] 25)).alloc (.cells #[.int .i64 s.base] 3)).alloc (.cells #[.int .i64 0] 37)).alloc (.cells #[.pointer (some ⟨g, 0, none⟩)] 25)) w.heap.size 25 #[.pointer (some ⟨g, 0, none⟩)] := (((Bk.here _ _ _ (by simp)).alloc _).alloc _).alloc _
 have hK3 : Bk ((((w.alloc (.cells #[.pointer (some ⟨g, 0, none⟩)] 25)).alloc (.cells #[.int .i64 s.base] 3)).alloc (.cells #[.int .i64 0] 37)).alloc (.cells #[.pointer (some ⟨g, 0, none⟩)] 25)) (w.heap.size + 1) 3 #[.int .i64 s.base] := ((Bk.here _ _ _ (by simp)).alloc _).alloc _
 have hK4 : Bk ((((w.alloc (.cells #[.pointer (some ⟨g, 0, none⟩)] 25)).alloc (.cells #[.int .i64 s.base] 3)).alloc (.cells #[.int .i64 0] 37)).alloc (.cells #[.pointer (some ⟨g, 0, none⟩)] 25)) (w.heap.size + 1 + 1) 37 #[.int .i64 0] := (Bk.here _ _ _ (by simp)).alloc _
 have hK5 : Bk ((((w.alloc (.cells #[.pointer (some ⟨g, 0, none⟩)] 25)).alloc (.cells #[.int .i64 s.base] 3)).alloc (.cells #[.int .i64 0] 37)).alloc (.cells #[.pointer (some ⟨g, 0, none⟩)] 25)) (w.heap.size + 1 + 1 + 1) 25 #[.pointer (some ⟨g, 0, none⟩)] := Bk.here _ _ _ (by simp)
 generalize ((((w.alloc (.cells #[.pointer (some ⟨g, 0, none⟩)] 25)).alloc (.cells #[.int .i64 s.base] 3)).alloc (.cells #[.int .i64 0] 37)).alloc (.cells #[.pointer (some ⟨g, 0, none⟩)] 25)) = w4 at hB0 hK2 hK3 hK4 hK5 ⊢
 have hs4 := h.below hB0
 have hz4 := hK5.lt
 refine wpIn_rangeFunc_ownG rfl h1 (gf := 127) (lb := #[.pointer (some ⟨w.heap.size + 1 + 1 + 1, 0, none⟩)]) rfl trivial (enters_of Tryz.func127 (by kernel_rfl) rfl)
  (walk_stops (n - 1) (by omega) _ ⟨hs4, hK5⟩) (fun h k hx => k (h hx)) (fun W l o o' hl ho hc _ hq => hq.putObj ho hc) (Below.refl _ _) (fun x => by unfold enc2; rfl)
  (fun pre W => (((∀ x ∈ pre, x.1 = s.base → x.2 = false) ∧ Bk W (w.heap.size + 1 + 1) 37 #[.int .i64 0]) ∧ Bk W w.heap.size 25 #[.pointer (some ⟨g, 0, none⟩)]) ∧ (Bk W (w.heap.size + 1) 3 #[.int .i64 s.base] ∧ Bk W (w.heap.size + 1 + 1 + 1) 25 #[.pointer (some ⟨g, 0, none⟩)]) ∧ Below w.heap.size w W)
  (fun c _ W => (c = .ret ∧ Bk W (w.heap.size + 1 + 1) 37 #[.int .i64 0]) ∧ SpR W B g { s with ws := [] } (.slice (some ⟨bb, 0, none⟩) 0 cap) ∧ Kp (fun k => k = g) w W)
  (OwnFrom.and (OwnFrom.and (OwnFrom.and ownF_const ownF_bk) ownF_bk) (OwnFrom.and (OwnFrom.and ownF_bk ownF_bk) (ownFrom_below (Nat.le_refl _) (by omega))))
  (fun c => OwnFrom.and (OwnFrom.and (ownF_const (p := fun _ => c = .ret)) ownF_bk) (OwnFrom.and ownF_spr (ownF_kp (by omega))))
  ⟨⟨⟨(fun x hx => by cases hx), hK4⟩, hK2⟩, ⟨hK3, hK5⟩, hB0⟩
  (fun x => { tmps := #[.pointer (some ⟨g, 0, none⟩), .int .i64 s.base, .pointer (some ⟨w.heap.size, 0, none⟩), .pointer (some ⟨w.heap.size + 1, 0, none⟩), .pointer (some ⟨w.heap.size + 1 + 1, 0, none⟩), .int .i64 x.1, .bool x.2, .pointer (some ⟨g, 0, none⟩), .func (.func 127) #[] #[.pointer (some ⟨w.heap.size + 1 + 1 + 1, 0, none⟩)], .int .i64 x.1, .bool x.2, undef, undef, undef, undef, undef, undef, undef, undef, undef, undef, undef, undef, undef, undef, undef, undef, undef, undef, undef, undef, undef, undef, undef, undef, undef, undef], defers := [] }) ?assign ?body ?done ?stop
 case assign =>
  intro l x W K hK
  unfold enc2
  gi_wp2
  exact hK
 case body =>
  rintro l pre ⟨a, b⟩ W ⟨⟨⟨hpre, hb4⟩, hb2⟩, ⟨hb3, hb5⟩, hB⟩ hlt
  have c2 := hb2.cell 0
  have c3 := hb3.cell 0
  have c4 := hb4.cell 0
  simp only [List.getElem?_toArray, List.getElem?_cons_zero] at c2 c3 c4
  have hsW := h.below hB
  by_cases hab : a = s.base
  ·subst hab
   have cT := (toW (n := n - 1 - 1 - 1) (Top_any hsW)).inRound l
   have s0 := hsW.hd.cell 0
   have s2 := hsW.hd.cell 2
   have f2 := hsW.hd.free 2
   simp only [List.getElem?_toArray, List.getElem?_cons_zero, List.getElem?_cons_succ] at s0 s2
   have hw0 : IntKind.i64.wrap 0 = 0 := rfl
   have hc0 : (0 : Int) ≤ (cap : Int) := by omega
   have hsub : IntKind.i64.wrap (s.base - s.base) = 0 := by rw [Int.sub_self]; rfl
   cases b with
   | true =>
    gi_wp2_with (refine wpListIn_pass (fun _ => trivial) rfl ?_)
    refine wpIn_still_tail 12 (by kernel_rfl) (by kernel_rfl) (by rfl) ?_
    simp only [List.take_succ_cons, List.take_zero, List.drop_succ_cons, List.drop_zero]
    repeat still_step
    try refine wpStill_nil ?_
    change wpList _ _ _ _ _ W.drew
    go_wp2_with fail
    refine ⟨rfl, ?_⟩
    have c6 : ((W.setCell ⟨g, 2, none⟩ (.slice (some ⟨bb, 0, none⟩) 0 cap)).drew).cell? ⟨w.heap.size + 1 + 1, 0, none⟩ = some (.int .i64 0) := (hb4.far (p := ⟨g, 2, none⟩) (by show w.heap.size + 1 + 1 ≠ g; omega) _).cell 0
    have f6 : ((W.setCell ⟨g, 2, none⟩ (.slice (some ⟨bb, 0, none⟩) 0 cap)).drew).frozen? ⟨w.heap.size + 1 + 1, 0, none⟩ = false := (hb4.far (p := ⟨g, 2, none⟩) (by show w.heap.size + 1 + 1 ≠ g; omega) _).free 0
    gi_wp2_with fail
    have hbg : bb ≠ g := fun e => hsW.hd_ne (by rw [e]; rfl)
    refine ⟨⟨by simp [World.setCell, World.drew], fun k o hk ho _ => ?_⟩, ⟨rfl, ?_⟩, ⟨?_, ?_, hsW.ge, (fun x hx => by cases hx), hsW.b0, (by show s.base + ((0 : Nat) : Int) ≤ s.limit; omega), hsW.l0⟩, ?_⟩
    ·have hkl : k < W.heap.size := (Array.getElem?_eq_some_iff.1 ho).1
     exact (Below.heap_setCell (W.setCell ⟨g, 2, none⟩ (.slice (some ⟨bb, 0, none⟩) 0 cap)) ⟨w.heap.size + 1 + 1, 0, none⟩ (.int .i64 0) k (by show k ≠ w.heap.size + 1 + 1; omega)).trans ((Below.heap_setCell W ⟨g, 2, none⟩ _ k (by show k ≠ g; omega)).trans ho)
    ·exact (hb4.far (p := ⟨g, 2, none⟩) (by show w.heap.size + 1 + 1 ≠ g; omega) _).set 0 _
    ·exact (hsW.hd.set 2 (.slice (some ⟨bb, 0, none⟩) 0 cap)).far (p := ⟨w.heap.size + 1 + 1, 0, none⟩) (by show g ≠ w.heap.size + 1 + 1; omega) _
    ·refine own_local (ownsRow_zero hsW.own) fun k hk => ?_
     cases hk
     exact (Below.heap_setCell (W.setCell ⟨g, 2, none⟩ (.slice (some ⟨bb, 0, none⟩) 0 cap)) ⟨w.heap.size + 1 + 1, 0, none⟩ (.int .i64 0) bb (by show bb ≠ w.heap.size + 1 + 1; omega)).trans (Below.heap_setCell W ⟨g, 2, none⟩ _ bb hbg)
    ·refine (((Kp.of_below (S := fun k => k = g) (Below.refl _ w)).trans (T := fun k => k = g) (w1 := w) ?_ fun _ _ e => e))
     have k1 := (Kp.setCell (S := fun k => k = g ∨ k = w.heap.size + 1 + 1) W ⟨g, 2, none⟩ (.slice (some ⟨bb, 0, none⟩) 0 cap) (.inl rfl)).drew
     have k2 := k1.trans (Kp.setCell (S := fun k => k = g ∨ k = w.heap.size + 1 + 1) _ ⟨w.heap.size + 1 + 1, 0, none⟩ (.int .i64 0) (.inr rfl)) fun _ _ e => e
     have k3 : Kp (fun k => k = g) w W := ⟨hB.os, hB.tape, hB.output, hB.size, fun k hk _ => hB.block k hk⟩
     exact k3.trans k2 fun k hk e => e.resolve_right (by omega)
   | false =>
    have e2 : (s.base == s.top) = false := by simp [Spc.top]; omega
    gi_wp2_with (refine wpListIn_pass (fun _ => trivial) rfl ?_)
    refine ⟨trivial, nofun, cT.mono ?_⟩
    rintro e W2 ⟨rfl, hbT⟩
    gi_wp2_with fail
    exact ⟨(KeepsOthers.of_grownBy (grownBy_of_below hbT) (fun _ _ e => by cases e)).from _, fun hq => hq.below hbT, ⟨⟨fun x hx he => by
     rcases List.mem_append.1 hx with hx | hx
     ·exact hpre x hx he
     ·rw [List.mem_singleton.1 hx], hb4.below hbT hb4.lt⟩, hb2.below hbT hb2.lt⟩, ⟨hb3.below hbT hb3.lt, hb5.below hbT hb5.lt⟩, hB.trans (hbT.mono hB.size)⟩
  ·have e1 : (a == s.base) = false := by simp [hab]
   gi_wp2_with (refine wpListIn_pass (fun _ => trivial) rfl ?_)
   exact ⟨KeepsFrom.refl _ _, fun hq => hq, ⟨⟨fun x hx he => by
    rcases List.mem_append.1 hx with hx | hx
    ·exact hpre x hx he
    ·rw [List.mem_singleton.1 hx] at he
     exact absurd he hab, hb4⟩, hb2⟩, ⟨hb3, hb5⟩, hB⟩
 case done =>
  rintro D ys W hD rfl ⟨⟨⟨hpre, hb4⟩, hb2⟩, ⟨hb3, hb5⟩, hB⟩ hK
  obtain ⟨r, hr⟩ := hfirst
  have := hpre (s.base, true) (by rw [hr]; exact List.mem_cons_self ..) rfl
  cases this
 case stop =>
  rintro D c pre W hD hSp ⟨⟨rfl, hb4⟩, hsp, hkp⟩ hK
  have c4 := hb4.cell 0
  simp only [List.getElem?_toArray, List.getElem?_cons_zero] at c4
  gi_wp2
  refine ⟨by simp, .inl ⟨_, _, rfl, run_takeDeferred hK, ?_⟩⟩
  have hno : ∀ {k : Nat} {t : TypeId} {cs : Array Value}, Bk W k t cs → some k ≠ some D := fun {k t cs} hk e => by
   injection e with e
   unfold Bk at hk
   rw [e, hK] at hk
   cases hk
  have hg := grownBy_putObj' W D (.deferred none)
  have c5 : (W.putObj D (.deferred none)).cell? ⟨w.heap.size + 1 + 1, 0, none⟩ = some (.int .i64 0) := (hb4.grown hg (hno hb4)).cell 0
  refine ⟨.int .i64 0, by simp [results, Tryz.results126, go_sem, c5], rfl, .slice (some ⟨bb, 0, none⟩) 0 cap, ?_, fun k hk => hk, ?_⟩
  ·refine hsp.grown hg (hno hsp.hd) fun k hk => ?_
   obtain ⟨cur, hc⟩ := hsp.own_cells hk
   exact hno hc
  ·exact ⟨hg.os.trans hkp.os, hg.tape.trans hkp.tape, hg.output.trans hkp.output, Nat.le_trans hkp.size hg.size, fun k hk hn => (hg.block k (Nat.lt_of_lt_of_le hk hkp.size) fun e => by injection e with e; omega).trans (hkp.block k hk hn)⟩
theorem Truncate_base (h : SpR w B g s V) (h0 : s.size 0 ≠ 0) : Calls Tryz.prog 126 #[.pointer (some ⟨g, 0, none⟩), .int .i64 s.base] w (TruP w B g s V) := callsIn_wide.1 (Truncate_in 5 (by omega) h h0)
end
end Go.Proofs.YtjpaogapclfajaaGreat
namespace Go.Proofs.YtjpaogapclfajaaGreat
open Go.RowKit Go.Maps
attribute [local go_sem] Oper.semAt_some
set_option maxRecDepth 100000
/-- an object that has moved, and the value that holds its payload -/
structure Mv where
 h : Hdr
 i : Id
 p : List Int
 v : Value
def Mv.cells (x : Mv) : List Value := [.int .i64 x.h.k, .int .i64 x.h.c, .int .i64 x.h.f, .int .i64 x.i.m, .int .i64 x.i.s, x.v]
def Mv.words (x : Mv) : List Int := [eH x.h, eI x.i] ++ x.p
structure Mv.Ok (x : Mv) : Prop where
 h : vH x.h = true
 i : vI x.i = true
 l : (x.p.length : Int) = wH x.h - 2
 u : ∀ y ∈ x.p, U64 y
theorem Mv.Ok.len {x : Mv} (h : x.Ok) : (x.words.length : Int) = wH x.h := by
 have := h.l
 unfold Mv.words
 simp only [List.length_append, List.length_cons, List.length_nil]
 omega
/-- the payloads lie in memory, in blocks from Lo on -/
def MvR (w : World) (Lo : Nat) (L : List Mv) : Prop := ∀ x ∈ L, w.ownsRow Lo 51 1 x.v x.p.length (wds x.p)
theorem MvR.kp {S : Nat → Prop} {w w' : World} {Lo : Nat} {L : List Mv} (h : MvR w Lo L) (hk : Kp S w w') (hn : ∀ x ∈ L, ∀ k, x.v.ownBlock = some k → ¬ S k) : MvR w' Lo L :=
 fun x hx => own_local (h x hx) fun k hk' => hk.block k ((h x hx).lt k hk').2 (hn x hx k hk')
theorem alloc_ok {s : Spc} {h : Hdr} {i : Id} (hv : vH h = true) (hi : vI i = true) (hl : wH h ≤ s.limit - s.top) : s.alloc h i = (0, { s with ws := s.ws ++ ([eH h, eI i] ++ List.replicate (wH h - 2).toNat 0) }, s.top) := by
 unfold Spc.alloc
 rw [if_neg (by rw [hv, hi]; simp), if_neg (by omega)]
/-- the space with a payload that is filled up to m -/
def fillS (s : Spc) (pre : List Int) (x : Mv) (m : Nat) : Spc := { s with ws := pre ++ ([eH x.h, eI x.i] ++ (x.p.take m ++ List.replicate (x.p.length - m) 0)) }
theorem fillS_zero (s : Spc) (pre : List Int) (x : Mv) (hl : (x.p.length : Int) = wH x.h - 2) : fillS s pre x 0 = { s with ws := pre ++ ([eH x.h, eI x.i] ++ List.replicate (wH x.h - 2).toNat 0) } := by
 unfold fillS
 rw [show (wH x.h - 2).toNat = x.p.length by omega]
 simp
theorem fillS_len (s : Spc) (pre : List Int) (x : Mv) : fillS s pre x x.p.length = { s with ws := pre ++ x.words } := by
 unfold fillS Mv.words
 simp
theorem fillS_put {s : Spc} {pre : List Int} {x : Mv} {m : Nat} {y : Int} (hy : x.p[m]? = some y) : (fillS s pre x m).put (s.base + (pre.length : Int) + 2 + (m : Int)) y = fillS s pre x (m + 1) := by
 obtain ⟨hm, rfl⟩ := List.getElem?_eq_some_iff.1 hy
 have hh : (fillS s pre x m).has (s.base + (pre.length : Int) + 2 + (m : Int)) = true := by
  refine Spc.has_iff.2 ⟨by show s.base ≤ _; omega, ?_⟩
  show _ < s.base + ((pre ++ ([eH x.h, eI x.i] ++ (x.p.take m ++ List.replicate (x.p.length - m) 0))).length : Int)
  simp only [List.length_append, List.length_cons, List.length_nil, List.length_take, List.length_replicate]
  omega
 unfold Spc.put
 rw [if_pos hh]
 unfold fillS
 dsimp only
 rw [show (s.base + (pre.length : Int) + 2 + (m : Int) - s.base).toNat = pre.length + (2 + m) by omega]
 congr 1
 rw [List.set_append_right _ _ (by omega), Nat.add_sub_cancel_left, List.set_append_right _ _ (by simp), show 2 + m - [eH x.h, eI x.i].length = m by simp, List.set_append_right _ _ (by simp; omega), List.length_take, Nat.min_eq_left (Nat.le_of_lt hm), Nat.sub_self,
  show x.p.length - m = (x.p.length - (m + 1)) + 1 by omega, List.replicate_succ, List.set_cons_zero, List.take_add_one, List.getElem?_eq_getElem hm]
 simp only [Option.toList_some, List.append_assoc, List.singleton_append, List.cons_append, List.nil_append]
/-- the stub at the base -/
def stubH : Hdr := ⟨3, 0, 0⟩
def stubI : Id := ⟨1, 1⟩
theorem stub_size {s : Spc} (h : 4 ≤ s.ws.length) : ((s.put s.base (eH stubH)).put (s.base + 1) (eI stubI)).size 0 ≠ 0 := by
 have h0 : s.has s.base = true := Spc.has_iff.2 ⟨by omega, by omega⟩
 have h1 : (s.put s.base (eH stubH)).has (s.base + 1) = true := by rw [Spc.put_has]; exact Spc.has_iff.2 ⟨by omega, by omega⟩
 have e0 : (s.put s.base (eH stubH)).ws = s.ws.set 0 (eH stubH) := by unfold Spc.put; rw [if_pos h0]; simp
 have e1 : ((s.put s.base (eH stubH)).put (s.base + 1) (eI stubI)).ws = (s.ws.set 0 (eH stubH)).set 1 (eI stubI) := by
  rw [Spc.put.eq_def, if_pos h1]
  dsimp only
  rw [e0, Spc.put_base]
  congr 1
  omega
 have hv : vH stubH = true := by decide
 have hi : vI stubI = true := by decide
 have hw : wH stubH = 4 := by decide
 have hz : Id.zero ≠ stubI := by decide
 unfold Spc.size
 rw [e1]
 have g0 : ((s.ws.set 0 (eH stubH)).set 1 (eI stubI))[0]? = some (eH stubH) := by rw [List.getElem?_set_ne (by omega), List.getElem?_set_self (by omega)]
 have g1 : ((s.ws.set 0 (eH stubH)).set 1 (eI stubI))[0 + 1]? = some (eI stubI) := by rw [List.getElem?_set_self (by simp; omega)]
 rw [g0, g1]
 dsimp only
 rw [dH_eH hv]
 dsimp only
 rw [dI_eI hi, hw, if_pos ⟨Ne.symm hz, by simp; omega⟩]
 decide
/-- what rebuild leaves -/
def RebP (w : World) (B g : Nat) (s : Spc) (V : Value) (ws : List Int) (e : Ending) (w' : World) : Prop :=
 e = .returned (.tuple #[]) ∧ ∃ V', SpR w' B g { s with ws := ws } V' ∧ (∀ k, V'.ownBlock = some k → V.ownBlock = some k ∨ w.heap.size ≤ k) ∧ Kp (fun k => k = g ∨ V.ownBlock = some k) w w'
theorem mv_sum {L : List Mv} (hok : ∀ x ∈ L, x.Ok) {j : Nat} {x : Mv} (hx : L[j]? = some x) : ((L.take j).flatMap Mv.words).length + x.words.length ≤ (L.flatMap Mv.words).length := by
 obtain ⟨hj, rfl⟩ := List.getElem?_eq_some_iff.1 hx
 have e := congrArg (fun l => (l.flatMap Mv.words).length) (List.take_append_drop j L)
 simp only [List.flatMap_append, List.length_append, List.drop_eq_getElem_cons hj, List.flatMap_cons] at e
 omega
section
variable {w : World} {B Lo g : Nat} {s : Spc} {V : Value} {L : List Mv} {A : Option Addr} {c : Nat}
set_option maxHeartbeats 8000000 in
theorem rebuild_any (h : SpR w B g s V) (hB : B ≤ w.heap.size) (hsl : Sl w 6 A L.length (L.flatMap Mv.cells)) (hmv : MvR w Lo L) (hLc : L.length ≤ c) (hsep : ∀ x ∈ L, ∀ k, x.v.ownBlock = some k → ¬ (k = g ∨ V.ownBlock = some k))
  (hA : ∀ b o, A = some ⟨b, o, none⟩ → ¬ (b = g ∨ V.ownBlock = some b)) (h0 : s.ws = [] ∨ 4 ≤ s.ws.length) (hok : ∀ x ∈ L, x.Ok) (hsum : s.base + ((L.flatMap Mv.words).length : Int) ≤ s.limit) (hLl : L.length ≤ 100000000) :
  Calls Tryz.prog 89 #[.pointer (some ⟨g, 0, none⟩), .slice A L.length c] w (RebP w B g s V (L.flatMap Mv.words)) := by
 obtain ⟨Q, hQ⟩ : ∃ Q, Q = RebP w B g s V (L.flatMap Mv.words) := ⟨_, rfl⟩
 rw [← hQ]
 obtain ⟨wa, hwa⟩ : ∃ wa, wa = w := ⟨_, rfl⟩
 have HQ : Hid (∀ e w', e = .returned (.tuple #[]) → ∀ V', SpR w' B g { s with ws := L.flatMap Mv.words } V' → (∀ k, V'.ownBlock = some k → V.ownBlock = some k ∨ wa.heap.size ≤ k) → Kp (fun k => k = g ∨ V.ownBlock = some k) wa w' → Q e w') := lh fun e w' h1 V' h2 h3 h4 => by
  rw [hwa] at h3 h4
  rw [hQ]
  exact ⟨h1, V', h2, h3, h4⟩
 have HSL : Hid (Sl wa 6 A L.length (L.flatMap Mv.cells)) := lh (hwa ▸ hsl)
 have HMV : Hid (MvR wa Lo L) := lh (hwa ▸ hmv)
 have HB : Hid (B ≤ wa.heap.size) := lh (hwa ▸ hB)
 have HK0 : Hid (Kp (fun k => k = g ∨ V.ownBlock = some k) wa w) := lh (hwa ▸ Kp.refl _ _)
 have HSEP := lh hsep
 have HAA := lh hA
 have HOK := lh hok
 have H := lh h
 have b0 := h.b0
 have b1 := h.lim
 have b2 := h.l0
 have HVL : Hid (∀ k, V.ownBlock = some k → k < wa.heap.size) := lh fun k hk => by rw [hwa]; exact (h.own.lt k hk).2
 have cT := Top_any h
 have cB := Base_any h
 clear hQ hsl hmv hB hsep hA hok hwa
 rcases h0 with h0 | h0
 have h5 : SpR w B g { s with ws := [] } V := by
  have e : { s with ws := [] } = s := by cases s; simp at h0; simp [h0]
  rw [e]; exact h
 have H5 := lh h5
 have HV5 : Hid (∀ k, V.ownBlock = some k → V.ownBlock = some k ∨ wa.heap.size ≤ k) := lh fun k hk => .inl hk
 have ht : s.top = s.base := by unfold Spc.top; rw [h0]; simp
 rw [ht] at cT
 have ht2 : ¬ (s.base > s.base) := by omega
 clear h h0 ht h5
 go_enter Tryz.func89, Tryz.ntmps89
 go_wp2_with fail
 refine cT.mono ?_
 rintro e w1 ⟨rfl, hb⟩
 have HB1 := lh (H.out.below hb)
 have H51 := lh (H5.out.below hb)
 have HK1 := lh (HK0.out.trans (Kp.of_below (S := fun k => k = g ∨ V.ownBlock = some k) hb) fun _ _ e => e)
 clear hb cT cB
 go_wp2_with fail
 refine (Base_any HB1.out).mono ?_
 rintro e w2 ⟨rfl, rfl⟩
 go_wp2_with fail
 rotate_left
 have ht2 : s.top > s.base := by unfold Spc.top; omega
 have cE := fun w => Encode_any stubH w
 have cI := fun w => EncodeID_any stubI w
 rw [show encV stubH = .tuple #[.int .u64 (eH stubH), .int .i64 0] by unfold encV; rw [if_pos (by decide)], show stubH.val = .agg #[.int .i64 3, .int .i64 0, .int .i64 0] from rfl] at cE
 rw [show encIV stubI = .tuple #[.int .u64 (eI stubI), .int .i64 0] by unfold encIV; rw [if_pos (by decide)], show stubI.val = .agg #[.int .i64 1, .int .i64 1] from rfl] at cI
 have uE : U64 (eH stubH) := eH_u64 (by decide)
 have uI : U64 (eI stubI) := eI_u64 (by decide)
 have HSZ := lh (stub_size h0)
 have UE := lh uE
 have UI := lh uI
 have hs0 : s.has s.base = true := Spc.has_iff.2 ⟨by omega, by omega⟩
 have hs1 : (s.put s.base (eH stubH)).has (s.base + 1) = true := by rw [Spc.put_has]; exact Spc.has_iff.2 ⟨by omega, by omega⟩
 have HS0 := lh hs0
 have HS1 := lh hs1
 obtain ⟨xe, hxe⟩ : ∃ xe, xe = eH stubH := ⟨_, rfl⟩
 obtain ⟨xi, hxi⟩ : ∃ xi, xi = eI stubI := ⟨_, rfl⟩
 rw [← hxe] at cE HSZ UE HS1
 rw [← hxi] at cI HSZ UI
 clear h h0 uE uI hxe hxi hs0 hs1
 go_enter Tryz.func89, Tryz.ntmps89
 go_wp2_with fail
 refine cT.mono ?_
 rintro e w1 ⟨rfl, hb⟩
 have HB1 := lh (H.out.below hb)
 have HK1 := lh (HK0.out.trans (Kp.of_below (S := fun k => k = g ∨ V.ownBlock = some k) hb) fun _ _ e => e)
 clear hb cT cB
 go_wp2_with fail
 refine (Base_any HB1.out).mono ?_
 rintro e w2 ⟨rfl, rfl⟩
 go_wp2_with fail
 refine (cE _).mono ?_
 rintro e w2 ⟨rfl, hb⟩
 have HB2 := lh (HB1.out.below hb)
 have HK2 := lh (HK1.out.trans (Kp.of_below (S := fun k => k = g ∨ V.ownBlock = some k) hb) fun _ _ e => e)
 clear hb cE
 go_wp2_with fail
 refine (cI _).mono ?_
 rintro e w3 ⟨rfl, hb⟩
 have HB3 := lh (HB2.out.below hb)
 have HK3 := lh (HK2.out.trans (Kp.of_below (S := fun k => k = g ∨ V.ownBlock = some k) hb) fun _ _ e => e)
 clear hb cI
 go_wp2_with fail
 refine (Base_any HB3.out).mono ?_
 rintro e w4 ⟨rfl, rfl⟩
 go_wp2_with fail
 refine (SStore_any HB3.out s.base UE.out).mono ?_
 rintro e w4 ⟨rfl, hsp, hk⟩
 rw [if_pos HS0.out]
 have HB4 := lh hsp
 have HK4 := lh (HK3.out.trans hk fun _ _ e => .inr e)
 clear hsp hk
 go_wp2_with fail
 refine (Base_any HB4.out).mono ?_
 rintro e w5 ⟨rfl, rfl⟩
 simp only [Spc.put_base]
 go_wp2_with fail
 refine (SStore_any HB4.out (s.base + 1) UI.out).mono ?_
 rintro e w5 ⟨rfl, hsp, hk⟩
 rw [if_pos HS1.out]
 have HB5 := lh hsp
 have HK5 := lh (HK4.out.trans hk fun _ _ e => .inr e)
 clear hsp hk
 go_wp2_with fail
 refine (Base_any HB5.out).mono ?_
 rintro e w6 ⟨rfl, rfl⟩
 simp only [Spc.put_base]
 go_wp2_with fail
 have cTr := Truncate_base HB5.out HSZ.out
 simp only [Spc.put_base] at cTr
 refine cTr.mono ?_
 clear cTr
 rintro e w6 ⟨rfl, V5, hsp, hv5, hk⟩
 have H51 : Hid (SpR w6 B g { s with ws := [] } V5) := lh (by
  have e : ({ ((s.put s.base xe).put (s.base + 1) xi) with ws := [] } : Spc) = { s with ws := [] } := by
   simp only [Spc.mk.injEq, and_true]
   rw [Spc.put_base, Spc.put_base, Spc.put_limit, Spc.put_limit]
   exact ⟨rfl, rfl⟩
  rw [← e]; exact hsp)
 have HV5 : Hid (∀ k, V5.ownBlock = some k → V.ownBlock = some k ∨ wa.heap.size ≤ k) := lh fun k hk => .inl (hv5 k hk)
 have HK6 := lh (HK5.out.trans hk fun _ _ e => .inl e)
 have HK1 := HK6
 clear hsp hv5 hk
 go_wp2_with fail
 all_goals
  clear HK0 H HVL
  go_loopw [46] (fun i wr => ∃ (j : Nat) (V' : Value), i = .int .i64 (j : Int) ∧ j ≤ L.length ∧ SpR wr B g { s with ws := (L.take j).flatMap Mv.words } V' ∧ (∀ k, V'.ownBlock = some k → V.ownBlock = some k ∨ wa.heap.size ≤ k) ∧ Kp (fun k => k = g ∨ V.ownBlock = some k) wa wr) (fun i _ => L.length - (intOf i).toNat)
  case atStart => exact ⟨0, _, rfl, Nat.zero_le _, H51.out, HV5.out, HK1.out⟩
  case round =>
   obtain ⟨j, V', rfl, hj, hsp, hvo, hkp⟩ := hrel
   have HSP := lh hsp
   have HVO := lh hvo
   have HKP := lh hkp
   have hsz := hkp.size
   by_cases hlt : j < L.length
   ·have t1 : L[j]? = some L[j] := List.getElem?_eq_getElem hlt
    have hmem : L[j] ∈ L := List.getElem_mem hlt
    have htk : (L.take (j + 1)).flatMap Mv.words = (L.take j).flatMap Mv.words ++ L[j].words := by rw [List.take_add_one, t1, List.flatMap_append]; simp only [Option.toList_some, List.flatMap_cons, List.flatMap_nil, List.append_nil]
    obtain ⟨b, o, hAe, hbl, hc⟩ := (HSL.out.kpN hkp HAA.out).get hlt
    have hcell : ∀ q v, q < 6 → (L[j]).cells[q]? = some v → wr.cell? ⟨b, o + (j * 6 + q), none⟩ = some v := fun q v hq hv => hc _ _ (by
     rw [flat_get (f := Mv.cells) (s := 6) (fun _ => rfl) L j _ t1 q hq]; exact hv)
    have hsm := mv_sum HOK.out t1
    have hxok := HOK.out _ hmem
    generalize L[j] = x at t1 hmem htk hcell hsm hxok
    have HTK := lh htk
    have HXO := lh hxok
    have HM := lh hmem
    have HC := lh hcell
    cases hAe
    have c0 : wr.cell? ⟨b, o + j * 6, none⟩ = some (.int .i64 x.h.k) := hcell 0 _ (by omega) rfl
    have c1 : wr.cell? ⟨b, o + j * 6 + 1, none⟩ = some (.int .i64 x.h.c) := by rw [Nat.add_assoc]; exact hcell 1 _ (by omega) rfl
    have c2 : wr.cell? ⟨b, o + j * 6 + 2, none⟩ = some (.int .i64 x.h.f) := by rw [Nat.add_assoc]; exact hcell 2 _ (by omega) rfl
    have c3 : wr.cell? ⟨b, o + j * 6 + 3, none⟩ = some (.int .i64 x.i.m) := by rw [Nat.add_assoc]; exact hcell 3 _ (by omega) rfl
    have c4 : wr.cell? ⟨b, o + j * 6 + 4, none⟩ = some (.int .i64 x.i.s) := by rw [Nat.add_assoc]; exact hcell 4 _ (by omega) rfl
    have c5 : wr.cell? ⟨b, o + j * 6 + 5, none⟩ = some x.v := by rw [Nat.add_assoc]; exact hcell 5 _ (by omega) rfl
    obtain ⟨Av, cv, hxv, hpv⟩ := own_shape (HMV.out x hmem)
    rw [hxv] at c5
    have HXV := lh hxv
    have hjc : j < c := by omega
    clear hxv hsp hvo hkp htk hxok hmem hcell hc
    have hal : Below wr.heap.size wr (wr.alloc (.cells #[.int .i64 x.h.k, .int .i64 x.h.c, .int .i64 x.h.f, .int .i64 x.i.m, .int .i64 x.i.s, .slice Av x.p.length cv] 139)) := (Below.refl _ _).alloc (Nat.le_refl _) _
    have HAL := lh hal
    have HQ9 : Hid (Bk (wr.alloc (.cells #[.int .i64 x.h.k, .int .i64 x.h.c, .int .i64 x.h.f, .int .i64 x.i.m, .int .i64 x.i.s, .slice Av x.p.length cv] 139)) wr.heap.size 139 #[.int .i64 x.h.k, .int .i64 x.h.c, .int .i64 x.h.f, .int .i64 x.i.m, .int .i64 x.i.s, .slice Av x.p.length cv]) := lh (Bk.new _ _ _)
    have hxl := HXO.out.l
    have hwl := HXO.out.len
    have hwb := wH_bound x.h
    have cA := SAlloc_any (HSP.out.below hal) (by have := HB.out; have := hal.size; omega) x.h x.i
    unfold AlcP alcV at cA
    obtain ⟨pre, hpre⟩ : ∃ pre, pre = (L.take j).flatMap Mv.words := ⟨_, rfl⟩
    have hal2 := alloc_ok (s := { s with ws := pre }) HXO.out.h HXO.out.i (by unfold Spc.top; dsimp only; rw [hpre]; omega)
    rw [← hpre] at cA hsm
    rw [hal2] at cA
    dsimp only at cA
    have HPRE := lh hpre
    rw [← fillS_zero s pre x hxl] at cA
    unfold Hdr.val Id.val Spc.top at cA
    dsimp only at cA
    obtain ⟨ad, had⟩ : ∃ ad, ad = s.base + (pre.length : Int) := ⟨_, rfl⟩
    rw [← had] at cA
    have HAD := lh had
    have hadb : 0 ≤ ad ∧ ad ≤ 4294967296 := by omega
    clear hal2 hpre hal had
    go_wp2_with fail
    refine cA.mono ?_
    rintro e w7 ⟨rfl, ⟨V7, hsp7, hvo7⟩, hk7⟩
    have hk7' : Kp (fun k => k = g ∨ V.ownBlock = some k) wa w7 := ((HKP.out.trans (Kp.of_below (S := fun k => k = g ∨ V'.ownBlock = some k) HAL.out) fun k hk e => e.elim .inl fun e => .inr ((HVO.out k e).resolve_right (by omega))).trans hk7 fun k hk e => e.elim .inl fun e => .inr ((HVO.out k e).resolve_right (by omega)))
    have HK7 := lh hk7'
    have HSP7 := lh hsp7
    have HVO7 : Hid (∀ k, V7.ownBlock = some k → V.ownBlock = some k ∨ wa.heap.size ≤ k) := lh fun k hk => by
     rcases hvo7 k hk with h | h
     ·exact HVO.out k h
     ·right; have := HAL.out.size; omega
    have q5 : w7.cell? ⟨wr.heap.size, 5, none⟩ = some (.slice Av x.p.length cv) := by
     refine (HQ9.out.kp hk7 fun e => ?_).cell 5
     rcases e with e | e
     ·have := HSP.out.hd.lt; omega
     ·have := (HSP.out.own.lt _ e).2; omega
    have HPV : Hid (Sl w7 1 Av x.p.length (wds x.p)) := lh (by
     have h3 := HMV.out x HM.out
     rw [HXV.out] at h3
     refine (own_sl h3).kpN hk7' fun b' o' e => ?_
     refine HSEP.out x HM.out b' ?_
     rw [HXV.out, e]
     rfl)
    clear cA hsp7 hvo7 hk7 hk7' hsm hwl
    go_wp2_with fail
    obtain ⟨wo, rfl⟩ : ∃ wo : World, wo = wr := ⟨_, rfl⟩
    go_loopw [62] (fun i wr => ∃ m : Nat, i = .int .i64 (m : Int) ∧ m ≤ x.p.length ∧ SpR wr B g (fillS s pre x m) V7 ∧ Kp (fun k => V7.ownBlock = some k) w7 wr) (fun i _ => x.p.length - (intOf i).toNat)
    case atStart => exact ⟨0, rfl, Nat.zero_le _, HSP7.out, Kp.refl _ _⟩
    case round =>
     obtain ⟨m, rfl, hm, hspq, hkq⟩ := hrel
     have HSPQ := lh hspq
     have HKQ := lh hkq
     by_cases hlt2 : m < x.p.length
     ·have y1 : x.p[m]? = some x.p[m] := List.getElem?_eq_getElem hlt2
      obtain ⟨b2, o2, hAe, hbl2, hc2⟩ := (HPV.out.kpN hkq fun b' o' e h7 => by
       rcases HVO7.out _ h7 with h | h
       ·refine HSEP.out x HM.out b' ?_ (.inr h)
        rw [HXV.out, e]
        rfl
       ·have h3 := HMV.out x HM.out
        have := (h3.lt b' (by rw [HXV.out, e]; rfl)).2
        omega).get hlt2
      have e1 : wr.cell? ⟨b2, o2 + m, none⟩ = some (.int .u64 x.p[m]) := hc2 m _ (wds_get y1)
      have hu := HXO.out.u _ (List.getElem_mem hlt2)
      have hfp := fillS_put (s := s) (pre := pre) y1
      rw [← HAD.out] at hfp
      generalize x.p[m] = y at y1 e1 hu hfp
      cases hAe
      have cS := SStore_any hspq (ad + 2 + (m : Int)) hu
      rw [hfp] at cS
      have hmc : m < cv := by omega
      have hmi : (m : Int) ≤ 1000 := by omega
      obtain ⟨er, her⟩ : ∃ er : Int, er = if (fillS s pre x m).has (ad + 2 + (m : Int)) = true then 0 else 2 := ⟨_, rfl⟩
      rw [← her] at cS
      clear her hfp hu y1 hc2 hspq hkq
      go_wp2_with fail
      refine cS.mono ?_
      rintro e w8 ⟨rfl, hsp8, hk8⟩
      have HSP8 := lh hsp8
      have HK8 := lh (HKQ.out.trans hk8 fun _ _ e => e)
      clear cS hsp8 hk8
      go_wp2_with fail
      go_roundw
      case rel => exact ⟨m + 1, by go_num, by omega, HSP8.out, HK8.out⟩
      case measure => simp [intOf]; omega
     ·obtain rfl : m = x.p.length := by omega
      rw [fillS_len] at hspq
      have HSPQ := lh hspq
      clear hspq hkq
      go_wp2_with fail
      go_roundw
      case rel =>
       refine ⟨j + 1, V7, by go_num, by omega, by rw [HTK.out, ← HPRE.out]; exact HSPQ.out, HVO7.out, HK7.out.trans HKQ.out fun k hk e => .inr ((HVO7.out k e).resolve_right (by omega))⟩
      case measure => simp [intOf]; omega
   ·obtain rfl : j = L.length := by omega
    rw [List.take_length] at hsp
    have HSP := lh hsp
    clear hsp hvo hkp
    go_wp2_with fail
    go_end0
    exact HQ.out _ _ rfl _ HSP.out HVO.out HKP.out
end
end Go.Proofs.YtjpaogapclfajaaGreat
namespace Go.Proofs.YtjpaogapclfajaaGreat
open Go.RowKit
section
variable {s : Spc} {b : Int} {ms : List Int}
theorem Spc.Obj.word {s : Spc} {a : Int} (h : s.Obj a) {k : Int} (h0 : 0 ≤ k) (h1 : k < wH ((Mm.one s).hdr a).2) : ∃ y, s.at_ (a + k) = some y := by
 have h2 := h.lo
 have h3 := h.hi
 unfold Spc.top at h3
 obtain ⟨i, _, _, y, _, hy⟩ := Spc.at_some (s := s) (a := a + k) (Spc.has_iff.2 ⟨by omega, by omega⟩)
 exact ⟨y, hy⟩
theorem Spc.Obj.vals {s : Spc} {a : Int} (h : s.Obj a) : ∃ x v, s.at_ a = some x ∧ dH x = some ((Mm.one s).hdr a).2 ∧ s.at_ (a + 1) = some v ∧ dI v ≠ Id.zero := by
 obtain ⟨x, v, h1, h2, h3, h4, _⟩ := Spc.hdr_ok (s := (Mm.one s).sp a) (a := a) h.ok
 have hw := (wH_ge (Mm.hdr_valid h.ok)).1
 obtain ⟨x', hx'⟩ := h.word (k := 0) (by omega) (by omega)
 obtain ⟨v', hv'⟩ := h.word (k := 1) (by omega) (by omega)
 have hh : s.has a = true := by rw [show a = a + 0 by omega]; exact Spc.at_has hx'
 have e : (Mm.one s).sp a = s := by
  unfold Mm.sp Mm.one
  dsimp only
  rw [if_pos hh]
 rw [e] at h1 h3
 exact ⟨x, v, h1, h2, h3, h4⟩
theorem Spc.Obj.id {s : Spc} {a v : Int} (h : s.Obj a) (hv : s.at_ (a + 1) = some v) : (Mm.one s).idOf a = dI v ∧ vI (dI v) = true := by
 obtain ⟨_, v', _, _, h3, h4⟩ := h.vals
 rw [hv] at h3
 cases h3
 refine ⟨?_, dI_ne h4⟩
 unfold Mm.idOf
 rw [Mm.one_at, hv]
 rfl
theorem Spc.Obj.pay {s : Spc} {a y : Int} (h : s.Obj a) {k : Nat} (hk : (k : Int) + 2 < wH ((Mm.one s).hdr a).2) (hy : s.at_ (a + (2 + (k : Int))) = some y) : ((Mm.one s).pay a)[k]? = some y := by
 unfold Mm.pay
 rw [List.getElem?_map, List.getElem?_range (by omega)]
 simp only [Option.map_some]
 rw [Mm.one_at, show a + 2 + (k : Int) = a + (2 + (k : Int)) by omega, hy]
 rfl
theorem pay_u64 {s : Spc} (hu : ∀ x ∈ s.ws, U64 x) (a : Int) : ∀ x ∈ (Mm.one s).pay a, U64 x := fun x hx => by
 unfold Mm.pay at hx
 obtain ⟨k, _, rfl⟩ := List.mem_map.1 hx
 rw [Mm.one_at]
 cases ho : s.at_ (a + 2 + (k : Int)) with
 | none => exact (show U64 0 from ⟨by decide, by decide⟩)
 | some y =>
  obtain ⟨i, _, _, z, hz, h2⟩ := Spc.at_some (Spc.at_has ho)
  rw [ho] at h2
  cases h2
  exact hu _ (List.mem_of_getElem? hz)
theorem updP_len (m : Mm) (b : Int) (ms : List Int) (hd : Hdr) (xs : List Int) (hf : hd.f.toNat ≤ xs.length) : (updP m b ms hd xs).length = xs.length := by
 unfold updP
 split
 ·rfl
 ·simp; omega
theorem updP_u64 {m : Mm} {b : Int} {ms : List Int} {hd : Hdr} {xs : List Int} (hu : ∀ x ∈ xs, U64 x) : ∀ x ∈ updP m b ms hd xs, U64 x := fun x hx => by
 unfold updP at hx
 split at hx
 ·exact hu x hx
 ·rcases List.mem_append.1 hx with hx | hx
  ·obtain ⟨y, hy, rfl⟩ := List.mem_map.1 hx
   exact updW_u64 (hu y (List.mem_of_mem_take hy))
  ·exact hu x (List.mem_of_mem_drop hx)
/-- the moved objects of a list of addresses -/
def mvKey (x : Mv) : Hdr × Id × List Int := (x.h, x.i, x.p)
def mvFor (m : Mm) (b : Int) (ms : List Int) (a : Int) : Hdr × Id × List Int := ((m.hdr a).2, m.idOf a, m.payU b ms a)
theorem mv_words (m : Mm) (b : Int) (ms : List Int) : ∀ (L : List Mv) (l : List Int), L.map mvKey = l.map (mvFor m b ms) → L.flatMap Mv.words = l.flatMap (m.movd b ms)
 | [], [], _ => rfl
 | x :: L, a :: l, h => by
  simp only [List.map_cons, List.cons.injEq] at h
  rw [List.flatMap_cons, List.flatMap_cons, mv_words m b ms L l h.2]
  have h1 := h.1
  unfold mvKey mvFor at h1
  injection h1 with h1 h2
  injection h2 with h2 h3
  unfold Mv.words Mm.movd
  rw [h1, h2, h3]
 | [], _ :: _, h => by cases h
 | _ :: _, [], h => by cases h
theorem mv_ok {s : Spc} (hu : ∀ x ∈ s.ws, U64 x) {b : Int} {ms : List Int} {x : Mv} {a : Int} (ho : s.Obj a) (h : mvKey x = mvFor (Mm.one s) b ms a) : x.Ok := by
 unfold mvKey mvFor at h
 injection h with h1 h2
 injection h2 with h2 h3
 obtain ⟨_, v, _, _, hv, _⟩ := ho.vals
 have hi := ho.id hv
 have hw := wH_ge (Mm.hdr_valid ho.ok)
 have hl := payU_len (Mm.one s) b ms ho.ok
 refine ⟨by rw [h1]; exact Mm.hdr_valid ho.ok, by rw [h2, hi.1]; exact hi.2, by rw [h3, h1, hl]; omega, ?_⟩
 rw [h3, payU_eq]
 exact updP_u64 (pay_u64 hu a)
theorem mv_oks {s : Spc} (hu : ∀ x ∈ s.ws, U64 x) {b : Int} {ms : List Int} : ∀ (L : List Mv) (l : List Int), (∀ a ∈ l, s.Obj a) → L.map mvKey = l.map (mvFor (Mm.one s) b ms) → ∀ x ∈ L, x.Ok
 | [], [], _, _ => fun x hx => by cases hx
 | y :: L, a :: l, ho, h => fun x hx => by
  simp only [List.map_cons, List.cons.injEq] at h
  rcases List.mem_cons.1 hx with rfl | hx
  ·exact mv_ok hu (ho a (List.mem_cons_self ..)) h.1
  ·exact mv_oks hu L l (fun a ha => ho a (List.mem_cons_of_mem _ ha)) h.2 x hx
 | [], _ :: _, _, h => by cases h
 | _ :: _, [], _, h => by cases h
theorem movd_sum (m : Mm) (b : Int) (ms : List Int) : ∀ l : List Int, (∀ a ∈ l, (m.hdr a).1 = 0) → ((l.flatMap (m.movd b ms)).length : Int) = wSum m l
 | [], _ => rfl
 | a :: l, h => by
  have h1 := movd_len m b ms (h a (List.mem_cons_self ..))
  have h2 := movd_sum m b ms l fun x hx => h x (List.mem_cons_of_mem _ hx)
  rw [List.flatMap_cons, List.length_append, show wSum m (a :: l) = wH (m.hdr a).2 + wSum m l by simp [wSum]]
  omega
theorem updL_snoc (m : Mm) (b : Int) (ms : List Int) (x : Int) : ∀ l, m.updL b ms (l ++ [x]) = match m.updL b ms l, m.updW b ms x with | some t, some y => some (t ++ [y]) | _, _ => none
 | [] => by
  simp only [List.nil_append, Mm.updL]
  cases m.updW b ms x <;> rfl
 | z :: l => by
  rw [List.cons_append, Mm.updL, updL_snoc m b ms x l, Mm.updL]
  cases m.updW b ms z <;> cases m.updL b ms l <;> cases m.updW b ms x <;> rfl
theorem updL_none {m : Mm} {b : Int} {ms : List Int} {x : Int} (h : m.updW b ms x = none) : ∀ {l : List Int}, x ∈ l → m.updL b ms l = none
 | y :: l, hx => by
  rw [Mm.updL]
  rcases List.mem_cons.1 hx with rfl | hx
  ·rw [h]
  ·rw [updL_none h hx]
   cases m.updW b ms y <;> rfl
theorem updL_len {m : Mm} {b : Int} {ms : List Int} : ∀ {l out : List Int}, m.updL b ms l = some out → out.length = l.length
 | [], out, h => by cases h; rfl
 | x :: l, out, h => by
  rw [Mm.updL] at h
  split at h
  ·rename_i y t h1 h2
   cases h
   rw [List.length_cons, List.length_cons, updL_len h2]
  ·cases h
theorem plF_take {m : Mm} {b : Int} {ms : List Int} {j : Nat} {a : Int} (h : ms[j]? = some a) (x : Int) : updZ (fun z => if (ms.take j).contains z = true then some (newA m b ms z) else none) a (newA m b ms a) x = if (ms.take (j + 1)).contains x = true then some (newA m b ms x) else none := by
 unfold updZ
 rw [List.take_add_one, h]
 by_cases hx : x = a
 ·subst hx
  simp
 ·simp only [Option.toList_some, List.contains_eq_mem, List.mem_append, List.mem_singleton, hx, or_false, if_false]
end
end Go.Proofs.YtjpaogapclfajaaGreat
namespace Go.Proofs.YtjpaogapclfajaaGreat
open Go.RowKit
theorem dI_eq {v : Int} (hz : dI v ≠ Id.zero) : eI (dI v) = v := by
 have hi := dI_ne hz
 unfold dI at hz hi ⊢
 split at hz
 ·rename_i h
  rw [if_pos h]
  unfold eI
  dsimp only
  omega
 ·exact absurd rfl hz
/-- word k of an object, moved by the reference -/
def Mm.rwd (m : Mm) (b : Int) (ms : List Int) (a : Int) (k : Nat) : Int :=
 if 2 ≤ (k : Int) ∧ (k : Int) < 2 + (m.hdr a).2.f ∧ (m.hdr a).2.k ≠ 3 ∧ (m.hdr a).2.k ≠ 4 then (m.updW b ms ((m.at_ (a + (k : Int))).getD 0)).getD 0 else (m.at_ (a + (k : Int))).getD 0
def Mm.rmovd (m : Mm) (b : Int) (ms : List Int) (a : Int) : List Int := (List.range (wH (m.hdr a).2).toNat).map (m.rwd b ms a)
theorem Mm.updW_some {m : Mm} {b : Int} {ms : List Int} {x : Int} (h : m.rfr x ≠ none) : (m.updW b ms x).getD 0 = (m.updW b ms x).getD x := by
 unfold Mm.updW
 split
 ·rename_i h'; exact absurd h' h
 ·rfl
 ·rfl
theorem flds_get {m : Mm} {a : Int} {i : Nat} (h : (i : Int) < (m.hdr a).2.f) : (m.at_ (a + 2 + (i : Int))).getD 0 ∈ m.flds a := by
 unfold Mm.flds
 exact List.mem_map.2 ⟨i, List.mem_range.2 (by omega), rfl⟩
theorem rmovd_eq {s : Spc} {b : Int} {ms : List Int} {a : Int} (ho : s.Obj a) (hg : (∀ x ∈ (Mm.one s).flds a, (Mm.one s).rfr x ≠ none) ∨ ((Mm.one s).hdr a).2.k = 3) : (Mm.one s).rmovd b ms a = (Mm.one s).movd b ms a := by
 obtain ⟨x, v, hx, hdx, hv, hvz⟩ := ho.vals
 have hid := ho.id hv
 have hvh := Mm.hdr_valid ho.ok
 have hw := wH_ge hvh
 have hpl := pay_len (Mm.one s) a
 have hpu := payU_len (Mm.one s) b ms ho.ok
 refine List.ext_getElem? fun k => ?_
 unfold Mm.rmovd Mm.movd
 rw [List.getElem?_map]
 match k with
 | 0 =>
  rw [List.getElem?_range (by omega)]
  show some ((Mm.one s).rwd b ms a 0) = some (eH ((Mm.one s).hdr a).2)
  unfold Mm.rwd
  rw [if_neg (by omega), Mm.one_at, show a + ((0 : Nat) : Int) = a by omega, hx, (dH_some hdx).2]
  rfl
 | 1 =>
  rw [List.getElem?_range (by omega)]
  show some ((Mm.one s).rwd b ms a 1) = some (eI ((Mm.one s).idOf a))
  unfold Mm.rwd
  rw [if_neg (by omega), Mm.one_at, show a + ((1 : Nat) : Int) = a + 1 by omega, hv, hid.1, dI_eq hvz]
  rfl
 | k + 2 =>
  rw [List.getElem?_append_right (by simp), show k + 2 - [eH ((Mm.one s).hdr a).2, eI ((Mm.one s).idOf a)].length = k by simp]
  rcases Nat.lt_or_ge (k + 2) (wH ((Mm.one s).hdr a).2).toNat with hlt | hge
  ·rw [List.getElem?_range hlt]
   simp only [Option.map_some]
   have hpk : ((Mm.one s).pay a)[k]? = some (((Mm.one s).at_ (a + 2 + (k : Int))).getD 0) := by
    unfold Mm.pay
    rw [List.getElem?_map, List.getElem?_range (by omega)]
    rfl
   unfold Mm.rwd Mm.payU
   rw [show a + ((k + 2 : Nat) : Int) = a + 2 + (k : Int) by omega]
   by_cases h34 : ((Mm.one s).hdr a).2.k = 3 ∨ ((Mm.one s).hdr a).2.k = 4
   ·rw [if_neg (by omega), if_pos h34, hpk]
   ·rw [if_neg h34]
    have hgx := hg.resolve_right (fun e => h34 (.inl e))
    by_cases hf : (k : Int) < ((Mm.one s).hdr a).2.f
    ·rw [if_pos (by omega), List.getElem?_append_left (by simp; omega), List.getElem?_map, List.getElem?_take_of_lt (by omega), hpk]
     simp only [Option.map_some]
     rw [Mm.updW_some (hgx _ (flds_get hf))]
    ·rw [if_neg (by omega), List.getElem?_append_right (by simp; omega), List.getElem?_drop]
     rw [show ((Mm.one s).hdr a).2.f.toNat + (k - (List.map (fun x => ((Mm.one s).updW b ms x).getD x) (List.take ((Mm.one s).hdr a).2.f.toNat ((Mm.one s).pay a))).length) = k by simp; omega, hpk]
  ·rw [List.getElem?_eq_none (by simp; omega), List.getElem?_eq_none (by omega)]
   rfl
end Go.Proofs.YtjpaogapclfajaaGreat
