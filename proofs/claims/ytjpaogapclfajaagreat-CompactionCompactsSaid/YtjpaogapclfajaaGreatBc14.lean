/- Parts of the proof: AlcP, BldP, Bld1, MarkB, MarkV. -/
import Derived.BigQuiet
import Derived.Deep.AppendLies
import Derived.Deep.QuietTactic
import Derived.Maps.AppendAt
import Derived.Test.YtjpaogapclfajaaGreatBcA
import Derived.Test.YtjpaogapclfajaaGreatBc0
import Derived.Test.YtjpaogapclfajaaGreatBc10
import Derived.Test.YtjpaogapclfajaaGreatBc12
import Derived.Test.YtjpaogapclfajaaGreatBc13
import Derived.Test.YtjpaogapclfajaaGreatBc7
set_option linter.unusedVariables false
set_option linter.unusedSimpArgs false
set_option linter.unusedSectionVars false
namespace Go.Proofs.YtjpaogapclfajaaGreat
def frW (a : Int) : Int := if inA a = true then adW a else 0
theorem frW_u (a : Int) : U64 (frW a) := by
 unfold frW inA adW U64
 split
 ·rename_i h; simp only [decide_eq_true_eq] at h; omega
 ·omega
theorem Spc.alloc_cases (s : Spc) (h : Hdr) (i : Id) : ((s.alloc h i).1 ≠ 0 ∧ (s.alloc h i).2.1 = s) ∨ (vH h = true ∧ vI i = true ∧ wH h ≤ s.limit - s.top ∧ s.alloc h i = (0, { s with ws := s.ws ++ ([eH h, eI i] ++ List.replicate (wH h - 2).toNat 0) }, s.top)) := by
 by_cases h1 : vH h = false ∨ vI i = false
 ·left; unfold Spc.alloc; rw [if_pos h1]; exact ⟨show (1 : Int) ≠ 0 by decide, rfl⟩
 ·by_cases h2 : wH h > s.limit - s.top
  ·left; unfold Spc.alloc; rw [if_neg h1, if_pos h2]; exact ⟨show (8 : Int) ≠ 0 by decide, rfl⟩
  ·right
   have h3 := not_or.1 h1
   refine ⟨by simpa using h3.1, by simpa using h3.2, by omega, ?_⟩
   unfold Spc.alloc
   rw [if_neg h1, if_neg h2]
theorem Spc.Ok.alloc {s : Spc} (h : s.Ok) (hd : Hdr) (i : Id) : (s.alloc hd i).2.1.Ok ∧ (s.alloc hd i).2.1.base = s.base ∧ (s.alloc hd i).2.1.limit = s.limit := by
 rcases s.alloc_cases hd i with ⟨_, h1⟩ | ⟨hv, hi, hl, h1⟩
 ·rw [h1]; exact ⟨h, rfl, rfl⟩
 ·rw [h1]
  have hw := wH_ge hv
  refine ⟨⟨fun x hx => ?_, h.b0, ?_, h.l0⟩, rfl, rfl⟩
  ·simp only [List.mem_append, List.mem_cons, List.not_mem_nil, or_false, List.mem_replicate] at hx
   rcases hx with hx | (rfl | rfl) | ⟨_, rfl⟩
   ·exact h.u x hx
   ·exact eH_u64 hv
   ·exact eI_u64 hi
   ·exact ⟨by decide, by decide⟩
  ·have := h.lim
   unfold Spc.top at hl
   simp only [List.length_append, List.length_cons, List.length_nil, List.length_replicate]
   push_cast
   omega
theorem Mm.Ok.alloc {m : Mm} (h : m.Ok) (y : Bool) (hd : Hdr) (i : Id) : (m.alloc y hd i).2.1.Ok := by
 unfold Mm.alloc
 split
 ·have := h.y.alloc hd i
  exact ⟨h.o, this.1, h.ob, h.ol, this.2.1.trans h.yb⟩
 ·have := h.o.alloc hd i
  exact ⟨this.1, h.y, this.2.1.trans h.ob, by show (m.old.alloc hd i).2.1.limit ≤ _; rw [this.2.2]; exact h.ol, h.yb⟩
end Go.Proofs.YtjpaogapclfajaaGreat
namespace Go.Proofs.YtjpaogapclfajaaGreat
structure Op1 where
 k : Int
 h : Hdr
 a : Int
 b : Int
 i : Int
 w : Int
structure Op1.Ok (o : Op1) : Prop where
 k0 : -9223372036854775808 ≤ o.k
 k1 : o.k ≤ 9223372036854775807
 a0 : -9223372036854775808 ≤ o.a
 a1 : o.a ≤ 9223372036854775807
 b0 : -9223372036854775808 ≤ o.b
 b1 : o.b ≤ 9223372036854775807
 i0 : -9223372036854775808 ≤ o.i
 i1 : o.i ≤ 9223372036854775807
 w : U64 o.w
def Op1.cells (o : Op1) : Array Value := #[.int .i64 o.k, .int .i64 o.h.k, .int .i64 o.h.c, .int .i64 o.h.f, .int .i64 o.a, .int .i64 o.b, .int .i64 o.i, .int .u64 o.w]
/-- the address that an operation chooses -/
def pick1 (l : List Int) (n : Int) : Int := if l = [] ∨ n < 0 then 0 else l.getD (n % (l.length : Int)).toNat 0
/-- the memory and the addresses of the objects behind an operation -/
def st1 (p : Mm × List Int) (x : Op1) : Mm × List Int :=
 if x.k = 0 then
  if x.h.k = 4 then p
  else ((p.1.alloc false x.h ⟨1, p.2.length + 1⟩).2.1, if (p.1.alloc false x.h ⟨1, p.2.length + 1⟩).1 = 0 then p.2 ++ [(p.1.alloc false x.h ⟨1, p.2.length + 1⟩).2.2] else p.2)
 else if x.k = 1 then ((p.1.setF (pick1 p.2 x.a) x.i (frW (pick1 p.2 x.b))).2, p.2)
 else if x.k = 2 then ((p.1.setF (pick1 p.2 x.a) x.i x.w).2, p.2)
 else if x.k = 3 then ((p.1.toStub (pick1 p.2 x.a) 2 (IntKind.u64.wrap x.i)).2, p.2)
 else if x.k = 4 then ((p.1.toFwd (pick1 p.2 x.a) (pick1 p.2 x.b)).2, p.2)
 else p
def bld1 (l : List Op1) : Mm × List Int := l.foldl st1 (Mm.new 600, [])
/-- the words that are chosen -/
def rts1 (at_ choices : List Int) : List Int := choices.map fun c => if 0 ≤ c ∧ at_ ≠ [] then frW (pick1 at_ c) else 5
theorem rts1_u (at_ choices : List Int) : ∀ x ∈ rts1 at_ choices, U64 x := by
 intro x hx
 obtain ⟨c, _, rfl⟩ := List.mem_map.1 hx
 split
 ·exact frW_u _
 ·exact ⟨by decide, by decide⟩
theorem wrapU_u (i : Int) : U64 (IntKind.u64.wrap i) := by
 have e : IntKind.u64.wrap i = i % 18446744073709551616 := by
  simp only [IntKind.wrap, IntKind.signed, IntKind.bits]
  simp
 rw [e]
 unfold U64
 omega
theorem bld1_take {l : List Op1} {j : Nat} {x : Op1} (h : l[j]? = some x) : bld1 (l.take (j + 1)) = st1 (bld1 (l.take j)) x := by
 unfold bld1
 rw [List.take_add_one, h, List.foldl_append]
 rfl
/-- the addresses: no more than the operations, below 2^24 -/
structure Bld (p : Mm × List Int) (n : Nat) : Prop where
 ok : p.1.Ok
 len : p.2.length ≤ n
 rg : ∀ a ∈ p.2, 0 ≤ a ∧ a ≤ 16777216
theorem Bld.nil : Bld (Mm.new 600, []) 0 := ⟨Mm.new_ok 600, Nat.le_refl _, fun a h => by cases h⟩
theorem Bld.step {p : Mm × List Int} {n : Nat} (h : Bld p n) (x : Op1) (hok : (st1 p x).1.Ok) : Bld (st1 p x) (n + 1) := by
 refine ⟨hok, ?_, ?_⟩
 ·have := h.len
  unfold st1
  split
  ·split
   ·omega
   ·dsimp only
    split
    ·simp; omega
    ·omega
  ·split
   ·show p.2.length ≤ _; omega
   ·split
    ·show p.2.length ≤ _; omega
    ·split
     ·show p.2.length ≤ _; omega
     ·split
      ·show p.2.length ≤ _; omega
      ·omega
 ·unfold st1
  split
  ·split
   ·exact h.rg
   ·dsimp only
    split
    ·rename_i he
     intro a ha
     rcases List.mem_append.1 ha with ha | ha
     ·exact h.rg a ha
     ·have ha := List.mem_singleton.1 ha
      unfold Mm.alloc at ha he
      rw [if_neg (by decide)] at ha he
      rcases p.1.old.alloc_cases x.h ⟨1, p.2.length + 1⟩ with h1 | ⟨_, _, _, h1⟩
      ·exact absurd he h1.1
      ·rw [h1] at ha
       have h2 := h.ok.o.lim
       have h3 := h.ok.ol
       have h4 := h.ok.ob
       simp only [Spc.top] at ha
       omega
    ·exact h.rg
  ·split
   ·exact h.rg
   ·split
    ·exact h.rg
    ·split
     ·exact h.rg
     ·split
      ·exact h.rg
      ·exact h.rg
end Go.Proofs.YtjpaogapclfajaaGreat
namespace Go.Proofs.YtjpaogapclfajaaGreat
open Go.RowKit Go.Sort
attribute [local go_sem] Oper.semAt_some
set_option maxRecDepth 100000
section
variable {w : World} {l : List Int} {A : Option Addr} {c : Nat}
set_option maxHeartbeats 1000000 in
theorem Pick_any (h : IS w l A c) (hl : l.length ≤ 1000000) (a : Int) (ha : -9223372036854775808 ≤ a ∧ a ≤ 9223372036854775807) : Calls Tryz.prog 54 #[.slice A l.length c, .int .i64 a] w fun e w' => e = .returned (.int .i64 (pick1 l a)) ∧ w = w' := by
 by_cases he : l = []
 ·subst he
  have hk := lh (show pick1 [] a = 0 by unfold pick1; rw [if_pos (.inl rfl)])
  clear h
  go_enter Tryz.func54, Tryz.ntmps54
  go_wp2_with fail
  go_ret
  rw [hk.out]
  exact ⟨rfl, rfl⟩
 ·have hp : 0 < l.length := List.length_pos_iff.2 he
  have hn : ((l.length : Int) == 0) = false := by simp; exact he
  by_cases ha0 : a < 0
  ·have hk := lh (show pick1 l a = 0 by unfold pick1; rw [if_pos (.inr ha0)])
   clear h he
   generalize l.length = N at *
   go_enter Tryz.func54, Tryz.ntmps54
   go_wp2_with fail
   go_ret
   rw [hk.out]
   exact ⟨rfl, rfl⟩
  ·obtain ⟨i, hi⟩ : ∃ i : Nat, a % (l.length : Int) = (i : Int) := ⟨(a % (l.length : Int)).toNat, by have := Int.emod_nonneg a (show (l.length : Int) ≠ 0 by omega); omega⟩
   have hil : i < l.length := by have := Int.emod_lt_of_pos a (show 0 < (l.length : Int) by omega); omega
   obtain ⟨b, o, rfl, hbl, hcc⟩ := h.sl.get hil
   obtain ⟨x, hx⟩ : ∃ x, l[i]? = some x := ⟨_, List.getElem?_eq_getElem hil⟩
   have cx : w.cell? ⟨b, o + i, none⟩ = some (.int .i64 x) := hcc _ _ (ints_get hx)
   have hk := lh (show pick1 l a = x by unfold pick1; rw [if_neg (by intro e; exact e.elim he ha0), hi, Int.toNat_natCast, List.getD_eq_getElem?_getD, hx]; rfl)
   have hic : i < c := by have := h.cap; omega
   have HI := lh hi
   have ha1 : 0 ≤ a := by omega
   have hne : (l.length : Int) ≠ 0 := by omega
   clear h he hcc hx hi
   generalize l.length = N at *
   have hi2 : a % (N : Int) = (i : Int) := HI.out
   have hi3 : a.tmod (N : Int) = (i : Int) := by rw [Int.tmod_eq_emod_of_nonneg ha1]; exact hi2
   have dn : decide (N ≤ i) = false := decide_eq_false (by omega)
   have dl : decide ((i : Int) < 0) = false := decide_eq_false (by omega)
   clear hi3
   go_enter Tryz.func54, Tryz.ntmps54
   go_wp2_with fail
   go_ret
   rw [hk.out]
   exact ⟨rfl, rfl⟩
theorem Word_any (a : Int) (w : World) : Calls Tryz.prog 51 #[.int .i64 a] w fun e w' => e = .returned (.int .u64 (frW a)) ∧ w = w' := by
 have cF := fun w => RFromAddress_any a w
 have hf : Hid (frW a = if inA a = true then adW a else 0) := lh rfl
 unfold frA at cF
 cases hin : inA a with
 | true =>
  rw [hin, if_pos rfl] at cF hf
  clear hin
  go_enter Tryz.func51, Tryz.ntmps51
  go_wp2_with fail
  refine (cF _).mono ?_
  rintro e w1 ⟨rfl, rfl⟩
  go_wp2_with fail
  go_ret
  rw [hf.out]
  exact ⟨rfl, rfl⟩
 | false =>
  rw [hin, if_neg (by decide)] at cF hf
  clear hin
  go_enter Tryz.func51, Tryz.ntmps51
  go_wp2_with fail
  refine (cF _).mono ?_
  rintro e w1 ⟨rfl, rfl⟩
  go_wp2_with fail
  go_ret
  rw [hf.out]
  exact ⟨rfl, rfl⟩
theorem Tryz.infoI1 : (Tryz.prog.info? 3).map (fun i => (i.zero, i.size, i.bytes)) = some (some (.int .i64 0), 1, 8) := by kernel_rfl
theorem Tryz.infoU : (Tryz.prog.info? 51).map (fun i => (i.zero, i.size, i.bytes)) = some (some (.int .u64 0), 1, 8) := by kernel_rfl
/-- what Roots returns -/
def RootsP (w : World) (l : List Int) (e : Ending) (w' : World) : Prop := ∃ v, e = .returned v ∧ w'.ownsRow w.heap.size 51 1 v l.length (wds l) ∧ Below w.heap.size w w'
variable {ch : List Int} {A2 : Option Addr} {c2 : Nat}
set_option maxHeartbeats 2000000 in
theorem Roots_any (h : IS w l A c) (hl : l.length ≤ 1000000) (h2 : IS w ch A2 c2) (hl2 : ch.length ≤ 1000000) (hr : ∀ x ∈ ch, -9223372036854775808 ≤ x ∧ x ≤ 9223372036854775807) : Calls Tryz.prog 15 #[.slice A l.length c, .slice A2 ch.length c2] w (RootsP w (rts1 l ch)) := by
 have H := lh h
 have H2 := lh h2
 have HR := lh hr
 have hcap2 := h2.cap
 clear h h2 hr
 go_enter Tryz.func15, Tryz.ntmps15
 go_wp2_with fail
 go_loopw [5, 6] (fun v i wr => ∃ j : Nat, i = .int .i64 (j : Int) ∧ j ≤ ch.length ∧ wr.ownsRow w.heap.size 51 1 v j (wds (rts1 l (ch.take j))) ∧ Below w.heap.size w wr) (fun _ i _ => ch.length - (intOf i).toNat)
 case atStart =>
  refine ⟨0, rfl, Nat.zero_le _, ?_, (Below.refl _ _).alloc (Nat.le_refl _) _⟩
  exact ownEmpty 1 (Bk.new _ _ _) (Nat.le_refl _)
 case round =>
  obtain ⟨j, rfl, hj, hown, hb⟩ := hrel
  have HO := lh hown
  have HB := lh hb
  clear hb
  by_cases hlt : j < ch.length
  ·obtain ⟨b, o, rfl, hbl, hcc⟩ := H2.out.sl.get hlt
   have t1 : ch[j]? = some ch[j] := List.getElem?_eq_getElem hlt
   have e1 : wr.cell? ⟨b, o + j, none⟩ = some (.int .i64 ch[j]) := (HB.out.cell (p := ⟨b, o + j, none⟩) hbl).trans (hcc j _ (ints_get t1))
   have hxr := HR.out ch[j] (List.getElem_mem hlt)
   have htk : Hid (rts1 l (ch.take (j + 1)) = rts1 l (ch.take j) ++ [if 0 ≤ ch[j] ∧ l ≠ [] then frW (pick1 l ch[j]) else 5]) := lh (by
    unfold rts1; rw [List.take_add_one, t1, List.map_append]; rfl)
   generalize ch[j] = x at e1 hxr htk
   have hcj : j < c2 := by omega
   obtain ⟨A0, c0, rfl, hac⟩ := own_shape hown
   obtain ⟨i0, hi, hz0, hz1, hz2⟩ := info_parts Tryz.infoU
   have HI := lh (And.intro hi (And.intro hz0 (And.intro hz1 hz2)))
   have hBw : w.heap.size ≤ wr.heap.size := HB.out.size
   clear t1 hcc hown hi hz0 hz1 hz2
   by_cases hx0 : 0 ≤ x
   ·by_cases hln : l = []
    ·have HT : Hid (rts1 l (ch.take (j + 1)) = rts1 l (ch.take j) ++ [5]) := lh (by rw [htk.out, if_neg (fun e => e.2 hln)])
     have hlz : (l.length : Int) = 0 := by rw [hln]; rfl
     have HLZ : Hid (l.length = 0) := lh (by rw [hln]; rfl)
     have hd : decide (0 < l.length) = false := decide_eq_false (by rw [hln]; simp)
     have hd2 : decide ((0 : Int) < (l.length : Int)) = false := decide_eq_false (by rw [hln]; simp)
     clear htk hln hlz
     go_wp2_with (at_builtin; refine wpList_append_own_at _ rfl (.tmp 32) (.tmp 34) 28 rfl w.heap.size 51 i0 (.int .u64 0) 1 8 Tryz.underlying28 HI.out.1 HI.out.2.1 HI.out.2.2.1 HI.out.2.2.2 rfl (by decide) _ j _ rfl (HO.out.alloc _) ⟨wr.heap.size, 0, none⟩ 1 1 [.int .u64 5] rfl rfl (cell_one_new _ _ _) (by simp [Value.oneCell']) (by unfold maxLen; omega) (by omega) (by simp; omega) ?_; intro v' w3 hown3 hg3 _ hloc; have HOWN3 := lh hown3; have HG3 := lh hg3; clear hown3 hg3 hloc)
     go_roundw
     case rel =>
      refine ⟨j + 1, by go_num, by omega, ?_, ?_⟩
      ·rw [HT.out, show wds (rts1 l (ch.take j) ++ [5]) = wds (rts1 l (ch.take j)) ++ [.int .u64 5] by simp [wds]]; exact HOWN3.out
      ·exact (HB.out.alloc (by omega) _).grown HG3.out (by simp; omega) (fun k hk => (HO.out.lt k hk).1)
     case measure => simp [intOf]; omega
    ·have hlp : 0 < l.length := List.length_pos_iff.2 hln
     have HT : Hid (rts1 l (ch.take (j + 1)) = rts1 l (ch.take j) ++ [frW (pick1 l x)]) := lh (by rw [htk.out, if_pos ⟨hx0, hln⟩])
     have cP := Pick_any (H.out.below HB.out) hl x hxr
     have cW := fun w => Word_any (pick1 l x) w
     clear htk hln
     obtain ⟨y, hy⟩ : ∃ y, y = frW (pick1 l x) := ⟨_, rfl⟩
     rw [← hy] at cW HT
     clear hy
     go_wp2_with (first | (go_at_call 54; refine cP.mono ?_; rintro e w1 ⟨rfl, rfl⟩) | (go_at_call 51; refine (cW _).mono ?_; rintro e w1 ⟨rfl, rfl⟩) | (at_builtin; refine wpList_append_own_at _ rfl (.tmp 32) (.tmp 34) 28 rfl w.heap.size 51 i0 (.int .u64 0) 1 8 Tryz.underlying28 HI.out.1 HI.out.2.1 HI.out.2.2.1 HI.out.2.2.2 rfl (by decide) _ j _ rfl (HO.out.alloc _) ⟨wr.heap.size, 0, none⟩ 1 1 [.int .u64 y] rfl rfl (cell_one_new _ _ _) (by simp [Value.oneCell']) (by unfold maxLen; omega) (by omega) (by simp; omega) ?_; intro v' w3 hown3 hg3 _ hloc; have HOWN3 := lh hown3; have HG3 := lh hg3; clear hown3 hg3 hloc))
     go_roundw
     case rel =>
      refine ⟨j + 1, by go_num, by omega, ?_, ?_⟩
      ·rw [HT.out, show wds (rts1 l (ch.take j) ++ [y]) = wds (rts1 l (ch.take j)) ++ [.int .u64 y] by simp [wds]]; exact HOWN3.out
      ·exact (HB.out.alloc (by omega) _).grown HG3.out (by simp; omega) (fun k hk => (HO.out.lt k hk).1)
     case measure => simp [intOf]; omega
   ·have HT : Hid (rts1 l (ch.take (j + 1)) = rts1 l (ch.take j) ++ [5]) := lh (by rw [htk.out, if_neg (fun e => hx0 e.1)])
    clear htk
    go_wp2_with (at_builtin; refine wpList_append_own_at _ rfl (.tmp 32) (.tmp 34) 28 rfl w.heap.size 51 i0 (.int .u64 0) 1 8 Tryz.underlying28 HI.out.1 HI.out.2.1 HI.out.2.2.1 HI.out.2.2.2 rfl (by decide) _ j _ rfl (HO.out.alloc _) ⟨wr.heap.size, 0, none⟩ 1 1 [.int .u64 5] rfl rfl (cell_one_new _ _ _) (by simp [Value.oneCell']) (by unfold maxLen; omega) (by omega) (by simp; omega) ?_; intro v' w3 hown3 hg3 _ hloc; have HOWN3 := lh hown3; have HG3 := lh hg3; clear hown3 hg3 hloc)
    go_roundw
    case rel =>
     refine ⟨j + 1, by go_num, by omega, ?_, ?_⟩
     ·rw [HT.out, show wds (rts1 l (ch.take j) ++ [5]) = wds (rts1 l (ch.take j)) ++ [.int .u64 5] by simp [wds]]; exact HOWN3.out
     ·exact (HB.out.alloc (by omega) _).grown HG3.out (by simp; omega) (fun k hk => (HO.out.lt k hk).1)
    case measure => simp [intOf]; omega
  ·obtain ⟨A0, c0, rfl, hac⟩ := own_shape hown
   clear hown
   go_wp2_with fail
   go_ret
   have e : j = ch.length := by omega
   have ho := HO.out
   rw [e, List.take_of_length_le (Nat.le_refl _)] at ho
   refine ⟨_, rfl, ?_, HB.out⟩
   have e2 : (rts1 l ch).length = ch.length := by simp [rts1]
   rw [e2, e]
   exact ho
end
end Go.Proofs.YtjpaogapclfajaaGreat
namespace Go.Proofs.YtjpaogapclfajaaGreat
open Go.RowKit Go.Maps
attribute [local go_sem] Oper.semAt_some
set_option maxRecDepth 100000
/-- the marks of a memory: the strongly and the weakly marked objects -/
def MkR (w : World) (B g b : Nat) (m : Mm) (sg wl : List Int) : Prop := MkR0 w B g b (sg ++ wl).length (mkF sg wl) (wSum m (sg ++ wl))
def Keeps (sg wl : List Int) (a : Int) : Bool := sg.contains a || wl.contains a
theorem mkF_no {sg wl : List Int} {a : Int} (h : Keeps sg wl a = false) : mkF sg wl a = none := by
 unfold Keeps at h
 rw [Bool.or_eq_false_iff] at h
 unfold mkF
 rw [if_neg (by rw [h.1]; simp), if_neg (by rw [h.2]; simp)]
theorem mkF_strong {sg wl : List Int} {a : Int} (h : sg.contains a = true) : mkF sg wl a = some 2 := by unfold mkF; rw [if_pos h]
theorem mkF_weak {sg wl : List Int} {a : Int} (h : sg.contains a = false) (h2 : wl.contains a = true) : mkF sg wl a = some 1 := by unfold mkF; rw [if_neg (by rw [h]; simp), if_pos h2]
theorem mkF_putW {sg wl : List Int} {a : Int} (h : Keeps sg wl a = false) (x : Int) : updZ (mkF sg wl) a 1 x = mkF sg (wl ++ [a]) x := by
 unfold Keeps at h
 rw [Bool.or_eq_false_iff] at h
 unfold updZ
 by_cases hx : x = a
 ·subst hx
  rw [if_pos rfl, mkF_weak h.1 (by simp)]
 ·rw [if_neg hx]
  unfold mkF
  simp [hx]
theorem mkF_putS {sg : List Int} {a : Int} (x : Int) : updZ (mkF sg []) a 2 x = mkF (sg ++ [a]) [] x := by
 unfold updZ
 by_cases hx : x = a
 ·subst hx
  rw [if_pos rfl, mkF_strong (by simp)]
 ·rw [if_neg hx]
  unfold mkF
  simp [hx]
theorem MkR.putW {w : World} {B g b : Nat} {m : Mm} {sg wl : List Int} {a : Int} (h : MkR0 w B g b ((sg ++ wl).length + 1) (updZ (mkF sg wl) a 1) (wSum m (sg ++ wl) + wH (m.hdr a).2)) (hk : Keeps sg wl a = false) : MkR w B g b m sg (wl ++ [a]) := by
 unfold MkR
 rw [← List.append_assoc, wSum_app, wSum_one, List.length_append]
 exact ⟨h.hd, h.mp.congr fun x _ => mkF_putW hk x, h.ge, h.gm⟩
theorem MkR.putS {w : World} {B g b : Nat} {m : Mm} {sg : List Int} {a : Int} (h : MkR0 w B g b ((sg ++ []).length + 1) (updZ (mkF sg []) a 2) (wSum m (sg ++ []) + wH (m.hdr a).2)) : MkR w B g b m (sg ++ [a]) [] := by
 unfold MkR
 simp only [List.append_nil] at h ⊢
 rw [wSum_app, wSum_one, List.length_append]
 exact ⟨h.hd, h.mp.congr fun x _ => mkF_putS x, h.ge, h.gm⟩
section
variable {w : World} {Bm g b : Nat} {m : Mm} {sg wl : List Int}
end
section
variable {w : World} {B g1 g2 Bm g b : Nat} {V1 V2 : Value} {m : Mm} {sg wl : List Int}
def KeepP (w : World) (Bm g b : Nat) (m : Mm) (sg wl wl' : List Int) (q : Bool) (e : Ending) (w' : World) : Prop := e = .returned (.bool q) ∧ MkR w' Bm g b m sg wl' ∧ Kp (fun k => k = g ∨ k = b) w w'
set_option maxHeartbeats 2000000 in
theorem keep_any (h : MR w B g1 g2 V1 V2 m) (hm : MkR w Bm g b m sg wl) (hl : (sg ++ wl).length ≤ 100000000) (a : Int) (ha : -9223372036854775808 ≤ a ∧ a ≤ 9223372036854775807) :
  Calls Tryz.prog 65 #[.pointer (some ⟨g, 0, none⟩), .agg #[.pointer (some ⟨g1, 0, none⟩), .pointer (some ⟨g2, 0, none⟩)], .int .i64 a] w (KeepP w Bm g b m sg wl (m.keepW sg wl a) (Keeps sg (m.keepW sg wl a) a)) := by
 have HB := lh (boxM w g1 g2)
 have cH := MHdr_of (h.below HB.out) a
 have HM := lh (hm.below HB.out)
 have H := lh (h.below HB.out)
 have HQ := lh (Bk.new w 27 #[.pointer (some ⟨g1, 0, none⟩), .pointer (some ⟨g2, 0, none⟩)])
 have HWA : Hid ((Lit.int .i64 a).wf = true) := lh (WalkArith.wf_i64 (by omega))
 have HA := lh ha
 have HL := lh hl
 obtain ⟨hh, hhh⟩ : ∃ hh, hh = (m.hdr a).2 := ⟨_, rfl⟩
 obtain ⟨er, her⟩ : ∃ er, er = (m.hdr a).1 := ⟨_, rfl⟩
 rw [← hhh, ← her] at cH
 have HHH := lh hhh
 have HG := lh hm
 clear h hm ha her hhh hl
 cases hk : Keeps sg wl a with
 | true =>
  have HE : Hid (m.keepW sg wl a = wl) := lh (by
   unfold Mm.keepW
   rw [if_neg]
   rintro ⟨h1, h2, _⟩
   unfold Keeps at hk
   rw [h1, h2] at hk
   cases hk)
  obtain ⟨v, hv0, hv⟩ : ∃ v : Int, (v == 0) = false ∧ (mkF sg wl a).getD 0 = v := by
   cases hs : sg.contains a with
   | true => exact ⟨2, rfl, by rw [mkF_strong hs]; rfl⟩
   | false =>
    cases hw : wl.contains a with
    | true => exact ⟨1, rfl, by rw [mkF_weak hs hw]; rfl⟩
    | false => unfold Keeps at hk; rw [hs, hw] at hk; cases hk
  have HV := lh hv
  have hv1 : (v != 0) = true := by simp at hv0; simp [hv0]
  have HKK := lh hk
  clear hv hk
  go_enter Tryz.func65, Tryz.ntmps65
  go_wp2_with fail
  refine cH.mono ?_
  rintro e w2 ⟨rfl, hb⟩
  have HB2 := lh (HB.out.trans (hb.mono HB.out.size))
  have hm2 := HM.out.below hb
  have HM2 : Hid (MkR w2 Bm g b m sg wl) := lh hm2
  have c0 : w2.cell? ⟨g, 0, none⟩ = some (.map (some b)) := hm2.hd.cell 0
  have hgl := hm2.hd.lt
  have hne : w2.heap.size ≠ g := by omega
  clear hb cH hm2
  go_wp2_with (first | (refine wpList_map_look hKI hKI hMI hZI rfl (m := .tmp 18) (x := .tmp 19) rfl (HM2.out.mp.alloc _) rfl rfl HWA.out ?_; rw [HV.out]) | (refine wpList_map_look hKI hKI hMI hZI rfl (m := .tmp 34) (x := .tmp 35) rfl (HM2.out.mp.alloc _) rfl rfl HWA.out ?_; rw [HV.out]))
  go_ret
  have hbl : Below w2.heap.size w2 (w2.alloc (.cells #[.int .i64 hh.k, .int .i64 hh.c, .int .i64 hh.f] 55)) := (Below.refl _ _).alloc (Nat.le_refl _) _
  rw [HE.out, HKK.out]
  exact ⟨rfl, HM2.out.below hbl, (Kp.of_below HB2.out).trans (Kp.of_below (S := fun _ => False) hbl) fun _ _ h => h.elim⟩
 | false =>
  have HV := lh (mkF_no hk)
  have HKK := lh hk
  by_cases h3 : hh.k = 3
  ·have HE : Hid (m.keepW sg wl a = wl ++ [a]) := lh (by
    unfold Mm.keepW
    unfold Keeps at hk
    rw [Bool.or_eq_false_iff] at hk
    rw [if_pos ⟨hk.1, hk.2, by rw [← HHH.out]; exact h3⟩])
   have e3 : (hh.k == 3) = true := by simp [h3]
   clear h3 hk
   go_enter Tryz.func65, Tryz.ntmps65
   go_wp2_with fail
   refine cH.mono ?_
   rintro e w2 ⟨rfl, hb⟩
   have HB2 := lh (HB.out.trans (hb.mono HB.out.size))
   have hm2 := HM.out.below hb
   have HM2 : Hid (MkR w2 Bm g b m sg wl) := lh hm2
   have H2 := lh (H.out.below hb)
   have hq2 := HQ.out.below hb HQ.out.lt
   have c0 : w2.cell? ⟨g, 0, none⟩ = some (.map (some b)) := hm2.hd.cell 0
   have q0 : w2.cell? ⟨w.heap.size, 0, none⟩ = some (.pointer (some ⟨g1, 0, none⟩)) := hq2.cell 0
   have q1 : w2.cell? ⟨w.heap.size, 1, none⟩ = some (.pointer (some ⟨g2, 0, none⟩)) := hq2.cell 1
   have hgl := hm2.hd.lt
   have hql := hq2.lt
   have hne : w2.heap.size ≠ g := by omega
   have hne2 : w2.heap.size ≠ w.heap.size := by omega
   have hbl : Below w2.heap.size w2 (w2.alloc (.cells #[.int .i64 hh.k, .int .i64 hh.c, .int .i64 hh.f] 55)) := (Below.refl _ _).alloc (Nat.le_refl _) _
   have cP := put_any (H2.out.below hbl) (MkR0.below HM2.out hbl) (by have := HL.out; omega) (wSum_rg m (sg ++ wl)).1 (by have := (wSum_rg m (sg ++ wl)).2; have := HL.out; omega) a 1 HA.out (.inl rfl)
   have HBL := lh hbl
   clear hb cH hm2 hbl hq2
   go_wp2_with (refine wpList_map_look hKI hKI hMI hZI rfl (m := .tmp 18) (x := .tmp 19) rfl (HM2.out.mp.alloc _) rfl rfl HWA.out ?_; rw [HV.out]; dsimp only [Option.getD_none])
   refine cP.mono ?_
   rintro e w3 ⟨rfl, hm3, hk3⟩
   have HM3 := lh hm3
   have HK3 := lh hk3
   have d0 : w3.cell? ⟨g, 0, none⟩ = some (.map (some b)) := hm3.hd.cell 0
   clear hm3 hk3 cP
   have HU : Hid ((updZ (mkF sg wl) a 1 a).getD 0 = 1) := lh (by unfold updZ; rw [if_pos rfl]; rfl)
   go_wp2_with (refine wpList_map_look hKI hKI hMI hZI rfl (m := .tmp 34) (x := .tmp 35) rfl HM3.out.mp rfl rfl HWA.out ?_; rw [HU.out])
   go_ret
   rw [HE.out]
   refine ⟨ret_bool ?_, MkR.putW HM3.out HKK.out, ((Kp.of_below HB2.out).trans (Kp.of_below (S := fun _ => False) HBL.out) fun _ _ h => h.elim).trans HK3.out fun _ _ h => h⟩
   unfold Keeps
   simp
  ·have HE : Hid (m.keepW sg wl a = wl) := lh (by
    unfold Mm.keepW
    rw [if_neg]
    rintro ⟨_, _, h4⟩
    rw [← HHH.out] at h4
    exact h3 h4)
   have e3 : (hh.k == 3) = false := by simp [h3]
   clear h3 hk
   go_enter Tryz.func65, Tryz.ntmps65
   go_wp2_with fail
   refine cH.mono ?_
   rintro e w2 ⟨rfl, hb⟩
   have HB2 := lh (HB.out.trans (hb.mono HB.out.size))
   have hm2 := HM.out.below hb
   have HM2 : Hid (MkR w2 Bm g b m sg wl) := lh hm2
   have c0 : w2.cell? ⟨g, 0, none⟩ = some (.map (some b)) := hm2.hd.cell 0
   have hgl := hm2.hd.lt
   have hne : w2.heap.size ≠ g := by omega
   clear hb cH hm2
   go_wp2_with (first | (refine wpList_map_look hKI hKI hMI hZI rfl (m := .tmp 18) (x := .tmp 19) rfl (HM2.out.mp.alloc _) rfl rfl HWA.out ?_; rw [HV.out]; dsimp only [Option.getD_none]) | (refine wpList_map_look hKI hKI hMI hZI rfl (m := .tmp 34) (x := .tmp 35) rfl (HM2.out.mp.alloc _) rfl rfl HWA.out ?_; rw [HV.out]; dsimp only [Option.getD_none]))
   go_ret
   have hbl : Below w2.heap.size w2 (w2.alloc (.cells #[.int .i64 hh.k, .int .i64 hh.c, .int .i64 hh.f] 55)) := (Below.refl _ _).alloc (Nat.le_refl _) _
   rw [HE.out, HKK.out]
   exact ⟨rfl, HM2.out.below hbl, (Kp.of_below HB2.out).trans (Kp.of_below (S := fun _ => False) hbl) fun _ _ h => h.elim⟩
end
end Go.Proofs.YtjpaogapclfajaaGreat
namespace Go.Proofs.YtjpaogapclfajaaGreat
open Go.RowKit Go.Maps
attribute [local go_sem] Oper.semAt_some
set_option maxRecDepth 100000
theorem Tryz.infoI : (Tryz.prog.info? 3).map (fun i => (i.zero, i.size, i.bytes)) = some (some (.int .i64 0), 1, 8) := by kernel_rfl
/-- the row behind block N does not lie in block T -/
def ApartR (w : World) (N T : Nat) : Prop := ∀ v, w.cell? ⟨N, 0, none⟩ = some v → v.ownBlock ≠ some T
/-- what the closure leaves alone -/
structure FR (Ns g b : Nat) (w w' : World) : Prop where
 sz : w.heap.size ≤ w'.heap.size
 bk : ∀ T, T < w.heap.size → T ≠ g → T ≠ b → T ≠ Ns → ApartR w Ns T → w'.heap[T]? = w.heap[T]? ∧ ApartR w' Ns T
section
variable {Ns g b : Nat} {w w1 w2 : World}
theorem FR.refl : FR Ns g b w w := ⟨Nat.le_refl _, fun T _ _ _ _ h => ⟨rfl, h⟩⟩
theorem FR.trans (h : FR Ns g b w w1) (h' : FR Ns g b w1 w2) : FR Ns g b w w2 :=
 ⟨Nat.le_trans h.sz h'.sz, fun T h0 h1 h2 h3 h4 => by
  obtain ⟨e1, a1⟩ := h.bk T h0 h1 h2 h3 h4
  obtain ⟨e2, a2⟩ := h'.bk T (Nat.lt_of_lt_of_le h0 h.sz) h1 h2 h3 a1
  exact ⟨e2.trans e1, a2⟩⟩
theorem FR.kp (hk : Kp (fun k => k = g ∨ k = b) w w1) (hN : Ns < w.heap.size) (h1 : Ns ≠ g) (h2 : Ns ≠ b) : FR Ns g b w w1 :=
 ⟨hk.size, fun T h0 t1 t2 _ h4 => ⟨hk.block T h0 (fun e => e.elim t1 t2), fun v hv => h4 v (by
  rw [← hv]
  exact (World.cell?_of_block (w := w) (a := ⟨Ns, 0, none⟩) (hk.block Ns hN fun e => e.elim h1 h2)).symm)⟩⟩
theorem FR.below (hb : Below w.heap.size w w1) (hN : Ns < w.heap.size) : FR Ns g b w w1 :=
 ⟨hb.size, fun T h0 _ _ _ h4 => ⟨hb.block T h0, fun v hv => h4 v (by
  rw [← hv]
  exact (World.cell?_of_block (w := w) (a := ⟨Ns, 0, none⟩) (hb.block Ns hN)).symm)⟩⟩
end
theorem ownRow_bk {w : World} {B g n s : Nat} {e t : TypeId} {V : Value} {xs : List Value} {c : Array Value} (hl : w.ownsRow B e s V n xs) (h : Bk w g t c) (ht : t ≠ e) : V.ownBlock ≠ some g := fun he => by
 obtain ⟨_, ⟨rfl, _⟩ | ⟨g2, cap, cur, rfl, _, h4, _⟩⟩ := hl
 ·cases he
 ·injection he with he
  change g2 = g at he
  rw [he] at h4
  unfold Bk at h
  rw [h] at h4
  injection h4 with h4
  injection h4 with _ h4
  exact ht h4
theorem Bk.neT {w : World} {g g' : Nat} {t t' : TypeId} {C C' : Array Value} (h : Bk w g t C) (h' : Bk w g' t' C') (ht : t ≠ t') : g ≠ g' := fun e => by
 subst e
 unfold Bk at h h'
 rw [h] at h'
 cases h'
 exact ht rfl
/-- the world of the closure -/
structure VR (w : World) (B B1 Nm Nx Ns g b g1 gy : Nat) (V1 V2 : Value) (m : Mm) (k : List Int × List Int) : Prop where
 bm : Bk w Nm 27 #[.pointer (some ⟨g1, 0, none⟩), .pointer (some ⟨gy, 0, none⟩)]
 bx : Bk w Nx 36 #[.pointer (some ⟨g, 0, none⟩)]
 mr : MR w B1 g1 gy V1 V2 m
 kr : MkR w B g b m k.2 []
 bs : ∃ v, Bk w Ns 23 #[v] ∧ w.ownsRow B 3 1 v k.1.length (ints k.1)
 ns : B ≤ Ns
 ki : m.MkI k
section
variable {w w' : World} {B B1 Nm Nx Ns g b g1 gy : Nat} {V1 V2 : Value} {m : Mm} {k : List Int × List Int}
theorem VR.below (h : VR w B B1 Nm Nx Ns g b g1 gy V1 V2 m k) (hb : Below w.heap.size w w') : VR w' B B1 Nm Nx Ns g b g1 gy V1 V2 m k :=
 ⟨h.bm.below hb h.bm.lt, h.bx.below hb h.bx.lt, h.mr.below hb, MkR0.below h.kr hb, let ⟨v, h1, h2⟩ := h.bs; ⟨v, h1.below hb h1.lt, own_local h2 fun q hq => hb.block q (h2.lt q hq).2⟩, h.ns, h.ki⟩
theorem VR.nsLt (h : VR w B B1 Nm Nx Ns g b g1 gy V1 V2 m k) : Ns < w.heap.size := let ⟨_, h1, _⟩ := h.bs; h1.lt
theorem VR.nsG (h : VR w B B1 Nm Nx Ns g b g1 gy V1 V2 m k) : Ns ≠ g ∧ Ns ≠ b := let ⟨_, h1, _⟩ := h.bs; ⟨h1.neT h.kr.hd (by decide), h.kr.mp.ne_bk h1⟩
/-- an object, marked -/
theorem VR.push {w2 w3 : World} {v v' : Value} {a : Int} {o : Obj} (h : VR w B B1 Nm Nx Ns g b g1 gy V1 V2 m k) (hki : m.MkI (k.1 ++ [a], k.2 ++ [a]))
  (hbs : Bk w Ns 23 #[v]) (hown : w.ownsRow B 3 1 v k.1.length (ints k.1))
  (hm2 : MkR w2 B g b m (k.2 ++ [a]) []) (hk2 : Kp (fun k => k = g ∨ k = b) w w2) (hown3 : w3.ownsRow B 3 1 v' (k.1.length + 1) (ints k.1 ++ [.int .i64 a])) (hg3 : (w2.alloc o).grownBy w3 v.ownBlock) (hloc : v'.ownBlock = v.ownBlock ∨ v'.ownBlock = some (w2.alloc o).heap.size) :
  VR (w3.setCell ⟨Ns, 0, none⟩ v') B B1 Nm Nx Ns g b g1 gy V1 V2 m (k.1 ++ [a], k.2 ++ [a]) ∧ FR Ns g b w (w3.setCell ⟨Ns, 0, none⟩ v') ∧ Below B w (w3.setCell ⟨Ns, 0, none⟩ v') := by
 obtain ⟨n1, n2⟩ := h.nsG
 have hbg := h.kr.ge
 have hbb := h.kr.gm
 have hvB : ∀ q, v.ownBlock = some q → B ≤ q := fun q hq => (hown.lt q hq).1
 have hNl := hbs.lt
 have vNm : v.ownBlock ≠ some Nm := ownRow_bk hown h.bm (by decide)
 have vNx : v.ownBlock ≠ some Nx := ownRow_bk hown h.bx (by decide)
 have vg : v.ownBlock ≠ some g := ownRow_bk hown h.kr.hd (by decide)
 have vNs : v.ownBlock ≠ some Ns := ownRow_bk hown hbs (by decide)
 have vb : v.ownBlock ≠ some b := h.kr.mp.ne_own hown
 have sz2 := hk2.size
 have sz3 := hg3.size
 simp only [World.size_alloc] at sz3
 have kp : ∀ q, q < w.heap.size → q ≠ g → q ≠ b → v.ownBlock ≠ some q → w3.heap[q]? = w.heap[q]? := fun q h0 h1 h2 h3 => by
  rw [hg3.block q (by simp; omega) (fun e => h3 e.symm), Below.heap_alloc _ _ _ (by omega), hk2.block q h0 (fun e => e.elim h1 h2)]
 have hkp : Kp (fun q => q = g ∨ q = b ∨ v.ownBlock = some q) w w3 := ⟨hg3.os.trans hk2.os, hg3.tape.trans hk2.tape, hg3.output.trans hk2.output, by omega, fun q h0 h1 => kp q h0 (fun e => h1 (.inl e)) (fun e => h1 (.inr (.inl e))) (fun e => h1 (.inr (.inr e)))⟩
 have hkS : Kp (fun q => q = g ∨ q = b ∨ v.ownBlock = some q ∨ q = Ns) w (w3.setCell ⟨Ns, 0, none⟩ v') := (hkp.mono fun q _ e => e.elim .inl fun e => e.elim (fun e => .inr (.inl e)) fun e => .inr (.inr (.inl e))).trans (Kp.setCell (S := fun q => q = Ns) w3 ⟨Ns, 0, none⟩ v' rfl) fun q _ e => .inr (.inr (.inr e))
 have nbS : ∀ {g' : Nat} {t : TypeId} {cs : Array Value}, Bk w g' t cs → t ≠ 103 → t ≠ 23 → t ≠ 3 → ¬ (g' = g ∨ g' = b ∨ v.ownBlock = some g' ∨ g' = Ns) := fun hb t1 t2 t3 e => by
  rcases e with rfl | rfl | e | rfl
  ·exact Bk.neT hb h.kr.hd t1 rfl
  ·exact h.kr.mp.ne_bk hb rfl
  ·exact ownRow_bk hown hb t3 e
  ·exact Bk.neT hb hbs t2 rfl
 have noS : ∀ {V : Value} {g' : Nat} {s : Spc}, SpR w B1 g' s V → ∀ q, V.ownBlock = some q → ¬ (q = g ∨ q = b ∨ v.ownBlock = some q ∨ q = Ns) := fun hs q hq e => by
  rcases e with rfl | rfl | e | rfl
  ·exact hs.own_ne h.kr.hd (by decide) hq
  ·exact h.kr.mp.ne_own hs.own hq
  ·obtain ⟨_, ⟨rfl, _⟩ | ⟨g', cap, cur, rfl, _, h4, _⟩⟩ := hown
   ·cases e
   ·injection e with e
    subst e
    exact hs.own_ne (show Bk w _ 3 cur from h4) (by decide) hq
  ·exact hs.own_ne hbs (by decide) hq
 have hbs3 : Bk w3 Ns 23 #[v] := hbs.kp hkp fun e => e.elim n1 fun e => e.elim n2 vNs
 have hm3 : MkR w3 B g b m (k.2 ++ [a]) [] := by
  have hgl := hm2.hd.lt
  have hbl := hm2.mp.lt
  have eg : w3.heap[g]? = w2.heap[g]? := by rw [hg3.block g (by simp; omega) (fun e => vg e.symm), Below.heap_alloc _ _ _ (by omega)]
  have eb : w3.heap[b]? = w2.heap[b]? := by rw [hg3.block b (by simp; omega) (fun e => vb e.symm), Below.heap_alloc _ _ _ (by omega)]
  exact ⟨eg.trans hm2.hd, hm2.mp.block eb, hm2.ge, hm2.gm⟩
 have v'Ns : ∀ q, v'.ownBlock = some q → q ≠ Ns := fun q hq e => by
  subst e
  rcases hloc with hl | hl
  ·rw [hl] at hq; exact vNs hq
  ·rw [hl] at hq
   have := Option.some.inj hq
   simp only [World.size_alloc] at this
   omega
 refine ⟨⟨h.bm.kp hkS (nbS h.bm (by decide) (by decide) (by decide)), h.bx.kp hkS (nbS h.bx (by decide) (by decide) (by decide)), ?_, ?_, ⟨v', hbs3.set 0 v', ?_⟩, h.ns, hki⟩, ⟨by simp [World.setCell]; omega, fun T h0 t1 t2 t3 h4 => ?_⟩, ?_⟩
 ·exact ⟨h.mr.o.kp hkS (nbS h.mr.o.hd (by decide) (by decide) (by decide)) (noS h.mr.o), h.mr.y.kp hkS (nbS h.mr.y.hd (by decide) (by decide) (by decide)) (noS h.mr.y), h.mr.ok, h.mr.gg, h.mr.vv⟩
 ·exact ⟨hm3.hd.far (Ne.symm n1) _, hm3.mp.setCell (Ne.symm n2) _, hm3.ge, hm3.gm⟩
 ·have e : ints (k.1 ++ [a]) = ints k.1 ++ [.int .i64 a] := by simp [ints]
  rw [e, List.length_append, List.length_singleton]
  exact own_local hown3 fun q hq => Below.heap_setCell _ _ _ _ (v'Ns q hq)
 ·have hv := h4 v (hbs.cell 0)
  refine ⟨(Below.heap_setCell _ _ _ _ t3).trans (kp T h0 t1 t2 hv), fun u hu => ?_⟩
  have e : (w3.setCell ⟨Ns, 0, none⟩ v').cell? ⟨Ns, 0, none⟩ = some v' := (hbs3.set 0 v').cell 0
  rw [e] at hu
  obtain rfl := Option.some.inj hu
  rcases hloc with hl | hl
  ·rw [hl]; exact hv
  ·rw [hl]
   intro e2
   have := Option.some.inj e2
   simp only [World.size_alloc] at this
   omega
 ·have hBw : B ≤ w.heap.size := by have := h.ns; omega
  refine hkS.toBelow (Below.refl _ w) hBw fun q hq => ?_
  rcases hq with rfl | rfl | e | rfl
  ·exact hbg
  ·exact hbb
  ·exact hvB q e
  ·exact h.ns
end
def visE (o : Option (List Int × List Int)) : Int := match o with | some _ => 0 | none => 11
def VisP (w : World) (B B1 Nm Nx Ns g b g1 gy : Nat) (V1 V2 : Value) (m : Mm) (o : Option (List Int × List Int)) (e : Ending) (w' : World) : Prop :=
 e = .returned (.int .i64 (visE o)) ∧ Below B w w' ∧ (∀ k', o = some k' → VR w' B B1 Nm Nx Ns g b g1 gy V1 V2 m k') ∧ FR Ns g b w w'
section
variable {w : World} {B B1 Nm Nx Ns g b g1 gy : Nat} {V1 V2 : Value} {m : Mm} {k : List Int × List Int} {l : List Int} {A : Option Addr} {c : Nat}
set_option maxHeartbeats 4000000 in
theorem visit_any (h : VR w B B1 Nm Nx Ns g b g1 gy V1 V2 m k) (hs : Sl w 1 A l.length (wds l)) (hlc : l.length ≤ c) (hll : l.length ≤ 1000000000) (hu : ∀ x ∈ l, U64 x) (hA : ∀ b' o, A = some ⟨b', o, none⟩ → b' ≠ g ∧ b' ≠ b ∧ b' ≠ Ns ∧ ApartR w Ns b') (hm : m.size ≤ 20000000) :
  Calls Tryz.prog 60 #[.slice A l.length c, .pointer (some ⟨Nm, 0, none⟩), .pointer (some ⟨Nx, 0, none⟩), .pointer (some ⟨Ns, 0, none⟩)] w (VisP w B B1 Nm Nx Ns g b g1 gy V1 V2 m (m.vis l k)) := by
 obtain ⟨R, hR⟩ : ∃ R, R = m.vis l k := ⟨_, rfl⟩
 rw [← hR]
 have HR := lh hR
 have H := lh h
 have HS := lh hs
 have HU := lh hu
 have HA := lh hA
 have HM := lh hm
 clear h hR hs hu hA hm
 go_enter Tryz.func60, Tryz.ntmps60
 go_wp2_with fail
 go_loopw [13] (fun i wr => ∃ (j : Nat) (kj : List Int × List Int), i = .int .i64 (j : Int) ∧ j ≤ l.length ∧ VR wr B B1 Nm Nx Ns g b g1 gy V1 V2 m kj ∧ Hid (R = m.vis (l.drop j) kj) ∧ FR Ns g b w wr ∧ Below B w wr) (fun i _ => l.length - (intOf i).toNat)
 case atStart => exact ⟨0, k, rfl, Nat.zero_le _, H.out, lh HR.out, FR.refl, Below.refl _ _⟩
 case round =>
  obtain ⟨j, kj, rfl, hj, hv, HRj, hfr, hbw⟩ := hrel
  have HV := lh hv
  have HF := lh hfr
  have HB := lh hbw
  clear hv hfr hbw
  by_cases hlt : j < l.length
  ·obtain ⟨bb, oo, rfl, hb1, hc1⟩ := HS.out.get hlt
   have t1 : l[j]? = some l[j] := List.getElem?_eq_getElem hlt
   have hdr : l.drop j = l[j] :: l.drop (j + 1) := List.drop_eq_getElem_cons hlt
   have e0 : w.cell? ⟨bb, oo + j, none⟩ = some (.int .u64 l[j]) := hc1 j _ (wds_get t1)
   obtain ⟨a1, a2, a3, a4⟩ := HA.out bb oo rfl
   have e1 : wr.cell? ⟨bb, oo + j, none⟩ = some (.int .u64 l[j]) := (World.cell?_of_block (w := w) (a := ⟨bb, oo + j, none⟩) (HF.out.bk bb hb1 a1 a2 a3 a4).1).trans e0
   have HXU := lh (HU.out l[j] (List.getElem_mem hlt))
   have HRJ : Hid (R = m.vis (l[j] :: l.drop (j + 1)) kj) := lh (by rw [← hdr]; exact HRj.out)
   generalize l[j] = x at e1 t1 HXU HRJ
   have hcc : j < c := by omega
   have m0 : wr.cell? ⟨Nm, 0, none⟩ = some (.pointer (some ⟨g1, 0, none⟩)) := HV.out.bm.cell 0
   have m1 : wr.cell? ⟨Nm, 1, none⟩ = some (.pointer (some ⟨gy, 0, none⟩)) := HV.out.bm.cell 1
   have cR := refers_any HV.out.mr HXU.out
   clear hdr e0 a1 a2 a3 a4 hc1 t1 HRj
   cases hr : m.rfr x with
   | none =>
    rw [hr] at cR
    unfold rfrV at cR
    have HE : Hid (R = none) := lh (by rw [HRJ.out]; unfold Mm.vis Mm.vis1; rw [hr])
    clear hr
    go_wp2_with fail
    refine cR.mono ?_
    rintro e w1 ⟨rfl, hb⟩
    have HB1 := lh hb
    clear hb cR
    go_wp2_with fail
    go_ret
    rw [HE.out]
    exact ⟨rfl, HB.out.trans (HB1.out.mono (by have := HV.out.ns; have := HV.out.nsLt; omega)), (fun k' hk' => by cases hk'), HF.out.trans (FR.below HB1.out HV.out.nsLt)⟩
   | some o =>
    cases o with
    | none =>
     rw [hr] at cR
     unfold rfrV at cR
     have HE : Hid (R = m.vis (l.drop (j + 1)) kj) := lh (by rw [HRJ.out]; conv => lhs; unfold Mm.vis Mm.vis1; rw [hr])
     clear hr
     go_wp2_with fail
     refine cR.mono ?_
     rintro e w1 ⟨rfl, hb⟩
     have HB1 := lh hb
     clear hb cR
     go_wp2_with fail
     go_roundw
     case rel => exact ⟨j + 1, kj, by go_num, by omega, HV.out.below HB1.out, HE, HF.out.trans (FR.below HB1.out HV.out.nsLt), HB.out.trans (HB1.out.mono (by have := HV.out.ns; have := HV.out.nsLt; omega))⟩
     case measure => simp [intOf]; omega
    | some a =>
     rw [hr] at cR
     unfold rfrV at cR
     have hab : 0 ≤ a ∧ a ≤ 4294967296 := by
      have h1 := Mm.hdr_has (Mm.rfr_hdr hr).1
      unfold Mm.has Mm.sp at h1
      split at h1
      ·have := HV.out.mr.ok.old_lt h1; omega
      ·have := HV.out.mr.ok.yng_ge h1; omega
     have HWA : Hid ((Lit.int .i64 a).wf = true) := lh (WalkArith.wf_i64 (by omega))
     have x0 : wr.cell? ⟨Nx, 0, none⟩ = some (.pointer (some ⟨g, 0, none⟩)) := HV.out.bx.cell 0
     have g0 : wr.cell? ⟨g, 0, none⟩ = some (.map (some b)) := HV.out.kr.hd.cell 0
     have gl := HV.out.kr.hd.lt
     have xl := HV.out.bx.lt
     have ml := HV.out.bm.lt
     cases hct : kj.2.contains a with
     | true =>
      have HE : Hid (R = m.vis (l.drop (j + 1)) kj) := lh (by rw [HRJ.out]; conv => lhs; unfold Mm.vis Mm.vis1; rw [hr]; simp only; rw [if_pos hct])
      have HV2 : Hid ((mkF kj.2 [] a).getD 0 = 2) := lh (by rw [mkF_strong hct]; rfl)
      clear hr hct
      go_wp2_with fail
      refine cR.mono ?_
      rintro e w1 ⟨rfl, hb⟩
      have HB1 := lh hb
      have HV1 := lh (HV.out.below hb)
      have x01 : w1.cell? ⟨Nx, 0, none⟩ = some (.pointer (some ⟨g, 0, none⟩)) := HV1.out.bx.cell 0
      have g01 : w1.cell? ⟨g, 0, none⟩ = some (.map (some b)) := HV1.out.kr.hd.cell 0
      clear hb cR
      have hlk := HV1.out.kr.mp.look hKI hKI hMI hZI HWA.out
      rw [HV2.out] at hlk
      go_wp2_with fail
      go_roundw
      case rel => exact ⟨j + 1, kj, by go_num, by omega, HV1.out, HE, HF.out.trans (FR.below HB1.out HV.out.nsLt), HB.out.trans (HB1.out.mono (by have := HV.out.ns; have := HV.out.nsLt; omega))⟩
      case measure => simp [intOf]; omega
     | false =>
      have HKI := lh (Mm.vis1_push HV.out.ki hr hct)
      have HE : Hid (R = m.vis (l.drop (j + 1)) (kj.1 ++ [a], kj.2 ++ [a])) := lh (by rw [HRJ.out]; conv => lhs; unfold Mm.vis Mm.vis1; rw [hr]; simp only; rw [if_neg (by rw [hct]; simp)])
      have HV2 : Hid ((mkF kj.2 [] a).getD 0 = 0) := lh (by rw [mkF_no (by unfold Keeps; rw [hct]; rfl)]; rfl)
      clear hr hct
      go_wp2_with fail
      refine cR.mono ?_
      rintro e w1 ⟨rfl, hb⟩
      have HB1 := lh hb
      have HV1 := lh (HV.out.below hb)
      have x01 : w1.cell? ⟨Nx, 0, none⟩ = some (.pointer (some ⟨g, 0, none⟩)) := HV1.out.bx.cell 0
      have g01 : w1.cell? ⟨g, 0, none⟩ = some (.map (some b)) := HV1.out.kr.hd.cell 0
      have m01 : w1.cell? ⟨Nm, 0, none⟩ = some (.pointer (some ⟨g1, 0, none⟩)) := HV1.out.bm.cell 0
      have m11 : w1.cell? ⟨Nm, 1, none⟩ = some (.pointer (some ⟨gy, 0, none⟩)) := HV1.out.bm.cell 1
      have hlen : kj.1.length ≤ kj.2.length ∧ kj.2.length ≤ 20000000 := by
       have h1 := HV.out.ki.len
       have h2 := nodup_len kj.1 kj.2 HV.out.ki.sn HV.out.ki.sub
       have := HM.out
       omega
      have HLEN := lh hlen
      have hws := wSum_rg m (kj.2 ++ [])
      have cP := put_any HV1.out.mr HV1.out.kr (by simp; omega) hws.1 (by have := hws.2; simp at this ⊢; omega) a 2 (by omega) (.inr rfl)
      obtain ⟨v, hbs, hown⟩ := HV1.out.bs
      have HBS := lh hbs
      have HOWN := lh hown
      clear hb cR hws hbs hown hlen
      have hlk := HV1.out.kr.mp.look hKI hKI hMI hZI HWA.out
      rw [HV2.out] at hlk
      go_wp2_with fail
      refine cP.mono ?_
      rintro e w2 ⟨rfl, hm2, hk2⟩
      have HM2 := lh (MkR.putS hm2)
      have HK2 := lh hk2
      have nsg := HV1.out.nsG
      have hbs2 : Bk w2 Ns 23 #[v] := HBS.out.kp hk2 fun e => e.elim nsg.1 nsg.2
      have HOWN2 : Hid (w2.ownsRow B 3 1 v kj.1.length (ints kj.1)) := lh (own_local HOWN.out fun q hq => hk2.block q (HOWN.out.lt q hq).2 fun e => by
       rcases e with rfl | rfl
       ·exact ownRow_bk HOWN.out HV1.out.kr.hd (by decide) hq
       ·exact HV1.out.kr.mp.ne_own HOWN.out hq)
      have HBS2 := lh hbs2
      have s0 : w2.cell? ⟨Ns, 0, none⟩ = some v := hbs2.cell 0
      have sl := hbs2.lt
      obtain ⟨i0, hi, hz0, hz1, hz2⟩ := info_parts Tryz.infoI
      have HI := lh (And.intro hi (And.intro hz0 (And.intro hz1 hz2)))
      have hBl : B ≤ w2.heap.size := by have := HV.out.ns; omega
      have hl1 : kj.1.length ≤ 20000000 := by have := HLEN.out; omega
      have vNs := lh (ownRow_bk HOWN.out HBS.out (by decide))
      clear hm2 hk2 cP nsg hbs2 hi hz0 hz1 hz2
      go_wp2_with (at_builtin; refine wpList_append_own_at _ rfl (.tmp 41) (.tmp 43) 23 rfl B 3 i0 (.int .i64 0) 1 8 Tryz.underlying23 HI.out.1 HI.out.2.1 HI.out.2.2.1 HI.out.2.2.2 rfl (by decide) v kj.1.length _ rfl (HOWN2.out.alloc _) ⟨w2.heap.size, 0, none⟩ 1 1 [.int .i64 a] rfl rfl (cell_one_new _ _ _) (by simp [Value.oneCell']) (by unfold maxLen; omega) (by omega) (by simp; omega) ?_; intro v' w3 hown3 hg3 _ hloc; have HOWN3 := lh hown3; have HG3 := lh hg3; have HLOC := lh hloc; obtain ⟨gq, cp, rfl, _, _⟩ := hown3.form (by omega); have cw3 : w3.cell? ⟨Ns, 0, none⟩ = some v := ((HBS2.out.alloc _).grown hg3 (fun e => vNs.out e.symm)).cell 0; have fw3 : w3.frozen? ⟨Ns, 0, none⟩ = false := ((HBS2.out.alloc _).grown hg3 (fun e => vNs.out e.symm)).free 0; clear hown3 hg3 hloc)
      have hp := VR.push HV1.out HKI.out HBS.out HOWN.out HM2.out HK2.out HOWN3.out HG3.out HLOC.out
      have HP := lh hp
      clear hp
      go_roundw
      case rel => exact ⟨j + 1, _, by go_num, by omega, HP.out.1, HE, (HF.out.trans (FR.below HB1.out HV.out.nsLt)).trans HP.out.2.1, (HB.out.trans (HB1.out.mono (by have := HV.out.ns; have := HV.out.nsLt; omega))).trans HP.out.2.2⟩
      case measure => simp [intOf]; omega
  ·have HE : Hid (R = some kj) := lh (by rw [HRj.out, List.drop_eq_nil_of_le (by omega)]; rfl)
   go_wp2_with fail
   go_ret
   rw [HE.out]
   exact ⟨rfl, HB.out, (fun k' hk' => by cases hk'; exact HV.out), HF.out⟩
end
end Go.Proofs.YtjpaogapclfajaaGreat
