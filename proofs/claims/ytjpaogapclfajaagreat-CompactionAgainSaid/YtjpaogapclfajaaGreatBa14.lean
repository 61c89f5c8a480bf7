/- Parts of the proof: AlcP, BldP, Bld1, MarkB. -/
import Derived.BigQuiet
import Derived.Deep.AppendLies
import Derived.Deep.QuietTactic
import Derived.Maps.AppendAt
import Derived.Test.YtjpaogapclfajaaGreatBa0
import Derived.Test.YtjpaogapclfajaaGreatBa10
import Derived.Test.YtjpaogapclfajaaGreatBa12
import Derived.Test.YtjpaogapclfajaaGreatBa13
import Derived.Test.YtjpaogapclfajaaGreatBa7
set_option linter.unusedVariables false
set_option linter.unusedSimpArgs false
set_option linter.unusedSectionVars false
namespace Go.Proofs.YtjpaogapclfajaaGreat
def frW (a : Int) : Int := if inA a = true then adW a else 0
theorem frW_u (a : Int) : U64 (frW a) := by
 unfold frW inA adW U64
 split
 ·rename_i h; simp only [decide_eq_true_eq] at h; omega
 ·omega
theorem Spc.alloc_cases (s : Spc) (h : Hdr) (i : Id) : ((s.alloc h i).1 ≠ 0 ∧ (s.alloc h i).2.1 = s) ∨ (vH h = true ∧ vI i = true ∧ wH h ≤ s.limit - s.top ∧ s.alloc h i = (0, { s with ws := s.ws ++ ([eH h, eI i] ++ List.replicate (wH h - 2).toNat 0) }, s.top)) := by
 by_cases h1 : vH h = false ∨ vI i = false
 ·left; unfold Spc.alloc; rw [if_pos h1]; exact ⟨show (1 : Int) ≠ 0 by decide, rfl⟩
 ·by_cases h2 : wH h > s.limit - s.top
  ·left; unfold Spc.alloc; rw [if_neg h1, if_pos h2]; exact ⟨show (8 : Int) ≠ 0 by decide, rfl⟩
  ·right
   have h3 := not_or.1 h1
   refine ⟨by simpa using h3.1, by simpa using h3.2, by omega, ?_⟩
   unfold Spc.alloc
   rw [if_neg h1, if_neg h2]
theorem Spc.Ok.alloc {s : Spc} (h : s.Ok) (hd : Hdr) (i : Id) : (s.alloc hd i).2.1.Ok ∧ (s.alloc hd i).2.1.base = s.base ∧ (s.alloc hd i).2.1.limit = s.limit := by
 rcases s.alloc_cases hd i with ⟨_, h1⟩ | ⟨hv, hi, hl, h1⟩
 ·rw [h1]; exact ⟨h, rfl, rfl⟩
 ·rw [h1]
  have hw := wH_ge hv
  refine ⟨⟨fun x hx => ?_, h.b0, ?_, h.l0⟩, rfl, rfl⟩
  ·simp only [List.mem_append, List.mem_cons, List.not_mem_nil, or_false, List.mem_replicate] at hx
   rcases hx with hx | (rfl | rfl) | ⟨_, rfl⟩
   ·exact h.u x hx
   ·exact eH_u64 hv
   ·exact eI_u64 hi
   ·exact ⟨by decide, by decide⟩
  ·have := h.lim
   unfold Spc.top at hl
   simp only [List.length_append, List.length_cons, List.length_nil, List.length_replicate]
   push_cast
   omega
theorem Mm.Ok.alloc {m : Mm} (h : m.Ok) (y : Bool) (hd : Hdr) (i : Id) : (m.alloc y hd i).2.1.Ok := by
 unfold Mm.alloc
 split
 ·have := h.y.alloc hd i
  exact ⟨h.o, this.1, h.ob, h.ol, this.2.1.trans h.yb⟩
 ·have := h.o.alloc hd i
  exact ⟨this.1, h.y, this.2.1.trans h.ob, by show (m.old.alloc hd i).2.1.limit ≤ _; rw [this.2.2]; exact h.ol, h.yb⟩
end Go.Proofs.YtjpaogapclfajaaGreat
namespace Go.Proofs.YtjpaogapclfajaaGreat
structure Op1 where
 k : Int
 h : Hdr
 a : Int
 b : Int
 i : Int
 w : Int
structure Op1.Ok (o : Op1) : Prop where
 k0 : -9223372036854775808 ≤ o.k
 k1 : o.k ≤ 9223372036854775807
 a0 : -9223372036854775808 ≤ o.a
 a1 : o.a ≤ 9223372036854775807
 b0 : -9223372036854775808 ≤ o.b
 b1 : o.b ≤ 9223372036854775807
 i0 : -9223372036854775808 ≤ o.i
 i1 : o.i ≤ 9223372036854775807
 w : U64 o.w
def Op1.cells (o : Op1) : Array Value := #[.int .i64 o.k, .int .i64 o.h.k, .int .i64 o.h.c, .int .i64 o.h.f, .int .i64 o.a, .int .i64 o.b, .int .i64 o.i, .int .u64 o.w]
/-- the address that an operation chooses -/
def pick1 (l : List Int) (n : Int) : Int := if l = [] ∨ n < 0 then 0 else l.getD (n % (l.length : Int)).toNat 0
/-- the memory and the addresses of the objects behind an operation -/
def st1 (p : Mm × List Int) (x : Op1) : Mm × List Int :=
 if x.k = 0 then
  if x.h.k = 4 then p
  else ((p.1.alloc false x.h ⟨1, p.2.length + 1⟩).2.1, if (p.1.alloc false x.h ⟨1, p.2.length + 1⟩).1 = 0 then p.2 ++ [(p.1.alloc false x.h ⟨1, p.2.length + 1⟩).2.2] else p.2)
 else if x.k = 1 then ((p.1.setF (pick1 p.2 x.a) x.i (frW (pick1 p.2 x.b))).2, p.2)
 else if x.k = 2 then ((p.1.setF (pick1 p.2 x.a) x.i x.w).2, p.2)
 else if x.k = 3 then ((p.1.toStub (pick1 p.2 x.a) 2 (IntKind.u64.wrap x.i)).2, p.2)
 else if x.k = 4 then ((p.1.toFwd (pick1 p.2 x.a) (pick1 p.2 x.b)).2, p.2)
 else p
def bld1 (l : List Op1) : Mm × List Int := l.foldl st1 (Mm.new 600, [])
/-- the words that are chosen -/
def rts1 (at_ choices : List Int) : List Int := choices.map fun c => if 0 ≤ c ∧ at_ ≠ [] then frW (pick1 at_ c) else 5
theorem rts1_u (at_ choices : List Int) : ∀ x ∈ rts1 at_ choices, U64 x := by
 intro x hx
 obtain ⟨c, _, rfl⟩ := List.mem_map.1 hx
 split
 ·exact frW_u _
 ·exact ⟨by decide, by decide⟩
theorem wrapU_u (i : Int) : U64 (IntKind.u64.wrap i) := by
 have e : IntKind.u64.wrap i = i % 18446744073709551616 := by
  simp only [IntKind.wrap, IntKind.signed, IntKind.bits]
  simp
 rw [e]
 unfold U64
 omega
theorem bld1_take {l : List Op1} {j : Nat} {x : Op1} (h : l[j]? = some x) : bld1 (l.take (j + 1)) = st1 (bld1 (l.take j)) x := by
 unfold bld1
 rw [List.take_add_one, h, List.foldl_append]
 rfl
/-- the addresses: no more than the operations, below 2^24 -/
structure Bld (p : Mm × List Int) (n : Nat) : Prop where
 ok : p.1.Ok
 len : p.2.length ≤ n
 rg : ∀ a ∈ p.2, 0 ≤ a ∧ a ≤ 16777216
theorem Bld.nil : Bld (Mm.new 600, []) 0 := ⟨Mm.new_ok 600, Nat.le_refl _, fun a h => by cases h⟩
theorem Bld.step {p : Mm × List Int} {n : Nat} (h : Bld p n) (x : Op1) (hok : (st1 p x).1.Ok) : Bld (st1 p x) (n + 1) := by
 refine ⟨hok, ?_, ?_⟩
 ·have := h.len
  unfold st1
  split
  ·split
   ·omega
   ·dsimp only
    split
    ·simp; omega
    ·omega
  ·split
   ·show p.2.length ≤ _; omega
   ·split
    ·show p.2.length ≤ _; omega
    ·split
     ·show p.2.length ≤ _; omega
     ·split
      ·show p.2.length ≤ _; omega
      ·omega
 ·unfold st1
  split
  ·split
   ·exact h.rg
   ·dsimp only
    split
    ·rename_i he
     intro a ha
     rcases List.mem_append.1 ha with ha | ha
     ·exact h.rg a ha
     ·have ha := List.mem_singleton.1 ha
      unfold Mm.alloc at ha he
      rw [if_neg (by decide)] at ha he
      rcases p.1.old.alloc_cases x.h ⟨1, p.2.length + 1⟩ with h1 | ⟨_, _, _, h1⟩
      ·exact absurd he h1.1
      ·rw [h1] at ha
       have h2 := h.ok.o.lim
       have h3 := h.ok.ol
       have h4 := h.ok.ob
       simp only [Spc.top] at ha
       omega
    ·exact h.rg
  ·split
   ·exact h.rg
   ·split
    ·exact h.rg
    ·split
     ·exact h.rg
     ·split
      ·exact h.rg
      ·exact h.rg
end Go.Proofs.YtjpaogapclfajaaGreat
namespace Go.Proofs.YtjpaogapclfajaaGreat
open Go.RowKit Go.Sort
attribute [local go_sem] Oper.semAt_some
set_option maxRecDepth 100000
section
variable {w : World} {l : List Int} {A : Option Addr} {c : Nat}
set_option maxHeartbeats 1000000 in
theorem Pick_any (h : IS w l A c) (hl : l.length ≤ 1000000) (a : Int) (ha : -9223372036854775808 ≤ a ∧ a ≤ 9223372036854775807) : Calls Tryz.prog 54 #[.slice A l.length c, .int .i64 a] w fun e w' => e = .returned (.int .i64 (pick1 l a)) ∧ w = w' := by
 by_cases he : l = []
 ·subst he
  have hk := Lib.hid (show pick1 [] a = 0 by unfold pick1; rw [if_pos (.inl rfl)])
  clear h
  go_enter Tryz.func54, Tryz.ntmps54
  go_wp2_with fail
  go_ret
  rw [hk.out]
  exact ⟨rfl, rfl⟩
 ·have hp : 0 < l.length := List.length_pos_iff.2 he
  have hn : ((l.length : Int) == 0) = false := by simp; exact he
  by_cases ha0 : a < 0
  ·have hk := Lib.hid (show pick1 l a = 0 by unfold pick1; rw [if_pos (.inr ha0)])
   clear h he
   generalize l.length = N at *
   go_enter Tryz.func54, Tryz.ntmps54
   go_wp2_with fail
   go_ret
   rw [hk.out]
   exact ⟨rfl, rfl⟩
  ·obtain ⟨i, hi⟩ : ∃ i : Nat, a % (l.length : Int) = (i : Int) := ⟨(a % (l.length : Int)).toNat, by have := Int.emod_nonneg a (show (l.length : Int) ≠ 0 by omega); omega⟩
   have hil : i < l.length := by have := Int.emod_lt_of_pos a (show 0 < (l.length : Int) by omega); omega
   obtain ⟨b, o, rfl, hbl, hcc⟩ := h.sl.get hil
   obtain ⟨x, hx⟩ : ∃ x, l[i]? = some x := ⟨_, List.getElem?_eq_getElem hil⟩
   have cx : w.cell? ⟨b, o + i, none⟩ = some (.int .i64 x) := hcc _ _ (ints_get hx)
   have hk := Lib.hid (show pick1 l a = x by unfold pick1; rw [if_neg (by intro e; exact e.elim he ha0), hi, Int.toNat_natCast, List.getD_eq_getElem?_getD, hx]; rfl)
   have hic : i < c := by have := h.cap; omega
   have HI := Lib.hid hi
   have ha1 : 0 ≤ a := by omega
   have hne : (l.length : Int) ≠ 0 := by omega
   clear h he hcc hx hi
   generalize l.length = N at *
   have hi2 : a % (N : Int) = (i : Int) := HI.out
   have hi3 : a.tmod (N : Int) = (i : Int) := by rw [Int.tmod_eq_emod_of_nonneg ha1]; exact hi2
   have dn : decide (N ≤ i) = false := decide_eq_false (by omega)
   have dl : decide ((i : Int) < 0) = false := decide_eq_false (by omega)
   clear hi3
   go_enter Tryz.func54, Tryz.ntmps54
   go_wp2_with fail
   go_ret
   rw [hk.out]
   exact ⟨rfl, rfl⟩
theorem Word_any (a : Int) (w : World) : Calls Tryz.prog 51 #[.int .i64 a] w fun e w' => e = .returned (.int .u64 (frW a)) ∧ w = w' := by
 have cF := fun w => RFromAddress_any a w
 have hf : Hid (frW a = if inA a = true then adW a else 0) := Lib.hid rfl
 unfold frA at cF
 cases hin : inA a with
 | true =>
  rw [hin, if_pos rfl] at cF hf
  clear hin
  go_enter Tryz.func51, Tryz.ntmps51
  go_wp2_with fail
  refine (cF _).mono ?_
  rintro e w1 ⟨rfl, rfl⟩
  go_wp2_with fail
  go_ret
  rw [hf.out]
  exact ⟨rfl, rfl⟩
 | false =>
  rw [hin, if_neg (by decide)] at cF hf
  clear hin
  go_enter Tryz.func51, Tryz.ntmps51
  go_wp2_with fail
  refine (cF _).mono ?_
  rintro e w1 ⟨rfl, rfl⟩
  go_wp2_with fail
  go_ret
  rw [hf.out]
  exact ⟨rfl, rfl⟩
theorem Tryz.infoI1 : (Tryz.prog.info? 3).map (fun i => (i.zero, i.size, i.bytes)) = some (some (.int .i64 0), 1, 8) := by kernel_rfl
theorem Tryz.infoU : (Tryz.prog.info? 51).map (fun i => (i.zero, i.size, i.bytes)) = some (some (.int .u64 0), 1, 8) := by kernel_rfl
/-- what Roots returns -/
def RootsP (w : World) (l : List Int) (e : Ending) (w' : World) : Prop := ∃ v, e = .returned v ∧ w'.ownsRow w.heap.size 51 1 v l.length (wds l) ∧ Below w.heap.size w w'
variable {ch : List Int} {A2 : Option Addr} {c2 : Nat}
set_option maxHeartbeats 2000000 in
theorem Roots_any (h : IS w l A c) (hl : l.length ≤ 1000000) (h2 : IS w ch A2 c2) (hl2 : ch.length ≤ 1000000) (hr : ∀ x ∈ ch, -9223372036854775808 ≤ x ∧ x ≤ 9223372036854775807) : Calls Tryz.prog 15 #[.slice A l.length c, .slice A2 ch.length c2] w (RootsP w (rts1 l ch)) := by
 have H := Lib.hid h
 have H2 := Lib.hid h2
 have HR := Lib.hid hr
 have hcap2 := h2.cap
 clear h h2 hr
 go_enter Tryz.func15, Tryz.ntmps15
 go_wp2_with fail
 go_loopw [5, 6] (fun v i wr => ∃ j : Nat, i = .int .i64 (j : Int) ∧ j ≤ ch.length ∧ wr.ownsRow w.heap.size 51 1 v j (wds (rts1 l (ch.take j))) ∧ Below w.heap.size w wr) (fun _ i _ => ch.length - (intOf i).toNat)
 case atStart =>
  refine ⟨0, rfl, Nat.zero_le _, ?_, (Below.refl _ _).alloc (Nat.le_refl _) _⟩
  exact ownEmpty 1 (Bk.new _ _ _) (Nat.le_refl _)
 case round =>
  obtain ⟨j, rfl, hj, hown, hb⟩ := hrel
  have HO := Lib.hid hown
  have HB := Lib.hid hb
  clear hb
  by_cases hlt : j < ch.length
  ·obtain ⟨b, o, rfl, hbl, hcc⟩ := H2.out.sl.get hlt
   have t1 : ch[j]? = some ch[j] := List.getElem?_eq_getElem hlt
   have e1 : wr.cell? ⟨b, o + j, none⟩ = some (.int .i64 ch[j]) := (HB.out.cell (p := ⟨b, o + j, none⟩) hbl).trans (hcc j _ (ints_get t1))
   have hxr := HR.out ch[j] (List.getElem_mem hlt)
   have htk : Hid (rts1 l (ch.take (j + 1)) = rts1 l (ch.take j) ++ [if 0 ≤ ch[j] ∧ l ≠ [] then frW (pick1 l ch[j]) else 5]) := Lib.hid (by
    unfold rts1; rw [List.take_add_one, t1, List.map_append]; rfl)
   generalize ch[j] = x at e1 hxr htk
   have hcj : j < c2 := by omega
   obtain ⟨A0, c0, rfl, hac⟩ := own_shape hown
   obtain ⟨i0, hi, hz0, hz1, hz2⟩ := info_parts Tryz.infoU
   have HI := Lib.hid (And.intro hi (And.intro hz0 (And.intro hz1 hz2)))
   have hBw : w.heap.size ≤ wr.heap.size := HB.out.size
   clear t1 hcc hown hi hz0 hz1 hz2
   by_cases hx0 : 0 ≤ x
   ·by_cases hln : l = []
    ·have HT : Hid (rts1 l (ch.take (j + 1)) = rts1 l (ch.take j) ++ [5]) := Lib.hid (by rw [htk.out, if_neg (fun e => e.2 hln)])
     have hlz : (l.length : Int) = 0 := by rw [hln]; rfl
     have HLZ : Hid (l.length = 0) := Lib.hid (by rw [hln]; rfl)
     have hd : decide (0 < l.length) = false := decide_eq_false (by rw [hln]; simp)
     have hd2 : decide ((0 : Int) < (l.length : Int)) = false := decide_eq_false (by rw [hln]; simp)
     clear htk hln hlz
     go_wp2_with (at_builtin; refine wpList_append_own_at _ rfl (.tmp 32) (.tmp 34) 28 rfl w.heap.size 51 i0 (.int .u64 0) 1 8 Tryz.underlying28 HI.out.1 HI.out.2.1 HI.out.2.2.1 HI.out.2.2.2 rfl (by decide) _ j _ rfl (HO.out.alloc _) ⟨wr.heap.size, 0, none⟩ 1 1 [.int .u64 5] rfl rfl (cell_one_new _ _ _) (by simp [Value.oneCell']) (by unfold maxLen; omega) (by omega) (by simp; omega) ?_; intro v' w3 hown3 hg3 _ hloc; have HOWN3 := Lib.hid hown3; have HG3 := Lib.hid hg3; clear hown3 hg3 hloc)
     go_roundw
     case rel =>
      refine ⟨j + 1, by go_num, by omega, ?_, ?_⟩
      ·rw [HT.out, show wds (rts1 l (ch.take j) ++ [5]) = wds (rts1 l (ch.take j)) ++ [.int .u64 5] by simp [wds]]; exact HOWN3.out
      ·exact (HB.out.alloc (by omega) _).grown HG3.out (by simp; omega) (fun k hk => (HO.out.lt k hk).1)
     case measure => simp [intOf]; omega
    ·have hlp : 0 < l.length := List.length_pos_iff.2 hln
     have HT : Hid (rts1 l (ch.take (j + 1)) = rts1 l (ch.take j) ++ [frW (pick1 l x)]) := Lib.hid (by rw [htk.out, if_pos ⟨hx0, hln⟩])
     have cP := Pick_any (H.out.below HB.out) hl x hxr
     have cW := fun w => Word_any (pick1 l x) w
     clear htk hln
     obtain ⟨y, hy⟩ : ∃ y, y = frW (pick1 l x) := ⟨_, rfl⟩
     rw [← hy] at cW HT
     clear hy
     go_wp2_with (first | (go_at_call 54; refine cP.mono ?_; rintro e w1 ⟨rfl, rfl⟩) | (go_at_call 51; refine (cW _).mono ?_; rintro e w1 ⟨rfl, rfl⟩) | (at_builtin; refine wpList_append_own_at _ rfl (.tmp 32) (.tmp 34) 28 rfl w.heap.size 51 i0 (.int .u64 0) 1 8 Tryz.underlying28 HI.out.1 HI.out.2.1 HI.out.2.2.1 HI.out.2.2.2 rfl (by decide) _ j _ rfl (HO.out.alloc _) ⟨wr.heap.size, 0, none⟩ 1 1 [.int .u64 y] rfl rfl (cell_one_new _ _ _) (by simp [Value.oneCell']) (by unfold maxLen; omega) (by omega) (by simp; omega) ?_; intro v' w3 hown3 hg3 _ hloc; have HOWN3 := Lib.hid hown3; have HG3 := Lib.hid hg3; clear hown3 hg3 hloc))
     go_roundw
     case rel =>
      refine ⟨j + 1, by go_num, by omega, ?_, ?_⟩
      ·rw [HT.out, show wds (rts1 l (ch.take j) ++ [y]) = wds (rts1 l (ch.take j)) ++ [.int .u64 y] by simp [wds]]; exact HOWN3.out
      ·exact (HB.out.alloc (by omega) _).grown HG3.out (by simp; omega) (fun k hk => (HO.out.lt k hk).1)
     case measure => simp [intOf]; omega
   ·have HT : Hid (rts1 l (ch.take (j + 1)) = rts1 l (ch.take j) ++ [5]) := Lib.hid (by rw [htk.out, if_neg (fun e => hx0 e.1)])
    clear htk
    go_wp2_with (at_builtin; refine wpList_append_own_at _ rfl (.tmp 32) (.tmp 34) 28 rfl w.heap.size 51 i0 (.int .u64 0) 1 8 Tryz.underlying28 HI.out.1 HI.out.2.1 HI.out.2.2.1 HI.out.2.2.2 rfl (by decide) _ j _ rfl (HO.out.alloc _) ⟨wr.heap.size, 0, none⟩ 1 1 [.int .u64 5] rfl rfl (cell_one_new _ _ _) (by simp [Value.oneCell']) (by unfold maxLen; omega) (by omega) (by simp; omega) ?_; intro v' w3 hown3 hg3 _ hloc; have HOWN3 := Lib.hid hown3; have HG3 := Lib.hid hg3; clear hown3 hg3 hloc)
    go_roundw
    case rel =>
     refine ⟨j + 1, by go_num, by omega, ?_, ?_⟩
     ·rw [HT.out, show wds (rts1 l (ch.take j) ++ [5]) = wds (rts1 l (ch.take j)) ++ [.int .u64 5] by simp [wds]]; exact HOWN3.out
     ·exact (HB.out.alloc (by omega) _).grown HG3.out (by simp; omega) (fun k hk => (HO.out.lt k hk).1)
    case measure => simp [intOf]; omega
  ·obtain ⟨A0, c0, rfl, hac⟩ := own_shape hown
   clear hown
   go_wp2_with fail
   go_ret
   have e : j = ch.length := by omega
   have ho := HO.out
   rw [e, List.take_of_length_le (Nat.le_refl _)] at ho
   refine ⟨_, rfl, ?_, HB.out⟩
   have e2 : (rts1 l ch).length = ch.length := by simp [rts1]
   rw [e2, e]
   exact ho
end
end Go.Proofs.YtjpaogapclfajaaGreat
namespace Go.Proofs.YtjpaogapclfajaaGreat
open Go.RowKit Go.Maps
attribute [local go_sem] Oper.semAt_some
set_option maxRecDepth 100000
/-- the marks of a memory: the strongly and the weakly marked objects -/
def MkR (w : World) (B g b : Nat) (m : Mm) (sg wl : List Int) : Prop := MkR0 w B g b (sg ++ wl).length (mkF sg wl) (wSum m (sg ++ wl))
def Keeps (sg wl : List Int) (a : Int) : Bool := sg.contains a || wl.contains a
theorem mkF_no {sg wl : List Int} {a : Int} (h : Keeps sg wl a = false) : mkF sg wl a = none := by
 unfold Keeps at h
 rw [Bool.or_eq_false_iff] at h
 unfold mkF
 rw [if_neg (by rw [h.1]; simp), if_neg (by rw [h.2]; simp)]
theorem mkF_strong {sg wl : List Int} {a : Int} (h : sg.contains a = true) : mkF sg wl a = some 2 := by unfold mkF; rw [if_pos h]
theorem mkF_weak {sg wl : List Int} {a : Int} (h : sg.contains a = false) (h2 : wl.contains a = true) : mkF sg wl a = some 1 := by unfold mkF; rw [if_neg (by rw [h]; simp), if_pos h2]
theorem mkF_putW {sg wl : List Int} {a : Int} (h : Keeps sg wl a = false) (x : Int) : updZ (mkF sg wl) a 1 x = mkF sg (wl ++ [a]) x := by
 unfold Keeps at h
 rw [Bool.or_eq_false_iff] at h
 unfold updZ
 by_cases hx : x = a
 ·subst hx
  rw [if_pos rfl, mkF_weak h.1 (by simp)]
 ·rw [if_neg hx]
  unfold mkF
  simp [hx]
theorem mkF_putS {sg : List Int} {a : Int} (x : Int) : updZ (mkF sg []) a 2 x = mkF (sg ++ [a]) [] x := by
 unfold updZ
 by_cases hx : x = a
 ·subst hx
  rw [if_pos rfl, mkF_strong (by simp)]
 ·rw [if_neg hx]
  unfold mkF
  simp [hx]
theorem MkR.putW {w : World} {B g b : Nat} {m : Mm} {sg wl : List Int} {a : Int} (h : MkR0 w B g b ((sg ++ wl).length + 1) (updZ (mkF sg wl) a 1) (wSum m (sg ++ wl) + wH (m.hdr a).2)) (hk : Keeps sg wl a = false) : MkR w B g b m sg (wl ++ [a]) := by
 unfold MkR
 rw [← List.append_assoc, wSum_app, wSum_one, List.length_append]
 exact ⟨h.hd, h.mp.congr fun x _ => mkF_putW hk x, h.ge, h.gm⟩
theorem MkR.putS {w : World} {B g b : Nat} {m : Mm} {sg : List Int} {a : Int} (h : MkR0 w B g b ((sg ++ []).length + 1) (updZ (mkF sg []) a 2) (wSum m (sg ++ []) + wH (m.hdr a).2)) : MkR w B g b m (sg ++ [a]) [] := by
 unfold MkR
 simp only [List.append_nil] at h ⊢
 rw [wSum_app, wSum_one, List.length_append]
 exact ⟨h.hd, h.mp.congr fun x _ => mkF_putS x, h.ge, h.gm⟩
section
variable {w : World} {Bm g b : Nat} {m : Mm} {sg wl : List Int}
theorem Has_any (h : MkR w Bm g b m sg wl) (a : Int) (ha : -9223372036854775808 ≤ a ∧ a ≤ 9223372036854775807) : Calls Tryz.prog 20 #[.pointer (some ⟨g, 0, none⟩), .int .i64 a] w fun e w' => e = .returned (.bool (sg.contains a)) ∧ w = w' := by
 have c0 : w.cell? ⟨g, 0, none⟩ = some (.map (some b)) := h.hd.cell 0
 have HM := Lib.hid h.mp
 have HWA : Hid ((Lit.int .i64 a).wf = true) := Lib.hid (WalkArith.wf_i64 (by omega))
 have HE : Hid ((((mkF sg wl a).getD 0) == 2) = sg.contains a) := Lib.hid (by
  cases hs : sg.contains a with
  | true => rw [mkF_strong hs]; rfl
  | false =>
   cases hw : wl.contains a with
   | true => rw [mkF_weak hs hw]; rfl
   | false => rw [mkF_no (by unfold Keeps; rw [hs, hw]; rfl)]; rfl)
 obtain ⟨v, hv⟩ : ∃ v, v = (mkF sg wl a).getD 0 := ⟨_, rfl⟩
 have HV := Lib.hid hv
 rw [← hv] at HE
 clear h ha hv
 go_enter Tryz.func20, Tryz.ntmps20
 go_wp2_with (refine wpList_map_look hKI hKI hMI hZI rfl (m := .tmp 8) (x := .tmp 9) rfl HM.out rfl rfl HWA.out ?_; rw [← HV.out])
 go_ret
 exact ⟨ret_bool HE.out, rfl⟩
theorem Weak_any (h : MkR w Bm g b m sg wl) (a : Int) (ha : -9223372036854775808 ≤ a ∧ a ≤ 9223372036854775807) : Calls Tryz.prog 22 #[.pointer (some ⟨g, 0, none⟩), .int .i64 a] w fun e w' => e = .returned (.bool (!sg.contains a && wl.contains a)) ∧ w = w' := by
 have c0 : w.cell? ⟨g, 0, none⟩ = some (.map (some b)) := h.hd.cell 0
 have HM := Lib.hid h.mp
 have HWA : Hid ((Lit.int .i64 a).wf = true) := Lib.hid (WalkArith.wf_i64 (by omega))
 have HE : Hid ((((mkF sg wl a).getD 0) == 1) = (!sg.contains a && wl.contains a)) := Lib.hid (by
  cases hs : sg.contains a with
  | true => rw [mkF_strong hs]; rfl
  | false =>
   cases hw : wl.contains a with
   | true => rw [mkF_weak hs hw]; rfl
   | false => rw [mkF_no (by unfold Keeps; rw [hs, hw]; rfl)]; rfl)
 obtain ⟨v, hv⟩ : ∃ v, v = (mkF sg wl a).getD 0 := ⟨_, rfl⟩
 have HV := Lib.hid hv
 rw [← hv] at HE
 clear h ha hv
 go_enter Tryz.func22, Tryz.ntmps22
 go_wp2_with (refine wpList_map_look hKI hKI hMI hZI rfl (m := .tmp 8) (x := .tmp 9) rfl HM.out rfl rfl HWA.out ?_; rw [← HV.out])
 go_ret
 exact ⟨ret_bool HE.out, rfl⟩
theorem Words_mk (h : MkR w Bm g b m sg wl) : Calls Tryz.prog 26 #[.pointer (some ⟨g, 0, none⟩)] w fun e w' => e = .returned (.int .i64 (wSum m (sg ++ wl))) ∧ w = w' := by
 have c0 : w.cell? ⟨g, 1, none⟩ = some (.int .i64 (wSum m (sg ++ wl))) := h.hd.cell 1
 clear h
 go_enter Tryz.func26, Tryz.ntmps26
 go_wp2_with fail
 go_ret
 exact ⟨rfl, rfl⟩
end
section
variable {w : World} {B g1 g2 Bm g b : Nat} {V1 V2 : Value} {m : Mm} {sg wl : List Int}
def KeepP (w : World) (Bm g b : Nat) (m : Mm) (sg wl wl' : List Int) (q : Bool) (e : Ending) (w' : World) : Prop := e = .returned (.bool q) ∧ MkR w' Bm g b m sg wl' ∧ Kp (fun k => k = g ∨ k = b) w w'
set_option maxHeartbeats 2000000 in
theorem keep_any (h : MR w B g1 g2 V1 V2 m) (hm : MkR w Bm g b m sg wl) (hl : (sg ++ wl).length ≤ 100000000) (a : Int) (ha : -9223372036854775808 ≤ a ∧ a ≤ 9223372036854775807) :
  Calls Tryz.prog 65 #[.pointer (some ⟨g, 0, none⟩), .agg #[.pointer (some ⟨g1, 0, none⟩), .pointer (some ⟨g2, 0, none⟩)], .int .i64 a] w (KeepP w Bm g b m sg wl (m.keepW sg wl a) (Keeps sg (m.keepW sg wl a) a)) := by
 have HB := Lib.hid (boxM w g1 g2)
 have cH := MHdr_of (h.below HB.out) a
 have HM := Lib.hid (hm.below HB.out)
 have H := Lib.hid (h.below HB.out)
 have HQ := Lib.hid (Bk.new w 27 #[.pointer (some ⟨g1, 0, none⟩), .pointer (some ⟨g2, 0, none⟩)])
 have HWA : Hid ((Lit.int .i64 a).wf = true) := Lib.hid (WalkArith.wf_i64 (by omega))
 have HA := Lib.hid ha
 have HL := Lib.hid hl
 obtain ⟨hh, hhh⟩ : ∃ hh, hh = (m.hdr a).2 := ⟨_, rfl⟩
 obtain ⟨er, her⟩ : ∃ er, er = (m.hdr a).1 := ⟨_, rfl⟩
 rw [← hhh, ← her] at cH
 have HHH := Lib.hid hhh
 have HG := Lib.hid hm
 clear h hm ha her hhh hl
 cases hk : Keeps sg wl a with
 | true =>
  have HE : Hid (m.keepW sg wl a = wl) := Lib.hid (by
   unfold Mm.keepW
   rw [if_neg]
   rintro ⟨h1, h2, _⟩
   unfold Keeps at hk
   rw [h1, h2] at hk
   cases hk)
  obtain ⟨v, hv0, hv⟩ : ∃ v : Int, (v == 0) = false ∧ (mkF sg wl a).getD 0 = v := by
   cases hs : sg.contains a with
   | true => exact ⟨2, rfl, by rw [mkF_strong hs]; rfl⟩
   | false =>
    cases hw : wl.contains a with
    | true => exact ⟨1, rfl, by rw [mkF_weak hs hw]; rfl⟩
    | false => unfold Keeps at hk; rw [hs, hw] at hk; cases hk
  have HV := Lib.hid hv
  have hv1 : (v != 0) = true := by simp at hv0; simp [hv0]
  have HKK := Lib.hid hk
  clear hv hk
  go_enter Tryz.func65, Tryz.ntmps65
  go_wp2_with fail
  refine cH.mono ?_
  rintro e w2 ⟨rfl, hb⟩
  have HB2 := Lib.hid (HB.out.trans (hb.mono HB.out.size))
  have hm2 := HM.out.below hb
  have HM2 : Hid (MkR w2 Bm g b m sg wl) := Lib.hid hm2
  have c0 : w2.cell? ⟨g, 0, none⟩ = some (.map (some b)) := hm2.hd.cell 0
  have hgl := hm2.hd.lt
  have hne : w2.heap.size ≠ g := by omega
  clear hb cH hm2
  go_wp2_with (first | (refine wpList_map_look hKI hKI hMI hZI rfl (m := .tmp 18) (x := .tmp 19) rfl (HM2.out.mp.alloc _) rfl rfl HWA.out ?_; rw [HV.out]) | (refine wpList_map_look hKI hKI hMI hZI rfl (m := .tmp 34) (x := .tmp 35) rfl (HM2.out.mp.alloc _) rfl rfl HWA.out ?_; rw [HV.out]))
  go_ret
  have hbl : Below w2.heap.size w2 (w2.alloc (.cells #[.int .i64 hh.k, .int .i64 hh.c, .int .i64 hh.f] 55)) := (Below.refl _ _).alloc (Nat.le_refl _) _
  rw [HE.out, HKK.out]
  exact ⟨rfl, HM2.out.below hbl, (Kp.of_below HB2.out).trans (Kp.of_below (S := fun _ => False) hbl) fun _ _ h => h.elim⟩
 | false =>
  have HV := Lib.hid (mkF_no hk)
  have HKK := Lib.hid hk
  by_cases h3 : hh.k = 3
  ·have HE : Hid (m.keepW sg wl a = wl ++ [a]) := Lib.hid (by
    unfold Mm.keepW
    unfold Keeps at hk
    rw [Bool.or_eq_false_iff] at hk
    rw [if_pos ⟨hk.1, hk.2, by rw [← HHH.out]; exact h3⟩])
   have e3 : (hh.k == 3) = true := by simp [h3]
   clear h3 hk
   go_enter Tryz.func65, Tryz.ntmps65
   go_wp2_with fail
   refine cH.mono ?_
   rintro e w2 ⟨rfl, hb⟩
   have HB2 := Lib.hid (HB.out.trans (hb.mono HB.out.size))
   have hm2 := HM.out.below hb
   have HM2 : Hid (MkR w2 Bm g b m sg wl) := Lib.hid hm2
   have H2 := Lib.hid (H.out.below hb)
   have hq2 := HQ.out.below hb HQ.out.lt
   have c0 : w2.cell? ⟨g, 0, none⟩ = some (.map (some b)) := hm2.hd.cell 0
   have q0 : w2.cell? ⟨w.heap.size, 0, none⟩ = some (.pointer (some ⟨g1, 0, none⟩)) := hq2.cell 0
   have q1 : w2.cell? ⟨w.heap.size, 1, none⟩ = some (.pointer (some ⟨g2, 0, none⟩)) := hq2.cell 1
   have hgl := hm2.hd.lt
   have hql := hq2.lt
   have hne : w2.heap.size ≠ g := by omega
   have hne2 : w2.heap.size ≠ w.heap.size := by omega
   have hbl : Below w2.heap.size w2 (w2.alloc (.cells #[.int .i64 hh.k, .int .i64 hh.c, .int .i64 hh.f] 55)) := (Below.refl _ _).alloc (Nat.le_refl _) _
   have cP := put_any (H2.out.below hbl) (MkR0.below HM2.out hbl) (by have := HL.out; omega) (wSum_rg m (sg ++ wl)).1 (by have := (wSum_rg m (sg ++ wl)).2; have := HL.out; omega) a 1 HA.out (.inl rfl)
   have HBL := Lib.hid hbl
   clear hb cH hm2 hbl hq2
   go_wp2_with (refine wpList_map_look hKI hKI hMI hZI rfl (m := .tmp 18) (x := .tmp 19) rfl (HM2.out.mp.alloc _) rfl rfl HWA.out ?_; rw [HV.out]; dsimp only [Option.getD_none])
   refine cP.mono ?_
   rintro e w3 ⟨rfl, hm3, hk3⟩
   have HM3 := Lib.hid hm3
   have HK3 := Lib.hid hk3
   have d0 : w3.cell? ⟨g, 0, none⟩ = some (.map (some b)) := hm3.hd.cell 0
   clear hm3 hk3 cP
   have HU : Hid ((updZ (mkF sg wl) a 1 a).getD 0 = 1) := Lib.hid (by unfold updZ; rw [if_pos rfl]; rfl)
   go_wp2_with (refine wpList_map_look hKI hKI hMI hZI rfl (m := .tmp 34) (x := .tmp 35) rfl HM3.out.mp rfl rfl HWA.out ?_; rw [HU.out])
   go_ret
   rw [HE.out]
   refine ⟨ret_bool ?_, MkR.putW HM3.out HKK.out, ((Kp.of_below HB2.out).trans (Kp.of_below (S := fun _ => False) HBL.out) fun _ _ h => h.elim).trans HK3.out fun _ _ h => h⟩
   unfold Keeps
   simp
  ·have HE : Hid (m.keepW sg wl a = wl) := Lib.hid (by
    unfold Mm.keepW
    rw [if_neg]
    rintro ⟨_, _, h4⟩
    rw [← HHH.out] at h4
    exact h3 h4)
   have e3 : (hh.k == 3) = false := by simp [h3]
   clear h3 hk
   go_enter Tryz.func65, Tryz.ntmps65
   go_wp2_with fail
   refine cH.mono ?_
   rintro e w2 ⟨rfl, hb⟩
   have HB2 := Lib.hid (HB.out.trans (hb.mono HB.out.size))
   have hm2 := HM.out.below hb
   have HM2 : Hid (MkR w2 Bm g b m sg wl) := Lib.hid hm2
   have c0 : w2.cell? ⟨g, 0, none⟩ = some (.map (some b)) := hm2.hd.cell 0
   have hgl := hm2.hd.lt
   have hne : w2.heap.size ≠ g := by omega
   clear hb cH hm2
   go_wp2_with (first | (refine wpList_map_look hKI hKI hMI hZI rfl (m := .tmp 18) (x := .tmp 19) rfl (HM2.out.mp.alloc _) rfl rfl HWA.out ?_; rw [HV.out]; dsimp only [Option.getD_none]) | (refine wpList_map_look hKI hKI hMI hZI rfl (m := .tmp 34) (x := .tmp 35) rfl (HM2.out.mp.alloc _) rfl rfl HWA.out ?_; rw [HV.out]; dsimp only [Option.getD_none]))
   go_ret
   have hbl : Below w2.heap.size w2 (w2.alloc (.cells #[.int .i64 hh.k, .int .i64 hh.c, .int .i64 hh.f] 55)) := (Below.refl _ _).alloc (Nat.le_refl _) _
   rw [HE.out, HKK.out]
   exact ⟨rfl, HM2.out.below hbl, (Kp.of_below HB2.out).trans (Kp.of_below (S := fun _ => False) hbl) fun _ _ h => h.elim⟩
end
end Go.Proofs.YtjpaogapclfajaaGreat
