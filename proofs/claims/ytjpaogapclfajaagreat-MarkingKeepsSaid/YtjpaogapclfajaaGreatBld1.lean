/- Law 11: Pick, Word, Roots, Same. -/
import Derived.Test.YtjpaogapclfajaaGreatBldP
import Derived.Test.YtjpaogapclfajaaGreatRMark
import Derived.Test.YtjpaogapclfajaaGreatRResolve
import Derived.BigQuiet
import Derived.Deep.QuietTactic
import Derived.Deep.AppendLies
import Derived.Maps.AppendAt
namespace Go.Proofs.YtjpaogapclfajaaGreat
set_option linter.unusedVariables false
set_option linter.unusedSimpArgs false
set_option linter.unusedSectionVars false
open Go.RowKit Go.Sort
attribute [local go_sem] Oper.semAt_some
set_option maxRecDepth 100000

section
variable {w : World} {l : List Int} {A : Option Addr} {c : Nat}
set_option maxHeartbeats 1000000 in
theorem Pick_any (h : IS w l A c) (hl : l.length ≤ 1000000) (a : Int) (ha : -9223372036854775808 ≤ a ∧ a ≤ 9223372036854775807) : Calls Tryz.prog 54 #[.slice A l.length c, .int .i64 a] w fun e w' => e = .returned (.int .i64 (pick1 l a)) ∧ w = w' := by
  by_cases he : l = []
  · subst he
    have hk := Lib.hid (show pick1 [] a = 0 by unfold pick1; rw [if_pos (.inl rfl)])
    clear h
    go_enter Tryz.func54, Tryz.ntmps54
    go_wp2_with fail
    go_ret
    rw [hk.out]
    exact ⟨rfl, rfl⟩
  · have hp : 0 < l.length := List.length_pos_iff.2 he
    have hn : ((l.length : Int) == 0) = false := by simp; exact he
    by_cases ha0 : a < 0
    · have hk := Lib.hid (show pick1 l a = 0 by unfold pick1; rw [if_pos (.inr ha0)])
      clear h he
      generalize l.length = N at *
      go_enter Tryz.func54, Tryz.ntmps54
      go_wp2_with fail
      go_ret
      rw [hk.out]
      exact ⟨rfl, rfl⟩
    · obtain ⟨i, hi⟩ : ∃ i : Nat, a % (l.length : Int) = (i : Int) := ⟨(a % (l.length : Int)).toNat, by have := Int.emod_nonneg a (show (l.length : Int) ≠ 0 by omega); omega⟩
      have hil : i < l.length := by have := Int.emod_lt_of_pos a (show 0 < (l.length : Int) by omega); omega
      obtain ⟨b, o, rfl, hbl, hcc⟩ := h.sl.get hil
      obtain ⟨x, hx⟩ : ∃ x, l[i]? = some x := ⟨_, List.getElem?_eq_getElem hil⟩
      have cx : w.cell? ⟨b, o + i, none⟩ = some (.int .i64 x) := hcc _ _ (ints_get hx)
      have hk := Lib.hid (show pick1 l a = x by unfold pick1; rw [if_neg (by intro e; exact e.elim he ha0), hi, Int.toNat_natCast, List.getD_eq_getElem?_getD, hx]; rfl)
      have hic : i < c := by have := h.cap; omega
      have HI := Lib.hid hi
      have ha1 : 0 ≤ a := by omega
      have hne : (l.length : Int) ≠ 0 := by omega
      clear h he hcc hx hi
      generalize l.length = N at *
      have hi2 : a % (N : Int) = (i : Int) := HI.out
      have hi3 : a.tmod (N : Int) = (i : Int) := by rw [Int.tmod_eq_emod_of_nonneg ha1]; exact hi2
      have dn : decide (N ≤ i) = false := decide_eq_false (by omega)
      have dl : decide ((i : Int) < 0) = false := decide_eq_false (by omega)
      clear hi3
      go_enter Tryz.func54, Tryz.ntmps54
      go_wp2_with fail
      go_ret
      rw [hk.out]
      exact ⟨rfl, rfl⟩
theorem Word_any (a : Int) (w : World) : Calls Tryz.prog 51 #[.int .i64 a] w fun e w' => e = .returned (.int .u64 (frW a)) ∧ w = w' := by
  have cF := fun w => RFromAddress_any a w
  have hf : Hid (frW a = if inA a = true then adW a else 0) := Lib.hid rfl
  unfold frA at cF
  cases hin : inA a with
  | true =>
    rw [hin, if_pos rfl] at cF hf
    clear hin
    go_enter Tryz.func51, Tryz.ntmps51
    go_wp2_with fail
    refine (cF _).mono ?_
    rintro e w1 ⟨rfl, rfl⟩
    go_wp2_with fail
    go_ret
    rw [hf.out]
    exact ⟨rfl, rfl⟩
  | false =>
    rw [hin, if_neg (by decide)] at cF hf
    clear hin
    go_enter Tryz.func51, Tryz.ntmps51
    go_wp2_with fail
    refine (cF _).mono ?_
    rintro e w1 ⟨rfl, rfl⟩
    go_wp2_with fail
    go_ret
    rw [hf.out]
    exact ⟨rfl, rfl⟩
theorem Tryz.infoI1 : (Tryz.prog.info? 3).map (fun i => (i.zero, i.size, i.bytes)) = some (some (.int .i64 0), 1, 8) := by kernel_rfl
theorem Tryz.infoU : (Tryz.prog.info? 51).map (fun i => (i.zero, i.size, i.bytes)) = some (some (.int .u64 0), 1, 8) := by kernel_rfl
/-- what Roots returns -/
def RootsP (w : World) (l : List Int) (e : Ending) (w' : World) : Prop := ∃ v, e = .returned v ∧ w'.ownsRow w.heap.size 51 1 v l.length (wds l) ∧ Below w.heap.size w w'
variable {ch : List Int} {A2 : Option Addr} {c2 : Nat}
set_option maxHeartbeats 2000000 in
theorem Roots_any (h : IS w l A c) (hl : l.length ≤ 1000000) (h2 : IS w ch A2 c2) (hl2 : ch.length ≤ 1000000) (hr : ∀ x ∈ ch, -9223372036854775808 ≤ x ∧ x ≤ 9223372036854775807) : Calls Tryz.prog 15 #[.slice A l.length c, .slice A2 ch.length c2] w (RootsP w (rts1 l ch)) := by
  have H := Lib.hid h
  have H2 := Lib.hid h2
  have HR := Lib.hid hr
  have hcap2 := h2.cap
  clear h h2 hr
  go_enter Tryz.func15, Tryz.ntmps15
  go_wp2_with fail
  go_loopw [5, 6] (fun v i wr => ∃ j : Nat, i = .int .i64 (j : Int) ∧ j ≤ ch.length ∧ wr.ownsRow w.heap.size 51 1 v j (wds (rts1 l (ch.take j))) ∧ Below w.heap.size w wr) (fun _ i _ => ch.length - (intOf i).toNat)
  case atStart =>
    refine ⟨0, rfl, Nat.zero_le _, ?_, (Below.refl _ _).alloc (Nat.le_refl _) _⟩
    exact ownEmpty 1 (Bk.new _ _ _) (Nat.le_refl _)
  case round =>
    obtain ⟨j, rfl, hj, hown, hb⟩ := hrel
    have HO := Lib.hid hown
    have HB := Lib.hid hb
    clear hb
    by_cases hlt : j < ch.length
    · obtain ⟨b, o, rfl, hbl, hcc⟩ := H2.out.sl.get hlt
      have t1 : ch[j]? = some ch[j] := List.getElem?_eq_getElem hlt
      have e1 : wr.cell? ⟨b, o + j, none⟩ = some (.int .i64 ch[j]) := (HB.out.cell (p := ⟨b, o + j, none⟩) hbl).trans (hcc j _ (ints_get t1))
      have hxr := HR.out ch[j] (List.getElem_mem hlt)
      have htk : Hid (rts1 l (ch.take (j + 1)) = rts1 l (ch.take j) ++ [if 0 ≤ ch[j] ∧ l ≠ [] then frW (pick1 l ch[j]) else 5]) := Lib.hid (by
        unfold rts1; rw [List.take_add_one, t1, List.map_append]; rfl)
      generalize ch[j] = x at e1 hxr htk
      have hcj : j < c2 := by omega
      obtain ⟨A0, c0, rfl, hac⟩ := own_shape hown
      obtain ⟨i0, hi, hz0, hz1, hz2⟩ := info_parts Tryz.infoU
      have HI := Lib.hid (And.intro hi (And.intro hz0 (And.intro hz1 hz2)))
      have hBw : w.heap.size ≤ wr.heap.size := HB.out.size
      clear t1 hcc hown hi hz0 hz1 hz2
      by_cases hx0 : 0 ≤ x
      · by_cases hln : l = []
        · have HT : Hid (rts1 l (ch.take (j + 1)) = rts1 l (ch.take j) ++ [5]) := Lib.hid (by rw [htk.out, if_neg (fun e => e.2 hln)])
          have hlz : (l.length : Int) = 0 := by rw [hln]; rfl
          have HLZ : Hid (l.length = 0) := Lib.hid (by rw [hln]; rfl)
          have hd : decide (0 < l.length) = false := decide_eq_false (by rw [hln]; simp)
          have hd2 : decide ((0 : Int) < (l.length : Int)) = false := decide_eq_false (by rw [hln]; simp)
          clear htk hln hlz
          go_wp2_with (at_builtin; refine wpList_append_own_at _ rfl (.tmp 32) (.tmp 34) 28 rfl w.heap.size 51 i0 (.int .u64 0) 1 8 Tryz.underlying28 HI.out.1 HI.out.2.1 HI.out.2.2.1 HI.out.2.2.2 rfl (by decide) _ j _ rfl (HO.out.alloc _) ⟨wr.heap.size, 0, none⟩ 1 1 [.int .u64 5] rfl rfl (cell_one_new _ _ _) (by simp [Value.oneCell']) (by unfold maxLen; omega) (by omega) (by simp; omega) ?_; intro v' w3 hown3 hg3 _ hloc; have HOWN3 := Lib.hid hown3; have HG3 := Lib.hid hg3; clear hown3 hg3 hloc)
          go_roundw
          case rel =>
            refine ⟨j + 1, by go_num, by omega, ?_, ?_⟩
            · rw [HT.out, show wds (rts1 l (ch.take j) ++ [5]) = wds (rts1 l (ch.take j)) ++ [.int .u64 5] by simp [wds]]; exact HOWN3.out
            · exact (HB.out.alloc (by omega) _).grown HG3.out (by simp; omega) (fun k hk => (HO.out.lt k hk).1)
          case measure => simp [intOf]; omega
        · have hlp : 0 < l.length := List.length_pos_iff.2 hln
          have HT : Hid (rts1 l (ch.take (j + 1)) = rts1 l (ch.take j) ++ [frW (pick1 l x)]) := Lib.hid (by rw [htk.out, if_pos ⟨hx0, hln⟩])
          have cP := Pick_any (H.out.below HB.out) hl x hxr
          have cW := fun w => Word_any (pick1 l x) w
          clear htk hln
          obtain ⟨y, hy⟩ : ∃ y, y = frW (pick1 l x) := ⟨_, rfl⟩
          rw [← hy] at cW HT
          clear hy
          go_wp2_with (first | (go_at_call 54; refine cP.mono ?_; rintro e w1 ⟨rfl, rfl⟩) | (go_at_call 51; refine (cW _).mono ?_; rintro e w1 ⟨rfl, rfl⟩) | (at_builtin; refine wpList_append_own_at _ rfl (.tmp 32) (.tmp 34) 28 rfl w.heap.size 51 i0 (.int .u64 0) 1 8 Tryz.underlying28 HI.out.1 HI.out.2.1 HI.out.2.2.1 HI.out.2.2.2 rfl (by decide) _ j _ rfl (HO.out.alloc _) ⟨wr.heap.size, 0, none⟩ 1 1 [.int .u64 y] rfl rfl (cell_one_new _ _ _) (by simp [Value.oneCell']) (by unfold maxLen; omega) (by omega) (by simp; omega) ?_; intro v' w3 hown3 hg3 _ hloc; have HOWN3 := Lib.hid hown3; have HG3 := Lib.hid hg3; clear hown3 hg3 hloc))
          go_roundw
          case rel =>
            refine ⟨j + 1, by go_num, by omega, ?_, ?_⟩
            · rw [HT.out, show wds (rts1 l (ch.take j) ++ [y]) = wds (rts1 l (ch.take j)) ++ [.int .u64 y] by simp [wds]]; exact HOWN3.out
            · exact (HB.out.alloc (by omega) _).grown HG3.out (by simp; omega) (fun k hk => (HO.out.lt k hk).1)
          case measure => simp [intOf]; omega
      · have HT : Hid (rts1 l (ch.take (j + 1)) = rts1 l (ch.take j) ++ [5]) := Lib.hid (by rw [htk.out, if_neg (fun e => hx0 e.1)])
        clear htk
        go_wp2_with (at_builtin; refine wpList_append_own_at _ rfl (.tmp 32) (.tmp 34) 28 rfl w.heap.size 51 i0 (.int .u64 0) 1 8 Tryz.underlying28 HI.out.1 HI.out.2.1 HI.out.2.2.1 HI.out.2.2.2 rfl (by decide) _ j _ rfl (HO.out.alloc _) ⟨wr.heap.size, 0, none⟩ 1 1 [.int .u64 5] rfl rfl (cell_one_new _ _ _) (by simp [Value.oneCell']) (by unfold maxLen; omega) (by omega) (by simp; omega) ?_; intro v' w3 hown3 hg3 _ hloc; have HOWN3 := Lib.hid hown3; have HG3 := Lib.hid hg3; clear hown3 hg3 hloc)
        go_roundw
        case rel =>
          refine ⟨j + 1, by go_num, by omega, ?_, ?_⟩
          · rw [HT.out, show wds (rts1 l (ch.take j) ++ [5]) = wds (rts1 l (ch.take j)) ++ [.int .u64 5] by simp [wds]]; exact HOWN3.out
          · exact (HB.out.alloc (by omega) _).grown HG3.out (by simp; omega) (fun k hk => (HO.out.lt k hk).1)
        case measure => simp [intOf]; omega
    · obtain ⟨A0, c0, rfl, hac⟩ := own_shape hown
      clear hown
      go_wp2_with fail
      go_ret
      have e : j = ch.length := by omega
      have ho := HO.out
      rw [e, List.take_of_length_le (Nat.le_refl _)] at ho
      refine ⟨_, rfl, ?_, HB.out⟩
      have e2 : (rts1 l ch).length = ch.length := by simp [rts1]
      rw [e2, e]
      exact ho
end
end Go.Proofs.YtjpaogapclfajaaGreat
