/- The law's world: play, of allocations and of Store. -/
import Derived.Test.YtaecdpijpdfboaaGreatOpsR
import Derived.Deep.LoopGhost
namespace Go.Proofs.YtaecdpijpdfboaaGreat
set_option linter.unusedVariables false
set_option linter.unusedSimpArgs false
set_option linter.unusedSectionVars false
open Go.RowKit Go.Sort Go.Shelf
attribute [local go_sem] Oper.semAt_some
set_option maxRecDepth 100000

theorem cardIns_len (c : Int) : ∀ l : List Int, (cardIns c l).length = l.length + 1
  | [] => rfl
  | x :: l => by unfold cardIns; split <;> simp [cardIns_len c l]
theorem cardMark_len (cs : List Int) (a : Int) : (cardMark cs a).2.length ≤ cs.length + 1 := by
  unfold cardMark
  split
  · exact Nat.le_succ _
  · split
    · exact Nat.le_succ _
    · exact Nat.le_of_eq (cardIns_len _ _)
theorem St.step_len (s : St) (o : OpV) : (s.step o).cs.length ≤ s.cs.length + 1 ∧ (s.step o).xs.length ≤ s.xs.length + 1 := by
  have ha : ∀ y hd, (s.alloc y hd).cs.length ≤ s.cs.length + 1 ∧ (s.alloc y hd).xs.length ≤ s.xs.length + 1 := fun y hd => by
    unfold St.alloc
    split
    · exact ⟨Nat.le_succ _, by simp⟩
    · exact ⟨Nat.le_succ _, Nat.le_succ _⟩
  unfold St.step
  split
  · exact ha _ _
  · split
    · exact ha _ _
    · split
      · refine ⟨?_, Nat.le_succ _⟩
        show (bst _ _ _ _ _).2.2.length ≤ _
        unfold bst
        split
        · exact Nat.le_succ _
        · split
          · exact cardMark_len _ _
          · exact Nat.le_succ _
      · split
        · exact ⟨Nat.le_succ _, Nat.le_succ _⟩
        · split
          · exact ⟨Nat.le_succ _, Nat.le_succ _⟩
          · split
            · exact ⟨cardMark_len _ _, Nat.le_succ _⟩
            · split
              · exact ⟨by simp, Nat.le_succ _⟩
              · split
                · exact ⟨Nat.le_succ _, Nat.le_succ _⟩
                · split
                  · exact ⟨Nat.le_succ _, Nat.le_succ _⟩
                  · exact ⟨Nat.le_succ _, Nat.le_succ _⟩
theorem St.play_len (most : Int) : ∀ (l : List OpV) (s : St), (s.play most l).cs.length ≤ s.cs.length + l.length ∧ (s.play most l).xs.length ≤ s.xs.length + l.length
  | [], s => ⟨Nat.le_refl _, Nat.le_refl _⟩
  | o :: l, s => by
    have h1 := St.play_len most l (if o.k ≤ most then s.step o else s)
    have h2 := s.step_len o
    have h3 : St.play most s (o :: l) = St.play most (if o.k ≤ most then s.step o else s) l := rfl
    rw [h3, List.length_cons]
    by_cases hk : o.k ≤ most
    · rw [if_pos hk] at h1 ⊢; omega
    · rw [if_neg hk] at h1 ⊢; omega
theorem St.play_snoc (most : Int) (s : St) (l : List OpV) (o : OpV) : s.play most (l ++ [o]) = if o.k ≤ most then (s.play most l).step o else s.play most l := by
  unfold St.play
  rw [List.foldl_append]
  rfl
section
variable {w : World} {B k : Nat} {L : LP} {s : St}
theorem step2_any (h : LW w B L k s.m s.cs s.xs) (hx : s.xs.length ≤ 1000000) (hc : s.cs.length ≤ 100000) (hkb : k < 1000000) (hB : B ≤ w.heap.size) (o : OpV) (ho : o.Ok) (hk : o.k ≤ 2) : Calls Tryz.prog 15 #[.pointer (some ⟨L.p, 0, none⟩), .agg o.cells] w (StepP w B L k (s.step o)) := by
  obtain ⟨ok, hd, a, b, i, x, r⟩ := o
  have h0 := ho.k0
  simp only at h0 hk
  rcases (show ok = 0 ∨ ok = 1 ∨ ok = 2 by omega) with rfl | rfl | rfl
  · exact step_0 h hx hc hkb hB hd a b i x r ho
  · exact step_1 h hx hc hkb hB hd a b i x r ho
  · exact step_2 h hx hc hkb hB hd a b i x r ho
end
/-- what play leaves -/
def PlayP (w : World) (s : St) (e : Ending) (w' : World) : Prop := ∃ L k, e = .returned (.tuple #[.pointer (some ⟨L.p, 0, none⟩), .bool true]) ∧ k ≤ 24 ∧ LW w' w.heap.size L k s.m s.cs s.xs ∧ Below w.heap.size w w'
section
variable {w : World} {ops : List OpV} {A : Option Addr} {n c : Nat}
set_option maxHeartbeats 4000000 in
theorem play2_any (hs : SlR OpR w 9 A n ops) (hc : n ≤ c) (h24 : n ≤ 24) : Calls Tryz.prog 7 #[.slice A n c, .int .u8 2] w (PlayP w (St.new.play 2 ops)) := by
  have cO := open_any (w := w)
  have HS := Lib.hid hs
  clear hs
  go_enter Tryz.func7, Tryz.ntmps7
  go_wp2_with fail
  refine cO.mono ?_
  rintro e w1 ⟨L, rfl, h1, hb1⟩
  have H1 := Lib.hid h1
  have HB1 := Lib.hid hb1
  clear h1 hb1 cO
  go_wp2_with fail
  go_loopw [7, 8] (fun v i wr => ∃ (j k : Nat) (L' : LP), v = .bool true ∧ i = .int .i64 (j : Int) ∧ j ≤ n ∧ k ≤ j ∧ L.same L' ∧ LW wr w.heap.size L' k (St.new.play 2 (ops.take j)).m (St.new.play 2 (ops.take j)).cs (St.new.play 2 (ops.take j)).xs ∧ Below w.heap.size w wr) (fun _ i _ => n - (intOf i).toNat)
  case atStart => exact ⟨0, 0, L, rfl, rfl, Nat.zero_le _, Nat.le_refl _, ⟨rfl, rfl, rfl, rfl, rfl⟩, H1.out, HB1.out⟩
  case round =>
    obtain ⟨j, k, L', rfl, rfl, hj, hkj, hsm, hlw, hbw⟩ := hrel
    have hlen : (St.new.play 2 (ops.take j)).cs.length ≤ 0 + (ops.take j).length ∧ (St.new.play 2 (ops.take j)).xs.length ≤ 0 + (ops.take j).length := St.play_len 2 (ops.take j) St.new
    have hto : (ops.take j).length ≤ j := List.length_take_le _ _
    have HL := Lib.hid hlw
    have HBW := Lib.hid hbw
    have hlp : L'.p = L.p := hsm.1
    have HSM := Lib.hid hsm
    have HLP := Lib.hid hlp
    have HLN := Lib.hid hlen
    clear hlw hsm hlp hlen
    by_cases hlt : j < n
    · obtain ⟨b, o, x, r, rfl, hbl, hx, hr, ⟨hrc, hok⟩, hcell⟩ := HS.out.get hlt
      have cell : ∀ q v, r[q]? = some v → wr.cell? ⟨b, o + j * 9 + q, none⟩ = some v := fun q v hv => (HBW.out.cell (p := ⟨b, o + j * 9 + q, none⟩) hbl).trans (hcell q v hv)
      rw [hrc] at cell
      have c0 : wr.cell? ⟨b, o + j * 9, none⟩ = some (.int .u8 x.k) := cell 0 _ rfl
      have c1 : wr.cell? ⟨b, o + j * 9 + 1, none⟩ = some (.int .i64 x.h.k) := cell 1 _ rfl
      have c2 : wr.cell? ⟨b, o + j * 9 + 2, none⟩ = some (.int .i64 x.h.c) := cell 2 _ rfl
      have c3 : wr.cell? ⟨b, o + j * 9 + 3, none⟩ = some (.int .i64 x.h.f) := cell 3 _ rfl
      have c4 : wr.cell? ⟨b, o + j * 9 + 4, none⟩ = some (.int .i64 x.a) := cell 4 _ rfl
      have c5 : wr.cell? ⟨b, o + j * 9 + 5, none⟩ = some (.int .i64 x.b) := cell 5 _ rfl
      have c6 : wr.cell? ⟨b, o + j * 9 + 6, none⟩ = some (.int .i64 x.i) := cell 6 _ rfl
      have c7 : wr.cell? ⟨b, o + j * 9 + 7, none⟩ = some (.int .u64 x.w) := cell 7 _ rfl
      have c8 : wr.cell? ⟨b, o + j * 9 + 8, none⟩ = some (.bool x.r) := cell 8 _ rfl
      have HT : Hid (St.new.play 2 (ops.take (j + 1)) = if x.k ≤ 2 then (St.new.play 2 (ops.take j)).step x else St.new.play 2 (ops.take j)) := Lib.hid (by
        have hj2 : j < ops.length := by rw [HS.out.1]; exact hlt
        have e : ops.take (j + 1) = ops.take j ++ [x] := by
          rw [List.take_add_one, hx]
          rfl
        rw [e, St.play_snoc])
      have HOK := Lib.hid hok
      clear cell hrc hcell hx hr hok
      by_cases hk2 : x.k ≤ 2
      · have cS := step2_any HL.out (by have := HLN.out.2; omega) (by have := HLN.out.1; omega) (by omega) HBW.out.size x HOK.out hk2
        rw [HLP.out] at cS
        unfold OpV.cells at cS
        go_wp2_with fail
        refine cS.mono ?_
        rintro e w2 ⟨rfl, ⟨L2, hs2, h2⟩, hb2⟩
        have HL2 := Lib.hid h2
        have HB2 := Lib.hid hb2
        have HS2 := Lib.hid hs2
        clear h2 hb2 hs2 cS
        go_wp2_with fail
        go_roundw
        case rel => exact ⟨j + 1, k + 1, L2, rfl, by go_num, by omega, by omega, ⟨HS2.out.1.trans HSM.out.1, HS2.out.2.1.trans HSM.out.2.1, HS2.out.2.2.1.trans HSM.out.2.2.1, HS2.out.2.2.2.1.trans HSM.out.2.2.2.1, HS2.out.2.2.2.2.trans HSM.out.2.2.2.2⟩, by rw [HT.out, if_pos hk2]; exact HL2.out, HBW.out.trans HB2.out⟩
        case measure => simp [intOf]; omega
      · go_wp2_with fail
        go_roundw
        case rel => exact ⟨j + 1, k, L', rfl, by go_num, by omega, by omega, HSM.out, by rw [HT.out, if_neg hk2]; exact HL.out, HBW.out⟩
        case measure => simp [intOf]; omega
    · obtain rfl : n = j := by omega
      have HT : Hid (ops.take n = ops) := Lib.hid (by rw [← HS.out.1]; exact List.take_length)
      go_wp2_with fail
      go_ret2
      exact ⟨L', k, by rw [HLP.out]; rfl, by omega, by have := HL.out; rw [HT.out] at this; exact this, HBW.out⟩
end
end Go.Proofs.YtaecdpijpdfboaaGreat
