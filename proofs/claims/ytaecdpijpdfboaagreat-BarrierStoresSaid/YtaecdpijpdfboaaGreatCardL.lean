/- Package cards: the marked cards as a list; the sorted keys of a map. -/
import Derived.Test.YtaecdpijpdfboaaGreatSortK
import Derived.Test.YtaecdpijpdfboaaGreatCards
namespace Go.Proofs.YtaecdpijpdfboaaGreat
set_option linter.unusedVariables false
set_option linter.unusedSimpArgs false
set_option linter.unusedSectionVars false
open Go.RowKit Go.Maps Go.Sort Go.Shelf
set_option maxRecDepth 100000

theorem sortsA (m : Nat) : AnyZI.SortsIn Tryz.prog Tryz.sortedA_ren Fence.wide m :=
  ⟨fun blk off cap ss W hH hblk hsz => callsIn_wide.2 (AnyM.slices_Sort_int Tryz.sortA blk off cap ss W hH hblk hsz),
   fun p cap W => callsIn_wide.2 (AnyM.slices_Sort_int_none Tryz.sortA p cap W)⟩
def KeysP (w : World) (k : TypeId) (D0 : DataW Unit) (e : Ending) (w' : World) : Prop := ∃ (v : Value) (ss : List Int), e = .returned v ∧ ss.Perm (intKeys D0) ∧
  w'.ownsRow w.heap.size k 1 v ss.length ((ss.mergeSort (fun x y => decide (x ≤ y))).map encZ) ∧ (v = .slice none 0 0 ↔ ss = []) ∧ Below w.heap.size w w'
set_option maxHeartbeats 1000000 in
theorem sorted_keys (b nn : Nat) (D0 : DataW Unit) (R : Value → Option (DataW Unit × List MemPlace)) (w : World) (hown : w.ownsMap Tryz.prog 3 R b nn D0) (hmax : Maps.size D0 ≤ maxLen) (hbytes : Maps.size D0 * 8 ≤ 140737488355328) :
    Calls Tryz.prog 49 #[.map (some b)] w (KeysP w 3 D0) := by
  refine (callsIn_wide (n := 6)).1 ?_
  have hbl := hown.lt
  have hseq : SeqGives Fence.wide 2 Tryz.prog 102 #[.pointer (some ⟨w.heap.size, 0, none⟩)] encZ (fun ss => ss.Perm (intKeys D0)) (Maps.size D0) (w.alloc (.cells #[.map (some b)] 94)) :=
    AnyZI.keys_gives (ρ := Tryz.keysA_ren) { Tryz.keysA with } Fence.wide _ trivial rfl (by omega) w.heap.size b nn D0 _ (by simp) (by simp) (by
      obtain ⟨es, clock, hb, Ft, hs, hD⟩ := hown
      exact ⟨es, clock, (Below.heap_alloc _ _ b hbl).trans hb, Ft, hs, hD⟩)
  have cK : ∀ mb W, CallsIn Fence.wide 5 Tryz.prog 87 #[.map mb] W fun e w' => e = .returned (.func (.func 102) #[] #[.pointer (some ⟨W.heap.size, 0, none⟩)]) ∧ w' = W.alloc (.cells #[.map mb] 94) := fun mb W => AnyZI.keys_in Tryz.keysA Fence.wide 5 trivial rfl mb W
  have cS := AnyZI.sorted_in Tryz.sortedA Fence.wide 5 trivial trivial trivial trivial rfl (by omega) (sortsA _) (enters_of Tryz.func101 (by kernel_rfl) rfl) 102 #[.pointer (some ⟨w.heap.size, 0, none⟩)] trivial (enters_of Tryz.func102 (by kernel_rfl) rfl) _ _ hmax hbytes _ hseq
  change CallsIn _ _ Tryz.prog 86 _ _ _ at cS
  have hfK : Fence.wide.fn 87 := trivial
  have hfS : Fence.wide.fn 86 := trivial
  refine callsIn_of_wp Tryz.func49 rfl trivial ?_ rfl
  simp only [Tryz.ntmps49, List.size_toArray, List.length_cons, List.length_nil, Nat.reduceAdd, Nat.reduceSub, Array.replicate_succ, Array.replicate_zero, List.push_toArray, List.append_toArray, List.nil_append, List.cons_append]
  gi_wp2_with (first
    | (gi_at_call 87; refine (cK _ _).mono ?_; rintro e w' ⟨rfl, rfl⟩)
    | (gi_at_call 86; refine cS.mono ?_; rintro e w' ⟨v, ss, rfl, hS, hrow, hnil, hb⟩))
  go_ret
  exact ⟨v, ss, rfl, hS, ownsRow_base_a hrow (by simp), hnil, ((Below.refl _ w).alloc (Nat.le_refl _) _).trans (hb.mono (by simp))⟩
theorem MapT.keys {P : Program} {k e : TypeId} {w : World} {b n : Nat} {cs : List Int} (h : MapT P k e w b n (fun x => cs.contains x)) (hk : P.underlying k = some (.int .i64)) (hs : cs.Pairwise (· < ·)) (hw : ∀ x ∈ cs, (Lit.int .i64 x).wf = true) :
    ∃ D : DataW Unit, w.ownsMap P k (plainElem P e) b n D ∧ cs.Perm (intKeys D) ∧ Maps.size D = cs.length := by
  obtain ⟨D, hown, hD⟩ := h
  have hown2 := hown
  obtain ⟨es, rfl, hpw, _⟩ := hown.entries (int_keyed hk)
  obtain ⟨es', hD', hko⟩ := hown2.keysOf
  obtain rfl : es = es' := by simpa using hD'
  have hkeys : ∀ p ∈ es, ∃ x, p.1 = .int .i64 x := fun p hp => by obtain ⟨v, hv⟩ := hko p hp; obtain ⟨x, _, hx, _⟩ := Maps.keyOf_i64 hk hv; exact ⟨x, hx⟩
  have hperm : cs.Perm (intKeys (.map es)) := perm_intKeys hpw hkeys (hs.imp fun h e => by subst e; exact absurd h (Int.lt_irrefl _)) fun x => by
    by_cases hx : (Lit.int .i64 x).wf = true
    · rw [(hD x hx).1]; simp
    · constructor
      · intro hm; exact absurd (hw x hm) hx
      · intro hm
        rw [Maps.has_eq, List.any_eq_true] at hm
        obtain ⟨p, hp, hsk⟩ := hm
        obtain ⟨v, hv⟩ := hko p hp
        obtain ⟨y, _, hy, hwy⟩ := Maps.keyOf_i64 hk hv
        rw [hy] at hsk
        have : y = x := by simpa [Lit.sameKey] using hsk
        rw [this] at hwy
        exact absurd hwy hx
  refine ⟨_, hown, hperm, ?_⟩
  rw [hperm.length_eq]
  simp [Maps.size, intKeys]
theorem mergeSort_self {cs ss : List Int} (hs : cs.Pairwise (· < ·)) (h : ss.Perm cs) : ss.mergeSort (fun x y => decide (x ≤ y)) = cs := by
  rw [show ss.mergeSort (fun x y => decide (x ≤ y)) = cs.mergeSort (fun x y => decide (x ≤ y)) from mergeSort_of_perm_i h]
  exact List.mergeSort_of_pairwise (hs.imp fun h => by simp; omega)
def CardsP (w : World) (cs : List Int) (e : Ending) (w' : World) : Prop := ∃ v, e = .returned v ∧ w'.ownsRow w.heap.size 3 1 v cs.length (ints cs) ∧ Below w.heap.size w w'
theorem Cards_any {w : World} {B g b n : Nat} {cs : List Int} (h : CR w B g b n cs) (hs : cs.Pairwise (· < ·)) (hw : ∀ x ∈ cs, (Lit.int .i64 x).wf = true) (hl : cs.length ≤ 1000000) : Calls Tryz.prog 17 #[.pointer (some ⟨g, 0, none⟩)] w (CardsP w cs) := by
  obtain ⟨D, hown, hperm, hsz⟩ := h.mp.keys Tryz.underlying3 hs hw
  have cS := sorted_keys b n D _ w hown (by unfold maxLen; omega) (by omega)
  have c0 : w.cell? ⟨g, 0, none⟩ = some (.map (some b)) := h.hd.cell 0
  have HS := Lib.hid hs
  have HP := Lib.hid hperm
  clear h hown hs hw hperm hsz
  go_enter Tryz.func17, Tryz.ntmps17
  go_wp2_with fail
  refine cS.mono ?_
  rintro e w1 ⟨v, ss, rfl, hss, hrow, hnil, hb⟩
  have HR := Lib.hid hrow
  have HSS := Lib.hid hss
  have HB := Lib.hid hb
  clear hss hrow hnil hb cS
  go_wp2_with fail
  go_ret
  have hp := HSS.out.trans HP.out.symm
  have hr := HR.out
  rw [mergeSort_self HS.out hp, hp.length_eq] at hr
  exact ⟨v, rfl, hr, HB.out⟩
/-! ### the cards of a table are in increasing order -/
theorem cardIns_inc (c : Int) : ∀ l : List Int, l.Pairwise (· < ·) → c ∉ l → (cardIns c l).Pairwise (· < ·) ∧ ∀ x, x ∈ cardIns c l ↔ x = c ∨ x ∈ l
  | [], _, _ => by unfold cardIns; exact ⟨List.pairwise_singleton _ _, fun x => by simp⟩
  | y :: l, h, hc => by
    obtain ⟨h1, h2⟩ := List.pairwise_cons.1 h
    have hcy : c ≠ y := fun e => hc (e ▸ List.mem_cons_self ..)
    have hcl : c ∉ l := fun e => hc (List.mem_cons_of_mem _ e)
    unfold cardIns
    split
    · obtain ⟨h3, h4⟩ := cardIns_inc c l h2 hcl
      refine ⟨List.pairwise_cons.2 ⟨fun x hx => ?_, h3⟩, fun x => ?_⟩
      · rcases (h4 x).1 hx with rfl | hx
        · assumption
        · exact h1 x hx
      · rw [List.mem_cons, h4, List.mem_cons]
        constructor
        · rintro (h | h | h)
          · exact .inr (.inl h)
          · exact .inl h
          · exact .inr (.inr h)
        · rintro (h | h | h)
          · exact .inr (.inl h)
          · exact .inl h
          · exact .inr (.inr h)
    · refine ⟨List.pairwise_cons.2 ⟨fun x hx => ?_, h⟩, fun x => List.mem_cons⟩
      rcases List.mem_cons.1 hx with rfl | hx
      · omega
      · have := h1 x hx; omega
/-- the cards are in increasing order, and numbers of cards -/
def CardsI (cs : List Int) : Prop := cs.Pairwise (· < ·) ∧ ∀ x ∈ cs, 0 ≤ x ∧ x < 1048576
theorem CardsI.nil : CardsI [] := ⟨List.Pairwise.nil, fun x h => by cases h⟩
theorem CardsI.mark {cs : List Int} (h : CardsI cs) (a : Int) : CardsI (cardMark cs a).2 := by
  unfold cardMark
  split
  · exact h
  · rename_i ho
    split
    · exact h
    · rename_i hn
      have ho2 : oldB a = true := by simpa using ho
      have hab := (oldB_iff a).1 ho2
      have hc : a / 16 ∉ cs := fun hm => hn (by unfold cardIn; rw [ho2]; simpa using hm)
      obtain ⟨h1, h2⟩ := cardIns_inc (a / 16) cs h.1 hc
      refine ⟨h1, fun x hx => ?_⟩
      rcases (h2 x).1 hx with rfl | hx
      · omega
      · exact h.2 x hx
theorem CardsI.wf {cs : List Int} (h : CardsI cs) : ∀ x ∈ cs, (Lit.int .i64 x).wf = true := fun x hx => WalkArith.wf_i64 (by have := h.2 x hx; omega)
end Go.Proofs.YtaecdpijpdfboaaGreat
