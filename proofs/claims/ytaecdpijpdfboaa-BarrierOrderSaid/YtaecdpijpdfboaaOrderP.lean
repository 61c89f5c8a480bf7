/- The crossing slots as plain mathematics: they are in increasing order. -/
import Derived.Test.YtaecdpijpdfboaaBarQ
namespace Go.Proofs.Ytaecdpijpdfboaa
set_option linter.unusedVariables false
set_option linter.unusedSimpArgs false
set_option linter.unusedSectionVars false
open Go.RowKit

theorem Mm.slotsAt_mem {m : Mm} {a : Int} {s : Int × Int} : s ∈ m.slotsAt a ↔ ∃ i : Nat, (i : Int) < slotN (m.hdr a).2 ∧ s.1 = a + 2 + i ∧ m.at_ s.1 = some s.2 := by
  unfold Mm.slotsAt
  simp only [List.mem_filterMap, List.mem_map, List.mem_range, Option.map_eq_some_iff]
  constructor
  · rintro ⟨b, ⟨i, hi, rfl⟩, x, hx, rfl⟩
    exact ⟨i, by omega, rfl, hx⟩
  · rintro ⟨i, hi, e, hx⟩
    exact ⟨s.1, ⟨i, by omega, e.symm⟩, s.2, hx, rfl⟩
theorem Mm.slotsAt_inc (m : Mm) (a : Int) : (m.slotsAt a).Pairwise (fun s t => s.1 < t.1) := by
  unfold Mm.slotsAt
  rw [List.pairwise_filterMap, List.pairwise_map]
  refine List.Pairwise.imp ?_ List.pairwise_lt_range
  intro i j hij s hs t ht
  simp only [Option.map_eq_some_iff] at hs ht
  obtain ⟨x, _, rfl⟩ := hs
  obtain ⟨y, _, rfl⟩ := ht
  show a + 2 + (i : Int) < a + 2 + (j : Int)
  omega
theorem Mm.Ok.slots_inc {m : Mm} (h : m.Ok) : m.slots.Pairwise (fun s t => s.1 < t.1) := by
  unfold Mm.slots
  rw [List.pairwise_flatMap]
  refine ⟨fun a _ => m.slotsAt_inc a, ?_⟩
  unfold Spc.objs
  rw [List.pairwise_map]
  have hw := (m.old.walkFrom_mem m.old.ws.length 0 (by omega)).2.2.2.1
  rw [← Spc.walk_eq] at hw
  refine List.Pairwise.imp_of_mem ?_ hw
  intro t u ht hu htu s hs s' hs'
  obtain ⟨i, hi, e, _⟩ := Mm.slotsAt_mem.1 hs
  obtain ⟨j, hj, e', _⟩ := Mm.slotsAt_mem.1 hs'
  obtain ⟨t', e1, _, _, _, hh, hsz⟩ := h.objs (a := m.old.base + (t : Int)) (List.mem_map.2 ⟨t, ht, rfl⟩)
  have hv := slotN_le (Mm.hdr_valid hh)
  have hb := h.ob
  have : t' = t := by omega
  subst this
  omega
theorem Mm.Ok.crossing_inc {m : Mm} (h : m.Ok) (p : Int → Bool) : (m.crossing p).Pairwise (· < ·) := by
  unfold Mm.crossing
  rw [List.pairwise_map]
  exact h.slots_inc.filter _
theorem Mm.Ok.crossing_all {m : Mm} (h : m.Ok) {p : Int → Bool} {b : Int} (hb : b ∈ m.crossing p) : (∃ x, m.at_ b = some x ∧ U64 x ∧ ygW x = true) ∧ m.old.has b = true ∧ p b = true ∧ b ∈ m.crossing fun _ => true := by
  have hb2 := hb
  obtain ⟨a, ha, i, hi, e, x, hx, hy, hp⟩ := Mm.crossing_mem.1 hb
  refine ⟨⟨x, hx, h.at_u hx, hy⟩, e ▸ h.slot_old ha hi, hp, Mm.crossing_mem.2 ⟨a, ha, i, hi, e, x, hx, hy, rfl⟩⟩
theorem Mm.Ok.crossing_len2 {m : Mm} (h : m.Ok) (p : Int → Bool) : (m.crossing p).length ≤ 536870912 := by
  unfold Mm.crossing
  rw [List.length_map]
  refine Nat.le_trans (List.length_filter_le _ _) ?_
  unfold Mm.slots
  have h1 := flatMap_len m.slotsAt 31 m.old.objs fun a _ => by
    unfold Mm.slotsAt
    refine Nat.le_trans (List.length_filterMap_le _ _) ?_
    simp only [List.length_map, List.length_range]
    exact slotN_31 a
  have h2 : m.old.objs.length ≤ m.old.ws.length := by
    unfold Spc.objs Spc.walk
    rw [List.length_map]
    exact Spc.walkN_len _ _ _
  have h3 := h.o.lim
  have h4 := h.ol
  have h5 := h.o.b0
  omega
end Go.Proofs.Ytaecdpijpdfboaa
