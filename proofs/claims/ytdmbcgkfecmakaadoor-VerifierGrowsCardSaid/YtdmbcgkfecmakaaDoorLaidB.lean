/- The listed variables give the tables. -/
import Derived.Test.YtdmbcgkfecmakaaDoorRows
import Derived.Test.YtdmbcgkfecmakaaDoorText
import Derived.ProofKit
import Derived.OpenShut
import Derived.Lib.LaidTab
namespace Go.Proofs.YtdmbcgkfecmakaaDoor
set_option linter.unusedVariables false
set_option linter.unusedSimpArgs false
set_option linter.unusedSectionVars false
open Go.ChangeShapes Go.WideShapes Go.ChangeAt Go.RowKit
set_option maxRecDepth 100000

theorem mapM_head {α β : Type} {f : α → Option β} {l : List α} {r : List β} (h : l.mapM f = some r) (i : Nat) (a : α) (ha : l[i]? = some a) : ∃ b, r[i]? = some b ∧ f a = some b := Lib.mapM_at h i a ha

theorem cells_of_strs {H : Type} {enc : TypeId × Value → H} {P : Program} {w : World} {base : Nat} {sp : Nat → Bool} {held : Bool} {fuel : Nat} {t e : TypeId} {n : Nat} {cs : List Value} {zs : List (List UInt8)} {p : List MemPlace}
    (ht : P.underlying t = some (.array n e)) (he : P.underlying e = some .string) (hce : P.cellsOf e = 1) (hct : P.cellsOf t = n)
    (h : DataW.trod enc P w base sp held fuel t cs = some (.agg (zs.map fun z => .lit (.string z)), p)) : cs = zs.map fun z => Value.string ⟨z.toArray⟩ := by
  cases fuel with
  | zero => simp [DataW.trod] at h
  | succ fuel =>
    simp only [DataW.trod, ht, hce, hct, Nat.mul_one] at h
    split at h
    · rename_i hl
      obtain ⟨xs, hm, hx⟩ := Option.map_eq_some_iff.1 h
      have hxs : xs.map (·.1) = zs.map fun z => (DataW.lit (.string z) : DataW H) := by
        have := congrArg Prod.fst hx
        simpa using this
      have hxl : xs.length = n := by simpa using Lib.mapM_length hm
      have hzl : zs.length = n := by
        have := congrArg List.length hxs
        simp at this
        omega
      apply List.ext_getElem?
      intro i
      by_cases hi : i < n
      · obtain ⟨b, hb, hf⟩ := Lib.mapM_at hm i i (by simp [hi])
        obtain ⟨z, hc, rfl, _⟩ := DataW.trod_string he hf
        have h1 : cs[i]? = some (.string z) := by
          have := congrArg (·[0]?) hc
          simpa [List.getElem?_take, List.getElem?_drop] using this
        have h2 : (xs.map (·.1))[i]? = some (DataW.lit (.string z.data.toList) : DataW H) := by simp [hb]
        rw [hxs] at h2
        simp only [List.getElem?_map, Option.map_eq_some_iff, DataW.lit.injEq, Lit.string.injEq] at h2
        obtain ⟨z', hz', rfl⟩ := h2
        simp [h1, hz']
      · rw [List.getElem?_eq_none (by omega), List.getElem?_eq_none (by simp; omega)]
    · cases h

theorem tabs_of_laid {W : World} (h : laidMetH Tryd.prog Rows.bytecodeNamesRow.laid W) : Tabs W := by
  have h' : laidMet Tryd.prog Rows.bytecodeNamesRow.laid W := h
  obtain ⟨ps, hl, _⟩ := h'
  obtain ⟨g1, t1, cs1, f1, p1, q1, _, _, _, _, hl, _⟩ := hl
  obtain ⟨g2, t2, cs2, f2, p2, q2, _, _, _, _, hl, _⟩ := hl
  obtain ⟨g3, t3, cs3, f3, p3, q3, hg3, ht3, hv3, hd3, hl, _⟩ := hl
  obtain ⟨g4, t4, cs4, f4, p4, q4, hg4, ht4, hv4, hd4, _, _⟩ := hl
  have e3 : Tryd.prog.globalNamed "internal/strconv.uint64pow10" = some 1 := by kernel_rfl
  have e4 : Tryd.prog.globalNamed "refmesh/bytecode.operators" = some 0 := by kernel_rfl
  obtain rfl := Option.some.inj (e3.symm.trans hg3)
  obtain rfl := Option.some.inj (e4.symm.trans hg4)
  have u3 : (Tryd.prog.globals[1]?).map (·.type) = some 135 := by kernel_rfl
  have u4 : (Tryd.prog.globals[0]?).map (·.type) = some 102 := by kernel_rfl
  obtain rfl := Option.some.inj (u3.symm.trans ht3)
  obtain rfl := Option.some.inj (u4.symm.trans ht4)
  have c3 : cs3.toList = Lib.pow10Tab.map fun z => Value.int .u64 z := Lib.cells_of_tab (k := .u64) (zs := Lib.pow10Tab) Tryd.underlying135 Tryd.underlying63 (by kernel_rfl) (by kernel_rfl) hd3
  have c4 : cs4.toList = (operTexts.map fun l => l.map fun n => n.toUInt8).map fun z => Value.string ⟨z.toArray⟩ := cells_of_strs (zs := operTexts.map fun l => l.map fun n => n.toUInt8) Tryd.underlying102 Tryd.underlying9 (by kernel_rfl) (by kernel_rfl) hd4
  have hc : ∀ i : Nat, i < 11 → W.cell? ⟨0, i, none⟩ = some (.string (operB i)) := fun i hi => by
    rw [World.var?_cell hg4 hv4 i, ← Array.getElem?_toList, c4]
    have hh : i = 0 ∨ i = 1 ∨ i = 2 ∨ i = 3 ∨ i = 4 ∨ i = 5 ∨ i = 6 ∨ i = 7 ∨ i = 8 ∨ i = 9 ∨ i = 10 := by omega
    rcases hh with rfl | rfl | rfl | rfl | rfl | rfl | rfl | rfl | rfl | rfl | rfl <;> rfl
  refine ⟨?_, hc, cell_lt (hc 0 (by omega))⟩
  unfold Lib.TabIs
  rw [hv3]
  congr 1
  exact Array.toList_inj.1 (by rw [c3])
end Go.Proofs.YtdmbcgkfecmakaaDoor
