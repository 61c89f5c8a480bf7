/- Parts of the proof: Eqs. -/
import Derived.Test.YtjpaogapclfajaaGreatBcA
import Derived.Test.YtjpaogapclfajaaGreatBc23
set_option linter.unusedVariables false
set_option linter.unusedSimpArgs false
set_option linter.unusedSectionVars false
namespace Go.Proofs.YtjpaogapclfajaaGreat
open Go.RowKit Go.Sort
set_option maxRecDepth 100000
set_option maxHeartbeats 1000000 in
theorem Same8_any (l m : List Int) (A B : Option Addr) (c d : Nat) (w : World) (hl : l.length ≤ 140737488355328) (hc : l.length ≤ c) (hd : m.length ≤ d) (h1 : Sl w 1 A l.length (ints l)) (h2 : Sl w 1 B m.length (ints m)) :
  Calls Tryz.prog 38 #[.slice A l.length c, .slice B m.length d] w fun e w' => e = .returned (.bool (eqL l m)) ∧ ∃ n, w' = w.drewN n := by
 by_cases hlen : l.length = m.length
 ·have hb : ((l.length : Int) != (m.length : Int)) = false := by rw [hlen]; simp
  go_enter Tryz.func38, Tryz.ntmps38
  have HL := lh hlen
  clear hlen
  go_wp2
  go_loopw [5] (fun i wr => ∃ k n : Nat, i = .int .i64 (k : Int) ∧ k ≤ l.length ∧ wr = w.drewN n ∧ l.take k = m.take k) (fun i _ => l.length - (intOf i).toNat)
  case atStart => exact ⟨0, 0, rfl, Nat.zero_le _, rfl, rfl⟩
  case round =>
   obtain ⟨k, n, rfl, hk, rfl, htk⟩ := hrel
   by_cases hlt : k < l.length
   ·obtain ⟨b, o, rfl, hb1, hc1⟩ := h1.get hlt
    obtain ⟨b', o', rfl, hb2, hc2⟩ := h2.get (HL.out ▸ hlt)
    have hlt2 : k < m.length := HL.out ▸ hlt
    have e1 : w.cell? ⟨b, o + k, none⟩ = some (.int .i64 l[k]) := hc1 k _ (by simp [ints, hlt])
    have e2 : w.cell? ⟨b', o' + k, none⟩ = some (.int .i64 m[k]) := hc2 k _ (by simp [ints, hlt2])
    have t1 : l[k]? = some l[k] := List.getElem?_eq_getElem hlt
    have t2 : m[k]? = some m[k] := List.getElem?_eq_getElem hlt2
    generalize l[k] = x at e1 t1
    generalize m[k] = y at e2 t2
    have HT := lh (And.intro t1 t2)
    have HK := lh htk
    have hcc : k < c := by omega
    have hdd : k < d := by omega
    clear t1 t2 htk hc1 hc2 h1 h2
    by_cases hxy : x = y
    ·have hb3 : (x != y) = false := by simp [hxy]
     have HX := lh hxy
     clear hxy
     go_wp2
     go_quiet (fail)
     go_wp2
     go_roundw
     case rel =>
      refine ⟨k + 1, _, by go_num, by omega, rfl, ?_⟩
      rw [List.take_add_one, List.take_add_one, HT.out.1, HT.out.2, HK.out, HX.out]
     case measure => simp [intOf]; omega
    ·have hb3 : (x != y) = true := by simp [hxy]
     have HX := lh hxy
     clear hxy
     go_wp2
     go_quiet (fail)
     go_wp2
     go_ret
     exact ⟨ret_bool (decide_eq_false (list_ne_of_get HT.out.1 HT.out.2 HX.out)).symm, _, World.drewN_drewN _ _ _⟩
   ·obtain rfl : k = l.length := by omega
    have HK := lh htk
    clear htk
    go_wp2
    go_ret
    refine ⟨ret_bool (decide_eq_true ?_).symm, _, rfl⟩
    have := HK.out
    rwa [List.take_length, HL.out, List.take_length] at this
 ·have hb : ((l.length : Int) != (m.length : Int)) = true := by simp; omega
  have HL := lh hlen
  clear hlen
  go_enter Tryz.func38, Tryz.ntmps38
  go_wp2
  go_ret
  exact ⟨ret_bool (decide_eq_false (fun h => HL.out (by rw [h]))).symm, 0, rfl⟩
set_option maxHeartbeats 1000000 in
theorem Words6_any (l m : List Int) (A B : Option Addr) (c d : Nat) (w : World) (hl : l.length ≤ 140737488355328) (hc : l.length ≤ c) (hd : m.length ≤ d) (h1 : Sl w 1 A l.length (wds l)) (h2 : Sl w 1 B m.length (wds m)) :
  Calls Tryz.prog 41 #[.slice A l.length c, .slice B m.length d] w fun e w' => e = .returned (.bool (eqL l m)) ∧ ∃ n, w' = w.drewN n := by
 by_cases hlen : l.length = m.length
 ·have hb : ((l.length : Int) != (m.length : Int)) = false := by rw [hlen]; simp
  go_enter Tryz.func41, Tryz.ntmps41
  have HL := lh hlen
  clear hlen
  go_wp2
  go_loopw [5] (fun i wr => ∃ k n : Nat, i = .int .i64 (k : Int) ∧ k ≤ l.length ∧ wr = w.drewN n ∧ l.take k = m.take k) (fun i _ => l.length - (intOf i).toNat)
  case atStart => exact ⟨0, 0, rfl, Nat.zero_le _, rfl, rfl⟩
  case round =>
   obtain ⟨k, n, rfl, hk, rfl, htk⟩ := hrel
   by_cases hlt : k < l.length
   ·obtain ⟨b, o, rfl, hb1, hc1⟩ := h1.get hlt
    obtain ⟨b', o', rfl, hb2, hc2⟩ := h2.get (HL.out ▸ hlt)
    have hlt2 : k < m.length := HL.out ▸ hlt
    have e1 : w.cell? ⟨b, o + k, none⟩ = some (.int .u64 l[k]) := hc1 k _ (by simp [wds, hlt])
    have e2 : w.cell? ⟨b', o' + k, none⟩ = some (.int .u64 m[k]) := hc2 k _ (by simp [wds, hlt2])
    have t1 : l[k]? = some l[k] := List.getElem?_eq_getElem hlt
    have t2 : m[k]? = some m[k] := List.getElem?_eq_getElem hlt2
    generalize l[k] = x at e1 t1
    generalize m[k] = y at e2 t2
    have HT := lh (And.intro t1 t2)
    have HK := lh htk
    have hcc : k < c := by omega
    have hdd : k < d := by omega
    clear t1 t2 htk hc1 hc2 h1 h2
    by_cases hxy : x = y
    ·have hb3 : (x != y) = false := by simp [hxy]
     have HX := lh hxy
     clear hxy
     go_wp2
     go_quiet (fail)
     go_wp2
     go_roundw
     case rel =>
      refine ⟨k + 1, _, by go_num, by omega, rfl, ?_⟩
      rw [List.take_add_one, List.take_add_one, HT.out.1, HT.out.2, HK.out, HX.out]
     case measure => simp [intOf]; omega
    ·have hb3 : (x != y) = true := by simp [hxy]
     have HX := lh hxy
     clear hxy
     go_wp2
     go_quiet (fail)
     go_wp2
     go_ret
     exact ⟨ret_bool (decide_eq_false (list_ne_of_get HT.out.1 HT.out.2 HX.out)).symm, _, World.drewN_drewN _ _ _⟩
   ·obtain rfl : k = l.length := by omega
    have HK := lh htk
    clear htk
    go_wp2
    go_ret
    refine ⟨ret_bool (decide_eq_true ?_).symm, _, rfl⟩
    have := HK.out
    rwa [List.take_length, HL.out, List.take_length] at this
 ·have hb : ((l.length : Int) != (m.length : Int)) = true := by simp; omega
  have HL := lh hlen
  clear hlen
  go_enter Tryz.func41, Tryz.ntmps41
  go_wp2
  go_ret
  exact ⟨ret_bool (decide_eq_false (fun h => HL.out (by rw [h]))).symm, 0, rfl⟩
end Go.Proofs.YtjpaogapclfajaaGreat
