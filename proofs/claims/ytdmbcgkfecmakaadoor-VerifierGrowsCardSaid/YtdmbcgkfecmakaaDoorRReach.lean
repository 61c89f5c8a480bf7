/- refmeshref43.Reachable. -/
import Derived.Test.YtdmbcgkfecmakaaDoorRRpure
import Derived.Test.YtdmbcgkfecmakaaDoorRDepths0
import Derived.Test.YtdmbcgkfecmakaaDoorReach
namespace Go.Proofs.YtdmbcgkfecmakaaDoor
set_option linter.unusedVariables false
set_option linter.unusedSimpArgs false
set_option linter.unusedSectionVars false
open Go.RowKit Go.Maps Go.Deep
set_option maxRecDepth 100000

def rowB (g : Nat → Option Int) (j : Nat) : Value := .bool (g j).isSome

/-- the world of the reference: block N holds the method, block N + 1 the marks -/
structure RB (w0 w : World) (N : Nat) (v0 v1 v2 v4 : Value) (A : Option Addr) (len cap : Nat) (F : Nat → Value) : Prop where
  row : w.rowIs (N + 1) 4 len F
  box : Bk w N 25 #[v0, v1, v2, .slice A len cap, v4]
  bel : Below N w0 w
  sz : N + 2 ≤ w.heap.size

section
variable {w0 w w' : World} {N : Nat} {v0 v1 v2 v4 : Value} {A : Option Addr} {len cap : Nat} {F : Nat → Value}
theorem RB.below (h : RB w0 w N v0 v1 v2 v4 A len cap F) (hb : Below w.heap.size w w') : RB w0 w' N v0 v1 v2 v4 A len cap F :=
  ⟨h.row.of_block (hb.block _ h.row.lt), h.box.below hb h.box.lt, h.bel.trans (hb.mono (Nat.le_of_lt h.box.lt)), Nat.le_trans h.sz hb.size⟩
theorem RB.set (h : RB w0 w N v0 v1 v2 v4 A len cap F) (i : Nat) (v : Value) {G : Nat → Value} (hG : ∀ j, j < len → (if j = i then v else F j) = G j) : RB w0 (w.setCell ⟨N + 1, i, none⟩ v) N v0 v1 v2 v4 A len cap G :=
  ⟨(h.row.set i v).congr hG, h.box.far (by simp) _, h.bel.setCell (by simp) _, by simpa [World.setCell] using h.sz⟩
theorem RB.sl {g : Nat → Option Int} (h : RB w0 w N v0 v1 v2 v4 A len cap (rowB g)) : Sl w 1 (some ⟨N + 1, 0, none⟩) len (bools (reachL g len)) := by
  refine ⟨by simp [bools, reachL], .inr ⟨N + 1, 0, rfl, h.row.lt, fun j x hx => ?_⟩⟩
  have hj : j < len := by
    have := (List.getElem?_eq_some_iff.1 hx).1
    simpa [bools, reachL] using this
  rw [Nat.zero_add, h.row.cell hj, ← hx]
  simp [bools, reachL, hj, rowB]
end

def RRPost (w : World) (len : Nat) (c : List Ins) (e : Ending) (w' : World) : Prop :=
  ∃ g R, (∀ i, (g i).isSome = true ↔ Reach c i) ∧ Below w.heap.size w w' ∧ e = .returned (.slice (some ⟨R, 0, none⟩) len len) ∧ Sl w' 1 (some ⟨R, 0, none⟩) len (bools (reachL g len))

section
variable {w : World} {v0 v1 v2 v4 : Value} {A : Option Addr} {len cap : Nat}

set_option maxHeartbeats 4000000 in
theorem RReach_any (c : List Ins) (hc : c.length = len) (hl : len ≤ 10000) (hw : ∀ x ∈ c, (Lit.int .i64 x.1).wf = true ∧ (Lit.int .i64 x.2.1).wf = true ∧ (Lit.int .i64 x.2.2).wf = true) (hcode : Sl w 3 A len (codeCells c)) :
    Calls Tryd.prog 27 #[.agg #[v0, v1, v2, .slice A len cap, v4]] w (RRPost w len c) := by
  have hmk := run_make_row' (P := Tryd.prog) 44 4 (.bool false) 1 Tryd.underlying44 Tryd.info4 rfl .i64 .i64 len (by omega) (by omega)
  have hR0 : RB w ((w.alloc (.cells #[v0, v1, v2, .slice A len cap, v4] 25)).alloc (.cells (madeCells #[.bool false] len) 4)) w.heap.size v0 v1 v2 v4 A len cap (fun _ => .bool false) := by
    refine ⟨?_, (Bk.new _ _ _).alloc _, ((Below.refl _ _).alloc (Nat.le_refl _) _).alloc (by simp) _, by simp⟩
    have := World.rowIs_made (w.alloc (.cells #[v0, v1, v2, .slice A len cap, v4] 25)) (.bool false) len 4
    rw [World.size_alloc] at this
    exact this
  have HR0 := Lib.hid hR0
  have HC := Lib.hid hc
  rcases Nat.eq_zero_or_pos len with h0 | h0
  · subst h0
    obtain rfl := List.eq_nil_of_length_eq_zero hc
    simp only [Int.natCast_zero] at hmk
    clear hR0
    go_enter Tryd.func27, Tryd.ntmps27
    go_wp2
    go_loopg [4] (1) (fun q ch wr => ∃ b, ch = .bool b ∧ (b = true → q = 1) ∧ RB w wr w.heap.size v0 v1 v2 v4 A 0 cap (fun _ => .bool false))
    case atStart => exact ⟨true, rfl, fun _ => rfl, HR0.out⟩
    case round =>
      obtain ⟨b, rfl, hq, hR⟩ := hrel
      have HR := Lib.hid hR
      clear hR
      cases b with
      | false =>
        go_wp2
        go_ret
        refine ⟨fun _ => none, _, fun i => ⟨fun h => (by cases h), fun h => ?_⟩, HR.out.bel, rfl, Sl.nil _ _ _⟩
        cases h with
        | zero h => cases h
        | step _ h _ _ => cases h
      | true =>
        have hq1 := hq rfl
        have HQ := Lib.hid hq1
        clear hq hq1
        go_wp2
        go_loop [4, 5] (fun c i => c = .bool false ∧ i = .int .i64 0) (fun _ _ => 0)
        case atStart => exact ⟨rfl, rfl⟩
        case round =>
          obtain ⟨rfl, rfl⟩ := hrel
          go_wp2_with fail
          go_roundg 0
          case measure => have := HQ.out; omega
          case rel => exact ⟨false, rfl, fun h => (by cases h), HR.out⟩
  · have hl0 : decide (0 < (len : Int)) = true := by simpa using h0
    have HS := Lib.hid (BInv.start c (by omega))
    have hR1 : RB w (((w.alloc (.cells #[v0, v1, v2, .slice A len cap, v4] 25)).alloc (.cells (madeCells #[.bool false] len) 4)).setCell ⟨w.heap.size + 1, 0, none⟩ (.bool true)) w.heap.size v0 v1 v2 v4 A len cap (rowB (upd (fun _ => none) 0 0)) :=
      hR0.set 0 _ fun j hj => by
        unfold rowB upd
        by_cases h1 : j = 0 <;> simp [h1]
    rw [World.setCell_alloc_at _ _ _ _ _ (by simp)] at hR1
    have c0 := hR0.row.cell h0
    have f0 := hR0.row.frozen 0
    have HR1 := Lib.hid hR1
    clear hR0 hR1 hc
    go_enter Tryd.func27, Tryd.ntmps27
    go_wp2
    go_loopg [4] (len + 1) (fun q ch wr => ∃ b g, ch = .bool b ∧ BInv c g ∧ RB w wr w.heap.size v0 v1 v2 v4 A len cap (rowB g) ∧ (b = false → ∀ i, (g i).isSome = true ↔ Reach c i) ∧ len - card g len + (if b then 1 else 0) ≤ q)
    case atStart => exact ⟨true, _, rfl, HS.out, HR1.out, fun h => (by cases h), by simp⟩
    case round =>
      obtain ⟨bb, g, rfl, hinv, hR, hgood, hq⟩ := hrel
      cases bb with
      | false =>
        have HG := Lib.hid (And.intro hR (hgood rfl))
        clear hinv hR hgood hq
        go_wp2
        go_ret
        exact ⟨g, _, HG.out.2, HG.out.1.bel, rfl, HG.out.1.sl⟩
      | true =>
        have HI := Lib.hid hinv
        have HR2 := Lib.hid hR
        have HQ := Lib.hid hq
        clear hinv hR hgood hq
        obtain ⟨qo, hqo⟩ : ∃ qo, qo = gk := ⟨gk, rfl⟩
        subst hqo
        go_wp2
        go_loopg [4, 5] (len) (fun q ch i wr => ∃ b g' k, ch = .bool b ∧ i = .int .i64 (k : Nat) ∧ k + q = len ∧ BSweep c g g' b k ∧ RB w wr w.heap.size v0 v1 v2 v4 A len cap (rowB g'))
        case atStart => exact ⟨false, g, 0, rfl, rfl, by omega, BSweep.start HI.out, HR2.out⟩
        case round =>
          obtain ⟨ch, g', k, rfl, rfl, hkq, hsw, hR⟩ := hrel
          cases gk with
          | zero =>
            obtain rfl : k = len := hkq
            have HSW := Lib.hid hsw
            have HR3 := Lib.hid hR
            clear hsw hR
            go_wp2_with fail
            go_roundg (k - card g' k + (if ch then 1 else 0))
            case measure =>
              have h1 := HSW.out.cle
              have h2 := HSW.out.more
              have h3 := HQ.out
              have h4 := card_le g' k
              rw [HC.out] at h1 h2
              simp at h3
              cases ch with
              | true => have := h2 rfl; simp; omega
              | false => simp; omega
            case rel =>
              refine ⟨ch, g', rfl, HSW.out.inv, HR3.out, fun hch => ?_, Nat.le_refl _⟩
              subst hch
              have := HSW.out
              rw [← HC.out] at this
              exact this.fin
          | succ q =>
            have hkl : k < len := by omega
            have cr : wr.cell? ⟨w.heap.size + 1, k, none⟩ = some (rowB g' k) := hR.row.cell hkl
            cases hgk : (g' k).isSome with
            | false =>
              have e : rowB g' k = .bool false := by simp [rowB, hgk]
              rw [e] at cr
              have HSW := Lib.hid hsw
              have HR3 := Lib.hid hR
              have HGK := Lib.hid hgk
              clear hsw hR hgk e
              go_wp2_with fail
              go_roundg q
              case measure => omega
              case rel => exact ⟨ch, g', k + 1, rfl, by go_num, by omega, HSW.out.skip HGK.out, HR3.out⟩
            | true =>
              have e : rowB g' k = .bool true := by simp [rowB, hgk]
              rw [e] at cr
              obtain ⟨x, hx⟩ : ∃ x, c[k]? = some x := ⟨_, List.getElem?_eq_getElem (by rw [HC.out]; exact hkl)⟩
              obtain ⟨hx0, hx1, hx2⟩ := codeCells_get c k x hx
              obtain ⟨cb, co, rfl, hbl, hcc⟩ := hcode.get hkl
              have x0 : w.cell? ⟨cb, co + k * 3, none⟩ = some (.int .i64 x.1) := hcc _ _ hx0
              have x1 : w.cell? ⟨cb, co + k * 3 + 1, none⟩ = some (.int .i64 x.2.1) := hcc _ _ hx1
              have x2 : w.cell? ⟨cb, co + k * 3 + 2, none⟩ = some (.int .i64 x.2.2) := hcc _ _ hx2
              have z0 := (hR.bel.cell (p := ⟨cb, co + k * 3, none⟩) hbl).trans x0
              have z1 := (hR.bel.cell (p := ⟨cb, co + k * 3 + 1, none⟩) hbl).trans x1
              have z2 := (hR.bel.cell (p := ⟨cb, co + k * 3 + 2, none⟩) hbl).trans x2
              have cbx : wr.cell? ⟨w.heap.size, 3, none⟩ = some (.slice (some ⟨cb, co, none⟩) len cap) := hR.box.cell 3
              have hrlt := hR.row.lt
              have HSW := Lib.hid hsw
              have HR3 := Lib.hid hR
              have HGK := Lib.hid hgk
              have HX := Lib.hid hx
              have HKQ := Lib.hid hkq
              clear hsw hR hgk e hx hx0 hx1 hx2 hcc hcode hkq
              go_wp2_with (first | (go_at_call 35; refine (RTargets_ex _ _ _ _ _ (by omega) (by omega)).mono ?_; rintro e w6 ⟨ts, HT, A6, c6, rfl, hc6, hs6, hb6, hA6⟩))
              have HR6 := Lib.hid (HR3.out.below hb6)
              have HS6 := Lib.hid hs6
              have hlen2 : ts.length ≤ 2 := by rw [HT.out]; exact targetsI_len _ _ _ _
              have HA7 : Hid (∀ b o, A6 = some ⟨b, o, none⟩ → w.heap.size + 1 < b) := fun b o h => by
                have h1 := hA6 b o h
                omega
              have HC6 := Lib.hid hc6
              clear hs6 hA6 hc6 hb6 z0 z1 z2 cr cbx HR3 hrlt
              obtain ⟨qi, hqi⟩ : ∃ qi, qi = q := ⟨q, rfl⟩
              subst hqi
              go_loopg [4, 7] (ts.length) (fun q ch2 i wr => ∃ b g2 j, ch2 = .bool b ∧ i = .int .i64 (j : Nat) ∧ j + q = ts.length ∧ BWithin c g g' g2 ch b k x j ∧ RB w wr w.heap.size v0 v1 v2 v4 (some ⟨cb, co, none⟩) len cap (rowB g2) ∧ Sl wr 1 A6 ts.length (ints ts))
              case atStart => exact ⟨ch, g', 0, rfl, rfl, by omega, BWithin.start x HSW.out HGK.out, HR6.out, HS6.out⟩
              case round =>
                obtain ⟨b2, g2, j, rfl, rfl, hjq, hwi, hR, hS⟩ := hrel
                cases gk with
                | zero =>
                  obtain rfl : j = ts.length := hjq
                  have HWI := Lib.hid hwi
                  have HR7 := Lib.hid hR
                  clear hwi hR hS
                  go_wp2_with fail
                  go_roundg qi
                  case measure => omega
                  case rel => exact ⟨b2, g2, k + 1, rfl, by go_num, by have := HKQ.out; omega, HWI.out.finish HSW.out (by rw [HT.out]; rfl) HX.out, HR7.out⟩
                | succ q =>
                  have hjl : j < ts.length := by omega
                  have hjl2 : (j : Int) < ts.length := by omega
                  obtain ⟨tb, tof, rfl, htb, htc⟩ := hS.get hjl
                  obtain ⟨t, ht⟩ : ∃ t, ts[j]? = some t := ⟨_, List.getElem?_eq_getElem hjl⟩
                  have ct : wr.cell? ⟨tb, tof + j, none⟩ = some (.int .i64 t) := htc j _ (by simp [ints, ht])
                  have hj6 : j < c6 := by have := HC6.out; omega
                  have htbn := HA7.out tb tof rfl
                  have htne : tb ≠ w.heap.size + 1 := by omega
                  have ht' : (iT x k)[j]? = some t := by rw [← ht, HT.out]; rfl
                  have HWI := Lib.hid hwi
                  have HR7 := Lib.hid hR
                  have HS7 := Lib.hid hS
                  have HTJ := Lib.hid ht'
                  clear hwi hR hS ht ht' htc htb
                  by_cases hneg : t < 0
                  · have hn0 : ¬ 0 ≤ t := by omega
                    go_wp2
                    go_roundg q
                    case measure => omega
                    case rel => exact ⟨b2, g2, j + 1, rfl, by go_num, by omega, HWI.out.keep HTJ.out (fun n h1 h2 => by omega), HR7.out, HS7.out⟩
                  · have hn0 : 0 ≤ t := by omega
                    by_cases hbig : (len : Int) ≤ t
                    · have hn1 : ¬ t < (len : Int) := by omega
                      go_wp2
                      go_roundg q
                      case measure => omega
                      case rel => exact ⟨b2, g2, j + 1, rfl, by go_num, by omega, HWI.out.keep HTJ.out (fun n h1 h2 => by rw [HC.out] at h2; omega), HR7.out, HS7.out⟩
                    · obtain ⟨n, rfl⟩ := Int.eq_ofNat_of_zero_le (show 0 ≤ t by omega)
                      have hnl : n < len := by omega
                      have cn : wr.cell? ⟨w.heap.size + 1, n, none⟩ = some (rowB g2 n) := HR7.out.row.cell hnl
                      have fn : wr.frozen? ⟨w.heap.size + 1, n, none⟩ = false := HR7.out.row.frozen n
                      cases hgn : (g2 n).isSome with
                      | true =>
                        have e : rowB g2 n = .bool true := by simp [rowB, hgn]
                        rw [e] at cn
                        have HGN := Lib.hid hgn
                        clear hgn e
                        go_wp2
                        go_roundg q
                        case measure => omega
                        case rel =>
                          refine ⟨b2, g2, j + 1, rfl, by go_num, by omega, HWI.out.keep HTJ.out (fun m h1 h2 => ?_), HR7.out, HS7.out⟩
                          have hmn : m = n := by omega
                          rw [hmn]
                          exact HGN.out
                      | false =>
                        have e : rowB g2 n = .bool false := by simp [rowB, hgn]
                        rw [e] at cn
                        have HGN := Lib.hid (show g2 n = none by simpa using hgn)
                        clear hgn e
                        go_wp2
                        go_roundg q
                        case measure => omega
                        case rel =>
                          refine ⟨true, _, j + 1, rfl, by go_num, by omega, HWI.out.new HX.out HTJ.out HGN.out (by rw [HC.out]; exact hnl), HR7.out.set n _ fun i hi => ?_, ?_⟩
                          · unfold rowB upd
                            by_cases hin : i = n
                            · subst hin; simp
                            · simp [hin]
                          · refine ⟨HS7.out.1, .inr ⟨tb, tof, rfl, ?_, fun i y hy => ?_⟩⟩
                            · have := cell_lt ct
                              simpa [World.setCell] using this
                            · rcases HS7.out.2 with h0 | ⟨b', o', hA', _, hc'⟩
                              · omega
                              · injection hA' with hA'
                                injection hA' with e1 e2
                                subst e1
                                subst e2
                                exact (World.cell?_setCell_other _ ⟨w.heap.size + 1, n, none⟩ ⟨tb, tof + i, none⟩ _ (by simp)).trans (hc' i y hy)
end
end Go.Proofs.YtdmbcgkfecmakaaDoor
