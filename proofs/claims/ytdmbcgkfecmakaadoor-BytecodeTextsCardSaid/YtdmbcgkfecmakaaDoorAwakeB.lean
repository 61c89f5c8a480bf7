/- refmeshlaw41.awake returns true. -/
import Derived.Test.YtdmbcgkfecmakaaDoorFormat
namespace Go.Proofs.YtdmbcgkfecmakaaDoor
set_option linter.unusedVariables false
set_option linter.unusedSimpArgs false
set_option linter.unusedSectionVars false
open Go.RowKit Go.Sort
set_option maxRecDepth 100000

theorem own_sls {w : World} {base : Nat} {e : TypeId} {s n : Nat} {v : Value} {xs : List Value} (h : w.ownsRow base e s v n xs) (hn : 0 < n) : ∃ g cap, v = .slice (some ⟨g, 0, none⟩) n cap ∧ n ≤ cap ∧ base ≤ g ∧ Sl w s (some ⟨g, 0, none⟩) n xs := by
  have hlt := h.lt
  have hcl := fun g => h.cells (g := g)
  obtain ⟨h1, h2 | ⟨g, cap, cur, rfl, h3, _, h5, _⟩⟩ := h
  · omega
  · exact ⟨g, cap, rfl, h5, h3, h1, .inr ⟨g, 0, rfl, (hlt g rfl).2, fun j x hx => by
      have := hcl g rfl j x hx
      unfold Addr.add at this
      split at this
      · next h0 => subst h0; exact this
      · exact this⟩⟩

def aNames : List ByteArray := [⟨#[102]⟩, ⟨#[103, 111]⟩]
def aCode (k : Nat) : List Ins := List.replicate k (1, 0, 0)
def aAll : List Ins := aCode 7 ++ [(21, 1, 2)]
theorem aCode_succ (k : Nat) : codeCells (aCode k) ++ [Value.int .i64 1, .int .i64 0, .int .i64 0] = codeCells (aCode (k + 1)) := by
  simp [aCode, codeCells, insCells, List.replicate_succ']
theorem aAll_cells : codeCells (aCode 7) ++ [Value.int .i64 21, .int .i64 1, .int .i64 2] = codeCells aAll := by
  simp [aAll, codeCells, insCells]
theorem dec_small (n : Nat) (h : n < 10) : dec n = ⟨#[UInt8.ofNat (48 + n)]⟩ := by
  unfold dec Lib.itoa
  rw [if_neg (by omega), Int.toNat_natCast, Lib.decDigits, dif_pos h]
theorem a_head : headB ⟨#[109]⟩ 1 2 = ⟨#[109, 101, 116, 104, 111, 100, 32, 109, 32, 49, 32, 50]⟩ := by
  have h1 : dec 1 = ⟨#[49]⟩ := dec_small 1 (by decide)
  have h2 : dec 2 = ⟨#[50]⟩ := dec_small 2 (by decide)
  unfold headB
  rw [h1, h2]
  decide +kernel
theorem a_line : lineB aNames 7 (21, 1, 2) = ⟨#[55, 32, 115, 101, 110, 100, 32, 103, 111, 32, 50]⟩ := by
  have h1 : dec (7 : Nat) = ⟨#[55]⟩ := dec_small 7 (by decide)
  have h2 : dec 2 = ⟨#[50]⟩ := dec_small 2 (by decide)
  have h3 : iV (21, 1, 2) = true := by decide +kernel
  unfold lineB
  rw [h1, h3]
  have h4 : textB aNames (Int.toNat 21) 1 2 = nameB aNames 1 ++ spB ++ dec 2 := rfl
  show _ ++ _ ++ (if true = true then (if hasText (Int.toNat 21) = true then opName (Int.toNat 21) ++ spB ++ textB aNames (Int.toNat 21) 1 2 else _) else _) = _
  rw [h4, h2]
  decide +kernel
theorem i_ins : (Tryd.prog.info? 39).map (fun i => (i.zero, i.size, i.bytes)) = some (some (.agg #[.int .i64 0, .int .i64 0, .int .i64 0]), 3, 24) := by kernel_rfl
theorem cell_three_new (w : World) (x y z : Value) (t : TypeId) : ∀ j u, [x, y, z][j]? = some u → (w.alloc (.cells #[x, y, z] t)).cell? ((⟨w.heap.size, 0, none⟩ : Addr).add j) = some u := by
  intro j u hj
  match j, hj with
  | 0, hj => simp at hj; subst hj; simp [Addr.add]
  | 1, hj => simp at hj; subst hj; simp [Addr.add]
  | 2, hj => simp at hj; subst hj; simp [Addr.add]

theorem grown_setC (w : World) (g i : Nat) (v : Value) : w.grownBy (w.setCell ⟨g, i, none⟩ v) (some g) :=
  ⟨rfl, rfl, rfl, by simp [World.setCell], fun k _ hk => Below.heap_setCell _ _ _ _ (fun e => hk (by rw [e]))⟩

structure AW (w wr : World) (H k : Nat) (c : List Ins) (v : Value) : Prop where
  sd : Bk wr w.heap.size 39 #[.int .i64 21, .int .i64 1, .int .i64 2]
  ns : Bk wr H 9 #[.string ⟨#[102]⟩, .string ⟨#[103, 111]⟩]
  m : Bk wr (H + 1) 25 #[.string ⟨#[109]⟩, .int .i64 1, .int .i64 2, v, .slice (some ⟨H, 0, none⟩) 2 2]
  own : wr.ownsRow (H + 2) 39 3 v k (codeCells c)
  bel : Below w.heap.size w wr
  lt : w.heap.size < H
theorem AW.next {w wr w4 : World} {H k n : Nat} {c c' : List Ins} {v v' : Value} {o : Obj} (h : AW w wr H k c v) (h4 : w4.ownsRow (H + 2) 39 3 v' n (codeCells c')) (hg : (wr.alloc o).grownBy w4 v.ownBlock) : AW w (w4.setCell ⟨H + 1, 3, none⟩ v') H n c' v' := by
  have hne : ∀ g, g < H + 2 → some g ≠ v.ownBlock := fun g hg => own_ne h.own hg
  have hl := h.lt
  have hb := h.bel.size
  refine ⟨((h.sd.alloc o).grown hg (hne _ (by omega))).far (by simp; omega) _, ((h.ns.alloc o).grown hg (hne _ (by omega))).far (by simp) _, ?_, ?_, ?_, h.lt⟩
  · exact ((h.m.alloc o).grown hg (hne _ (by omega))).set 3 v'
  · refine h4.kept (grown_setC w4 (H + 1) 3 v') ?_
    rcases h4.2 with ⟨rfl, _⟩ | ⟨g, _, _, rfl, hge, _⟩
    · exact .inl rfl
    · refine .inr ?_
      simp [Value.ownBlock]
      omega
  · refine ((h.bel.alloc (by omega) o).grown hg (by simp; omega) fun k hk => ?_).setCell (by simp; omega) _
    have := (h.own.lt k hk).1
    omega

set_option maxHeartbeats 4000000 in
theorem awakeB (w : World) (ht : Tabs w) : Calls Tryd.prog 28 #[] w fun e w' => e = .returned (.bool true) ∧ Below w.heap.size w w' := by
  have HT := Lib.hid ht
  obtain ⟨i9, hi9, hi0, hi1, hi2⟩ := info_parts i_ins
  have HI := Lib.hid (And.intro hi9 (And.intro hi0 (And.intro hi1 hi2)))
  clear hi9 hi0 hi1 hi2 ht
  have hsd0 := Bk.new w 39 #[.int .i64 21, .int .i64 1, .int .i64 2]
  go_enter Tryd.func28, Tryd.ntmps28
  go_wp2_with fail
  refine (Effect_any 21 1 2 _).mono ?_
  rintro e w1 ⟨rfl, hb1⟩
  have hp : popsI 21 1 2 = 3 := by decide +kernel
  have hu : pushesI 21 1 2 = 0 := by decide +kernel
  rw [hp, hu]
  have hsd := hsd0.below hb1 (by simp)
  have hbel1 := below_box hb1
  have hz : w.heap.size < w1.heap.size := by have := hb1.size; simp at this; omega
  have HA : Hid (AW w ((w1.alloc (.cells #[.string ⟨#[102]⟩, .string ⟨#[103, 111]⟩] 9)).alloc (.cells #[.string ⟨#[109]⟩, .int .i64 1, .int .i64 2, .slice none 0 0, .slice (some ⟨w1.heap.size, 0, none⟩) 2 2] 25)) w1.heap.size 0 (aCode 0) (.slice none 0 0)) := Lib.hid
    ⟨(hsd.alloc _).alloc _, (Bk.new _ _ _).alloc _, by have := Bk.new (w1.alloc (.cells #[.string ⟨#[102]⟩, .string ⟨#[103, 111]⟩] 9)) 25 #[.string ⟨#[109]⟩, .int .i64 1, .int .i64 2, .slice none 0 0, .slice (some ⟨w1.heap.size, 0, none⟩) 2 2]; simpa using this, World.ownsRow_nil _ _ _ _, (hbel1.alloc (by omega) _).alloc (by simp; omega) _, hz⟩
  clear hsd0 hsd hbel1 hb1 hp hu
  go_wp2_with fail
  go_loopg [14] (7) (fun q i wr => ∃ k v, i = .int .i64 (k : Nat) ∧ k + q = 7 ∧ AW w wr w1.heap.size k (aCode k) v)
  case atStart => exact ⟨0, _, rfl, rfl, HA.out⟩
  case round =>
    obtain ⟨k, v, rfl, hkq, hA⟩ := hrel
    cases gk with
    | succ q =>
      have hk7 : k < 7 := by omega
      have c3 : wr.cell? ⟨w1.heap.size + 1, 3, none⟩ = some v := hA.m.cell 3
      have HA := Lib.hid hA
      have hzr : w1.heap.size + 1 < wr.heap.size := hA.m.lt
      clear hA
      go_wp2_with (first | (at_builtin; refine wpList_append_own _ rfl (.tmp 17) (.tmp 19) 22 rfl (w1.heap.size + 2) 39 i9 (.agg #[.int .i64 0, .int .i64 0, .int .i64 0]) 3 24 Tryd.underlying22 HI.out.1 HI.out.2.1 HI.out.2.2.1 HI.out.2.2.2 rfl (by decide) _ _ _ rfl (HA.out.own.alloc _) ⟨wr.heap.size, 0, none⟩ 1 1 [.int .i64 1, .int .i64 0, .int .i64 0] rfl rfl (cell_three_new _ _ _ _ _) (by simp [Value.oneCell']) (by unfold maxLen; omega) (by omega) (by simp; omega) ?_; intro v' w4 hown4 hg4 _; rw [aCode_succ] at hown4; have HN := Lib.hid (HA.out.next hown4 hg4); have f3 : w4.frozen? ⟨w1.heap.size + 1, 3, none⟩ = false := (((HA.out.m.alloc _).grown hg4 (own_ne HA.out.own (by omega))).free 3); have c3' : w4.cell? ⟨w1.heap.size + 1, 3, none⟩ = some v := (((HA.out.m.alloc _).grown hg4 (own_ne HA.out.own (by omega))).cell 3); obtain ⟨g, cp, rfl, _, _⟩ := hown4.form (by omega); clear hown4 hg4))
      go_roundg q
      case measure => omega
      case rel => exact ⟨k + 1, _, by go_num, by omega, HN.out⟩
    | zero =>
      obtain rfl : k = 7 := hkq
      have c0 : wr.cell? ⟨w1.heap.size + 1, 0, none⟩ = some (.string ⟨#[109]⟩) := hA.m.cell 0
      have c1 : wr.cell? ⟨w1.heap.size + 1, 1, none⟩ = some (.int .i64 1) := hA.m.cell 1
      have c2 : wr.cell? ⟨w1.heap.size + 1, 2, none⟩ = some (.int .i64 2) := hA.m.cell 2
      have c3 : wr.cell? ⟨w1.heap.size + 1, 3, none⟩ = some v := hA.m.cell 3
      have c4 : wr.cell? ⟨w1.heap.size + 1, 4, none⟩ = some (.slice (some ⟨w1.heap.size, 0, none⟩) 2 2) := hA.m.cell 4
      have s0 : wr.cell? ⟨w.heap.size, 0, none⟩ = some (.int .i64 21) := hA.sd.cell 0
      have s1 : wr.cell? ⟨w.heap.size, 1, none⟩ = some (.int .i64 1) := hA.sd.cell 1
      have s2 : wr.cell? ⟨w.heap.size, 2, none⟩ = some (.int .i64 2) := hA.sd.cell 2
      have HA := Lib.hid hA
      have hzr : w1.heap.size + 1 < wr.heap.size := hA.m.lt
      clear hA
      go_wp2_with (first | (at_builtin; refine wpList_append_own _ rfl (.tmp 24) (.tmp 26) 22 rfl (w1.heap.size + 2) 39 i9 (.agg #[.int .i64 0, .int .i64 0, .int .i64 0]) 3 24 Tryd.underlying22 HI.out.1 HI.out.2.1 HI.out.2.2.1 HI.out.2.2.2 rfl (by decide) _ _ _ rfl (HA.out.own.alloc _) ⟨wr.heap.size, 0, none⟩ 1 1 [.int .i64 21, .int .i64 1, .int .i64 2] rfl rfl (cell_three_new _ _ _ _ _) (by simp [Value.oneCell']) (by unfold maxLen; omega) (by omega) (by simp; omega) ?_; intro v' w4 hown4 hg4 _; rw [aAll_cells] at hown4; have HN := Lib.hid (HA.out.next hown4 hg4); have f3 : w4.frozen? ⟨w1.heap.size + 1, 3, none⟩ = false := (((HA.out.m.alloc _).grown hg4 (own_ne HA.out.own (by omega))).free 3); have c3' : w4.cell? ⟨w1.heap.size + 1, 3, none⟩ = some v := (((HA.out.m.alloc _).grown hg4 (own_ne HA.out.own (by omega))).cell 3); obtain ⟨g, cp, rfl, hge, _⟩ := hown4.form (by omega); obtain ⟨g', cp', hgg, hcp, _, hsl⟩ := own_sls HN.out.own (by omega); cases hgg; have d0 := HN.out.m.cell 0; have d1 := HN.out.m.cell 1; have d2 := HN.out.m.cell 2; have d3 := HN.out.m.cell 3; have d4 := HN.out.m.cell 4; simp only [List.getElem?_toArray, List.getElem?_cons_zero, List.getElem?_cons_succ] at d0 d1 d2 d3 d4; have HSL := Lib.hid hsl; clear hown4 hg4 hsl c0 c1 c2 c3 c4 s0 s1 s2))
      have hlt : g < (w4.setCell ⟨w1.heap.size + 1, 3, none⟩ (.slice (some ⟨g, 0, none⟩) (7 + 1) cp)).heap.size := by
        obtain ⟨_, _, hA', h, _⟩ := HSL.out.get (k := 0) (by omega)
        cases hA'
        exact h
      have hbl := HN.out.bel.size
      have hwf : ∀ x ∈ aAll, (Lit.int .i64 x.1).wf = true ∧ (Lit.int .i64 x.2.1).wf = true ∧ (Lit.int .i64 x.2.2).wf = true := by
        intro x hx
        have hall : (aAll.all fun x => (Lit.int .i64 x.1).wf && (Lit.int .i64 x.2.1).wf && (Lit.int .i64 x.2.2).wf) = true := by decide +kernel
        have := List.all_eq_true.1 hall x hx
        simp only [Bool.and_eq_true] at this
        exact ⟨this.1.1, this.1.2, this.2⟩
      have hsn : Sl (w4.setCell ⟨w1.heap.size + 1, 3, none⟩ (.slice (some ⟨g, 0, none⟩) (7 + 1) cp)) 1 (some ⟨w1.heap.size, 0, none⟩) 2 (strs aNames) := by
        refine ⟨rfl, .inr ⟨_, 0, rfl, HN.out.ns.lt, fun j x hx => ?_⟩⟩
        rw [HN.out.ns.cell]
        simpa [strs, aNames] using hx
      refine (Format_any (nm := ⟨#[109]⟩) (p := 1) (l := 2) aAll aNames rfl (by decide) hcp hwf HSL.out rfl (Nat.le_refl _) hsn (by decide) (by decide) (by decide) (by decide) (by decide) (by decide) (HT.out.below HN.out.bel)).mono ?_
      rintro e w5 ⟨gf, cf, rfl, hcf, hslf, hb5, _⟩
      have hlen9 : (fmtL ⟨#[109]⟩ 1 2 aAll aNames aAll.length).length = 9 := rfl
      rw [hlen9] at hcf hslf ⊢
      obtain ⟨_, of, hAf, hbf, hcellf⟩ := hslf.get (k := 0) (by omega)
      cases hAf
      have e0 : w5.cell? ⟨gf, 0, none⟩ = some (.string ⟨#[109, 101, 116, 104, 111, 100, 32, 109, 32, 49, 32, 50]⟩) := by
        rw [← a_head]
        have := hcellf 0 (.string (headB ⟨#[109]⟩ 1 2)) rfl
        simpa using this
      have e8 : w5.cell? ⟨gf, 8, none⟩ = some (.string ⟨#[55, 32, 115, 101, 110, 100, 32, 103, 111, 32, 50]⟩) := by
        rw [← a_line]
        have := hcellf 8 (.string (lineB aNames 7 (21, 1, 2))) rfl
        simpa using this
      have HB5 := Lib.hid (HN.out.bel.trans (hb5.mono hbl))
      have hsd5 := HN.out.sd.below hb5 HN.out.sd.lt
      have s0 : w5.cell? ⟨w.heap.size, 0, none⟩ = some (.int .i64 21) := hsd5.cell 0
      have s1 : w5.cell? ⟨w.heap.size, 1, none⟩ = some (.int .i64 1) := hsd5.cell 1
      have s2 : w5.cell? ⟨w.heap.size, 2, none⟩ = some (.int .i64 2) := hsd5.cell 2
      have hz5 : w.heap.size < w5.heap.size := hsd5.lt
      have h0c : 0 < cf := by omega
      have h8c : 8 < cf := by omega
      have v1 : validB 16 11 0 = false := by decide +kernel
      have v2 : validB 21 1 2 = true := by decide +kernel
      have HV := Lib.hid (And.intro v1 v2)
      clear hlt hbl hwf hsn hlen9 hslf hcellf hb5 hsd5 v1 v2 hcf d0 d1 d2 d3 d4 hcp
      go_wp2_with fail
      refine (Valid_no HV.out.1 _).mono ?_
      rintro e w6 ⟨rfl, hb6⟩
      have s0' := ((bcell hb6).1 w.heap.size 0 hz5).trans s0
      have s1' := ((bcell hb6).1 w.heap.size 1 hz5).trans s1
      have s2' := ((bcell hb6).1 w.heap.size 2 hz5).trans s2
      have HB6 := Lib.hid (HB5.out.trans (hb6.mono (Nat.le_of_lt hz5)))
      clear hb6 s0 s1 s2 e0 e8
      go_wp2_with fail
      refine (Valid_yes' HV.out.2 _).mono ?_
      rintro e w7 ⟨rfl, hb7⟩
      go_wp2
      go_ret
      exact ⟨rfl, HB6.out.trans (hb7.mono HB6.out.size)⟩
end Go.Proofs.YtdmbcgkfecmakaaDoor
