/- refmeshlaw43.VerifierLimits returns true: the walk. -/
import Derived.Test.YtdmbcgkfecmakaaDoorLimLaw
import Derived.Test.YtdmbcgkfecmakaaDoorAwakeV
import Derived.Test.YtdmbcgkfecmakaaDoorOwn
import Derived.Deep.RegionHeld3
namespace Go.Proofs.YtdmbcgkfecmakaaDoor
set_option linter.unusedVariables false
set_option linter.unusedSimpArgs false
set_option linter.unusedSectionVars false
open Go.RowKit Go.Sort
set_option maxRecDepth 100000

theorem i_inst : (Tryd.prog.info? 39).map (fun i => (i.zero, i.size, i.bytes)) = some (some (.agg #[.int .i64 0, .int .i64 0, .int .i64 0]), 3, 24) := by kernel_rfl
theorem i_strs : (Tryd.prog.info? 9).map (fun i => (i.zero, i.size, i.bytes)) = some (some (.string ⟨#[]⟩), 1, 16) := by kernel_rfl

/-- the state while the code is laid -/
structure LW (w wr : World) (H nm k : Nat) (p l : Int) (c : List Ins) (v : Value) : Prop where
  ns : Sl wr 1 (some ⟨H, 0, none⟩) nm (List.replicate nm (.string ⟨#[]⟩))
  m : Bk wr (H + 1) 25 #[.string ⟨#[109]⟩, .int .i64 p, .int .i64 l, v, .slice (some ⟨H, 0, none⟩) nm nm]
  own : wr.ownsRow (H + 2) 39 3 v k (codeCells c)
  bel : Below w.heap.size w wr
  lt : w.heap.size ≤ H
theorem Sl.grown {w w' : World} {s n : Nat} {g o : Nat} {xs : List Value} {row : Option Nat} (h : Sl w s (some ⟨g, o, none⟩) n xs) (hg : w.grownBy w' row) (hne : some g ≠ row) : Sl w' s (some ⟨g, o, none⟩) n xs := by
  refine ⟨h.1, ?_⟩
  rcases h.2 with h0 | ⟨b, o', e, hb, hc⟩
  · exact .inl h0
  · cases e
    refine .inr ⟨g, o, rfl, Nat.lt_of_lt_of_le hb hg.size, fun j x hx => hg.cell (hc j x hx) hne⟩
theorem LW.next {w wr w4 : World} {H nm k n : Nat} {p l : Int} {c c' : List Ins} {v v' : Value} {o : Obj} (h : LW w wr H nm k p l c v) (h4 : w4.ownsRow (H + 2) 39 3 v' n (codeCells c')) (hg : (wr.alloc o).grownBy w4 v.ownBlock) : LW w (w4.setCell ⟨H + 1, 3, none⟩ v') H nm n p l c' v' := by
  have hne : ∀ g, g < H + 2 → some g ≠ v.ownBlock := fun g hg => ownNe h.own hg
  have hl := h.lt
  have hb := h.bel.size
  have hm := h.m.lt
  refine ⟨?_, ?_, ?_, ?_, h.lt⟩
  · exact ((h.ns.below ((Below.refl _ _).alloc (Nat.le_refl _) o)).grown hg (hne _ (by omega))).grown (grownSet w4 (H + 1) 3 v') (by simp)
  · exact ((h.m.alloc o).grown hg (hne _ (by omega))).set 3 v'
  · refine h4.kept (grownSet w4 (H + 1) 3 v') ?_
    rcases h4.2 with ⟨rfl, _⟩ | ⟨g, _, _, rfl, hge, _⟩
    · exact .inl rfl
    · refine .inr ?_
      simp [Value.ownBlock]
      omega
  · refine ((h.bel.alloc (by omega) o).grown hg (by simp; omega) fun k hk => ?_).setCell (by simp; omega) _
    have := (h.own.lt k hk).1
    omega
theorem lim_snoc (k : Nat) : codeCells (List.replicate k (1, 0, 0)) ++ [Value.int .i64 1, .int .i64 0, .int .i64 0] = codeCells (List.replicate (k + 1) (1, 0, 0)) := by
  simp [codeCells, insCells, List.replicate_succ']
theorem lim_all (k : Nat) : codeCells (List.replicate k (1, 0, 0)) ++ [Value.int .i64 25, .int .i64 0, .int .i64 0] = codeCells (limCode k) := by
  simp [limCode, codeCells, insCells]

theorem lim_code {w W wx : World} {H f nm pu cp g0 gf gm gk p l : Nat} (h : LW w W H nm (pu + 1) p l (limCode pu) (.slice (some ⟨g0, 0, none⟩) (pu + 1) cp)) (hb : Below W.heap.size W wx) (f1 : f ≤ 100) (p1 : p ≤ 100) (l1 : l ≤ 100) (n1 : nm ≤ 1100) (u1 : pu ≤ 100)
    (hF : Bk wx gf 9 (madeCells #[.string ⟨#[]⟩] f)) (hM : Bk wx gm 25 #[.string ⟨#[109]⟩, .int .i64 p, .int .i64 l, .slice (some ⟨g0, 0, none⟩) (pu + 1) cp, .slice (some ⟨H, 0, none⟩) nm nm])
    (hK : Bk wx gk 61 #[.string ⟨#[65]⟩, .bool true, .slice (some ⟨gf, 0, none⟩) f f, .slice (some ⟨gm, 0, none⟩) 1 1]) : CodeR wx [limK f p l nm pu] (some ⟨gk, 0, none⟩) 1 1 := by
  obtain ⟨g, cap, hv, hcap, _, _, hsl⟩ := ownSls h.own (by omega)
  cases hv
  have hsm : ∀ n : Nat, n ≤ 1100 → (Lit.int .i64 (n : Int)).wf = true := fun n hn => WalkArith.wf_i64 (by omega)
  have hz : (⟨#[]⟩ : ByteArray).size = 0 := rfl
  have hlc := limCode_len pu
  have hmok : (limM p l nm pu).ok := by
    refine ⟨hsm p (by omega), hsm l (by omega), ?_, by show (1 : Nat) ≤ _; omega, fun s hs => ?_, by show (limCode pu).length ≤ _; omega, by show (List.replicate nm _).length ≤ _; rw [List.length_replicate]; omega⟩
    · intro x hx
      rcases List.mem_append.1 hx with h | h
      · obtain rfl := (List.mem_replicate.1 h).2
        decide
      · obtain rfl := List.mem_singleton.1 h
        decide
    · obtain rfl := (List.mem_replicate.1 hs).2
      rw [hz]; omega
  have hkok : (limK f p l nm pu).ok := by
    refine ⟨by show (1 : Nat) ≤ _; omega, fun s hs => ?_, by show (List.replicate f _).length ≤ _; rw [List.length_replicate]; omega, by show (1 : Nat) ≤ _; omega⟩
    obtain rfl := (List.mem_replicate.1 hs).2
    rw [hz]; omega
  refine ⟨rfl, Nat.le_refl _, by omega, rfl, .inr ⟨gk, 0, rfl, hK.lt, fun i x hx => ?_⟩⟩
  obtain rfl : i = 0 := by
    have := (List.getElem?_eq_some_iff.1 hx).1
    simp at this
    omega
  cases hx
  refine ⟨?_, ?_, ⟨hkok, some ⟨gf, 0, none⟩, f, some ⟨gm, 0, none⟩, 1, ?_, by show (List.replicate f _).length ≤ _; rw [List.length_replicate]; exact Nat.le_refl _, ?_, Nat.le_refl _, rfl, .inr ⟨gm, 0, rfl, hM.lt, fun i x hx => ?_⟩⟩, fun j v hv => ?_⟩
  · exact [.string ⟨#[65]⟩, .bool true, .slice (some ⟨gf, 0, none⟩) f f, .slice (some ⟨gm, 0, none⟩) 1 1]
  · rfl
  · show _ = [_, _, Value.slice _ (List.replicate f _).length _, _]
    rw [List.length_replicate]
    rfl
  · show Sl wx 1 _ (List.replicate f _).length (txtCells (List.replicate f _))
    rw [List.length_replicate]
    unfold txtCells
    rw [List.map_replicate]
    exact Sl.ofBk hF
  · obtain rfl : i = 0 := by
      have := (List.getElem?_eq_some_iff.1 hx).1
      simp [limK] at this
      omega
    cases hx
    refine ⟨[.string ⟨#[109]⟩, .int .i64 p, .int .i64 l, .slice (some ⟨g0, 0, none⟩) (pu + 1) cp, .slice (some ⟨H, 0, none⟩) nm nm], rfl, ⟨hmok, some ⟨g0, 0, none⟩, cp, some ⟨H, 0, none⟩, nm, ?_, by show (limCode pu).length ≤ _; omega, ?_, by show (List.replicate nm _).length ≤ _; rw [List.length_replicate]; exact Nat.le_refl _, ?_⟩, fun j v hv => ?_⟩
    · show _ = [_, _, _, Value.slice _ (limCode pu).length _, Value.slice _ (List.replicate nm _).length _]
      rw [List.length_replicate, hlc]
      rfl
    · show Sl wx 3 _ (limCode pu).length _
      rw [hlc]
      exact hsl.below hb
    · show Sl wx 1 _ (List.replicate nm _).length (txtCells (List.replicate nm _))
      rw [List.length_replicate]
      unfold txtCells
      rw [List.map_replicate]
      exact h.ns.below hb
    · simp only [Nat.zero_mul, Nat.zero_add, hM.cell]
      simpa using hv
  · simp only [Nat.zero_mul, Nat.zero_add, hK.cell]
    simpa using hv

section
variable {w : World}
set_option maxHeartbeats 8000000 in
theorem LLim_any (f p l nm pu : Nat) (hf : f ≤ 65535) (hp : p ≤ 65535) (hl : l ≤ 65535) (hnm : nm ≤ 65535) (hpu : pu ≤ 65535) :
    Calls Tryd.prog 13 #[.int .u16 (f : Int), .int .u16 (p : Int), .int .u16 (l : Int), .int .u16 (nm : Int), .int .u16 (pu : Int)] w fun e w' => e = .returned (.bool true) ∧ Below w.heap.size w w' := by
  obtain ⟨i9, hi9, hi0, hi1, hi2⟩ := info_parts i_inst
  have HI := Lib.hid (And.intro hi9 (And.intro hi0 (And.intro hi1 hi2)))
  clear hi9 hi0 hi1 hi2
  have hmk := fun w (h : nm ≤ 1100) => run_make_row' (P := Tryd.prog) 23 9 (.string ⟨#[]⟩) 16 Tryd.underlying23 i_strs rfl .u16 .u16 nm (by omega) (by omega) w
  have hmf := fun w (h : f ≤ 100) => run_make_row' (P := Tryd.prog) 23 9 (.string ⟨#[]⟩) 16 Tryd.underlying23 i_strs rfl .u16 .u16 f (by omega) (by omega) w
  have HMK := Lib.hid hmk
  have HMF := Lib.hid hmf
  clear hmk hmf
  go_enter Tryd.func13, Tryd.ntmps13
  go_wp2_with fail
  refine (awakeV _).mono ?_
  rintro e w1 ⟨rfl, hb1⟩
  have HB1 := Lib.hid hb1
  have hz1 := hb1.size
  clear hb1
  by_cases h1 : f ≤ 100 ∧ p ≤ 100 ∧ l ≤ 100 ∧ nm ≤ 1100 ∧ pu ≤ 100
  rotate_left
  · by_cases g1 : 100 < f
    · go_wp2_with fail
      go_ret
      exact ⟨rfl, HB1.out⟩
    by_cases g2 : 100 < p
    · go_wp2_with fail
      go_ret
      exact ⟨rfl, HB1.out⟩
    by_cases g3 : 100 < l
    · go_wp2_with fail
      go_ret
      exact ⟨rfl, HB1.out⟩
    by_cases g4 : 1100 < nm
    · go_wp2_with fail
      go_ret
      exact ⟨rfl, HB1.out⟩
    have g5 : 100 < pu := by omega
    go_wp2_with fail
    go_ret
    exact ⟨rfl, HB1.out⟩
  obtain ⟨f1, p1, l1, n1, u1⟩ := h1
  have hmk := fun w => HMK.out w n1
  go_wp2_with fail
  clear hmk
  have HA : Hid (LW w ((w1.alloc (.cells (madeCells #[.string ⟨#[]⟩] nm) 9)).alloc (.cells #[.string ⟨#[109]⟩, .int .i64 p, .int .i64 l, .slice none 0 0, .slice (some ⟨w1.heap.size, 0, none⟩) nm nm] 25)) w1.heap.size nm 0 p l [] (.slice none 0 0)) := Lib.hid
    ⟨(Sl.made w1 _ nm _).below ((Below.refl _ _).alloc (Nat.le_refl _) _), by have := Bk.new (w1.alloc (.cells (madeCells #[.string ⟨#[]⟩] nm) 9)) 25 #[.string ⟨#[109]⟩, .int .i64 p, .int .i64 l, .slice none 0 0, .slice (some ⟨w1.heap.size, 0, none⟩) nm nm]; simpa using this, World.ownsRow_nil _ _ _ _, (HB1.out.alloc (by omega) _).alloc (by simp; omega) _, hz1⟩
  go_loopg [12] (pu) (fun q i wr => ∃ k v, i = .int .i64 (k : Nat) ∧ k + q = pu ∧ LW w wr w1.heap.size nm k p l (List.replicate k (1, 0, 0)) v)
  case atStart => exact ⟨0, _, rfl, by omega, HA.out⟩
  case round =>
    obtain ⟨k, v, rfl, hkq, hA⟩ := hrel
    have c3 : wr.cell? ⟨w1.heap.size + 1, 3, none⟩ = some v := hA.m.cell 3
    have HA := Lib.hid hA
    have hzr : w1.heap.size + 1 < wr.heap.size := hA.m.lt
    cases gk with
    | succ q =>
      have hkp : k < pu := by omega
      clear hA
      go_wp2_with (first | (at_builtin; refine wpList_append_own _ rfl (.tmp 49) (.tmp 51) 22 rfl (w1.heap.size + 2) 39 i9 (.agg #[.int .i64 0, .int .i64 0, .int .i64 0]) 3 24 Tryd.underlying22 HI.out.1 HI.out.2.1 HI.out.2.2.1 HI.out.2.2.2 rfl (by decide) _ _ _ rfl (HA.out.own.alloc _) ⟨wr.heap.size, 0, none⟩ 1 1 [.int .i64 1, .int .i64 0, .int .i64 0] rfl rfl (cellThree _ _ _ _ _) (by simp [Value.oneCell']) (by unfold maxLen; omega) (by omega) (by simp; omega) ?_; intro v' w4 hown4 hg4 _; rw [lim_snoc] at hown4; have HN := Lib.hid (HA.out.next hown4 hg4); have f3 : w4.frozen? ⟨w1.heap.size + 1, 3, none⟩ = false := (((HA.out.m.alloc _).grown hg4 (ownNe HA.out.own (by omega))).free 3); have c3' : w4.cell? ⟨w1.heap.size + 1, 3, none⟩ = some v := (((HA.out.m.alloc _).grown hg4 (ownNe HA.out.own (by omega))).cell 3); obtain ⟨g, cp, rfl, _, _⟩ := hown4.form (by omega); clear hown4 hg4))
      go_roundg q
      case measure => omega
      case rel => exact ⟨k + 1, _, by go_num, by omega, HN.out⟩
    | zero =>
      obtain rfl : k = pu := hkq
      clear hA
      go_wp2_with (first | (at_builtin; refine wpList_append_own _ rfl (.tmp 55) (.tmp 57) 22 rfl (w1.heap.size + 2) 39 i9 (.agg #[.int .i64 0, .int .i64 0, .int .i64 0]) 3 24 Tryd.underlying22 HI.out.1 HI.out.2.1 HI.out.2.2.1 HI.out.2.2.2 rfl (by decide) _ _ _ rfl (HA.out.own.alloc _) ⟨wr.heap.size, 0, none⟩ 1 1 [.int .i64 25, .int .i64 0, .int .i64 0] rfl rfl (cellThree _ _ _ _ _) (by simp [Value.oneCell']) (by unfold maxLen; omega) (by omega) (by simp; omega) ?_; intro v' w4 hown4 hg4 _; rw [lim_all] at hown4; have HN := Lib.hid (HA.out.next hown4 hg4); have f3 : w4.frozen? ⟨w1.heap.size + 1, 3, none⟩ = false := (((HA.out.m.alloc _).grown hg4 (ownNe HA.out.own (by omega))).free 3); have c3' : w4.cell? ⟨w1.heap.size + 1, 3, none⟩ = some v := (((HA.out.m.alloc _).grown hg4 (ownNe HA.out.own (by omega))).cell 3); obtain ⟨g, cp, rfl, hge, _⟩ := hown4.form (by omega); clear hown4 hg4))
      obtain ⟨W, hW⟩ : ∃ W, W = w4.setCell ⟨w1.heap.size + 1, 3, none⟩ (Value.slice (some ⟨g, 0, none⟩) (k + 1) cp) := ⟨_, rfl⟩
      rw [← hW] at HN ⊢
      have d0 : W.cell? ⟨w1.heap.size + 1, 0, none⟩ = some (.string ⟨#[109]⟩) := HN.out.m.cell 0
      have d1 : W.cell? ⟨w1.heap.size + 1, 1, none⟩ = some (.int .i64 p) := HN.out.m.cell 1
      have d2 : W.cell? ⟨w1.heap.size + 1, 2, none⟩ = some (.int .i64 l) := HN.out.m.cell 2
      have d3 : W.cell? ⟨w1.heap.size + 1, 3, none⟩ = some (.slice (some ⟨g, 0, none⟩) (k + 1) cp) := HN.out.m.cell 3
      have d4 : W.cell? ⟨w1.heap.size + 1, 4, none⟩ = some (.slice (some ⟨w1.heap.size, 0, none⟩) nm nm) := HN.out.m.cell 4
      have n0 := World.new_ne W _ d0
      have n1' := World.new_ne W _ d1
      have n2 := World.new_ne W _ d2
      have n3 := World.new_ne W _ d3
      have n4 := World.new_ne W _ d4
      have hmf := fun w => HMF.out w f1
      have hWs : w1.heap.size + 1 < W.heap.size := HN.out.m.lt
      clear hW c3 c3' f3
      go_cut [13, 61, 63, 65] from 60 (fun s13 s61 s63 s65 wx => ∃ gq gf gm gk : Nat, s13 = .pointer (some ⟨gq, 0, none⟩) ∧ s61 = .slice (some ⟨gf, 0, none⟩) f f ∧ s63 = .slice (some ⟨gm, 0, none⟩) 1 1 ∧ s65 = .slice (some ⟨gk, 0, none⟩) 1 1 ∧ Bk wx gq 55 #[.slice (some ⟨gk, 0, none⟩) 1 1] ∧ Bk wx gf 9 (madeCells #[.string ⟨#[]⟩] f) ∧ Bk wx gm 25 #[.string ⟨#[109]⟩, .int .i64 p, .int .i64 l, .slice (some ⟨g, 0, none⟩) (k + 1) cp, .slice (some ⟨w1.heap.size, 0, none⟩) nm nm] ∧ Bk wx gk 61 #[.string ⟨#[65]⟩, .bool true, .slice (some ⟨gf, 0, none⟩) f f, .slice (some ⟨gm, 0, none⟩) 1 1] ∧ Below W.heap.size W wx)
      case first =>
        go_region_held3 (fun w' => w'.cell? ⟨w1.heap.size + 1, 0, none⟩ = some (.string ⟨#[109]⟩) ∧ w'.cell? ⟨w1.heap.size + 1, 1, none⟩ = some (.int .i64 p) ∧ w'.cell? ⟨w1.heap.size + 1, 2, none⟩ = some (.int .i64 l) ∧ w'.cell? ⟨w1.heap.size + 1, 3, none⟩ = some (.slice (some ⟨g, 0, none⟩) (k + 1) cp) ∧ w'.cell? ⟨w1.heap.size + 1, 4, none⟩ = some (.slice (some ⟨w1.heap.size, 0, none⟩) nm nm)) ((refine ⟨?_, ?_, ?_, ?_, ?_⟩ <;> (repeat (first | assumption | apply cellAlloc | apply cellDrew)))) (fail)
        all_goals go_wp2_with fail
        all_goals go_meet
        all_goals (refine ⟨_, _, _, _, rfl, rfl, rfl, rfl, ?_, ?_, ?_, ?_, ?_⟩)
        all_goals (first | (refine Bk.drewI ?_; (repeat (first | exact Bk.here _ _ _ (by simp) | refine Bk.alloc ?_ _)); done) | (refine Below.drew ?_; (repeat (first | exact Below.refl _ _ | refine Below.alloc ?_ (by first | (simp; done) | (simp; omega)) _)); done))
      case rest =>
        obtain ⟨g', gf, gm, gk, rfl, rfl, rfl, rfl, hbk, hbF, hbM, hbK, hbx⟩ := hcut
        have hCR := lim_code HN.out hbx f1 p1 l1 n1 u1 hbF hbM hbK
        have cc : wc.cell? ⟨g', 0, none⟩ = some (.slice (some ⟨gk, 0, none⟩) 1 1) := hbk.cell 0
        have HCR := Lib.hid hCR
        have HBX := Lib.hid (HN.out.bel.trans (hbx.mono HN.out.bel.size))
        have hLG := lim_large f p l nm k u1
        have hBD := lim_bad f p l nm k
        have HLG := Lib.hid hLG
        have HBD := Lib.hid hBD
        clear hbk hbF hbM hbK hCR hbx hLG hBD d0 d1 d2 d3 d4 n0 n1' n2 n3 n4 hmf
        have cK : Hid (∀ R : Int → Prop, (∀ r, (largeP [limK f p l nm k] ∧ r = 8) ∨ (¬ largeP [limK f p l nm k] ∧ badP [limK f p l nm k] ∧ r = 11) ∨ (¬ largeP [limK f p l nm k] ∧ ¬ badP [limK f p l nm k] ∧ r = 0) → R r) → Calls Tryd.prog 39 #[.agg #[.slice (some ⟨gk, 0, none⟩) 1 1]] wc fun e w' => (∃ r, R r ∧ e = .returned (.int .i64 r)) ∧ Below wc.heap.size wc w') :=
          Lib.hid fun R hR => (Check_any HCR.out).mono fun e w' ⟨⟨r, he, hr⟩, hb⟩ => ⟨⟨r, hR r hr, he⟩, hb⟩
        have c8 : Hid ((30 < f ∨ 8 < p ∨ 30 < l ∨ 1024 < nm) → Calls Tryd.prog 39 #[.agg #[.slice (some ⟨gk, 0, none⟩) 1 1]] wc fun e w' => (∃ r : Int, r = 8 ∧ e = .returned (.int .i64 r)) ∧ Below wc.heap.size wc w') := Lib.hid fun h => cK.out (· = 8) fun r hr => by
          have h' := HLG.out.2 h
          rcases hr with ⟨_, rfl⟩ | ⟨h2, _⟩ | ⟨h2, _⟩
          · rfl
          · exact absurd h' h2
          · exact absurd h' h2
        have c11 : Hid (¬ (30 < f ∨ 8 < p ∨ 30 < l ∨ 1024 < nm) → (l < p ∨ 64 < k) → Calls Tryd.prog 39 #[.agg #[.slice (some ⟨gk, 0, none⟩) 1 1]] wc fun e w' => (∃ r : Int, r = 11 ∧ e = .returned (.int .i64 r)) ∧ Below wc.heap.size wc w') := Lib.hid fun h h3 => cK.out (· = 11) fun r hr => by
          have h' := fun g => h (HLG.out.1 g)
          have h3' := HBD.out.2 h3
          rcases hr with ⟨h2, _⟩ | ⟨_, _, rfl⟩ | ⟨_, h2, _⟩
          · exact absurd h2 h'
          · rfl
          · exact absurd h3' h2
        have c00 : Hid (¬ (30 < f ∨ 8 < p ∨ 30 < l ∨ 1024 < nm) → ¬ (l < p ∨ 64 < k) → Calls Tryd.prog 39 #[.agg #[.slice (some ⟨gk, 0, none⟩) 1 1]] wc fun e w' => (∃ r : Int, r = 0 ∧ e = .returned (.int .i64 r)) ∧ Below wc.heap.size wc w') := Lib.hid fun h h3 => cK.out (· = 0) fun r hr => by
          have h' := fun g => h (HLG.out.1 g)
          have h3' := fun g => h3 (HBD.out.1 g)
          rcases hr with ⟨h2, _⟩ | ⟨_, h2, _⟩ | ⟨_, _, rfl⟩
          · exact absurd h2 h'
          · exact absurd h2 h3'
          · rfl
        by_cases k1 : 30 < f
        · go_wp2_with fail
          refine (c8.out (.inl k1)).mono ?_
          rintro e w5 ⟨⟨r, rfl, rfl⟩, hb5⟩
          go_wp2_with fail
          go_ret
          exact ⟨rfl, HBX.out.trans (hb5.mono HBX.out.size)⟩
        by_cases k2 : 8 < p
        · go_wp2_with fail
          refine (c8.out (.inr (.inl k2))).mono ?_
          rintro e w5 ⟨⟨r, rfl, rfl⟩, hb5⟩
          go_wp2_with fail
          go_ret
          exact ⟨rfl, HBX.out.trans (hb5.mono HBX.out.size)⟩
        by_cases k3 : 30 < l
        · go_wp2_with fail
          refine (c8.out (.inr (.inr (.inl k3)))).mono ?_
          rintro e w5 ⟨⟨r, rfl, rfl⟩, hb5⟩
          go_wp2_with fail
          go_ret
          exact ⟨rfl, HBX.out.trans (hb5.mono HBX.out.size)⟩
        by_cases k4 : 1024 < nm
        · go_wp2_with fail
          refine (c8.out (.inr (.inr (.inr k4)))).mono ?_
          rintro e w5 ⟨⟨r, rfl, rfl⟩, hb5⟩
          go_wp2_with fail
          go_ret
          exact ⟨rfl, HBX.out.trans (hb5.mono HBX.out.size)⟩
        have HNLG : Hid (¬ (30 < f ∨ 8 < p ∨ 30 < l ∨ 1024 < nm)) := Lib.hid (by omega)
        by_cases k5 : l < p
        · go_wp2_with fail
          refine (c11.out HNLG.out (.inl k5)).mono ?_
          rintro e w5 ⟨⟨r, rfl, rfl⟩, hb5⟩
          go_wp2_with fail
          go_ret
          exact ⟨rfl, HBX.out.trans (hb5.mono HBX.out.size)⟩
        by_cases k6 : 64 < k
        · go_wp2_with fail
          refine (c11.out HNLG.out (.inr k6)).mono ?_
          rintro e w5 ⟨⟨r, rfl, rfl⟩, hb5⟩
          go_wp2_with fail
          go_ret
          exact ⟨rfl, HBX.out.trans (hb5.mono HBX.out.size)⟩
        · have HNB : Hid (¬ (l < p ∨ 64 < k)) := Lib.hid (by omega)
          go_wp2_with fail
          refine (c00.out HNLG.out HNB.out).mono ?_
          rintro e w5 ⟨⟨r, rfl, rfl⟩, hb5⟩
          go_wp2_with fail
          go_ret
          exact ⟨rfl, HBX.out.trans (hb5.mono HBX.out.size)⟩
end

section
open Go.ChangeShapes
variable {H : Type} {enc : TypeId × Value → H} {P : Program} {w : World} {base : Nat} {spare : Nat → Bool} {held : Bool}
theorem trodAll_five {t t' t'' t3 t4 : TypeId} {args : Array Value} {ds : List (DataW H)} {ps : List MemPlace} (h : DataW.TrodAll enc P w base spare held [t, t', t'', t3, t4] args.toList ds ps) :
    ∃ v v' v'' v3 v4 d d' d'' d3 d4 p p' p'' p3 p4, args = #[v, v', v'', v3, v4] ∧ ds = [d, d', d'', d3, d4] ∧ ps = p ++ p' ++ p'' ++ p3 ++ p4 ∧ DataW.Trod enc P w base spare held t v d p ∧ DataW.Trod enc P w base spare held t' v' d' p' ∧ DataW.Trod enc P w base spare held t'' v'' d'' p'' ∧ DataW.Trod enc P w base spare held t3 v3 d3 p3 ∧ DataW.Trod enc P w base spare held t4 v4 d4 p4 := by
  obtain ⟨v, vs, d, e1, p, q, hargs, rfl, rfl, hd, hrest⟩ := trodAll_cons h
  obtain ⟨v', vs', d', e2, p', q', rfl, rfl, rfl, hd', hrest'⟩ := trodAll_cons hrest
  obtain ⟨v'', vs'', d'', e3, p'', q'', rfl, rfl, rfl, hd'', hrest''⟩ := trodAll_cons hrest'
  obtain ⟨v3, vs3, d3, ds3, p3, q3, rfl, rfl, rfl, hd3, hrest3⟩ := trodAll_cons hrest''
  obtain ⟨v4, vs4, d4, ds4, p4, q4, rfl, rfl, rfl, hd4, hrest4⟩ := trodAll_cons hrest3
  obtain ⟨rfl, rfl, rfl⟩ := trodAll_nil hrest4
  exact ⟨v, v', v'', v3, v4, d, d', d'', d3, d4, p, p', p'', p3, p4, by cases args; simp_all, rfl, by simp, hd, hd', hd'', hd3, hd4⟩
end
theorem u16_nat {n : Int} (h : (Lit.int .u16 n).wf = true) : ∃ k : Nat, n = k ∧ k ≤ 65535 := by
  simp only [Lit.wf, IntKind.min, IntKind.max, IntKind.signed, IntKind.bits, Bool.and_eq_true, decide_eq_true_eq] at h
  simp at h
  exact ⟨n.toNat, by omega, by omega⟩
end Go.Proofs.YtdmbcgkfecmakaaDoor
