/- refmeshlaw43.VerifierGrows returns true: the walk. -/
import Derived.Test.YtdmbcgkfecmakaaDoorLawChecks
import Derived.Test.YtdmbcgkfecmakaaDoorGrowLaw
import Derived.Test.YtdmbcgkfecmakaaDoorOpenC
import Derived.Deep.RegionHeld3
import Derived.Test.YtdmbcgkfecmakaaDoorMaker
namespace Go.Proofs.YtdmbcgkfecmakaaDoor
set_option linter.unusedVariables false
set_option linter.unusedSimpArgs false
set_option linter.unusedSectionVars false
open Go.RowKit Go.Sort
set_option maxRecDepth 100000

theorem i_cls : (Tryd.prog.info? 61).map (fun i => (i.zero, i.size, i.bytes)) = some (some (.agg #[.string ⟨#[]⟩, .bool false, .slice none 0 0, .slice none 0 0]), 4, 72) := by kernel_rfl

theorem CodeR.of_one {w : World} {g : Nat} {k : Cls} {r : List Value} (h : ClsR w k r) (hb : Bk w g 61 r.toArray) : CodeR w [k] (some ⟨g, 0, none⟩) 1 1 :=
  ⟨rfl, Nat.le_refl _, by omega, (FlR.one h.one.1 h).slR rfl hb.lt fun j v hv => by rw [Nat.zero_add, hb.cell]; simpa using hv⟩

/-- what each value of the statement 'more := ..' is -/
def GR (W : World) (B : Nat) (A : Option Addr) (n c : Nat) (fl xl : List Value) : Nat → Value → World → Prop
  | 0, v, w => ∃ g, v = .slice (some ⟨g, 0, none⟩) 0 0 ∧ W.heap.size ≤ g ∧ Bk w g 61 #[]
  | 1, v, _ => v = .pointer (some ⟨B, 0, none⟩)
  | 2, v, _ => v = .slice A n c
  | 3, v, w => w.ownsRow W.heap.size 61 4 v n fl
  | 4, v, _ => v = .agg xl.toArray
  | 5, v, w => ∃ g, v = .slice (some ⟨g, 0, none⟩) 1 1 ∧ Bk w g 61 xl.toArray
  | 6, v, w => w.ownsRow W.heap.size 61 4 v (n + 1) (fl ++ xl)
  | 7, v, w => ∃ u, v = .agg #[u] ∧ w.ownsRow W.heap.size 61 4 u (n + 1) (fl ++ xl)
  | _, v, w => ∃ g, v = .pointer (some ⟨g, 0, none⟩) ∧ Bk w g 55 #[.slice none 0 0]
def GO : Nat → Value → Option Nat
  | 0, v | 3, v | 5, v | 6, v | 7, v | 8, v => blkOf v
  | _, _ => none
def Gds : Nat → List Nat
  | 2 => [1] | 3 => [0, 2] | 5 => [4] | 6 => [3, 5] | 7 => [6] | _ => []
def Geat : Nat → List Nat
  | 3 => [0] | 6 => [3] | 7 => [6] | _ => []
theorem GR_loc {W : World} {B : Nat} {A : Option Addr} {n c : Nat} {fl xl : List Value} (i : Nat) (v : Value) (w w' : World) (hi : i < 9) (h : GR W B A n c fl xl i v w) (hk : ∀ k, GO i v = some k → w'.heap[k]? = w.heap[k]?) : GR W B A n c fl xl i v w' := by
  rcases (show i = 0 ∨ i = 1 ∨ i = 2 ∨ i = 3 ∨ i = 4 ∨ i = 5 ∨ i = 6 ∨ i = 7 ∨ i = 8 by omega) with rfl | rfl | rfl | rfl | rfl | rfl | rfl | rfl | rfl
  · obtain ⟨g, rfl, h1, h2⟩ := h; exact ⟨g, rfl, h1, (hk g rfl).trans h2⟩
  · exact h
  · exact h
  · exact own_local h fun k h' => hk k ((own_blk h).trans h')
  · exact h
  · obtain ⟨g, rfl, h2⟩ := h; exact ⟨g, rfl, (hk g rfl).trans h2⟩
  · exact own_local h fun k h' => hk k ((own_blk h).trans h')
  · obtain ⟨u, rfl, h1⟩ := h; exact ⟨u, rfl, own_local h1 fun k h' => hk k ((own_blkAgg h1).trans h')⟩
  · obtain ⟨g, rfl, h2⟩ := h; exact ⟨g, rfl, (hk g rfl).trans h2⟩

/-- what each value of the statement 'less := ..' is -/
def HR (W : World) (B : Nat) (A : Option Addr) (m c : Nat) (fl xl : List Value) : Nat → Value → World → Prop
  | 0, v, w => ∃ g, v = .slice (some ⟨g, 0, none⟩) 0 0 ∧ W.heap.size ≤ g ∧ Bk w g 61 #[]
  | 1, v, _ | 3, v, _ => v = .pointer (some ⟨B, 0, none⟩)
  | 2, v, _ | 4, v, _ => v = .slice A (m + 1) c
  | 5, v, _ => v = .int .i64 ((m : Int) + 1)
  | 6, v, _ => v = .int .i64 (m : Int)
  | 7, v, _ => v = .slice A m c
  | 8, v, w => w.ownsRow W.heap.size 61 4 v m fl
  | 9, v, _ => v = .agg xl.toArray
  | 10, v, w => ∃ g, v = .slice (some ⟨g, 0, none⟩) 1 1 ∧ Bk w g 61 xl.toArray
  | 11, v, w => w.ownsRow W.heap.size 61 4 v (m + 1) (fl ++ xl)
  | 12, v, w => ∃ u, v = .agg #[u] ∧ w.ownsRow W.heap.size 61 4 u (m + 1) (fl ++ xl)
  | _, v, w => ∃ g, v = .pointer (some ⟨g, 0, none⟩) ∧ Bk w g 55 #[.slice none 0 0]
def HO : Nat → Value → Option Nat
  | 0, v | 8, v | 10, v | 11, v | 12, v | 13, v => blkOf v
  | _, _ => none
def Hds : Nat → List Nat
  | 2 => [1] | 4 => [3] | 5 => [4] | 6 => [5] | 7 => [2, 6] | 8 => [0, 7] | 10 => [9] | 11 => [8, 10] | 12 => [11] | _ => []
def Heat : Nat → List Nat
  | 8 => [0] | 11 => [8] | 12 => [11] | _ => []
theorem HR_loc {W : World} {B : Nat} {A : Option Addr} {m c : Nat} {fl xl : List Value} (i : Nat) (v : Value) (w w' : World) (hi : i < 14) (h : HR W B A m c fl xl i v w) (hk : ∀ k, HO i v = some k → w'.heap[k]? = w.heap[k]?) : HR W B A m c fl xl i v w' := by
  rcases (show i = 0 ∨ i = 1 ∨ i = 2 ∨ i = 3 ∨ i = 4 ∨ i = 5 ∨ i = 6 ∨ i = 7 ∨ i = 8 ∨ i = 9 ∨ i = 10 ∨ i = 11 ∨ i = 12 ∨ i = 13 by omega) with rfl | rfl | rfl | rfl | rfl | rfl | rfl | rfl | rfl | rfl | rfl | rfl | rfl | rfl
  · obtain ⟨g, rfl, h1, h2⟩ := h; exact ⟨g, rfl, h1, (hk g rfl).trans h2⟩
  · exact h
  · exact h
  · exact h
  · exact h
  · exact h
  · exact h
  · exact h
  · exact own_local h fun k h' => hk k ((own_blk h).trans h')
  · exact h
  · obtain ⟨g, rfl, h2⟩ := h; exact ⟨g, rfl, (hk g rfl).trans h2⟩
  · exact own_local h fun k h' => hk k ((own_blk h).trans h')
  · obtain ⟨u, rfl, h1⟩ := h; exact ⟨u, rfl, own_local h1 fun k h' => hk k ((own_blkAgg h1).trans h')⟩
  · obtain ⟨g, rfl, h2⟩ := h; exact ⟨g, rfl, (hk g rfl).trans h2⟩

section
variable {w : World} {A : Option Addr} {n c : Nat} {cs : List Cls} {x : Cls}
set_option maxHeartbeats 8000000 in
theorem LGrows_any (hC : CodeR w cs A n c) {F : Option Addr} {fc mc : Nat} {M : Option Addr} (hok : x.ok) (hfc : x.fields.length ≤ fc) (hF : Sl w 1 F x.fields.length (txtCells x.fields)) :
    Calls Tryd.prog 12 #[.agg #[.slice A n c], .agg #[.string x.nm, .bool x.actor, .slice F x.fields.length fc, .slice M x.ms.length mc]] w fun e w' => e = .returned (.bool true) ∧ Below w.heap.size w w' := by
  have hB0 : Below w.heap.size w ((w.alloc (.cells #[.slice A n c] 55)).alloc (.cells #[.string x.nm, .bool x.actor, .slice F x.fields.length fc, .slice M x.ms.length mc] 61)) := ((Below.refl _ _).alloc (Nat.le_refl _) _).alloc (by simp) _
  have HCW := Lib.hid hC
  have HFW := Lib.hid hF
  have hn1 := hC.2.2.1
  have hnc := hC.2.1
  have HL := Lib.hid hC.1
  have HOK := Lib.hid hok
  have hfl := hok.lf
  have HQ := Lib.hid ((Bk.new w 55 #[.slice A n c]).alloc (.cells #[.string x.nm, .bool x.actor, .slice F x.fields.length fc, .slice M x.ms.length mc] 61))
  have HK : Hid (Bk ((w.alloc (.cells #[.slice A n c] 55)).alloc (.cells #[.string x.nm, .bool x.actor, .slice F x.fields.length fc, .slice M x.ms.length mc] 61)) (w.heap.size + 1) 61 #[.string x.nm, .bool x.actor, .slice F x.fields.length fc, .slice M x.ms.length mc]) := Lib.hid (Bk.here _ _ _ (by simp))
  have HB0 := Lib.hid hB0
  clear hC hB0 hF hok
  go_enter Tryd.func12, Tryd.ntmps12
  go_wp2_with fail
  refine (awakeV _).mono ?_
  rintro e w1 ⟨rfl, hb1⟩
  have HB1 := Lib.hid (HB0.out.trans (hb1.mono HB0.out.size))
  have HQ1 := Lib.hid (HQ.out.below hb1 HQ.out.lt)
  have HK1 := Lib.hid (HK.out.below hb1 HK.out.lt)
  have k3 : w1.cell? ⟨w.heap.size + 1, 3, none⟩ = some (.slice M x.ms.length mc) := HK1.out.cell 3
  have f3 : w1.frozen? ⟨w.heap.size + 1, 3, none⟩ = false := HK1.out.free 3
  have c0 : w1.cell? ⟨w.heap.size, 0, none⟩ = some (.slice A n c) := HQ1.out.cell 0
  clear hb1
  go_upto_region 4 with fail
  have HB2 := Lib.hid (HB1.out.setCell (p := ⟨w.heap.size + 1, 3, none⟩) (by simp) (.slice none 0 0))
  have HK2 : Hid (Bk (w1.setCell ⟨w.heap.size + 1, 3, none⟩ (.slice none 0 0)) (w.heap.size + 1) 61 #[.string x.nm, .bool x.actor, .slice F x.fields.length fc, .slice none 0 0]) := Lib.hid (HK1.out.set 3 _)
  have HQ2 := Lib.hid (HQ1.out.far (p := ⟨w.heap.size + 1, 3, none⟩) (by simp) (.slice none 0 0))
  obtain ⟨W2, hW2⟩ : ∃ W2, W2 = w1.setCell ⟨w.heap.size + 1, 3, none⟩ (.slice none 0 0) := ⟨_, rfl⟩
  rw [← hW2] at HB2 HK2 HQ2 ⊢
  have c2 : W2.cell? ⟨w.heap.size, 0, none⟩ = some (.slice A n c) := HQ2.out.cell 0
  clear hW2 k3 f3 c0
  go_wp2_with fail
  refine (fewCode_any (HCW.out.below HB2.out)).mono ?_
  rintro e w3 ⟨⟨b, rfl, _⟩, hb3⟩
  have HB3 := Lib.hid (HB2.out.trans (hb3.mono HB2.out.size))
  have HK3 := Lib.hid (HK2.out.below hb3 HK2.out.lt)
  have HQ3 := Lib.hid (HQ2.out.below hb3 HQ2.out.lt)
  clear hb3 c2
  cases b with
  | false =>
    go_wp2_with fail
    go_ret
    exact ⟨rfl, HB3.out⟩
  | true =>
  have d0 : w3.cell? ⟨w.heap.size + 1, 0, none⟩ = some (.string x.nm) := HK3.out.cell 0
  have d1 : w3.cell? ⟨w.heap.size + 1, 1, none⟩ = some (.bool x.actor) := HK3.out.cell 1
  have d2 : w3.cell? ⟨w.heap.size + 1, 2, none⟩ = some (.slice F x.fields.length fc) := HK3.out.cell 2
  have d3 : w3.cell? ⟨w.heap.size + 1, 3, none⟩ = some (.slice none 0 0) := HK3.out.cell 3
  go_wp2_with fail
  -- the class without methods
  obtain ⟨x0, hx0⟩ : ∃ x0 : Cls, x0 = { x with ms := [] } := ⟨_, rfl⟩
  have hx0n : x0.nm = x.nm := by rw [hx0]
  have hx0a : x0.actor = x.actor := by rw [hx0]
  have hx0f : x0.fields = x.fields := by rw [hx0]
  have hx0m : x0.ms = [] := by rw [hx0]
  have HX0 : Hid (∀ w', Below w.heap.size w w' → ClsR w' x0 [.string x.nm, .bool x.actor, .slice F x.fields.length fc, .slice none 0 0]) := Lib.hid fun w' hb => by
    have ok := HOK.out
    refine ⟨⟨by rw [hx0n]; exact ok.nm, by rw [hx0f]; exact ok.fields, by rw [hx0f]; exact ok.lf, by rw [hx0m]; exact Nat.zero_le _⟩, F, fc, none, 0, ?_, by rw [hx0f]; exact hfc, by rw [hx0f]; exact HFW.out.below hb, by rw [hx0m]; exact Nat.le_refl _, by rw [hx0m]; exact SlR.nil _ _ _ _⟩
    rw [hx0n, hx0a, hx0f, hx0m]
    rfl
  have HX0M := Lib.hid hx0m
  have HX0F := Lib.hid hx0f
  clear hx0 hx0n hx0a hx0f hx0m
  have HB4 := Lib.hid (HB3.out.alloc HB3.out.size (.cells #[.string x.nm, .bool x.actor, .slice F x.fields.length fc, .slice none 0 0] 61))
  have HK4 := Lib.hid (HK3.out.alloc (.cells #[.string x.nm, .bool x.actor, .slice F x.fields.length fc, .slice none 0 0] 61))
  have HQ4 := Lib.hid (HQ3.out.alloc (.cells #[.string x.nm, .bool x.actor, .slice F x.fields.length fc, .slice none 0 0] 61))
  refine (fewCode_any (CodeR.of_one (HX0.out _ HB4.out) (Bk.new w3 _ _))).mono ?_
  rintro e w5 ⟨⟨b, rfl, _⟩, hb5⟩
  have HB5 := Lib.hid (HB4.out.trans (hb5.mono HB4.out.size))
  have HK5 := Lib.hid (HK4.out.below hb5 HK4.out.lt)
  have HQ5 := Lib.hid (HQ4.out.below hb5 HQ4.out.lt)
  clear hb5 d0 d1 d2 d3
  cases b with
  | false =>
    go_wp2_with fail
    go_ret
    exact ⟨rfl, HB5.out⟩
  | true =>
  have d2 : w5.cell? ⟨w.heap.size + 1, 2, none⟩ = some (.slice F x.fields.length fc) := HK5.out.cell 2
  have c5 : w5.cell? ⟨w.heap.size, 0, none⟩ = some (.slice A n c) := HQ5.out.cell 0
  by_cases hf30 : 30 < x.fields.length
  · go_wp2_with fail
    go_ret
    exact ⟨rfl, HB5.out⟩
  by_cases hn60 : 60 ≤ n
  · go_wp2_with fail
    go_ret
    exact ⟨rfl, HB5.out⟩
  have hn60 : n < 60 := by omega
  go_wp2_with fail
  refine (Check_any (HCW.out.below HB5.out)).mono ?_
  rintro e w6 ⟨⟨r, rfl, hr⟩, hb6⟩
  have HB6 := Lib.hid (HB5.out.trans (hb6.mono HB5.out.size))
  have HK6 := Lib.hid (HK5.out.below hb6 HK5.out.lt)
  have HQ6 := Lib.hid (HQ5.out.below hb6 HQ5.out.lt)
  clear hb6 d2 c5
  rcases hr with ⟨_, rfl⟩ | ⟨_, _, rfl⟩ | ⟨hnl, hnb, rfl⟩
  · go_wp2_with fail
    go_ret
    exact ⟨rfl, HB6.out⟩
  · go_wp2_with fail
    go_ret
    exact ⟨rfl, HB6.out⟩
  have HNL := Lib.hid hnl
  have HNB := Lib.hid hnb
  clear hnl hnb
  go_upto_region 8 with fail
  obtain ⟨W, rfl⟩ : ∃ W, W = w6 := ⟨_, rfl⟩
  obtain ⟨fl, hfl, hflc⟩ := HCW.out.2.2.2.flat (by omega)
  have HFL := Lib.hid hfl
  have hflL : fl.length = n * 4 := by rw [hfl.1, HL.out]
  have HON := Lib.hid hfl.ones
  have HSF : Hid (Sl w 4 A n fl) := Lib.hid ⟨hflL, hflc⟩
  have c0 : W.cell? ⟨w.heap.size, 0, none⟩ = some (.slice A n c) := HQ6.out.cell 0
  have d0 : W.cell? ⟨w.heap.size + 1, 0, none⟩ = some (.string x.nm) := HK6.out.cell 0
  have d1 : W.cell? ⟨w.heap.size + 1, 1, none⟩ = some (.bool x.actor) := HK6.out.cell 1
  have d2 : W.cell? ⟨w.heap.size + 1, 2, none⟩ = some (.slice F x.fields.length fc) := HK6.out.cell 2
  have d3 : W.cell? ⟨w.heap.size + 1, 3, none⟩ = some (.slice none 0 0) := HK6.out.cell 3
  obtain ⟨i9, hi9, hi0, hi1, hi2⟩ := info_parts i_cls
  have HI := Lib.hid (And.intro hi9 (And.intro hi0 (And.intro hi1 hi2)))
  have hBW : w.heap.size + 1 < W.heap.size := HK6.out.lt
  have HFLL := Lib.hid hflL
  clear hi9 hi0 hi1 hi2 hfl hflc hflL
  go_cut [5] from 36 (fun s5 wx => ∃ (gq : Nat) (u : Value), s5 = .pointer (some ⟨gq, 0, none⟩) ∧ Bk wx gq 55 #[u] ∧ wx.ownsRow W.heap.size 61 4 u (n + 1) (fl ++ [.string x.nm, .bool x.actor, .slice F x.fields.length fc, .slice none 0 0]) ∧ Below W.heap.size W wx)
  case first =>
    refine wp_region_sep 9 Gds Geat (GR W w.heap.size A n c fl [.string x.nm, .bool x.actor, .slice F x.fields.length fc, .slice none 0 0]) GO (by kernel_rfl) (by kernel_rfl) (by rfl) (fun i v w1 w2 hi h _ _ _ hk => GR_loc i v w1 w2 hi h hk) ?_ ?_
    · intro i hi o ho vs w1 hg
      have hWs := hg.1.size
      have b0 : w1.cell? ⟨w.heap.size, 0, none⟩ = some (.slice A n c) := ((bcell hg.1).1 _ _ (by omega)).trans c0
      have b1 : w1.cell? ⟨w.heap.size + 1, 0, none⟩ = some (.string x.nm) := ((bcell hg.1).1 _ _ (by omega)).trans d0
      have b2 : w1.cell? ⟨w.heap.size + 1, 1, none⟩ = some (.bool x.actor) := ((bcell hg.1).1 _ _ (by omega)).trans d1
      have b3 : w1.cell? ⟨w.heap.size + 1, 2, none⟩ = some (.slice F x.fields.length fc) := ((bcell hg.1).1 _ _ (by omega)).trans d2
      have b4 : w1.cell? ⟨w.heap.size + 1, 3, none⟩ = some (.slice none 0 0) := ((bcell hg.1).1 _ _ (by omega)).trans d3
      have HG := Lib.hid hg
      have hgr := hg.2.1
      clear hg c0 d0 d1 d2 d3
      rcases (show i = 0 ∨ i = 1 ∨ i = 2 ∨ i = 3 ∨ i = 4 ∨ i = 5 ∨ i = 6 ∨ i = 7 ∨ i = 8 by omega) with rfl | rfl | rfl | rfl | rfl | rfl | rfl | rfl | rfl <;> cases ho
      · clear hgr
        go_simp
        exact lays_alloc ⟨_, rfl, hWs, Bk.new _ _ _⟩ rfl hWs
      · clear hgr
        go_simp
        exact lays_pure rfl rfl
      · have h1 : vs 1 = _ := (hgr 1 (List.mem_singleton.2 rfl)).1
        clear hgr
        change Made _ _ (Sem.run _ (execOp (Act.eval (Act.put (frm _ _ _ []) (some 37) (vs 1))) _) _)
        simp only [frm, h1]
        go_simp
        exact lays_pure rfl rfl
      · obtain ⟨g, hv, hgW, hbk⟩ := (hgr 0 (List.mem_cons_self ..)).1
        have h2 : vs 2 = _ := (hgr 2 (by simp [Gds])).1
        clear hgr
        change Made _ _ (Sem.run _ (execOp (Act.eval (Act.put (Act.put (frm _ _ _ []) (some 38) (vs 2)) (some 36) (vs 0))) _) _)
        simp only [frm, hv, h2]
        refine made_append (.tmp 36) (.tmp 38) 53 rfl Tryd.underlying53 HI.out.1 HI.out.2.1 HI.out.2.2.1 HI.out.2.2.2 rfl (by decide) (v := .slice (some ⟨g, 0, none⟩) 0 0) (n := 0) (xs := []) rfl (ownEmpty 4 hbk hgW) (A := A) (m := n) (c := c) (news := fl) rfl (HSF.out.below (HB6.out.trans (HG.out.1.mono HB6.out.size))) HON.out (by unfold maxLen; omega) (by omega) hWs fun v' w' ho hgr h4 => ?_
        simp only [Nat.zero_add, List.nil_append] at ho
        exact lays_append HG.out (j := 0) (List.mem_singleton.2 rfl) (List.mem_cons_self ..) (ownEmpty 4 hbk hgW) (by rw [hv]; rfl) hgr ho h4 ho rfl
      · clear hgr
        change Made _ _ (Sem.run _ (execOp (Act.eval (frm _ _ _ [])) _) _)
        simp only [frm]
        go_simp
        exact lays_pure rfl rfl
      · have h4 : vs 4 = .agg #[.string x.nm, .bool x.actor, .slice F x.fields.length fc, .slice none 0 0] := (hgr 4 (List.mem_singleton.2 rfl)).1
        clear hgr
        change Made _ _ (Sem.run _ (execOp (Act.eval (Act.put (frm _ _ _ []) (some 40) (vs 4))) _) _)
        simp only [frm, h4]
        go_simp
        exact lays_alloc ⟨_, rfl, Bk.new _ _ _⟩ rfl hWs
      · have hown : w1.ownsRow W.heap.size 61 4 (vs 3) n fl := (hgr 3 (List.mem_cons_self ..)).1
        obtain ⟨g5, hv5, hbk5⟩ := (hgr 5 (by simp [Gds])).1
        clear hgr
        change Made _ _ (Sem.run _ (execOp (Act.eval (Act.put (Act.put (frm _ _ _ []) (some 41) (vs 5)) (some 39) (vs 3))) _) _)
        simp only [frm, hv5]
        refine made_append (.tmp 39) (.tmp 41) 53 rfl Tryd.underlying53 HI.out.1 HI.out.2.1 HI.out.2.2.1 HI.out.2.2.2 rfl (by decide) (v := vs 3) (n := n) (xs := fl) rfl hown (A := some ⟨g5, 0, none⟩) (m := 1) (c := 1) (news := [.string x.nm, .bool x.actor, .slice F x.fields.length fc, .slice none 0 0]) rfl ⟨rfl, .inr ⟨g5, 0, rfl, hbk5.lt, fun j v hj => by rw [Nat.zero_add, hbk5.cell]; simpa using hj⟩⟩ (by simp [Value.oneCell']) (by unfold maxLen; omega) (by omega) hWs fun v' w' ho hgr h4 => ?_
        exact lays_append HG.out (j := 3) (List.mem_singleton.2 rfl) (List.mem_cons_self ..) hown rfl hgr ho h4 ho rfl
      · have hown : w1.ownsRow W.heap.size 61 4 (vs 6) (n + 1) _ := (hgr 6 (List.mem_singleton.2 rfl)).1
        obtain ⟨A6, c6, hv, _⟩ := own_shape hown
        clear hgr
        change Made _ _ (Sem.run _ (execOp (Act.eval (Act.put (frm _ _ _ []) (some 42) (vs 6))) _) _)
        simp only [frm, hv]
        rw [hv] at hown
        go_simp
        exact lays_take HG.out (j := 6) (List.mem_singleton.2 rfl) (List.mem_singleton.2 rfl) ⟨_, rfl, hown⟩ (by rw [hv]; exact (own_blkAgg hown).trans (own_blk hown).symm)
      · clear hgr
        go_simp
        exact lays_alloc ⟨_, rfl, Bk.new _ _ _⟩ rfl hWs
    · intro vs w1 hb hall hap
      obtain ⟨h7, q7⟩ := hall 7 (by omega) (by decide)
      obtain ⟨h8, q8⟩ := hall 8 (by omega) (by decide)
      have hne := hap 7 (by omega) (by decide) 8 (by omega) (by decide) (by decide)
      obtain ⟨u, hv7, hown⟩ := h7
      obtain ⟨gq, hv8, hbq⟩ := h8
      have hW1 := hb.size
      obtain ⟨g, cap, rfl, _, _⟩ := hown.form (by omega)
      have hgg : g ≠ gq := fun e => hne g (by rw [hv7]; rfl) (by rw [hv8, e]; rfl)
      have hgW : W.heap.size ≤ gq := (q8 gq (by rw [hv8]; rfl)).1
      clear hall hap hne q7 q8
      change wpList _ _ _ [_] (Act.put (Act.put (Act.put (Act.put (Act.put (Act.put (Act.put (Act.put (Act.put (frm _ _ _ []) (some 5) (vs 8)) (some 43) (vs 7)) (some 42) (vs 6)) (some 41) (vs 5)) (some 40) (vs 4)) (some 39) (vs 3)) (some 38) (vs 2)) (some 37) (vs 1)) (some 36) (vs 0)) _
      simp only [frm, hv7, hv8]
      have k0 : w1.cell? ⟨gq, 0, none⟩ = some (.slice none 0 0) := hbq.cell 0
      have k1 : w1.frozen? ⟨gq, 0, none⟩ = false := hbq.free 0
      have HBQ := Lib.hid hbq
      have HOW := Lib.hid hown
      have HB := Lib.hid hb
      clear hbq hown hb c0 d0 d1 d2 d3
      go_wp2_with fail
      go_meet
      exact ⟨gq, _, rfl, HBQ.out.setOne _, ownSet HOW.out _ hgg, HB.out.setCell hgW _⟩
  case rest =>
    obtain ⟨gq, u, rfl, hbq, hown, hbx⟩ := hcut
    obtain ⟨g, cap, rfl, _, _⟩ := hown.form (by omega)
    have HB7 := Lib.hid (HB6.out.trans (hbx.mono HB6.out.size))
    have HK7 := Lib.hid (HK6.out.below hbx HK6.out.lt)
    have HQ7 := Lib.hid (HQ6.out.below hbx HQ6.out.lt)
    have hcr : CodeR wc (cs ++ [x0]) (some ⟨g, 0, none⟩) (n + 1) cap := by
      obtain ⟨g', cap', hv, hcap, _, hlt, hsl⟩ := ownSls hown (by omega)
      cases hv
      have hf := (HFL.out.keep (ClsR.keep HB7.out.size (keep_below HB7.out))).append (FlR.one rfl (HX0.out _ HB7.out))
      refine ⟨by rw [List.length_append, HL.out]; rfl, hcap, by omega, hf.slR (by rw [List.length_append, HL.out]; rfl) hlt fun j v hv => ?_⟩
      obtain ⟨b, o, hA, _, hc⟩ := hsl.get (k := 0) (by omega)
      cases hA
      exact hc j v hv
    have HCR := Lib.hid hcr
    have hlen : cs.length < 60 := by rw [HL.out]; exact hn60
    have hx30 : x0.fields.length ≤ 30 := by rw [HX0F.out]; omega
    have HML := Lib.hid (more_large HNL.out hlen hx30 HX0M.out)
    have HMB := Lib.hid (more_bad HNB.out HX0M.out)
    have q0 : wc.cell? ⟨gq, 0, none⟩ = some (.slice (some ⟨g, 0, none⟩) (n + 1) cap) := hbq.cell 0
    clear hbq hown hbx hcr hlen hx30 c0 d0 d1 d2 d3
    go_wp2_with fail
    refine (Check_any HCR.out).mono ?_
    rintro e w8 ⟨⟨r, rfl, hr⟩, hb8⟩
    have HB8 := Lib.hid (HB7.out.trans (hb8.mono HB7.out.size))
    have HQ8 := Lib.hid (HQ7.out.below hb8 HQ7.out.lt)
    obtain rfl : r = 0 := by
      rcases hr with ⟨h, _⟩ | ⟨_, h, _⟩ | ⟨_, _, h⟩
      · exact absurd h HML.out
      · exact absurd h HMB.out
      · exact h
    have c8 : w8.cell? ⟨w.heap.size, 0, none⟩ = some (.slice A n c) := HQ8.out.cell 0
    clear hr hb8 q0
    by_cases hn0 : n = 0
    · rw [hn0] at c8
      go_wp2_with fail
      go_ret
      exact ⟨rfl, HB8.out⟩
    have hnp : 0 < n := by omega
    have hnz : ((n : Int) == 0) = false := by rw [beq_eq_false_iff_ne]; omega
    obtain ⟨m, hm⟩ : ∃ m, n = m + 1 := ⟨n - 1, by omega⟩
    obtain ⟨cb, co, k, r, hA, hcb, hk, hrl, hKR, hcells⟩ := HCW.out.2.2.2.get (k := m) (by omega)
    have hKR' := hKR
    obtain ⟨hok, F', fc', M', mc', hr, hfc', _, hmc', _⟩ := hKR
    subst hr
    have hHK := Lib.hid hk
    have hlm := hok.lm
    have HKR := Lib.hid hKR'
    have HCEL : Hid (∀ w', Below w.heap.size w w' → ∀ j v, [Value.string k.nm, .bool k.actor, .slice F' k.fields.length fc', .slice M' k.ms.length mc'][j]? = some v → w'.cell? ⟨cb, co + m * 4 + j, none⟩ = some v) := Lib.hid fun w' hb j v hv => ((bcell hb).1 _ _ hcb).trans (hcells j v hv)
    have e0 : w8.cell? ⟨cb, co + m * 4, none⟩ = some (.string k.nm) := HCEL.out w8 HB8.out 0 _ rfl
    have e1 : w8.cell? ⟨cb, co + m * 4 + 1, none⟩ = some (.bool k.actor) := HCEL.out w8 HB8.out 1 _ rfl
    have e2 : w8.cell? ⟨cb, co + m * 4 + 2, none⟩ = some (.slice F' k.fields.length fc') := HCEL.out w8 HB8.out 2 _ rfl
    have e3 : w8.cell? ⟨cb, co + m * 4 + 3, none⟩ = some (.slice M' k.ms.length mc') := HCEL.out w8 HB8.out 3 _ rfl
    clear hok hKR' hk hcells hrl
    subst hA
    subst hm
    have hmcc : m < c := by omega
    by_cases hl0 : k.ms.length = 0
    · rw [hl0] at e3
      go_wp2_with fail
      go_ret
      exact ⟨rfl, HB8.out.alloc HB8.out.size _⟩
    have hlp : 0 < k.ms.length := by omega
    have hlz : ((k.ms.length : Int) == 0) = false := by rw [beq_eq_false_iff_ne]; omega
    obtain ⟨q, hq⟩ : ∃ q, k.ms.length = q + 1 := ⟨k.ms.length - 1, by omega⟩
    have HQQ := Lib.hid hq
    have hqb : q + 1 ≤ 140737488351232 := by omega
    have hqm : q + 1 ≤ mc' := by omega
    rw [hq] at e3
    clear hl0 hlp hlz hlm hmc'
    go_upto_region 17 with fail
    have hbr : Below w8.heap.size w8 (w8.alloc (.cells #[.string k.nm, .bool k.actor, .slice F' k.fields.length fc', .slice M' q mc'] 61)) := (Below.refl _ _).alloc (Nat.le_refl _) _
    have HB9 := Lib.hid (HB8.out.trans (hbr.mono HB8.out.size))
    have HQ9 := Lib.hid (HQ8.out.below hbr HQ8.out.lt)
    have HL9 := Lib.hid (Bk.new w8 61 #[.string k.nm, .bool k.actor, .slice F' k.fields.length fc', .slice M' q mc'])
    obtain ⟨W9, hW9⟩ : ∃ W9, W9 = w8.alloc (.cells #[.string k.nm, .bool k.actor, .slice F' k.fields.length fc', .slice M' q mc'] 61) := ⟨_, rfl⟩
    rw [← hW9] at HB9 HQ9 HL9 ⊢
    have hz8 := HL9.out.lt
    have hz0 := HQ9.out.lt
    clear hW9 hbr e0 e1 e2 e3 c8
    have c0 : W9.cell? ⟨w.heap.size, 0, none⟩ = some (.slice (some ⟨cb, co, none⟩) (m + 1) c) := HQ9.out.cell 0
    have d0 : W9.cell? ⟨w8.heap.size, 0, none⟩ = some (.string k.nm) := HL9.out.cell 0
    have d1 : W9.cell? ⟨w8.heap.size, 1, none⟩ = some (.bool k.actor) := HL9.out.cell 1
    have d2 : W9.cell? ⟨w8.heap.size, 2, none⟩ = some (.slice F' k.fields.length fc') := HL9.out.cell 2
    have d3 : W9.cell? ⟨w8.heap.size, 3, none⟩ = some (.slice M' q mc') := HL9.out.cell 3
    have HFT := Lib.hid (HFL.out.take m)
    have HLM : Hid ((cs.take m).length = m) := Lib.hid (by rw [List.length_take, HL.out]; omega)
    have HST : Hid (Sl w 4 (some ⟨cb, co, none⟩) m (fl.take (m * 4))) := Lib.hid (by
      refine ⟨by rw [HFT.out.1, HLM.out], .inr ?_⟩
      obtain ⟨b, o, hA, hb, hc⟩ := HSF.out.get (k := 0) (by omega)
      exact ⟨b, o, hA, hb, fun j v hj => hc j v (by
        have hlt := (List.getElem?_eq_some_iff.1 hj).1
        rw [List.length_take] at hlt
        rwa [List.getElem?_take_of_lt (by omega)] at hj)⟩)
    have HON' : Hid (∀ u ∈ fl.take (m * 4), u.oneCell' = true) := Lib.hid fun u hu => HON.out u (List.mem_of_mem_take hu)
    have i1 : (0 : Int) ≤ (m : Int) := by omega
    have i2 : (m : Int) ≤ (c : Int) := by omega
    have i3 : (m : Int) + 1 ≤ (c : Int) := by omega
    have hw1 : IntKind.i64.wrap (m : Int) = (m : Int) := IntWalk.i64_in _ (by omega)
    go_cut [7] from 71 (fun s7 wx => ∃ (gq : Nat) (u : Value), s7 = .pointer (some ⟨gq, 0, none⟩) ∧ Bk wx gq 55 #[u] ∧ wx.ownsRow W9.heap.size 61 4 u (m + 1) (fl.take (m * 4) ++ [.string k.nm, .bool k.actor, .slice F' k.fields.length fc', .slice M' q mc']) ∧ Below W9.heap.size W9 wx)
    case first =>
      refine wp_region_sep 14 Hds Heat (HR W9 w.heap.size (some ⟨cb, co, none⟩) m c (fl.take (m * 4)) [.string k.nm, .bool k.actor, .slice F' k.fields.length fc', .slice M' q mc']) HO (by kernel_rfl) (by kernel_rfl) (by rfl) (fun i v w1 w2 hi h _ _ _ hk => HR_loc i v w1 w2 hi h hk) ?_ ?_
      · intro i hi o ho vs w1 hg
        have hWs := hg.1.size
        have b0 : w1.cell? ⟨w.heap.size, 0, none⟩ = some (.slice (some ⟨cb, co, none⟩) (m + 1) c) := ((bcell hg.1).1 _ _ (by omega)).trans c0
        have b1 : w1.cell? ⟨w8.heap.size, 0, none⟩ = some (.string k.nm) := ((bcell hg.1).1 _ _ (by omega)).trans d0
        have b2 : w1.cell? ⟨w8.heap.size, 1, none⟩ = some (.bool k.actor) := ((bcell hg.1).1 _ _ (by omega)).trans d1
        have b3 : w1.cell? ⟨w8.heap.size, 2, none⟩ = some (.slice F' k.fields.length fc') := ((bcell hg.1).1 _ _ (by omega)).trans d2
        have b4 : w1.cell? ⟨w8.heap.size, 3, none⟩ = some (.slice M' q mc') := ((bcell hg.1).1 _ _ (by omega)).trans d3
        have HG := Lib.hid hg
        have hgr := hg.2.1
        clear hg c0 d0 d1 d2 d3
        rcases (show i = 0 ∨ i = 1 ∨ i = 2 ∨ i = 3 ∨ i = 4 ∨ i = 5 ∨ i = 6 ∨ i = 7 ∨ i = 8 ∨ i = 9 ∨ i = 10 ∨ i = 11 ∨ i = 12 ∨ i = 13 by omega) with rfl | rfl | rfl | rfl | rfl | rfl | rfl | rfl | rfl | rfl | rfl | rfl | rfl | rfl <;> cases ho
        · clear hgr
          go_simp
          exact lays_alloc ⟨_, rfl, hWs, Bk.new _ _ _⟩ rfl hWs
        · clear hgr
          go_simp
          exact lays_pure rfl rfl
        · have h1 : vs 1 = .pointer (some ⟨w.heap.size, 0, none⟩) := (hgr 1 (List.mem_singleton.2 rfl)).1
          clear hgr
          change Made _ _ (Sem.run _ (execOp (Act.eval (Act.put (frm _ _ _ []) (some 72) (vs 1))) _) _)
          simp only [frm, h1]
          go_simp
          exact lays_pure rfl rfl
        · clear hgr
          go_simp
          exact lays_pure rfl rfl
        · have h1 : vs 3 = .pointer (some ⟨w.heap.size, 0, none⟩) := (hgr 3 (List.mem_singleton.2 rfl)).1
          clear hgr
          change Made _ _ (Sem.run _ (execOp (Act.eval (Act.put (frm _ _ _ []) (some 74) (vs 3))) _) _)
          simp only [frm, h1]
          go_simp
          exact lays_pure rfl rfl
        · have h1 : vs 4 = .slice (some ⟨cb, co, none⟩) (m + 1) c := (hgr 4 (List.mem_singleton.2 rfl)).1
          clear hgr
          change Made _ _ (Sem.run _ (execOp (Act.eval (Act.put (frm _ _ _ []) (some 75) (vs 4))) _) _)
          simp only [frm, h1]
          go_simp
          exact lays_pure rfl rfl
        · have h1 : vs 5 = .int .i64 ((m : Int) + 1) := (hgr 5 (List.mem_singleton.2 rfl)).1
          clear hgr
          change Made _ _ (Sem.run _ (execOp (Act.eval (Act.put (frm _ _ _ []) (some 76) (vs 5))) _) _)
          simp only [frm, h1]
          go_simp
          exact lays_pure rfl rfl
        · have h2 : vs 2 = .slice (some ⟨cb, co, none⟩) (m + 1) c := (hgr 2 (List.mem_cons_self ..)).1
          have h6 : vs 6 = .int .i64 (m : Int) := (hgr 6 (by simp [Hds])).1
          clear hgr
          change Made _ _ (Sem.run _ (execOp (Act.eval (Act.put (Act.put (frm _ _ _ []) (some 77) (vs 6)) (some 73) (vs 2))) _) _)
          simp only [frm, h2, h6]
          go_simp
          exact lays_pure rfl rfl
        · obtain ⟨g, hv, hgW, hbk⟩ := (hgr 0 (List.mem_cons_self ..)).1
          have h2 : vs 7 = .slice (some ⟨cb, co, none⟩) m c := (hgr 7 (by simp [Hds])).1
          clear hgr
          change Made _ _ (Sem.run _ (execOp (Act.eval (Act.put (Act.put (frm _ _ _ []) (some 78) (vs 7)) (some 71) (vs 0))) _) _)
          simp only [frm, hv, h2]
          refine made_append (.tmp 71) (.tmp 78) 53 rfl Tryd.underlying53 HI.out.1 HI.out.2.1 HI.out.2.2.1 HI.out.2.2.2 rfl (by decide) (v := .slice (some ⟨g, 0, none⟩) 0 0) (n := 0) (xs := []) rfl (ownEmpty 4 hbk hgW) (A := some ⟨cb, co, none⟩) (m := m) (c := c) (news := fl.take (m * 4)) rfl (HST.out.below (HB9.out.trans (HG.out.1.mono HB9.out.size))) HON'.out (by unfold maxLen; omega) (by omega) hWs fun v' w' ho hgr h4 => ?_
          simp only [Nat.zero_add, List.nil_append] at ho
          exact lays_append HG.out (j := 0) (List.mem_singleton.2 rfl) (List.mem_cons_self ..) (ownEmpty 4 hbk hgW) (by rw [hv]; rfl) hgr ho h4 ho rfl
        · clear hgr
          change Made _ _ (Sem.run _ (execOp (Act.eval (frm _ _ _ [])) _) _)
          simp only [frm]
          go_simp
          exact lays_pure rfl rfl
        · have h4 : vs 9 = .agg #[.string k.nm, .bool k.actor, .slice F' k.fields.length fc', .slice M' q mc'] := (hgr 9 (List.mem_singleton.2 rfl)).1
          clear hgr
          change Made _ _ (Sem.run _ (execOp (Act.eval (Act.put (frm _ _ _ []) (some 80) (vs 9))) _) _)
          simp only [frm, h4]
          go_simp
          exact lays_alloc ⟨_, rfl, Bk.new _ _ _⟩ rfl hWs
        · have hown : w1.ownsRow W9.heap.size 61 4 (vs 8) m (fl.take (m * 4)) := (hgr 8 (List.mem_cons_self ..)).1
          obtain ⟨g5, hv5, hbk5⟩ := (hgr 10 (by simp [Hds])).1
          clear hgr
          change Made _ _ (Sem.run _ (execOp (Act.eval (Act.put (Act.put (frm _ _ _ []) (some 81) (vs 10)) (some 79) (vs 8))) _) _)
          simp only [frm, hv5]
          refine made_append (.tmp 79) (.tmp 81) 53 rfl Tryd.underlying53 HI.out.1 HI.out.2.1 HI.out.2.2.1 HI.out.2.2.2 rfl (by decide) (v := vs 8) (n := m) (xs := fl.take (m * 4)) rfl hown (A := some ⟨g5, 0, none⟩) (m := 1) (c := 1) (news := [.string k.nm, .bool k.actor, .slice F' k.fields.length fc', .slice M' q mc']) rfl ⟨rfl, .inr ⟨g5, 0, rfl, hbk5.lt, fun j v hj => by rw [Nat.zero_add, hbk5.cell]; simpa using hj⟩⟩ (by simp [Value.oneCell']) (by unfold maxLen; omega) (by omega) hWs fun v' w' ho hgr h4 => ?_
          exact lays_append HG.out (j := 8) (List.mem_singleton.2 rfl) (List.mem_cons_self ..) hown rfl hgr ho h4 ho rfl
        · have hown : w1.ownsRow W9.heap.size 61 4 (vs 11) (m + 1) _ := (hgr 11 (List.mem_singleton.2 rfl)).1
          obtain ⟨A6, c6, hv, _⟩ := own_shape hown
          clear hgr
          change Made _ _ (Sem.run _ (execOp (Act.eval (Act.put (frm _ _ _ []) (some 82) (vs 11))) _) _)
          simp only [frm, hv]
          rw [hv] at hown
          go_simp
          exact lays_take HG.out (j := 11) (List.mem_singleton.2 rfl) (List.mem_singleton.2 rfl) ⟨_, rfl, hown⟩ (by rw [hv]; exact (own_blkAgg hown).trans (own_blk hown).symm)
        · clear hgr
          go_simp
          exact lays_alloc ⟨_, rfl, Bk.new _ _ _⟩ rfl hWs
      · intro vs w1 hb hall hap
        obtain ⟨h7, q7⟩ := hall 12 (by omega) (by decide)
        obtain ⟨h8, q8⟩ := hall 13 (by omega) (by decide)
        have hne := hap 12 (by omega) (by decide) 13 (by omega) (by decide) (by decide)
        obtain ⟨u, hv7, hown⟩ := h7
        obtain ⟨gq, hv8, hbq⟩ := h8
        have hW1 := hb.size
        obtain ⟨g, cap, rfl, _, _⟩ := hown.form (by omega)
        have hgg : g ≠ gq := fun e => hne g (by rw [hv7]; rfl) (by rw [hv8, e]; rfl)
        have hgW : W9.heap.size ≤ gq := (q8 gq (by rw [hv8]; rfl)).1
        clear hall hap hne q7 q8
        change wpList _ _ _ [_] (Act.put (Act.put (Act.put (Act.put (Act.put (Act.put (Act.put (Act.put (Act.put (Act.put (Act.put (Act.put (Act.put (Act.put (frm _ _ _ []) (some 7) (vs 13)) (some 83) (vs 12)) (some 82) (vs 11)) (some 81) (vs 10)) (some 80) (vs 9)) (some 79) (vs 8)) (some 78) (vs 7)) (some 77) (vs 6)) (some 76) (vs 5)) (some 75) (vs 4)) (some 74) (vs 3)) (some 73) (vs 2)) (some 72) (vs 1)) (some 71) (vs 0)) _
        simp only [frm, hv7, hv8]
        have k0 : w1.cell? ⟨gq, 0, none⟩ = some (.slice none 0 0) := hbq.cell 0
        have k1 : w1.frozen? ⟨gq, 0, none⟩ = false := hbq.free 0
        have HBQ := Lib.hid hbq
        have HOW := Lib.hid hown
        have HB := Lib.hid hb
        clear hbq hown hb c0 d0 d1 d2 d3
        go_wp2_with fail
        go_meet
        exact ⟨gq, _, rfl, HBQ.out.setOne _, ownSet HOW.out _ hgg, HB.out.setCell hgW _⟩
    case rest =>
      obtain ⟨gq, u, rfl, hbq, hown, hbx⟩ := hcut
      obtain ⟨g, cap, rfl, _, _⟩ := hown.form (by omega)
      have HBA := Lib.hid (HB9.out.trans (hbx.mono HB9.out.size))
      have hcut2 : cs = cs.take m ++ [k] := by
        have h1 := HL.out
        have h2 : cs.drop m = [k] := by
          rw [List.drop_eq_getElem_cons (by omega), List.drop_eq_nil_of_le (by omega)]
          have := hHK.out
          rw [List.getElem?_eq_getElem (by omega)] at this
          rw [Option.some.inj this]
        have h3 := List.take_append_drop m cs
        rw [h2] at h3
        exact h3.symm
      have hKL : ClsR wc (lessC k) [.string k.nm, .bool k.actor, .slice F' k.fields.length fc', .slice M' q mc'] := by
        have := (HKR.out.below HBA.out).less
        rwa [HQQ.out, Nat.add_sub_cancel] at this
      have hcr : CodeR wc (cs.take m ++ [lessC k]) (some ⟨g, 0, none⟩) (m + 1) cap := by
        obtain ⟨g', cap', hv, hcap, _, hlt, hsl⟩ := ownSls hown (by omega)
        cases hv
        have hf := (HFT.out.keep (ClsR.keep HBA.out.size (keep_below HBA.out))).append (FlR.one rfl hKL)
        refine ⟨by rw [List.length_append, HLM.out]; rfl, hcap, by omega, hf.slR (by rw [List.length_append, HLM.out]; rfl) hlt fun j v hv => ?_⟩
        obtain ⟨b, o, hA, _, hc⟩ := hsl.get (k := 0) (by omega)
        cases hA
        exact hc j v hv
      have HCR2 := Lib.hid hcr
      have HML2 : Hid (¬ largeP (cs.take m ++ [lessC k])) := Lib.hid (less_large (by rw [← hcut2]; exact HNL.out))
      have HMB2 : Hid (¬ badP (cs.take m ++ [lessC k])) := Lib.hid (less_bad (by rw [← hcut2]; exact HNB.out))
      have q0 : wc.cell? ⟨gq, 0, none⟩ = some (.slice (some ⟨g, 0, none⟩) (m + 1) cap) := hbq.cell 0
      clear hbq hown hbx hcr hcut2 hKL c0 d0 d1 d2 d3
      go_wp2_with fail
      refine (Check_any HCR2.out).mono ?_
      rintro e wE ⟨⟨r, rfl, hr⟩, hbE⟩
      have HBE := Lib.hid (HBA.out.trans (hbE.mono HBA.out.size))
      obtain rfl : r = 0 := by
        rcases hr with ⟨h, _⟩ | ⟨_, h, _⟩ | ⟨_, _, h⟩
        · exact absurd h HML2.out
        · exact absurd h HMB2.out
        · exact h
      clear hr hbE q0
      go_wp2_with fail
      go_ret
      exact ⟨rfl, HBE.out⟩
end

theorem open_clsV {H : Type} {enc : TypeId × Value → H} {w : World} {base b0 : Nat} {r : _root_.Go.Reach} {spare : Nat → Bool} {held : Bool} {v : Value} {d : DataW H} {p : List MemPlace} (hv : Value.okWide Tryd.prog w r b0 61 v) (h : DataW.Trod enc Tryd.prog w base spare held 61 v d p) (hw : Wgt Tryd.prog 61 d) :
    ∃ (x : Cls) (F : Option Addr) (fc : Nat) (M : Option Addr) (mc : Nat), v = .agg #[.string x.nm, .bool x.actor, .slice F x.fields.length fc, .slice M x.ms.length mc] ∧ x.ok ∧ x.fields.length ≤ fc ∧ Sl w 1 F x.fields.length (txtCells x.fields) := by
  obtain ⟨cs, rfl, hsz⟩ := Go.WideShapes.okWide_struct Tryd.underlying61 hv
  rw [cellsClass] at hsz
  obtain ⟨fuel, hf⟩ := h
  obtain ⟨x, hok, F, fc, M, mc, hr, h1, h2, _, _⟩ := open_clsR fuel cs.toList _ (by simpa using hsz) hf hw
  refine ⟨x, F, fc, M, mc, ?_, hok, h1, h2⟩
  have : cs = cs.toList.toArray := by simp
  rw [this, hr]
end Go.Proofs.YtdmbcgkfecmakaaDoor
