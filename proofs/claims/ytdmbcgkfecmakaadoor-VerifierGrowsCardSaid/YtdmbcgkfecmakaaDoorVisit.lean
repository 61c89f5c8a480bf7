/- One call of the closure of verifier.examine. -/
import Derived.Test.YtdmbcgkfecmakaaDoorVpure
import Derived.Test.YtdmbcgkfecmakaaDoorMap
import Derived.WalkSmall
import Derived.Deep.AppendLies
import Derived.Maps.AppendAt
namespace Go.Proofs.YtdmbcgkfecmakaaDoor
set_option linter.unusedVariables false
set_option linter.unusedSimpArgs false
set_option linter.unusedSectionVars false
open Go.RowKit Go.Maps
set_option maxRecDepth 100000

theorem hK3 : Tryd.prog.underlying 3 = some (.int .i64) := by kernel_rfl
theorem hM3 : Tryd.prog.underlying 75 = some (.map 3 3) := by kernel_rfl
theorem hZ3 (w : World) : (zeroValue 3).run Tryd.prog w = .ok (.int .i64 0) w := by kernel_rfl
theorem Tryd.info3 : (Tryd.prog.info? 3).map (fun i => (i.zero, i.size, i.bytes)) = some (some (.int .i64 0), 1, 8) := by kernel_rfl

/-- how many keys below n are there -/
def card (f : Nat → Option Int) (n : Nat) : Nat := ((List.range n).filter fun i => (f i).isSome).length
theorem card_le (f : Nat → Option Int) (n : Nat) : card f n ≤ n := by
  unfold card
  exact Nat.le_trans (List.length_filter_le _ _) (by simp)
theorem card_upd (f : Nat → Option Int) (n k : Nat) (d : Int) (hk : k < n) (hf : f k = none) : card (upd f k d) n = card f n + 1 := by
  unfold card
  induction n with
  | zero => omega
  | succ n ih =>
    rw [List.range_succ, List.filter_append, List.filter_append, List.length_append, List.length_append]
    by_cases hkn : k = n
    · subst hkn
      have e : (List.range k).filter (fun i => (upd f k d i).isSome) = (List.range k).filter (fun i => (f i).isSome) := List.filter_congr fun i hi => by
        have : i ≠ k := by have := List.mem_range.1 hi; omega
        simp [upd, this]
      rw [e]
      simp [upd, hf]
    · have := ih (by omega)
      rw [this]
      have : (upd f k d n).isSome = (f n).isSome := by simp [upd, show n ≠ k by omega]
      simp only [List.filter_cons, List.filter_nil, this]
      omega

def zf (f : Nat → Option Int) (x : Int) : Option Int := if 0 ≤ x then f x.toNat else none
theorem zf_upd (f : Nat → Option Int) (n : Nat) (d : Int) : updZ (zf f) n d = zf (upd f n d) := by
  funext x
  unfold updZ zf upd
  by_cases h : x = n
  · subst h; simp
  · by_cases h0 : 0 ≤ x
    · have : x.toNat ≠ n := by omega
      simp [h, h0, this]
    · simp [h, h0]

/-- the world of a visit: block N holds the method, N + 1 the map, N + 2 the struct, N + 3 the pointer to it, N + 4 the work -/
structure VRep (w : World) (N : Nat) (v0 v1 v2 v4 : Value) (A : Option Addr) (len cap : Nat) (s : VS) : Prop where
  bm : Bk w N 25 #[v0, v1, v2, .slice A len cap, v4]
  bx : Bk w (N + 3) 73 #[.pointer (some ⟨N + 2, 0, none⟩)]
  bs : Bk w (N + 2) 77 #[v0, v1, v2, .slice A len cap, v4, .map (some (N + 1)), .bool s.sound, .int .i64 s.most]
  bd : MapI Tryd.prog 3 3 w (N + 1) (card s.f len) (zf s.f)
  bw : ∃ v, Bk w (N + 4) 28 #[v] ∧ w.ownsRow (N + 5) 3 1 v s.work.length (s.work.map fun i : Nat => .int .i64 (i : Int))
  bn : s.work.length ≤ card s.f len
  bz : N + 5 ≤ w.heap.size

/-- the work does not lie in block T -/
def Apart (w : World) (N T : Nat) : Prop := ∀ v, w.cell? ⟨N + 4, 0, none⟩ = some v → v.ownBlock ≠ some T

def VPost (w : World) (N : Nat) (v0 v1 v2 v4 : Value) (A : Option Addr) (len cap : Nat) (s : VS) (e : Ending) (w' : World) : Prop :=
  e = .returned (.tuple #[]) ∧ Below N w w' ∧ VRep w' N v0 v1 v2 v4 A len cap s ∧ ∀ T, N + 5 ≤ T → T < w.heap.size → Apart w N T → w'.heap[T]? = w.heap[T]? ∧ Apart w' N T

section
variable {w : World} {N : Nat} {v0 v1 v2 v4 : Value} {A : Option Addr} {len cap : Nat} {s : VS}

theorem VRep.setSound (h : VRep w N v0 v1 v2 v4 A len cap s) (b : Bool) : VRep (w.setCell ⟨N + 2, 6, none⟩ (.bool b)) N v0 v1 v2 v4 A len cap { s with sound := b } where
  bm := h.bm.far (by simp) _
  bx := h.bx.far (by simp) _
  bs := h.bs.set 6 _
  bd := h.bd.setCell (by simp) _
  bw := by
    obtain ⟨v, h1, h2⟩ := h.bw
    exact ⟨v, h1.far (by simp) _, ownsRow_setCell_below h2 (by simp) _⟩
  bn := h.bn
  bz := by simpa [World.setCell] using h.bz

theorem VRep.drew (h : VRep w N v0 v1 v2 v4 A len cap s) : VRep w.drew N v0 v1 v2 v4 A len cap s := ⟨h.bm, h.bx, h.bs, h.bd, h.bw, h.bn, h.bz⟩

theorem apart_sound (b : Bool) : ∀ T, N + 5 ≤ T → T < w.heap.size → Apart w N T → (w.setCell ⟨N + 2, 6, none⟩ (.bool b)).heap[T]? = w.heap[T]? ∧ Apart (w.setCell ⟨N + 2, 6, none⟩ (.bool b)) N T := by
  intro T h1 _ h2
  refine ⟨Below.heap_setCell _ _ _ _ (by show T ≠ N + 2; omega), fun v hv => h2 v ?_⟩
  rw [← hv]
  exact (World.cell?_setCell_other w ⟨N + 2, 6, none⟩ ⟨N + 4, 0, none⟩ (.bool b) (by simp)).symm

set_option maxHeartbeats 2000000 in
theorem visit_out (t d : Int) (ht : t < 0 ∨ (len : Int) ≤ t) (h : VRep w N v0 v1 v2 v4 A len cap s) :
    Calls Tryd.prog 73 #[.int .i64 t, .int .i64 d, .pointer (some ⟨N, 0, none⟩), .pointer (some ⟨N + 3, 0, none⟩), .pointer (some ⟨N + 4, 0, none⟩)] w (VPost w N v0 v1 v2 v4 A len cap { s with sound := false }) := by
  have cx : w.cell? ⟨N + 3, 0, none⟩ = some (.pointer (some ⟨N + 2, 0, none⟩)) := h.bx.cell 0
  have cs : w.cell? ⟨N + 2, 6, none⟩ = some (.bool s.sound) := h.bs.cell 6
  have fs : w.frozen? ⟨N + 2, 6, none⟩ = false := h.bs.free 6
  have cm : w.cell? ⟨N, 3, none⟩ = some (.slice A len cap) := h.bm.cell 3
  have H := Lib.hid h
  clear h
  rcases ht with ht | ht
  · go_enter Tryd.func73, Tryd.ntmps73
    go_wp2
    refine bodyPost_ret (results_none rfl _ _ _) rfl ⟨rfl, (Below.refl _ _).setCell (by simp) _, H.out.setSound false, apart_sound _⟩
  · have h0 : ¬ t < 0 := by omega
    go_enter Tryd.func73, Tryd.ntmps73
    go_wp2
    refine bodyPost_ret (results_none rfl _ _ _) rfl ⟨rfl, (Below.refl _ _).setCell (by simp) _, H.out.setSound false, apart_sound _⟩

set_option maxHeartbeats 2000000 in
theorem visit_was (n : Nat) (d was : Int) (hn : n < len) (hl : len ≤ 1000000) (hf : s.f n = some was) (h : VRep w N v0 v1 v2 v4 A len cap s) :
    Calls Tryd.prog 73 #[.int .i64 (n : Int), .int .i64 d, .pointer (some ⟨N, 0, none⟩), .pointer (some ⟨N + 3, 0, none⟩), .pointer (some ⟨N + 4, 0, none⟩)] w (VPost w N v0 v1 v2 v4 A len cap { s with sound := s.sound && was == d }) := by
  have cx : w.cell? ⟨N + 3, 0, none⟩ = some (.pointer (some ⟨N + 2, 0, none⟩)) := h.bx.cell 0
  have cs : w.cell? ⟨N + 2, 6, none⟩ = some (.bool s.sound) := h.bs.cell 6
  have cd : w.cell? ⟨N + 2, 5, none⟩ = some (.map (some (N + 1))) := h.bs.cell 5
  have fs : w.frozen? ⟨N + 2, 6, none⟩ = false := h.bs.free 6
  have cm : w.cell? ⟨N, 3, none⟩ = some (.slice A len cap) := h.bm.cell 3
  have zfn : zf s.f n = some was := by unfold zf; simp [hf]
  have hlk := h.bd.look_ok hK3 hK3 hM3 hZ3 (x := (n : Int)) (WalkArith.wf_i64 (by omega))
  rw [zfn] at hlk
  simp only [Option.getD_some, Option.isSome_some] at hlk
  clear zfn hf
  have h0 : ¬ (n : Int) < 0 := by omega
  have h1 : ¬ (len : Int) ≤ n := by omega
  have H := Lib.hid h
  clear h
  cases hs : s.sound with
  | false =>
    rw [hs] at cs
    have HS := Lib.hid hs
    clear hs
    go_enter Tryd.func73, Tryd.ntmps73
    go_wp2
    go_region
    all_goals
      go_wp2
      refine bodyPost_ret (results_none rfl _ _ _) rfl ⟨rfl, ((Below.refl _ _).setCell (by simp) _).drew, ?_, apart_sound _⟩
      exact (H.out.setSound _).drew
  | true =>
    rw [hs] at cs
    have HS := Lib.hid hs
    clear hs
    by_cases hd : (was == d) = true
    · go_enter Tryd.func73, Tryd.ntmps73
      go_wp2
      go_region
      all_goals
        go_wp2
        refine bodyPost_ret (results_none rfl _ _ _) rfl ⟨rfl, ((Below.refl _ _).setCell (by simp) _).drew, ?_, apart_sound _⟩
        rw [hd]
        exact (H.out.setSound _).drew
    · have hd' : (was == d) = false := by simpa using hd
      clear hd
      go_enter Tryd.func73, Tryd.ntmps73
      go_wp2
      go_region
      all_goals
        go_wp2
        refine bodyPost_ret (results_none rfl _ _ _) rfl ⟨rfl, ((Below.refl _ _).setCell (by simp) _).drew, ?_, apart_sound _⟩
        rw [hd']
        exact (H.out.setSound _).drew

theorem own_ne {base e size n : Nat} {w : World} {v : Value} {xs : List Value} (h : w.ownsRow base e size v n xs) {g : Nat} (hg : g < base) : some g ≠ v.ownBlock := by
  intro hh
  have := (h.lt g hh.symm).1
  omega

theorem VRep.push {w1 w2 : World} {o : Obj} {v v' : Value} {n : Nat} {d : Int} (h : VRep w N v0 v1 v2 v4 A len cap s) (hc : card (upd s.f n d) len = card s.f len + 1) (hz : updZ (zf s.f) n d = zf (upd s.f n d))
    (hbw : Bk w (N + 4) 28 #[v]) (hown : w.ownsRow (N + 5) 3 1 v s.work.length (s.work.map fun i : Nat => .int .i64 (i : Int)))
    (hd1 : MapI Tryd.prog 3 3 w1 (N + 1) (card s.f len + 1) (updZ (zf s.f) n d)) (hg1 : w.grownBy w1 (some (N + 1)))
    (hown2 : w2.ownsRow (N + 5) 3 1 v' (s.work.length + 1) ((s.work.map fun i : Nat => Value.int .i64 (i : Int)) ++ [.int .i64 (n : Int)])) (hg2 : (w1.alloc o).grownBy w2 v.ownBlock) (hloc : v'.ownBlock = v.ownBlock ∨ v'.ownBlock = some (w1.alloc o).heap.size) :
    VPost w N v0 v1 v2 v4 A len cap { s with f := upd s.f n d, work := s.work ++ [n] } (.returned (.tuple #[])) (w2.setCell ⟨N + 4, 0, none⟩ v') := by
  have hz5 := h.bz
  have hk : ∀ g, g < N + 5 → g ≠ N + 1 → w2.heap[g]? = w.heap[g]? := fun g hg hne => by
    rw [hg2.block g (by have := hg1.size; simp; omega) (own_ne hown hg), Below.heap_alloc _ _ _ (by have := hg1.size; omega), hg1.block g (by omega) (by simp; omega)]
  refine ⟨rfl, ?_, ?_, ?_⟩
  · refine Below.setCell ?_ (by simp) _
    refine ⟨hg2.os.trans hg1.os, hg2.tape.trans hg1.tape, hg2.output.trans hg1.output, ?_, fun k hk' => hk k (by omega) (by omega)⟩
    have := hg1.size
    have := hg2.size
    simp at this
    omega
  · refine ⟨?_, ?_, ?_, ?_, ⟨v', ?_, ?_⟩, ?_, ?_⟩
    · exact Bk.far ((hk N (by omega) (by omega)).trans h.bm) (by simp) _
    · exact Bk.far ((hk (N + 3) (by omega) (by omega)).trans h.bx) (by simp) _
    · exact Bk.far ((hk (N + 2) (by omega) (by omega)).trans h.bs) (by simp) _
    · rw [← hz, hc]
      exact ((hd1.alloc o).kept hg2 (own_ne hown (by omega))).setCell (by simp) _
    · exact Bk.set (cs := #[v]) ((hk (N + 4) (by omega) (by omega)).trans hbw) 0 v'
    · have := ownsRow_setCell_below hown2 (a := ⟨N + 4, 0, none⟩) (by simp) v'
      simpa using this
    · have := h.bn
      simp [hc]
      omega
    · have := hg1.size
      have := hg2.size
      simp at this
      simp [World.setCell]
      omega
  · intro T h1 h2 h3
    have hv := h3 v (hbw.cell 0)
    refine ⟨(Below.heap_setCell _ _ _ _ (by show T ≠ N + 4; omega)).trans ?_, fun u hu => ?_⟩
    · rw [hg2.block T (by have := hg1.size; simp; omega) (fun hh => hv hh.symm), Below.heap_alloc _ _ _ (by have := hg1.size; omega), hg1.block T h2 (by simp; omega)]
    · have e : (w2.setCell ⟨N + 4, 0, none⟩ v').cell? ⟨N + 4, 0, none⟩ = some v' := (Bk.set (cs := #[v]) ((hk (N + 4) (by omega) (by omega)).trans hbw) 0 v').cell 0
      rw [e] at hu
      obtain rfl := Option.some.inj hu
      rcases hloc with hl | hl
      · rw [hl]; exact hv
      · rw [hl]
        have := hg1.size
        simp
        omega

set_option maxHeartbeats 4000000 in
theorem visit_new (n : Nat) (d : Int) (hn : n < len) (hl : len ≤ 1000000) (d0 : -1000000 ≤ d) (d1 : d ≤ 1000000) (hf : s.f n = none) (h : VRep w N v0 v1 v2 v4 A len cap s) :
    Calls Tryd.prog 73 #[.int .i64 (n : Int), .int .i64 d, .pointer (some ⟨N, 0, none⟩), .pointer (some ⟨N + 3, 0, none⟩), .pointer (some ⟨N + 4, 0, none⟩)] w (VPost w N v0 v1 v2 v4 A len cap { s with f := upd s.f n d, work := s.work ++ [n] }) := by
  have cx : w.cell? ⟨N + 3, 0, none⟩ = some (.pointer (some ⟨N + 2, 0, none⟩)) := h.bx.cell 0
  have cd : w.cell? ⟨N + 2, 5, none⟩ = some (.map (some (N + 1))) := h.bs.cell 5
  have cm : w.cell? ⟨N, 3, none⟩ = some (.slice A len cap) := h.bm.cell 3
  have zfn : zf s.f n = none := by unfold zf; simp [hf]
  have hlk := h.bd.look_ok hK3 hK3 hM3 hZ3 (x := (n : Int)) (WalkArith.wf_i64 (by omega))
  rw [zfn] at hlk
  simp only [Option.getD_none, Option.isSome_none] at hlk
  have hcard := card_upd s.f len n d hn hf
  have hcle := card_le s.f len
  have hzu := zf_upd s.f n d
  obtain ⟨v, hbw, hown⟩ := h.bw
  have h0 : ¬ (n : Int) < 0 := by omega
  have h1 : ¬ (len : Int) ≤ n := by omega
  have hbn := h.bn
  have hbz := h.bz
  obtain ⟨i0, hi, hz0, hz1, hz2⟩ := info_parts Tryd.info3
  have H := Lib.hid h
  have HF := Lib.hid hf
  have HC := Lib.hid hcard
  have HZ := Lib.hid hzu
  have HI := Lib.hid (And.intro hi (And.intro hz0 (And.intro hz1 hz2)))
  clear h hf hcard hzu zfn hi hz0 hz1 hz2
  go_enter Tryd.func73, Tryd.ntmps73
  go_wp2_with (first | (at_mapUpdate; refine wpList_map_put hK3 hK3 hM3 rfl rfl H.out.bd (by unfold maxLen; omega) rfl rfl rfl (WalkArith.wf_i64 (by omega)) (WalkArith.wf_i64 (by omega)) ?_; intro w1 hd1 hg1; have cw1 : w1.cell? ⟨N + 4, 0, none⟩ = some v := (hbw.grown hg1 (by simp)).cell 0; have hown1 := hown.kept hg1 (.inr (fun hh => own_ne hown (by omega) hh.symm)); have hsz1 := hg1.size) | (at_builtin; refine wpList_append_own_at _ rfl (.tmp 49) (.tmp 51) 28 rfl (N + 5) 3 i0 (.int .i64 0) 1 8 Tryd.underlying28 HI.out.1 HI.out.2.1 HI.out.2.2.1 HI.out.2.2.2 rfl (by decide) v s.work.length _ rfl (hown1.alloc _) ⟨w1.heap.size, 0, none⟩ 1 1 [.int .i64 (n : Int)] rfl rfl (cell_one_new _ _ _) (by simp [Value.oneCell']) (by unfold maxLen; omega) (by omega) (by simp; omega) ?_; intro v' w2 hown2 hg2 _ hloc; obtain ⟨g, cp, rfl, _, _⟩ := hown2.form (by omega); have cw2 : w2.cell? ⟨N + 4, 0, none⟩ = some v := (((hbw.grown hg1 (by simp)).alloc _).grown hg2 (own_ne hown (by omega))).cell 0; have fw2 : w2.frozen? ⟨N + 4, 0, none⟩ = false := (((hbw.grown hg1 (by simp)).alloc _).grown hg2 (own_ne hown (by omega))).free 0))
  refine bodyPost_end (results_none rfl _ _ _) rfl ?_
  exact VRep.push H.out HC.out HZ.out hbw hown hd1 hg1 hown2 hg2 hloc

theorem visit_any (t d : Int) (hl : len ≤ 1000000) (d0 : -1000000 ≤ d) (d1 : d ≤ 1000000) (h : VRep w N v0 v1 v2 v4 A len cap s) :
    Calls Tryd.prog 73 #[.int .i64 t, .int .i64 d, .pointer (some ⟨N, 0, none⟩), .pointer (some ⟨N + 3, 0, none⟩), .pointer (some ⟨N + 4, 0, none⟩)] w (VPost w N v0 v1 v2 v4 A len cap (visitS len t d s)) := by
  unfold visitS
  by_cases ho : t < 0 ∨ (len : Int) ≤ t
  · rw [if_pos ho]
    exact visit_out t d ho h
  · rw [if_neg ho]
    obtain ⟨n, rfl⟩ := Int.eq_ofNat_of_zero_le (show 0 ≤ t by omega)
    rw [Int.toNat_natCast]
    cases hf : s.f n with
    | some was => exact visit_was n d was (by omega) hl hf h
    | none => exact visit_new n d (by omega) hl d0 d1 hf h
end
end Go.Proofs.YtdmbcgkfecmakaaDoor
