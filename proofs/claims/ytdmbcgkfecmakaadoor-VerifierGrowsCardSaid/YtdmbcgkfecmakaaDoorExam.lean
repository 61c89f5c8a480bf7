/- verifier.examine. -/
import Derived.Test.YtdmbcgkfecmakaaDoorVisit
import Derived.Deep.LoopGhost
import Derived.Deep.RegionWith
import Derived.Deep.DeepCutAuto
namespace Go.Proofs.YtdmbcgkfecmakaaDoor
set_option linter.unusedVariables false
set_option linter.unusedSimpArgs false
set_option linter.unusedSectionVars false
open Go.RowKit Go.Maps
set_option maxRecDepth 100000

def insCells (x : Ins) : List Value := [.int .i64 x.1, .int .i64 x.2.1, .int .i64 x.2.2]
def codeCells (c : List Ins) : List Value := c.flatMap insCells
theorem codeCells_length (c : List Ins) : (codeCells c).length = c.length * 3 := by
  induction c with
  | nil => rfl
  | cons x c ih => simp [codeCells, insCells] at ih ⊢; omega
theorem codeCells_get (c : List Ins) (i : Nat) (x : Ins) (h : c[i]? = some x) : (codeCells c)[i * 3]? = some (.int .i64 x.1) ∧ (codeCells c)[i * 3 + 1]? = some (.int .i64 x.2.1) ∧ (codeCells c)[i * 3 + 2]? = some (.int .i64 x.2.2) := by
  induction c generalizing i with
  | nil => simp at h
  | cons y c ih =>
    cases i with
    | zero => simp at h; subst h; exact ⟨rfl, rfl, rfl⟩
    | succ i =>
      have := ih i (by simpa using h)
      have e : codeCells (y :: c) = insCells y ++ codeCells c := by simp [codeCells]
      rw [e]
      have el : (insCells y).length = 3 := rfl
      refine ⟨?_, ?_, ?_⟩ <;> rw [List.getElem?_append_right (by omega), el]
      · rw [show (i + 1) * 3 - 3 = i * 3 by omega]; exact this.1
      · rw [show (i + 1) * 3 + 1 - 3 = i * 3 + 1 by omega]; exact this.2.1
      · rw [show (i + 1) * 3 + 2 - 3 = i * 3 + 2 by omega]; exact this.2.2

theorem targetsI_len (n a b i : Int) : (targetsI n a b i).length ≤ 2 := by
  unfold targetsI
  split
  · split
    · simp
    · split <;> simp
  · simp

theorem Targets_ex (n a b i : Int) (w : World) (i0 : -4611686018427387904 ≤ i) (i1 : i ≤ 4611686018427387904) :
    Calls Tryd.prog 24 #[.agg #[.int .i64 n, .int .i64 a, .int .i64 b], .int .i64 i] w fun e w' => ∃ ts, Hid (ts = targetsI n a b i) ∧ RetInts w ts e w' :=
  (Targets_any n a b i w i0 i1).mono fun e w' h => ⟨_, rfl, h⟩

theorem VRep.below {w w' : World} {N : Nat} {v0 v1 v2 v4 : Value} {A : Option Addr} {len cap : Nat} {s : VS} (h : VRep w N v0 v1 v2 v4 A len cap s) (hb : Below w.heap.size w w') : VRep w' N v0 v1 v2 v4 A len cap s := by
  have hg : w.grownBy w' none := ⟨hb.os, hb.tape, hb.output, hb.size, fun k hk _ => hb.block k hk⟩
  refine ⟨h.bm.grown hg (by simp), h.bx.grown hg (by simp), h.bs.grown hg (by simp), h.bd.kept hg (by simp), ?_, h.bn, Nat.le_trans h.bz hb.size⟩
  obtain ⟨v, h1, h2⟩ := h.bw
  refine ⟨v, h1.grown hg (by simp), h2.kept hg ?_⟩
  cases v.ownBlock <;> simp

theorem VRep.alloc {w : World} {N : Nat} {v0 v1 v2 v4 : Value} {A : Option Addr} {len cap : Nat} {s : VS} (h : VRep w N v0 v1 v2 v4 A len cap s) (o : Obj) : VRep (w.alloc o) N v0 v1 v2 v4 A len cap s :=
  h.below ((Below.refl _ _).alloc (Nat.le_refl _) o)

theorem VRep.pop {w : World} {N : Nat} {v0 v1 v2 v4 : Value} {A : Option Addr} {len cap : Nat} {s : VS} {l : List Nat} {a g cp : Nat} (h : VRep w N v0 v1 v2 v4 A len cap s) (hw : s.work = l ++ [a])
    (hbw : Bk w (N + 4) 28 #[.slice (some ⟨g, 0, none⟩) (l.length + 1) cp])
    (hown : w.ownsRow (N + 5) 3 1 (.slice (some ⟨g, 0, none⟩) (l.length + 1) cp) (l.length + 1) ((l.map fun i : Nat => Value.int .i64 (i : Int)) ++ [.int .i64 (a : Int)])) :
    VRep (w.setCell ⟨N + 4, 0, none⟩ (.slice (some ⟨g, 0, none⟩) l.length cp)) N v0 v1 v2 v4 A len cap { s with work := l } where
  bm := h.bm.far (by simp) _
  bx := h.bx.far (by simp) _
  bs := h.bs.far (by simp) _
  bd := h.bd.setCell (by simp) _
  bw := ⟨_, hbw.set 0 _, ownsRow_setCell_below (ownsRow_pop (by simp) hown) (by simp) _⟩
  bn := by
    have := h.bn
    rw [hw] at this
    simp at this
    show l.length ≤ card s.f len
    omega
  bz := by simpa [World.setCell] using h.bz

theorem VRep.setMost {w : World} {N : Nat} {v0 v1 v2 v4 : Value} {A : Option Addr} {len cap : Nat} {s : VS} (h : VRep w N v0 v1 v2 v4 A len cap s) (m : Int) : VRep (w.setCell ⟨N + 2, 7, none⟩ (.int .i64 m)) N v0 v1 v2 v4 A len cap { s with most := m } where
  bm := h.bm.far (by simp) _
  bx := h.bx.far (by simp) _
  bs := h.bs.set 7 _
  bd := h.bd.setCell (by simp) _
  bw := by
    obtain ⟨v, h1, h2⟩ := h.bw
    exact ⟨v, h1.far (by simp) _, ownsRow_setCell_below h2 (by simp) _⟩
  bn := h.bn
  bz := by simpa [World.setCell] using h.bz

def badB (d p m : Int) : Bool := decide (p > d ∨ m > 64)
theorem markS_bad (x : Ins) (d : Int) (s : VS) (h : badB d (iP x) (max s.most (max d (d - iP x + iU x))) = true) : markS x d s = { s with most := max s.most (max d (d - iP x + iU x)), sound := false } := by
  unfold markS
  simp only [if_pos (of_decide_eq_true h)]
theorem markS_ok (x : Ins) (d : Int) (s : VS) (h : badB d (iP x) (max s.most (max d (d - iP x + iU x))) = false) : markS x d s = { s with most := max s.most (max d (d - iP x + iU x)) } := by
  unfold markS
  simp only [if_neg (of_decide_eq_false h)]

/-- what examine leaves: block g is the struct, block d its map -/
def EPost (w : World) (v0 v1 v2 v4 : Value) (A : Option Addr) (len cap : Nat) (c : List Ins) (e : Ending) (w' : World) : Prop :=
  ∃ g d n f sound most, e = .returned (.pointer (some ⟨g, 0, none⟩)) ∧ Bk w' g 77 #[v0, v1, v2, .slice A len cap, v4, .map (some d), .bool sound, .int .i64 most] ∧
    MapI Tryd.prog 3 3 w' d n (zf f) ∧ n ≤ len ∧ w.heap.size ≤ g ∧ w.heap.size ≤ d ∧ d ≠ g ∧ Fin c f sound most ∧ Below w.heap.size w w'

theorem Fin.nil : Fin [] (fun _ => none) false 0 where
  reach := fun i => ⟨fun h => (by cases h), fun h => (by cases h with | zero h => cases h | step _ h _ _ => cases h)⟩
  good := fun h => by cases h
  forced := fun h => by cases h
  bad := fun _ D h => by
    obtain ⟨x, hx, _⟩ := h.2 0 0 h.1
    cases hx
  lt := fun i d h => by cases h
  most0 := Int.le_refl _
  most64 := fun h => by cases h
  mostLe := fun h => by cases h
  mostIs := fun h => by cases h

/-- the loop over the targets: j of them have been visited, k are to come -/
def Inner (w : World) (N : Nat) (v0 v1 v2 v4 : Value) (A : Option Addr) (len cap : Nat) (A6 : Option Addr) (ts : List Int) (b : Int) (s0 : VS) (j k : Nat) : Prop :=
  j + k = ts.length ∧ VRep w N v0 v1 v2 v4 A len cap ((ts.take j).foldl (fun s t => visitS len t b s) s0) ∧ Sl w 1 A6 ts.length (ints ts) ∧ ∀ b o, A6 = some ⟨b, o, none⟩ → N + 5 ≤ b ∧ Apart w N b

theorem Inner.start {w : World} {N : Nat} {v0 v1 v2 v4 : Value} {A : Option Addr} {len cap : Nat} {A6 : Option Addr} {ts : List Int} {b : Int} {s0 : VS} (h : VRep w N v0 v1 v2 v4 A len cap s0) (hs : Sl w 1 A6 ts.length (ints ts))
    (ha : ∀ b o, A6 = some ⟨b, o, none⟩ → N + 5 ≤ b ∧ Apart w N b) : Inner w N v0 v1 v2 v4 A len cap A6 ts b s0 0 ts.length := ⟨by omega, h, hs, ha⟩

theorem Inner.get {w : World} {N : Nat} {v0 v1 v2 v4 : Value} {A : Option Addr} {len cap : Nat} {A6 : Option Addr} {ts : List Int} {b : Int} {s0 : VS} {j k : Nat} (h : Inner w N v0 v1 v2 v4 A len cap A6 ts b s0 j (k + 1)) :
    ∃ t g o, ts[j]? = some t ∧ A6 = some ⟨g, o, none⟩ ∧ w.cell? ⟨g, o + j, none⟩ = some (.int .i64 t) := by
  have hj : j < ts.length := by have := h.1; omega
  obtain ⟨g, o, rfl, hg, hc⟩ := h.2.2.1.get hj
  exact ⟨ts[j], g, o, List.getElem?_eq_getElem hj, rfl, hc j _ (by simp [ints, List.getElem?_eq_getElem hj])⟩

theorem Inner.next {w w' : World} {N : Nat} {v0 v1 v2 v4 : Value} {A : Option Addr} {len cap : Nat} {A6 : Option Addr} {ts : List Int} {b t : Int} {s0 : VS} {j k : Nat} {e : Ending} (h : Inner w N v0 v1 v2 v4 A len cap A6 ts b s0 j (k + 1)) (ht : ts[j]? = some t)
    (hp : VPost w N v0 v1 v2 v4 A len cap (visitS len t b ((ts.take j).foldl (fun s t => visitS len t b s) s0)) e w') : Inner w' N v0 v1 v2 v4 A len cap A6 ts b s0 (j + 1) k := by
  obtain ⟨h1, h2, h3, h4⟩ := h
  obtain ⟨_, hb, hr, hap⟩ := hp
  have et : (ts.take (j + 1)).foldl (fun s t => visitS len t b s) s0 = visitS len t b ((ts.take j).foldl (fun s t => visitS len t b s) s0) := by
    rw [List.take_add_one, ht, List.foldl_append]
    rfl
  refine ⟨by omega, et ▸ hr, ?_, ?_⟩
  · refine ⟨h3.1, ?_⟩
    rcases h3.2 with h0 | ⟨g, o, rfl, hg, hc⟩
    · exact .inl h0
    · obtain ⟨a1, a2⟩ := h4 g o rfl
      obtain ⟨e1, _⟩ := hap g a1 hg a2
      exact .inr ⟨g, o, rfl, Nat.lt_of_lt_of_le hg hb.size, fun i x hx => (World.cell?_of_block (w := w) (a := ⟨g, o + i, none⟩) e1).trans (hc i x hx)⟩
  · intro g o hA
    obtain ⟨a1, a2⟩ := h4 g o hA
    refine ⟨a1, ?_⟩
    rcases h3.2 with h0 | ⟨g', o', hA', hg, _⟩
    · omega
    · rw [hA] at hA'
      obtain ⟨rfl, rfl⟩ : g = g' ∧ o = o' := by injection hA' with hA'; injection hA' with q1 q2; exact ⟨q1, q2⟩
      exact (hap g a1 hg a2).2

section
variable {w : World} {v0 v1 v2 v4 : Value} {A : Option Addr} {len cap : Nat}
set_option maxHeartbeats 2000000 in
theorem examine_nil :
    Calls Tryd.prog 47 #[.agg #[v0, v1, v2, .slice A 0 cap, v4]] w (EPost w v0 v1 v2 v4 A 0 cap []) := by
  have hmm := @run_makeMap Tryd.prog
  go_enter Tryd.func47, Tryd.ntmps47
  go_wp2
  go_ret
  refine ⟨w.heap.size + 2, w.heap.size + 1, 0, fun _ => none, false, 0, rfl, ?_, ?_, Nat.le_refl _, by omega, by omega, by omega, Fin.nil, ?_⟩
  · exact Bk.alloc (by have := Bk.new ((w.alloc (.cells #[v0, v1, v2, .slice A 0 cap, v4] 25)).alloc (.map #[] 0)) 77 #[v0, v1, v2, .slice A 0 cap, v4, .map (some (w.heap.size + 1)), .bool false, .int .i64 0]; simpa using this) _
  · have := MapI.made Tryd.prog 3 3 (w.alloc (.cells #[v0, v1, v2, .slice A 0 cap, v4] 25))
    rw [World.size_alloc] at this
    exact ((this.congr (fun x _ => by simp [zf])).alloc _).alloc _
  · exact ((((Below.refl _ _).alloc (Nat.le_refl _) _).alloc (by simp) _).alloc (by simp; omega) _).alloc (by simp; omega) _

theorem visit_card (len : Nat) (t d : Int) (s : VS) : card (visitS len t d s).f len + s.work.length = card s.f len + (visitS len t d s).work.length ∧ card s.f len ≤ card (visitS len t d s).f len := by
  unfold visitS
  by_cases ho : t < 0 ∨ (len : Int) ≤ t
  · rw [if_pos ho]; exact ⟨rfl, Nat.le_refl _⟩
  · rw [if_neg ho]
    cases hf : s.f t.toNat with
    | some was => exact ⟨rfl, Nat.le_refl _⟩
    | none =>
      have := card_upd s.f len t.toNat d (by omega) hf
      simp only [List.length_append, List.length_singleton]
      omega
theorem fold_card (len : Nat) (d : Int) : ∀ (ts : List Int) (s : VS), card (ts.foldl (fun s t => visitS len t d s) s).f len + s.work.length = card s.f len + (ts.foldl (fun s t => visitS len t d s) s).work.length ∧ card s.f len ≤ card (ts.foldl (fun s t => visitS len t d s) s).f len
  | [], s => ⟨rfl, Nat.le_refl _⟩
  | t :: ts, s => by
    have h1 := visit_card len t d s
    have h2 := fold_card len d ts (visitS len t d s)
    simp only [List.foldl_cons]
    omega
theorem size_setCell (w : World) (a : Addr) (v : Value) : (w.setCell a v).heap.size = w.heap.size := by simp [World.setCell]
theorem Bk.newAt {w : World} {g : Nat} (t : TypeId) (cs : Array Value) (h : g = w.heap.size) : Bk (w.alloc (.cells cs t)) g t cs := by subst h; exact Bk.new w t cs

def VRel (w0 : World) (N : Nat) (v0 v1 v2 v4 : Value) (A : Option Addr) (len cap : Nat) (c : List Ins) (k : Nat) (w : World) : Prop :=
  ∃ s, VRep w N v0 v1 v2 v4 A len cap s ∧ Inv c s ∧ Below N w0 w ∧ 2 * (len - card s.f len) + s.work.length ≤ k ∧ k ≤ 2 * len ∧ ∀ i d, s.f i = some d → -(40 * (2 * len - k : Int)) ≤ d ∧ d ≤ 40 * (2 * len - k : Int)

theorem iP_bounds (x : Ins) : 0 ≤ iP x ∧ iP x ≤ 32 ∧ 0 ≤ iU x ∧ iU x ≤ 1 := by
  unfold iP iU popsI pushesI
  by_cases hv : validB x.1 x.2.1 x.2.2 = true
  · rw [if_pos hv, if_pos hv]
    obtain ⟨k, hk, hk2, _, _, b0, _, b1⟩ := validB_some hv
    have := op_bounds k hk2
    rw [hk, Int.toNat_natCast]
    split <;> omega
  · rw [if_neg hv, if_neg hv]; omega

theorem VRel.next {w0 w' : World} {N : Nat} {v0 v1 v2 v4 : Value} {A : Option Addr} {len cap : Nat} {c : List Ins} {s : VS} {l : List Nat} {a k : Nat} {x : Ins} {d : Int}
    (hr : VRep w' N v0 v1 v2 v4 A len cap (roundS c a x d { s with work := l })) (hinv : Inv c s) (hc : c.length = len) (hw : s.work = l ++ [a]) (hx : c[a]? = some x) (hd : s.f a = some d)
    (hk : 2 * (len - card s.f len) + s.work.length ≤ k ∧ k ≤ 2 * len) (hbd : ∀ i d, s.f i = some d → -(40 * (2 * len - k : Int)) ≤ d ∧ d ≤ 40 * (2 * len - k : Int)) (hb : Below N w0 w') : VRel w0 N v0 v1 v2 v4 A len cap c (k - 1) w' := by
  have hlw : s.work.length = l.length + 1 := by rw [hw]; simp
  have hcl := card_le (roundS c a x d { s with work := l }).f len
  have hp := iP_bounds x
  have hda := hbd a d hd
  refine ⟨_, hr, hinv.round hw hx hd, hb, ?_, by omega, ?_⟩
  · unfold roundS at hcl ⊢
    by_cases hv : iV x = true
    · rw [if_pos hv] at hcl ⊢
      have := fold_card len (d - iP x + iU x) (iT x a) (markS x d { s with work := l })
      rw [hc] at hcl ⊢
      have e1 : (markS x d { s with work := l }).f = s.f := rfl
      have e2 : (markS x d { s with work := l }).work = l := rfl
      rw [e1, e2] at this
      omega
    · rw [if_neg hv]
      show 2 * (len - card s.f len) + l.length ≤ k - 1
      omega
  · intro i e he
    unfold roundS at he
    by_cases hv : iV x = true
    · rw [if_pos hv] at he
      rcases (Visited.fold c.length (d - iP x + iU x) (iT x a) (markS x d { s with work := l })).new i e he with h1 | ⟨_, _, _, h1⟩
      · have := hbd i e h1
        omega
      · omega
    · rw [if_neg hv] at he
      have := hbd i e he
      omega

theorem VRep.start (w : World) (v0 v1 v2 v4 : Value) (A : Option Addr) (len cap : Nat) :
    VRep (((((w.alloc (.cells #[v0, v1, v2, .slice A len cap, v4] 25)).alloc (.map #[] 0)).alloc (.cells #[v0, v1, v2, .slice A len cap, v4, .map (some (w.heap.size + 1)), .bool true, .int .i64 0] 77)).alloc
      (.cells #[.pointer (some ⟨w.heap.size + 1 + 1, 0, none⟩)] 73)).alloc (.cells #[.slice none 0 0] 28)) w.heap.size v0 v1 v2 v4 A len cap ⟨fun _ => none, [], true, 0⟩ where
  bm := ((((Bk.new _ _ _).alloc _).alloc _).alloc _).alloc _
  bd := by
    have := MapI.made Tryd.prog 3 3 (w.alloc (.cells #[v0, v1, v2, .slice A len cap, v4] 25))
    rw [World.size_alloc] at this
    exact ((((this.congr (fun x _ => by simp [zf])).alloc _).alloc _).alloc _).mono (Nat.zero_le _)
  bs := by
    have := Bk.new ((w.alloc (.cells #[v0, v1, v2, .slice A len cap, v4] 25)).alloc (.map #[] 0)) 77 #[v0, v1, v2, .slice A len cap, v4, .map (some (w.heap.size + 1)), .bool true, .int .i64 0]
    simp only [World.size_alloc] at this
    exact (this.alloc _).alloc _
  bx := by
    have := Bk.new (((w.alloc (.cells #[v0, v1, v2, .slice A len cap, v4] 25)).alloc (.map #[] 0)).alloc (.cells #[v0, v1, v2, .slice A len cap, v4, .map (some (w.heap.size + 1)), .bool true, .int .i64 0] 77)) 73 #[.pointer (some ⟨w.heap.size + 1 + 1, 0, none⟩)]
    simp only [World.size_alloc] at this
    exact this.alloc _
  bw := by
    have := Bk.new ((((w.alloc (.cells #[v0, v1, v2, .slice A len cap, v4] 25)).alloc (.map #[] 0)).alloc (.cells #[v0, v1, v2, .slice A len cap, v4, .map (some (w.heap.size + 1)), .bool true, .int .i64 0] 77)).alloc
      (.cells #[.pointer (some ⟨w.heap.size + 1 + 1, 0, none⟩)] 73)) 28 #[.slice none 0 0]
    simp only [World.size_alloc] at this
    exact ⟨_, this, World.ownsRow_nil _ _ _ _⟩
  bn := Nat.zero_le _
  bz := by simp

set_option maxHeartbeats 4000000 in
theorem examine_main (c : List Ins) (hc : c.length = len) (hlen : 0 < len) (hl : len ≤ 10000) (hw : ∀ x ∈ c, (Lit.int .i64 x.1).wf = true ∧ (Lit.int .i64 x.2.1).wf = true ∧ (Lit.int .i64 x.2.2).wf = true) (hcode : Sl w 3 A len (codeCells c)) :
    Calls Tryd.prog 47 #[.agg #[v0, v1, v2, .slice A len cap, v4]] w (EPost w v0 v1 v2 v4 A len cap c) := by
  have hmm := @run_makeMap Tryd.prog
  have hR := VRep.start w v0 v1 v2 v4 A len cap
  have HR := Lib.hid hR
  have hdl : decide (0 < (len : Int)) = true := by simpa using hlen
  have HC := Lib.hid hc
  have HI0 := Lib.hid (Inv.start c (by omega))
  clear hR hc
  go_enter Tryd.func47, Tryd.ntmps47
  go_wp2_with (first | (go_at_call 73; refine (visit_any _ _ (by omega) (by omega) (by omega) HR.out).mono ?_; rintro e w1 ⟨rfl, hb1, hr1, hap1⟩))
  go_loopg [] (2 * len) (fun k wr => VRel w w.heap.size v0 v1 v2 v4 A len cap c k wr)
  case atStart =>
    refine ⟨_, hr1, HC.out ▸ HI0.out, ?_, ?_, Nat.le_refl _, ?_⟩
    · exact (((((Below.refl _ _).alloc (Nat.le_refl _) _).alloc (by simp) _).alloc (by simp; omega) _).alloc (by simp; omega) _ |>.alloc (by simp; omega) _).trans hb1
    · have := hr1.bn
      have := card_le (visitS len 0 0 ⟨fun _ => none, [], true, 0⟩).f len
      omega
    · intro i d hi
      rcases (Visited.one len 0 0 ⟨fun _ => none, [], true, 0⟩).new i d hi with h1 | ⟨_, _, _, h1⟩
      · cases h1
      · subst h1
        omega
  case round =>
    clear hap1 hr1 hb1 w1 HR HI0
    obtain ⟨go, hgo⟩ : ∃ go, go = gk := ⟨gk, rfl⟩
    subst hgo
    obtain ⟨s, hr, hinv, hb, hk, hk2, hbd⟩ := hrel
    obtain ⟨v, hbw, hown⟩ := hr.bw
    have cbw : wr.cell? ⟨w.heap.size + 4, 0, none⟩ = some v := hbw.cell 0
    have fbw : wr.frozen? ⟨w.heap.size + 4, 0, none⟩ = false := hbw.free 0
    have cbx : wr.cell? ⟨w.heap.size + 3, 0, none⟩ = some (.pointer (some ⟨w.heap.size + 2, 0, none⟩)) := hr.bx.cell 0
    have HR := Lib.hid hr
    have HV := Lib.hid hinv
    have HB := Lib.hid hb
    have HK := Lib.hid (And.intro hk hk2)
    have HBD := Lib.hid hbd
    clear hr hinv hb hk hk2 hbd
    rcases List.eq_nil_or_concat s.work with hw0 | ⟨l, a, hw0⟩
    · have e : v = .slice none 0 0 ∨ ∃ g cp, v = .slice (some ⟨g, 0, none⟩) 0 cp := by
        rw [hw0] at hown
        rcases hown.2 with ⟨h1, _⟩ | ⟨g, cp, _, h1, _⟩
        · exact .inl h1
        · exact .inr ⟨g, cp, h1⟩
      have HW := Lib.hid hw0
      clear hw0
      rcases e with rfl | ⟨g, cp, rfl⟩
      all_goals
        go_wp2
        go_ret
        exact ⟨_, _, _, s.f, s.sound, s.most, rfl, HR.out.bs, HR.out.bd, card_le _ _, by omega, by omega, by omega, HV.out.fin HW.out, HB.out⟩
    · rw [List.concat_eq_append] at hw0
      have hlw : s.work.length = l.length + 1 := by rw [hw0]; simp
      rw [hlw, hw0, List.map_append, List.map_singleton] at hown
      obtain ⟨g, cp, rfl, hgb, hgl⟩ := hown.form (by omega)
      obtain ⟨d, hfd⟩ := HV.out.work a (by rw [hw0]; simp)
      have hac := (HV.out.dom a d hfd).1
      rw [HC.out] at hac
      have cwl : wr.cell? ⟨g, l.length, none⟩ = some (.int .i64 (a : Int)) := (hown.cellAt l.length (by omega)).trans (by simp)
      have hll : l.length < len := by
        have := HR.out.bn
        have := card_le s.f len
        omega
      have hgne : w.heap.size + 4 < g := by omega
      have hcp : l.length + 1 ≤ cp := by
        rcases hown.2 with ⟨h1, _⟩ | ⟨g', cap', cur, hv, _, _, hn, _⟩
        · cases h1
        · injection hv with _ _ h3
          omega
      obtain ⟨b, o, rfl, hbl, hcc⟩ := hcode.get hac
      obtain ⟨x, hx⟩ : ∃ x, c[a]? = some x := ⟨_, List.getElem?_eq_getElem (by rw [HC.out]; exact hac)⟩
      obtain ⟨hx0, hx1, hx2⟩ := codeCells_get c a x hx
      have k0 := (HB.out.cell (p := ⟨b, o + a * 3, none⟩) hbl).trans (hcc _ _ hx0)
      have k1 : wr.cell? ⟨b, o + a * 3 + 1, none⟩ = some (.int .i64 x.2.1) := (HB.out.cell (p := ⟨b, o + (a * 3 + 1), none⟩) hbl).trans (hcc _ _ hx1)
      have k2 : wr.cell? ⟨b, o + a * 3 + 2, none⟩ = some (.int .i64 x.2.2) := (HB.out.cell (p := ⟨b, o + (a * 3 + 2), none⟩) hbl).trans (hcc _ _ hx2)
      have hbz := HR.out.bz
      have hz0 : w.heap.size < wr.heap.size := by omega
      have hz2 : w.heap.size + 2 < wr.heap.size := by omega
      have hz3 : w.heap.size + 3 < wr.heap.size := by omega
      have hbl2 : b < wr.heap.size := by omega
      have hbne : b ≠ w.heap.size + 4 := by omega
      have cm : wr.cell? ⟨w.heap.size, 3, none⟩ = some (.slice (some ⟨b, o, none⟩) len cap) := HR.out.bm.cell 3
      have cd : wr.cell? ⟨w.heap.size + 2, 5, none⟩ = some (.map (some (w.heap.size + 1))) := HR.out.bs.cell 5
      have hd1 := HR.out.bd.setCell (a := ⟨w.heap.size + 4, 0, none⟩) (by simp) (.slice (some ⟨g, 0, none⟩) l.length cp)
      have hlk := hd1.drew.look hK3 hK3 hM3 hZ3 (x := (a : Int)) (WalkArith.wf_i64 (by omega))
      have hlk2 := fun o => (hd1.alloc o).drew.look hK3 hK3 hM3 hZ3 (x := (a : Int)) (WalkArith.wf_i64 (by omega))
      have zfa : zf s.f a = some d := by unfold zf; simp [hfd]
      rw [zfa] at hlk
      simp only [zfa, Option.getD_some] at hlk hlk2
      clear zfa hd1
      have HW := Lib.hid hw0
      have HX := Lib.hid hx
      have HD := Lib.hid hfd
      have HL := Lib.hid hlw
      have HO := Lib.hid hown
      clear hw0 hx hfd hx0 hx1 hx2 hcc hcode hlw hown
      go_upto_region 10 with fail
      go_cut [7, 8] (fun s7 s8 wx => ∃ M, s7 = .pointer (some ⟨M, 0, none⟩) ∧ s8 = .int .i64 d ∧ w.heap.size + 5 ≤ M ∧ Bk wx M 39 #[.int .i64 x.1, .int .i64 x.2.1, .int .i64 x.2.2] ∧ VRep wx w.heap.size v0 v1 v2 v4 (some ⟨b, o, none⟩) len cap { s with work := l } ∧ Below w.heap.size wr wx)
      case first =>
        go_region
        all_goals
          go_wp2
          go_meet
          refine ⟨_, rfl, rfl, ?_, ?_, ?_, ?_⟩
          · omega
          · exact Bk.newAt _ _ (size_setCell _ _ _).symm
          · exact ((HR.out.pop HW.out hbw HO.out).alloc _).drew
          · exact (((Below.refl _ _).setCell (by simp) _).alloc (by simp; omega) _).drew
      case rest =>
        obtain ⟨M, rfl, rfl, hM, hbM, hr1, hb1⟩ := hcut
        have HB1 := Lib.hid (HB.out.trans hb1)
        have HR1 := Lib.hid hr1
        have HBM := Lib.hid hbM
        clear hr1 hb1 cbx cbw fbw hbw HR HO HB cwl hgb hgl hgne hcp k0 k1 k2 cm cd hlk hlk2 hbz hz0 hz2 hz3 hbl2 hbne
        have m0 : wc.cell? ⟨M, 0, none⟩ = some (.int .i64 x.1) := HBM.out.cell 0
        have m1 : wc.cell? ⟨M, 1, none⟩ = some (.int .i64 x.2.1) := HBM.out.cell 1
        have m2 : wc.cell? ⟨M, 2, none⟩ = some (.int .i64 x.2.2) := HBM.out.cell 2
        cases hv : iV x with
        | false =>
          have HVX := Lib.hid hv
          have hv' : validB x.1 x.2.1 x.2.2 = false := hv
          clear hv
          go_wp2_with (first | (go_at_call 23; refine (Valid_any _ _ _ _).mono ?_; rintro e w2 ⟨rfl, hb2⟩; have hr2 := HR1.out.below hb2; have cx2 : w2.cell? ⟨w.heap.size + 3, 0, none⟩ = some (.pointer (some ⟨w.heap.size + 2, 0, none⟩)) := hr2.bx.cell 0; have cs2 : w2.cell? ⟨w.heap.size + 2, 6, none⟩ = some (.bool s.sound) := hr2.bs.cell 6; have fs2 : w2.frozen? ⟨w.heap.size + 2, 6, none⟩ = false := hr2.bs.free 6))
          go_roundg (go - 1)
          case measure => have := HK.out.1; have := HL.out; omega
          case rel =>
            refine VRel.next (x := x) (d := d) ?_ HV.out HC.out HW.out HX.out HD.out HK.out HBD.out ((HB1.out.trans (hb2.mono (by have := HR1.out.bz; omega))).setCell (by simp) _)
            unfold roundS
            rw [if_neg (by rw [HVX.out]; simp)]
            exact hr2.setSound false
        | true =>
          have HVX := Lib.hid hv
          have hv' : validB x.1 x.2.1 x.2.2 = true := hv
          have hp := iP_bounds x
          have hdb := HBD.out a d HD.out
          have hkk := HK.out
          have d0 : -800000 ≤ d := by omega
          have d1 : d ≤ 800000 := by omega
          have q0 : 0 ≤ popsI x.1 x.2.1 x.2.2 := hp.1
          have q1 : popsI x.1 x.2.1 x.2.2 ≤ 32 := hp.2.1
          have q2 : 0 ≤ pushesI x.1 x.2.1 x.2.2 := hp.2.2.1
          have q3 : pushesI x.1 x.2.1 x.2.2 ≤ 1 := hp.2.2.2
          clear hv hp hdb hkk
          have hmx := fun W => run_max3 (P := Tryd.prog) #[3, 3, 3] 3 s.most d (d - popsI x.1 x.2.1 x.2.2 + pushesI x.1 x.2.1 x.2.2) W
          go_upto_region 15 with (first | (go_at_call 23; refine (Valid_any _ _ _ _).mono ?_; rintro e w2 ⟨rfl, hb2⟩; have k0 := (HBM.out.below hb2 HBM.out.lt).cell 0; have k1 := (HBM.out.below hb2 HBM.out.lt).cell 1; have k2 := (HBM.out.below hb2 HBM.out.lt).cell 2; simp only [List.getElem?_toArray, List.getElem?_cons_zero, List.getElem?_cons_succ] at k0 k1 k2) | (go_at_call 22; refine (Effect_any _ _ _ _).mono ?_; rintro e w3 ⟨rfl, hb3⟩; have hr3 := (HR1.out.below hb2).below hb3; have cx3 : w3.cell? ⟨w.heap.size + 3, 0, none⟩ = some (.pointer (some ⟨w.heap.size + 2, 0, none⟩)) := hr3.bx.cell 0; have cs3 : w3.cell? ⟨w.heap.size + 2, 7, none⟩ = some (.int .i64 s.most) := hr3.bs.cell 7; have fs3 : w3.frozen? ⟨w.heap.size + 2, 7, none⟩ = false := hr3.bs.free 7))
          go_cut [] (fun wx => VRep wx w.heap.size v0 v1 v2 v4 (some ⟨b, o, none⟩) len cap { s with work := l, most := max s.most (max d (d - popsI x.1 x.2.1 x.2.2 + pushesI x.1 x.2.1 x.2.2)) } ∧ Below w.heap.size w wx ∧ Bk wx M 39 #[.int .i64 x.1, .int .i64 x.2.1, .int .i64 x.2.2])
          case first =>
            go_region
            all_goals
              go_wp2
              go_meet
              refine ⟨(hr3.setMost _).drew, ((((HB1.out.trans (hb2.mono (by have := HR1.out.bz; omega))).trans (hb3.mono (by have := HR1.out.bz; have := hb2.size; omega))).setCell (p := ⟨w.heap.size + 2, 7, none⟩) (by simp) _).drew), ?_⟩
              exact ((HBM.out.below hb2 HBM.out.lt).below hb3 (Nat.lt_of_lt_of_le HBM.out.lt hb2.size)).far (p := ⟨w.heap.size + 2, 7, none⟩) (by simp; omega) _
          case rest =>
            obtain ⟨hr4, hb4, hM4⟩ := hcut
            have HR4 := Lib.hid hr4
            have HB4 := Lib.hid hb4
            have HM4 := Lib.hid hM4
            have cx4 : wc.cell? ⟨w.heap.size + 3, 0, none⟩ = some (.pointer (some ⟨w.heap.size + 2, 0, none⟩)) := hr4.bx.cell 0
            have cs4 : wc.cell? ⟨w.heap.size + 2, 7, none⟩ = some (.int .i64 (max s.most (max d (d - popsI x.1 x.2.1 x.2.2 + pushesI x.1 x.2.1 x.2.2)))) := hr4.bs.cell 7
            have cu4 : wc.cell? ⟨w.heap.size + 2, 6, none⟩ = some (.bool s.sound) := hr4.bs.cell 6
            have fu4 : wc.frozen? ⟨w.heap.size + 2, 6, none⟩ = false := hr4.bs.free 6
            clear hr4 hb4 hM4 hr3 cx3 cs3 fs3 hb2 hb3 hmx m0 m1 m2 k0 k1 k2 HB1 HR1 HBM hbM
            go_upto_region 16 with fail
            go_cut [91] (fun s91 wx => s91 = .bool (badB d (popsI x.1 x.2.1 x.2.2) (max s.most (max d (d - popsI x.1 x.2.1 x.2.2 + pushesI x.1 x.2.1 x.2.2)))) ∧ wx = wc)
            case first =>
              by_cases hq1 : d < popsI x.1 x.2.1 x.2.2
              · go_wp2
                go_meet
                exact ⟨congrArg Value.bool (decide_eq_true (.inl hq1)).symm, rfl⟩
              · go_wp2
                go_meet
                exact ⟨congrArg Value.bool (decide_eq_decide.2 ⟨fun h => .inr h, fun h => h.elim (fun h => absurd h (by omega)) id⟩), rfl⟩
            case rest =>
            obtain ⟨rfl, rfl⟩ := hcut
            go_upto_if 91 with fail
            go_cut [] (fun wx => VRep wx w.heap.size v0 v1 v2 v4 (some ⟨b, o, none⟩) len cap (markS x d { s with work := l }) ∧ Below w.heap.size w wx ∧ Bk wx M 39 #[.int .i64 x.1, .int .i64 x.2.1, .int .i64 x.2.2])
            case first =>
              cases hbad : badB d (popsI x.1 x.2.1 x.2.2) (max s.most (max d (d - popsI x.1 x.2.1 x.2.2 + pushesI x.1 x.2.1 x.2.2))) with
              | true =>
                have HBD2 := Lib.hid hbad
                clear hbad
                go_wp2
                go_meet
                refine ⟨?_, HB4.out.setCell (by simp) _, HM4.out.far (by simp; omega) _⟩
                rw [markS_bad x d { s with work := l } HBD2.out]
                exact HR4.out.setSound false
              | false =>
                have HBD2 := Lib.hid hbad
                clear hbad
                go_wp2
                go_meet
                refine ⟨?_, HB4.out, HM4.out⟩
                rw [markS_ok x d { s with work := l } HBD2.out]
                exact HR4.out
            case rest =>
              obtain ⟨hr5, hb5, hM5⟩ := hcut
              have HR5 := Lib.hid hr5
              have HB5 := Lib.hid hb5
              have n0 : wc.cell? ⟨M, 0, none⟩ = some (.int .i64 x.1) := hM5.cell 0
              have n1 : wc.cell? ⟨M, 1, none⟩ = some (.int .i64 x.2.1) := hM5.cell 1
              have n2 : wc.cell? ⟨M, 2, none⟩ = some (.int .i64 x.2.2) := hM5.cell 2
              clear hr5 hb5 hM5 cx4 cs4 cu4 fu4 HR4 HB4 HM4
              go_wp2_with (first | (go_at_call 24; refine (Targets_ex _ _ _ _ _ (by omega) (by omega)).mono ?_; rintro e w6 ⟨ts, HT, A6, c6, rfl, hc6, hs6, hb6, hA6⟩))
              have hr6 := HR5.out.below hb6
              have HB6 := Lib.hid (HB5.out.trans (hb6.mono (by have := HR5.out.bz; omega)))
              have hin := Inner.start (b := d - popsI x.1 x.2.1 x.2.2 + pushesI x.1 x.2.1 x.2.2) hr6 hs6 (fun b o h => by
                have h1 := hA6 b o h
                obtain ⟨v, q1, q2⟩ := HR5.out.bw
                refine ⟨by have := HR5.out.bz; omega, fun u hu => ?_⟩
                have hu2 := (hb6.cell (p := ⟨w.heap.size + 4, 0, none⟩) (by have := HR5.out.bz; show w.heap.size + 4 < wc.heap.size; omega)).symm.trans hu
                rw [show wc.cell? ⟨w.heap.size + 4, 0, none⟩ = some v from q1.cell 0] at hu2
                obtain rfl := Option.some.inj hu2
                intro hh
                have := (q2.lt _ hh).2
                omega)
              have HIN := Lib.hid hin
              have hlen2 : ts.length ≤ 2 := by rw [HT.out]; exact targetsI_len _ _ _ _
              have HC6 := Lib.hid hc6
              clear hs6 hA6 hc6 hr6 hb6 hin HR5 HB5 n0 n1 n2 hv'
              go_loopg [99] (ts.length) (fun k i wr => ∃ j : Nat, i = .int .i64 (j : Int) ∧ Inner wr w.heap.size v0 v1 v2 v4 (some ⟨b, o, none⟩) len cap A6 ts (d - popsI x.1 x.2.1 x.2.2 + pushesI x.1 x.2.1 x.2.2) (markS x d { s with work := l }) j k ∧ Below w.heap.size w wr)
              case atStart => exact ⟨0, rfl, HIN.out, HB6.out⟩
              case round =>
                obtain ⟨j, rfl, hI, hB⟩ := hrel
                cases gk with
                | zero =>
                  have hj : j = ts.length := hI.1
                  subst hj
                  have hlt : ¬ ((ts.length : Int) < ts.length) := by omega
                  have HI := Lib.hid hI
                  have HB7 := Lib.hid hB
                  clear hI hB
                  go_wp2_with fail
                  go_roundg (go - 1)
                  case measure => have := HK.out.1; have := HL.out; omega
                  case rel =>
                    refine VRel.next (x := x) (d := d) ?_ HV.out HC.out HW.out HX.out HD.out HK.out HBD.out HB7.out
                    unfold roundS
                    rw [if_pos HVX.out, show iT x a = ts from HT.out.symm, HC.out]
                    have := HI.out.2.1
                    rw [List.take_of_length_le (Nat.le_refl _)] at this
                    exact this
                | succ k =>
                  obtain ⟨t, g6, o6, hts, rfl, hct⟩ := hI.get
                  have hlt : (j : Int) < ts.length := by have := hI.1; omega
                  have hj6 : j < c6 := by have := hI.1; have := HC6.out; omega
                  have HI := Lib.hid hI
                  have HB7 := Lib.hid hB
                  have HTS := Lib.hid hts
                  clear hI hB hts
                  go_wp2_with (first | (go_at_call 73; refine (visit_any _ _ (by omega) (by omega) (by omega) HI.out.2.1).mono ?_; intro e w7 hvp; have HVP := Lib.hid hvp; obtain ⟨rfl, _, _, _⟩ := hvp))
                  go_roundg k
                  case measure => omega
                  case rel =>
                    refine ⟨j + 1, by go_num, HI.out.next HTS.out HVP.out, HB7.out.trans HVP.out.2.1⟩
end
end Go.Proofs.YtdmbcgkfecmakaaDoor
