/- bytecode.Format. -/
import Derived.Test.YtdmbcgkfecmakaaDoorText
import Derived.Test.YtdmbcgkfecmakaaDoorExam
import Derived.Deep.RegionHeld3
import Derived.Deep.DeepCutAuto
import Derived.Deep.CutBlock
namespace Go.Proofs.YtdmbcgkfecmakaaDoor
set_option linter.unusedVariables false
set_option linter.unusedSimpArgs false
set_option linter.unusedSectionVars false
open Go.RowKit Go.Sort
set_option maxRecDepth 100000

def headB (nm : ByteArray) (p l : Int) : ByteArray := ⟨(Lib.join ([⟨#[109, 101, 116, 104, 111, 100]⟩, nm, dec p, dec l].map (·.data.toList)) spB.data.toList).toArray⟩
def lineB (ns : List ByteArray) (i : Nat) (x : Ins) : ByteArray :=
  dec i ++ spB ++ (if iV x then (if hasText x.1.toNat then opName x.1.toNat ++ spB ++ textB ns x.1.toNat x.2.1 x.2.2 else opName x.1.toNat) else ⟨#[63]⟩)
def linesTo (ns : List ByteArray) (c : List Ins) (k : Nat) : List ByteArray := (List.range k).map fun i => lineB ns i (c.getD i (0, 0, 0))
def fmtL (nm : ByteArray) (p l : Int) (c : List Ins) (ns : List ByteArray) (k : Nat) : List ByteArray := headB nm p l :: linesTo ns c k
theorem fmtL_succ (nm : ByteArray) (p l : Int) (c : List Ins) (ns : List ByteArray) (k : Nat) (x : Ins) (hx : c[k]? = some x) : fmtL nm p l c ns (k + 1) = fmtL nm p l c ns k ++ [lineB ns k x] := by
  simp [fmtL, linesTo, List.range_succ, hx]
theorem fmtL_length (nm : ByteArray) (p l : Int) (c : List Ins) (ns : List ByteArray) (k : Nat) : (fmtL nm p l c ns k).length = k + 1 := by simp [fmtL, linesTo]

def FmtPost (w : World) (ls : List ByteArray) (e : Ending) (w' : World) : Prop :=
  ∃ g cap, e = .returned (.slice (some ⟨g, 0, none⟩) ls.length cap) ∧ ls.length ≤ cap ∧ Sl w' 1 (some ⟨g, 0, none⟩) ls.length (strs ls) ∧ Below w.heap.size w w' ∧ w.heap.size ≤ g

/-- the world of Format's first statement -/
theorem fmt_held {W0 w1 w2 : World} {N : Nat} {nm : ByteArray} {p l : Int} (hN : N < W0.heap.size)
    (h : Below W0.heap.size W0 w1 ∧ Tabs w1 ∧ w1.cell? ⟨N, 0, none⟩ = some (.string nm) ∧ w1.cell? ⟨N, 1, none⟩ = some (.int .i64 p) ∧ w1.cell? ⟨N, 2, none⟩ = some (.int .i64 l)) (hb : Below w1.heap.size w1 w2) :
    Below W0.heap.size W0 w2 ∧ Tabs w2 ∧ w2.cell? ⟨N, 0, none⟩ = some (.string nm) ∧ w2.cell? ⟨N, 1, none⟩ = some (.int .i64 p) ∧ w2.cell? ⟨N, 2, none⟩ = some (.int .i64 l) := by
  obtain ⟨h1, h2, h3, h4, h5⟩ := h
  have hz := h1.size
  exact ⟨h1.trans (hb.mono hz), h2.below hb, ((bcell hb).1 _ _ (by omega)).trans h3, ((bcell hb).1 _ _ (by omega)).trans h4, ((bcell hb).1 _ _ (by omega)).trans h5⟩

theorem own_sl {w : World} {base : Nat} {e : TypeId} {n : Nat} {v : Value} {xs : List Value} (h : w.ownsRow base e 1 v n xs) (hn : 0 < n) : ∃ g cap, v = .slice (some ⟨g, 0, none⟩) n cap ∧ n ≤ cap ∧ base ≤ g ∧ Sl w 1 (some ⟨g, 0, none⟩) n xs := by
  have hlt := h.lt
  have hcl := fun g => h.cells (g := g)
  obtain ⟨h1, h2 | ⟨g, cap, cur, rfl, h3, _, h5, _⟩⟩ := h
  · omega
  · exact ⟨g, cap, rfl, h5, h3, h1, .inr ⟨g, 0, rfl, (hlt g rfl).2, fun j x hx => by
      have := hcl g rfl j x hx
      unfold Addr.add at this
      split at this
      · next h0 => subst h0; exact this
      · exact this⟩⟩
theorem own_below {w w' : World} {base : Nat} {e : TypeId} {size n : Nat} {v : Value} {xs : List Value} (h : w.ownsRow base e size v n xs) (hb : Below w.heap.size w w') : w'.ownsRow base e size v n xs := by
  obtain ⟨h1, h2 | ⟨g, cap, cur, rfl, h3, h4, h5⟩⟩ := h
  · exact ⟨h1, .inl h2⟩
  · exact ⟨h1, .inr ⟨g, cap, cur, rfl, h3, (hb.block g (Array.getElem?_eq_some_iff.1 h4).1).trans h4, h5⟩⟩
theorem cells_strs (w : World) (t : TypeId) (l : List ByteArray) (cs : Array Value) (h : cs = (strs l).toArray) : ∀ (j : Nat) x, l[j]? = some x → (w.alloc (.cells cs t)).cell? ⟨w.heap.size, 0 + j, none⟩ = some (.string x) := by
  subst h
  intro j x hx
  simp [strs, hx]
theorem head_len {nm : ByteArray} {p l : Int} (hnm : nm.size ≤ 1000000) (p0 : -9223372036854775808 ≤ p) (p1 : p ≤ 9223372036854775807) (l0 : -9223372036854775808 ≤ l) (l1 : l ≤ 9223372036854775807) :
    (Lib.join ([⟨#[109, 101, 116, 104, 111, 100]⟩, nm, dec p, dec l].map (·.data.toList)) spB.data.toList).length ≤ 140737488355328 := by
  have h1 := dec_size p p0 p1
  have h2 := dec_size l l0 l1
  have e : ∀ b : ByteArray, b.data.toList.length = b.size := fun b => rfl
  simp only [Lib.join, List.intercalate, List.map_cons, List.map_nil, List.intersperse, List.flatten_cons, List.flatten_nil, List.length_append, List.append_nil, e]
  have e2 : spB.size = 1 := rfl
  have e1 : [(109 : UInt8), 101, 116, 104, 111, 100].length = 6 := rfl
  rw [e1, e2]
  omega
theorem Join_head {nm : ByteArray} {p l : Int} (w2 : World) (hnm : nm.size ≤ 1000000) (p0 : -9223372036854775808 ≤ p) (p1 : p ≤ 9223372036854775807) (l0 : -9223372036854775808 ≤ l) (l1 : l ≤ 9223372036854775807) :
    Calls Tryd.prog 50 #[.slice (some ⟨w2.heap.size, 0, none⟩) 4 4, .string ⟨#[32]⟩] (w2.alloc (.cells #[.string ⟨#[109, 101, 116, 104, 111, 100]⟩, .string nm, .string (dec p), .string (dec l)] 9)) fun e w' => e = .returned (.string (headB nm p l)) ∧ Below w2.heap.size w2 w' :=
  (Tryd.strings_Join w2.heap.size 0 4 [⟨#[109, 101, 116, 104, 111, 100]⟩, nm, dec p, dec l] spB _ (cells_strs w2 9 _ _ rfl) (by simp) (by simp) (by simp) (head_len hnm p0 p1 l0 l1)).mono fun e w' ⟨he, hb⟩ => ⟨he, below_box hb⟩
theorem i_str : (Tryd.prog.info? 9).map (fun i => (i.zero, i.size, i.bytes)) = some (some (.string ⟨#[]⟩), 1, 16) := by kernel_rfl

theorem i64_of_wf {z : Int} (h : (Lit.int .i64 z).wf = true) : -9223372036854775808 ≤ z ∧ z ≤ 9223372036854775807 := by
  simp only [Lit.wf, Bool.and_eq_true, decide_eq_true_eq] at h
  exact h
theorem nameB_size {ns : List ByteArray} (hsz : ∀ x ∈ ns, x.size ≤ 1000000) (a : Int) : (nameB ns a).size ≤ 1000000 := by
  unfold nameB
  split
  · rw [List.getD_eq_getElem?_getD]
    cases hx : ns[a.toNat]? with
    | none => simp [ByteArray.size]
    | some x => exact hsz x (List.mem_of_getElem? hx)
  · simp [ByteArray.size]
theorem operB_size (n : Nat) : (operB n).size ≤ 2 := by
  by_cases h : n < 11
  · have hall : ((List.range 11).all fun i => decide ((operB i).size ≤ 2)) = true := by decide +kernel
    simpa using List.all_eq_true.1 hall n (by simpa using h)
  · have : operTexts[n]? = none := List.getElem?_eq_none (by simp [operTexts]; omega)
    simp [operB, this, ByteArray.size]
theorem opName_size (n : Nat) : (opName n).size ≤ 10 := by
  by_cases h : n < 26
  · have hall : ((List.range 26).all fun i => decide ((opName i).size ≤ 10)) = true := by decide +kernel
    simpa using List.all_eq_true.1 hall n (by simpa using h)
  · have : opRows[n]? = none := List.getElem?_eq_none (by simp [opRows]; omega)
    simp [opName, opRow, this, ByteArray.size]
theorem textB_size {ns : List ByteArray} (hsz : ∀ x ∈ ns, x.size ≤ 1000000) (n : Nat) {a b : Int} (a0 : -9223372036854775808 ≤ a) (a1 : a ≤ 9223372036854775807) (b0 : -9223372036854775808 ≤ b) (b1 : b ≤ 9223372036854775807) : (textB ns n a b).size ≤ 2000000 := by
  have h1 := dec_size a a0 a1
  have h2 := dec_size b b0 b1
  have h3 := nameB_size hsz a
  have h4 := operB_size a.toNat
  have h5 : spB.size = 1 := rfl
  unfold textB
  split
  · simp only [ByteArray.size_append, h5]; omega
  · split
    · omega
    · split
      · omega
      · split
        · simp only [ByteArray.size_append, h5]; omega
        · omega
theorem Valid_yes' {n a b : Int} (h : validB n a b = true) (w : World) :
    Calls Tryd.prog 23 #[.agg #[.int .i64 n, .int .i64 a, .int .i64 b]] w fun e w' => e = .returned (.bool true) ∧ Below w.heap.size w w' := by
  have := Valid_any n a b w
  rwa [h] at this
theorem Valid_no {n a b : Int} (h : validB n a b = false) (w : World) :
    Calls Tryd.prog 23 #[.agg #[.int .i64 n, .int .i64 a, .int .i64 b]] w fun e w' => e = .returned (.bool false) ∧ Below w.heap.size w w' := by
  have := Valid_any n a b w
  rwa [h] at this
theorem eql_nil (w : World) : (binOp .eql 79 .nilFunc .nilFunc).run Tryd.prog w = .ok (.bool true) w := by kernel_rfl
theorem eql_func (K : Nat) (w : World) : (binOp .eql 79 (.func (.func K) #[] #[]) .nilFunc).run Tryd.prog w = .ok (.bool false) w := by kernel_rfl
theorem opers_below (w : World) : Calls Tryd.prog 48 #[] w fun e w' => e = .returned (.agg opCells) ∧ Below w.heap.size w w' :=
  (operations_any w).mono fun e w' ⟨he, o, hw⟩ => ⟨he, hw ▸ (Below.refl _ _).alloc (Nat.le_refl _) _⟩

section
variable {w : World} {nm : ByteArray} {p l : Int} {A B : Option Addr} {len cap m d : Nat}
set_option maxHeartbeats 4000000 in
theorem Format_any (c : List Ins) (ns : List ByteArray) (hc : c.length = len) (hl : len ≤ 10000) (hcap : len ≤ cap) (hw : ∀ x ∈ c, (Lit.int .i64 x.1).wf = true ∧ (Lit.int .i64 x.2.1).wf = true ∧ (Lit.int .i64 x.2.2).wf = true) (hcode : Sl w 3 A len (codeCells c))
    (hm : ns.length = m) (hd : m ≤ d) (hs : Sl w 1 B m (strs ns)) (hsz : ∀ x ∈ ns, x.size ≤ 1000000) (hnm : nm.size ≤ 1000000) (p0 : -9223372036854775808 ≤ p) (p1 : p ≤ 9223372036854775807) (l0 : -9223372036854775808 ≤ l) (l1 : l ≤ 9223372036854775807) (ht : Tabs w) :
    Calls Tryd.prog 32 #[.agg #[.string nm, .int .i64 p, .int .i64 l, .slice A len cap, .slice B m d]] w (FmtPost w (fmtL nm p l c ns len)) := by
  have hb0 : Below w.heap.size w (w.alloc (.cells #[.string nm, .int .i64 p, .int .i64 l, .slice A len cap, .slice B m d] 25)) := (Below.refl _ _).alloc (Nat.le_refl _) _
  have hS0 : Below (w.alloc (.cells #[.string nm, .int .i64 p, .int .i64 l, .slice A len cap, .slice B m d] 25)).heap.size (w.alloc (.cells #[.string nm, .int .i64 p, .int .i64 l, .slice A len cap, .slice B m d] 25)) (w.alloc (.cells #[.string nm, .int .i64 p, .int .i64 l, .slice A len cap, .slice B m d] 25)) ∧ Tabs (w.alloc (.cells #[.string nm, .int .i64 p, .int .i64 l, .slice A len cap, .slice B m d] 25)) ∧ (w.alloc (.cells #[.string nm, .int .i64 p, .int .i64 l, .slice A len cap, .slice B m d] 25)).cell? ⟨w.heap.size, 0, none⟩ = some (.string nm) ∧ (w.alloc (.cells #[.string nm, .int .i64 p, .int .i64 l, .slice A len cap, .slice B m d] 25)).cell? ⟨w.heap.size, 1, none⟩ = some (.int .i64 p) ∧ (w.alloc (.cells #[.string nm, .int .i64 p, .int .i64 l, .slice A len cap, .slice B m d] 25)).cell? ⟨w.heap.size, 2, none⟩ = some (.int .i64 l) :=
    ⟨Below.refl _ _, ht.below hb0, by simp, by simp, by simp⟩
  have HS0 := Lib.hid hS0
  have HB0 := Lib.hid hb0
  have HCODE := Lib.hid (hcode.below hb0)
  have HNS := Lib.hid (hs.below hb0)
  have HBK := Lib.hid (Bk.new w 25 #[.string nm, .int .i64 p, .int .i64 l, .slice A len cap, .slice B m d])
  have HT := Lib.hid ht
  have hNlt : w.heap.size < (w.alloc (.cells #[.string nm, .int .i64 p, .int .i64 l, .slice A len cap, .slice B m d] 25)).heap.size := by simp
  have HC := Lib.hid hc
  have HM := Lib.hid hm
  clear hb0 hS0 hcode hs ht hc hm
  go_enter Tryd.func32, Tryd.ntmps32
  go_upto_region 1 with fail
  obtain ⟨W, hW⟩ : ∃ W, W = w.alloc (.cells #[.string nm, .int .i64 p, .int .i64 l, .slice A len cap, .slice B m d] 25) := ⟨_, rfl⟩
  rw [← hW] at HS0 HB0 HCODE HNS HBK hNlt ⊢
  clear hW
  obtain ⟨s1, s2, s3, s4, s5⟩ := HS0.out
  go_cut [3] from 7 to 17 (fun s3 wx => ∃ g : Nat, s3 = .slice (some ⟨g, 0, none⟩) 1 1 ∧ W.heap.size ≤ g ∧ Bk wx g 9 #[.string (headB nm p l)] ∧ Below W.heap.size W wx)
  case first =>
    have sd := s2.below s1.drew
    clear HS0 s1
    go_region_with (first
      | (go_at_call_of 51 (Value.int .i64 p); refine (Itoa_any p p0 p1 _ sd).mono ?_; rintro e w1 ⟨rfl, hb1⟩; have ht1 : Tabs w1 := sd.below hb1; have c0 := ((bcell hb1).1 _ 0 hNlt).trans s3; have c2 := ((bcell hb1).1 _ 2 hNlt).trans s5; have z1 : W.heap.size ≤ w1.heap.size := hb1.size)
      | (go_at_call_of 51 (Value.int .i64 l); refine (Itoa_any l l0 l1 _ ht1).mono ?_; rintro e w2 ⟨rfl, hb2⟩; have c0' := ((bcell hb2).1 _ 0 (Nat.lt_of_lt_of_le hNlt z1)).trans c0; have z2 : W.heap.size ≤ w2.heap.size := Nat.le_trans z1 hb2.size)
      | (go_at_call 50; refine (Join_head w2 hnm p0 p1 l0 l1).mono ?_; rintro e w3 ⟨rfl, hb3⟩; have z3 : W.heap.size ≤ w3.heap.size := Nat.le_trans z2 hb3.size))
    all_goals
      go_wp2_with fail
      go_meet
      refine ⟨w3.heap.size, rfl, z3, Bk.new _ _ _, (((Below.refl _ _).drew.trans (hb1.trans (hb2.mono z1))).trans (hb3.mono z2)).alloc z3 _⟩
  case rest =>
    obtain ⟨g, rfl, hg, hbk, hbel⟩ := hcut
    have hown : wc.ownsRow W.heap.size 9 1 (.slice (some ⟨g, 0, none⟩) 1 1) 1 (strs (fmtL nm p l c ns 0)) :=
      ⟨rfl, .inr ⟨g, 1, _, rfl, hg, hbk, Nat.le_refl _, by unfold maxLen; omega, rfl, rfl⟩⟩
    have hbkw : Bk wc w.heap.size 25 #[.string nm, .int .i64 p, .int .i64 l, .slice A len cap, .slice B m d] := HBK.out.below hbel hNlt
    have b3 : wc.cell? ⟨w.heap.size, 3, none⟩ = some (.slice A len cap) := hbkw.cell 3
    have HOWN := Lib.hid hown
    have HBEL := Lib.hid hbel
    clear hown hbel hbk
    clear hbkw
    obtain ⟨i9, hi9, hi0, hi1, hi2⟩ := info_parts i_str
    have HI := Lib.hid (And.intro hi9 (And.intro hi0 (And.intro hi1 hi2)))
    clear hi9 hi0 hi1 hi2 s2 s3 s4 s5 HS0
    have sW : Tabs W := HT.out.below HB0.out
    have HTW := Lib.hid sW
    clear sW
    go_wp2_with fail
    go_loopg [3, 21] (len) (fun q v i wr => ∃ k, i = .int .i64 (k : Nat) ∧ k + q = len ∧ wr.ownsRow W.heap.size 9 1 v (k + 1) (strs (fmtL nm p l c ns k)) ∧ Below W.heap.size W wr)
    case atStart => exact ⟨0, rfl, by omega, HOWN.out, HBEL.out⟩
    case round =>
      obtain ⟨k, rfl, hkq, hown, hB⟩ := hrel
      cases gk with
      | zero =>
        obtain rfl : k = len := hkq
        have HO := Lib.hid hown
        have HB := Lib.hid hB
        clear hown hB
        go_wp2_with fail
        go_ret
        obtain ⟨g', cp, hv, h1, h2, h3⟩ := own_sl HO.out (by omega)
        subst hv
        have hln := fmtL_length nm p l c ns k
        refine ⟨g', cp, by rw [hln]; rfl, by rw [hln]; exact h1, by rw [hln]; exact h3, HB0.out.trans (HB.out.mono (Nat.le_of_lt hNlt)), by omega⟩
      | succ q =>
        have hkl : k < len := by omega
        obtain ⟨⟨xo, xa, xb⟩, hx⟩ : ∃ x, c[k]? = some x := ⟨_, List.getElem?_eq_getElem (by rw [HC.out]; exact hkl)⟩
        obtain ⟨hx0, hx1, hx2⟩ := codeCells_get c k (xo, xa, xb) hx
        obtain ⟨cb, co, rfl, hbl, hcc⟩ := HCODE.out.get hkl
        have x0 : wr.cell? ⟨cb, co + k * 3, none⟩ = some (.int .i64 xo) := (hB.cell (p := ⟨cb, co + k * 3, none⟩) hbl).trans (hcc _ _ hx0)
        have x1 : wr.cell? ⟨cb, co + k * 3 + 1, none⟩ = some (.int .i64 xa) := (hB.cell (p := ⟨cb, co + k * 3 + 1, none⟩) hbl).trans (hcc _ _ hx1)
        have x2 : wr.cell? ⟨cb, co + k * 3 + 2, none⟩ = some (.int .i64 xb) := (hB.cell (p := ⟨cb, co + k * 3 + 2, none⟩) hbl).trans (hcc _ _ hx2)
        have hzW := hB.size
        have hTr : Tabs (wr.alloc (.cells #[.int .i64 xo, .int .i64 xa, .int .i64 xb] 39)) := (HTW.out.below hB).below ((Below.refl _ _).alloc (Nat.le_refl _) _)
        have HTR := Lib.hid hTr
        have HB := Lib.hid hB
        have HO := Lib.hid hown
        have HX := Lib.hid hx
        have hkc : k < cap := by omega
        have hds := dec_size (k : Int) (by omega) (by omega)
        have hds1 : ¬ 9223372036854775807 < (dec k).size + 1 := by omega
        obtain ⟨hwo, hwa, hwb⟩ := hw _ (List.mem_of_getElem? hx)
        have ba := i64_of_wf hwa
        have bb := i64_of_wf hwb
        have hts := textB_size hsz xo.toNat ba.1 ba.2 bb.1 bb.2
        have hos := opName_size xo.toNat
        have hbm := HBK.out.below hB hNlt
        have hzN : w.heap.size < wr.heap.size := by omega
        clear hB hown hx hx0 hx1 hx2 hcc hbl hTr hwo hwa hwb
        go_upto_block 2 with (first | (go_at_call 51; refine (Itoa_any (k : Int) (by omega) (by omega) _ HTR.out).mono ?_; rintro e w1 ⟨rfl, hb1⟩))
        have hnw : wr.heap.size < (wr.alloc (.cells #[.int .i64 xo, .int .i64 xa, .int .i64 xb] 39)).heap.size := by simp
        have hi1 : Bk w1 wr.heap.size 39 #[.int .i64 xo, .int .i64 xa, .int .i64 xb] := (Bk.new _ _ _).below hb1 hnw
        have hm1 := (hbm.alloc (.cells #[.int .i64 xo, .int .i64 xa, .int .i64 xb] 39)).below hb1 (by omega)
        have ht1 := HTR.out.below hb1
        have hz1 : wr.heap.size < w1.heap.size := Nat.lt_of_lt_of_le hnw hb1.size
        have HB1 := Lib.hid ((HB.out.alloc hzW (.cells #[.int .i64 xo, .int .i64 xa, .int .i64 xb] 39)).trans (hb1.mono (by simp; omega)))
        have HNS1 := Lib.hid (HNS.out.below HB1.out)
        have HO1 := Lib.hid (HO.out.alloc (.cells #[.int .i64 xo, .int .i64 xa, .int .i64 xb] 39))
        have HBB1 := Lib.hid hb1
        clear hb1 x0 x1 x2 hbm hnw HTR
        go_cut [6] from 29 to 61 (fun s6 wx => s6 = .string (lineB ns k (xo, xa, xb)) ∧ Below w1.heap.size w1 wx)
        case first =>
          have i0 := hi1.cell 0
          have i1 := hi1.cell 1
          have i2 := hi1.cell 2
          simp only [List.getElem?_toArray, List.getElem?_cons_zero, List.getElem?_cons_succ] at i0 i1 i2
          cases hv : validB xo xa xb with
          | false =>
            have hln : lineB ns k (xo, xa, xb) = dec k ++ ⟨#[32]⟩ ++ ⟨#[63]⟩ := by simp [lineB, iV, hv, spB]
            have HLN := Lib.hid hln
            have HV := Lib.hid hv
            have hd2 : ¬ 9223372036854775807 < (dec k).size + 1 + 1 := by omega
            clear hln hv hds
            go_wp2_with fail
            refine (Valid_no HV.out _).mono ?_
            rintro e w2 ⟨rfl, hb2⟩
            go_wp2
            go_meet
            exact ⟨by rw [HLN.out], hb2⟩
          | true =>
            obtain ⟨kk, rfl, hkk, _⟩ := validB_some hv
            simp only [Int.toNat_natCast] at hts hos
            have HV := Lib.hid hv
            cases hT : hasText kk with
            | false =>
              have hln : lineB ns k (kk, xa, xb) = dec k ++ ⟨#[32]⟩ ++ opName kk := by simp [lineB, iV, hv, spB, hT]
              have HLN := Lib.hid hln
              have hix := fun w => index_op kk hkk w
              simp only [text_none kk hkk hT] at hix
              have hfx := field_op7
              have hen := eql_nil
              have hd2 : ¬ 9223372036854775807 < (dec k).size + 1 + (opName kk).size := by omega
              clear hln hv hds hT
              go_wp2_with fail
              refine (Valid_yes' HV.out _).mono ?_
              rintro e w2 ⟨rfl, hb2⟩
              have hi2 := hi1.below hb2 hz1
              have j0 := cell_regrown (hi2.cell 0)
              have cO := fun dd os => Calls.regrown_of (w := w2) (opers_below (grow (redrawn w2 dd) os))
              have HB2 := Lib.hid hb2
              clear hb2 i0 i1 i2
              go_wp2_with fail
              refine wp_region_quiet_below (by kernel_rfl) (by kernel_rfl) ?_
              repeat (quiet_step (first | exact cO _ _))
              refine wpQuiet_nil ?_
              intro w3 hw'
              have hb3 : Below w2.heap.size w2 w3 := by obtain ⟨pp, rfl⟩ := hw'; exact below_regrown _ _ _
              have i0 := (hi2.below hb3 (Nat.lt_of_lt_of_le hz1 HB2.out.size)).cell 0
              simp only [List.getElem?_toArray, List.getElem?_cons_zero, List.getElem?_cons_succ] at i0
              have HB3 := Lib.hid (HB2.out.trans (hb3.mono HB2.out.size))
              clear hw' hb3 cO j0 hix
              go_wp2_with fail
              refine (Name_in kk hkk _).mono ?_
              rintro e w4 ⟨rfl, hb4⟩
              go_wp2
              go_meet
              exact ⟨by rw [HLN.out], HB3.out.trans (hb4.mono HB3.out.size)⟩
            | true =>
              have hln : lineB ns k (kk, xa, xb) = dec k ++ ⟨#[32]⟩ ++ (opName kk ++ ⟨#[32]⟩ ++ textB ns kk xa xb) := by simp [lineB, iV, hv, spB, hT]
              have HLN := Lib.hid hln
              obtain ⟨K, hK, eK, cK⟩ := text_some (v0 := .string nm) (v1 := .int .i64 p) (v2 := .int .i64 l) (v3 := .slice (some ⟨cb, co, none⟩) len cap) (B := B) (d := d) kk hkk hT ba.1 ba.2 bb.1 bb.2 hv HM.out hd hsz
              have hix := fun w => index_op kk hkk w
              simp only [hK] at hix
              have hfx := field_op7
              have hen := eql_func K
              have hd2 : ¬ 9223372036854775807 < (opName kk).size + 1 := by omega
              have hd3 : ¬ 9223372036854775807 < (opName kk).size + 1 + (textB ns kk xa xb).size := by omega
              have hd4 : ¬ 9223372036854775807 < (dec k).size + 1 + ((opName kk).size + 1 + (textB ns kk xa xb).size) := by omega
              clear hln hv hds hT hK
              go_wp2_with fail
              refine (Valid_yes' HV.out _).mono ?_
              rintro e w2 ⟨rfl, hb2⟩
              have hi2 := hi1.below hb2 hz1
              have j0 := cell_regrown (hi2.cell 0)
              have cO := fun dd os => Calls.regrown_of (w := w2) (opers_below (grow (redrawn w2 dd) os))
              have HB2 := Lib.hid hb2
              clear hb2 i0 i1 i2
              go_wp2_with fail
              refine wp_region_quiet_below (by kernel_rfl) (by kernel_rfl) ?_
              repeat (quiet_step (first | exact cO _ _))
              refine wpQuiet_nil ?_
              intro w3 hw'
              have hb3 : Below w2.heap.size w2 w3 := by obtain ⟨pp, rfl⟩ := hw'; exact below_regrown _ _ _
              have hz2 := Nat.lt_of_lt_of_le hz1 HB2.out.size
              have HB3 := Lib.hid (HB2.out.trans (hb3.mono HB2.out.size))
              have hi3 := hi2.below hb3 hz2
              have hm3 := hm1.below HB3.out (by omega)
              have ht3 := ht1.below HB3.out
              have hs3 := HNS1.out.below HB3.out
              clear hw' hb3 cO j0
              have j0 := cell_regrown (hi3.cell 0)
              have j1 := cell_regrown (hi3.cell 1)
              have j2 := cell_regrown (hi3.cell 2)
              have k0 := cell_regrown (hm3.cell 0)
              have k1 := cell_regrown (hm3.cell 1)
              have k2 := cell_regrown (hm3.cell 2)
              have k3 := cell_regrown (hm3.cell 3)
              have k4 := cell_regrown (hm3.cell 4)
              have cO := fun dd os => Calls.regrown_of (w := w3) (opers_below (grow (redrawn w3 dd) os))
              have cN := fun dd os => Calls.regrown_of (w := w3) (Name_in kk hkk (grow (redrawn w3 dd) os))
              have cT := fun dd os => Calls.regrown_of (w := w3) (cK (grow (redrawn w3 dd) os) (ht3.below (below_regrown _ _ _)) (hs3.below (below_regrown _ _ _)))
              clear cK ht3 hs3 hm3 hi3 hi2
              go_wp2_with fail
              refine wp_region_quiet_below (by kernel_rfl) (by kernel_rfl) ?_
              repeat (quiet_step (first | exact cO _ _ | exact cN _ _ | exact cT _ _))
              refine wpQuiet_nil ?_
              intro w4 hw'
              have hb4 : Below w3.heap.size w3 w4 := by obtain ⟨pp, rfl⟩ := hw'; exact below_regrown _ _ _
              have HB4 := Lib.hid (HB3.out.trans (hb4.mono HB3.out.size))
              clear hw' hb4 cO cN cT j0 j1 j2 k0 k1 k2 k3 k4
              go_wp2
              go_meet
              exact ⟨by rw [HLN.out], HB4.out⟩
        case rest =>
          obtain ⟨rfl, hb2⟩ := hcut
          have hbx := HB1.out.trans (hb2.mono (by have := HB1.out.size; omega))
          have hszx := hbx.size
          have hown := own_below (own_below HO1.out HBB1.out) hb2
          have hsucc : strs (fmtL nm p l c ns k) ++ [Value.string (lineB ns k (xo, xa, xb))] = strs (fmtL nm p l c ns (k + 1)) := by rw [fmtL_succ nm p l c ns k _ HX.out]; simp [strs]
          have HSU := Lib.hid hsucc
          have hlt := fun kk hk => (hown.lt kk hk).1
          have HLT := Lib.hid hlt
          have HBX := Lib.hid hbx
          have HOX := Lib.hid hown
          clear hbx hown hb2 hi1 hm1 ht1 hsucc hlt
          go_wp2_with (first | (at_builtin; refine wpList_append_own _ rfl (.tmp 62) (.tmp 64) 23 rfl W.heap.size 9 i9 (.string ⟨#[]⟩) 1 16 Tryd.underlying23 HI.out.1 HI.out.2.1 HI.out.2.2.1 HI.out.2.2.2 rfl (by decide) _ _ _ rfl (HOX.out.alloc _) ⟨wc.heap.size, 0, none⟩ 1 1 [.string (lineB ns k (xo, xa, xb))] rfl rfl (cell_one_new _ _ _) (by simp [Value.oneCell']) (by unfold maxLen; omega) (by omega) (by simp; omega) ?_; intro v' w4 hown4 hg4 _; rw [HSU.out] at hown4))
          have HO4 := Lib.hid hown4
          have HG4 := Lib.hid hg4
          clear hown4 hg4
          go_wp2_with fail
          go_roundg q
          case measure => omega
          case rel => exact ⟨k + 1, by go_num, by omega, HO4.out, (HBX.out.alloc hszx _).grown HG4.out (by simp; omega) HLT.out⟩
end
end Go.Proofs.YtdmbcgkfecmakaaDoor
