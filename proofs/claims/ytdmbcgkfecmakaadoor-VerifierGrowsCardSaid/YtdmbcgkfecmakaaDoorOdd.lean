/- verifier.Check$1 (odd), slices.IndexFunc and slices.ContainsFunc at it. -/
import Derived.Test.YtdmbcgkfecmakaaDoorExist
import Derived.Test.YtdmbcgkfecmakaaDoorLarge
namespace Go.Proofs.YtdmbcgkfecmakaaDoor
set_option linter.unusedVariables false
set_option linter.unusedSimpArgs false
set_option linter.unusedSectionVars false
open Go.RowKit
set_option maxRecDepth 100000

theorem new_fit {o a b : Int} (h : validB o a b = true) (ho : o = 10 ∨ o = 11) : 1 ≤ a ∧ a ≤ 1000000 := by
  obtain ⟨k, rfl, hk, h1, h2, _⟩ := validB_some h
  rcases (show k = 10 ∨ k = 11 by omega) with rfl | rfl
  · have e1 : opLeast 10 = 1 := by decide +kernel
    have e2 : opMost 10 ≤ 1000000 := by decide +kernel
    omega
  · have e1 : opLeast 11 = 1 := by decide +kernel
    have e2 : opMost 11 ≤ 1000000 := by decide +kernel
    omega

/-- the boxes that the closure odd reads -/
structure OddEnv (w : World) (p1 p4 p6 : Nat) (cs : List Cls) (A : Option Addr) (n c : Nat) (k0 k1 : Value) (F : Option Addr) (nf fc : Nat) (k3 m0 m1 : Value) (l : Int) (m3 : Value) (B : Option Addr) (nn d : Nat) : Prop where
  code : Bk w p1 55 #[.slice A n c]
  cls : Bk w p4 61 #[k0, k1, .slice F nf fc, k3]
  mth : Bk w p6 25 #[m0, m1, .int .i64 l, m3, .slice B nn d]
  is : CodeR w cs A n c
section
variable {w : World} {p1 p4 p6 : Nat} {cs : List Cls} {A F B : Option Addr} {n c nf fc nn d : Nat} {k0 k1 k3 m0 m1 m3 : Value} {l : Int}
theorem OddEnv.below {w w' : World} (h : OddEnv w p1 p4 p6 cs A n c k0 k1 F nf fc k3 m0 m1 l m3 B nn d) (hb : Below w.heap.size w w') : OddEnv w' p1 p4 p6 cs A n c k0 k1 F nf fc k3 m0 m1 l m3 B nn d :=
  ⟨h.code.below hb h.code.lt, h.cls.below hb h.cls.lt, h.mth.below hb h.mth.lt, h.is.below hb⟩

theorem odd_any (h : OddEnv w p1 p4 p6 cs A n c k0 k1 F nf fc k3 m0 m1 l m3 B nn d) (o a b : Int) :
    Calls Tryd.prog 56 #[.agg #[.int .i64 o, .int .i64 a, .int .i64 b], .pointer (some ⟨p1, 0, none⟩), .pointer (some ⟨p4, 0, none⟩), .pointer (some ⟨p6, 0, none⟩)] w fun e w' => e = .returned (.bool (!existsB cs nf l nn (o, a, b))) ∧ Below w.heap.size w w' := by
  have hb1 : Below w.heap.size w (w.alloc (.cells #[.int .i64 o, .int .i64 a, .int .i64 b] 39)) := (Below.refl _ _).alloc (Nat.le_refl _) _
  have h' := h.below hb1
  have c10 := h'.code.cell 0
  have c40 := h'.cls.cell 0
  have c41 := h'.cls.cell 1
  have c42 := h'.cls.cell 2
  have c43 := h'.cls.cell 3
  have c60 := h'.mth.cell 0
  have c61 := h'.mth.cell 1
  have c62 := h'.mth.cell 2
  have c63 := h'.mth.cell 3
  have c64 := h'.mth.cell 4
  simp only [List.getElem?_toArray, List.getElem?_cons_zero, List.getElem?_cons_succ] at c10 c40 c41 c42 c43 c60 c61 c62 c63 c64
  have HB := Lib.hid hb1
  have HC := Lib.hid h'.is
  clear h' h hb1
  go_enter Tryd.func56, Tryd.ntmps56
  go_wp2_with fail
  refine (exists_any HC.out (fun hv ho => new_fit hv ho)).mono ?_
  rintro e w1 ⟨rfl, hb⟩
  have HB1 := Lib.hid (HB.out.trans (hb.mono HB.out.size))
  clear hb c10 c40 c41 c42 c43 c60 c61 c62 c63 c64
  go_wp2
  go_ret
  exact ⟨rfl, HB1.out⟩

def oddP (cs : List Cls) (nf : Nat) (l : Int) (nn : Nat) (code : List Ins) : Prop := ∃ x ∈ code, existsB cs nf l nn x = false
def IdxPost (P : Prop) (w : World) (e : Ending) (w' : World) : Prop := (∃ i : Int, e = .returned (.int .i64 i) ∧ (0 ≤ i ↔ P)) ∧ Below w.heap.size w w'
set_option maxHeartbeats 1000000 in
theorem index_odd (h : OddEnv w p1 p4 p6 cs A n c k0 k1 F nf fc k3 m0 m1 l m3 B nn d) {code : List Ins} {C : Option Addr} {len cap : Nat} (hl : code.length = len) (hlen : len ≤ 4000) (hcap : len ≤ cap) (hcode : Sl w 3 C len (codeCells code)) :
    Calls Tryd.prog 89 #[.slice C len cap, .func (.func 56) #[] #[.pointer (some ⟨p1, 0, none⟩), .pointer (some ⟨p4, 0, none⟩), .pointer (some ⟨p6, 0, none⟩)]] w (IdxPost (oddP cs nf l nn code) w) := by
  have HO := Lib.hid h
  have HL := Lib.hid hl
  have HS := Lib.hid hcode
  clear h hl hcode
  go_enter Tryd.func89, Tryd.ntmps89
  go_wp2_with fail
  go_loopg [8] (len) (fun q i wr => ∃ (k : Nat), i = .int .i64 k ∧ k + q = len ∧ (∀ j x, j < k → code[j]? = some x → existsB cs nf l nn x = true) ∧ Below w.heap.size w wr)
  case atStart => exact ⟨0, rfl, by omega, fun j x hj => by omega, Below.refl _ _⟩
  case round =>
    obtain ⟨k, rfl, hkq, hall, hB⟩ := hrel
    have HALL := Lib.hid hall
    have HB := Lib.hid hB
    have hsz := hB.size
    clear hall hB
    cases gk with
    | zero =>
      obtain rfl : k = len := hkq
      go_wp2_with fail
      go_ret
      refine ⟨⟨_, rfl, ⟨fun h => absurd h (by decide), ?_⟩⟩, HB.out⟩
      rintro ⟨x, hx, hf⟩
      obtain ⟨j, hj⟩ := List.mem_iff_getElem?.1 hx
      have := HALL.out j x (by have := (List.getElem?_eq_some_iff.1 hj).1; rw [HL.out] at this; exact this) hj
      rw [hf] at this
      cases this
    | succ q =>
      have hkn : k < len := by omega
      have hkc : k < cap := by omega
      obtain ⟨wo, rfl⟩ : ∃ wo : World, wo = wr := ⟨_, rfl⟩
      obtain ⟨cb, co, rfl, hcb, hcells⟩ := HS.out.get hkn
      obtain ⟨⟨o, a, b⟩, hx⟩ : ∃ x, code[k]? = some x := ⟨_, List.getElem?_eq_getElem (by rw [HL.out]; exact hkn)⟩
      have hx0 : wo.cell? ⟨cb, co + k * 3, none⟩ = some (.int .i64 o) := ((bcell HB.out).1 _ _ hcb).trans (hcells _ _ (codeCells_get code k _ hx |>.1))
      have hx1 : wo.cell? ⟨cb, co + k * 3 + 1, none⟩ = some (.int .i64 a) := ((bcell HB.out).1 _ _ hcb).trans (hcells (_ + _) _ (codeCells_get code k _ hx |>.2.1))
      have hx2 : wo.cell? ⟨cb, co + k * 3 + 2, none⟩ = some (.int .i64 b) := ((bcell HB.out).1 _ _ hcb).trans (hcells (_ + _) _ (codeCells_get code k _ hx |>.2.2))
      have HX := Lib.hid hx
      have cO := odd_any (HO.out.below HB.out) o a b
      clear hx hcells
      have hw1 : IntKind.i64.wrap (k : Int) = (k : Int) := IntWalk.i64_in _ (by omega)
      cases hf : existsB cs nf l nn (o, a, b) with
      | false =>
        rw [hf] at cO
        have HF := Lib.hid hf
        clear hf
        go_wp2_with fail
        refine cO.mono ?_
        rintro e w1 ⟨rfl, hb⟩
        have HB1 := Lib.hid (HB.out.trans (hb.mono hsz))
        clear hb cO hx0 hx1 hx2
        go_wp2_with fail
        go_ret
        exact ⟨⟨_, rfl, ⟨fun _ => ⟨_, List.mem_of_getElem? HX.out, HF.out⟩, fun _ => by omega⟩⟩, HB1.out⟩
      | true =>
        rw [hf] at cO
        have HF := Lib.hid hf
        clear hf
        go_wp2_with fail
        refine cO.mono ?_
        rintro e w1 ⟨rfl, hb⟩
        have HB1 := Lib.hid (HB.out.trans (hb.mono hsz))
        clear hb cO hx0 hx1 hx2
        go_wp2_with fail
        go_roundg q
        case measure => omega
        case rel =>
          refine ⟨k + 1, by go_num, by omega, fun j x hj hx => ?_, HB1.out⟩
          by_cases h : j < k
          · exact HALL.out j x h hx
          · obtain rfl : j = k := by omega
            have h2 := HX.out
            rw [hx] at h2
            cases h2
            exact HF.out
theorem contains_odd (h : OddEnv w p1 p4 p6 cs A n c k0 k1 F nf fc k3 m0 m1 l m3 B nn d) {code : List Ins} {C : Option Addr} {len cap : Nat} (hl : code.length = len) (hlen : len ≤ 4000) (hcap : len ≤ cap) (hcode : Sl w 3 C len (codeCells code)) :
    Calls Tryd.prog 58 #[.slice C len cap, .func (.func 56) #[] #[.pointer (some ⟨p1, 0, none⟩), .pointer (some ⟨p4, 0, none⟩), .pointer (some ⟨p6, 0, none⟩)]] w (SaysPost (oddP cs nf l nn code) w) := by
  have cI := index_odd h hl hlen hcap hcode
  clear h hl hcode hcap hlen
  go_enter Tryd.func58, Tryd.ntmps58
  go_wp2_with fail
  refine cI.mono ?_
  rintro e w1 ⟨⟨i, rfl, hi⟩, hb⟩
  have HI := Lib.hid hi
  have HB := Lib.hid hb
  clear hi hb cI
  go_wp2
  go_ret
  exact ⟨⟨_, rfl, decide_eq_true_iff.trans HI.out⟩, HB.out⟩
end
end Go.Proofs.YtdmbcgkfecmakaaDoor
