/- Package space: size. (printed by gen/size.py) -/
import Derived.Test.YtaecdpijpdfboaaGreatNew
namespace Go.Proofs.YtaecdpijpdfboaaGreat
set_option linter.unusedVariables false
set_option linter.unusedSimpArgs false
set_option linter.unusedSectionVars false
open Go.RowKit Go.Sort
set_option maxRecDepth 100000

theorem Words_zero (w : World) : Calls Tryz.prog 69 #[.agg #[.int .i64 0, .int .i64 0, .int .i64 0]] w fun e w' => e = .returned (.int .i64 0) ∧ Below w.heap.size w w' := Words_any Hdr.zero w
section
variable {w : World} {B g : Nat} {s : Spc} {V : Value}
set_option maxHeartbeats 1000000 in
theorem size_short (h : SpR w B g s V) (i : Nat) (hi : s.ws.length < i + 2) (hib : i ≤ s.ws.length) : Calls Tryz.prog 112 #[.pointer (some ⟨g, 0, none⟩), .int .i64 (i : Int)] w fun e w' => e = .returned (.int .i64 0) ∧ Below w.heap.size w w' := by
  obtain ⟨A, c, rfl, hle⟩ := own_shape h.own
  have b0 := h.b0
  have b1 := h.lim
  have b2 := h.l0
  have c2 : w.cell? ⟨g, 2, none⟩ = some (.slice A s.ws.length c) := h.hd.cell 2
  have H := Lib.hid h
  clear h
  go_enter Tryz.func112, Tryz.ntmps112
  go_wp2_with fail
  go_ret
  exact ⟨rfl, Below.refl _ _⟩
set_option maxHeartbeats 1000000 in
theorem size_nd (h : SpR w B g s V) (i : Nat) (hi : i + 2 ≤ s.ws.length) {x v : Int} (hx : s.ws[i]? = some x) (hv : s.ws[i + 1]? = some v) (hd : dH x = none) : Calls Tryz.prog 112 #[.pointer (some ⟨g, 0, none⟩), .int .i64 (i : Int)] w fun e w' => e = .returned (.int .i64 0) ∧ Below w.heap.size w w' := by
  have hux := h.u x (List.mem_of_getElem? hx)
  have huv := h.u v (List.mem_of_getElem? hv)
  obtain ⟨A, c, rfl, hle⟩ := own_shape h.own
  have b0 := h.b0
  have b1 := h.lim
  have b2 := h.l0
  have c2 : w.cell? ⟨g, 2, none⟩ = some (.slice A s.ws.length c) := h.hd.cell 2
  have H := Lib.hid h
  obtain ⟨b, oo, rfl, hbl, hcells⟩ := (own_sl h.own).get (k := i) (by omega)
  have cx : w.cell? ⟨b, oo + i, none⟩ = some (.int .u64 x) := hcells i _ (wds_get hx)
  have CX := Lib.hid cx
  have CV := Lib.hid (show w.cell? ⟨b, oo + (i + 1), none⟩ = some (.int .u64 v) from hcells (i + 1) _ (wds_get hv))
  have i1 : i < c := by omega
  have i2 : i + 1 < c := by omega
  have i3 : i < s.ws.length := by omega
  have i4 : i + 1 < s.ws.length := by omega
  have j3 : (i : Int) < (s.ws.length : Int) := by omega
  have j4 : (i : Int) + 1 < (s.ws.length : Int) := by omega
  have cD := fun w => Decode_none hux hd w
  have cW := fun w => Words_zero w
  clear h hcells hx hv hux huv hd
  go_enter Tryz.func112, Tryz.ntmps112
  go_wp2_with fail
  refine (cD _).mono ?_
  rintro e w1 ⟨rfl, hb⟩
  have HB1 := Lib.hid hb
  have hsz := hb.size
  have q2 := (Bk.new w1 50 #[.int .i64 0, .int .i64 0, .int .i64 0])
  have hB2 := hb.alloc hb.size (.cells #[.int .i64 0, .int .i64 0, .int .i64 0] 50)
  clear hb
  go_upto_region 4 with fail
  obtain ⟨w2, hw2⟩ : ∃ w2, w1.alloc (.cells #[.int .i64 0, .int .i64 0, .int .i64 0] 50) = w2 := ⟨_, rfl⟩
  rw [hw2] at q2 hB2 ⊢
  have HB2 := Lib.hid hB2
  have k0 := q2.cell 0
  have k1 := q2.cell 1
  have k2 := q2.cell 2
  simp only [List.getElem?_toArray, List.getElem?_cons_zero, List.getElem?_cons_succ] at k0 k1 k2
  clear hw2 q2 hB2
  go_wp2_with fail
  refine (cW _).mono ?_
  rintro e w3 ⟨rfl, hb⟩
  have HB3 := Lib.hid (HB2.out.trans (hb.mono HB2.out.size))
  have c23 : w3.cell? ⟨g, 2, none⟩ = some (.slice (some ⟨b, oo, none⟩) s.ws.length c) := (H.out.below HB3.out).hd.cell 2
  have cv : w3.cell? ⟨b, oo + (i + 1), none⟩ = some (.int .u64 v) := ((bcell HB3.out).1 _ _ hbl).trans CV.out
  clear hb k0 k1 k2
  go_wp2_with fail
  go_ret
  exact ⟨rfl, HB3.out⟩
set_option maxHeartbeats 1000000 in
theorem size_id (h : SpR w B g s V) (i : Nat) (hi : i + 2 ≤ s.ws.length) {x v : Int} (hx : s.ws[i]? = some x) (hv : s.ws[i + 1]? = some v) {hh : Hdr} (hd : dH x = some hh) (hz : dI v = Id.zero) : Calls Tryz.prog 112 #[.pointer (some ⟨g, 0, none⟩), .int .i64 (i : Int)] w fun e w' => e = .returned (.int .i64 0) ∧ Below w.heap.size w w' := by
  have hux := h.u x (List.mem_of_getElem? hx)
  have huv := h.u v (List.mem_of_getElem? hv)
  obtain ⟨A, c, rfl, hle⟩ := own_shape h.own
  have b0 := h.b0
  have b1 := h.lim
  have b2 := h.l0
  have c2 : w.cell? ⟨g, 2, none⟩ = some (.slice A s.ws.length c) := h.hd.cell 2
  have H := Lib.hid h
  obtain ⟨b, oo, rfl, hbl, hcells⟩ := (own_sl h.own).get (k := i) (by omega)
  have cx : w.cell? ⟨b, oo + i, none⟩ = some (.int .u64 x) := hcells i _ (wds_get hx)
  have CX := Lib.hid cx
  have CV := Lib.hid (show w.cell? ⟨b, oo + (i + 1), none⟩ = some (.int .u64 v) from hcells (i + 1) _ (wds_get hv))
  have i1 : i < c := by omega
  have i2 : i + 1 < c := by omega
  have i3 : i < s.ws.length := by omega
  have i4 : i + 1 < s.ws.length := by omega
  have j3 : (i : Int) < (s.ws.length : Int) := by omega
  have j4 : (i : Int) + 1 < (s.ws.length : Int) := by omega
  have cD := fun w => Decode_some hux hd w
  have cW := fun w => Words_of hh w
  have hwb := wH_bound hh
  have cI := fun w => DecodeID_zero huv hz w
  clear h hcells hx hv hux huv hd hz
  go_enter Tryz.func112, Tryz.ntmps112
  go_wp2_with fail
  refine (cD _).mono ?_
  rintro e w1 ⟨rfl, hb⟩
  have HB1 := Lib.hid hb
  have hsz := hb.size
  have q2 := (Bk.new w1 50 #[.int .i64 hh.k, .int .i64 hh.c, .int .i64 hh.f])
  have hB2 := hb.alloc hb.size (.cells #[.int .i64 hh.k, .int .i64 hh.c, .int .i64 hh.f] 50)
  clear hb
  go_upto_region 4 with fail
  obtain ⟨w2, hw2⟩ : ∃ w2, w1.alloc (.cells #[.int .i64 hh.k, .int .i64 hh.c, .int .i64 hh.f] 50) = w2 := ⟨_, rfl⟩
  rw [hw2] at q2 hB2 ⊢
  have HB2 := Lib.hid hB2
  have k0 := q2.cell 0
  have k1 := q2.cell 1
  have k2 := q2.cell 2
  simp only [List.getElem?_toArray, List.getElem?_cons_zero, List.getElem?_cons_succ] at k0 k1 k2
  clear hw2 q2 hB2
  go_wp2_with fail
  refine (cW _).mono ?_
  rintro e w3 ⟨rfl, hb⟩
  have HB3 := Lib.hid (HB2.out.trans (hb.mono HB2.out.size))
  have c23 : w3.cell? ⟨g, 2, none⟩ = some (.slice (some ⟨b, oo, none⟩) s.ws.length c) := (H.out.below HB3.out).hd.cell 2
  have cv : w3.cell? ⟨b, oo + (i + 1), none⟩ = some (.int .u64 v) := ((bcell HB3.out).1 _ _ hbl).trans CV.out
  clear hb k0 k1 k2
  go_wp2_with fail
  refine (cI _).mono ?_
  rintro e w4 ⟨rfl, hb⟩
  have HB4 := Lib.hid (HB3.out.trans (hb.mono HB3.out.size))
  have c24 : w4.cell? ⟨g, 2, none⟩ = some (.slice (some ⟨b, oo, none⟩) s.ws.length c) := (H.out.below HB4.out).hd.cell 2
  clear hb
  go_wp2_with fail
  go_ret
  exact ⟨rfl, HB4.out⟩
set_option maxHeartbeats 1000000 in
theorem size_far (h : SpR w B g s V) (i : Nat) (hi : i + 2 ≤ s.ws.length) {x v : Int} (hx : s.ws[i]? = some x) (hv : s.ws[i + 1]? = some v) {hh : Hdr} (hd : dH x = some hh) (hz : dI v ≠ Id.zero) (hn : s.ws.length < i + wH hh) : Calls Tryz.prog 112 #[.pointer (some ⟨g, 0, none⟩), .int .i64 (i : Int)] w fun e w' => e = .returned (.int .i64 0) ∧ Below w.heap.size w w' := by
  have hux := h.u x (List.mem_of_getElem? hx)
  have huv := h.u v (List.mem_of_getElem? hv)
  obtain ⟨A, c, rfl, hle⟩ := own_shape h.own
  have b0 := h.b0
  have b1 := h.lim
  have b2 := h.l0
  have c2 : w.cell? ⟨g, 2, none⟩ = some (.slice A s.ws.length c) := h.hd.cell 2
  have H := Lib.hid h
  obtain ⟨b, oo, rfl, hbl, hcells⟩ := (own_sl h.own).get (k := i) (by omega)
  have cx : w.cell? ⟨b, oo + i, none⟩ = some (.int .u64 x) := hcells i _ (wds_get hx)
  have CX := Lib.hid cx
  have CV := Lib.hid (show w.cell? ⟨b, oo + (i + 1), none⟩ = some (.int .u64 v) from hcells (i + 1) _ (wds_get hv))
  have i1 : i < c := by omega
  have i2 : i + 1 < c := by omega
  have i3 : i < s.ws.length := by omega
  have i4 : i + 1 < s.ws.length := by omega
  have j3 : (i : Int) < (s.ws.length : Int) := by omega
  have j4 : (i : Int) + 1 < (s.ws.length : Int) := by omega
  have cD := fun w => Decode_some hux hd w
  have cW := fun w => Words_of hh w
  have hwb := wH_bound hh
  obtain ⟨pq, qq, hp, cI⟩ : ∃ p q : Int, Hid ((p == 0) = false) ∧ ∀ w, Calls Tryz.prog 106 #[.int .u64 v] w fun e w' => e = .returned (.agg #[.int .i64 p, .int .i64 q]) ∧ Below w.heap.size w w' :=
    ⟨(dI v).m, (dI v).s, Lib.hid (by have h1 := (vI_iff _).1 (dI_ne hz); simp; omega), fun w => DecodeID_any huv w⟩
  have hpo := hp.out
  clear h hcells hx hv hux huv hd hz
  go_enter Tryz.func112, Tryz.ntmps112
  go_wp2_with fail
  refine (cD _).mono ?_
  rintro e w1 ⟨rfl, hb⟩
  have HB1 := Lib.hid hb
  have hsz := hb.size
  have q2 := (Bk.new w1 50 #[.int .i64 hh.k, .int .i64 hh.c, .int .i64 hh.f])
  have hB2 := hb.alloc hb.size (.cells #[.int .i64 hh.k, .int .i64 hh.c, .int .i64 hh.f] 50)
  clear hb
  go_upto_region 4 with fail
  obtain ⟨w2, hw2⟩ : ∃ w2, w1.alloc (.cells #[.int .i64 hh.k, .int .i64 hh.c, .int .i64 hh.f] 50) = w2 := ⟨_, rfl⟩
  rw [hw2] at q2 hB2 ⊢
  have HB2 := Lib.hid hB2
  have k0 := q2.cell 0
  have k1 := q2.cell 1
  have k2 := q2.cell 2
  simp only [List.getElem?_toArray, List.getElem?_cons_zero, List.getElem?_cons_succ] at k0 k1 k2
  clear hw2 q2 hB2
  go_wp2_with fail
  refine (cW _).mono ?_
  rintro e w3 ⟨rfl, hb⟩
  have HB3 := Lib.hid (HB2.out.trans (hb.mono HB2.out.size))
  have c23 : w3.cell? ⟨g, 2, none⟩ = some (.slice (some ⟨b, oo, none⟩) s.ws.length c) := (H.out.below HB3.out).hd.cell 2
  have cv : w3.cell? ⟨b, oo + (i + 1), none⟩ = some (.int .u64 v) := ((bcell HB3.out).1 _ _ hbl).trans CV.out
  clear hb k0 k1 k2
  go_wp2_with fail
  refine (cI _).mono ?_
  rintro e w4 ⟨rfl, hb⟩
  have HB4 := Lib.hid (HB3.out.trans (hb.mono HB3.out.size))
  have c24 : w4.cell? ⟨g, 2, none⟩ = some (.slice (some ⟨b, oo, none⟩) s.ws.length c) := (H.out.below HB4.out).hd.cell 2
  clear hb
  go_wp2_with fail
  go_ret
  exact ⟨rfl, HB4.out⟩
set_option maxHeartbeats 1000000 in
theorem size_ok (h : SpR w B g s V) (i : Nat) (hi : i + 2 ≤ s.ws.length) {x v : Int} (hx : s.ws[i]? = some x) (hv : s.ws[i + 1]? = some v) {hh : Hdr} (hd : dH x = some hh) (hz : dI v ≠ Id.zero) (hn : i + wH hh ≤ s.ws.length) : Calls Tryz.prog 112 #[.pointer (some ⟨g, 0, none⟩), .int .i64 (i : Int)] w fun e w' => e = .returned (.int .i64 (wH hh)) ∧ Below w.heap.size w w' := by
  have hux := h.u x (List.mem_of_getElem? hx)
  have huv := h.u v (List.mem_of_getElem? hv)
  obtain ⟨A, c, rfl, hle⟩ := own_shape h.own
  have b0 := h.b0
  have b1 := h.lim
  have b2 := h.l0
  have c2 : w.cell? ⟨g, 2, none⟩ = some (.slice A s.ws.length c) := h.hd.cell 2
  have H := Lib.hid h
  obtain ⟨b, oo, rfl, hbl, hcells⟩ := (own_sl h.own).get (k := i) (by omega)
  have cx : w.cell? ⟨b, oo + i, none⟩ = some (.int .u64 x) := hcells i _ (wds_get hx)
  have CX := Lib.hid cx
  have CV := Lib.hid (show w.cell? ⟨b, oo + (i + 1), none⟩ = some (.int .u64 v) from hcells (i + 1) _ (wds_get hv))
  have i1 : i < c := by omega
  have i2 : i + 1 < c := by omega
  have i3 : i < s.ws.length := by omega
  have i4 : i + 1 < s.ws.length := by omega
  have j3 : (i : Int) < (s.ws.length : Int) := by omega
  have j4 : (i : Int) + 1 < (s.ws.length : Int) := by omega
  have cD := fun w => Decode_some hux hd w
  have cW := fun w => Words_of hh w
  have hwb := wH_bound hh
  obtain ⟨pq, qq, hp, cI⟩ : ∃ p q : Int, Hid ((p == 0) = false) ∧ ∀ w, Calls Tryz.prog 106 #[.int .u64 v] w fun e w' => e = .returned (.agg #[.int .i64 p, .int .i64 q]) ∧ Below w.heap.size w w' :=
    ⟨(dI v).m, (dI v).s, Lib.hid (by have h1 := (vI_iff _).1 (dI_ne hz); simp; omega), fun w => DecodeID_any huv w⟩
  have hpo := hp.out
  clear h hcells hx hv hux huv hd hz
  go_enter Tryz.func112, Tryz.ntmps112
  go_wp2_with fail
  refine (cD _).mono ?_
  rintro e w1 ⟨rfl, hb⟩
  have HB1 := Lib.hid hb
  have hsz := hb.size
  have q2 := (Bk.new w1 50 #[.int .i64 hh.k, .int .i64 hh.c, .int .i64 hh.f])
  have hB2 := hb.alloc hb.size (.cells #[.int .i64 hh.k, .int .i64 hh.c, .int .i64 hh.f] 50)
  clear hb
  go_upto_region 4 with fail
  obtain ⟨w2, hw2⟩ : ∃ w2, w1.alloc (.cells #[.int .i64 hh.k, .int .i64 hh.c, .int .i64 hh.f] 50) = w2 := ⟨_, rfl⟩
  rw [hw2] at q2 hB2 ⊢
  have HB2 := Lib.hid hB2
  have k0 := q2.cell 0
  have k1 := q2.cell 1
  have k2 := q2.cell 2
  simp only [List.getElem?_toArray, List.getElem?_cons_zero, List.getElem?_cons_succ] at k0 k1 k2
  clear hw2 q2 hB2
  go_wp2_with fail
  refine (cW _).mono ?_
  rintro e w3 ⟨rfl, hb⟩
  have HB3 := Lib.hid (HB2.out.trans (hb.mono HB2.out.size))
  have c23 : w3.cell? ⟨g, 2, none⟩ = some (.slice (some ⟨b, oo, none⟩) s.ws.length c) := (H.out.below HB3.out).hd.cell 2
  have cv : w3.cell? ⟨b, oo + (i + 1), none⟩ = some (.int .u64 v) := ((bcell HB3.out).1 _ _ hbl).trans CV.out
  clear hb k0 k1 k2
  go_wp2_with fail
  refine (cI _).mono ?_
  rintro e w4 ⟨rfl, hb⟩
  have HB4 := Lib.hid (HB3.out.trans (hb.mono HB3.out.size))
  have c24 : w4.cell? ⟨g, 2, none⟩ = some (.slice (some ⟨b, oo, none⟩) s.ws.length c) := (H.out.below HB4.out).hd.cell 2
  clear hb
  go_wp2_with fail
  go_ret
  exact ⟨rfl, HB4.out⟩
theorem size_any (h : SpR w B g s V) (i : Nat) (hib : i ≤ s.ws.length) : Calls Tryz.prog 112 #[.pointer (some ⟨g, 0, none⟩), .int .i64 (i : Int)] w fun e w' => e = .returned (.int .i64 (s.size i : Int)) ∧ Below w.heap.size w w' := by
  by_cases hi : i + 2 ≤ s.ws.length
  · have hx : s.ws[i]? = some (s.ws[i]'(by omega)) := List.getElem?_eq_getElem _
    have hv : s.ws[i + 1]? = some (s.ws[i + 1]'(by omega)) := List.getElem?_eq_getElem _
    generalize s.ws[i]'(by omega) = x at hx
    generalize s.ws[i + 1]'(by omega) = v at hv
    unfold Spc.size
    simp only [hx, hv]
    cases hd : dH x with
    | none => exact size_nd h i hi hx hv hd
    | some hh =>
      simp only []
      by_cases hz : dI v = Id.zero
      · rw [if_neg (by simp [hz])]; exact size_id h i hi hx hv hd hz
      · by_cases hn : i + wH hh ≤ s.ws.length
        · rw [if_pos ⟨hz, hn⟩]
          have := wH_bound hh
          rw [show (((wH hh).toNat : Nat) : Int) = wH hh by omega]
          exact size_ok h i hi hx hv hd hz hn
        · rw [if_neg (fun h => hn h.2)]; exact size_far h i hi hx hv hd hz (by omega)
  · have : s.size i = 0 := by
      have := s.size_le i
      omega
    rw [this]
    exact size_short h i (by omega) hib
end
end Go.Proofs.YtaecdpijpdfboaaGreat
