/- refmeshlaw41.BytecodeTexts returns true: the walk. -/
import Derived.Test.YtdmbcgkfecmakaaDoorRFormat
import Derived.Test.YtdmbcgkfecmakaaDoorFew
namespace Go.Proofs.YtdmbcgkfecmakaaDoor
set_option linter.unusedVariables false
set_option linter.unusedSimpArgs false
set_option linter.unusedSectionVars false
open Go.RowKit Go.Sort
set_option maxRecDepth 100000

def FewOnePost (w : World) (m : Mth) (e : Ending) (w' : World) : Prop := (∃ b : Bool, e = .returned (.bool b) ∧ (b = true → m.few 80)) ∧ Below w.heap.size w w'

section
variable {w : World} {m : Mth} {A B : Option Addr} {c d : Nat}
set_option maxHeartbeats 1000000 in
theorem fewOne (hok : m.ok) (hc : m.code.length ≤ c) (hcode : Sl w 3 A m.code.length (codeCells m.code)) (hd : m.names.length ≤ d) (hs : Sl w 1 B m.names.length (txtCells m.names)) :
    Calls Tryd.prog 30 #[.agg #[.string m.nm, .int .i64 m.p, .int .i64 m.l, .slice A m.code.length c, .slice B m.names.length d]] w (FewOnePost w m) := by
  obtain ⟨W, hW⟩ : ∃ W, W = ((w.alloc (.cells #[.string m.nm, .int .i64 m.p, .int .i64 m.l, .slice A m.code.length c, .slice B m.names.length d] 25)).alloc (.cells #[.string m.nm, .int .i64 m.p, .int .i64 m.l, .slice A m.code.length c, .slice B m.names.length d] 25)).alloc (.cells #[.string ⟨#[]⟩, .bool false, .slice none 0 0, .slice (some ⟨w.heap.size + 1, 0, none⟩) 1 1] 61) := ⟨_, rfl⟩
  have hb : Below w.heap.size w W := by rw [hW]; exact (((Below.refl _ _).alloc (Nat.le_refl _) _).alloc (by simp) _).alloc (by simp; omega) _
  have hbm : Bk W (w.heap.size + 1) 25 #[.string m.nm, .int .i64 m.p, .int .i64 m.l, .slice A m.code.length c, .slice B m.names.length d] := by
    rw [hW]
    refine Bk.alloc ?_ _
    have := Bk.new (w.alloc (.cells #[.string m.nm, .int .i64 m.p, .int .i64 m.l, .slice A m.code.length c, .slice B m.names.length d] 25)) 25 #[.string m.nm, .int .i64 m.p, .int .i64 m.l, .slice A m.code.length c, .slice B m.names.length d]
    simpa using this
  have hbk : Bk W (w.heap.size + 2) 61 #[.string ⟨#[]⟩, .bool false, .slice none 0 0, .slice (some ⟨w.heap.size + 1, 0, none⟩) 1 1] := by
    rw [hW]
    have := Bk.new ((w.alloc (.cells #[.string m.nm, .int .i64 m.p, .int .i64 m.l, .slice A m.code.length c, .slice B m.names.length d] 25)).alloc (.cells #[.string m.nm, .int .i64 m.p, .int .i64 m.l, .slice A m.code.length c, .slice B m.names.length d] 25)) 61 #[.string ⟨#[]⟩, .bool false, .slice none 0 0, .slice (some ⟨w.heap.size + 1, 0, none⟩) 1 1]
    simpa using this
  have hM : MthR W m [.string m.nm, .int .i64 m.p, .int .i64 m.l, .slice A m.code.length c, .slice B m.names.length d] := ⟨hok, A, c, B, d, rfl, hc, hcode.below hb, hd, hs.below hb⟩
  have hms : SlR MthR W 5 (some ⟨w.heap.size + 1, 0, none⟩) 1 [m] := ⟨rfl, .inr ⟨_, 0, rfl, hbm.lt, fun i x hx => by
    have hi : i = 0 := by have := (List.getElem?_eq_some_iff.1 hx).1; simpa using this
    subst hi
    simp at hx
    subst hx
    refine ⟨_, rfl, hM, fun j v hv => ?_⟩
    rw [show 0 + 0 * 5 + j = j by omega, hbm.cell]
    simpa using hv⟩⟩
  have hcs : CodeR W [⟨⟨#[]⟩, false, [], [m]⟩] (some ⟨w.heap.size + 2, 0, none⟩) 1 1 := ⟨rfl, Nat.le_refl _, by omega, rfl, .inr ⟨_, 0, rfl, hbk.lt, fun i x hx => by
    have hi : i = 0 := by have := (List.getElem?_eq_some_iff.1 hx).1; simpa using this
    subst hi
    simp at hx
    subst hx
    refine ⟨[.string ⟨#[]⟩, .bool false, .slice none 0 0, .slice (some ⟨w.heap.size + 1, 0, none⟩) 1 1], rfl, ⟨⟨by simp [ByteArray.size], by simp, by simp, by simp⟩, none, 0, _, 1, rfl, Nat.le_refl _, Sl.nil _ _ _, Nat.le_refl _, hms⟩, fun j v hv => ?_⟩
    rw [show 0 + 0 * 4 + j = j by omega, hbk.cell]
    simpa using hv⟩⟩
  have HF := Lib.hid (Few_any (most := 80) hcs (by omega) (by omega))
  have HB := Lib.hid hb
  have HWW := Lib.hid hW
  clear hok hc hcode hd hs hb hbm hbk hM hms hcs hW
  go_enter Tryd.func30, Tryd.ntmps30
  go_wp2_with fail
  rw [← HWW.out]
  refine HF.out.mono ?_
  rintro e w' ⟨⟨b, rfl, hbb⟩, hb'⟩
  have HBB := Lib.hid hbb
  clear hbb
  go_wp2
  go_ret
  exact ⟨⟨b, rfl, fun h => ((HBB.out h).2 ⟨⟨#[]⟩, false, [], [m]⟩ (List.mem_singleton.2 rfl)).mths m (List.mem_singleton.2 rfl)⟩, HB.out.trans (hb'.mono HB.out.size)⟩

set_option maxHeartbeats 4000000 in
theorem LTexts_any (hok : m.ok) (hc : m.code.length ≤ c) (hcode : Sl w 3 A m.code.length (codeCells m.code)) (hd : m.names.length ≤ d) (hs : Sl w 1 B m.names.length (txtCells m.names)) (ht : Tabs w) :
    Calls Tryd.prog 7 #[.agg #[.string m.nm, .int .i64 m.p, .int .i64 m.l, .slice A m.code.length c, .slice B m.names.length d]] w fun e w' => e = .returned (.bool true) ∧ Below w.heap.size w w' := by
  have hb0 : Below w.heap.size w (w.alloc (.cells #[.string m.nm, .int .i64 m.p, .int .i64 m.l, .slice A m.code.length c, .slice B m.names.length d] 25)) := (Below.refl _ _).alloc (Nat.le_refl _) _
  have hbk := Bk.new w 25 #[.string m.nm, .int .i64 m.p, .int .i64 m.l, .slice A m.code.length c, .slice B m.names.length d]
  have HA := Lib.hid (ht.below hb0)
  have HALL := Lib.hid (And.intro hok (And.intro hc (And.intro (hcode.below hb0) (And.intro hd (hs.below hb0)))))
  have HBK := Lib.hid hbk
  have HB0 := Lib.hid hb0
  clear hok hc hcode hd hs ht hb0 hbk
  go_enter Tryd.func7, Tryd.ntmps7
  go_wp2_with fail
  refine (awakeB _ HA.out).mono ?_
  rintro e w1 ⟨rfl, hb1⟩
  have hbk1 := HBK.out.below hb1 HBK.out.lt
  have m0 : w1.cell? ⟨w.heap.size, 0, none⟩ = some (.string m.nm) := hbk1.cell 0
  have m1 : w1.cell? ⟨w.heap.size, 1, none⟩ = some (.int .i64 m.p) := hbk1.cell 1
  have m2 : w1.cell? ⟨w.heap.size, 2, none⟩ = some (.int .i64 m.l) := hbk1.cell 2
  have m3 : w1.cell? ⟨w.heap.size, 3, none⟩ = some (.slice A m.code.length c) := hbk1.cell 3
  have m4 : w1.cell? ⟨w.heap.size, 4, none⟩ = some (.slice B m.names.length d) := hbk1.cell 4
  have HK1 := Lib.hid hbk1
  have HA1 := Lib.hid (HA.out.below hb1)
  have HB1 := Lib.hid (HB0.out.trans (hb1.mono HB0.out.size))
  have HC1 := Lib.hid (HALL.out.2.2.1.below hb1)
  have HS1 := Lib.hid (HALL.out.2.2.2.2.below hb1)
  clear hbk1 hb1
  go_wp2_with fail
  refine (fewOne HALL.out.1 HALL.out.2.1 HC1.out HALL.out.2.2.2.1 HS1.out).mono ?_
  rintro e w2 ⟨⟨b, rfl, hbb⟩, hb2⟩
  have HB2 := Lib.hid (HB1.out.trans (hb2.mono HB1.out.size))
  have HA2 := Lib.hid (HA1.out.below hb2)
  have HBB := Lib.hid hbb
  clear hbb
  cases b with
  | false =>
    clear m0 m1 m2 m3 m4 hb2
    go_wp2_with fail
    refine (awakeB _ HA2.out).mono ?_
    rintro e w3 ⟨rfl, hb3⟩
    go_wp2
    go_ret
    exact ⟨rfl, HB2.out.trans (hb3.mono HB2.out.size)⟩
  | true =>
    have HK2 := Lib.hid (HK1.out.below hb2 HK1.out.lt)
    have n0 : w2.cell? ⟨w.heap.size, 0, none⟩ = some (.string m.nm) := HK2.out.cell 0
    have n1 : w2.cell? ⟨w.heap.size, 1, none⟩ = some (.int .i64 m.p) := HK2.out.cell 1
    have n2 : w2.cell? ⟨w.heap.size, 2, none⟩ = some (.int .i64 m.l) := HK2.out.cell 2
    have n3 : w2.cell? ⟨w.heap.size, 3, none⟩ = some (.slice A m.code.length c) := HK2.out.cell 3
    have n4 : w2.cell? ⟨w.heap.size, 4, none⟩ = some (.slice B m.names.length d) := HK2.out.cell 4
    have hz2 := HK2.out.lt
    obtain ⟨ls, hls⟩ : ∃ ls, ls = fmtL m.nm m.p m.l m.code m.names m.code.length := ⟨_, rfl⟩
    have hfew := HBB.out rfl
    have hok := HALL.out.1
    have hp := i64_of_wf hok.p
    have hl := i64_of_wf hok.l
    have hll : ls.length = m.code.length + 1 := by rw [hls]; exact fmtL_length _ _ _ _ _ _
    have hlc := hfew.code
    have hsz : ∀ x ∈ m.names, x.size ≤ 1000000 := fun x hx => by have := hfew.each x hx; omega
    have hnm : m.nm.size ≤ 1000000 := by have := hfew.nm; omega
    have hF : ∀ W', Below w2.heap.size w2 W' → Calls Tryd.prog 32 #[.agg #[.string m.nm, .int .i64 m.p, .int .i64 m.l, .slice A m.code.length c, .slice B m.names.length d]] W' (FmtPost W' ls) := fun W' hW => by
      rw [hls]
      exact Format_any m.code m.names rfl (by omega) HALL.out.2.1 hok.code ((HC1.out.below hb2).below hW) rfl HALL.out.2.2.2.1 ((HS1.out.below hb2).below hW) hsz hnm hp.1 hp.2 hl.1 hl.2 (HA2.out.below hW)
    have hR : ∀ W', Below w2.heap.size w2 W' → Calls Tryd.prog 33 #[.agg #[.string m.nm, .int .i64 m.p, .int .i64 m.l, .slice A m.code.length c, .slice B m.names.length d]] W' (FmtPost W' ls) := fun W' hW => by
      rw [hls]
      exact RFormat_any m.code m.names rfl (by omega) HALL.out.2.1 hok.code ((HC1.out.below hb2).below hW) rfl HALL.out.2.2.2.1 ((HS1.out.below hb2).below hW) hsz hnm hp.1 hp.2 hl.1 hl.2 (HA2.out.below hW)
    have HF := Lib.hid hF
    have HR := Lib.hid hR
    have hl6 : ls.length ≤ 1000000 := by omega
    clear hF hR hls hfew hok hp hl hll hlc hsz hnm m0 m1 m2 m3 m4 hb2
    go_upto_region 3 with fail
    go_region_with (first
      | (go_at_call 32; refine (HF.out _ (Below.refl _ _).drew).mono ?_; rintro e w3 ⟨g3, c3, rfl, hc3, hs3, hb3, _⟩; have p0 := ((bcell hb3).1 _ 0 hz2).trans n0; have p1 := ((bcell hb3).1 _ 1 hz2).trans n1; have p2 := ((bcell hb3).1 _ 2 hz2).trans n2; have p3 := ((bcell hb3).1 _ 3 hz2).trans n3; have p4 := ((bcell hb3).1 _ 4 hz2).trans n4; have hz3 : w2.heap.size ≤ w3.heap.size := hb3.size)
      | (go_at_call 33; refine (HR.out _ ((Below.refl _ _).drew.trans hb3)).mono ?_; rintro e w4 ⟨g4, c4, rfl, hc4, hs4, hb4, _⟩; have hz4 : w2.heap.size ≤ w4.heap.size := Nat.le_trans hz3 hb4.size)
      | (go_at_call 31; refine (SameLines_yes ls _ _ _ _ _ hl6 hc3 hc4 (hs3.below hb4) hs4).mono ?_; rintro e w5 ⟨rfl, hb5⟩))
    all_goals
      go_wp2_with fail
      go_ret
      exact ⟨rfl, HB2.out.trans ((((Below.refl _ _).drew.trans (hb3.trans (hb4.mono hz3))).trans (hb5.mono hz4)).mono HB2.out.size)⟩
end
end Go.Proofs.YtdmbcgkfecmakaaDoor
