/- Parts of the proof: CompP, SortK, ListM, Size. -/
import Derived.Ground.GgzProg
import Derived.Ground.SlgmProg
import Derived.Shelf.SlIterI.Nil
import Derived.Shelf.SortM.Plain
import Derived.Shelf.SortM.SortNone
import Derived.Test.YtjpaogapclfajaaGreatBcA
import Derived.Test.YtjpaogapclfajaaGreatProg
import Derived.Test.YtjpaogapclfajaaGreatBc10
import Derived.Test.YtjpaogapclfajaaGreatBc12
import Derived.Test.YtjpaogapclfajaaGreatBc15
import Derived.Test.YtjpaogapclfajaaGreatBc16
set_option linter.unusedVariables false
set_option linter.unusedSimpArgs false
set_option linter.unusedSectionVars false
namespace Go.Proofs.YtjpaogapclfajaaGreat
open Go.RowKit
theorem Spc.walkN_gap (s : Spc) : ∀ f i, (s.walkN f i).1.Pairwise (fun a b => a + s.size a ≤ b) ∧ ∀ j ∈ (s.walkN f i).1, i ≤ j ∧ s.size j ≠ 0
 | 0, i => ⟨List.Pairwise.nil, fun j h => by cases h⟩
 | f + 1, i => by
  unfold Spc.walkN
  split
  ·exact ⟨List.Pairwise.nil, fun j h => by cases h⟩
  ·rename_i h0
   obtain ⟨h1, h2⟩ := s.walkN_gap f (i + s.size i)
   refine ⟨List.pairwise_cons.2 ⟨fun j hj => (h2 j hj).1, h1⟩, fun j hj => ?_⟩
   rcases List.mem_cons.1 hj with rfl | hj
   ·exact ⟨Nat.le_refl _, h0⟩
   ·have := h2 j hj
    exact ⟨by omega, this.2⟩
theorem Spc.size_hdr {s : Spc} {i : Nat} (h : s.size i ≠ 0) : ∃ hd, s.hdr (s.base + (i : Int)) = (0, hd) ∧ (s.size i : Int) = wH hd ∧ i + s.size i ≤ s.ws.length ∧ vH hd = true := by
 have hle := s.size_le i
 have hsz := h
 unfold Spc.size at hsz
 split at hsz
 ·rename_i x v hx hv
  split at hsz
  ·rename_i hd hdx
   split at hsz
   ·rename_i hc
    have hi : i < s.ws.length := (List.getElem?_eq_some_iff.1 hx).1
    have hi1 : i + 1 < s.ws.length := (List.getElem?_eq_some_iff.1 hv).1
    have hw := wH_ge (dH_some hdx).1
    have e : s.size i = (wH hd).toNat := by unfold Spc.size; rw [hx, hv]; dsimp only; rw [hdx]; dsimp only; rw [if_pos hc]
    have a0 : s.at_ (s.base + (i : Int)) = some x := by
     unfold Spc.at_
     rw [if_pos (Spc.has_iff.2 ⟨by omega, by omega⟩), show (s.base + (i : Int) - s.base).toNat = i by omega]
     exact hx
    have a1 : s.at_ (s.base + (i : Int) + 1) = some v := by
     unfold Spc.at_
     rw [if_pos (Spc.has_iff.2 ⟨by omega, by omega⟩), show (s.base + (i : Int) + 1 - s.base).toNat = i + 1 by omega]
     exact hv
    refine ⟨hd, ?_, by rw [e]; omega, by rw [e]; omega, (dH_some hdx).1⟩
    unfold Spc.hdr
    rw [a0, a1]
    dsimp only
    rw [hdx]
    dsimp only
    rw [if_neg]
    rintro (h1 | h1)
    ·exact hc.1 h1
    ·rw [Spc.has_iff.2 ⟨by omega, by omega⟩] at h1; cases h1
   ·exact absurd rfl hsz
  ·exact absurd rfl hsz
 ·exact absurd rfl hsz
theorem Mm.one_hdr (s : Spc) (a : Int) (h : s.has a = true) : (Mm.one s).hdr a = s.hdr a := by
 unfold Mm.hdr Mm.sp Mm.one
 dsimp only
 rw [if_pos h]
/-- an object that walking reaches -/
structure Spc.Obj (s : Spc) (a : Int) : Prop where
 lo : s.base ≤ a
 hi : a + wH ((Mm.one s).hdr a).2 ≤ s.top
 ok : ((Mm.one s).hdr a).1 = 0
theorem Spc.objs_obj {s : Spc} {a : Int} (h : a ∈ s.objs) : s.Obj a ∧ ∃ i : Nat, a = s.base + (i : Int) ∧ (s.size i : Int) = wH ((Mm.one s).hdr a).2 ∧ i ∈ s.walk.1 := by
 obtain ⟨i, hi, rfl⟩ := List.mem_map.1 h
 obtain ⟨_, h0⟩ := (s.walkN_gap s.ws.length 0).2 i hi
 obtain ⟨hd, h1, h2, h3, hv⟩ := Spc.size_hdr h0
 have hw := wH_ge hv
 have hh : (Mm.one s).hdr (s.base + (i : Int)) = (0, hd) := by rw [Mm.one_hdr _ _ (Spc.has_iff.2 ⟨by omega, by omega⟩), h1]
 refine ⟨⟨by omega, ?_, by rw [hh]⟩, i, rfl, by rw [hh]; exact h2, hi⟩
 rw [hh]
 unfold Spc.top
 dsimp only
 omega
theorem pair_lt {R : Nat → Nat → Prop} : ∀ {l : List Nat}, l.Pairwise R → (∀ a b, R a b → a ≤ b) → ∀ a ∈ l, ∀ b ∈ l, a < b → R a b
 | [], _, _, a, ha, _, _, _ => by cases ha
 | x :: l, h, hR, a, ha, b, hb, hab => by
  obtain ⟨h1, h2⟩ := List.pairwise_cons.1 h
  rcases List.mem_cons.1 ha with e | ha'
  ·subst e
   rcases List.mem_cons.1 hb with e | hb'
   ·omega
   ·exact h1 b hb'
  ·rcases List.mem_cons.1 hb with e | hb'
   ·subst e
    have := hR _ _ (h1 a ha')
    omega
   ·exact pair_lt h2 hR a ha' b hb' hab
theorem Spc.objs_gap {s : Spc} {a b : Int} (ha : a ∈ s.objs) (hb : b ∈ s.objs) (h : a < b) : a + wH ((Mm.one s).hdr a).2 ≤ b := by
 obtain ⟨_, i, rfl, h1, hi⟩ := Spc.objs_obj ha
 obtain ⟨_, j, rfl, h2, hj⟩ := Spc.objs_obj hb
 have := pair_lt (s.walkN_gap s.ws.length 0).1 (fun a b h => by omega) i hi j hj (by omega)
 omega
/-- the new addresses of objects -/
def newsL (m : Mm) (b : Int) (ms : List Int) : List Int := (List.range ms.length).map fun j => b + wSum m (ms.take j)
/-- the new address of an object -/
def newA (m : Mm) (b : Int) (ms : List Int) (a : Int) : Int := b + wSum m (ms.take (ms.idxOf a))
def Spc.plan (s : Spc) (ms : List Int) : Option (List Int) := if ms.all (fun a => s.objs.contains a) = true then some (newsL (Mm.one s) s.base ms) else none
theorem newsL_len (m : Mm) (b : Int) (ms : List Int) : (newsL m b ms).length = ms.length := by simp [newsL]
theorem newsL_get {m : Mm} {b : Int} {ms : List Int} {j : Nat} (h : j < ms.length) : (newsL m b ms)[j]? = some (b + wSum m (ms.take j)) := by
 unfold newsL
 rw [List.getElem?_map, List.getElem?_range h]
 rfl
theorem newsL_take {m : Mm} {b : Int} {ms : List Int} {j : Nat} (h : j < ms.length) : (newsL m b ms).take (j + 1) = (newsL m b ms).take j ++ [b + wSum m (ms.take j)] := by
 rw [List.take_add_one, newsL_get h]
 rfl
theorem idxOf_get {ms : List Int} (h : ms.Nodup) {j : Nat} {a : Int} (ha : ms[j]? = some a) : ms.idxOf a = j := by
 obtain ⟨hj, rfl⟩ := List.getElem?_eq_some_iff.1 ha
 exact h.idxOf_getElem j hj
theorem newA_get {m : Mm} {b : Int} {ms : List Int} (h : ms.Nodup) {j : Nat} {a : Int} (ha : ms[j]? = some a) : (newsL m b ms)[j]? = some (newA m b ms a) := by
 unfold newA
 rw [idxOf_get h ha]
 exact newsL_get (List.getElem?_eq_some_iff.1 ha).1
/-- marked objects that walking reaches, in increasing order -/
structure Spc.Pl (s : Spc) (ms : List Int) : Prop where
 inc : ms.Pairwise (· < ·)
 ob : ∀ a ∈ ms, a ∈ s.objs
theorem Spc.Pl.nd {s : Spc} {ms : List Int} (h : s.Pl ms) : ms.Nodup := h.inc.imp fun h => Int.ne_of_lt h
theorem Spc.Pl.below {s : Spc} {ms : List Int} (h : s.Pl ms) : ∀ (j : Nat) (a : Int), ms[j]? = some a → s.base + wSum (Mm.one s) (ms.take j) ≤ a
 | 0, a, ha => by
  have := (Spc.objs_obj (h.ob a (List.mem_of_getElem? ha))).1.lo
  rw [List.take_zero, wSum_nil]
  omega
 | j + 1, a, ha => by
  obtain ⟨hj, he⟩ := List.getElem?_eq_some_iff.1 ha
  have t1 : ms[j]? = some ms[j] := List.getElem?_eq_getElem (by omega)
  have h1 := Spc.Pl.below h j ms[j] t1
  have hlt : ms[j] < a := by rw [← he]; exact List.pairwise_iff_getElem.1 h.inc j (j + 1) (by omega) hj (by omega)
  have h2 := Spc.objs_gap (h.ob _ (List.mem_of_getElem? t1)) (h.ob a (List.mem_of_getElem? ha)) hlt
  rw [List.take_add_one, t1, wSum_app]
  have e : wSum (Mm.one s) (some ms[j]).toList = wH ((Mm.one s).hdr ms[j]).2 := wSum_one _ _
  rw [e]
  omega
theorem Spc.Pl.sum {s : Spc} {ms : List Int} (h : s.Pl ms) : s.base + wSum (Mm.one s) ms ≤ s.top := by
 cases hl : ms.getLast? with
 | none =>
  rw [List.getLast?_eq_none_iff.1 hl, wSum_nil]
  unfold Spc.top
  omega
 | some a =>
  obtain ⟨l, e⟩ : ∃ l, ms = l ++ [a] := ⟨_, getLast_split hl⟩
  have h1 := h.below l.length a (by rw [e]; simp)
  have h2 := (Spc.objs_obj (h.ob a (by rw [e]; simp))).1.hi
  rw [e, List.take_left] at h1
  rw [e, wSum_app, wSum_one]
  omega
theorem wSum_take_le {m : Mm} {l : List Int} (h : ∀ a ∈ l, 0 ≤ wH (m.hdr a).2) (j : Nat) : wSum m (l.take j) ≤ wSum m l := by
 have e := congrArg (wSum m) (List.take_append_drop j l)
 rw [wSum_app] at e
 have := (wSum_rg m (l.drop j)).1
 omega
theorem Spc.plan_some {s : Spc} {ms ns : List Int} (hi : ms.Pairwise (· < ·)) (h : s.plan ms = some ns) : s.Pl ms ∧ ns = newsL (Mm.one s) s.base ms := by
 unfold Spc.plan at h
 split at h
 ·rename_i hc
  cases h
  exact ⟨⟨hi, fun a ha => by simpa using List.all_eq_true.1 hc a ha⟩, rfl⟩
 ·cases h
/-- the word behind the compaction; none: an address without a resolution -/
def Mm.updW (m : Mm) (b : Int) (ms : List Int) (x : Int) : Option Int := match m.rfr x with
 | none => none
 | some none => some x
 | some (some a) => some (if ms.contains a = true then frW (newA m b ms a) else 0)
def Mm.updL (m : Mm) (b : Int) (ms : List Int) : List Int → Option (List Int)
 | [] => some []
 | x :: l => match m.updW b ms x, m.updL b ms l with
  | some y, some t => some (y :: t)
  | _, _ => none
def Mm.idOf (m : Mm) (a : Int) : Id := dI ((m.at_ (a + 1)).getD 0)
def Mm.pay (m : Mm) (a : Int) : List Int := (List.range (wH (m.hdr a).2 - 2).toNat).map fun (i : Nat) => (m.at_ (a + 2 + (i : Int))).getD 0
def Mm.payU (m : Mm) (b : Int) (ms : List Int) (a : Int) : List Int := if (m.hdr a).2.k = 3 ∨ (m.hdr a).2.k = 4 then m.pay a else ((m.pay a).take (m.hdr a).2.f.toNat).map (fun x => (m.updW b ms x).getD x) ++ (m.pay a).drop (m.hdr a).2.f.toNat
def Mm.movd (m : Mm) (b : Int) (ms : List Int) (a : Int) : List Int := [eH (m.hdr a).2, eI (m.idOf a)] ++ m.payU b ms a
/-- the compacted space -/
def Spc.cmp (s : Spc) (ms : List Int) : Spc := { s with ws := ms.flatMap ((Mm.one s).movd s.base ms) }
theorem pay_len (m : Mm) (a : Int) : (m.pay a).length = (wH (m.hdr a).2 - 2).toNat := by simp [Mm.pay]
theorem f_le_pay (m : Mm) {a : Int} (h : (m.hdr a).1 = 0) : (m.hdr a).2.f.toNat ≤ (wH (m.hdr a).2 - 2).toNat := by
 have := (wH_ge (Mm.hdr_valid h)).2
 omega
theorem payU_len (m : Mm) (b : Int) (ms : List Int) {a : Int} (h : (m.hdr a).1 = 0) : (m.payU b ms a).length = (wH (m.hdr a).2 - 2).toNat := by
 have h1 := f_le_pay m h
 have h2 := pay_len m a
 unfold Mm.payU
 split
 ·exact h2
 ·simp only [List.length_append, List.length_map, List.length_take, List.length_drop]
  omega
theorem movd_len (m : Mm) (b : Int) (ms : List Int) {a : Int} (h : (m.hdr a).1 = 0) : ((m.movd b ms a).length : Int) = wH (m.hdr a).2 := by
 have h1 := (wH_ge (Mm.hdr_valid h)).1
 unfold Mm.movd
 simp only [List.length_append, List.length_cons, List.length_nil, payU_len m b ms h]
 omega
end Go.Proofs.YtjpaogapclfajaaGreat
namespace Go.Proofs
open Go.Shelf
def Tryz.keysA_ren : Go.Shelf.Ren := ⟨fun | 7 => 69 | 10 => 121 | n => n, fun | 23 => 101 | 26 => 3 | 3 => 3 | 28 => 118 | 0 => 0 | 27 => 117 | 33 => 44 | 4 => 4 | n => n, fun | n => n⟩
theorem Tryz.keysA : Go.Proofs.SlLaysZI.n7 Tryz.prog Tryz.keysA_ren := {
 mixed := by kernel_rfl
 f7 := ⟨Tryz.f69.name, by decide, Tryz.func69.trans (congrArg some (by kernel_rfl))⟩
 f10 := ⟨Tryz.f121.name, by decide, Tryz.func121.trans (congrArg some (by kernel_rfl))⟩
 t0 := Tryz.underlying0
 a0 := Tryz.isAgg0
 z0 := Tryz.sizeOf0
 v0 := Tryz.zeroValue0
 t4 := Tryz.underlying4
 a4 := Tryz.isAgg4
 z4 := Tryz.sizeOf4
 v4 := Tryz.zeroValue4
 t23 := Tryz.underlying101
 a23 := Tryz.isAgg101
 z23 := Tryz.sizeOf101
 v23 := Tryz.zeroValue101
 t26 := Tryz.underlying3
 a26 := Tryz.isAgg3
 z26 := Tryz.sizeOf3
 v26 := Tryz.zeroValue3
 t27 := Tryz.underlying117
 a27 := Tryz.isAgg117
 z27 := Tryz.sizeOf117
 v27 := Tryz.zeroValue117
 t28 := Tryz.underlying118
 a28 := Tryz.isAgg118
 z28 := Tryz.sizeOf118
 v28 := Tryz.zeroValue118
 t33 := Tryz.underlying44
 a33 := Tryz.isAgg44
 z33 := Tryz.sizeOf44
 v33 := Tryz.zeroValue44 }
def Tryz.sortedA_ren : Go.Shelf.Ren := ⟨fun | 6 => 68 | 8 => 119 | 9 => 120 | 11 => 137 | 13 => 139 | 12 => 138 | 23 => 153 | 24 => 154 | 14 => 144 | 15 => 145 | 16 => 146 | 17 => 147 | 18 => 148 | 19 => 149 | 20 => 150 | 21 => 151 | 22 => 152 | 25 => 159 | 26 => 160 | 27 => 161 | 28 => 162 | 29 => 163 | 30 => 164 | 31 => 165 | n => n, fun | 26 => 3 | 28 => 118 | 24 => 23 | 0 => 0 | 3 => 3 | 37 => 172 | 48 => 201 | 50 => 51 | 4 => 4 | 40 => 194 | 39 => 193 | 45 => 120 | 5 => 5 | 9 => 9 | 51 => 202 | 55 => 205 | 57 => 207 | 58 => 208 | 33 => 44 | n => n, fun | n => n⟩
theorem Tryz.sortedA : Go.Proofs.SlLaysZI.n6 Tryz.prog Tryz.sortedA_ren := {
 mixed := by kernel_rfl
 f6 := ⟨Tryz.f68.name, by decide, Tryz.func68.trans (congrArg some (by kernel_rfl))⟩
 f8 := ⟨Tryz.f119.name, by decide, Tryz.func119.trans (congrArg some (by kernel_rfl))⟩
 f11 := ⟨Tryz.f137.name, by decide, Tryz.func137.trans (congrArg some (by kernel_rfl))⟩
 t0 := Tryz.underlying0
 a0 := Tryz.isAgg0
 z0 := Tryz.sizeOf0
 v0 := Tryz.zeroValue0
 t24 := Tryz.underlying23
 a24 := Tryz.isAgg23
 z24 := Tryz.sizeOf23
 v24 := Tryz.zeroValue23
 t26 := Tryz.underlying3
 a26 := Tryz.isAgg3
 z26 := Tryz.sizeOf3
 v26 := Tryz.zeroValue3
 t28 := Tryz.underlying118
 a28 := Tryz.isAgg118
 z28 := Tryz.sizeOf118
 v28 := Tryz.zeroValue118
 i26 := by kernel_rfl }
def Tryz.sortA_ren : Go.Shelf.Ren := ⟨fun | 5 => 120 | 8 => 139 | 7 => 138 | 19 => 153 | 20 => 154 | 10 => 144 | 11 => 145 | 12 => 146 | 13 => 147 | 14 => 148 | 15 => 149 | 16 => 150 | 17 => 151 | 18 => 152 | 30 => 159 | 31 => 160 | 32 => 161 | 33 => 162 | 34 => 163 | 35 => 164 | 40 => 165 | n => n, fun | 23 => 23 | 25 => 3 | 3 => 3 | 32 => 172 | 22 => 23 | 0 => 0 | 44 => 201 | 46 => 51 | 4 => 4 | 36 => 194 | 35 => 193 | 41 => 120 | 5 => 5 | 9 => 9 | 53 => 202 | 57 => 205 | 63 => 207 | 64 => 208 | n => n, fun | n => n⟩
theorem Tryz.sortA : Go.Proofs.SlLaysM.n5 Tryz.prog Tryz.sortA_ren := {
 mixed := by kernel_rfl
 f5 := ⟨Tryz.f120.name, by decide, Tryz.func120.trans (congrArg some (by kernel_rfl))⟩
 f7 := ⟨Tryz.f138.name, by decide, Tryz.func138.trans (congrArg some (by kernel_rfl))⟩
 f8 := Tryz.func139.trans (congrArg some (by kernel_rfl))
 f10 := ⟨Tryz.f144.name, by decide, Tryz.func144.trans (congrArg some (by kernel_rfl))⟩
 f11 := ⟨Tryz.f145.name, by decide, Tryz.func145.trans (congrArg some (by kernel_rfl))⟩
 f12 := ⟨Tryz.f146.name, by decide, Tryz.func146.trans (congrArg some (by kernel_rfl))⟩
 f13 := ⟨Tryz.f147.name, by decide, Tryz.func147.trans (congrArg some (by kernel_rfl))⟩
 f14 := ⟨Tryz.f148.name, by decide, Tryz.func148.trans (congrArg some (by kernel_rfl))⟩
 f15 := ⟨Tryz.f149.name, by decide, Tryz.func149.trans (congrArg some (by kernel_rfl))⟩
 f16 := ⟨Tryz.f150.name, by decide, Tryz.func150.trans (congrArg some (by kernel_rfl))⟩
 f17 := ⟨Tryz.f151.name, by decide, Tryz.func151.trans (congrArg some (by kernel_rfl))⟩
 f18 := ⟨Tryz.f152.name, by decide, Tryz.func152.trans (congrArg some (by kernel_rfl))⟩
 f19 := Tryz.func153.trans (congrArg some (by kernel_rfl))
 f20 := Tryz.func154.trans (congrArg some (by kernel_rfl))
 f30 := ⟨Tryz.f159.name, by decide, Tryz.func159.trans (congrArg some (by kernel_rfl))⟩
 f31 := Tryz.func160.trans (congrArg some (by kernel_rfl))
 f32 := Tryz.func161.trans (congrArg some (by kernel_rfl))
 f33 := ⟨Tryz.f162.name, by decide, Tryz.func162.trans (congrArg some (by kernel_rfl))⟩
 f34 := ⟨Tryz.f163.name, by decide, Tryz.func163.trans (congrArg some (by kernel_rfl))⟩
 f35 := ⟨Tryz.f164.name, by decide, Tryz.func164.trans (congrArg some (by kernel_rfl))⟩
 f40 := ⟨Tryz.f165.name, by decide, Tryz.func165.trans (congrArg some (by kernel_rfl))⟩
 t0 := Tryz.underlying0
 a0 := Tryz.isAgg0
 z0 := Tryz.sizeOf0
 v0 := Tryz.zeroValue0
 t3 := Tryz.underlying3
 a3 := Tryz.isAgg3
 z3 := Tryz.sizeOf3
 v3 := Tryz.zeroValue3
 t4 := Tryz.underlying4
 a4 := Tryz.isAgg4
 z4 := Tryz.sizeOf4
 v4 := Tryz.zeroValue4
 t5 := Tryz.underlying5
 a5 := Tryz.isAgg5
 z5 := Tryz.sizeOf5
 v5 := Tryz.zeroValue5
 t9 := Tryz.underlying9
 a9 := Tryz.isAgg9
 z9 := Tryz.sizeOf9
 v9 := Tryz.zeroValue9
 t22 := Tryz.underlying23
 a22 := Tryz.isAgg23
 z22 := Tryz.sizeOf23
 v22 := Tryz.zeroValue23
 t23 := Tryz.underlying23
 a23 := Tryz.isAgg23
 z23 := Tryz.sizeOf23
 v23 := Tryz.zeroValue23
 t25 := Tryz.underlying3
 a25 := Tryz.isAgg3
 z25 := Tryz.sizeOf3
 v25 := Tryz.zeroValue3
 t32 := Tryz.underlying172
 a32 := Tryz.isAgg172
 z32 := Tryz.sizeOf172
 v32 := Tryz.zeroValue172
 t35 := Tryz.underlying193
 a35 := Tryz.isAgg193
 z35 := Tryz.sizeOf193
 v35 := Tryz.zeroValue193
 t36 := Tryz.underlying194
 a36 := Tryz.isAgg194
 z36 := Tryz.sizeOf194
 v36 := Tryz.zeroValue194
 t41 := Tryz.underlying120
 a41 := Tryz.isAgg120
 z41 := Tryz.sizeOf120
 v41 := Tryz.zeroValue120
 t44 := Tryz.underlying201
 a44 := Tryz.isAgg201
 z44 := Tryz.sizeOf201
 v44 := Tryz.zeroValue201
 t46 := Tryz.underlying51
 a46 := Tryz.isAgg51
 z46 := Tryz.sizeOf51
 v46 := Tryz.zeroValue51
 t53 := Tryz.underlying202
 a53 := Tryz.isAgg202
 z53 := Tryz.sizeOf202
 v53 := Tryz.zeroValue202
 t57 := Tryz.underlying205
 a57 := Tryz.isAgg205
 z57 := Tryz.sizeOf205
 v57 := Tryz.zeroValue205
 t63 := Tryz.underlying207
 a63 := Tryz.isAgg207
 z63 := Tryz.sizeOf207
 v63 := Tryz.zeroValue207
 t64 := Tryz.underlying208
 a64 := Tryz.isAgg208
 z64 := Tryz.sizeOf208
 v64 := Tryz.zeroValue208 }
end Go.Proofs
namespace Go.Proofs.YtjpaogapclfajaaGreat
open Go.RowKit Go.Maps Go.Sort Go.Shelf
set_option maxRecDepth 100000
theorem sortsA (m : Nat) : AnyZI.SortsIn Tryz.prog Tryz.sortedA_ren Fence.wide m :=
 ⟨fun blk off cap ss W hH hblk hsz => callsIn_wide.2 (AnyM.slices_Sort_int Tryz.sortA blk off cap ss W hH hblk hsz),
  fun p cap W => callsIn_wide.2 (AnyM.slices_Sort_int_none Tryz.sortA p cap W)⟩
theorem MapI.keys {P : Program} {k e : TypeId} {w : World} {b n : Nat} {f : Int → Option Int} {cs : List Int} (h : MapI P k e w b n f) (hf : ∀ x, (f x).isSome = cs.contains x) (hk : P.underlying k = some (.int .i64)) (hs : cs.Pairwise (· < ·)) (hw : ∀ x ∈ cs, (Lit.int .i64 x).wf = true) :
  ∃ D : DataW Unit, w.ownsMap P k (plainElem P e) b n D ∧ cs.Perm (intKeys D) ∧ Maps.size D = cs.length := by
 obtain ⟨D, hown, hD⟩ := h
 have hown2 := hown
 obtain ⟨es, rfl, hpw, _⟩ := hown.entries (int_keyed hk)
 obtain ⟨es', hD', hko⟩ := hown2.keysOf
 obtain rfl : es = es' := by simpa using hD'
 have hkeys : ∀ p ∈ es, ∃ x, p.1 = .int .i64 x := fun p hp => by obtain ⟨v, hv⟩ := hko p hp; obtain ⟨x, _, hx, _⟩ := Maps.keyOf_i64 hk hv; exact ⟨x, hx⟩
 have hperm : cs.Perm (intKeys (.map es)) := perm_intKeys hpw hkeys (hs.imp fun h e => by subst e; exact absurd h (Int.lt_irrefl _)) fun x => by
  by_cases hx : (Lit.int .i64 x).wf = true
  ·rw [(hD x hx).1, hf x]; simp
  ·constructor
   ·intro hm; exact absurd (hw x hm) hx
   ·intro hm
    rw [Maps.has_eq, List.any_eq_true] at hm
    obtain ⟨p, hp, hsk⟩ := hm
    obtain ⟨v, hv⟩ := hko p hp
    obtain ⟨y, _, hy, hwy⟩ := Maps.keyOf_i64 hk hv
    rw [hy] at hsk
    have : y = x := by simpa [Lit.sameKey] using hsk
    rw [this] at hwy
    exact absurd hwy hx
 refine ⟨_, hown, hperm, ?_⟩
 rw [hperm.length_eq]
 simp [Maps.size, intKeys]
theorem mergeSort_self {cs ss : List Int} (hs : cs.Pairwise (· < ·)) (h : ss.Perm cs) : ss.mergeSort (fun x y => decide (x ≤ y)) = cs := by
 rw [show ss.mergeSort (fun x y => decide (x ≤ y)) = cs.mergeSort (fun x y => decide (x ≤ y)) from mergeSort_of_perm_i h]
 exact List.mergeSort_of_pairwise (hs.imp fun h => by simp; omega)
theorem mkF_some (sg wl : List Int) (x : Int) : (mkF sg wl x).isSome = (sg ++ wl).contains x := by
 unfold mkF
 cases h1 : sg.contains x with
 | true => rw [if_pos rfl]; simp at h1; simp [h1]
 | false =>
  cases h2 : wl.contains x with
  | true => simp at h1 h2 ⊢; simp [h2]
  | false => simp at h1 h2 ⊢; simp [h1, h2]
def SrtP (w : World) (l : List Int) (e : Ending) (w' : World) : Prop := ∃ v, e = .returned v ∧ w'.ownsRow w.heap.size 3 1 v l.length (ints l) ∧ Below w.heap.size w w'
set_option maxHeartbeats 1000000 in
theorem List_any {w : World} {Bm g b : Nat} {m : Mm} {sg wl : List Int} (h : MkR w Bm g b m sg wl) (hnd : (sg ++ wl).Nodup) (hw : ∀ x ∈ sg ++ wl, (Lit.int .i64 x).wf = true) (hl : (sg ++ wl).length ≤ 100000000) :
  Calls Tryz.prog 25 #[.pointer (some ⟨g, 0, none⟩)] w (SrtP w (srtI (sg ++ wl))) := by
 have hs := srtI_lt hnd
 have hpm := srtI_perm (sg ++ wl)
 have hlen := srtI_len (sg ++ wl)
 have hfc : ∀ x, (mkF sg wl x).isSome = (srtI (sg ++ wl)).contains x := fun x => (mkF_some sg wl x).trans (contains_perm hpm.symm x)
 obtain ⟨D0, hown, hperm, hsz⟩ := h.mp.keys hfc Tryz.underlying3 hs (fun x hx => hw x (hpm.mem_iff.1 hx))
 generalize srtI (sg ++ wl) = cs at *
 have hmax : Maps.size D0 ≤ maxLen := by unfold maxLen; omega
 have hbytes : Maps.size D0 * 8 ≤ 140737488355328 := by omega
 have c0 : w.cell? ⟨g, 0, none⟩ = some (.map (some b)) := h.hd.cell 0
 have HS := lh hs
 have HP := lh hperm
 refine (callsIn_wide (n := 6)).1 ?_
 have hbl := hown.lt
 have hseq : SeqGives Fence.wide 2 Tryz.prog 121 #[.pointer (some ⟨w.heap.size, 0, none⟩)] encZ (fun ss => ss.Perm (intKeys D0)) (Maps.size D0) (w.alloc (.cells #[.map (some b)] 101)) :=
  AnyZI.keys_gives (ρ := Tryz.keysA_ren) { Tryz.keysA with } Fence.wide _ trivial rfl (by omega) w.heap.size b _ D0 _ (by simp) (by simp) (by
   obtain ⟨es, clock, hb, Ft, hs, hD⟩ := hown
   exact ⟨es, clock, (Below.heap_alloc _ _ b hbl).trans hb, Ft, hs, hD⟩)
 have cK : ∀ mb W, CallsIn Fence.wide 5 Tryz.prog 69 #[.map mb] W fun e w' => e = .returned (.func (.func 121) #[] #[.pointer (some ⟨W.heap.size, 0, none⟩)]) ∧ w' = W.alloc (.cells #[.map mb] 101) := fun mb W => AnyZI.keys_in Tryz.keysA Fence.wide 5 trivial rfl mb W
 have cS := AnyZI.sorted_in Tryz.sortedA Fence.wide 5 trivial trivial trivial trivial rfl (by omega) (sortsA _) (enters_of Tryz.func120 (by kernel_rfl) rfl) 121 #[.pointer (some ⟨w.heap.size, 0, none⟩)] trivial (enters_of Tryz.func121 (by kernel_rfl) rfl) _ _ hmax hbytes _ hseq
 change CallsIn _ _ Tryz.prog 68 _ _ _ at cS
 have hfK : Fence.wide.fn 69 := trivial
 have hfS : Fence.wide.fn 68 := trivial
 clear h hown hs hw hperm hsz hpm hlen hfc hseq
 refine callsIn_of_wp Tryz.func25 rfl trivial ?_ rfl
 simp only [Tryz.ntmps25, List.size_toArray, List.length_cons, List.length_nil, Nat.reduceAdd, Nat.reduceSub, Array.replicate_succ, Array.replicate_zero, List.push_toArray, List.append_toArray, List.nil_append, List.cons_append]
 gi_wp2_with (first
  | (gi_at_call 69; refine (cK _ _).mono ?_; rintro e w' ⟨rfl, rfl⟩)
  | (gi_at_call 68; refine cS.mono ?_; rintro e w' ⟨v, ss, rfl, hS, hrow, hnil, hb⟩))
 go_ret
 have hp := hS.trans HP.out.symm
 have hr : w'.ownsRow w.heap.size 3 1 v ss.length ((ss.mergeSort (fun x y => decide (x ≤ y))).map encZ) := ownsRow_base_a hrow (by simp)
 rw [mergeSort_self HS.out hp, hp.length_eq] at hr
 exact ⟨v, rfl, hr, ((Below.refl _ w).alloc (Nat.le_refl _) _).trans (hb.mono (by simp))⟩
end Go.Proofs.YtjpaogapclfajaaGreat
namespace Go.Proofs.YtjpaogapclfajaaGreat
open Go.RowKit Go.Maps
attribute [local go_sem] Oper.semAt_some
set_option maxRecDepth 100000
theorem SpR.kpMk {w w' : World} {B Bm g' g b n : Nat} {V : Value} {s : Spc} {f : Int → Option Int} {ws : Int} (h : SpR w B g' s V) (hm : MkR0 w Bm g b n f ws) (hk : Kp (fun k => k = g ∨ k = b) w w') : SpR w' B g' s V := by
 refine h.kp hk (fun e => ?_) fun k hk' e => ?_
 ·rcases e with e | e
  ·exact Bk.neT h.hd hm.hd (by decide) e
  ·exact hm.mp.ne_bk h.hd e
 ·rcases e with rfl | rfl
  ·exact h.own_ne hm.hd (by decide) hk'
  ·exact hm.mp.ne_own h.own hk'
/-- the weakly marked objects behind a word, and the answer -/
def Mm.kpW (m : Mm) (sg wl : List Int) (o : Option (Option Int)) : List Int := match o with
 | some (some a) => m.keepW sg wl a
 | _ => wl
def Mm.kpQ (m : Mm) (sg wl : List Int) (o : Option (Option Int)) : Bool := match o with
 | some (some a) => Keeps sg (m.keepW sg wl a) a
 | _ => false
theorem Mm.rfr_rg {m : Mm} (ok : m.Ok) {x a : Int} (h : m.rfr x = some (some a)) : 0 ≤ a ∧ a ≤ 4294967296 := Mm.res_has ok (Mm.hdr_has (Mm.rfr_hdr h).1)
section
variable {w : World} {B Bm g g' b : Nat} {V : Value} {s : Spc} {sg wl : List Int}
set_option maxHeartbeats 1000000 in
theorem Keep_any (h : SpR w B g' s V) (hb0 : s.base = 0) (hl0 : s.limit ≤ 16777216) (hB : B ≤ w.heap.size) (hm : MkR w Bm g b (Mm.one s) sg wl) (hl : (sg ++ wl).length ≤ 100000000) {x : Int} (hx : U64 x) :
  Calls Tryz.prog 30 #[.pointer (some ⟨g, 0, none⟩), .pointer (some ⟨g', 0, none⟩), .int .u64 x] w (KeepP w Bm g b (Mm.one s) sg wl ((Mm.one s).kpW sg wl ((Mm.one s).rfr x)) ((Mm.one s).kpQ sg wl ((Mm.one s).rfr x))) := by
 have cM := memory_any h hb0 hl0 hB
 have HM := lh hm
 have OK := lh (Mm.one_ok h.ok hb0 hl0)
 have HL := lh hl
 obtain ⟨m, hmm⟩ : ∃ m, m = Mm.one s := ⟨_, rfl⟩
 unfold MemoryP at cM
 simp only [← hmm] at cM HM OK ⊢
 obtain ⟨o, ho⟩ : ∃ o, o = m.rfr x := ⟨_, rfl⟩
 rw [← ho]
 have HO := lh ho.symm
 clear h hm hmm ho hb0 hl0 hl
 go_enter Tryz.func30, Tryz.ntmps30
 go_wp2_with fail
 refine cM.mono ?_
 rintro e w1 ⟨gy, rfl, hmr, -, hb1⟩
 have HMR1 := lh hmr
 have HB1 := lh hb1
 have HM1 := lh (MkR0.below HM.out hb1)
 clear hmr hb1 cM
 go_upto_region 2 with fail
 have hbx : Below w1.heap.size w1 (w1.alloc (.cells #[.pointer (some ⟨g', 0, none⟩), .pointer (some ⟨gy, 0, none⟩)] 27)) := (Below.refl _ _).alloc (Nat.le_refl _) _
 have HK : Hid (Bk (w1.alloc (.cells #[.pointer (some ⟨g', 0, none⟩), .pointer (some ⟨gy, 0, none⟩)] 27)) w1.heap.size 27 #[.pointer (some ⟨g', 0, none⟩), .pointer (some ⟨gy, 0, none⟩)]) := lh (Bk.new _ _ _)
 have HMR2 := lh (HMR1.out.below hbx)
 have HM2 := lh (MkR0.below HM1.out hbx)
 have HB2 := lh (HB1.out.trans (hbx.mono HB1.out.size))
 clear hbx HMR1 HM1 HB1
 generalize w1.alloc (.cells #[.pointer (some ⟨g', 0, none⟩), .pointer (some ⟨gy, 0, none⟩)] 27) = w2 at *
 generalize w1.heap.size = gx at *
 have c0 : w2.cell? ⟨gx, 0, none⟩ = some (.pointer (some ⟨g', 0, none⟩)) := HK.out.cell 0
 have c1 : w2.cell? ⟨gx, 1, none⟩ = some (.pointer (some ⟨gy, 0, none⟩)) := HK.out.cell 1
 have cR := refers_any HMR2.out hx
 rw [HO.out] at cR
 rcases o with _ | _ | a
 ·unfold rfrV at cR
  dsimp only at cR
  go_wp2_with fail
  refine cR.mono ?_
  rintro e w3 ⟨rfl, hb3⟩
  have HM3 := lh (MkR0.below HM2.out hb3)
  have HB3 := lh (HB2.out.trans (hb3.mono HB2.out.size))
  clear hb3 cR c0 c1
  go_wp2_with fail
  go_ret
  exact ⟨rfl, HM3.out, Kp.of_below HB3.out⟩
 ·unfold rfrV at cR
  dsimp only at cR
  go_wp2_with fail
  refine cR.mono ?_
  rintro e w3 ⟨rfl, hb3⟩
  have HM3 := lh (MkR0.below HM2.out hb3)
  have HB3 := lh (HB2.out.trans (hb3.mono HB2.out.size))
  clear hb3 cR c0 c1
  go_wp2_with fail
  go_ret
  exact ⟨rfl, HM3.out, Kp.of_below HB3.out⟩
 ·unfold rfrV at cR
  dsimp only at cR
  have hrg := Mm.rfr_rg OK.out HO.out
  go_wp2_with fail
  refine cR.mono ?_
  rintro e w3 ⟨rfl, hb3⟩
  have hk3 := HK.out.below hb3 HK.out.lt
  have HM3 := lh (MkR0.below HM2.out hb3)
  have HB3 := lh (HB2.out.trans (hb3.mono HB2.out.size))
  have cK := keep_any (HMR2.out.below hb3) (show MkR w3 Bm g b m sg wl from HM3.out) HL.out a (by omega)
  clear hb3 cR c0 c1 HMR2 HM2 HB2 hrg
  have c0 : w3.cell? ⟨gx, 0, none⟩ = some (.pointer (some ⟨g', 0, none⟩)) := hk3.cell 0
  have c1 : w3.cell? ⟨gx, 1, none⟩ = some (.pointer (some ⟨gy, 0, none⟩)) := hk3.cell 1
  clear hk3
  go_wp2_with fail
  refine cK.mono ?_
  rintro e w4 ⟨rfl, hm4, hk4⟩
  have HM4 := lh hm4
  have HK4 := lh hk4
  clear hm4 hk4 cK c0 c1
  go_wp2_with fail
  go_ret
  exact ⟨rfl, HM4.out, (Kp.of_below HB3.out).trans HK4.out fun _ _ h => h⟩
end
end Go.Proofs.YtjpaogapclfajaaGreat
namespace Go.Proofs.YtjpaogapclfajaaGreat
open Go.RowKit Go.Sort
set_option maxRecDepth 100000
theorem Words_zero (w : World) : Calls Tryz.prog 100 #[.agg #[.int .i64 0, .int .i64 0, .int .i64 0]] w fun e w' => e = .returned (.int .i64 0) ∧ Below w.heap.size w w' := Words_any Hdr.zero w
section
variable {w : World} {B g : Nat} {s : Spc} {V : Value}
set_option maxHeartbeats 1000000 in
theorem size_short (h : SpR w B g s V) (i : Nat) (hi : s.ws.length < i + 2) (hib : i ≤ s.ws.length) : Calls Tryz.prog 128 #[.pointer (some ⟨g, 0, none⟩), .int .i64 (i : Int)] w fun e w' => e = .returned (.int .i64 0) ∧ Below w.heap.size w w' := by
 obtain ⟨A, c, rfl, hle⟩ := own_shape h.own
 have b0 := h.b0
 have b1 := h.lim
 have b2 := h.l0
 have c2 : w.cell? ⟨g, 2, none⟩ = some (.slice A s.ws.length c) := h.hd.cell 2
 have H := lh h
 clear h
 go_enter Tryz.func128, Tryz.ntmps128
 go_wp2_with fail
 go_ret
 exact ⟨rfl, Below.refl _ _⟩
set_option maxHeartbeats 1000000 in
theorem size_nd (h : SpR w B g s V) (i : Nat) (hi : i + 2 ≤ s.ws.length) {x v : Int} (hx : s.ws[i]? = some x) (hv : s.ws[i + 1]? = some v) (hd : dH x = none) : Calls Tryz.prog 128 #[.pointer (some ⟨g, 0, none⟩), .int .i64 (i : Int)] w fun e w' => e = .returned (.int .i64 0) ∧ Below w.heap.size w w' := by
 have hux := h.u x (List.mem_of_getElem? hx)
 have huv := h.u v (List.mem_of_getElem? hv)
 obtain ⟨A, c, rfl, hle⟩ := own_shape h.own
 have b0 := h.b0
 have b1 := h.lim
 have b2 := h.l0
 have c2 : w.cell? ⟨g, 2, none⟩ = some (.slice A s.ws.length c) := h.hd.cell 2
 have H := lh h
 obtain ⟨b, oo, rfl, hbl, hcells⟩ := (own_sl h.own).get (k := i) (by omega)
 have cx : w.cell? ⟨b, oo + i, none⟩ = some (.int .u64 x) := hcells i _ (wds_get hx)
 have CX := lh cx
 have CV := lh (show w.cell? ⟨b, oo + (i + 1), none⟩ = some (.int .u64 v) from hcells (i + 1) _ (wds_get hv))
 have i1 : i < c := by omega
 have i2 : i + 1 < c := by omega
 have i3 : i < s.ws.length := by omega
 have i4 : i + 1 < s.ws.length := by omega
 have j3 : (i : Int) < (s.ws.length : Int) := by omega
 have j4 : (i : Int) + 1 < (s.ws.length : Int) := by omega
 have cD := fun w => Decode_none hux hd w
 have cW := fun w => Words_zero w
 clear h hcells hx hv hux huv hd
 go_enter Tryz.func128, Tryz.ntmps128
 go_wp2_with fail
 refine (cD _).mono ?_
 rintro e w1 ⟨rfl, hb⟩
 have HB1 := lh hb
 have hsz := hb.size
 have q2 := (Bk.new w1 55 #[.int .i64 0, .int .i64 0, .int .i64 0])
 have hB2 := hb.alloc hb.size (.cells #[.int .i64 0, .int .i64 0, .int .i64 0] 55)
 clear hb
 go_upto_region 4 with fail
 obtain ⟨w2, hw2⟩ : ∃ w2, w1.alloc (.cells #[.int .i64 0, .int .i64 0, .int .i64 0] 55) = w2 := ⟨_, rfl⟩
 rw [hw2] at q2 hB2 ⊢
 have HB2 := lh hB2
 have k0 := q2.cell 0
 have k1 := q2.cell 1
 have k2 := q2.cell 2
 simp only [List.getElem?_toArray, List.getElem?_cons_zero, List.getElem?_cons_succ] at k0 k1 k2
 clear hw2 q2 hB2
 go_wp2_with fail
 refine (cW _).mono ?_
 rintro e w3 ⟨rfl, hb⟩
 have HB3 := lh (HB2.out.trans (hb.mono HB2.out.size))
 have c23 : w3.cell? ⟨g, 2, none⟩ = some (.slice (some ⟨b, oo, none⟩) s.ws.length c) := (H.out.below HB3.out).hd.cell 2
 have cv : w3.cell? ⟨b, oo + (i + 1), none⟩ = some (.int .u64 v) := ((bcell HB3.out).1 _ _ hbl).trans CV.out
 clear hb k0 k1 k2
 go_wp2_with fail
 go_ret
 exact ⟨rfl, HB3.out⟩
set_option maxHeartbeats 1000000 in
theorem size_id (h : SpR w B g s V) (i : Nat) (hi : i + 2 ≤ s.ws.length) {x v : Int} (hx : s.ws[i]? = some x) (hv : s.ws[i + 1]? = some v) {hh : Hdr} (hd : dH x = some hh) (hz : dI v = Id.zero) : Calls Tryz.prog 128 #[.pointer (some ⟨g, 0, none⟩), .int .i64 (i : Int)] w fun e w' => e = .returned (.int .i64 0) ∧ Below w.heap.size w w' := by
 have hux := h.u x (List.mem_of_getElem? hx)
 have huv := h.u v (List.mem_of_getElem? hv)
 obtain ⟨A, c, rfl, hle⟩ := own_shape h.own
 have b0 := h.b0
 have b1 := h.lim
 have b2 := h.l0
 have c2 : w.cell? ⟨g, 2, none⟩ = some (.slice A s.ws.length c) := h.hd.cell 2
 have H := lh h
 obtain ⟨b, oo, rfl, hbl, hcells⟩ := (own_sl h.own).get (k := i) (by omega)
 have cx : w.cell? ⟨b, oo + i, none⟩ = some (.int .u64 x) := hcells i _ (wds_get hx)
 have CX := lh cx
 have CV := lh (show w.cell? ⟨b, oo + (i + 1), none⟩ = some (.int .u64 v) from hcells (i + 1) _ (wds_get hv))
 have i1 : i < c := by omega
 have i2 : i + 1 < c := by omega
 have i3 : i < s.ws.length := by omega
 have i4 : i + 1 < s.ws.length := by omega
 have j3 : (i : Int) < (s.ws.length : Int) := by omega
 have j4 : (i : Int) + 1 < (s.ws.length : Int) := by omega
 have cD := fun w => Decode_some hux hd w
 have cW := fun w => Words_of hh w
 have hwb := wH_bound hh
 have cI := fun w => DecodeID_zero huv hz w
 clear h hcells hx hv hux huv hd hz
 go_enter Tryz.func128, Tryz.ntmps128
 go_wp2_with fail
 refine (cD _).mono ?_
 rintro e w1 ⟨rfl, hb⟩
 have HB1 := lh hb
 have hsz := hb.size
 have q2 := (Bk.new w1 55 #[.int .i64 hh.k, .int .i64 hh.c, .int .i64 hh.f])
 have hB2 := hb.alloc hb.size (.cells #[.int .i64 hh.k, .int .i64 hh.c, .int .i64 hh.f] 55)
 clear hb
 go_upto_region 4 with fail
 obtain ⟨w2, hw2⟩ : ∃ w2, w1.alloc (.cells #[.int .i64 hh.k, .int .i64 hh.c, .int .i64 hh.f] 55) = w2 := ⟨_, rfl⟩
 rw [hw2] at q2 hB2 ⊢
 have HB2 := lh hB2
 have k0 := q2.cell 0
 have k1 := q2.cell 1
 have k2 := q2.cell 2
 simp only [List.getElem?_toArray, List.getElem?_cons_zero, List.getElem?_cons_succ] at k0 k1 k2
 clear hw2 q2 hB2
 go_wp2_with fail
 refine (cW _).mono ?_
 rintro e w3 ⟨rfl, hb⟩
 have HB3 := lh (HB2.out.trans (hb.mono HB2.out.size))
 have c23 : w3.cell? ⟨g, 2, none⟩ = some (.slice (some ⟨b, oo, none⟩) s.ws.length c) := (H.out.below HB3.out).hd.cell 2
 have cv : w3.cell? ⟨b, oo + (i + 1), none⟩ = some (.int .u64 v) := ((bcell HB3.out).1 _ _ hbl).trans CV.out
 clear hb k0 k1 k2
 go_wp2_with fail
 refine (cI _).mono ?_
 rintro e w4 ⟨rfl, hb⟩
 have HB4 := lh (HB3.out.trans (hb.mono HB3.out.size))
 have c24 : w4.cell? ⟨g, 2, none⟩ = some (.slice (some ⟨b, oo, none⟩) s.ws.length c) := (H.out.below HB4.out).hd.cell 2
 clear hb
 go_wp2_with fail
 go_ret
 exact ⟨rfl, HB4.out⟩
set_option maxHeartbeats 1000000 in
theorem size_far (h : SpR w B g s V) (i : Nat) (hi : i + 2 ≤ s.ws.length) {x v : Int} (hx : s.ws[i]? = some x) (hv : s.ws[i + 1]? = some v) {hh : Hdr} (hd : dH x = some hh) (hz : dI v ≠ Id.zero) (hn : s.ws.length < i + wH hh) : Calls Tryz.prog 128 #[.pointer (some ⟨g, 0, none⟩), .int .i64 (i : Int)] w fun e w' => e = .returned (.int .i64 0) ∧ Below w.heap.size w w' := by
 have hux := h.u x (List.mem_of_getElem? hx)
 have huv := h.u v (List.mem_of_getElem? hv)
 obtain ⟨A, c, rfl, hle⟩ := own_shape h.own
 have b0 := h.b0
 have b1 := h.lim
 have b2 := h.l0
 have c2 : w.cell? ⟨g, 2, none⟩ = some (.slice A s.ws.length c) := h.hd.cell 2
 have H := lh h
 obtain ⟨b, oo, rfl, hbl, hcells⟩ := (own_sl h.own).get (k := i) (by omega)
 have cx : w.cell? ⟨b, oo + i, none⟩ = some (.int .u64 x) := hcells i _ (wds_get hx)
 have CX := lh cx
 have CV := lh (show w.cell? ⟨b, oo + (i + 1), none⟩ = some (.int .u64 v) from hcells (i + 1) _ (wds_get hv))
 have i1 : i < c := by omega
 have i2 : i + 1 < c := by omega
 have i3 : i < s.ws.length := by omega
 have i4 : i + 1 < s.ws.length := by omega
 have j3 : (i : Int) < (s.ws.length : Int) := by omega
 have j4 : (i : Int) + 1 < (s.ws.length : Int) := by omega
 have cD := fun w => Decode_some hux hd w
 have cW := fun w => Words_of hh w
 have hwb := wH_bound hh
 obtain ⟨pq, qq, hp, cI⟩ : ∃ p q : Int, Hid ((p == 0) = false) ∧ ∀ w, Calls Tryz.prog 86 #[.int .u64 v] w fun e w' => e = .returned (.agg #[.int .i64 p, .int .i64 q]) ∧ Below w.heap.size w w' :=
  ⟨(dI v).m, (dI v).s, lh (by have h1 := (vI_iff _).1 (dI_ne hz); simp; omega), fun w => DecodeID_any huv w⟩
 have hpo := hp.out
 clear h hcells hx hv hux huv hd hz
 go_enter Tryz.func128, Tryz.ntmps128
 go_wp2_with fail
 refine (cD _).mono ?_
 rintro e w1 ⟨rfl, hb⟩
 have HB1 := lh hb
 have hsz := hb.size
 have q2 := (Bk.new w1 55 #[.int .i64 hh.k, .int .i64 hh.c, .int .i64 hh.f])
 have hB2 := hb.alloc hb.size (.cells #[.int .i64 hh.k, .int .i64 hh.c, .int .i64 hh.f] 55)
 clear hb
 go_upto_region 4 with fail
 obtain ⟨w2, hw2⟩ : ∃ w2, w1.alloc (.cells #[.int .i64 hh.k, .int .i64 hh.c, .int .i64 hh.f] 55) = w2 := ⟨_, rfl⟩
 rw [hw2] at q2 hB2 ⊢
 have HB2 := lh hB2
 have k0 := q2.cell 0
 have k1 := q2.cell 1
 have k2 := q2.cell 2
 simp only [List.getElem?_toArray, List.getElem?_cons_zero, List.getElem?_cons_succ] at k0 k1 k2
 clear hw2 q2 hB2
 go_wp2_with fail
 refine (cW _).mono ?_
 rintro e w3 ⟨rfl, hb⟩
 have HB3 := lh (HB2.out.trans (hb.mono HB2.out.size))
 have c23 : w3.cell? ⟨g, 2, none⟩ = some (.slice (some ⟨b, oo, none⟩) s.ws.length c) := (H.out.below HB3.out).hd.cell 2
 have cv : w3.cell? ⟨b, oo + (i + 1), none⟩ = some (.int .u64 v) := ((bcell HB3.out).1 _ _ hbl).trans CV.out
 clear hb k0 k1 k2
 go_wp2_with fail
 refine (cI _).mono ?_
 rintro e w4 ⟨rfl, hb⟩
 have HB4 := lh (HB3.out.trans (hb.mono HB3.out.size))
 have c24 : w4.cell? ⟨g, 2, none⟩ = some (.slice (some ⟨b, oo, none⟩) s.ws.length c) := (H.out.below HB4.out).hd.cell 2
 clear hb
 go_wp2_with fail
 go_ret
 exact ⟨rfl, HB4.out⟩
set_option maxHeartbeats 1000000 in
theorem size_ok (h : SpR w B g s V) (i : Nat) (hi : i + 2 ≤ s.ws.length) {x v : Int} (hx : s.ws[i]? = some x) (hv : s.ws[i + 1]? = some v) {hh : Hdr} (hd : dH x = some hh) (hz : dI v ≠ Id.zero) (hn : i + wH hh ≤ s.ws.length) : Calls Tryz.prog 128 #[.pointer (some ⟨g, 0, none⟩), .int .i64 (i : Int)] w fun e w' => e = .returned (.int .i64 (wH hh)) ∧ Below w.heap.size w w' := by
 have hux := h.u x (List.mem_of_getElem? hx)
 have huv := h.u v (List.mem_of_getElem? hv)
 obtain ⟨A, c, rfl, hle⟩ := own_shape h.own
 have b0 := h.b0
 have b1 := h.lim
 have b2 := h.l0
 have c2 : w.cell? ⟨g, 2, none⟩ = some (.slice A s.ws.length c) := h.hd.cell 2
 have H := lh h
 obtain ⟨b, oo, rfl, hbl, hcells⟩ := (own_sl h.own).get (k := i) (by omega)
 have cx : w.cell? ⟨b, oo + i, none⟩ = some (.int .u64 x) := hcells i _ (wds_get hx)
 have CX := lh cx
 have CV := lh (show w.cell? ⟨b, oo + (i + 1), none⟩ = some (.int .u64 v) from hcells (i + 1) _ (wds_get hv))
 have i1 : i < c := by omega
 have i2 : i + 1 < c := by omega
 have i3 : i < s.ws.length := by omega
 have i4 : i + 1 < s.ws.length := by omega
 have j3 : (i : Int) < (s.ws.length : Int) := by omega
 have j4 : (i : Int) + 1 < (s.ws.length : Int) := by omega
 have cD := fun w => Decode_some hux hd w
 have cW := fun w => Words_of hh w
 have hwb := wH_bound hh
 obtain ⟨pq, qq, hp, cI⟩ : ∃ p q : Int, Hid ((p == 0) = false) ∧ ∀ w, Calls Tryz.prog 86 #[.int .u64 v] w fun e w' => e = .returned (.agg #[.int .i64 p, .int .i64 q]) ∧ Below w.heap.size w w' :=
  ⟨(dI v).m, (dI v).s, lh (by have h1 := (vI_iff _).1 (dI_ne hz); simp; omega), fun w => DecodeID_any huv w⟩
 have hpo := hp.out
 clear h hcells hx hv hux huv hd hz
 go_enter Tryz.func128, Tryz.ntmps128
 go_wp2_with fail
 refine (cD _).mono ?_
 rintro e w1 ⟨rfl, hb⟩
 have HB1 := lh hb
 have hsz := hb.size
 have q2 := (Bk.new w1 55 #[.int .i64 hh.k, .int .i64 hh.c, .int .i64 hh.f])
 have hB2 := hb.alloc hb.size (.cells #[.int .i64 hh.k, .int .i64 hh.c, .int .i64 hh.f] 55)
 clear hb
 go_upto_region 4 with fail
 obtain ⟨w2, hw2⟩ : ∃ w2, w1.alloc (.cells #[.int .i64 hh.k, .int .i64 hh.c, .int .i64 hh.f] 55) = w2 := ⟨_, rfl⟩
 rw [hw2] at q2 hB2 ⊢
 have HB2 := lh hB2
 have k0 := q2.cell 0
 have k1 := q2.cell 1
 have k2 := q2.cell 2
 simp only [List.getElem?_toArray, List.getElem?_cons_zero, List.getElem?_cons_succ] at k0 k1 k2
 clear hw2 q2 hB2
 go_wp2_with fail
 refine (cW _).mono ?_
 rintro e w3 ⟨rfl, hb⟩
 have HB3 := lh (HB2.out.trans (hb.mono HB2.out.size))
 have c23 : w3.cell? ⟨g, 2, none⟩ = some (.slice (some ⟨b, oo, none⟩) s.ws.length c) := (H.out.below HB3.out).hd.cell 2
 have cv : w3.cell? ⟨b, oo + (i + 1), none⟩ = some (.int .u64 v) := ((bcell HB3.out).1 _ _ hbl).trans CV.out
 clear hb k0 k1 k2
 go_wp2_with fail
 refine (cI _).mono ?_
 rintro e w4 ⟨rfl, hb⟩
 have HB4 := lh (HB3.out.trans (hb.mono HB3.out.size))
 have c24 : w4.cell? ⟨g, 2, none⟩ = some (.slice (some ⟨b, oo, none⟩) s.ws.length c) := (H.out.below HB4.out).hd.cell 2
 clear hb
 go_wp2_with fail
 go_ret
 exact ⟨rfl, HB4.out⟩
theorem size_any (h : SpR w B g s V) (i : Nat) (hib : i ≤ s.ws.length) : Calls Tryz.prog 128 #[.pointer (some ⟨g, 0, none⟩), .int .i64 (i : Int)] w fun e w' => e = .returned (.int .i64 (s.size i : Int)) ∧ Below w.heap.size w w' := by
 by_cases hi : i + 2 ≤ s.ws.length
 ·have hx : s.ws[i]? = some (s.ws[i]'(by omega)) := List.getElem?_eq_getElem _
  have hv : s.ws[i + 1]? = some (s.ws[i + 1]'(by omega)) := List.getElem?_eq_getElem _
  generalize s.ws[i]'(by omega) = x at hx
  generalize s.ws[i + 1]'(by omega) = v at hv
  unfold Spc.size
  simp only [hx, hv]
  cases hd : dH x with
  | none => exact size_nd h i hi hx hv hd
  | some hh =>
   simp only []
   by_cases hz : dI v = Id.zero
   ·rw [if_neg (by simp [hz])]; exact size_id h i hi hx hv hd hz
   ·by_cases hn : i + wH hh ≤ s.ws.length
    ·rw [if_pos ⟨hz, hn⟩]
     have := wH_bound hh
     rw [show (((wH hh).toNat : Nat) : Int) = wH hh by omega]
     exact size_ok h i hi hx hv hd hz hn
    ·rw [if_neg (fun h => hn h.2)]; exact size_far h i hi hx hv hd hz (by omega)
 ·have : s.size i = 0 := by
   have := s.size_le i
   omega
  rw [this]
  exact size_short h i (by omega) hib
end
end Go.Proofs.YtjpaogapclfajaaGreat
