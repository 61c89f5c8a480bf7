/- Parts of the proof: Fwd. -/
import Derived.Deep.LoopGhost
import Derived.Test.YtjpaogapclfajaaGreatBcA
import Derived.Test.YtjpaogapclfajaaGreatBc0
import Derived.Test.YtjpaogapclfajaaGreatBc5
set_option linter.unusedVariables false
set_option linter.unusedSimpArgs false
set_option linter.unusedSectionVars false
namespace Go.Proofs.YtjpaogapclfajaaGreat
theorem nodup_len : ∀ (l all : List Int), l.Nodup → (∀ x ∈ l, x ∈ all) → l.length ≤ all.length
 | [], _, _, _ => Nat.zero_le _
 | x :: l, all, hd, h => by
  have hx := h x (List.mem_cons_self ..)
  obtain ⟨h1, h2⟩ := List.nodup_cons.1 hd
  have := nodup_len l (all.erase x) h2 fun y hy => by
   have hne : y ≠ x := fun e => h1 (e ▸ hy)
   exact (List.mem_erase_of_ne hne).2 (h y (List.mem_cons_of_mem _ hy))
  rw [List.length_erase_of_mem hx] at this
  have h3 : 0 < all.length := List.length_pos_of_mem hx
  simp only [List.length_cons]
  omega
def Mm.Led (m : Mm) : List Int → Int → Prop
 | [], _ => True
 | b :: s, a => m.nxt b = some (some a) ∧ m.Led s b
theorem Mm.Led.next {m : Mm} : ∀ {s : List Int} {a : Int}, m.Led s a → ∀ y ∈ s, ∃ z, m.nxt y = some (some z) ∧ (z = a ∨ z ∈ s)
 | [], _, _, y, hy => by cases hy
 | b :: s, a, ⟨h1, h2⟩, y, hy => by
  rcases List.mem_cons.1 hy with rfl | hy
  ·exact ⟨a, h1, .inl rfl⟩
  ·obtain ⟨z, hz, h3⟩ := Mm.Led.next h2 y hy
   refine ⟨z, hz, .inr ?_⟩
   rcases h3 with rfl | h3
   ·exact List.mem_cons_self ..
   ·exact List.mem_cons_of_mem _ h3
theorem Mm.Led.cycle {m : Mm} {s : List Int} {a : Int} (h : m.Led s a) (ha : a ∈ s) : ∀ k, ∀ y ∈ s, m.resN k y = none
 | 0, _, _ => rfl
 | k + 1, y, hy => by
  obtain ⟨z, hz, h3⟩ := h.next y hy
  have : z ∈ s := by
   rcases h3 with rfl | h3
   ·exact ha
   ·exact h3
  unfold Mm.resN
  rw [hz]
  exact h.cycle ha k z this
structure ResI (m : Mm) (a0 a : Int) (s : List Int) : Prop where
 led : m.Led s a
 nd : s.Nodup
 has : ∀ y ∈ s, m.has y = true
 eq : m.resN (m.size + 1) a0 = m.resN (m.size + 1 - s.length) a
theorem ResI.new (m : Mm) (a : Int) : ResI m a a [] := ⟨trivial, List.nodup_nil, fun y hy => (List.not_mem_nil hy).elim, rfl⟩
theorem Mm.all_has (m : Mm) (y : Int) (h : m.has y = true) : y ∈ (List.range m.old.ws.length).map (fun i : Nat => m.old.base + (i : Int)) ++ (List.range m.yng.ws.length).map (fun i : Nat => m.yng.base + (i : Int)) := by
 unfold Mm.has Mm.sp at h
 rw [List.mem_append]
 by_cases ho : m.old.has y = true
 ·have := Spc.has_iff.1 ho
  exact .inl (List.mem_map.2 ⟨(y - m.old.base).toNat, List.mem_range.2 (by omega), by omega⟩)
 ·rw [if_neg ho] at h
  have := Spc.has_iff.1 h
  exact .inr (List.mem_map.2 ⟨(y - m.yng.base).toNat, List.mem_range.2 (by omega), by omega⟩)
section
variable {m : Mm} {a0 a b : Int} {s : List Int}
theorem ResI.len (h : ResI m a0 a s) : s.length ≤ m.size := by
 have := nodup_len s _ h.nd fun y hy => m.all_has y (h.has y hy)
 simpa [Mm.size] using this
theorem ResI.seen (h : ResI m a0 a s) (ha : a ∈ s) : m.resN (m.size + 1) a0 = none := by
 rw [h.eq]
 exact h.led.cycle ha _ a ha
theorem ResI.stop (h : ResI m a0 a s) : m.resN (m.size + 1) a0 = match m.nxt a with
  | none => none
  | some none => some a
  | some (some b) => m.resN (m.size + 1 - (s.length + 1)) b := by
 have := h.len
 rw [h.eq, show m.size + 1 - s.length = (m.size + 1 - (s.length + 1)) + 1 by omega]
 conv => lhs; unfold Mm.resN
 rcases m.nxt a with _ | _ | _ <;> rfl
theorem Mm.nxt_has (h : m.nxt a = some (some b)) : m.has a = true := by
 unfold Mm.nxt at h
 split at h
 ·cases h
 ·rename_i h0
  have h0 : (m.hdr a).1 = 0 := Decidable.not_not.1 h0
  have := Mm.has_of_hdr h0 (j := 0) (Int.le_refl 0) (by have := wH_ge (Mm.hdr_valid h0); omega)
  rwa [Int.add_zero] at this
theorem ResI.next (h : ResI m a0 a s) (ha : a ∉ s) (hn : m.nxt a = some (some b)) : ResI m a0 b (a :: s) := by
 refine ⟨⟨hn, h.led⟩, List.nodup_cons.2 ⟨ha, h.nd⟩, fun y hy => ?_, ?_⟩
 ·rcases List.mem_cons.1 hy with rfl | hy
  ·exact Mm.nxt_has hn
  ·exact h.has y hy
 ·have := h.stop
  rw [hn] at this
  exact this
end
end Go.Proofs.YtjpaogapclfajaaGreat
namespace Go.Proofs.YtjpaogapclfajaaGreat
open Go.RowKit
set_option maxRecDepth 100000
/-- the error of 'is' -/
def isE (m : Mm) (a : Int) (q : Bool) : Int := if (m.hdr a).1 ≠ 0 then (m.hdr a).1 else if q = false then 7 else 0
section
variable {w : World} {B g1 g2 : Nat} {V1 V2 : Value} {m : Mm}
theorem fwd1_any (h : Hdr) (w : World) : Calls Tryz.prog 107 #[.agg #[.int .i64 h.k, .int .i64 h.c, .int .i64 h.f]] w fun e w' => e = .returned (.bool (decide (h.k ≠ 4))) ∧ Below w.heap.size w w' := by
 have HB : Hid (Below w.heap.size w (w.alloc (.cells #[.int .i64 h.k, .int .i64 h.c, .int .i64 h.f] 55))) := lh ((Below.refl _ _).alloc (Nat.le_refl _) _)
 by_cases hk : h.k = 4
 ·have hd : decide (h.k ≠ 4) = false := decide_eq_false (fun e => e hk)
  have hb : (h.k != 4) = false := by simp [hk]
  rw [hd]
  clear hd hk
  go_enter Tryz.func107, Tryz.ntmps107
  go_wp2_with fail
  go_ret
  exact ⟨rfl, HB.out⟩
 ·have hd : decide (h.k ≠ 4) = true := decide_eq_true hk
  have hb : (h.k != 4) = true := by simp [hk]
  rw [hd]
  clear hd hk
  go_enter Tryz.func107, Tryz.ntmps107
  go_wp2_with fail
  go_ret
  exact ⟨rfl, HB.out⟩
theorem stub1_any (h : Hdr) (w : World) : Calls Tryz.prog 103 #[.agg #[.int .i64 h.k, .int .i64 h.c, .int .i64 h.f]] w fun e w' => e = .returned (.bool (!stB h)) ∧ Below w.heap.size w w' := by
 have HB : Hid (Below w.heap.size w (w.alloc (.cells #[.int .i64 h.k, .int .i64 h.c, .int .i64 h.f] 55))) := lh ((Below.refl _ _).alloc (Nat.le_refl _) _)
 have cS := fun w => stands_any h.k h.c h.f w
 change ∀ w, Calls _ _ _ w (fun e w' => e = .returned (.bool (stB h)) ∧ _) at cS
 generalize stB h = s at cS ⊢
 go_enter Tryz.func103, Tryz.ntmps103
 go_wp2_with fail
 refine (cS _).mono ?_
 rintro e w2 ⟨rfl, hb⟩
 have HB2 := lh (HB.out.trans (hb.mono HB.out.size))
 clear hb
 go_wp2_with fail
 go_ret
 exact ⟨rfl, HB2.out⟩
theorem isF_any (h : MR w B g1 g2 V1 V2 m) (a : Int) : Calls Tryz.prog 102 #[memV g1 g2, .int .i64 a, .func (.func 107) #[] #[]] w fun e w' => e = .returned (.int .i64 (isE m a (decide ((m.hdr a).2.k ≠ 4)))) ∧ Below w.heap.size w w' := by
 have HB := lh (boxM w g1 g2)
 have cH := MHeader_any (h.below HB.out) a
 have cQ := fun w => fwd1_any (m.hdr a).2 w
 unfold isE
 unfold hdrV Hdr.val at cH
 unfold memV at cH ⊢
 clear h
 obtain ⟨er, he⟩ : ∃ er, er = (m.hdr a).1 := ⟨_, rfl⟩
 obtain ⟨q, hq⟩ : ∃ q, q = (decide ((m.hdr a).2.k ≠ 4)) := ⟨_, rfl⟩
 obtain ⟨⟨hk, hc, hf⟩, hh⟩ : ∃ x, x = (m.hdr a).2 := ⟨_, rfl⟩
 rw [← hh] at cH cQ hq ⊢
 simp only at cH cQ
 rw [← he] at cH ⊢
 rw [← hq] at cQ ⊢
 clear he hh hq
 by_cases h0 : er = 0
 ·subst h0
  rw [if_neg (by decide)]
  go_enter Tryz.func102, Tryz.ntmps102
  go_wp2_with fail
  refine cH.mono ?_
  rintro e w1 ⟨rfl, hb⟩
  have HB1 := lh (HB.out.trans (hb.mono HB.out.size))
  clear hb cH
  cases q with
  | false =>
   go_wp2_with fail
   refine (cQ _).mono ?_
   rintro e w2 ⟨rfl, hb2⟩
   have HB2 := lh (HB1.out.trans (((Below.refl _ _).alloc (Nat.le_refl _) _ |>.trans (hb2.mono (by simp))).mono HB1.out.size))
   clear hb2
   go_wp2_with fail
   go_ret
   exact ⟨rfl, HB2.out⟩
  | true =>
   go_wp2_with fail
   refine (cQ _).mono ?_
   rintro e w2 ⟨rfl, hb2⟩
   have HB2 := lh (HB1.out.trans (((Below.refl _ _).alloc (Nat.le_refl _) _ |>.trans (hb2.mono (by simp))).mono HB1.out.size))
   clear hb2
   go_wp2_with fail
   go_ret
   exact ⟨rfl, HB2.out⟩
 ·rw [if_pos h0]
  have h1 : (er == 0) = false := by simp [h0]
  go_enter Tryz.func102, Tryz.ntmps102
  go_wp2_with fail
  refine cH.mono ?_
  rintro e w1 ⟨rfl, hb⟩
  have HB1 := lh (HB.out.trans (hb.mono HB.out.size))
  clear hb cH
  go_wp2_with fail
  go_ret
  exact ⟨rfl, HB1.out.trans (((Below.refl _ _).alloc (Nat.le_refl _) _).mono HB1.out.size)⟩
theorem isS_any (h : MR w B g1 g2 V1 V2 m) (a : Int) : Calls Tryz.prog 102 #[memV g1 g2, .int .i64 a, .func (.func 103) #[] #[]] w fun e w' => e = .returned (.int .i64 (isE m a (!stB (m.hdr a).2))) ∧ Below w.heap.size w w' := by
 have HB := lh (boxM w g1 g2)
 have cH := MHeader_any (h.below HB.out) a
 have cQ := fun w => stub1_any (m.hdr a).2 w
 unfold isE
 unfold hdrV Hdr.val at cH
 unfold memV at cH ⊢
 clear h
 obtain ⟨er, he⟩ : ∃ er, er = (m.hdr a).1 := ⟨_, rfl⟩
 obtain ⟨q, hq⟩ : ∃ q, q = (!stB (m.hdr a).2) := ⟨_, rfl⟩
 obtain ⟨⟨hk, hc, hf⟩, hh⟩ : ∃ x, x = (m.hdr a).2 := ⟨_, rfl⟩
 rw [← hh] at cH cQ hq ⊢
 simp only at cH cQ
 rw [← he] at cH ⊢
 rw [← hq] at cQ ⊢
 clear he hh hq
 by_cases h0 : er = 0
 ·subst h0
  rw [if_neg (by decide)]
  go_enter Tryz.func102, Tryz.ntmps102
  go_wp2_with fail
  refine cH.mono ?_
  rintro e w1 ⟨rfl, hb⟩
  have HB1 := lh (HB.out.trans (hb.mono HB.out.size))
  clear hb cH
  cases q with
  | false =>
   go_wp2_with fail
   refine (cQ _).mono ?_
   rintro e w2 ⟨rfl, hb2⟩
   have HB2 := lh (HB1.out.trans (((Below.refl _ _).alloc (Nat.le_refl _) _ |>.trans (hb2.mono (by simp))).mono HB1.out.size))
   clear hb2
   go_wp2_with fail
   go_ret
   exact ⟨rfl, HB2.out⟩
  | true =>
   go_wp2_with fail
   refine (cQ _).mono ?_
   rintro e w2 ⟨rfl, hb2⟩
   have HB2 := lh (HB1.out.trans (((Below.refl _ _).alloc (Nat.le_refl _) _ |>.trans (hb2.mono (by simp))).mono HB1.out.size))
   clear hb2
   go_wp2_with fail
   go_ret
   exact ⟨rfl, HB2.out⟩
 ·rw [if_pos h0]
  have h1 : (er == 0) = false := by simp [h0]
  go_enter Tryz.func102, Tryz.ntmps102
  go_wp2_with fail
  refine cH.mono ?_
  rintro e w1 ⟨rfl, hb⟩
  have HB1 := lh (HB.out.trans (hb.mono HB.out.size))
  clear hb cH
  go_wp2_with fail
  go_ret
  exact ⟨rfl, HB1.out.trans (((Below.refl _ _).alloc (Nat.le_refl _) _).mono HB1.out.size)⟩
end
end Go.Proofs.YtjpaogapclfajaaGreat
namespace Go.Proofs.YtjpaogapclfajaaGreat
open Go.RowKit
set_option maxRecDepth 100000
theorem Sl.kpN {S : Nat → Prop} {w w' : World} {k n : Nat} {A : Option Addr} {xs : List Value} (h : Sl w k A n xs) (hk : Kp S w w') (hn : ∀ b o, A = some ⟨b, o, none⟩ → ¬ S b) : Sl w' k A n xs := by
 refine ⟨h.1, ?_⟩
 rcases h.2 with h0 | ⟨b, o, e, hb, hc⟩
 ·exact .inl h0
 ·refine .inr ⟨b, o, e, Nat.lt_of_lt_of_le hb hk.size, fun j x hx => ?_⟩
  rw [← hc j x hx]
  exact World.cell?_of_block (hk.block b hb (hn b o e))
theorem MR.bkN {w w' : World} {B g1 g2 g : Nat} {V1 V2 : Value} {m : Mm} (h : MR w B g1 g2 V1 V2 m) (hk : Kp (memS V1 V2) w w') {t : TypeId} {C : Array Value} (hg : Bk w g t C) (ht : t ≠ 51) : Bk w' g t C :=
 hg.kp hk fun e => e.elim (h.o.own_ne hg ht) (h.y.own_ne hg ht)
section
variable {w : World} {B g1 g2 : Nat} {V1 V2 : Value} {m : Mm}
set_option maxHeartbeats 4000000 in
theorem MWrite_any (h : MR w B g1 g2 V1 V2 m) {a kind : Int} (hh : (m.hdr a).1 = 0) (hk : kind = 3 ∨ kind = 4) {pl : List Int} (hp : ∀ x ∈ pl, U64 x) {A : Option Addr} {cc : Nat} (hs : Sl w 1 A pl.length (wds pl)) (hcc : pl.length ≤ cc) (hl : pl.length ≤ 2) (hn : ∀ b o, A = some ⟨b, o, none⟩ → ¬ memS V1 V2 b) :
  Calls Tryz.prog 106 #[memV g1 g2, .int .i64 a, .int .i64 kind, .slice A pl.length cc] w fun e w' => e = .returned (.tuple #[]) ∧ MR w' B g1 g2 V1 V2 (m.write a kind pl) ∧ Kp (memS V1 V2) w w' := by
 obtain ⟨x, v, hx, hdx, _, _, _⟩ := Spc.hdr_ok hh
 have hx2 : m.at_ a = some x := hx
 have hdx : dH x = some (m.hdr a).2 := hdx
 have HV : Hid (vH (m.hdr a).2 = true) := lh (Mm.hdr_valid hh)
 have HA : Hid (0 ≤ a ∧ a ≤ 4294967296) := lh (by
  have h1 := Mm.hdr_has hh
  unfold Mm.has Mm.sp at h1
  split at h1
  ·have := h.ok.old_lt h1; omega
  ·have := h.ok.yng_ge h1; omega)
 have HM : Hid (m.has a = true) := lh (Mm.hdr_has hh)
 obtain ⟨⟨k1, c1, f1⟩, hhd⟩ : ∃ hd, m.hdr a = (0, hd) := ⟨(m.hdr a).2, Prod.ext hh rfl⟩
 have HHD := lh hhd
 have hb0 := boxM w g1 g2
 have H0 := lh (h.below hb0)
 have HQ0 : Hid (Bk (w.alloc (.cells #[.pointer (some ⟨g1, 0, none⟩), .pointer (some ⟨g2, 0, none⟩)] 27)) w.heap.size 27 #[.pointer (some ⟨g1, 0, none⟩), .pointer (some ⟨g2, 0, none⟩)]) := lh (Bk.here _ _ _ rfl)
 have HS0 := lh (hs.below hb0)
 have cH := MHeader_any H0.out a
 have cW := fun w => Words_of (m.hdr a).2 w
 have xu : U64 x := h.ok.at_u hx2
 have cC := fun w => Change_any xu kind w
 unfold chV at cC
 rw [hdx] at cC
 rw [hhd] at cH cW cC HV
 simp only [if_pos hk] at cC
 unfold hdrV Hdr.val at cH
 simp only at cH cW HV
 have HB0 := lh hb0
 have HP := lh hp
 have HNA := lh hn
 have HXX := lh hx2
 unfold memV
 clear h hs hb0 hx hx2 hdx hhd xu hp hn hh
 go_enter Tryz.func106, Tryz.ntmps106
 go_wp2_with fail
 generalize w.alloc (.cells #[.pointer (some ⟨g1, 0, none⟩), .pointer (some ⟨g2, 0, none⟩)] 27) = w0 at *
 generalize w.heap.size = b0 at HQ0 ⊢
 refine cH.mono ?_
 rintro e w1 ⟨rfl, hb⟩
 have hb1 := HB0.out.trans (hb.mono HB0.out.size)
 have HB1 := lh hb1
 have H1 := lh (H0.out.below hb)
 have HQ1 := lh (HQ0.out.below hb HQ0.out.lt)
 have HS1 := lh (HS0.out.below hb)
 clear hb hb1 cH
 have q0 : w1.cell? ⟨b0, 0, none⟩ = some (.pointer (some ⟨g1, 0, none⟩)) := HQ1.out.cell 0
 have q1 : w1.cell? ⟨b0, 1, none⟩ = some (.pointer (some ⟨g2, 0, none⟩)) := HQ1.out.cell 1
 have hne : b0 ≠ w1.heap.size := Nat.ne_of_lt HQ1.out.lt
 have hne2 := hne.symm
 have hlt : b0 < w1.heap.size := HQ1.out.lt
 go_wp2_with fail
 clear q0 q1 hne
 have hb := (Below.refl _ w1).alloc (Nat.le_refl _) (.cells #[.int .i64 k1, .int .i64 c1, .int .i64 f1] 55)
 have HB2 := lh (HB1.out.trans (hb.mono HB1.out.size))
 have H2 := lh (H1.out.below hb)
 have HQ2 := lh (HQ1.out.below hb HQ1.out.lt)
 have HS2 := lh (HS1.out.below hb)
 have HT2 : Hid (Bk (w1.alloc (.cells #[.int .i64 k1, .int .i64 c1, .int .i64 f1] 55)) w1.heap.size 55 #[.int .i64 k1, .int .i64 c1, .int .i64 f1]) := lh (Bk.here _ _ _ rfl)
 clear hb
 generalize w1.alloc (.cells #[.int .i64 k1, .int .i64 c1, .int .i64 f1] 55) = w2 at *
 have cL := MLoad_any H2.out a
 rw [HXX.out] at cL
 unfold atV memV at cL
 refine cL.mono ?_
 rintro e w3 ⟨rfl, hb⟩
 have HB3 := lh (HB2.out.trans (hb.mono HB2.out.size))
 have H3 := lh (H2.out.below hb)
 have HQ3 := lh (HQ2.out.below hb HQ2.out.lt)
 have HS3 := lh (HS2.out.below hb)
 have HT3 := lh (HT2.out.below hb HT2.out.lt)
 clear hb cL
 have q0 : w3.cell? ⟨b0, 0, none⟩ = some (.pointer (some ⟨g1, 0, none⟩)) := HQ3.out.cell 0
 have q1 : w3.cell? ⟨b0, 1, none⟩ = some (.pointer (some ⟨g2, 0, none⟩)) := HQ3.out.cell 1
 go_wp2_with fail
 clear q0 q1
 refine (cC _).mono ?_
 rintro e w4 ⟨rfl, hb⟩
 have HB4 := lh (HB3.out.trans (hb.mono HB3.out.size))
 have H4 := lh (H3.out.below hb)
 have HQ4 := lh (HQ3.out.below hb HQ3.out.lt)
 have HS4 := lh (HS3.out.below hb)
 have HT4 := lh (HT3.out.below hb HT3.out.lt)
 clear hb cC
 have q0 : w4.cell? ⟨b0, 0, none⟩ = some (.pointer (some ⟨g1, 0, none⟩)) := HQ4.out.cell 0
 have q1 : w4.cell? ⟨b0, 1, none⟩ = some (.pointer (some ⟨g2, 0, none⟩)) := HQ4.out.cell 1
 go_wp2_with fail
 clear q0 q1
 have hv2 : vH ⟨kind, c1, f1⟩ = true := vH_change HV.out hk
 have cS := MStore_any H4.out a (eH_u64 hv2)
 have hst : m.store a (eH ⟨kind, c1, f1⟩) = (0, m.put a (eH ⟨kind, c1, f1⟩)) := by unfold Mm.store; rw [if_pos HM.out]
 rw [hst] at cS
 unfold memV at cS
 clear hst hv2
 refine cS.mono ?_
 rintro e w5 ⟨rfl, hm5, hk5⟩
 have hT5 : Bk w5 w1.heap.size 55 #[.int .i64 k1, .int .i64 c1, .int .i64 f1] := HT4.out.kp hk5 fun e => e.elim (H4.out.o.own_ne HT4.out (by decide)) (H4.out.y.own_ne HT4.out (by decide))
 have hQ5 : Bk w5 b0 27 #[.pointer (some ⟨g1, 0, none⟩), .pointer (some ⟨g2, 0, none⟩)] := HQ4.out.kp hk5 fun e => e.elim (H4.out.o.own_ne HQ4.out (by decide)) (H4.out.y.own_ne HQ4.out (by decide))
 have H5 := lh hm5
 have HK5 := lh hk5
 have HT5 := lh hT5
 have HQ5 := lh hQ5
 have r0 : w5.cell? ⟨w1.heap.size, 0, none⟩ = some (.int .i64 k1) := hT5.cell 0
 have r1 : w5.cell? ⟨w1.heap.size, 1, none⟩ = some (.int .i64 c1) := hT5.cell 1
 have r2 : w5.cell? ⟨w1.heap.size, 2, none⟩ = some (.int .i64 f1) := hT5.cell 2
 clear hm5 hk5 hT5 hQ5 cS
 go_wp2_with fail
 refine (cW _).mono ?_
 rintro e w6 ⟨rfl, hb⟩
 have H6 := lh (H5.out.below hb)
 have HQ6 := lh (HQ5.out.below hb HQ5.out.lt)
 have HT6 := lh (HT5.out.below hb HT5.out.lt)
 have HS6 := lh ((HS4.out.kpN HK5.out HNA.out).below hb)
 have HB6 := lh hb
 clear hb cW r0 r1 r2
 have HWB := lh (wH_ge HV.out)
 have hcnt : ∃ cnt : Nat, wH ⟨k1, c1, f1⟩ - 2 = (cnt : Int) := ⟨(wH ⟨k1, c1, f1⟩ - 2).toNat, by have := wH_ge HV.out; omega⟩
 obtain ⟨cnt, hcnt⟩ := hcnt
 have HC := lh hcnt
 have hcb : cnt ≤ 32 := by have := wH_bound ⟨k1, c1, f1⟩; omega
 have HCB := lh hcb
 go_wp2_with fail
 clear hcnt hcb
 go_loopw [39] (fun i_ wr => ∃ j : Nat, i_ = .int .i64 (j : Int) ∧ j ≤ cnt ∧ MR wr B g1 g2 V1 V2 ((m.put a (eH ⟨kind, c1, f1⟩)).puts (a + 2) ((padW cnt pl).take j)) ∧ Kp (memS V1 V2) w6 wr) (fun i_ _ => cnt - (intOf i_).toNat)
 case atStart => exact ⟨0, rfl, Nat.zero_le _, H6.out, Kp.refl _ _⟩
 case round =>
  obtain ⟨j, rfl, hj, hmr, hkp⟩ := hrel
  have HMR := lh hmr
  have HKP := lh hkp
  have hQr : Bk wr b0 27 #[.pointer (some ⟨g1, 0, none⟩), .pointer (some ⟨g2, 0, none⟩)] := H6.out.bkN hkp HQ6.out (by decide)
  have q0 : wr.cell? ⟨b0, 0, none⟩ = some (.pointer (some ⟨g1, 0, none⟩)) := hQr.cell 0
  have q1 : wr.cell? ⟨b0, 1, none⟩ = some (.pointer (some ⟨g2, 0, none⟩)) := hQr.cell 1
  have HSr := lh (HS6.out.kpN hkp HNA.out)
  have HAo := HA.out
  have HWo : cnt ≤ 32 := HCB.out
  clear hmr hkp hQr
  by_cases hlt : j < cnt
  ·have cS := fun {y : Int} (hy : U64 y) => MStore_any HMR.out (a + 2 + (j : Int)) hy
   unfold memV at cS
   by_cases hp1 : j < pl.length
   ·obtain ⟨bb, oo, rfl, hb1, hc1⟩ := HSr.out.get hp1
    have t1 : pl[j]? = some pl[j] := List.getElem?_eq_getElem hp1
    have e1 : wr.cell? ⟨bb, oo + j, none⟩ = some (.int .u64 pl[j]) := hc1 j _ (by simp [wds, hp1])
    generalize pl[j] = y at e1 t1
    have HT := lh t1
    have hjc : j < cc := by omega
    clear t1 hc1
    go_wp2_with fail
    refine (cS (HP.out y (List.mem_of_getElem? HT.out))).mono ?_
    rintro e w8 ⟨rfl, hm8, hk8⟩
    have HM8 := lh hm8
    have HK8 := lh hk8
    clear hm8 hk8
    go_wp2_with fail
    go_roundw
    case rel =>
     refine ⟨j + 1, by go_num, by omega, ?_, HKP.out.trans HK8.out fun _ _ h => h⟩
     rw [padW_take cnt pl j hlt, Mm.puts_snoc]
     have e2 : ((padW cnt pl).take j).length = j := by rw [List.length_take, padW_length]; omega
     rw [e2, show pl.getD j 0 = y by simp [List.getD, HT.out]]
     exact HM8.out
    case measure => simp [intOf]; omega
   ·have hz : Hid (pl.getD j 0 = 0) := lh (by rw [List.getD, List.getElem?_eq_none (by omega)]; rfl)
    go_wp2_with fail
    refine (cS (y := 0) ⟨by decide, by decide⟩).mono ?_
    rintro e w8 ⟨rfl, hm8, hk8⟩
    have HM8 := lh hm8
    have HK8 := lh hk8
    clear hm8 hk8
    go_wp2_with fail
    go_roundw
    case rel =>
     refine ⟨j + 1, by go_num, by omega, ?_, HKP.out.trans HK8.out fun _ _ h => h⟩
     rw [padW_take cnt pl j hlt, Mm.puts_snoc]
     have e2 : ((padW cnt pl).take j).length = j := by rw [List.length_take, padW_length]; omega
     rw [e2, hz.out]
     exact HM8.out
    case measure => simp [intOf]; omega
  ·go_wp2_with fail
   go_end0
   refine ⟨rfl, ?_, (Kp.of_below HB4.out).trans ((HK5.out.trans (Kp.of_below HB6.out) fun _ _ h => h).trans HKP.out fun _ _ h => h) fun _ _ h => h⟩
   have e1 := HMR.out
   rw [List.take_of_length_le (by rw [padW_length]; omega)] at e1
   have e2 : (wH ⟨k1, c1, f1⟩ - 2).toNat = cnt := by rw [HC.out]; rfl
   unfold Mm.write
   rw [HHD.out]
   simp only
   rw [e2]
   exact e1
end
end Go.Proofs.YtjpaogapclfajaaGreat
namespace Go.Proofs.YtjpaogapclfajaaGreat
open Go.RowKit
set_option maxRecDepth 100000
section
variable {w : World} {B g1 g2 : Nat} {V1 V2 : Value} {m : Mm}
theorem machine_any (o : Int) (w : World) : Calls Tryz.prog 105 #[.int .i64 o] w fun e w' => e = .returned (.bool (decide (1 ≤ o ∧ o ≤ 8))) ∧ w = w' := by
 by_cases h1 : 1 ≤ o
 ·by_cases h2 : o ≤ 8
  ·have hd : decide (1 ≤ o ∧ o ≤ 8) = true := decide_eq_true ⟨h1, h2⟩
   rw [hd]
   clear hd
   go_enter Tryz.func105, Tryz.ntmps105
   go_wp2_with fail
   go_ret
   exact ⟨rfl, rfl⟩
  ·have hd : decide (1 ≤ o ∧ o ≤ 8) = false := decide_eq_false fun h => h2 h.2
   rw [hd]
   clear hd
   go_enter Tryz.func105, Tryz.ntmps105
   go_wp2_with fail
   go_ret
   exact ⟨rfl, rfl⟩
 ·have hd : decide (1 ≤ o ∧ o ≤ 8) = false := decide_eq_false fun h => h1 h.1
  rw [hd]
  clear hd
  go_enter Tryz.func105, Tryz.ntmps105
  go_wp2_with fail
  go_ret
  exact ⟨rfl, rfl⟩
theorem MR.far_new (h : MR w B g1 g2 V1 V2 m) {q q' : Nat} (hq : q' = w.heap.size) : ∀ b o, (some ⟨q', q, none⟩ : Option Addr) = some ⟨b, o, none⟩ → ¬ memS V1 V2 b := by
 rintro b o e hm
 cases e
 subst hq
 rcases hm with hm | hm
 ·exact absurd (h.o.own.lt _ hm).2 (Nat.lt_irrefl _)
 ·exact absurd (h.y.own.lt _ hm).2 (Nat.lt_irrefl _)
theorem stub_err {a o x : Int} (h : isE m a (!stB (m.hdr a).2) ≠ 0) : m.toStub a o x = (isE m a (!stB (m.hdr a).2), m) := by
 unfold isE at h ⊢
 unfold Mm.toStub
 by_cases h1 : (m.hdr a).1 ≠ 0
 ·rw [if_pos h1, if_pos h1]
 ·rw [if_neg h1] at h ⊢
  rw [if_neg h1]
  by_cases h2 : (m.hdr a).2.k = 3 ∨ (m.hdr a).2.k = 4
  ·rw [if_pos h2, if_pos (by unfold stB; rw [decide_eq_true h2]; rfl)]
  ·rw [if_neg (by unfold stB; rw [decide_eq_false h2]; simp)] at h
   exact absurd rfl h
theorem stub_none {a o x : Int} (h : isE m a (!stB (m.hdr a).2) = 0) : (m.hdr a).1 = 0 ∧ m.toStub a o x = if o < 1 ∨ 8 < o then (1, m) else (0, m.write a 3 [o, x]) := by
 unfold isE at h
 unfold Mm.toStub
 by_cases h1 : (m.hdr a).1 ≠ 0
 ·rw [if_pos h1] at h; exact absurd h h1
 ·rw [if_neg h1] at h
  refine ⟨Decidable.not_not.1 h1, ?_⟩
  rw [if_neg h1]
  by_cases h2 : (m.hdr a).2.k = 3 ∨ (m.hdr a).2.k = 4
  ·rw [if_pos (by unfold stB; rw [decide_eq_true h2]; rfl)] at h
   cases h
  ·rw [if_neg h2]
set_option maxHeartbeats 4000000 in
theorem MToStub_any (h : MR w B g1 g2 V1 V2 m) (a o : Int) {x : Int} (hx : U64 x) : Calls Tryz.prog 56 #[memV g1 g2, .int .i64 a, .int .i64 o, .int .u64 x] w (StoP w B g1 g2 V1 V2 (m.toStub a o x).1 (m.toStub a o x).2) := by
 have hb0 := boxM w g1 g2
 have H0 := lh (h.below hb0)
 have HQ0 : Hid (Bk (w.alloc (.cells #[.pointer (some ⟨g1, 0, none⟩), .pointer (some ⟨g2, 0, none⟩)] 27)) w.heap.size 27 #[.pointer (some ⟨g1, 0, none⟩), .pointer (some ⟨g2, 0, none⟩)]) := lh (Bk.here _ _ _ rfl)
 have HB0 := lh hb0
 have cI := isS_any H0.out a
 have cM := fun w => machine_any o w
 have HX := lh hx
 obtain ⟨er, he⟩ : ∃ er, er = isE m a (!stB (m.hdr a).2) := ⟨_, rfl⟩
 have HE := lh he
 rw [← he] at cI
 unfold memV at cI ⊢
 clear h hb0 hx he
 by_cases h0 : er = 0
 ·subst h0
  obtain ⟨hh, hst⟩ := stub_none (o := o) (x := x) HE.out.symm
  rw [hst]
  have HH := lh hh
  clear hst hh
  by_cases hm : 1 ≤ o ∧ o ≤ 8
  ·rw [if_neg (by omega)]
   rw [decide_eq_true hm] at cM
   go_enter Tryz.func56, Tryz.ntmps56
   go_wp2_with fail
   generalize w.alloc (.cells #[.pointer (some ⟨g1, 0, none⟩), .pointer (some ⟨g2, 0, none⟩)] 27) = w0 at *
   generalize w.heap.size = b0 at HQ0 ⊢
   refine cI.mono ?_
   rintro e w1 ⟨rfl, hb⟩
   have HB1 := lh (HB0.out.trans (hb.mono HB0.out.size))
   have H1 := lh (H0.out.below hb)
   have hq := HQ0.out.below hb HQ0.out.lt
   have q0 : w1.cell? ⟨b0, 0, none⟩ = some (.pointer (some ⟨g1, 0, none⟩)) := hq.cell 0
   have q1 : w1.cell? ⟨b0, 1, none⟩ = some (.pointer (some ⟨g2, 0, none⟩)) := hq.cell 1
   have cw : Lit.wf (.int .u64 o) = true := by simp [Lit.wf, IntKind.min, IntKind.max, IntKind.signed, IntKind.bits]; omega
   clear hb cI hq
   go_wp2_with fail
   refine (cM _).mono ?_
   rintro e w2 ⟨rfl, rfl⟩
   clear cM
   go_wp2_with fail
   have hbA : Below w1.heap.size w1 (w1.alloc (.cells #[.int .u64 o, .int .u64 x] 51)) := (Below.refl _ _).alloc (Nat.le_refl _) _
   have HBA := lh (HB1.out.trans (hbA.mono HB1.out.size))
   have cW := MWrite_any (H1.out.below hbA) (kind := 3) HH.out (.inl rfl) (pl := [o, x]) (A := some ⟨w1.heap.size, 0, none⟩) (cc := 2) (fun y hy => by
    rcases List.mem_cons.1 hy with rfl | hy
    ·exact ⟨by omega, by omega⟩
    ·rw [List.mem_singleton.1 hy]; exact HX.out) (Sl.new w1 51 [.int .u64 o, .int .u64 x]) (Nat.le_refl _) (Nat.le_refl _) (H1.out.far_new rfl)
   unfold memV at cW
   clear hbA
   refine cW.mono ?_
   rintro e w2 ⟨rfl, hm2, hk2⟩
   have HM2 := lh hm2
   have HK2 := lh hk2
   clear hm2 hk2 cW
   go_wp2_with fail
   go_ret
   exact ⟨rfl, HM2.out, (Kp.of_below HBA.out).trans HK2.out fun _ _ h => h⟩
  ·rw [if_pos (by omega)]
   rw [decide_eq_false hm] at cM
   go_enter Tryz.func56, Tryz.ntmps56
   go_wp2_with fail
   generalize w.alloc (.cells #[.pointer (some ⟨g1, 0, none⟩), .pointer (some ⟨g2, 0, none⟩)] 27) = w0 at *
   refine cI.mono ?_
   rintro e w1 ⟨rfl, hb⟩
   have HB1 := lh (HB0.out.trans (hb.mono HB0.out.size))
   have H1 := lh (H0.out.below hb)
   clear hb cI
   go_wp2_with fail
   refine (cM _).mono ?_
   rintro e w2 ⟨rfl, rfl⟩
   clear cM
   go_wp2_with fail
   go_ret
   exact ⟨rfl, H1.out, Kp.of_below HB1.out⟩
 ·have hst := stub_err (o := o) (x := x) (HE.out ▸ h0)
  rw [hst, ← HE.out]
  clear hst
  have h1 : (er == 0) = false := by simp [h0]
  have h2 : (er != 0) = true := by simp [h0]
  go_enter Tryz.func56, Tryz.ntmps56
  go_wp2_with fail
  generalize w.alloc (.cells #[.pointer (some ⟨g1, 0, none⟩), .pointer (some ⟨g2, 0, none⟩)] 27) = w0 at *
  refine cI.mono ?_
  rintro e w1 ⟨rfl, hb⟩
  have HB1 := lh (HB0.out.trans (hb.mono HB0.out.size))
  have H1 := lh (H0.out.below hb)
  clear hb cI
  go_wp2_with fail
  go_ret
  exact ⟨rfl, H1.out, Kp.of_below HB1.out⟩
end
end Go.Proofs.YtjpaogapclfajaaGreat
namespace Go.Proofs.YtjpaogapclfajaaGreat
open Go.RowKit
set_option maxRecDepth 100000
theorem fresh_contains (x : Int) (s : List Int) (y : Int) : insB (fun z => s.contains z) x y = (x :: s).contains y := by
 unfold insB
 by_cases h : y = x <;> simp [h]
theorem Mm.nxt_err {m : Mm} {a : Int} (h : (m.hdr a).1 ≠ 0) : m.nxt a = none := by unfold Mm.nxt; rw [if_pos h]
theorem Mm.nxt_end {m : Mm} {a : Int} (h : (m.hdr a).1 = 0) (hk : (m.hdr a).2.k ≠ 4) : m.nxt a = some none := by unfold Mm.nxt; rw [if_neg (by simp [h]), if_pos hk]
theorem Mm.nxt_fwd {m : Mm} {a : Int} (ok : m.Ok) (h : (m.hdr a).1 = 0) (hk : (m.hdr a).2.k = 4) : ∃ x, m.at_ (a + 2) = some x ∧ m.nxt a = match adr x with | some b => some (some b) | none => none := by
 obtain ⟨x, hx⟩ : ∃ x, m.at_ (a + 2) = some x := by
  obtain ⟨h1, _⟩ := ok.has_near h (j := 2) (by decide) (by have := wH_ge (Mm.hdr_valid h); omega)
  obtain ⟨_, _, _, x, _, hx⟩ := Spc.at_some h1
  exact ⟨x, hx⟩
 refine ⟨x, hx, ?_⟩
 unfold Mm.nxt
 rw [if_neg (by simp [h]), if_neg (by simp [hk]), hx]
 rfl
theorem Mm.res_has {m : Mm} {a : Int} (ok : m.Ok) (h : m.has a = true) : 0 ≤ a ∧ a ≤ 4294967296 := by
 unfold Mm.has Mm.sp at h
 split at h
 ·have := ok.old_lt h; omega
 ·have := ok.yng_ge h; omega
def rsv : Option Int → Int × Int
 | some b => (b, 0)
 | none => (0, 11)
theorem Mm.resolve_eq (m : Mm) (a : Int) : m.resolve a = if m.has a = false then (0, 2) else rsv (m.resN (m.size + 1) a) := by
 unfold Mm.resolve rsv
 rfl
section
variable {w : World} {B g1 g2 : Nat} {V1 V2 : Value} {m : Mm}
set_option maxHeartbeats 4000000 in
theorem MResolve_any (h : MR w B g1 g2 V1 V2 m) (a : Int) : Calls Tryz.prog 83 #[memV g1 g2, .int .i64 a] w fun e w' => e = .returned (.tuple #[.int .i64 (m.resolve a).1, .int .i64 (m.resolve a).2]) ∧ Below w.heap.size w w' := by
 have hb0 := boxM w g1 g2
 have H0 := lh (h.below hb0)
 have HQ0 : Hid (Bk (w.alloc (.cells #[.pointer (some ⟨g1, 0, none⟩), .pointer (some ⟨g2, 0, none⟩)] 27)) w.heap.size 27 #[.pointer (some ⟨g1, 0, none⟩), .pointer (some ⟨g2, 0, none⟩)]) := lh (Bk.here _ _ _ rfl)
 have HB0 := lh hb0
 have OK := lh h.ok
 have cL := MLoad_any H0.out a
 rw [Mm.resolve_eq]
 unfold memV at cL ⊢
 cases hh : m.has a with
 | false =>
  rw [show m.at_ a = none from Spc.at_none hh] at cL
  unfold atV at cL
  rw [if_pos rfl]
  clear h hb0 hh
  go_enter Tryz.func83, Tryz.ntmps83
  go_wp2_with fail
  refine cL.mono ?_
  rintro e w1 ⟨rfl, hb⟩
  have HB1 := lh (HB0.out.trans (hb.mono HB0.out.size))
  clear hb cL
  go_wp2_with fail
  go_ret2
  exact ⟨rfl, HB1.out⟩
 | true =>
  obtain ⟨x0, hx0⟩ : ∃ x, m.at_ a = some x := by
   obtain ⟨_, _, _, x, _, hx⟩ := Spc.at_some hh
   exact ⟨x, hx⟩
  rw [hx0] at cL
  unfold atV at cL
  rw [if_neg (by decide)]
  have HAB := lh (Mm.res_has h.ok hh)
  clear h hb0 hx0
  have HH := lh hh
  clear hh
  obtain ⟨N, hN⟩ : ∃ N, N = m.size + 1 := ⟨_, rfl⟩
  have HN := lh hN
  rw [← hN]
  obtain ⟨p, q, hp⟩ : ∃ p q, rsv (m.resN N a) = (p, q) := ⟨_, _, rfl⟩
  have HP := lh hp
  rw [hp]
  simp only
  clear hp hN
  have hmm := @run_makeMap Tryz.prog
  go_enter Tryz.func83, Tryz.ntmps83
  go_wp2_with fail
  generalize w.alloc (.cells #[.pointer (some ⟨g1, 0, none⟩), .pointer (some ⟨g2, 0, none⟩)] 27) = w0 at *
  refine cL.mono ?_
  rintro e w1 ⟨rfl, hb⟩
  have H1 := lh (H0.out.below hb)
  have HQ1 := lh (HQ0.out.below hb HQ0.out.lt)
  have HB1 := lh (HB0.out.trans (hb.mono HB0.out.size))
  clear hb cL
  go_wp2_with fail
  have hbm : Below w1.heap.size w1 (w1.alloc (.map #[] 0)) := (Below.refl _ _).alloc (Nat.le_refl _) _
  have H2 := lh (H1.out.below hbm)
  have HQ2 := lh (HQ1.out.below hbm HQ1.out.lt)
  have HB2 := lh (HB1.out.trans (hbm.mono HB1.out.size))
  have HM2 : Hid (MapT Tryz.prog 3 4 (w1.alloc (.map #[] 0)) w1.heap.size 0 (fun _ => false)) := lh (MapT.made _ _ _ _)
  have HBB : Hid (w.heap.size ≤ w1.heap.size) := lh (HB1.out.size)
  have HF : Hid (g1 ≠ w1.heap.size ∧ g2 ≠ w1.heap.size ∧ V1.ownBlock ≠ some w1.heap.size ∧ V2.ownBlock ≠ some w1.heap.size ∧ w.heap.size ≠ w1.heap.size) := lh ⟨Nat.ne_of_lt H1.out.o.hd.lt, Nat.ne_of_lt H1.out.y.hd.lt, fun e => absurd (H1.out.o.own.lt _ e).2 (Nat.lt_irrefl _), fun e => absurd (H1.out.y.own.lt _ e).2 (Nat.lt_irrefl _), Nat.ne_of_lt HQ1.out.lt⟩
  clear hbm
  generalize w1.alloc (.map #[] 0) = w2 at *
  generalize w1.heap.size = bm at HM2 HBB HF ⊢
  go_loopg [1] (N) (fun gq a_ wr => ∃ (a' : Int) (s : List Int), a_ = .int .i64 a' ∧ s.length + gq = N ∧ (0 ≤ a' ∧ a' ≤ 4294967296) ∧ Hid (ResI m a a' s) ∧ Hid (MapT Tryz.prog 3 4 wr bm s.length (fun x => s.contains x)) ∧ Hid (MR wr B g1 g2 V1 V2 m) ∧ Hid (Bk wr w.heap.size 27 #[.pointer (some ⟨g1, 0, none⟩), .pointer (some ⟨g2, 0, none⟩)]) ∧ Hid (Below w.heap.size w wr))
  case atStart => exact ⟨a, [], rfl, by simp, HAB.out, lh (ResI.new m a), HM2, H2, HQ2, HB2⟩
  case round =>
   obtain ⟨a', s, rfl, hs, ha', HR, HM, HMR, HQ, HB⟩ := hrel
   have q0 : wr.cell? ⟨w.heap.size, 0, none⟩ = some (.pointer (some ⟨g1, 0, none⟩)) := HQ.out.cell 0
   have q1 : wr.cell? ⟨w.heap.size, 1, none⟩ = some (.pointer (some ⟨g2, 0, none⟩)) := HQ.out.cell 1
   have hl := HM.out.look Tryz.underlying3 Tryz.underlying4 Tryz.underlying129 zero_bool (x := a') (WalkArith.wf_i64 (by omega))
   have hlen := HR.out.len
   have HW : Hid ((Lit.int .i64 a').wf = true) := lh (WalkArith.wf_i64 (by omega))
   by_cases hc : a' ∈ s
   ·rw [show s.contains a' = true by simpa using hc] at hl
    have hp := HP.out
    rw [HN.out, HR.out.seen hc] at hp
    cases hp
    go_wp2_with fail
    go_ret2
    exact ⟨rfl, HB.out⟩
   ·rw [show s.contains a' = false by simpa using hc] at hl
    have HC := lh hc
    have HST := lh HR.out.stop
    cases gk with
    | zero => have := HN.out; omega
    | succ gj =>
    have hsl : s.length ≤ 8589934592 := by
     have h1 := OK.out.o.lim; have h2 := OK.out.o.l0; have h3 := OK.out.y.lim; have h4 := OK.out.y.l0; have h5 := OK.out.o.b0; have h6 := OK.out.y.b0
     unfold Mm.size at hlen
     omega
    clear hc hlen
    go_wp2_with (refine wpList_set_put Tryz.underlying3 Tryz.underlying4 Tryz.underlying129 rfl (m := .tmp 29) (x := .tmp 30) (v := .const (.bool true)) rfl HM.out (by unfold maxLen; omega) rfl rfl rfl HW.out ?_; intro w3 hm3 hg3; have HM3 := lh hm3; have HG3 := lh hg3; have hK3 : Kp (fun k => k = bm) wr w3 := Kp.of_grown hg3 (fun k hk => (Option.some.inj hk).symm); have HK3 := lh hK3; have q0' : w3.cell? ⟨w.heap.size, 0, none⟩ = some (.pointer (some ⟨g1, 0, none⟩)) := hK3.cell q0 HF.out.2.2.2.2; have q1' : w3.cell? ⟨w.heap.size, 1, none⟩ = some (.pointer (some ⟨g2, 0, none⟩)) := hK3.cell q1 HF.out.2.2.2.2; clear hm3 hg3 hK3 q0 q1)
    have HMR3 : Hid (MR w3 B g1 g2 V1 V2 m) := lh ⟨HMR.out.o.kp HK3.out HF.out.1 (fun k hk e => HF.out.2.2.1 (e ▸ hk)), HMR.out.y.kp HK3.out HF.out.2.1 (fun k hk e => HF.out.2.2.2.1 (e ▸ hk)), HMR.out.ok, HMR.out.gg, HMR.out.vv⟩
    have HQ3 := lh (HQ.out.kp HK3.out HF.out.2.2.2.2)
    have HB3 := lh (HK3.out.toBelow HB.out HB.out.size (fun k hk => by rw [hk]; exact HBB.out))
    have HMM3 := lh (HM3.out.congr fun x _ => fresh_contains a' s x)
    clear HMR HQ HB HM HM3 HG3
    have cH := MHeader_any HMR3.out a'
    unfold hdrV Hdr.val memV at cH
    obtain ⟨er, hd, hhd⟩ : ∃ er hd, m.hdr a' = (er, hd) := ⟨_, _, rfl⟩
    rw [hhd] at cH
    simp only at cH
    have HHD := lh hhd
    clear hhd
    by_cases he : er = 0
    ·subst he
     by_cases hk : hd.k = 4
     ·obtain ⟨x, hx, hnx⟩ := Mm.nxt_fwd OK.out (a := a') (by rw [HHD.out]) (by rw [HHD.out]; exact hk)
      have heq : (hd.k != 4) = false := by simp [hk]
      have HK := lh hk
      have HX := lh hx
      have HNX := lh hnx
      have cA := fun w => Address_any (OK.out.at_u hx) w
      unfold adrV at cA
      clear hk hx hnx
      refine cH.mono ?_
      rintro e w4 ⟨rfl, hb⟩
      have HB4 := lh (HB3.out.trans (hb.mono HB3.out.size))
      have HMR4 := lh (HMR3.out.below hb)
      have HQ4 := lh (HQ3.out.below hb HQ3.out.lt)
      have HMM4 := lh (HMM3.out.block (hb.block bm HMM3.out.lt))
      have hlt4 : w.heap.size < w4.heap.size := HQ4.out.lt
      have hne4 : w.heap.size ≠ w4.heap.size := by omega
      have q2 : w4.cell? ⟨w.heap.size, 0, none⟩ = some (.pointer (some ⟨g1, 0, none⟩)) := HQ4.out.cell 0
      have q3 : w4.cell? ⟨w.heap.size, 1, none⟩ = some (.pointer (some ⟨g2, 0, none⟩)) := HQ4.out.cell 1
      clear hb cH q0' q1'
      go_wp2_with fail
      have hb5 : Below w4.heap.size w4 (w4.alloc (.cells #[.int .i64 hd.k, .int .i64 hd.c, .int .i64 hd.f] 55)) := (Below.refl _ _).alloc (Nat.le_refl _) _
      have HB5 := lh (HB4.out.trans (hb5.mono HB4.out.size))
      have HMR5 := lh (HMR4.out.below hb5)
      have HQ5 := lh (HQ4.out.below hb5 HQ4.out.lt)
      have HMM5 := lh (HMM4.out.block (hb5.block bm HMM4.out.lt))
      clear hb5 q2 q3
      generalize w4.alloc (.cells #[.int .i64 hd.k, .int .i64 hd.c, .int .i64 hd.f] 55) = w5 at *
      have cL := MLoad_any HMR5.out (a' + 2)
      rw [HX.out] at cL
      unfold atV memV at cL
      refine cL.mono ?_
      rintro e w6 ⟨rfl, hb⟩
      have HB6 := lh (HB5.out.trans (hb.mono HB5.out.size))
      have HMR6 := lh (HMR5.out.below hb)
      have HQ6 := lh (HQ5.out.below hb HQ5.out.lt)
      have HMM6 := lh (HMM5.out.block (hb.block bm HMM5.out.lt))
      clear hb cL
      go_wp2_with fail
      refine (cA _).mono ?_
      rintro e w7 ⟨rfl, rfl⟩
      cases had : adr x with
      | none =>
       have hp := HP.out
       rw [HN.out, HST.out, HNX.out, had] at hp
       cases hp
       clear had cA
       go_wp2_with fail
       go_ret2
       exact ⟨rfl, HB6.out⟩
      | some b =>
       have hb1 := adr_some had
       have hb2 := OK.out.at_u HX.out
       have hnn : m.nxt a' = some (some b) := by rw [HNX.out, had]
       have hbd : 0 ≤ b ∧ b ≤ 4294967296 := by unfold adW at hb1; unfold U64 at hb2; omega
       have HR' := lh (HR.out.next HC.out hnn)
       clear had cA hb1 hb2 hnn
       go_wp2_with fail
       go_roundg gj
       case rel => exact ⟨b, a' :: s, rfl, by simp; omega, hbd, HR', HMM6, HMR6, HQ6, HB6⟩
       case measure => exact Nat.lt_succ_self _
     ·have hne : (hd.k != 4) = true := by simp [hk]
      have hp := HP.out
      rw [HN.out, HST.out, Mm.nxt_end (by rw [HHD.out]) (by rw [HHD.out]; exact hk)] at hp
      cases hp
      clear hk
      refine cH.mono ?_
      rintro e w4 ⟨rfl, hb⟩
      have HB4 := lh (HB3.out.trans (hb.mono HB3.out.size))
      clear hb cH
      go_wp2_with fail
      go_ret2
      exact ⟨rfl, HB4.out.trans (((Below.refl _ _).alloc (Nat.le_refl _) _).mono HB4.out.size)⟩
    ·have he1 : (er == 0) = false := by simp [he]
     have he2 : (er != 0) = true := by simp [he]
     have hp := HP.out
     rw [HN.out, HST.out, Mm.nxt_err (by rw [HHD.out]; exact he)] at hp
     cases hp
     clear he
     refine cH.mono ?_
     rintro e w4 ⟨rfl, hb⟩
     have HB4 := lh (HB3.out.trans (hb.mono HB3.out.size))
     clear hb cH
     go_wp2_with fail
     go_ret2
     exact ⟨rfl, HB4.out.trans (((Below.refl _ _).alloc (Nat.le_refl _) _).mono HB4.out.size)⟩
theorem fwd_err {a t2 : Int} (h : isE m a (decide ((m.hdr a).2.k ≠ 4)) ≠ 0) : m.toFwd a t2 = (isE m a (decide ((m.hdr a).2.k ≠ 4)), m) := by
 unfold isE at h ⊢
 unfold Mm.toFwd
 by_cases h1 : (m.hdr a).1 ≠ 0
 ·rw [if_pos h1, if_pos h1]
 ·rw [if_neg h1] at h ⊢
  rw [if_neg h1]
  by_cases h2 : (m.hdr a).2.k = 4
  ·rw [if_pos h2, if_pos (by simp [h2])]
  ·rw [if_neg (by simp [h2])] at h
   exact absurd rfl h
theorem fwd_none {a t2 : Int} (h : isE m a (decide ((m.hdr a).2.k ≠ 4)) = 0) : (m.hdr a).1 = 0 ∧ m.toFwd a t2 = if (m.resolve t2).2 ≠ 0 ∨ (m.resolve t2).1 = a then (1, m) else (0, m.write a 4 [adW t2]) := by
 unfold isE at h
 unfold Mm.toFwd
 by_cases h1 : (m.hdr a).1 ≠ 0
 ·rw [if_pos h1] at h; exact absurd h h1
 ·rw [if_neg h1] at h
  refine ⟨Decidable.not_not.1 h1, ?_⟩
  rw [if_neg h1]
  by_cases h2 : (m.hdr a).2.k = 4
  ·rw [if_pos (by simp [h2])] at h
   cases h
  ·rw [if_neg h2]
theorem Mm.resolve_has {m : Mm} {a : Int} (ok : m.Ok) (h : (m.resolve a).2 = 0) : 0 ≤ a ∧ a ≤ 4294967295 := by
 rw [Mm.resolve_eq] at h
 cases hh : m.has a with
 | false => rw [hh, if_pos rfl] at h; cases h
 | true =>
  unfold Mm.has Mm.sp at hh
  split at hh
  ·have := ok.old_lt hh; omega
  ·have := ok.yng_ge hh; omega
set_option maxHeartbeats 4000000 in
theorem MToForward_any (h : MR w B g1 g2 V1 V2 m) (a t2 : Int) : Calls Tryz.prog 57 #[memV g1 g2, .int .i64 a, .int .i64 t2] w (StoP w B g1 g2 V1 V2 (m.toFwd a t2).1 (m.toFwd a t2).2) := by
 have hb0 := boxM w g1 g2
 have H0 := lh (h.below hb0)
 have HQ0 : Hid (Bk (w.alloc (.cells #[.pointer (some ⟨g1, 0, none⟩), .pointer (some ⟨g2, 0, none⟩)] 27)) w.heap.size 27 #[.pointer (some ⟨g1, 0, none⟩), .pointer (some ⟨g2, 0, none⟩)]) := lh (Bk.here _ _ _ rfl)
 have HB0 := lh hb0
 have OK := lh h.ok
 have cI := isF_any H0.out a
 obtain ⟨er, he⟩ : ∃ er, er = isE m a (decide ((m.hdr a).2.k ≠ 4)) := ⟨_, rfl⟩
 have HE := lh he
 rw [← he] at cI
 unfold memV at cI ⊢
 clear h hb0 he
 by_cases h0 : er = 0
 ·subst h0
  obtain ⟨hh, hst⟩ := fwd_none (t2 := t2) HE.out.symm
  rw [hst]
  have HH := lh hh
  clear hst hh
  obtain ⟨en, re, hre⟩ : ∃ en re, m.resolve t2 = (en, re) := ⟨_, _, rfl⟩
  have HRE := lh hre
  rw [hre]
  simp only
  obtain ⟨e5, m5, h5⟩ : ∃ e5 m5, (if re ≠ 0 ∨ en = a then ((1 : Int), m) else (0, m.write a 4 [adW t2])) = (e5, m5) := ⟨_, _, rfl⟩
  rw [h5]
  have H5 := lh h5
  clear hre h5
  go_enter Tryz.func57, Tryz.ntmps57
  go_wp2_with fail
  generalize w.alloc (.cells #[.pointer (some ⟨g1, 0, none⟩), .pointer (some ⟨g2, 0, none⟩)] 27) = w0 at *
  generalize w.heap.size = b0 at HQ0 ⊢
  refine cI.mono ?_
  rintro e w1 ⟨rfl, hb⟩
  have HB1 := lh (HB0.out.trans (hb.mono HB0.out.size))
  have H1 := lh (H0.out.below hb)
  have HQ1 := lh (HQ0.out.below hb HQ0.out.lt)
  have q0 : w1.cell? ⟨b0, 0, none⟩ = some (.pointer (some ⟨g1, 0, none⟩)) := HQ1.out.cell 0
  have q1 : w1.cell? ⟨b0, 1, none⟩ = some (.pointer (some ⟨g2, 0, none⟩)) := HQ1.out.cell 1
  clear hb cI
  go_wp2_with fail
  have cR := MResolve_any H1.out t2
  rw [HRE.out] at cR
  unfold memV at cR
  refine cR.mono ?_
  rintro e w2 ⟨rfl, hb⟩
  have HB2 := lh (HB1.out.trans (hb.mono HB1.out.size))
  have H2 := lh (H1.out.below hb)
  have HQ2 := lh (HQ1.out.below hb HQ1.out.lt)
  have q0' : w2.cell? ⟨b0, 0, none⟩ = some (.pointer (some ⟨g1, 0, none⟩)) := HQ2.out.cell 0
  have q1' : w2.cell? ⟨b0, 1, none⟩ = some (.pointer (some ⟨g2, 0, none⟩)) := HQ2.out.cell 1
  clear hb cR q0 q1
  by_cases hr : re = 0
  ·subst hr
   by_cases hen : en = a
   ·have heq : (en == a) = true := by simp [hen]
    have h5 := H5.out
    rw [if_pos (Or.inr hen)] at h5
    cases h5
    clear hen
    go_wp2_with fail
    go_ret
    exact ⟨rfl, H2.out, Kp.of_below HB2.out⟩
   ·have heq : (en == a) = false := by simp [hen]
    have h5 := H5.out
    rw [if_neg (fun h => h.elim (fun h => h rfl) hen)] at h5
    cases h5
    have hto := Mm.resolve_has OK.out (a := t2) (by rw [HRE.out])
    have HTO := lh hto
    have cF := fun w => FromAddress_any t2 w
    have hin : inA t2 = true := decide_eq_true hto
    unfold frA at cF
    rw [hin] at cF
    rw [if_pos rfl] at cF
    clear hen hin hto
    go_wp2_with fail
    refine (cF _).mono ?_
    rintro e w3 ⟨rfl, rfl⟩
    go_wp2_with fail
    have hbA : Below w2.heap.size w2 (w2.alloc (.cells #[.int .u64 (adW t2)] 51)) := (Below.refl _ _).alloc (Nat.le_refl _) _
    have HBA := lh (HB2.out.trans (hbA.mono HB2.out.size))
    have cW := MWrite_any (H2.out.below hbA) (kind := 4) HH.out (.inr rfl) (pl := [adW t2]) (A := some ⟨w2.heap.size, 0, none⟩) (cc := 1) (fun y hy => by
     rw [List.mem_singleton.1 hy]
     have := HTO.out
     unfold U64 adW
     omega) (Sl.new w2 51 [.int .u64 (adW t2)]) (Nat.le_refl _) (Nat.le_succ 1) (H2.out.far_new rfl)
    unfold memV at cW
    clear hbA
    refine cW.mono ?_
    rintro e w4 ⟨rfl, hm2, hk2⟩
    have HM2 := lh hm2
    have HK2 := lh hk2
    clear hm2 hk2 cW
    go_wp2_with fail
    go_ret
    exact ⟨rfl, HM2.out, (Kp.of_below HBA.out).trans HK2.out fun _ _ h => h⟩
  ·have hr1 : (re == 0) = false := by simp [hr]
   have hr2 : (re != 0) = true := by simp [hr]
   have h5 := H5.out
   rw [if_pos (Or.inl hr)] at h5
   cases h5
   clear hr
   go_wp2_with fail
   go_ret
   exact ⟨rfl, H2.out, Kp.of_below HB2.out⟩
 ·have hst := fwd_err (t2 := t2) (HE.out ▸ h0)
  rw [hst, ← HE.out]
  clear hst
  have h1 : (er == 0) = false := by simp [h0]
  have h2 : (er != 0) = true := by simp [h0]
  go_enter Tryz.func57, Tryz.ntmps57
  go_wp2_with fail
  generalize w.alloc (.cells #[.pointer (some ⟨g1, 0, none⟩), .pointer (some ⟨g2, 0, none⟩)] 27) = w0 at *
  refine cI.mono ?_
  rintro e w1 ⟨rfl, hb⟩
  have HB1 := lh (HB0.out.trans (hb.mono HB0.out.size))
  have H1 := lh (H0.out.below hb)
  clear hb cI
  go_wp2_with fail
  go_ret
  exact ⟨rfl, H1.out, Kp.of_below HB1.out⟩
end
end Go.Proofs.YtjpaogapclfajaaGreat
