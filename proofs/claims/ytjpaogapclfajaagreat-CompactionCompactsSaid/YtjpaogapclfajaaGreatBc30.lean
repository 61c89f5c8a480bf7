/- Parts of the proof: Awk12, RWalk. -/
import Derived.BigQuiet
import Derived.Deep.DeepCutAuto
import Derived.Test.YtjpaogapclfajaaGreatBcA
import Derived.Test.YtjpaogapclfajaaGreatBc11
import Derived.Test.YtjpaogapclfajaaGreatBc12
import Derived.Test.YtjpaogapclfajaaGreatBc13
import Derived.Test.YtjpaogapclfajaaGreatBc18
import Derived.Test.YtjpaogapclfajaaGreatBc19
import Derived.Test.YtjpaogapclfajaaGreatBc22
import Derived.Test.YtjpaogapclfajaaGreatBc28
import Derived.Test.YtjpaogapclfajaaGreatBc29
set_option linter.unusedVariables false
set_option linter.unusedSimpArgs false
set_option linter.unusedSectionVars false
namespace Go.Proofs.YtjpaogapclfajaaGreat
open Go.RowKit Go.Sort
attribute [local go_sem] Oper.semAt_some onlyN_normal
set_option maxRecDepth 100000
section
variable {w wn w' : World} {g : Nat} {V : Value} {s : Spc} {A1 : Option Addr} {e1 gm bm : Nat} {sg wl : List Int} {Am : Option Addr} {cm : Nat} {Ar : Option Addr} {cr : Nat} {Aw : Option Addr} {cw : Nat} {roots weak : List Int}
theorem Env12.ok (h : Env12 w wn g V s A1 e1 gm bm sg wl Am cm Ar cr Aw cw roots weak) : (Mm.one s).Ok := Mm.one_ok h.sp.ok h.b0 h.l0
theorem Env12.wsl (h : Env12 w wn g V s A1 e1 gm bm sg wl Am cm Ar cr Aw cw roots weak) : s.ws.length ≤ 16777216 := by have := h.sp.lim; have := h.b0; have := h.l0; omega
theorem Env12.mln (h : Env12 w wn g V s A1 e1 gm bm sg wl Am cm Ar cr Aw cw roots weak) : (sg ++ wl).length ≤ 16777216 := Nat.le_trans h.mks.len h.wsl
theorem Env12.hB (h : Env12 w wn g V s A1 e1 gm bm sg wl Am cm Ar cr Aw cw roots weak) : w.heap.size ≤ wn.heap.size := h.bl.size
theorem Env12.plan (h : Env12 w wn g V s A1 e1 gm bm sg wl Am cm Ar cr Aw cw roots weak) : Calls Tryz.prog 36 #[.pointer (some ⟨g, 0, none⟩), .pointer (some ⟨gm, 0, none⟩)] wn (PlanP wn s (srtI (sg ++ wl))) :=
 Plan_any h.sp h.mx h.mks.nd (fun a ha => (h.mks.hdr a ha).1) (h.mks.rg h.ok) h.mln h.l0
theorem Env12.compact (h : Env12 w wn g V s A1 e1 gm bm sg wl Am cm Ar cr Aw cw roots weak) {A : Option Addr} {c : Nat} {l : List Int} (hs : Sl wn 1 A l.length (wds l)) (hc : l.length ≤ c) (hu : ∀ x ∈ l, U64 x) (hl : l.length ≤ 1000) : Calls Tryz.prog 39 #[.pointer (some ⟨g, 0, none⟩), .pointer (some ⟨gm, 0, none⟩), .slice A l.length c] wn (CmpP wn w.heap.size g V s (srtI (sg ++ wl)) l) :=
 Compact_any h.sp h.mx h.mks.nd (fun a ha => (h.mks.hdr a ha).1) (h.mks.rg h.ok) h.mln h.l0 h.b0 h.hB hs hc hu (by omega) h.wh.ws
/-- what lies in memory behind Compact -/
structure Cpd (w wn : World) (g : Nat) (V : Value) (s t : Spc) (A1 : Option Addr) (e1 gm bm : Nat) (sg wl : List Int) (Am : Option Addr) (cm : Nat) (Ar : Option Addr) (cr : Nat) (Aw : Option Addr) (cw : Nat) (roots weak : List Int) : Prop where
 bl : Below w.heap.size w wn
 sp : SpR wn w.heap.size g t V
 rs : RS wn s A1 e1
 mx : MkR wn w.heap.size gm bm (Mm.one s) sg wl
 ms : IS wn (srtI (sg ++ wl)) Am cm
 rt : Sl wn 1 Ar roots.length (wds roots)
 wk : Sl wn 1 Aw weak.length (wds weak)
theorem Cpd.below {t : Spc} (h : Cpd w wn g V s t A1 e1 gm bm sg wl Am cm Ar cr Aw cw roots weak) (hb : Below wn.heap.size wn w') : Cpd w w' g V s t A1 e1 gm bm sg wl Am cm Ar cr Aw cw roots weak :=
 ⟨h.bl.trans (hb.mono h.bl.size), h.sp.below hb, h.rs.below hb, MkR0.below h.mx hb, h.ms.below hb, h.rt.below hb, h.wk.below hb⟩
theorem Sl.kpo {w w' : World} {S : Nat → Prop} {n : Nat} {A : Option Addr} {xs : List Value} (h : Sl w 1 A n xs) (hk : Kp S w w') (hA : ∀ b o, A = some ⟨b, o, none⟩ → ¬ S b) : Sl w' 1 A n xs := by
 refine ⟨h.1, ?_⟩
 rcases h.2 with h0 | ⟨b, o, e, hb, hc⟩
 ·exact .inl h0
 ·exact .inr ⟨b, o, e, Nat.lt_of_lt_of_le hb hk.size, fun j x hx => hk.cell (hc j x hx) (hA b o e)⟩
theorem Env12.own_ge (h : Env12 w wn g V s A1 e1 gm bm sg wl Am cm Ar cr Aw cw roots weak) : ∀ k, V.ownBlock = some k → w.heap.size ≤ k := fun k hk => (h.sp.own.lt k hk).1
theorem Env12.cpd {V' : Value} {t : Spc} (h : Env12 w wn g V s A1 e1 gm bm sg wl Am cm Ar cr Aw cw roots weak) (hsp : SpR w' w.heap.size g t V') (hk : Kp (fun k => k = g ∨ V.ownBlock = some k) wn w') : Cpd w w' g V' s t A1 e1 gm bm sg wl Am cm Ar cr Aw cw roots weak := by
 have hn : ∀ b o, A1 = some ⟨b, o, none⟩ ∨ Am = some ⟨b, o, none⟩ ∨ Ar = some ⟨b, o, none⟩ ∨ Aw = some ⟨b, o, none⟩ → ¬ (b = g ∨ V.ownBlock = some b) := fun b o e hb => by
  have := (h.ap b o e).2
  rcases hb with rfl | hb
  ·exact this.1 rfl
  ·exact this.2 hb
 refine ⟨hk.toBelow h.bl h.bl.size fun k e => ?_, hsp, ⟨h.rs.sl.kpo hk fun b o e => hn b o (.inl e), h.rs.cap, h.rs.u, h.rs.b0, h.rs.lim, h.rs.l0, fun b o e => Nat.lt_of_lt_of_le (h.rs.lt b o e) hk.size⟩,
  MkR0.kp h.mx hk (fun e => ?_) (fun e => ?_), ⟨h.ms.sl.kpo hk fun b o e => hn b o (.inr (.inl e)), h.ms.cap⟩, h.rt.kpo hk fun b o e => hn b o (.inr (.inr (.inl e))), h.wk.kpo hk fun b o e => hn b o (.inr (.inr (.inr e)))⟩
 ·rcases e with rfl | e
  ·exact h.sp.ge
  ·exact h.own_ge k e
 ·rcases e with e | e
  ·exact Bk.neT h.mx.hd h.sp.hd (by decide) e
  ·exact h.sp.own_ne h.mx.hd (by decide) e
 ·rcases e with e | e
  ·exact h.mx.mp.ne_bk h.sp.hd e.symm
  ·exact h.mx.mp.ne_own h.sp.own e
end
theorem Five_any (w : World) : Calls Tryz.prog 76 #[] w fun e w' => e = .returned (.int .u64 21) ∧ w = w' := by
 have cF : ∀ w, Calls Tryz.prog 124 #[.int .i64 5] w fun e w' => e = .returned (.tuple #[.int .u64 21, .int .i64 0]) ∧ w = w' := fun w => by
  go_enter Tryz.func124, Tryz.ntmps124
  go_wp2_with fail
  go_ret2
  exact ⟨rfl, rfl⟩
 go_enter Tryz.func76, Tryz.ntmps76
 go_wp2_with fail
 refine (cF _).mono ?_
 rintro e w1 ⟨rfl, rfl⟩
 go_wp2_with fail
 go_ret
 exact ⟨rfl, rfl⟩
def oB : List Op1 := [⟨0, ⟨0, 1, 1⟩, 0, 0, 0, 0⟩, ⟨0, ⟨0, 1, 0⟩, 0, 0, 0, 0⟩, ⟨0, ⟨0, 1, 2⟩, 0, 0, 0, 0⟩, ⟨1, ⟨0, 0, 0⟩, 2, 0, 0, 0⟩, ⟨2, ⟨0, 0, 0⟩, 2, 0, 1, 21⟩]
theorem oB_m : (Mm.one (bld1 oB).1.old).marks (rts1 (bld1 oB).2 [2]) = some ([8, 0], []) := by kernel_rfl
theorem oB_s : srtI ([8, 0] ++ (Mm.one (bld1 oB).1.old).kpx [8, 0] [] (rts1 (bld1 oB).2 [])) = [0, 8] := by kernel_rfl
theorem oB_p : (bld1 oB).1.old.plan [0, 8] = some [0, 4] := by kernel_rfl
theorem oB_u : (Mm.one (bld1 oB).1.old).updL (bld1 oB).1.old.base [0, 8] (rts1 (bld1 oB).2 [2]) = some [frW 4] := by kernel_rfl
theorem oB_6 : ((bld1 oB).1.old.cmp [0, 8]).at_ 6 = some (frW 0) := by kernel_rfl
theorem oB_7 : ((bld1 oB).1.old.cmp [0, 8]).at_ 7 = some 21 := by kernel_rfl
theorem oB_ok : ∀ x ∈ oB, x.Ok := by
 intro x hx
 unfold oB at hx
 simp only [List.mem_cons, List.not_mem_nil, or_false] at hx
 rcases hx with rfl | rfl | rfl | rfl | rfl <;> exact ⟨by decide, by decide, by decide, by decide, by decide, by decide, by decide, by decide, ⟨by decide, by decide⟩⟩
theorem Same8_t {w : World} {l m : List Int} {A B : Option Addr} {c d : Nat} (hl : l.length ≤ 140737488355328) (hc : l.length ≤ c) (hd : m.length ≤ d) (h1 : Sl w 1 A l.length (ints l)) (h2 : Sl w 1 B m.length (ints m)) : Calls Tryz.prog 38 #[.slice A l.length c, .slice B m.length d] w fun e w' => e = .returned (.bool (eqL l m)) ∧ Below w.heap.size w w' :=
 (Same8_any l m A B c d w hl hc hd h1 h2).mono fun e w' ⟨h, n, hn⟩ => ⟨h, by subst hn; exact below_drewN (Below.refl _ _) n⟩
theorem Words6_t {w : World} {l m : List Int} {A B : Option Addr} {c d : Nat} (hl : l.length ≤ 140737488355328) (hc : l.length ≤ c) (hd : m.length ≤ d) (h1 : Sl w 1 A l.length (wds l)) (h2 : Sl w 1 B m.length (wds m)) : Calls Tryz.prog 41 #[.slice A l.length c, .slice B m.length d] w fun e w' => e = .returned (.bool (eqL l m)) ∧ Below w.heap.size w w' :=
 (Words6_any l m A B c d w hl hc hd h1 h2).mono fun e w' ⟨h, n, hn⟩ => ⟨h, by subst hn; exact below_drewN (Below.refl _ _) n⟩
section
variable {w : World}
set_option maxHeartbeats 8000000 in
theorem awake12_any : Calls Tryz.prog 34 #[] w fun e w' => e = .returned (.bool true) ∧ Below w.heap.size w w' := by
 have cF := fun w => Five_any w
 go_enter Tryz.func34, Tryz.ntmps34
 go_wp2_with fail
 refine (cF _).mono ?_
 rintro e w0 ⟨rfl, rfl⟩
 go_upto_region 2 with fail
 have hq : Bk (w.alloc (.cells #[.int .i64 0, .int .i64 0, .int .i64 1, .int .i64 1, .int .i64 0, .int .i64 0, .int .i64 0, .int .u64 0, .int .i64 0, .int .i64 0, .int .i64 1, .int .i64 0, .int .i64 0, .int .i64 0, .int .i64 0, .int .u64 0, .int .i64 0, .int .i64 0, .int .i64 1, .int .i64 2, .int .i64 0, .int .i64 0, .int .i64 0, .int .u64 0, .int .i64 1, .int .i64 0, .int .i64 0, .int .i64 0, .int .i64 2, .int .i64 0, .int .i64 0, .int .u64 0, .int .i64 2, .int .i64 0, .int .i64 0, .int .i64 0, .int .i64 2, .int .i64 0, .int .i64 1, .int .u64 21] 90)) w.heap.size 90 (oB.flatMap fun x => x.cells.toList).toArray := Bk.new _ _ _
 have hb1 : Below w.heap.size w (w.alloc (.cells #[.int .i64 0, .int .i64 0, .int .i64 1, .int .i64 1, .int .i64 0, .int .i64 0, .int .i64 0, .int .u64 0, .int .i64 0, .int .i64 0, .int .i64 1, .int .i64 0, .int .i64 0, .int .i64 0, .int .i64 0, .int .u64 0, .int .i64 0, .int .i64 0, .int .i64 1, .int .i64 2, .int .i64 0, .int .i64 0, .int .i64 0, .int .u64 0, .int .i64 1, .int .i64 0, .int .i64 0, .int .i64 0, .int .i64 2, .int .i64 0, .int .i64 0, .int .u64 0, .int .i64 2, .int .i64 0, .int .i64 0, .int .i64 0, .int .i64 2, .int .i64 0, .int .i64 1, .int .u64 21] 90)) := (Below.refl _ _).alloc (Nat.le_refl _) _
 generalize w.alloc (.cells #[.int .i64 0, .int .i64 0, .int .i64 1, .int .i64 1, .int .i64 0, .int .i64 0, .int .i64 0, .int .u64 0, .int .i64 0, .int .i64 0, .int .i64 1, .int .i64 0, .int .i64 0, .int .i64 0, .int .i64 0, .int .u64 0, .int .i64 0, .int .i64 0, .int .i64 1, .int .i64 2, .int .i64 0, .int .i64 0, .int .i64 0, .int .u64 0, .int .i64 1, .int .i64 0, .int .i64 0, .int .i64 0, .int .i64 2, .int .i64 0, .int .i64 0, .int .u64 0, .int .i64 2, .int .i64 0, .int .i64 0, .int .i64 0, .int .i64 2, .int .i64 0, .int .i64 1, .int .u64 21] 90) = w1 at *
 have hb2 : Below w1.heap.size w1 (w1.alloc (.cells #[.int .i64 2] 3)) := (Below.refl _ _).alloc (Nat.le_refl _) _
 have hi2 : IS (w1.alloc (.cells #[.int .i64 2] 3)) [2] (some ⟨w1.heap.size, 0, none⟩) 1 := ⟨Sl.new _ 3 [.int .i64 2], Nat.le_refl _⟩
 have hi3 : IS (w1.alloc (.cells #[.int .i64 2] 3)) [] none 0 := ⟨⟨rfl, .inl rfl⟩, Nat.le_refl _⟩
 have cB := build12_any (Op1s.ofBk (hq.below hb2 hq.lt) oB_ok) (Nat.le_refl _) (by decide) hi2 (by intro x hx; rw [List.mem_singleton.1 hx]; decide) (by decide) hi3 (by intro x hx; cases hx) (by decide)
 have HB0 := lh (hb1.trans (hb2.mono hb1.size))
 clear hq hb1 hb2 hi2 hi3
 obtain ⟨Q0, hQ0⟩ : ∃ Q0, Q0 = Bd12P (w1.alloc (.cells #[.int .i64 2] 3)) (bld1 oB) [2] [] := ⟨_, rfl⟩
 rw [← hQ0] at cB
 replace cB : Calls Tryz.prog 35 #[.slice (some ⟨w.heap.size, 0, none⟩) 5 5, .slice (some ⟨w1.heap.size, 0, none⟩) 1 1, .slice none 0 0] (w1.alloc (.cells #[.int .i64 2] 3)) Q0 := cB
 go_wp2_with fail
 refine cB.mono ?_
 rintro e w2 hbp
 rw [hQ0] at hbp
 unfold Bd12P at hbp
 rw [oB_m] at hbp
 dsimp only at hbp
 obtain ⟨g, V, A1, e1, gm, bm, Am, cm, Ar, cr, Aw, cw, rfl, hen⟩ := hbp
 clear cB hQ0
 have hHS := oB_s
 have hHP := oB_p
 have hHU := oB_u
 have h6 : ldV ((bld1 oB).1.old.cmp [0, 8]) 6 = .tuple #[.int .u64 (frW 0), .int .i64 0] := by unfold ldV; rw [oB_6]
 have h7 : ldV ((bld1 oB).1.old.cmp [0, 8]) 7 = .tuple #[.int .u64 21, .int .i64 0] := by unfold ldV; rw [oB_7]
 rw [hHS]
 obtain ⟨q, hq⟩ : ∃ q, q = bld1 oB := ⟨_, rfl⟩
 rw [← hq] at hHS hHP hHU h6 h7 hen ⊢
 obtain ⟨ra, hra⟩ : ∃ ra, ra = rts1 q.2 [2] := ⟨_, rfl⟩
 obtain ⟨rk, hrk⟩ : ∃ rk, rk = rts1 q.2 [] := ⟨_, rfl⟩
 rw [← hra] at hHU hen ⊢
 rw [← hrk] at hHS hen ⊢
 obtain ⟨wl, hwl⟩ : ∃ wl, wl = (Mm.one q.1.old).kpx [8, 0] [] rk := ⟨_, rfl⟩
 rw [← hwl] at hHS hen
 obtain ⟨s, hs⟩ : ∃ s, s = q.1.old := ⟨_, rfl⟩
 rw [← hs] at hHP hHU h6 h7 hen ⊢
 have HEN := lh hen
 have HS := lh hHS
 have HP := lh hHP
 have HU := lh hHU
 have H6 := lh h6
 have H7 := lh h7
 clear hq hra hrk hwl hs hen hHS hHP hHU h6 h7
 go_upto_region 5 with fail
 have hbx : Below w2.heap.size w2 (w2.alloc (.cells #[.pointer (some ⟨g, 0, none⟩), .int .i64 s.base, .int .i64 s.limit, .slice A1 s.ws.length e1, .pointer (some ⟨gm, 0, none⟩), .slice Am 2 cm, .slice Ar ra.length cr, .slice Aw rk.length cw] 64)) := (Below.refl _ _).alloc (Nat.le_refl _) _
 have HT : Hid (Bk (w2.alloc (.cells #[.pointer (some ⟨g, 0, none⟩), .int .i64 s.base, .int .i64 s.limit, .slice A1 s.ws.length e1, .pointer (some ⟨gm, 0, none⟩), .slice Am 2 cm, .slice Ar ra.length cr, .slice Aw rk.length cw] 64)) w2.heap.size 64 #[.pointer (some ⟨g, 0, none⟩), .int .i64 s.base, .int .i64 s.limit, .slice A1 s.ws.length e1, .pointer (some ⟨gm, 0, none⟩), .slice Am 2 cm, .slice Ar ra.length cr, .slice Aw rk.length cw]) := lh (Bk.new _ _ _)
 have HE3 := lh (HEN.out.below hbx)
 clear hbx HEN
 generalize w2.alloc (.cells #[.pointer (some ⟨g, 0, none⟩), .int .i64 s.base, .int .i64 s.limit, .slice A1 s.ws.length e1, .pointer (some ⟨gm, 0, none⟩), .slice Am 2 cm, .slice Ar ra.length cr, .slice Aw rk.length cw] 64) = w3 at *
 generalize w2.heap.size = gt at *
 have cP := HE3.out.plan
 rw [HS.out] at cP
 unfold PlanP at cP
 rw [HP.out] at cP
 dsimp only at cP
 have d0 : w3.cell? ⟨gt, 0, none⟩ = some (.pointer (some ⟨g, 0, none⟩)) := HT.out.cell 0
 have d4 : w3.cell? ⟨gt, 4, none⟩ = some (.pointer (some ⟨gm, 0, none⟩)) := HT.out.cell 4
 go_wp2_with fail
 refine cP.mono ?_
 rintro e w4 ⟨hb4, v1, v2, rfl, ho1, ho2⟩
 have HE4 := lh (HE3.out.below hb4)
 have HT4 := lh (HT.out.below hb4 HT.out.lt)
 have HO1 := lh ho1
 have HO2 := lh ho2
 have cC := HE4.out.compact HE4.out.rt HE4.out.rc HE4.out.ru (by have := HE4.out.rl; omega)
 rw [HS.out] at cC
 unfold CmpP at cC
 rw [HP.out, HU.out] at cC
 dsimp only at cC
 have hg3 : g < w3.heap.size := HE3.out.sp.hd.lt
 have hv3 : ∀ k, V.ownBlock = some k → k < w3.heap.size := fun k hk => (HE3.out.sp.own.lt k hk).2
 have HV3 := lh hv3
 clear cP d0 d4 hb4 ho1 ho2 HT HE3 hv3
 have d0 : w4.cell? ⟨gt, 0, none⟩ = some (.pointer (some ⟨g, 0, none⟩)) := HT4.out.cell 0
 have d4 : w4.cell? ⟨gt, 4, none⟩ = some (.pointer (some ⟨gm, 0, none⟩)) := HT4.out.cell 4
 have d6 : w4.cell? ⟨gt, 6, none⟩ = some (.slice Ar ra.length cr) := HT4.out.cell 6
 go_wp2_with fail
 refine cC.mono ?_
 rintro e w5 ⟨v, V', rfl, ho5, hsp, hva, hvv, hkp⟩
 have HC5 := lh (HE4.out.cpd hsp hkp)
 have HO5 := lh ho5
 have HT5 : Hid (Bk w5 gt 64 #[.pointer (some ⟨g, 0, none⟩), .int .i64 s.base, .int .i64 s.limit, .slice A1 s.ws.length e1, .pointer (some ⟨gm, 0, none⟩), .slice Am 2 cm, .slice Ar ra.length cr, .slice Aw rk.length cw]) := lh (HT4.out.kp hkp fun e => by
  rcases e with e | e
  ·exact Bk.neT HT4.out HE4.out.sp.hd (by decide) e
  ·exact HE4.out.sp.own_ne HT4.out (by decide) e)
 have hne : ∀ k, w3.heap.size ≤ k → ¬ (k = g ∨ V.ownBlock = some k) := fun k hk e => by
  rcases e with e | e
  ·omega
  ·have := HV3.out k e; omega
 have HO15 := lh (own_local HO1.out (w' := w5) fun k hk => hkp.block k (HO1.out.lt k hk).2 (hne k (HO1.out.lt k hk).1))
 have HO25 := lh (own_local HO2.out (w' := w5) fun k hk => hkp.block k (HO2.out.lt k hk).2 (hne k (HO2.out.lt k hk).1))
 clear cC d0 d4 d6 ho5 hsp hva hvv hkp hne HE4 HT4 HO1 HO2 HV3
 have cL6 := SLoad_any HC5.out.sp 6
 rw [H6.out] at cL6
 have d0 : w5.cell? ⟨gt, 0, none⟩ = some (.pointer (some ⟨g, 0, none⟩)) := HT5.out.cell 0
 go_wp2_with fail
 refine cL6.mono ?_
 rintro e w6 ⟨rfl, hb6⟩
 have HC6 := lh (HC5.out.below hb6)
 have HT6 := lh (HT5.out.below hb6 HT5.out.lt)
 have HB6 := lh hb6
 have cL7 := SLoad_any HC6.out.sp 7
 rw [H7.out] at cL7
 clear cL6 hb6 d0
 have d0 : w6.cell? ⟨gt, 0, none⟩ = some (.pointer (some ⟨g, 0, none⟩)) := HT6.out.cell 0
 go_wp2_with fail
 refine cL7.mono ?_
 rintro e w7 ⟨rfl, hb7⟩
 have HB7 := lh (HB6.out.trans (hb7.mono HB6.out.size))
 have HBW : Hid (Below w.heap.size w w7) := lh (HB0.out.trans ((HC6.out.below hb7).bl.mono HB0.out.size))
 have HR1 := lh (own_local HO15.out (w' := w7) fun k hk => HB7.out.block k (HO15.out.lt k hk).2)
 have HR2 := lh (own_local HO25.out (w' := w7) fun k hk => HB7.out.block k (HO25.out.lt k hk).2)
 have HR5 := lh (own_local HO5.out (w' := w7) fun k hk => HB7.out.block k (HO5.out.lt k hk).2)
 obtain ⟨Ax, cx, rfl, hcx⟩ := own_shape HR1.out
 obtain ⟨Ay, cy, rfl, hcy⟩ := own_shape HR2.out
 obtain ⟨Az, cz, rfl, hcz⟩ := own_shape HR5.out
 clear cL7 hb7 d0 HT6 HC6 HT5 HC5 HO15 HO25 HO5 HB6 HB7
 have hsx := lh (own_sl HR1.out)
 have hsy := lh (own_sl HR2.out)
 have hsz := lh (own_sl HR5.out)
 go_wp2_with fail
 have hsn : Sl (w7.alloc (.cells #[.int .i64 0, .int .i64 8] 3)) 1 (some ⟨w7.heap.size, 0, none⟩) 2 (ints [0, 8]) := Sl.new w7 3 [.int .i64 0, .int .i64 8]
 have hba : Below w7.heap.size w7 (w7.alloc (.cells #[.int .i64 0, .int .i64 8] 3)) := (Below.refl _ _).alloc (Nat.le_refl _) _
 have cS1 : Calls Tryz.prog 38 #[.slice Ax 2 cx, .slice (some ⟨w7.heap.size, 0, none⟩) 2 2] (w7.alloc (.cells #[.int .i64 0, .int .i64 8] 3)) fun e w' => e = .returned (.bool true) ∧ Below (w7.alloc (.cells #[.int .i64 0, .int .i64 8] 3)).heap.size (w7.alloc (.cells #[.int .i64 0, .int .i64 8] 3)) w' := Same8_t (l := [0, 8]) (m := [0, 8]) (c := cx) (d := 2) (by decide) hcx (by decide) (hsx.out.below hba) hsn
 refine cS1.mono ?_
 rintro e w8 ⟨rfl, hb8⟩
 have HB8 := lh (hba.trans (hb8.mono hba.size))
 clear hsn hba cS1 hb8
 go_wp2_with fail
 have hsn : Sl (w8.alloc (.cells #[.int .i64 0, .int .i64 4] 3)) 1 (some ⟨w8.heap.size, 0, none⟩) 2 (ints [0, 4]) := Sl.new w8 3 [.int .i64 0, .int .i64 4]
 have hba : Below w8.heap.size w8 (w8.alloc (.cells #[.int .i64 0, .int .i64 4] 3)) := (Below.refl _ _).alloc (Nat.le_refl _) _
 have cS2 : Calls Tryz.prog 38 #[.slice Ay 2 cy, .slice (some ⟨w8.heap.size, 0, none⟩) 2 2] (w8.alloc (.cells #[.int .i64 0, .int .i64 4] 3)) fun e w' => e = .returned (.bool true) ∧ Below (w8.alloc (.cells #[.int .i64 0, .int .i64 4] 3)).heap.size (w8.alloc (.cells #[.int .i64 0, .int .i64 4] 3)) w' := Same8_t (l := [0, 4]) (m := [0, 4]) (c := cy) (d := 2) (by decide) hcy (by decide) ((hsy.out.below HB8.out).below hba) hsn
 refine cS2.mono ?_
 rintro e w9 ⟨rfl, hb9⟩
 have HB9 := lh (HB8.out.trans ((hba.trans (hb9.mono hba.size)).mono HB8.out.size))
 clear hsn hba cS2 hb9 HB8
 have cW := fun a w => Word_any a w
 go_wp2_with fail
 refine (cW _ _).mono ?_
 rintro e w10 ⟨rfl, rfl⟩
 go_wp2_with fail
 have hsn : Sl (w9.alloc (.cells #[.int .u64 (frW 4)] 51)) 1 (some ⟨w9.heap.size, 0, none⟩) 1 (wds [frW 4]) := Sl.new w9 51 [.int .u64 (frW 4)]
 have hba : Below w9.heap.size w9 (w9.alloc (.cells #[.int .u64 (frW 4)] 51)) := (Below.refl _ _).alloc (Nat.le_refl _) _
 have cS3 : Calls Tryz.prog 41 #[.slice Az 1 cz, .slice (some ⟨w9.heap.size, 0, none⟩) 1 1] (w9.alloc (.cells #[.int .u64 (frW 4)] 51)) fun e w' => e = .returned (.bool true) ∧ Below (w9.alloc (.cells #[.int .u64 (frW 4)] 51)).heap.size (w9.alloc (.cells #[.int .u64 (frW 4)] 51)) w' := Words6_t (l := [frW 4]) (m := [frW 4]) (c := cz) (d := 1) (by decide) hcz (by decide) ((hsz.out.below HB9.out).below hba) hsn
 refine cS3.mono ?_
 rintro e w11 ⟨rfl, hb11⟩
 have HB11 := lh (HB9.out.trans ((hba.trans (hb11.mono hba.size)).mono HB9.out.size))
 clear hsn hba cS3 hb11 HB9 HR1 HR2 HR5 hsx hsy hsz
 go_wp2_with fail
 refine (cW _ _).mono ?_
 rintro e w12 ⟨rfl, rfl⟩
 go_wp2_with fail
 refine (cF _).mono ?_
 rintro e w13 ⟨rfl, rfl⟩
 go_wp2_with fail
 go_ret
 exact ⟨rfl, HBW.out.trans (HB11.out.mono HBW.out.size)⟩
end
end Go.Proofs.YtjpaogapclfajaaGreat
namespace Go.Proofs.YtjpaogapclfajaaGreat
open Go.RowKit Go.Sort
set_option maxRecDepth 100000
theorem i_int2 : (Tryz.prog.info? 3).map (fun i => (i.zero, i.size, i.bytes)) = some (some (.int .i64 0), 1, 8) := by kernel_rfl
theorem own_mono {w : World} {b b' size n : Nat} {e : TypeId} {v : Value} {xs : List Value} (h : w.ownsRow b e size v n xs) (hb : b' ≤ b) : w.ownsRow b' e size v n xs := by
 obtain ⟨h1, h2⟩ := h
 refine ⟨h1, h2.imp id ?_⟩
 rintro ⟨g, cap, cur, e, hg, hr⟩
 exact ⟨g, cap, cur, e, Nat.le_trans hb hg, hr⟩
section
variable {w : World} {s : Spc} {A : Option Addr} {c : Nat}
theorem Spc.size_test {s : Spc} {i : Nat} {x v : Int} (h1 : s.ws[i]? = some x) (h2 : s.ws[i + 1]? = some v) : s.size i = match dH x with
  | some h => if dI v ≠ Id.zero ∧ i + wH h ≤ s.ws.length then (wH h).toNat else 0
  | none => 0 := by
 unfold Spc.size
 rw [h1, h2]
 rfl
theorem Spc.size_out {s : Spc} {i : Nat} (h : s.ws.length ≤ i + 1) : s.size i = 0 := by
 unfold Spc.size
 rw [List.getElem?_eq_none (l := s.ws) (i := i + 1) (by omega)]
 cases s.ws[i]? <;> rfl
def WalkAt (s : Spc) (pre : List Nat) (i : Nat) : Prop := s.walk = (pre ++ (s.walkFrom i).1, (s.walkFrom i).2)
theorem WalkAt.stop {s : Spc} {pre : List Nat} {i : Nat} (h : WalkAt s pre i) (h0 : s.size i = 0) : s.objs = pre.map (fun (j : Nat) => s.base + (j : Int)) ∧ s.wend = s.base + i := by
 unfold WalkAt at h
 rw [s.walkFrom_zero h0, List.append_nil] at h
 unfold Spc.objs Spc.wend
 rw [h]
 exact ⟨rfl, rfl⟩
theorem WalkAt.next {s : Spc} {pre : List Nat} {i : Nat} (h : WalkAt s pre i) (h0 : s.size i ≠ 0) : WalkAt s (pre ++ [i]) (i + s.size i) := by
 unfold WalkAt at h ⊢
 rw [s.walkFrom_pos h0] at h
 rw [h, List.append_assoc]
 rfl
set_option maxHeartbeats 4000000 in
theorem RWalk_any (h : RS w s A c) : Calls Tryz.prog 79 #[rsV s A c] w fun e W' => ∃ v, e = .returned (.tuple #[v, .int .i64 s.wend]) ∧ W'.ownsRow w.heap.size 3 1 v s.objs.length (ints s.objs) ∧ Below w.heap.size w W' := by
 obtain ⟨i9, hi9, hi0, hi1, hi2⟩ := info_parts i_int2
 have HI := lh (And.intro hi9 (And.intro hi0 (And.intro hi1 hi2)))
 clear hi9 hi0 hi1 hi2
 have hb0 := boxS w s A c
 have hq0 : Bk (w.alloc (.cells #[.int .i64 s.base, .int .i64 s.limit, .slice A s.ws.length c] 30)) w.heap.size 30 #[.int .i64 s.base, .int .i64 s.limit, .slice A s.ws.length c] := Bk.here _ _ _ rfl
 have HS := lh ((h.sl.below hb0).below ((Below.refl _ _).alloc (Nat.le_refl _) (.cells #[] 3)))
 have hl1 := h.lim
 have hl2 := h.l0
 have hl0 := h.b0
 have hcap := h.cap
 have HU := lh h.u
 have HLT := lh h.lt
 have HB1 : Hid (Below w.heap.size w ((w.alloc (.cells #[.int .i64 s.base, .int .i64 s.limit, .slice A s.ws.length c] 30)).alloc (.cells #[] 3))) := lh (hb0.alloc (by simp) _)
 have HQ1 := lh (hq0.alloc (.cells #[] 3))
 have HO1 : Hid (World.ownsRow ((w.alloc (.cells #[.int .i64 s.base, .int .i64 s.limit, .slice A s.ws.length c] 30)).alloc (.cells #[] 3)) (w.heap.size + 1) 3 1 (.slice (some ⟨w.heap.size + 1, 0, none⟩) 0 0) 0 []) := lh (ownEmpty 1 (Bk.here _ _ _ (by simp)) (Nat.le_refl _))
 have HZ1 : Hid (w.heap.size + 1 ≤ ((w.alloc (.cells #[.int .i64 s.base, .int .i64 s.limit, .slice A s.ws.length c] 30)).alloc (.cells #[] 3)).heap.size) := lh (by simp)
 unfold rsV
 clear h hb0 hq0
 go_enter Tryz.func79, Tryz.ntmps79
 go_wp2_with fail
 generalize (w.alloc (.cells #[.int .i64 s.base, .int .i64 s.limit, .slice A s.ws.length c] 30)).alloc (.cells #[] 3) = w1 at *
 go_loopw [4, 5] (fun v i_ wr => ∃ (i : Nat) (pre : List Nat), i_ = .int .i64 (i : Int) ∧ i ≤ s.ws.length ∧ pre.length ≤ i ∧ Hid (WalkAt s pre i) ∧ Hid (wr.ownsRow (w.heap.size + 1) 3 1 v pre.length (ints (pre.map fun (j : Nat) => s.base + (j : Int)))) ∧ Hid (Below (w.heap.size + 1) w1 wr)) (fun _ i_ _ => s.ws.length - (intOf i_).toNat)
 case atStart => exact ⟨0, [], rfl, Nat.zero_le _, Nat.le_refl _, lh rfl, HO1, lh (Below.refl _ _)⟩
 case round =>
  obtain ⟨i, pre, rfl, hi, hpre, HW, HO, HB⟩ := hrel
  have HQ := lh (HQ1.out.below HB.out (Nat.lt_succ_self _))
  have HBw := lh (HB1.out.trans (HB.out.mono (Nat.le_succ _)))
  have HSz := lh (Nat.le_trans HZ1.out HB.out.size)
  obtain ⟨q0, q1, q2⟩ := HQ.out.c3
  by_cases hlt : i + 1 < s.ws.length
  ·obtain ⟨b, o, hA, hbl, hcell⟩ := HS.out.get (k := i) (by omega)
   subst hA
   have hx : s.ws[i]? = some s.ws[i] := List.getElem?_eq_getElem (by omega)
   have hv : s.ws[i + 1]? = some s.ws[i + 1] := List.getElem?_eq_getElem hlt
   have hblw : b < w.heap.size := HLT.out b o rfl
   have e1 : wr.cell? ⟨b, o + i, none⟩ = some (.int .u64 s.ws[i]) := (HB.out.cell (p := ⟨b, o + i, none⟩) (by show b < _; omega)).trans (hcell i _ (wds_get hx))
   have e2 : wr.cell? ⟨b, o + (i + 1), none⟩ = some (.int .u64 s.ws[i + 1]) := (HB.out.cell (p := ⟨b, o + (i + 1), none⟩) (by show b < _; omega)).trans (hcell (i + 1) _ (wds_get hv))
   have hxu := HU.out _ (List.getElem_mem (show i < s.ws.length by omega))
   have hvu := HU.out _ (List.getElem_mem hlt)
   generalize s.ws[i] = x at *
   generalize s.ws[i + 1] = v at *
   have hst := Spc.size_test hx hv
   have hlI : (i : Int) + 1 < (s.ws.length : Int) := by omega
   have hic : i < c := by omega
   have hic2 : i + 1 < c := by omega
   have HE2 := lh e2
   have HVU := lh hvu
   have HV := lh hv
   have HCELL := lh hcell
   cases hd : dH x with
   | none =>
    rw [hd] at hst
    have HZ : Hid (s.size i = 0) := lh hst
    have cD := fun w => RDecode_none hxu hd w
    have cW := fun w => RWords_of Hdr.zero w
    clear hst hd hxu hvu hx hv e2 hcell
    go_wp2_with fail
    refine (cD _).mono ?_
    rintro e w2 ⟨rfl, hb2⟩
    have HB2 := lh (HB.out.trans (hb2.mono HSz.out))
    have HQ2 := HQ.out.below hb2 HQ.out.lt
    have HO2 := lh (own_local HO.out fun k hk => hb2.block k (HO.out.lt k hk).2)
    have hne2 : w.heap.size ≠ w2.heap.size := Nat.ne_of_lt HQ2.lt
    clear q0 q1 q2
    obtain ⟨q0, q1, q2⟩ := HQ2.c3
    have HQ2 := lh HQ2
    have HSz2 := lh (Nat.le_trans HSz.out hb2.size)
    clear hb2 cD
    go_upto_region 5 with fail
    have hb3 := (Below.refl _ w2).alloc (Nat.le_refl _) (.cells #[.int .i64 0, .int .i64 0, .int .i64 0] 55)
    have HB3 := lh (HB2.out.trans (hb3.mono HSz2.out))
    have HQ3 := HQ2.out.below hb3 HQ2.out.lt
    have HO3 := lh (own_local HO2.out fun k hk => hb3.block k (HO2.out.lt k hk).2)
    have HT3 : Bk (w2.alloc (.cells #[.int .i64 0, .int .i64 0, .int .i64 0] 55)) w2.heap.size 55 #[.int .i64 0, .int .i64 0, .int .i64 0] := Bk.here _ _ _ rfl
    have HSz3 := lh (Nat.le_trans HSz2.out hb3.size)
    generalize w2.alloc (.cells #[.int .i64 0, .int .i64 0, .int .i64 0] 55) = w3 at *
    generalize w2.heap.size = gt at HT3 ⊢
    clear q0 q1 q2 hne2 hb3
    obtain ⟨q0, q1, q2⟩ := HQ3.c3
    obtain ⟨t0, t1, t2⟩ := HT3.c3
    have HQ3 := lh HQ3
    go_wp2_with fail
    refine (cW _).mono ?_
    rintro e w4 ⟨rfl, hb4⟩
    have HB4 := lh (HB3.out.trans (hb4.mono HSz3.out))
    have HQ4 := HQ3.out.below hb4 HQ3.out.lt
    have HO4 := lh (own_local HO3.out fun k hk => hb4.block k (HO3.out.lt k hk).2)
    have HSz4 := lh (Nat.le_trans HSz3.out hb4.size)
    clear q0 q1 q2 t0 t1 t2 hb4 cW
    obtain ⟨q0, q1, q2⟩ := HQ4.c3
    have HQ4 := lh HQ4
    have HBw4 := lh (HB1.out.trans (HB4.out.mono (Nat.le_succ _)))
    go_wp2_with fail
    go_quiet (fail)
    go_wp2_with fail
    go_ret2
    obtain ⟨ho, he⟩ := HW.out.stop HZ.out
    have hx := own_mono HO4.out (Nat.le_succ _)
    rw [← ho] at hx
    refine ⟨_, by rw [he]; rfl, ?_, below_drewN HBw4.out _⟩
    have hl : pre.length = s.objs.length := by rw [ho, List.length_map]
    rw [← hl]
    exact own_local hx fun k hk => rfl
   | some h =>
    obtain ⟨hk, hc, hf⟩ := h
    rw [hd] at hst
    simp only at hst
    have hwp : 0 < wH ⟨hk, hc, hf⟩ := by have := wH_ge (dH_some hd).1; omega
    have hwb : wH ⟨hk, hc, hf⟩ ≤ 1000 := by have := wH_bound ⟨hk, hc, hf⟩; omega
    have cD := fun w => RDecode_some hxu hd w
    have cW := fun w => RWords_of ⟨hk, hc, hf⟩ w
    simp only at cD cW
    clear hd hxu hx hv e2 hcell
    obtain ⟨q, hq⟩ : ∃ q : Nat, wH ⟨hk, hc, hf⟩ = (q : Int) := ⟨(wH ⟨hk, hc, hf⟩).toNat, by omega⟩
    simp only [hq] at cW hst hwp hwb
    have HQQ := lh hq
    clear hq
    by_cases hz : dI v = Id.zero
    ·have HZ : Hid (s.size i = 0) := lh (by rw [hst, if_neg (fun h => h.1 hz)])
     have cI := fun w => RDecodeID_zero hvu hz w
     clear hst hz hvu
     go_wp2_with fail
     refine (cD _).mono ?_
     rintro e w2 ⟨rfl, hb2⟩
     have HB2 := lh (HB.out.trans (hb2.mono HSz.out))
     have HQ2 := HQ.out.below hb2 HQ.out.lt
     have HO2 := lh (own_local HO.out fun k hk => hb2.block k (HO.out.lt k hk).2)
     have hne2 : w.heap.size ≠ w2.heap.size := Nat.ne_of_lt HQ2.lt
     clear q0 q1 q2
     obtain ⟨q0, q1, q2⟩ := HQ2.c3
     have HQ2 := lh HQ2
     have HSz2 := lh (Nat.le_trans HSz.out hb2.size)
     clear hb2 cD
     go_upto_region 5 with fail
     have hb3 := (Below.refl _ w2).alloc (Nat.le_refl _) (.cells #[.int .i64 hk, .int .i64 hc, .int .i64 hf] 55)
     have HB3 := lh (HB2.out.trans (hb3.mono HSz2.out))
     have HQ3 := HQ2.out.below hb3 HQ2.out.lt
     have HO3 := lh (own_local HO2.out fun k hk => hb3.block k (HO2.out.lt k hk).2)
     have HT3 : Bk (w2.alloc (.cells #[.int .i64 hk, .int .i64 hc, .int .i64 hf] 55)) w2.heap.size 55 #[.int .i64 hk, .int .i64 hc, .int .i64 hf] := Bk.here _ _ _ rfl
     have HSz3 := lh (Nat.le_trans HSz2.out hb3.size)
     generalize w2.alloc (.cells #[.int .i64 hk, .int .i64 hc, .int .i64 hf] 55) = w3 at *
     generalize w2.heap.size = gt at HT3 ⊢
     clear q0 q1 q2 hne2 hb3
     obtain ⟨q0, q1, q2⟩ := HQ3.c3
     obtain ⟨t0, t1, t2⟩ := HT3.c3
     have HQ3 := lh HQ3
     go_wp2_with fail
     refine (cW _).mono ?_
     rintro e w4 ⟨rfl, hb4⟩
     have HB4 := lh (HB3.out.trans (hb4.mono HSz3.out))
     have HQ4 := HQ3.out.below hb4 HQ3.out.lt
     have HO4 := lh (own_local HO3.out fun k hk => hb4.block k (HO3.out.lt k hk).2)
     have HSz4 := lh (Nat.le_trans HSz3.out hb4.size)
     clear q0 q1 q2 t0 t1 t2 hb4 cW
     obtain ⟨q0, q1, q2⟩ := HQ4.c3
     have HQ4 := lh HQ4
     have HBw4 := lh (HB1.out.trans (HB4.out.mono (Nat.le_succ _)))
     have e2 : w4.cell? ⟨b, o + (i + 1), none⟩ = some (.int .u64 v) := (HB4.out.cell (p := ⟨b, o + (i + 1), none⟩) (by show b < _; omega)).trans (HCELL.out (i + 1) _ (wds_get HV.out))
     go_wp2_with fail
     refine (cI _).mono ?_
     rintro e w5 ⟨rfl, hb5⟩
     have HB5 := lh (HB4.out.trans (hb5.mono HSz4.out))
     have HQ5 := HQ4.out.below hb5 HQ4.out.lt
     have HO5 := lh (own_local HO4.out fun k hk => hb5.block k (HO4.out.lt k hk).2)
     have HSz5 := lh (Nat.le_trans HSz4.out hb5.size)
     have HBw5 := lh (HB1.out.trans (HB5.out.mono (Nat.le_succ _)))
     clear q0 q1 q2 hb5 cI e2
     obtain ⟨q0, q1, q2⟩ := HQ5.c3
     have HQ5 := lh HQ5
     go_wp2_with fail
     go_quiet (fail)
     go_wp2_with fail
     go_ret2
     obtain ⟨ho, he⟩ := HW.out.stop HZ.out
     have hx := own_mono HO5.out (Nat.le_succ _)
     rw [← ho] at hx
     refine ⟨_, by rw [he]; rfl, ?_, below_drewN HBw5.out _⟩
     have hl : pre.length = s.objs.length := by rw [ho, List.length_map]
     rw [← hl]
     exact own_local hx fun k hk => rfl
    ·obtain ⟨p, p2, hpz, cI⟩ := RDecodeID_ne hvu hz
     have hpz := hpz.out
     by_cases hfit : i + q ≤ s.ws.length
     ·have hs : s.size i = q := by rw [hst, if_pos ⟨hz, by omega⟩]; omega
      have hng : ¬ ((s.ws.length : Int) < (i : Int) + (q : Int)) := by omega
      have HN := lh (HW.out.next (by omega))
      rw [hs] at HN
      clear hst hz hvu hs
      go_wp2_with fail
      refine (cD _).mono ?_
      rintro e w2 ⟨rfl, hb2⟩
      have HB2 := lh (HB.out.trans (hb2.mono HSz.out))
      have HQ2 := HQ.out.below hb2 HQ.out.lt
      have HO2 := lh (own_local HO.out fun k hk => hb2.block k (HO.out.lt k hk).2)
      have hne2 : w.heap.size ≠ w2.heap.size := Nat.ne_of_lt HQ2.lt
      clear q0 q1 q2
      obtain ⟨q0, q1, q2⟩ := HQ2.c3
      have HQ2 := lh HQ2
      have HSz2 := lh (Nat.le_trans HSz.out hb2.size)
      clear hb2 cD
      go_upto_region 5 with fail
      have hb3 := (Below.refl _ w2).alloc (Nat.le_refl _) (.cells #[.int .i64 hk, .int .i64 hc, .int .i64 hf] 55)
      have HB3 := lh (HB2.out.trans (hb3.mono HSz2.out))
      have HQ3 := HQ2.out.below hb3 HQ2.out.lt
      have HO3 := lh (own_local HO2.out fun k hk => hb3.block k (HO2.out.lt k hk).2)
      have HT3 : Bk (w2.alloc (.cells #[.int .i64 hk, .int .i64 hc, .int .i64 hf] 55)) w2.heap.size 55 #[.int .i64 hk, .int .i64 hc, .int .i64 hf] := Bk.here _ _ _ rfl
      have HSz3 := lh (Nat.le_trans HSz2.out hb3.size)
      generalize w2.alloc (.cells #[.int .i64 hk, .int .i64 hc, .int .i64 hf] 55) = w3 at *
      generalize w2.heap.size = gt at HT3 ⊢
      clear q0 q1 q2 hne2 hb3
      obtain ⟨q0, q1, q2⟩ := HQ3.c3
      obtain ⟨t0, t1, t2⟩ := HT3.c3
      have HQ3 := lh HQ3
      go_wp2_with fail
      refine (cW _).mono ?_
      rintro e w4 ⟨rfl, hb4⟩
      have HB4 := lh (HB3.out.trans (hb4.mono HSz3.out))
      have HQ4 := HQ3.out.below hb4 HQ3.out.lt
      have HO4 := lh (own_local HO3.out fun k hk => hb4.block k (HO3.out.lt k hk).2)
      have HSz4 := lh (Nat.le_trans HSz3.out hb4.size)
      clear q0 q1 q2 t0 t1 t2 hb4 cW
      obtain ⟨q0, q1, q2⟩ := HQ4.c3
      have HQ4 := lh HQ4
      have HBw4 := lh (HB1.out.trans (HB4.out.mono (Nat.le_succ _)))
      have e2 : w4.cell? ⟨b, o + (i + 1), none⟩ = some (.int .u64 v) := (HB4.out.cell (p := ⟨b, o + (i + 1), none⟩) (by show b < _; omega)).trans (HCELL.out (i + 1) _ (wds_get HV.out))
      go_wp2_with fail
      refine (cI _).mono ?_
      rintro e w5 ⟨rfl, hb5⟩
      have HB5 := lh (HB4.out.trans (hb5.mono HSz4.out))
      have HQ5 := HQ4.out.below hb5 HQ4.out.lt
      have HO5 := lh (own_local HO4.out fun k hk => hb5.block k (HO4.out.lt k hk).2)
      have HSz5 := lh (Nat.le_trans HSz4.out hb5.size)
      have HBw5 := lh (HB1.out.trans (HB5.out.mono (Nat.le_succ _)))
      clear q0 q1 q2 hb5 cI e2
      obtain ⟨q0, q1, q2⟩ := HQ5.c3
      have HQ5 := lh HQ5
      go_wp2_with (at_builtin; refine wpList_app rfl (.tmp 49) (.tmp 54) 23 rfl Tryz.underlying23 HI.out.1 HI.out.2.1 HI.out.2.2.1 HI.out.2.2.2 rfl (by decide) (n := pre.length) (xs := ints (pre.map fun (j : Nat) => s.base + (j : Int))) (base := w.heap.size + 1) rfl (HO5.out.alloc _) (A := some ⟨w5.heap.size, 0, none⟩) (m := 1) (c := 1) (news := [.int .i64 (s.base + (i : Int))]) rfl (Sl.new w5 3 [.int .i64 (s.base + (i : Int))]) (by simp [Value.oneCell']) (by unfold maxLen; omega) (by omega) (Nat.le_trans HSz5.out (by simp)) ?_; intro v7 w7 hown hgr h4; have HO7 := lh hown; have HG7 := lh hgr; clear hown hgr h4)
      have hB7 : Below (w.heap.size + 1) w1 w7 := (HB5.out.alloc HSz5.out (.cells #[.int .i64 (s.base + (i : Int))] 3)).grown HG7.out (Nat.le_trans HSz5.out (by simp)) (fun k hk => (HO5.out.lt k hk).1)
      have HB7 := lh hB7
      clear q0 q1 q2 hB7
      go_wp2_with fail
      go_roundw
      case rel => exact ⟨i + q, pre ++ [i], by go_num, by omega, by simp; omega, HN, lh (by have := HO7.out; simpa [ints] using this), HB7⟩
      case measure => simp [intOf]; omega
     ·have HZ : Hid (s.size i = 0) := lh (by rw [hst, if_neg (fun h => hfit (by omega))])
      have hng : (s.ws.length : Int) < (i : Int) + (q : Int) := by omega
      clear hst hz hvu
      go_wp2_with fail
      refine (cD _).mono ?_
      rintro e w2 ⟨rfl, hb2⟩
      have HB2 := lh (HB.out.trans (hb2.mono HSz.out))
      have HQ2 := HQ.out.below hb2 HQ.out.lt
      have HO2 := lh (own_local HO.out fun k hk => hb2.block k (HO.out.lt k hk).2)
      have hne2 : w.heap.size ≠ w2.heap.size := Nat.ne_of_lt HQ2.lt
      clear q0 q1 q2
      obtain ⟨q0, q1, q2⟩ := HQ2.c3
      have HQ2 := lh HQ2
      have HSz2 := lh (Nat.le_trans HSz.out hb2.size)
      clear hb2 cD
      go_upto_region 5 with fail
      have hb3 := (Below.refl _ w2).alloc (Nat.le_refl _) (.cells #[.int .i64 hk, .int .i64 hc, .int .i64 hf] 55)
      have HB3 := lh (HB2.out.trans (hb3.mono HSz2.out))
      have HQ3 := HQ2.out.below hb3 HQ2.out.lt
      have HO3 := lh (own_local HO2.out fun k hk => hb3.block k (HO2.out.lt k hk).2)
      have HT3 : Bk (w2.alloc (.cells #[.int .i64 hk, .int .i64 hc, .int .i64 hf] 55)) w2.heap.size 55 #[.int .i64 hk, .int .i64 hc, .int .i64 hf] := Bk.here _ _ _ rfl
      have HSz3 := lh (Nat.le_trans HSz2.out hb3.size)
      generalize w2.alloc (.cells #[.int .i64 hk, .int .i64 hc, .int .i64 hf] 55) = w3 at *
      generalize w2.heap.size = gt at HT3 ⊢
      clear q0 q1 q2 hne2 hb3
      obtain ⟨q0, q1, q2⟩ := HQ3.c3
      obtain ⟨t0, t1, t2⟩ := HT3.c3
      have HQ3 := lh HQ3
      go_wp2_with fail
      refine (cW _).mono ?_
      rintro e w4 ⟨rfl, hb4⟩
      have HB4 := lh (HB3.out.trans (hb4.mono HSz3.out))
      have HQ4 := HQ3.out.below hb4 HQ3.out.lt
      have HO4 := lh (own_local HO3.out fun k hk => hb4.block k (HO3.out.lt k hk).2)
      have HSz4 := lh (Nat.le_trans HSz3.out hb4.size)
      clear q0 q1 q2 t0 t1 t2 hb4 cW
      obtain ⟨q0, q1, q2⟩ := HQ4.c3
      have HQ4 := lh HQ4
      have HBw4 := lh (HB1.out.trans (HB4.out.mono (Nat.le_succ _)))
      have e2 : w4.cell? ⟨b, o + (i + 1), none⟩ = some (.int .u64 v) := (HB4.out.cell (p := ⟨b, o + (i + 1), none⟩) (by show b < _; omega)).trans (HCELL.out (i + 1) _ (wds_get HV.out))
      go_wp2_with fail
      refine (cI _).mono ?_
      rintro e w5 ⟨rfl, hb5⟩
      have HB5 := lh (HB4.out.trans (hb5.mono HSz4.out))
      have HQ5 := HQ4.out.below hb5 HQ4.out.lt
      have HO5 := lh (own_local HO4.out fun k hk => hb5.block k (HO4.out.lt k hk).2)
      have HSz5 := lh (Nat.le_trans HSz4.out hb5.size)
      have HBw5 := lh (HB1.out.trans (HB5.out.mono (Nat.le_succ _)))
      clear q0 q1 q2 hb5 cI e2
      obtain ⟨q0, q1, q2⟩ := HQ5.c3
      have HQ5 := lh HQ5
      go_wp2_with fail
      go_quiet (fail)
      go_wp2_with fail
      go_ret2
      obtain ⟨ho, he⟩ := HW.out.stop HZ.out
      have hx := own_mono HO5.out (Nat.le_succ _)
      rw [← ho] at hx
      refine ⟨_, by rw [he]; rfl, ?_, below_drewN HBw5.out _⟩
      have hl : pre.length = s.objs.length := by rw [ho, List.length_map]
      rw [← hl]
      exact own_local hx fun k hk => rfl
  ·have HZ : Hid (s.size i = 0) := lh (Spc.size_out (by omega))
   have hge : ¬ ((i : Int) + 1 < (s.ws.length : Int)) := by omega
   go_wp2_with fail
   go_quiet (fail)
   go_wp2_with fail
   go_ret2
   obtain ⟨ho, he⟩ := HW.out.stop HZ.out
   have hx := own_mono HO.out (Nat.le_succ _)
   rw [← ho] at hx
   refine ⟨_, by rw [he]; rfl, ?_, ?_⟩
   ·have hl : pre.length = s.objs.length := by rw [ho, List.length_map]
    rw [← hl]
    exact own_local hx fun k hk => rfl
   ·exact below_drewN HBw.out _
end
end Go.Proofs.YtjpaogapclfajaaGreat
