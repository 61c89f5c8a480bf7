/- Parts of the proof: MarkW. -/
import Derived.Deep.DeepCutAuto
import Derived.Deep.LoopGhost
import Derived.Test.YtjpaogapclfajaaGreatBcA
import Derived.WalkMore
import Derived.WalkSmall
import Derived.Test.YtjpaogapclfajaaGreatBc14
set_option linter.unusedVariables false
set_option linter.unusedSimpArgs false
set_option linter.unusedSectionVars false
namespace Go.Proofs.YtjpaogapclfajaaGreat
open Go.RowKit Go.Maps
attribute [local go_sem] Oper.semAt_some
set_option maxRecDepth 100000
/-- what Mark returns -/
def MarkPost (w : World) (m : Mm) (o : Option (List Int × List Int)) (e : Ending) (w' : World) : Prop :=
 Below w.heap.size w w' ∧ match o with
  | none => e = .returned (.tuple #[.pointer none, .int .i64 11])
  | some (sg, wl) => ∃ g b, e = .returned (.tuple #[.pointer (some ⟨g, 0, none⟩), .int .i64 0]) ∧ MkR w' w.heap.size g b m sg wl
theorem Mm.MkI.pop {m : Mm} {l sg : List Int} {a : Int} (h : m.MkI (l ++ [a], sg)) : m.MkI (l, sg) :=
 ⟨h.nd, (List.nodup_append.1 h.sn).1, fun b hb => h.sub b (List.mem_append.2 (.inl hb)), h.ok⟩
section
variable {w w' : World} {B B1 Nm Nx Ns g b g1 gy : Nat} {V1 V2 : Value} {m : Mm}
theorem VR.start (h : MR w B1 g1 gy V1 V2 m) (hB : B ≤ w.heap.size) :
  VR (((((w.alloc (.map #[] 0)).alloc (.cells #[.map (some w.heap.size), .int .i64 0] 103)).alloc (.cells #[.pointer (some ⟨g1, 0, none⟩), .pointer (some ⟨gy, 0, none⟩)] 27)).alloc (.cells #[.pointer (some ⟨w.heap.size + 1, 0, none⟩)] 36)).alloc (.cells #[.slice none 0 0] 23))
   B B1 (w.heap.size + 1 + 1) (w.heap.size + 1 + 1 + 1) (w.heap.size + 1 + 1 + 1 + 1) (w.heap.size + 1) w.heap.size g1 gy V1 V2 m ([], []) ∧
  Below w.heap.size w (((((w.alloc (.map #[] 0)).alloc (.cells #[.map (some w.heap.size), .int .i64 0] 103)).alloc (.cells #[.pointer (some ⟨g1, 0, none⟩), .pointer (some ⟨gy, 0, none⟩)] 27)).alloc (.cells #[.pointer (some ⟨w.heap.size + 1, 0, none⟩)] 36)).alloc (.cells #[.slice none 0 0] 23)) := by
 have hb : Below w.heap.size w (((((w.alloc (.map #[] 0)).alloc (.cells #[.map (some w.heap.size), .int .i64 0] 103)).alloc (.cells #[.pointer (some ⟨g1, 0, none⟩), .pointer (some ⟨gy, 0, none⟩)] 27)).alloc (.cells #[.pointer (some ⟨w.heap.size + 1, 0, none⟩)] 36)).alloc (.cells #[.slice none 0 0] 23)) :=
  (((((Below.refl _ _).alloc (Nat.le_refl _) _).alloc (by simp) _).alloc (by simp; omega) _).alloc (by simp; omega) _).alloc (by simp; omega) _
 refine ⟨⟨?_, ?_, h.below hb, ?_, ⟨.slice none 0 0, ?_, ⟨rfl, .inl ⟨rfl, rfl⟩⟩⟩, by omega, Mm.MkI.nil m⟩, hb⟩
 ·exact Bk.alloc (Bk.alloc (Bk.here _ _ _ (by simp)) _) _
 ·exact Bk.alloc (Bk.here _ _ _ (by simp)) _
 ·refine ⟨?_, ?_, by omega, hB⟩
  ·exact Bk.alloc (Bk.alloc (Bk.alloc (Bk.here _ _ _ (by simp)) _) _) _
  ·exact (((((MapI.made Tryz.prog 3 3 w).alloc _).alloc _).alloc _).alloc _).congr fun x _ => rfl
 ·exact Bk.here _ _ _ (by simp)
theorem VR.pop {l sg : List Int} {a : Int} {gq cp : Nat} (h : VR w B B1 Nm Nx Ns g b g1 gy V1 V2 m (l ++ [a], sg))
  (hbw : Bk w Ns 23 #[.slice (some ⟨gq, 0, none⟩) (l.length + 1) cp]) (hown : w.ownsRow B 3 1 (.slice (some ⟨gq, 0, none⟩) (l.length + 1) cp) (l.length + 1) (ints l ++ [.int .i64 a])) :
  VR (w.setCell ⟨Ns, 0, none⟩ (.slice (some ⟨gq, 0, none⟩) l.length cp)) B B1 Nm Nx Ns g b g1 gy V1 V2 m (l, sg) ∧ FR Ns g b w (w.setCell ⟨Ns, 0, none⟩ (.slice (some ⟨gq, 0, none⟩) l.length cp)) := by
 have hk : Kp (fun q => q = Ns) w (w.setCell ⟨Ns, 0, none⟩ (.slice (some ⟨gq, 0, none⟩) l.length cp)) := Kp.setCell _ _ _ rfl
 have hgN : gq ≠ Ns := fun e => ownRow_bk hown hbw (by decide) (by rw [← e]; rfl)
 refine ⟨⟨h.bm.far (fun e => Bk.neT h.bm hbw (by decide) e) _, h.bx.far (fun e => Bk.neT h.bx hbw (by decide) e) _, ?_, ?_, ⟨_, hbw.set 0 _, ?_⟩, h.ns, h.ki.pop⟩, ⟨by simp [World.setCell], fun T h0 t1 t2 t3 h4 => ⟨Below.heap_setCell _ _ _ _ t3, fun u hu => ?_⟩⟩⟩
 ·exact ⟨h.mr.o.kp hk (fun e => Bk.neT h.mr.o.hd hbw (by decide) e) (fun q hq e => h.mr.o.own_ne hbw (by decide) (e ▸ hq)), h.mr.y.kp hk (fun e => Bk.neT h.mr.y.hd hbw (by decide) e) (fun q hq e => h.mr.y.own_ne hbw (by decide) (e ▸ hq)), h.mr.ok, h.mr.gg, h.mr.vv⟩
 ·exact ⟨h.kr.hd.far (fun e => Bk.neT h.kr.hd hbw (by decide) e) _, h.kr.mp.setCell (fun e => h.kr.mp.ne_bk hbw e.symm) _, h.kr.ge, h.kr.gm⟩
 ·have := own_local (ownsRow_pop (by simp [ints]) hown) (w' := w.setCell ⟨Ns, 0, none⟩ (.slice (some ⟨gq, 0, none⟩) l.length cp)) fun q hq => Below.heap_setCell _ _ _ _ (fun e => hgN (by cases hq; exact e))
  exact this
 ·have e : (w.setCell ⟨Ns, 0, none⟩ (.slice (some ⟨gq, 0, none⟩) l.length cp)).cell? ⟨Ns, 0, none⟩ = some (.slice (some ⟨gq, 0, none⟩) l.length cp) := (hbw.set 0 _).cell 0
  rw [e] at hu
  obtain rfl := Option.some.inj hu
  have h5 := h4 (.slice (some ⟨gq, 0, none⟩) (l.length + 1) cp) (hbw.cell 0)
  exact h5
/-- the world of the scan: the closure's, and the targets of Weaks -/
structure SR (w : World) (B B1 Nm Nx Ns g b g1 gy : Nat) (V1 V2 : Value) (m : Mm) (k : List Int × List Int) (wk : List Int) (v : Value) : Prop where
 vr : VR w B B1 Nm Nx Ns g b g1 gy V1 V2 m k
 ow : w.ownsRow B 3 1 v wk.length (ints wk)
 ap : ∀ q, v.ownBlock = some q → ApartR w Ns q
 rg : ∀ t ∈ wk, 0 ≤ t ∧ t ≤ 4294967296
 ln : wk.length + k.1.length ≤ k.2.length
theorem SR.step {k k' : List Int × List Int} {wk : List Int} {v : Value} (h : SR w B B1 Nm Nx Ns g b g1 gy V1 V2 m k wk v) (hv : VR w' B B1 Nm Nx Ns g b g1 gy V1 V2 m k') (hf : FR Ns g b w w') (hl : wk.length + k'.1.length ≤ k'.2.length) : SR w' B B1 Nm Nx Ns g b g1 gy V1 V2 m k' wk v := by
 have hq : ∀ q, v.ownBlock = some q → w'.heap[q]? = w.heap[q]? ∧ ApartR w' Ns q := fun q hq => by
  obtain ⟨_, hbs, _⟩ := h.vr.bs
  exact hf.bk q (h.ow.lt q hq).2 (fun e => ownRow_bk h.ow h.vr.kr.hd (by decide) (e ▸ hq)) (fun e => h.vr.kr.mp.ne_own h.ow (e ▸ hq)) (fun e => ownRow_bk h.ow hbs (by decide) (e ▸ hq)) (h.ap q hq)
 exact ⟨hv, own_local h.ow fun q h1 => (hq q h1).1, fun q h1 => (hq q h1).2, h.rg, hl⟩
/-- a target, remembered -/
theorem SR.weak {k : List Int × List Int} {wk : List Int} {v v' : Value} {t : Int} {o : Obj} (h : SR w B B1 Nm Nx Ns g b g1 gy V1 V2 m k wk v) (ht : 0 ≤ t ∧ t ≤ 4294967296) (hl : wk.length + 1 + k.1.length ≤ k.2.length)
  (hown : w'.ownsRow B 3 1 v' (wk.length + 1) (ints wk ++ [.int .i64 t])) (hg : (w.alloc o).grownBy w' v.ownBlock) (hloc : v'.ownBlock = v.ownBlock ∨ v'.ownBlock = some (w.alloc o).heap.size) : SR w' B B1 Nm Nx Ns g b g1 gy V1 V2 m k (wk ++ [t]) v' ∧ Below B w w' := by
 obtain ⟨vs, hbs, hos⟩ := h.vr.bs
 have hNl := hbs.lt
 have sz := hg.size
 simp only [World.size_alloc] at sz
 have keep : ∀ q, q < w.heap.size → v.ownBlock ≠ some q → w'.heap[q]? = w.heap[q]? := fun q h0 h1 => by
  rw [hg.block q (by simp; omega) (fun e => h1 e.symm), Below.heap_alloc _ _ _ h0]
 have hk : Kp (fun q => v.ownBlock = some q) w w' := ⟨hg.os, hg.tape, hg.output, by omega, fun q h0 h1 => keep q h0 h1⟩
 have nb : ∀ {g' : Nat} {ty : TypeId} {cs : Array Value}, Bk w g' ty cs → ty ≠ 3 → v.ownBlock ≠ some g' := fun hb ht e => ownRow_bk h.ow hb ht e
 have nv : ∀ {V : Value} {g' : Nat} {s : Spc}, SpR w B1 g' s V → ∀ q, V.ownBlock = some q → v.ownBlock ≠ some q := fun hs q hq e => by
  obtain ⟨_, ⟨rfl, _⟩ | ⟨g', cap, cur, rfl, _, h4, _⟩⟩ := h.ow
  ·cases e
  ·injection e with e
   subst e
   exact hs.own_ne (show Bk w _ 3 cur from h4) (by decide) hq
 have hap : ∀ q, v.ownBlock = some q → vs.ownBlock ≠ some q := fun q hq => h.ap q hq vs (hbs.cell 0)
 have hbs' : Bk w' Ns 23 #[vs] := hbs.kp hk (nb hbs (by decide))
 refine ⟨⟨⟨h.vr.bm.kp hk (nb h.vr.bm (by decide)), h.vr.bx.kp hk (nb h.vr.bx (by decide)), ⟨h.vr.mr.o.kp hk (nb h.vr.mr.o.hd (by decide)) (nv h.vr.mr.o), h.vr.mr.y.kp hk (nb h.vr.mr.y.hd (by decide)) (nv h.vr.mr.y), h.vr.mr.ok, h.vr.mr.gg, h.vr.mr.vv⟩, MkR0.kp h.vr.kr hk (nb h.vr.kr.hd (by decide)) (h.vr.kr.mp.ne_own h.ow), ⟨vs, hbs', own_local hos fun q hq => keep q (hos.lt q hq).2 fun e => hap q e hq⟩, h.vr.ns, h.vr.ki⟩, ?_, fun q hq u hu => ?_, fun x hx => ?_, ?_⟩, hk.toBelow (Below.refl _ w) (by have := h.vr.ns; omega) fun q hq => (h.ow.lt q hq).1⟩
 ·have e : ints (wk ++ [t]) = ints wk ++ [.int .i64 t] := by simp [ints]
  rw [e, List.length_append, List.length_singleton]
  exact hown
 ·rw [hbs'.cell 0] at hu
  obtain rfl := Option.some.inj hu
  rcases hloc with hl2 | hl2
  ·rw [hl2] at hq; exact hap q hq
  ·rw [hl2] at hq
   have := Option.some.inj hq
   simp only [World.size_alloc] at this
   intro e
   have := (hos.lt q e).2
   omega
 ·rcases List.mem_append.1 hx with hx | hx
  ·exact h.rg x hx
  ·rw [List.mem_singleton.1 hx]; exact ht
 ·rw [List.length_append, List.length_singleton]; exact hl
end
def Mm.fin (m : Mm) (o : Option (List Int × List Int)) : Option (List Int × List Int) := match o with
 | none => none
 | some (sg, wk) => some (sg, wk.foldl (m.keepW sg) [])
theorem Mm.scan_snoc (m : Mm) (f : Nat) (st sg wk : List Int) (a : Int) : m.scan (f + 1) (st ++ [a], sg) wk = match m.scan1 a (st, sg) wk with
  | none => none
  | some (k', wk') => m.scan f k' wk' := by
 conv => lhs; unfold Mm.scan
 simp only [List.getLast?_append, List.getLast?_singleton, Option.or_some, Option.some_or, List.dropLast_concat]
 rfl
theorem Mm.fuel_snoc (m : Mm) (st sg : List Int) (a : Int) : m.fuel (st, sg) + 1 = m.fuel (st ++ [a], sg) := by unfold Mm.fuel; simp; omega
theorem Mm.flds_get (m : Mm) (a : Int) {j : Nat} (h : j < (m.hdr a).2.f.toNat) : (m.flds a)[j]? = some ((m.at_ (a + 2 + (j : Int))).getD 0) := by
 unfold Mm.flds
 rw [List.getElem?_map, List.getElem?_range h]
 rfl
theorem Mm.Ok.fld_u {m : Mm} (h : m.Ok) (a : Int) : U64 ((m.at_ a).getD 0) := by
 cases hx : m.at_ a with
 | none => exact ⟨by decide, by decide⟩
 | some x => exact h.at_u hx
theorem Mm.fldE_in {m : Mm} {a : Int} (h0 : (m.hdr a).1 = 0) (h3 : (m.hdr a).2.k ≠ 3) (h4 : (m.hdr a).2.k ≠ 4) {j : Int} (j0 : 0 ≤ j) (j1 : j < (m.hdr a).2.f) : m.fldE a j = 0 := by
 unfold Mm.fldE
 rw [if_neg (by simp [h0]), if_neg (by omega), if_neg (by omega)]
theorem Mm.vis1_len {m : Mm} {k k' : List Int × List Int} {x : Int} (h : m.vis1 k x = some k') : k'.1.length + k.2.length = k.1.length + k'.2.length ∧ k.2.length ≤ k'.2.length := by
 unfold Mm.vis1 at h
 split at h
 ·cases h
 ·cases h; omega
 ·split at h
  ·cases h; omega
  ·cases h; simp; omega
theorem Mm.vis_len {m : Mm} : ∀ {l : List Int} {k k' : List Int × List Int}, m.vis l k = some k' → k'.1.length + k.2.length = k.1.length + k'.2.length ∧ k.2.length ≤ k'.2.length
 | [], k, k', h => by unfold Mm.vis at h; cases h; omega
 | x :: l, k, k', h => by
  unfold Mm.vis at h
  split at h
  ·cases h
  ·rename_i k1 h1
   have h2 := Mm.vis1_len h1
   have h3 := Mm.vis_len h
   omega
theorem keepW_len (m : Mm) (sg : List Int) : ∀ l wl : List Int, (l.foldl (m.keepW sg) wl).length ≤ wl.length + l.length
 | [], wl => by simp
 | a :: l, wl => by
  have h1 := keepW_len m sg l (m.keepW sg wl a)
  have h2 : (m.keepW sg wl a).length ≤ wl.length + 1 := by unfold Mm.keepW; split <;> simp
  simp only [List.foldl_cons, List.length_cons]
  omega
section
variable {w : World} {B g : Nat} {V : Value} {s : Spc} {l : List Int} {A : Option Addr} {c : Nat}
set_option maxHeartbeats 167772160 in
theorem Mark_all (h : SpR w B g s V) (hb0 : s.base = 0) (hl : s.limit ≤ 16777216) (hB : B ≤ w.heap.size) (hs : Sl w 1 A l.length (wds l)) (hlc : l.length ≤ c) (hll : l.length ≤ 1000000000) (hu : ∀ x ∈ l, U64 x) (hA : ∀ b o, A = some ⟨b, o, none⟩ → b < w.heap.size) (hm : s.ws.length ≤ 16777216) :
  Calls Tryz.prog 16 #[.pointer (some ⟨g, 0, none⟩), .slice A l.length c] w (MarkPost w (Mm.one s) ((Mm.one s).marks l)) := by
 have cM := memory_any h hb0 hl hB
 have hsz : (Mm.one s).size = s.ws.length := by show s.ws.length + 0 = _; omega
 have HSZ : Hid ((Mm.one s).size ≤ 16777216) := lh (by omega)
 obtain ⟨m, hm'⟩ : ∃ m, m = Mm.one s := ⟨_, rfl⟩
 have hmm := @run_makeMap Tryz.prog
 have HS := lh hs
 have HU := lh hu
 have HA := lh hA
 have HL := lh hll
 rw [← hm'] at HSZ ⊢
 unfold MemoryP at cM
 rw [← hm'] at cM
 obtain ⟨R, hR⟩ : ∃ R, R = m.marks l := ⟨_, rfl⟩
 rw [← hR]
 have HRM := lh hR
 clear h hb0 hl hB hs hu hA hm hsz hm' hll hR
 go_enter Tryz.func16, Tryz.ntmps16
 go_wp2_with fail
 go_step3
 go_wp2_with fail
 refine cM.mono ?_
 rintro e w1 ⟨gy, rfl, hmr, hgy, hb⟩
 have HMR := lh hmr
 have HB1 := lh hb
 have HGY := lh hgy
 clear hmr hb hgy cM
 have hst := VR.start (B := w.heap.size) HMR.out HB1.out.size
 have HB2 := lh (HB1.out.trans (hst.2.mono HB1.out.size))
 have cV := visit_any (k := ([], [])) hst.1 (HS.out.below HB2.out) hlc HL.out HU.out (fun b' o e => by
  have h1 := HA.out b' o e
  have h2 := HB1.out.size
  refine ⟨by omega, by omega, by omega, fun u hu => ?_⟩
  rw [(Bk.here _ 23 #[.slice none 0 0] (by simp) : Bk _ (w1.heap.size + 1 + 1 + 1 + 1) _ _).cell 0] at hu
  cases hu
  intro h3
  cases h3) (by have := HSZ.out; omega)
 clear hst
 go_wp2_with fail
 refine cV.mono ?_
 rintro e w2 ⟨rfl, hb2, hv2, hf2⟩
 have HB3 := lh (HB2.out.trans (hb2.mono (Nat.le_refl _)))
 have hR := HRM.out
 cases hvis : m.vis l ([], []) with
 | none =>
  have HR : Hid (R = none) := lh (by rw [hR]; unfold Mm.marks; rw [hvis])
  unfold visE
  clear hR hvis hb2 hv2 hf2 cV
  go_wp2_with fail
  try rw [Exit.noGoto_ret]
  go_ret2
  rw [HR.out]
  exact ⟨HB3.out, rfl⟩
 | some k0 =>
  have hv := hv2 k0 hvis
  have HR : Hid (R = m.fin (m.scan (m.fuel k0) k0 [])) := lh (by rw [hR]; unfold Mm.marks; rw [hvis]; rfl)
  have hki := Mm.vis_vis (Mm.MkI.nil m) hvis
  have HSR : Hid (SR w2 w.heap.size B (w1.heap.size + 1 + 1) (w1.heap.size + 1 + 1 + 1) (w1.heap.size + 1 + 1 + 1 + 1) (w1.heap.size + 1) w1.heap.size g gy V (.slice none 0 0) m k0 [] (.slice none 0 0)) := lh ⟨hv, ⟨rfl, .inl ⟨rfl, rfl⟩⟩, (fun q hq => by cases hq), (fun t ht => by cases ht), by have := nodup_len k0.1 k0.2 hki.1.ki.sn hki.1.ki.sub; simpa using this⟩
  unfold visE
  obtain ⟨Ns, hNs⟩ : ∃ Ns, Ns = w1.heap.size + 1 + 1 + 1 + 1 := ⟨_, rfl⟩
  obtain ⟨Nx, hNx⟩ : ∃ Nx, Nx = w1.heap.size + 1 + 1 + 1 := ⟨_, rfl⟩
  obtain ⟨Nm, hNm⟩ : ∃ Nm, Nm = w1.heap.size + 1 + 1 := ⟨_, rfl⟩
  obtain ⟨gm, hgk⟩ : ∃ gm, gm = w1.heap.size + 1 := ⟨_, rfl⟩
  obtain ⟨bk, hbk⟩ : ∃ bk, bk = w1.heap.size := ⟨_, rfl⟩
  rw [← hNs, ← hNx, ← hNm, ← hgk, ← hbk] at HSR
  rw [← hNs, ← hNx, ← hNm]
  clear hR hvis hb2 hv2 hf2 cV hv hki HRM hNs hNx hNm hgk hbk HMR HGY HB1 HB2 hmm
  go_wp2_with fail
  go_step3
  go_wp2_with fail
  go_loopg [9] (m.fuel k0) (fun F v wr => ∃ (kj : List Int × List Int) (wk : List Int), SR wr w.heap.size B Nm Nx Ns gm bk g gy V (.slice none 0 0) m kj wk v ∧ m.fuel kj ≤ F ∧ Hid (R = m.fin (m.scan F kj wk)) ∧ Below w.heap.size w wr)
  case atStart => exact ⟨k0, [], HSR.out, Nat.le_refl _, HR, HB3.out⟩
  case round =>
   clear HSR HR HB3 w2
   obtain ⟨go, hgo⟩ : ∃ go, go = gk := ⟨gk, rfl⟩
   subst hgo
   obtain ⟨wo, rfl⟩ : ∃ wo : World, wo = wr := ⟨_, rfl⟩
   obtain ⟨⟨st, sg⟩, wk, hsr, hfu, HRJ, hbw⟩ := hrel
   have HSR := lh hsr
   have HFU := lh hfu
   have HB := lh hbw
   obtain ⟨vs, hbs, hos⟩ := hsr.vr.bs
   have HBS := lh hbs
   have HOS := lh hos
   have cNs : wo.cell? ⟨Ns, 0, none⟩ = some vs := hbs.cell 0
   have fNs : wo.frozen? ⟨Ns, 0, none⟩ = false := hbs.free 0
   have x0 : wo.cell? ⟨Nx, 0, none⟩ = some (.pointer (some ⟨gm, 0, none⟩)) := hsr.vr.bx.cell 0
   have m0 : wo.cell? ⟨Nm, 0, none⟩ = some (.pointer (some ⟨g, 0, none⟩)) := hsr.vr.bm.cell 0
   have m1 : wo.cell? ⟨Nm, 1, none⟩ = some (.pointer (some ⟨gy, 0, none⟩)) := hsr.vr.bm.cell 1
   obtain ⟨Aw, cw, rfl, hcw⟩ := own_shape hsr.ow
   have HCW := lh hcw
   clear hsr hfu hbw hbs hos hcw
   rcases List.eq_nil_or_concat st with hw0 | ⟨st', a, hw0⟩
   ·subst hw0
    have e : vs = .slice none 0 0 ∨ ∃ g cp, vs = .slice (some ⟨g, 0, none⟩) 0 cp := by
     rcases HOS.out.2 with ⟨h1, _⟩ | ⟨g, cp, _, h1, _⟩
     ·exact .inl h1
     ·exact .inr ⟨g, cp, h1⟩
    have HE : Hid (R = some (sg, wk.foldl (m.keepW sg) [])) := lh (by
     rw [HRJ.out]
     cases go <;> rfl)
    have hwl : wk.length ≤ sg.length := by have := HSR.out.ln; simpa using this
    have hsl : sg.length ≤ 16777216 := by have := HSR.out.vr.ki.len; have := HSZ.out; simp only at *; omega
    have HWL := lh (And.intro hwl hsl)
    clear HRJ hwl hsl
    rcases e with rfl | ⟨gq, cp, rfl⟩
    all_goals
     go_wp2_with fail
     go_loopw [99] (fun i wr => ∃ j : Nat, i = .int .i64 (j : Int) ∧ j ≤ wk.length ∧ MkR wr w.heap.size gm bk m sg ((wk.take j).foldl (m.keepW sg) []) ∧ Kp (fun q => q = gm ∨ q = bk) wo wr) (fun i _ => wk.length - (intOf i).toNat)
     case atStart => exact ⟨0, rfl, Nat.zero_le _, HSR.out.vr.kr, Kp.refl _ _⟩
     case round =>
      obtain ⟨j, rfl, hj, hmk, hkp⟩ := hrel
      have hqm := HSR.out.vr.bm.kpMk (by decide) HSR.out.vr.kr hkp
      have hqx := HSR.out.vr.bx.kpMk (by decide) HSR.out.vr.kr hkp
      have x01 : wr.cell? ⟨Nx, 0, none⟩ = some (.pointer (some ⟨gm, 0, none⟩)) := hqx.cell 0
      have m01 : wr.cell? ⟨Nm, 0, none⟩ = some (.pointer (some ⟨g, 0, none⟩)) := hqm.cell 0
      have m11 : wr.cell? ⟨Nm, 1, none⟩ = some (.pointer (some ⟨gy, 0, none⟩)) := hqm.cell 1
      have HMK := lh hmk
      have HKP := lh hkp
      by_cases hlt : j < wk.length
      ·obtain ⟨bb, oo, rfl, hb1, hc1⟩ := (own_sl HSR.out.ow).get hlt
       have t1 : wk[j]? = some wk[j] := List.getElem?_eq_getElem hlt
       have hnn : ¬ (bb = gm ∨ bb = bk) := fun e => by
        rcases e with rfl | rfl
        ·exact ownRow_bk HSR.out.ow HSR.out.vr.kr.hd (by decide) rfl
        ·exact HSR.out.vr.kr.mp.ne_own HSR.out.ow rfl
       have e1 : wr.cell? ⟨bb, oo + j, none⟩ = some (.int .i64 wk[j]) := hkp.cell (a := ⟨bb, oo + j, none⟩) (hc1 j _ (ints_get t1)) hnn
       have hrg := HSR.out.rg wk[j] (List.getElem_mem hlt)
       have htk : Hid (∀ wl, (wk.take (j + 1)).foldl (m.keepW sg) wl = m.keepW sg ((wk.take j).foldl (m.keepW sg) wl) wk[j]) := lh (fun wl => by rw [List.take_add_one, t1, List.foldl_append]; rfl)
       generalize wk[j] = x at e1 hrg htk
       have hcc : j < cw := by have := HCW.out; omega
       have hjb : j ≤ 20000000 := by have := HWL.out; omega
       have hlen := keepW_len m sg (wk.take j) []
       have htl : (wk.take j).length ≤ j := List.length_take_le _ _
       have cK := keep_any (HSR.out.vr.mr.kpMk HSR.out.vr.kr hkp) hmk (by have := HWL.out; simp only [List.length_append, List.length_nil] at hlen ⊢; omega) x (by omega)
       clear hmk hkp hqm hqx t1 hnn hc1 hlen htl
       go_wp2_with fail
       refine cK.mono ?_
       rintro e w3 ⟨rfl, hm3, hk3⟩
       have HM3 := lh hm3
       have HK3 := lh hk3
       clear hm3 hk3 cK
       go_wp2_with fail
       go_roundw
       case rel => exact ⟨j + 1, by go_num, by omega, by rw [htk.out]; exact HM3.out, HKP.out.trans HK3.out fun _ _ h => h⟩
       case measure => simp [intOf]; omega
      ·clear hmk hkp hqm hqx
       go_wp2_with fail
       try rw [Exit.noGoto_ret]
       go_ret2
       rw [HE.out]
       have hm2 := HMK.out
       rw [List.take_of_length_le (by omega)] at hm2
       exact ⟨HKP.out.toBelow HB.out HB.out.size (fun q hq => by rcases hq with rfl | rfl; exact HSR.out.vr.kr.ge; exact HSR.out.vr.kr.gm), gm, bk, rfl, hm2⟩
   ·rw [List.concat_eq_append] at hw0
    subst hw0
    have hos := HOS.out
    have e : ints (st' ++ [a]) = ints st' ++ [.int .i64 a] := by simp [ints]
    rw [e] at hos
    simp only [List.length_append, List.length_singleton] at hos
    obtain ⟨gq, cp, rfl, hgb, hgl⟩ := hos.form (by omega)
    have cwl : wo.cell? ⟨gq, st'.length, none⟩ = some (.int .i64 a) := (hos.cellAt st'.length (by omega)).trans (by simp [ints])
    have hgN : gq ≠ Ns := fun e => ownRow_bk hos HBS.out (by decide) (by rw [← e]; rfl)
    have hNg : Ns ≠ gq := fun e => hgN e.symm
    have hcp : st'.length + 1 ≤ cp := by
     rcases hos.2 with ⟨h1, _⟩ | ⟨g', cap', cur, hv, _, _, hn, _⟩
     ·cases h1
     ·injection hv with _ _ h3
      omega
    have hsl : st'.length ≤ 20000000 := by
     have h1 := HSR.out.vr.ki.len
     have h2 := nodup_len _ _ HSR.out.vr.ki.sn HSR.out.vr.ki.sub
     have := HSZ.out
     simp only [List.length_append, List.length_singleton] at h1 h2
     omega
    have hpop := HSR.out.vr.pop HBS.out hos
    have HPOP := lh hpop
    have hmN : Nm ≠ Ns := HSR.out.vr.bm.neT HBS.out (by decide)
    obtain ⟨ha0, ha4⟩ := HSR.out.vr.ki.ok a (HSR.out.vr.ki.sub a (by simp))
    have hab : 0 ≤ a ∧ a ≤ 4294967296 := by
     have h1 := Mm.hdr_has ha0
     unfold Mm.has Mm.sp at h1
     split at h1
     ·have := HSR.out.vr.mr.ok.old_lt h1; omega
     ·have := HSR.out.vr.mr.ok.yng_ge h1; omega
    have cH := MHdr_of hpop.1.mr a
    have hvh := vH_bound (Mm.hdr_valid ha0)
    rw [ha0] at cH
    obtain ⟨⟨hk, hc, hf⟩, hhh⟩ : ∃ hh, hh = (m.hdr a).2 := ⟨_, rfl⟩
    rw [← hhh] at cH hvh ha4
    have HHH := lh hhh
    have HAB := lh hab
    have HA0 := lh ha0
    clear e hos hpop hhh hab ha0 HOS
    go_wp2_with fail
    refine cH.mono ?_
    rintro e w2 ⟨rfl, hb2⟩
    have hfu2 : m.fuel (st', sg) + 1 ≤ go := by rw [Mm.fuel_snoc m st' sg a]; exact HFU.out
    have hgo : go - 1 + 1 = go := by omega
    have HRN : Hid (m.scan1 a (st', sg) wk = none → R = none) := lh (fun e => by
     rw [HRJ.out, ← hgo, Mm.scan_snoc, e]; rfl)
    have HRS : Hid (∀ k' wk', m.scan1 a (st', sg) wk = some (k', wk') → R = m.fin (m.scan (go - 1) k' wk')) := lh (fun k' wk' e => by
     rw [HRJ.out]
     conv => lhs; rw [← hgo, Mm.scan_snoc, e])
    have HFU2 := lh hfu2
    have hln : wk.length + st'.length ≤ sg.length := by have := HSR.out.ln; simp only [List.length_append, List.length_singleton] at this; omega
    have hsr2 := (HSR.out.step HPOP.out.1 HPOP.out.2 hln).step (HPOP.out.1.below hb2) (FR.below hb2 HPOP.out.1.nsLt) hln
    have hwB : w.heap.size ≤ wo.heap.size := HB.out.size
    have hNsB := HSR.out.vr.ns
    have hbw2 : Below w.heap.size w w2 := (HB.out.setCell (p := ⟨Ns, 0, none⟩) hNsB _).trans (hb2.mono (by simpa [World.setCell] using hwB))
    have hal : Below w2.heap.size w2 (w2.alloc (.cells #[.int .i64 hk, .int .i64 hc, .int .i64 hf] 55)) := (Below.refl _ _).alloc (Nat.le_refl _) _
    have HSR3 := lh (hsr2.step (hsr2.vr.below hal) (FR.below hal hsr2.vr.nsLt) hln)
    have HB3 := lh (hbw2.trans (hal.mono hbw2.size))
    have HM3 := lh (Bk.new w2 55 #[.int .i64 hk, .int .i64 hc, .int .i64 hf])
    have HLN := lh hln
    have HLN1 : Hid (wk.length + 1 + st'.length ≤ sg.length) := lh (by have := HSR.out.ln; simp only [List.length_append, List.length_singleton] at this; omega)
    clear hb2 hsr2 hbw2 hal hgo hfu2 HFU HRJ HPOP HSR HBS cNs fNs x0 m0 m1 hmN cwl hgN hNg hcp hgb hgl cH HB hwB hNsB hln
    go_upto_region 11 with fail
    generalize w2.alloc (.cells #[.int .i64 hk, .int .i64 hc, .int .i64 hf] 55) = w3 at *
    generalize w2.heap.size = M at *
    have c0 : w3.cell? ⟨M, 0, none⟩ = some (.int .i64 hk) := HM3.out.cell 0
    have c2 : w3.cell? ⟨M, 2, none⟩ = some (.int .i64 hf) := HM3.out.cell 2
    by_cases h3 : hk = 3
    ·subst h3
     have HS1 : Hid (m.scan1 a (st', sg) wk = some ((st', sg), wk)) := lh (by unfold Mm.scan1; rw [← HHH.out]; rfl)
     go_wp2_with fail
     go_roundg (go - 1)
     case measure => have := HFU2.out; omega
     case rel => exact ⟨(st', sg), wk, HSR3.out, by have := HFU2.out; omega, lh (HRS.out _ _ HS1.out), HB3.out⟩
    ·have e3 : (hk == 3) = false := by simp [h3]
     by_cases h2 : hk = 2
     ·subst h2
      have hf1 : hf = 1 := weak_one (h := ⟨2, hc, hf⟩) (by rw [HHH.out]; exact Mm.hdr_valid HA0.out) rfl
      subst hf1
      have hfe : m.fldE a 0 = 0 := Mm.fldE_in HA0.out (by rw [← HHH.out]; simp) (by rw [← HHH.out]; simp) (Int.le_refl _) (by rw [← HHH.out]; exact Int.zero_lt_one)
      have cF := MField_any HSR3.out.vr.mr a 0
      unfold fwV memV at cF
      rw [if_pos hfe] at cF
      have hfl : m.flds a = [(m.at_ (a + 2 + 0)).getD 0] := by unfold Mm.flds; rw [← HHH.out]; rfl
      have hxu := HSR3.out.vr.mr.ok.fld_u (a + 2 + 0)
      obtain ⟨x, hx⟩ : ∃ x, x = (m.at_ (a + 2 + 0)).getD 0 := ⟨_, rfl⟩
      rw [← hx] at cF hfl hxu
      have HXU := lh hxu
      have HS1 : Hid (m.scan1 a (st', sg) wk = match m.rfr x with | none => none | some none => some ((st', sg), wk) | some (some t) => some ((st', sg), wk ++ [t])) := lh (by
       unfold Mm.scan1; rw [← HHH.out, hfl]; rfl)
      have m0 : w3.cell? ⟨Nm, 0, none⟩ = some (.pointer (some ⟨g, 0, none⟩)) := HSR3.out.vr.bm.cell 0
      have m1 : w3.cell? ⟨Nm, 1, none⟩ = some (.pointer (some ⟨gy, 0, none⟩)) := HSR3.out.vr.bm.cell 1
      clear hfe hfl hxu hx
      go_wp2_with fail
      go_loopg [9, 61] (1) (fun q v9 i wr => q = 1 ∧ v9 = .slice Aw wk.length cw ∧ i = .int .i64 0 ∧ wr = w3)
      case atStart => exact ⟨rfl, rfl, rfl, rfl⟩
      case round =>
       obtain ⟨hq1, rfl, rfl, rfl⟩ := hrel
       clear hq1
       go_wp2_with fail
       refine cF.mono ?_
       rintro e w4 ⟨rfl, hb4⟩
       have HB4 := lh (HB3.out.trans (hb4.mono HB3.out.size))
       have HSR4 := lh (HSR3.out.step (HSR3.out.vr.below hb4) (FR.below hb4 HSR3.out.vr.nsLt) HLN.out)
       have HM4 := lh (HM3.out.below hb4 HM3.out.lt)
       have d0 : w4.cell? ⟨M, 0, none⟩ = some (.int .i64 2) := HM4.out.cell 0
       have m04 : w4.cell? ⟨Nm, 0, none⟩ = some (.pointer (some ⟨g, 0, none⟩)) := HSR4.out.vr.bm.cell 0
       have m14 : w4.cell? ⟨Nm, 1, none⟩ = some (.pointer (some ⟨gy, 0, none⟩)) := HSR4.out.vr.bm.cell 1
       have cR := refers_any HSR4.out.vr.mr HXU.out
       clear hb4 cF
       cases hr : m.rfr x with
       | none =>
        rw [hr] at cR
        unfold rfrV at cR
        have HE : Hid (R = none) := lh (HRN.out (by rw [HS1.out, hr]))
        clear hr
        go_wp2_with fail
        refine cR.mono ?_
        rintro e w5 ⟨rfl, hb5⟩
        have HB5 := lh (HB4.out.trans (hb5.mono HB4.out.size))
        clear hb5 cR
        go_wp2_with fail
        try rw [Exit.noGoto_ret]
        go_ret2
        rw [HE.out]
        exact ⟨HB5.out, rfl⟩
       | some o =>
        cases o with
        | none =>
         rw [hr] at cR
         unfold rfrV at cR
         have HE : Hid (R = m.fin (m.scan (go - 1) (st', sg) wk)) := lh (HRS.out _ _ (by rw [HS1.out, hr]))
         clear hr
         go_wp2_with fail
         refine cR.mono ?_
         rintro e w5 ⟨rfl, hb5⟩
         have HB5 := lh (HB4.out.trans (hb5.mono HB4.out.size))
         have HSR5 := lh (HSR4.out.step (HSR4.out.vr.below hb5) (FR.below hb5 HSR4.out.vr.nsLt) HLN.out)
         clear hb5 cR
         go_wp2_with fail
         go_roundg (go - 1)
         case measure => have := HFU2.out; omega
         case rel => exact ⟨(st', sg), wk, HSR5.out, by have := HFU2.out; omega, HE, HB5.out⟩
        | some tt =>
         rw [hr] at cR
         unfold rfrV at cR
         have HE : Hid (R = m.fin (m.scan (go - 1) (st', sg) (wk ++ [tt]))) := lh (HRS.out _ _ (by rw [HS1.out, hr]))
         have htb : 0 ≤ tt ∧ tt ≤ 4294967296 := by
          have h1 := Mm.hdr_has (Mm.rfr_hdr hr).1
          unfold Mm.has Mm.sp at h1
          split at h1
          ·have := HSR4.out.vr.mr.ok.old_lt h1; omega
          ·have := HSR4.out.vr.mr.ok.yng_ge h1; omega
         have HTB := lh htb
         have hwl : wk.length ≤ 16777216 := by
          have h1 := HSR4.out.vr.ki.len
          have h2 := HLN.out
          have h3 := HSZ.out
          simp only at h1
          omega
         have hln2 : wk.length + 1 + st'.length ≤ sg.length := by
          have h1 := HLN1.out
          omega
         have HLN2 := lh hln2
         clear hr htb hln2
         go_wp2_with fail
         refine cR.mono ?_
         rintro e w5 ⟨rfl, hb5⟩
         have HB5 := lh (HB4.out.trans (hb5.mono HB4.out.size))
         have HSR5 := lh (HSR4.out.step (HSR4.out.vr.below hb5) (FR.below hb5 HSR4.out.vr.nsLt) HLN.out)
         obtain ⟨i0, hi, hz0, hz1, hz2⟩ := info_parts Tryz.infoI
         have HI := lh (And.intro hi (And.intro hz0 (And.intro hz1 hz2)))
         have hBl : w.heap.size ≤ w5.heap.size := HB5.out.size
         clear hb5 cR hi hz0 hz1 hz2
         go_wp2_with (at_builtin; refine wpList_append_own_at _ rfl (.tmp 85) (.tmp 87) 23 rfl w.heap.size 3 i0 (.int .i64 0) 1 8 Tryz.underlying23 HI.out.1 HI.out.2.1 HI.out.2.2.1 HI.out.2.2.2 rfl (by decide) (.slice Aw wk.length cw) wk.length _ rfl (HSR5.out.ow.alloc _) ⟨w5.heap.size, 0, none⟩ 1 1 [.int .i64 tt] rfl rfl (cell_one_new _ _ _) (by simp [Value.oneCell']) (by unfold maxLen; omega) (by omega) (by simp; omega) ?_; intro v' w6 hown6 hg6 _ hloc; have HOWN6 := lh hown6; have HG6 := lh hg6; have HLOC := lh hloc; clear hown6 hg6 hloc)
         have hwk := HSR5.out.weak HTB.out HLN2.out HOWN6.out HG6.out HLOC.out
         have HWK := lh hwk
         clear hwk
         go_roundg (go - 1)
         case measure => have := HFU2.out; omega
         case rel => exact ⟨(st', sg), wk ++ [tt], HWK.out.1, by have := HFU2.out; omega, HE, HB5.out.trans HWK.out.2⟩
     ·have e2 : (hk == 2) = false := by simp [h2]
      obtain ⟨R1, hR1⟩ : ∃ R1, R1 = m.vis (m.flds a) (st', sg) := ⟨_, rfl⟩
      have HR1 := lh hR1
      have HS1 : Hid (m.scan1 a (st', sg) wk = R1.map fun k' => (k', wk)) := lh (by
       unfold Mm.scan1; rw [← HHH.out, if_neg h3, if_neg h2, hR1]; cases m.vis (m.flds a) (st', sg) <;> rfl)
      have HFV : Hid (∀ k', R1 = some k' → m.fuel k' ≤ m.fuel (st', sg)) := lh (fun k' e => (Mm.vis_vis HSR3.out.vr.ki (hR1.symm.trans e)).1.fuel)
      have HK3 := lh h3
      have hf0 : 0 ≤ hf ∧ hf ≤ 30 := ⟨hvh.2.2.2.2.1, hvh.2.2.2.2.2⟩
      obtain ⟨nf, hnf⟩ : ∃ nf : Nat, hf = (nf : Int) := ⟨hf.toNat, by omega⟩
      subst hnf
      have hnf30 : nf ≤ 30 := by omega
      have HMne : Hid (M ≠ gm ∧ M ≠ bk ∧ M ≠ Ns ∧ ApartR w3 Ns M) := lh (by
       obtain ⟨vs, hbs, hos⟩ := HSR3.out.vr.bs
       refine ⟨Bk.neT HM3.out HSR3.out.vr.kr.hd (by decide), HSR3.out.vr.kr.mp.ne_bk HM3.out, Bk.neT HM3.out hbs (by decide), fun u hu => ?_⟩
       rw [hbs.cell 0] at hu
       obtain rfl := Option.some.inj hu
       exact ownRow_bk hos HM3.out (by decide))
      clear h3 h2 hR1 hvh
      go_wp2_with fail
      go_loopg [9, 61] (nf) (fun q v9 i wr => v9 = .slice Aw wk.length cw ∧ ∃ (j : Nat) (kj : List Int × List Int), i = .int .i64 (j : Int) ∧ j + q = nf ∧ SR wr w.heap.size B Nm Nx Ns gm bk g gy V (.slice none 0 0) m kj wk (.slice Aw wk.length cw) ∧ FR Ns gm bk w3 wr ∧ Below w.heap.size w wr ∧ Hid (R1 = m.vis ((m.flds a).drop j) kj))
      case atStart => exact ⟨rfl, 0, (st', sg), rfl, by omega, HSR3.out, FR.refl, HB3.out, lh (by rw [HR1.out]; rfl)⟩
      case round =>
       obtain ⟨rfl, j, kj, rfl, hjq, hsr, hfr, hbw, HRJ⟩ := hrel
       have HSRr := lh hsr
       have HFR := lh hfr
       have HBr := lh hbw
       have HMr : Hid (Bk wr M 55 #[.int .i64 hk, .int .i64 hc, .int .i64 (nf : Int)]) := lh ((hfr.bk M HM3.out.lt HMne.out.1 HMne.out.2.1 HMne.out.2.2.1 HMne.out.2.2.2).1.trans HM3.out)
       clear hsr hfr hbw
       cases gk with
       | zero =>
        have hj : j = nf := by omega
        subst hj
        have HE1 : Hid (R1 = some kj) := lh (by
         rw [HRJ.out, List.drop_eq_nil_of_le (by unfold Mm.flds; simp [← HHH.out])]; rfl)
        have HE : Hid (R = m.fin (m.scan (go - 1) kj wk)) := lh (HRS.out _ _ (by rw [HS1.out, HE1.out]; rfl))
        have hlt : ¬ ((j : Int) < j) := by omega
        go_wp2_with fail
        go_roundg (go - 1)
        case measure => have := HFU2.out; omega
        case rel => exact ⟨kj, wk, HSRr.out, by have := HFU2.out; have := HFV.out kj HE1.out; omega, HE, HBr.out⟩
       | succ q =>
        have hlt : j < nf := by omega
        have hfe : m.fldE a (j : Int) = 0 := Mm.fldE_in HA0.out (by rw [← HHH.out]; exact HK3.out) (by rw [← HHH.out]; exact ha4) (by omega) (by rw [← HHH.out]; show (j : Int) < (nf : Int); omega)
        have cF := MField_any HSRr.out.vr.mr a (j : Int)
        unfold fwV memV at cF
        rw [if_pos hfe] at cF
        have hfl := m.flds_get a (j := j) (by rw [← HHH.out]; show j < (nf : Int).toNat; omega)
        have hxu := HSRr.out.vr.mr.ok.fld_u (a + 2 + (j : Int))
        obtain ⟨x, hx⟩ : ∃ x, x = (m.at_ (a + 2 + (j : Int))).getD 0 := ⟨_, rfl⟩
        rw [← hx] at cF hfl hxu
        have HXU := lh hxu
        have HRX : Hid (R1 = m.vis (x :: (m.flds a).drop (j + 1)) kj) := lh (by
         rw [HRJ.out]
         obtain ⟨hlj, hgj⟩ := List.getElem?_eq_some_iff.1 hfl
         rw [List.drop_eq_getElem_cons hlj, hgj])
        have m0 : wr.cell? ⟨Nm, 0, none⟩ = some (.pointer (some ⟨g, 0, none⟩)) := HSRr.out.vr.bm.cell 0
        have m1 : wr.cell? ⟨Nm, 1, none⟩ = some (.pointer (some ⟨gy, 0, none⟩)) := HSRr.out.vr.bm.cell 1
        clear hfe hfl hxu hx
        go_wp2_with fail
        refine cF.mono ?_
        rintro e w4 ⟨rfl, hb4⟩
        have HB4 := lh (HBr.out.trans (hb4.mono HBr.out.size))
        have HV4 := lh (HSRr.out.vr.below hb4)
        have HF4 := lh (FR.below (b := bk) (g := gm) hb4 HSRr.out.vr.nsLt)
        have HM4 := lh (HMr.out.below hb4 HMr.out.lt)
        have d0 : w4.cell? ⟨M, 0, none⟩ = some (.int .i64 hk) := HM4.out.cell 0
        have hal : Below w4.heap.size w4 (w4.alloc (.cells #[.int .u64 x] 51)) := (Below.refl _ _).alloc (Nat.le_refl _) _
        have HAL := lh hal
        have cV := visit_any (l := [x]) (c := 1) (A := some ⟨w4.heap.size, 0, none⟩) (HV4.out.below hal) (Sl.new w4 51 [.int .u64 x]) (Nat.le_refl _) (by simp) (fun y hy => by rw [List.mem_singleton.1 hy]; exact HXU.out) (fun b' o e => by
         cases e
         obtain ⟨vs, hbs, hos⟩ := HV4.out.bs
         have n1 := HV4.out.kr.hd.lt
         have n2 := HV4.out.kr.mp.lt
         have n3 := hbs.lt
         refine ⟨by omega, by omega, by omega, fun u hu => ?_⟩
         rw [(hbs.alloc _).cell 0] at hu
         obtain rfl := Option.some.inj hu
         intro h5
         have := (hos.lt _ h5).2
         omega) (by have := HSZ.out; omega)
        clear hb4 cF hal
        go_wp2_with fail
        refine cV.mono ?_
        rintro e w5 ⟨rfl, hb5, hv5, hf5⟩
        have HB5 := lh (HB4.out.trans ((Below.mono HAL.out HB4.out.size).trans hb5))
        cases hvis : m.vis [x] kj with
        | none =>
         have HE : Hid (R = none) := lh (HRN.out (by
          rw [HS1.out, HRX.out]
          unfold Mm.vis at hvis ⊢
          cases h1 : m.vis1 kj x with
          | none => rfl
          | some k1 => rw [h1] at hvis; cases hvis))
         unfold visE
         clear hvis hb5 hv5 hf5 cV
         go_wp2_with fail
         try rw [Exit.noGoto_ret]
         go_ret2
         rw [HE.out]
         exact ⟨HB5.out, rfl⟩
        | some k5 =>
         have hv := hv5 k5 hvis
         have HRY : Hid (R1 = m.vis ((m.flds a).drop (j + 1)) k5) := lh (by
          rw [HRX.out]
          conv => lhs; unfold Mm.vis
          unfold Mm.vis at hvis
          cases h1 : m.vis1 kj x with
          | none => rw [h1] at hvis; cases hvis
          | some k1 => rw [h1] at hvis; cases hvis; rfl)
         have HFF := lh ((HF4.out.trans (FR.below HAL.out HV4.out.nsLt)).trans hf5)
         have HSR5 := lh (HSRr.out.step hv HFF.out (by
          have h1 := HSRr.out.ln
          have h2 := Mm.vis_len hvis
          omega))
         unfold visE
         clear hvis hb5 hv5 hf5 cV hv
         go_wp2_with fail
         go_roundg q
         case measure => omega
         case rel => exact ⟨rfl, j + 1, k5, by go_num, by omega, HSR5.out, HFR.out.trans HFF.out, HB5.out, HRY⟩
end
end Go.Proofs.YtjpaogapclfajaaGreat
