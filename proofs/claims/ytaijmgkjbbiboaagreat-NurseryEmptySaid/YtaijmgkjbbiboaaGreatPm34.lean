/- Parts of the proof: NurQ, RBldD, RNurB, Env10. -/
import Derived.BigQuiet
import Derived.Deep.QuietTactic
import Derived.Test.YtaijmgkjbbiboaaGreatPmA
import Derived.Test.YtaijmgkjbbiboaaGreatPm18
import Derived.Test.YtaijmgkjbbiboaaGreatPm21
import Derived.Test.YtaijmgkjbbiboaaGreatPm23
import Derived.Test.YtaijmgkjbbiboaaGreatPm24
import Derived.Test.YtaijmgkjbbiboaaGreatPm25
import Derived.Test.YtaijmgkjbbiboaaGreatPm27
import Derived.Test.YtaijmgkjbbiboaaGreatPm28
import Derived.Test.YtaijmgkjbbiboaaGreatPm31
import Derived.Test.YtaijmgkjbbiboaaGreatPm33
set_option linter.unusedVariables false
set_option linter.unusedSimpArgs false
set_option linter.unusedSectionVars false
set_option maxRecDepth 100000
namespace Go.Proofs.YtaijmgkjbbiboaaGreat
section
theorem ygW_frW {a : Int} (h0 : 0 ≤ a) (h1 : a ≤ 4294967295) : ygW (frW a) = decide (16777216 ≤ a) := by
 unfold ygW; rw [adr_frW h0 h1]
def Mm.emp (m : Mm) : Mm := ⟨m.old, { m.yng with ws := [] }⟩
theorem Mm.emp_at {m : Mm} {a : Int} (h : m.old.has a = true) : m.emp.at_ a = m.at_ a ∧ m.emp.hdr a = m.hdr a ∧ m.emp.sp a = m.old ∧ m.sp a = m.old := by
 have h1 : m.emp.sp a = m.old := by
  unfold Mm.sp
  rw [if_pos (show m.emp.old.has a = true from h)]
  rfl
 have h2 : m.sp a = m.old := by
  unfold Mm.sp
  rw [if_pos h]
 unfold Mm.at_ Mm.hdr
 rw [h1, h2]
 exact ⟨rfl, rfl, rfl, rfl⟩
theorem Mm.Ok.hdr_old {m : Mm} (h : m.Ok) {b : Int} (h0 : (m.hdr b).1 = 0) (hb : b < 16777216) : m.old.has b = true := by
 have h1 := Mm.hdr_has h0
 unfold Mm.has Mm.sp at h1
 split at h1
 ·exact h1
 ·have := h.yng_ge h1; omega
structure Fin10 (m : Mm) (cs roots L U Z : List Int) : Prop where
 ok : m.Ok
 hl : m.OrdI L
 hL : L = (m.order cs roots).1
 cr : m.CrI L (m.crossing (cardIn cs))
 hf : m.old.top + m.need L ≤ m.old.limit
 hU : U = m.upd L (m.plc m.old.top L) (m.crossing (cardIn cs)) m.old.ws
 hZ : Z = L.flatMap (m.cpy L (m.plc m.old.top L))
 rt : ∀ x ∈ roots, m.Met L x
 sl : ∀ a ∈ L, ∀ x ∈ m.slW a, m.Met L x
theorem collect_0 {m : Mm} (ok : m.Ok) {chk : Int} {cs roots : List Int} (h : (m.collect chk cs roots).e = 0) : ∃ L U Z, Fin10 m cs roots L U Z ∧ (m.order cs roots).2 = false ∧ chk = 0 ∧ m.collect chk cs roots = ⟨0, (m.mid U Z).emp, [], roots.map (m.mvd L (m.plc m.old.top L)), L.length⟩ := by
 by_cases h1 : (m.order cs roots).2 = true ∨ chk ≠ 0
 ·unfold Mm.collect at h
  rw [if_pos h1] at h
  cases h
 ·by_cases h2 : m.old.top + m.need (m.order cs roots).1 > m.old.limit
  ·unfold Mm.collect at h
   rw [if_neg h1, if_pos h2] at h
   cases h
  ·have h3 : (m.order cs roots).2 = false := by
    cases he : (m.order cs roots).2 with
    | false => rfl
    | true => exact absurd (.inl he) h1
   have h4 : chk = 0 := by
    by_cases he : chk = 0
    ·exact he
    ·exact absurd (.inr he) h1
   have hmt := Mm.order_met ok h3
   refine ⟨_, _, _, ⟨ok, m.order_I cs roots, rfl, ok.crI h3, by omega, rfl, rfl, hmt.1, hmt.2.2⟩, h3, h4, ?_⟩
   unfold Mm.collect
   rw [if_neg h1, if_neg h2]
   rfl
section
variable {m : Mm} {cs roots L U Z : List Int}
theorem Fin10.upd (h : Fin10 m cs roots L U Z) : UpdI m L (m.plc m.old.top L) U := by
 rw [h.hU]
 exact (UpdI.upd h.ok (ts := m.plc m.old.top L) _ rfl h.cr).1
theorem Mm.cpy_u {m : Mm} (ok : m.Ok) (l ts : List Int) (a : Int) : ∀ x ∈ m.cpy l ts a, U64 x := by
 have h0 : U64 0 := by constructor <;> omega
 have hg : ∀ b, U64 ((m.at_ b).getD 0) := fun b => by
  cases hb : m.at_ b with
  | none => exact h0
  | some x =>
   unfold Mm.at_ Mm.sp at hb
   split at hb
   ·exact ok.o.at_u hb
   ·exact ok.y.at_u hb
 intro x hx
 unfold Mm.cpy at hx
 obtain ⟨k, _, rfl⟩ := List.mem_map.1 hx
 split
 ·exact Mm.mvd_u _ _ _ (hg _)
 ·exact hg _
theorem Fin10.laid (h : Fin10 m cs roots L U Z) : LaidZ m L Z := by
 rw [h.hZ]
 refine Mm.laid_of h.hl (fun a _ => m.cpy_len _ _ a) (fun a _ => Mm.cpy_u h.ok _ _ a) fun a ha => ?_
 have h4 := wH_ge (Mm.hdr_valid (h.hl.ok a ha).1)
 have e0 := m.cpy_get L (m.plc m.old.top L) a (k := 0) (by omega)
 have e1 := m.cpy_get L (m.plc m.old.top L) a (k := 1) (by omega)
 rw [if_neg (by omega)] at e0 e1
 exact ⟨by simpa using e0, by simpa using e1⟩
theorem Fin10.mid (h : Fin10 m cs roots L U Z) : Mid m L (m.plc m.old.top L) (m.mid U Z) := Mid.of h.ok h.hl h.upd h.laid h.hf
theorem Fin10.mok (h : Fin10 m cs roots L U Z) : (m.mid U Z).Ok := h.mid.ok
theorem Fin10.newlt (h : Fin10 m cs roots L U Z) {r : Int} (h0 : 0 ≤ r) (hr : Lst L r) : 0 ≤ newAt L (m.plc m.old.top L) r ∧ newAt L (m.plc m.old.top L) r < 16777216 := by
 by_cases hm : r ∈ L
 ·exact (h.mid.nw r hm).2.2
 ·rw [newAt_no hm]
  refine ⟨h0, ?_⟩
  by_cases hg : 16777216 ≤ r
  ·exact absurd (hr hg) hm
  ·omega
theorem Mm.ld_ge {m : Mm} (ok : m.Ok) {x r : Int} (h : m.ld x = some (some r)) : 0 ≤ r ∧ r ≤ 4294967295 := hdr_rg ok (Mm.ld_hdr h).1
/-- no word is young behind its move -/
theorem Fin10.mvd_old (h : Fin10 m cs roots L U Z) {x : Int} (hx : m.Met L x) : ygW (m.mvd L (m.plc m.old.top L) x) = false := by
 cases hl : m.ld x with
 | none => exact absurd hl hx.1
 | some o =>
  cases o with
  | none =>
   unfold Mm.mvd
   rw [hl]
   exact Mm.ld_no hl
  | some r =>
   rw [Mm.mvd_to hl]
   have h1 := h.newlt (Mm.ld_ge h.ok hl).1 (hx.2 r hl)
   rw [ygW_frW h1.1 (by omega)]
   exact decide_eq_false (by omega)
theorem Fin10.out_old (h : Fin10 m cs roots L U Z) : ∀ x ∈ roots.map (m.mvd L (m.plc m.old.top L)), ygW x = false := fun x hx => by
 obtain ⟨y, hy, rfl⟩ := List.mem_map.1 hx
 exact h.mvd_old (h.rt y hy)
theorem Mm.upd_get (m : Mm) (l ts : List Int) : ∀ (cr ws : List Int), cr.Nodup → (∀ b ∈ cr, m.old.base ≤ b) → ∀ i : Nat, (m.upd l ts cr ws)[i]? = if (m.old.base + (i : Int)) ∈ cr then (ws[i]?).map (m.mvd l ts) else ws[i]?
 | [], ws, _, _, i => by rw [if_neg (by simp)]; rfl
 | a :: cr, ws, hn, hb, i => by
  have hn1 := List.nodup_cons.1 hn
  have ha := hb a (by simp)
  unfold Mm.upd
  rw [Mm.upd_get m l ts cr _ hn1.2 (fun b h => hb b (by simp [h])) i, List.getElem?_set]
  by_cases hi : (a - m.old.base).toNat = i
  ·subst hi
   have e : m.old.base + (((a - m.old.base).toNat : Nat) : Int) = a := by omega
   rw [e, if_neg hn1.1, if_pos rfl]
   by_cases hl : (a - m.old.base).toNat < ws.length
   ·rw [if_pos hl, if_pos List.mem_cons_self, List.getElem?_eq_getElem hl]
    rfl
   ·rw [if_neg hl, if_pos List.mem_cons_self, List.getElem?_eq_none (by omega)]
    rfl
  ·rw [if_neg hi]
   have e : m.old.base + (i : Int) ≠ a := by omega
   simp only [List.mem_cons, e, false_or]
theorem Fin10.get (h : Fin10 m cs roots L U Z) (i : Nat) : U[i]? = if (i : Int) ∈ m.crossing (cardIn cs) then (m.old.ws[i]?).map (m.mvd L (m.plc m.old.top L)) else m.old.ws[i]? := by
 have h1 := m.upd_get L (m.plc m.old.top L) (m.crossing (cardIn cs)) m.old.ws h.cr.nd (fun b hb => (Spc.has_iff.1 (h.cr.ok b hb).1).1) i
 rw [h.ok.ob, Int.zero_add] at h1
 rw [h.hU]
 exact h1
/-- an old word behind a collection -/
theorem Fin10.keep (h : Fin10 m cs roots L U Z) {a : Nat} (ha : a < m.old.ws.length) : ∃ x, m.old.ws[a]? = some x ∧ (m.mid U Z).emp.at_ (a : Int) = some (if (a : Int) ∈ m.crossing (cardIn cs) then m.mvd L (m.plc m.old.top L) x else x) ∧ ((a : Int) ∈ m.crossing (cardIn cs) → m.Met L x ∧ ygW x = true) ∧ (m.mid U Z).old.has (a : Int) = true := by
 have hb : (m.mid U Z).old.base = 0 := h.ok.ob
 have hx : m.old.ws[a]? = some m.old.ws[a] := List.getElem?_eq_getElem ha
 have hl := h.upd.len
 have e : (m.mid U Z).old.at_ (a : Int) = some (if (a : Int) ∈ m.crossing (cardIn cs) then m.mvd L (m.plc m.old.top L) m.old.ws[a] else m.old.ws[a]) := by
  refine Spc.at_of hb (by omega) ?_
  show (U ++ Z)[((a : Int)).toNat]? = _
  rw [Int.toNat_natCast, List.getElem?_append_left (by omega), h.get a, hx]
  split <;> rfl
 have hh := Spc.at_has e
 have h2 := Mm.emp_at hh
 refine ⟨_, hx, ?_, fun hm => ?_, hh⟩
 ·rw [h2.1]
  unfold Mm.at_
  rw [h2.2.2.2]
  exact e
 ·obtain ⟨_, x, _, h4, h5, h6⟩ := h.cr.ok _ hm
  have h7 := (Spc.at_zero h.ok.ob h4).2
  rw [Int.toNat_natCast, hx] at h7
  cases h7
  exact ⟨h6, h5⟩
theorem Fin10.nhas (h : Fin10 m cs roots L U Z) {i : Nat} {a : Int} (ha : L[i]? = some a) {k : Int} (h0 : 0 ≤ k) (hk : k < wH (m.hdr a).2) : (m.mid U Z).old.has (m.old.top + m.need (L.take i) + k) = true := by
 have h1 := mid_len (m0 := m) h.upd.len h.laid.len
 have h2 := m.need_le ha
 have h3 := m.need_nn (L.take i)
 refine Spc.has_iff.2 ⟨?_, ?_⟩
 ·show m.old.base ≤ _
  unfold Spc.top
  omega
 ·show _ < m.old.base + _
  unfold Spc.top
  omega
theorem Fin10.copy (h : Fin10 m cs roots L U Z) {i : Nat} {a : Int} (ha : L[i]? = some a) : (m.mid U Z).emp.hdr (m.old.top + m.need (L.take i)) = (0, (m.hdr a).2) ∧ (m.mid U Z).emp.at_ (m.old.top + m.need (L.take i) + 1) = m.at_ (a + 1) := by
 have h1 := mid_nw h.ok h.hl h.upd h.laid h.hf ha
 have h4 := wH_ge (Mm.hdr_valid (h.hl.ok a (List.mem_of_getElem? ha)).1)
 have g0 := h.nhas ha (k := 0) (by omega) (by omega)
 have g1 := h.nhas ha (k := 1) (by omega) (by omega)
 rw [Int.add_zero] at g0
 rw [(Mm.emp_at g0).2.1, (Mm.emp_at g1).1]
 exact h1
/-- a word of a copy -/
theorem Fin10.word (h : Fin10 m cs roots L U Z) {i : Nat} {a : Int} (ha : L[i]? = some a) {k : Nat} (hk : (k : Int) < wH (m.hdr a).2) : (m.mid U Z).emp.at_ (m.old.top + m.need (L.take i) + (k : Int)) = some (if 2 ≤ k ∧ (k : Int) < 2 + slotN (m.hdr a).2 then m.mvd L (m.plc m.old.top L) ((m.at_ (a + (k : Int))).getD 0) else (m.at_ (a + (k : Int))).getD 0) := by
 have g0 := h.nhas ha (k := k) (by omega) hk
 rw [(Mm.emp_at g0).1]
 unfold Mm.at_
 rw [(Mm.emp_at g0).2.2.2]
 have hz : Z[(m.need (L.take i)).toNat + k]? = (m.cpy L (m.plc m.old.top L) a)[k]? := by
  have h3 := m.flat_len (f := m.cpy L (m.plc m.old.top L)) (l := L.take i) fun b hb => m.cpy_len L (m.plc m.old.top L) b
  have e : (m.need (L.take i)).toNat = ((L.take i).flatMap (m.cpy L (m.plc m.old.top L))).length := by omega
  rw [h.hZ, e]
  exact flat_get ha (by rw [m.cpy_len]; omega)
 rw [m.cpy_get L (m.plc m.old.top L) a hk] at hz
 have h5 := mid_new (U := U) h.ok h.upd.len hz
 have h6 := m.need_nn (L.take i)
 rw [show m.old.top + m.need (L.take i) + (k : Int) = m.old.top + (((m.need (L.take i)).toNat + k : Nat) : Int) by omega]
 exact h5
theorem Fin10.size_keep (h : Fin10 m cs roots L U Z) {i : Nat} (hs : m.old.size i ≠ 0) : (m.mid U Z).old.size i = m.old.size i := by
 obtain ⟨x, v, hd, h1, h2, h3, h4, h5, h6⟩ := Spc.size_some hs
 have hl := h.upd.len
 have l1 := (List.getElem?_eq_some_iff.1 h1).1
 have l2 := (List.getElem?_eq_some_iff.1 h2).1
 have e : ∀ j y, m.old.ws[j]? = some y → ¬ ygW y = true → (m.mid U Z).old.ws[j]? = some y := fun j y hy hn => by
  have l := (List.getElem?_eq_some_iff.1 hy).1
  show (U ++ Z)[j]? = _
  rw [List.getElem?_append_left (by omega)]
  rcases h.upd.ch j with e | ⟨y', r, e1, e2, _⟩
  ·rw [e]; exact hy
  ·rw [hy] at e1
   cases e1
   exact absurd e2 hn
 have hx := h.ok.o.u x (List.mem_of_getElem? h1)
 have hv := h.ok.o.u v (List.mem_of_getElem? h2)
 have g1 := e i x h1 fun hy => by
  have q1 := (ygW_rg hx hy).1
  have q2 := dH_mod h3
  omega
 have g2 := e (i + 1) v h2 fun hy => by
  have q1 := (ygW_rg hv hy).2
  have q2 := dI_big h4
  omega
 have h7 : ((m.mid U Z).old.ws.length : Int) = m.old.ws.length + m.need L := mid_len h.upd.len h.laid.len
 have h8 := m.need_nn L
 rw [Spc.size_mk g1 g2 h3 h4 (by omega)]
 omega
theorem Fin10.size_new (h : Fin10 m cs roots L U Z) {i : Nat} {a : Int} (ha : L[i]? = some a) : (m.mid U Z).old.size (m.old.ws.length + (m.need (L.take i)).toNat) = (wH (m.hdr a).2).toNat := by
 have hh := (h.hl.ok a (List.mem_of_getElem? ha)).1
 obtain ⟨x, v, hx, hd, hv, hi, hw⟩ := Spc.hdr_ok (s := m.sp a) hh
 have hz := h.laid.hd i a ha
 have hyy := h.hl.yng h.ok a (List.mem_of_getElem? ha)
 have e4 := ((mid_sp h.ok h.upd.len h.laid.len h.hf a).2 hyy).2
 have e1 : (m.at_ a).getD 0 = x := by unfold Mm.at_; rw [hx]; rfl
 have hv1 : (m.at_ (a + 1)).getD 0 = v := by
  have h5 : m.sp (a + 1) = m.sp a := h.ok.sp_near (by rw [e4]; exact hyy) (Spc.at_has hv)
  unfold Mm.at_
  rw [h5, hv]
  rfl
 rw [e1, hv1] at hz
 have hl := h.upd.len
 have g1 : (m.mid U Z).old.ws[m.old.ws.length + (m.need (L.take i)).toNat]? = some x := by
  show (U ++ Z)[_]? = _
  rw [List.getElem?_append_right (by omega), show m.old.ws.length + (m.need (L.take i)).toNat - U.length = (m.need (L.take i)).toNat by omega]
  exact hz.1
 have g2 : (m.mid U Z).old.ws[m.old.ws.length + (m.need (L.take i)).toNat + 1]? = some v := by
  show (U ++ Z)[_]? = _
  rw [List.getElem?_append_right (by omega), show m.old.ws.length + (m.need (L.take i)).toNat + 1 - U.length = (m.need (L.take i)).toNat + 1 by omega]
  exact hz.2
 have h7 : ((m.mid U Z).old.ws.length : Int) = m.old.ws.length + m.need L := mid_len h.upd.len h.laid.len
 have h8 := m.need_nn (L.take i)
 have h9 := m.need_le ha
 have hdd : (m.sp a).hdr a = m.hdr a := rfl
 rw [hdd] at hd
 exact Spc.size_mk g1 g2 hd hi (by omega)
theorem Fin10.walk_keep (h : Fin10 m cs roots L U Z) : ∀ (n i : Nat), m.old.ws.length ≤ i + n → (m.old.walkFrom i).2 = m.old.ws.length → ∀ pre, WalkAt (m.mid U Z).old pre i → WalkAt (m.mid U Z).old (pre ++ (m.old.walkFrom i).1) m.old.ws.length
 | 0, i, hn, he, pre, hw => by
  have h0 : m.old.size i = 0 := Spc.size_out (by omega)
  rw [m.old.walkFrom_zero h0] at he ⊢
  dsimp only at he ⊢
  rw [List.append_nil, ← he]
  exact hw
 | n + 1, i, hn, he, pre, hw => by
  by_cases h0 : m.old.size i = 0
  ·rw [m.old.walkFrom_zero h0] at he ⊢
   dsimp only at he ⊢
   rw [List.append_nil, ← he]
   exact hw
  ·rw [m.old.walkFrom_pos h0] at he ⊢
   dsimp only at he ⊢
   have h1 := h.size_keep h0
   have h2 := hw.next (by rw [h1]; exact h0)
   rw [h1] at h2
   have h3 := m.old.size_le i
   have h4 := Fin10.walk_keep h n (i + m.old.size i) (by omega) he _ h2
   rw [List.append_assoc] at h4
   exact h4
theorem Fin10.walk_new (h : Fin10 m cs roots L U Z) (hc : m.old.walk.2 = m.old.ws.length) : ∀ k : Nat, k ≤ L.length → WalkAt (m.mid U Z).old (m.old.walk.1 ++ (List.range k).map fun j => m.old.ws.length + (m.need (L.take j)).toNat) (m.old.ws.length + (m.need (L.take k)).toNat)
 | 0, _ => by
  have h1 : WalkAt (m.mid U Z).old [] 0 := rfl
  have h2 := h.walk_keep m.old.ws.length 0 (by omega) hc [] h1
  rw [List.nil_append] at h2
  have e : (m.need (L.take 0)).toNat = 0 := rfl
  rw [e]
  have h3 : WalkAt (m.mid U Z).old m.old.walk.1 m.old.ws.length := h2
  simpa using h3
 | k + 1, hk => by
  have ih := Fin10.walk_new h hc k (by omega)
  have ha : L[k]? = some L[k] := List.getElem?_eq_getElem (by omega)
  have h1 := h.size_new ha
  have h4 := wH_ge (Mm.hdr_valid (h.hl.ok _ (List.mem_of_getElem? ha)).1)
  have h2 := ih.next (by rw [h1]; omega)
  have h5 := m.need_step ha
  have h6 := m.need_nn (L.take k)
  rw [h1, show m.old.ws.length + (m.need (L.take k)).toNat + (wH (m.hdr L[k]).2).toNat = m.old.ws.length + (m.need (L.take (k + 1))).toNat by omega] at h2
  rw [List.range_succ, List.map_append, ← List.append_assoc]
  exact h2
theorem Fin10.objs (h : Fin10 m cs roots L U Z) (hc : m.old.chk = 0) : (m.mid U Z).old.chk = 0 ∧ ∀ a ∈ (m.mid U Z).old.objs, a ∈ m.old.objs ∨ ∃ i b, L[i]? = some b ∧ a = m.old.top + m.need (L.take i) := by
 have h0 : m.old.walk.2 = m.old.ws.length := by
  unfold Spc.chk at hc
  split at hc
  ·assumption
  ·cases hc
 have h1 := h.walk_new h0 L.length (Nat.le_refl _)
 rw [List.take_length] at h1
 have h7 : ((m.mid U Z).old.ws.length : Int) = m.old.ws.length + m.need L := mid_len h.upd.len h.laid.len
 have h8 := m.need_nn L
 have h2 := h1.stop (Spc.size_out (by omega))
 have hb : (m.mid U Z).old.base = 0 := h.ok.ob
 constructor
 ·have h3 := h2.2
  unfold Spc.wend at h3
  unfold Spc.chk
  rw [if_pos (by omega)]
 ·intro a ha
  rw [h2.1] at ha
  obtain ⟨j, hj, rfl⟩ := List.mem_map.1 ha
  rcases List.mem_append.1 hj with hj | hj
  ·left
   unfold Spc.objs
   exact List.mem_map.2 ⟨j, hj, rfl⟩
  ·right
   obtain ⟨i, hi, rfl⟩ := List.mem_map.1 hj
   have hi' := List.mem_range.1 hi
   refine ⟨i, L[i], List.getElem?_eq_getElem hi', ?_⟩
   have h9 := m.need_nn (L.take i)
   unfold Spc.top
   rw [h.ok.ob, hb]
   omega
/-- no slot of the old space is a young reference -/
theorem Fin10.slot_old (h : Fin10 m cs roots L U Z) (hc : m.old.chk = 0) (hcov : ∀ b ∈ m.crossing fun _ => true, b ∈ m.crossing (cardIn cs)) {a : Int} (ha : a ∈ (m.mid U Z).old.objs) : ((m.mid U Z).emp.hdr a).1 = 0 ∧ ∀ i : Nat, (i : Int) < slotN ((m.mid U Z).emp.hdr a).2 → ∃ x, (m.mid U Z).emp.at_ (a + 2 + (i : Int)) = some x ∧ ygW x = false := by
 rcases (h.objs hc).2 a ha with ha | ⟨j, b, hb, rfl⟩
 ·obtain ⟨t, e1, _, _, h2, hh, hsz⟩ := h.ok.objs ha
  have h5 := mid_hd h.ok h.upd h.laid h.hf hh
  have h6 : (m.mid U Z).old.has a = true := h.mok.hdr_old (by rw [h5]; exact hh) (by
   have := h.ok.old_lt (a := a) h2
   omega)
  rw [(Mm.emp_at h6).2.1, h5]
  refine ⟨hh, fun i hi => ?_⟩
  have h7 := h.ok.slot_old ha hi
  have h8 := Spc.has_iff.1 h7
  rw [h.ok.ob] at h8
  obtain ⟨x, hx, hat, hcr, _⟩ := h.keep (a := (a + 2 + (i : Int)).toNat) (by omega)
  rw [Int.toNat_of_nonneg (by omega)] at hat hcr
  refine ⟨_, hat, ?_⟩
  split
  ·rename_i hm
   exact h.mvd_old (hcr hm).1
  ·rename_i hm
   cases hy : ygW x with
   | false => rfl
   | true =>
    have e : m.at_ (a + 2 + (i : Int)) = some x := by
     unfold Mm.at_ Mm.sp
     rw [if_pos h7]
     exact Spc.at_of h.ok.ob (by omega) hx
    exact absurd (hcov _ (Mm.crossing_mem.2 ⟨a, ha, i, hi, rfl, x, e, hy, rfl⟩)) hm
 ·have h1 := h.copy hb
  rw [h1.1]
  refine ⟨rfl, fun i hi => ?_⟩
  dsimp only at hi
  have h2 := slotN_le (Mm.hdr_valid (h.hl.ok b (List.mem_of_getElem? hb)).1)
  have h3 := h.word hb (k := 2 + i) (by omega)
  rw [if_pos (by omega)] at h3
  rw [show m.old.top + m.need (L.take j) + 2 + (i : Int) = m.old.top + m.need (L.take j) + ((2 + i : Nat) : Int) by omega]
  refine ⟨_, h3, h.mvd_old (h.sl b (List.mem_of_getElem? hb) _ ?_)⟩
  unfold Mm.slW
  refine List.mem_map.2 ⟨i, List.mem_range.2 (by omega), ?_⟩
  rw [show b + 2 + (i : Int) = b + ((2 + i : Nat) : Int) by omega]
theorem covered_mem {m : Mm} {cs : List Int} (h : (m.crossing (cardIn cs)).length = (m.crossing fun _ => true).length) : ∀ b ∈ m.crossing fun _ => true, b ∈ m.crossing (cardIn cs) := by
 rw [crossing_filter m (cardIn cs)] at h ⊢
 have h1 := List.length_filter_eq_length_iff.1 h
 intro b hb
 exact List.mem_filter.2 ⟨hb, h1 b hb⟩
end
end
section
open Go.RowKit Go.Sort
attribute [local go_sem] Oper.semAt_some onlyN_normal
theorem i_word10 : (Tryz.prog.info? 54).map (fun i => (i.zero, i.size, i.bytes)) = some (some (.int .u64 0), 1, 8) := by kernel_rfl
def Rts10P (w : World) (l : List Int) (e : Ending) (w' : World) : Prop := ∃ v, e = .returned v ∧ w'.ownsRow w.heap.size 54 1 v l.length (wds l) ∧ Below w.heap.size w w'
section
variable {w : World} {s : W10} {A1 A2 A Ax Ac : Option Addr} {c1 c2 c cx cc : Nat} {Vh : Value} {ch : List Int}
set_option maxHeartbeats 4000000 in
theorem Roots10_any (h : IS w s.xs Ax cx) (hl : s.xs.length ≤ 1000000) (h2 : IS w ch Ac cc) (hl2 : ch.length ≤ 1000000) (hr : ∀ x ∈ ch, -9223372036854775808 ≤ x ∧ x ≤ 9223372036854775807) : Calls Tryz.prog 13 #[.agg #[.int .i64 s.m.old.base, .int .i64 s.m.old.limit, .slice A1 s.m.old.ws.length c1, .int .i64 s.m.yng.base, .int .i64 s.m.yng.limit, .slice A2 s.m.yng.ws.length c2, .slice A s.cs.length c, .slice Ax s.xs.length cx, Vh], .slice Ac ch.length cc] w (Rts10P w (rts10 s.xs ch)) := by
 have H := lh h
 have H2 := lh h2
 have HR := lh hr
 have hcap2 := h2.cap
 obtain ⟨i0, hi, hz0, hz1, hz2⟩ := info_parts i_word10
 have HI := lh (And.intro hi (And.intro hz0 (And.intro hz1 hz2)))
 clear h h2 hr hi hz0 hz1 hz2
 go_enter Tryz.func13, Tryz.ntmps13
 go_upto_region 1 with fail
 have HB0 : Hid (Below w.heap.size w (w.alloc (.cells #[.int .i64 s.m.old.base, .int .i64 s.m.old.limit, .slice A1 s.m.old.ws.length c1, .int .i64 s.m.yng.base, .int .i64 s.m.yng.limit, .slice A2 s.m.yng.ws.length c2, .slice A s.cs.length c, .slice Ax s.xs.length cx, Vh] 40))) := lh ((Below.refl _ _).alloc (Nat.le_refl _) _)
 have HX0 : Hid (Bk (w.alloc (.cells #[.int .i64 s.m.old.base, .int .i64 s.m.old.limit, .slice A1 s.m.old.ws.length c1, .int .i64 s.m.yng.base, .int .i64 s.m.yng.limit, .slice A2 s.m.yng.ws.length c2, .slice A s.cs.length c, .slice Ax s.xs.length cx, Vh] 40)) w.heap.size 40 #[.int .i64 s.m.old.base, .int .i64 s.m.old.limit, .slice A1 s.m.old.ws.length c1, .int .i64 s.m.yng.base, .int .i64 s.m.yng.limit, .slice A2 s.m.yng.ws.length c2, .slice A s.cs.length c, .slice Ax s.xs.length cx, Vh]) := lh (Bk.new _ _ _)
 generalize w.alloc (.cells #[.int .i64 s.m.old.base, .int .i64 s.m.old.limit, .slice A1 s.m.old.ws.length c1, .int .i64 s.m.yng.base, .int .i64 s.m.yng.limit, .slice A2 s.m.yng.ws.length c2, .slice A s.cs.length c, .slice Ax s.xs.length cx, Vh] 40) = w1 at *
 obtain ⟨Nb, hNb⟩ : ∃ Nb, Nb = w.heap.size := ⟨_, rfl⟩
 rw [← hNb] at HX0
 rw [← hNb]
 clear hNb
 go_wp2_with fail
 go_loopw [5, 6] (fun v i wr => ∃ j : Nat, i = .int .i64 (j : Int) ∧ j ≤ ch.length ∧ wr.ownsRow w.heap.size 54 1 v j (wds (rts10 s.xs (ch.take j))) ∧ Below w.heap.size w wr ∧ Bk wr Nb 40 #[.int .i64 s.m.old.base, .int .i64 s.m.old.limit, .slice A1 s.m.old.ws.length c1, .int .i64 s.m.yng.base, .int .i64 s.m.yng.limit, .slice A2 s.m.yng.ws.length c2, .slice A s.cs.length c, .slice Ax s.xs.length cx, Vh]) (fun _ i _ => ch.length - (intOf i).toNat)
 case atStart =>
  refine ⟨0, rfl, Nat.zero_le _, ?_, HB0.out.alloc HB0.out.size _, HX0.out.alloc _⟩
  exact ownEmpty 1 (Bk.new _ _ _) HB0.out.size
 case round =>
  clear HB0 HX0
  obtain ⟨j, rfl, hj, hown, hb, hbx⟩ := hrel
  have HO := lh hown
  have HB := lh hb
  have HBX := lh hbx
  clear hb hbx
  by_cases hlt : j < ch.length
  ·obtain ⟨b, o, rfl, hbl, hcc⟩ := H2.out.sl.get hlt
   have t1 : ch[j]? = some ch[j] := List.getElem?_eq_getElem hlt
   have e1 : wr.cell? ⟨b, o + j, none⟩ = some (.int .i64 ch[j]) := (HB.out.cell (p := ⟨b, o + j, none⟩) hbl).trans (hcc j _ (ints_get t1))
   have hxr := HR.out ch[j] (List.getElem_mem hlt)
   have htk : Hid (rts10 s.xs (ch.take (j + 1)) = rts10 s.xs (ch.take j) ++ [if 0 ≤ ch[j] ∧ s.xs ≠ [] then frW (objAt s.xs ch[j]) else 21]) := lh (by
    unfold rts10; rw [List.take_add_one, t1, List.map_append]; rfl)
   generalize ch[j] = x at e1 hxr htk
   have hcj : j < cc := by omega
   have HE1 := lh (And.intro hbl e1)
   obtain ⟨A0, c0, rfl, hac⟩ := own_shape hown
   clear t1 hcc hown hbl
   by_cases hx0 : 0 ≤ x
   ·by_cases hln : s.xs = []
    ·have HT : Hid (rts10 s.xs (ch.take (j + 1)) = rts10 s.xs (ch.take j) ++ [21]) := lh (by rw [htk.out, if_neg (fun e => e.2 hln)])
     have hd : decide (0 < s.xs.length) = false := decide_eq_false (by rw [hln]; simp)
     have hd2 : decide ((0 : Int) < (s.xs.length : Int)) = false := decide_eq_false (by rw [hln]; simp)
     have m7 : wr.cell? ⟨Nb, 7, none⟩ = some (.slice Ax s.xs.length cx) := HBX.out.cell 7
     clear htk hln
     go_upto_region 8 with fail
     obtain ⟨w9, hw9⟩ : ∃ w9, w9 = wr := ⟨_, rfl⟩
     have HO9 := HO
     have HB9 := HB
     have HBX9 := HBX
     rw [← hw9] at *
     clear hw9 m7 e1 HE1 HO HB HBX
     have hsz9 := HB9.out.size
     go_wp2_with (at_builtin; refine wpList_append_own_at _ rfl (.tmp 37) (.tmp 39) 31 rfl w.heap.size 54 i0 (.int .u64 0) 1 8 Tryz.underlying31 HI.out.1 HI.out.2.1 HI.out.2.2.1 HI.out.2.2.2 rfl (by decide) _ j _ rfl (HO9.out.alloc _) ⟨w9.heap.size, 0, none⟩ 1 1 [.int .u64 21] rfl rfl (cell_one_new _ _ _) (by simp [Value.oneCell']) (by unfold maxLen; omega) (by omega) (by simp; omega) ?_; intro v' w3 hown3 hg3 _ hloc; have HOWN3 := lh hown3; have HG3 := lh hg3; clear hown3 hg3 hloc)
     go_roundw
     case rel =>
      refine ⟨j + 1, by go_num, by omega, ?_, ?_, ?_⟩
      ·rw [HT.out, show wds (rts10 s.xs (ch.take j) ++ [21]) = wds (rts10 s.xs (ch.take j)) ++ [.int .u64 21] by simp [wds]]; exact HOWN3.out
      ·exact (HB9.out.alloc (by have := HB9.out.size; omega) _).grown HG3.out (by have := HB9.out.size; simp; omega) (fun k hk => (HO9.out.lt k hk).1)
      ·exact (HBX9.out.alloc _).grown HG3.out (fun e => ownRow_bk HO9.out HBX9.out (by decide) e.symm)
     case measure => simp [intOf]; omega
    ·have hlp : 0 < s.xs.length := List.length_pos_iff.2 hln
     have HT0 : Hid (rts10 s.xs (ch.take (j + 1)) = rts10 s.xs (ch.take j) ++ [frW (objAt s.xs x)]) := lh (by rw [htk.out, if_pos ⟨hx0, hln⟩])
     have m7 : wr.cell? ⟨Nb, 7, none⟩ = some (.slice Ax s.xs.length cx) := HBX.out.cell 7
     have hd : decide (0 < s.xs.length) = true := decide_eq_true hlp
     clear htk hln
     go_upto_region 7 with fail
     have cP := fun n => Pick10_any (w := wr.drewN n) (IS.below (H.out.below HB.out) (below_drewN (Below.refl _ wr) n)) hl x hxr
     have cF := fun w => RFromAddress_any (objAt s.xs x) w
     unfold frA at cF
     obtain ⟨y, er, hy1, hy2⟩ : ∃ y er, frW (objAt s.xs x) = y ∧ (if inA (objAt s.xs x) = true then Value.tuple #[.int .u64 (adW (objAt s.xs x)), .int .i64 0] else .tuple #[.int .u64 0, .int .i64 2]) = .tuple #[.int .u64 y, .int .i64 er] := by
      unfold frW
      cases inA (objAt s.xs x) with
      | true => exact ⟨_, _, rfl, rfl⟩
      | false => exact ⟨_, _, rfl, rfl⟩
     have HT : Hid (rts10 s.xs (ch.take (j + 1)) = rts10 s.xs (ch.take j) ++ [y]) := lh (by rw [HT0.out, hy1])
     simp only [hy2] at cF
     clear hy1 hy2 HT0
     go_quiet (first | (go_at_call 47; exact Calls.quiet_of_same ((cP _).mono fun _ _ h => ⟨h.1, h.2.symm⟩)) | (go_at_call 19; exact Calls.quiet_of_same ((cF _).mono fun _ _ h => ⟨h.1, h.2.symm⟩)))
     have hbq := below_drewN (Below.refl wr.heap.size wr) nq
     have HO9 := lh (own_local HO.out fun k hk => hbq.block k (HO.out.lt k hk).2)
     have HB9 := lh (HB.out.trans (hbq.mono HB.out.size))
     have HBX9 := lh (HBX.out.below hbq HBX.out.lt)
     clear hbq cP cF m7 e1 HE1 HO HB HBX
     generalize wr.drewN nq = w9 at *
     have hsz9 := HB9.out.size
     go_wp2_with (at_builtin; refine wpList_append_own_at _ rfl (.tmp 37) (.tmp 39) 31 rfl w.heap.size 54 i0 (.int .u64 0) 1 8 Tryz.underlying31 HI.out.1 HI.out.2.1 HI.out.2.2.1 HI.out.2.2.2 rfl (by decide) _ j _ rfl (HO9.out.alloc _) ⟨w9.heap.size, 0, none⟩ 1 1 [.int .u64 y] rfl rfl (cell_one_new _ _ _) (by simp [Value.oneCell']) (by unfold maxLen; omega) (by omega) (by simp; omega) ?_; intro v' w3 hown3 hg3 _ hloc; have HOWN3 := lh hown3; have HG3 := lh hg3; clear hown3 hg3 hloc)
     go_roundw
     case rel =>
      refine ⟨j + 1, by go_num, by omega, ?_, ?_, ?_⟩
      ·rw [HT.out, show wds (rts10 s.xs (ch.take j) ++ [y]) = wds (rts10 s.xs (ch.take j)) ++ [.int .u64 y] by simp [wds]]; exact HOWN3.out
      ·exact (HB9.out.alloc (by have := HB9.out.size; omega) _).grown HG3.out (by have := HB9.out.size; simp; omega) (fun k hk => (HO9.out.lt k hk).1)
      ·exact (HBX9.out.alloc _).grown HG3.out (fun e => ownRow_bk HO9.out HBX9.out (by decide) e.symm)
     case measure => simp [intOf]; omega
   ·have HT : Hid (rts10 s.xs (ch.take (j + 1)) = rts10 s.xs (ch.take j) ++ [21]) := lh (by rw [htk.out, if_neg (fun e => hx0 e.1)])
    clear htk
    go_upto_region 8 with fail
    obtain ⟨w9, hw9⟩ : ∃ w9, w9 = wr := ⟨_, rfl⟩
    have HO9 := HO
    have HB9 := HB
    have HBX9 := HBX
    rw [← hw9] at *
    clear hw9 e1 HE1 HO HB HBX
    have hsz9 := HB9.out.size
    go_wp2_with (at_builtin; refine wpList_append_own_at _ rfl (.tmp 37) (.tmp 39) 31 rfl w.heap.size 54 i0 (.int .u64 0) 1 8 Tryz.underlying31 HI.out.1 HI.out.2.1 HI.out.2.2.1 HI.out.2.2.2 rfl (by decide) _ j _ rfl (HO9.out.alloc _) ⟨w9.heap.size, 0, none⟩ 1 1 [.int .u64 21] rfl rfl (cell_one_new _ _ _) (by simp [Value.oneCell']) (by unfold maxLen; omega) (by omega) (by simp; omega) ?_; intro v' w3 hown3 hg3 _ hloc; have HOWN3 := lh hown3; have HG3 := lh hg3; clear hown3 hg3 hloc)
    go_roundw
    case rel =>
     refine ⟨j + 1, by go_num, by omega, ?_, ?_, ?_⟩
     ·rw [HT.out, show wds (rts10 s.xs (ch.take j) ++ [21]) = wds (rts10 s.xs (ch.take j)) ++ [.int .u64 21] by simp [wds]]; exact HOWN3.out
     ·exact (HB9.out.alloc (by have := HB9.out.size; omega) _).grown HG3.out (by have := HB9.out.size; simp; omega) (fun k hk => (HO9.out.lt k hk).1)
     ·exact (HBX9.out.alloc _).grown HG3.out (fun e => ownRow_bk HO9.out HBX9.out (by decide) e.symm)
    case measure => simp [intOf]; omega
  ·obtain ⟨A0, c0, rfl, hac⟩ := own_shape hown
   clear hown
   go_wp2_with fail
   go_ret
   have e : j = ch.length := by omega
   have ho := HO.out
   rw [e, List.take_of_length_le (Nat.le_refl _)] at ho
   refine ⟨_, rfl, ?_, HB.out⟩
   have e2 : (rts10 s.xs ch).length = ch.length := by simp [rts10]
   rw [e2, e]
   exact ho
end
end
section
open Go.RowKit Go.Sort
attribute [local go_sem] Oper.semAt_some onlyN_normal
section
variable {w0 w : World} {m : Mm} {A1 A2 Al Aw : Option Addr} {u1 u2 cl cw : Nat} {l ws : List Int}
end
def WsT (B : Nat) (l : List Int) (v : Value) (w : World) : Prop := ∃ A c, v = .slice A l.length c ∧ Sl w 1 A l.length (wds l) ∧ l.length ≤ c ∧ ∀ b o, A = some ⟨b, o, none⟩ → B ≤ b ∧ b < w.heap.size
theorem WsT.bl {B : Nat} {l : List Int} (v : Value) (w w' : World) (h : WsT B l v w) (hb : Below w.heap.size w w') : WsT B l v w' := by
 obtain ⟨A, c, e, h1, h2, h3⟩ := h
 exact ⟨A, c, e, h1.below hb, h2, fun b o e => ⟨(h3 b o e).1, Nat.lt_of_lt_of_le (h3 b o e).2 hb.size⟩⟩
theorem WsT.of {B : Nat} {w w' : World} {l : List Int} {v : Value} (h : w'.ownsRow w.heap.size 54 1 v l.length (wds l)) (hB : B ≤ w.heap.size) : WsT B l v w' := by
 obtain ⟨A, c, rfl, hc⟩ := own_shape h
 refine ⟨A, c, rfl, own_sl h, hc, fun b o e => ?_⟩
 have := h.lt b (by rw [e]; rfl)
 omega
section
variable {w : World} {m : Mm} {A1 A2 Ar A : Option Addr} {u1 u2 u cr : Nat} {cs roots : List Int}
end
end
section
open Go.RowKit Go.Sort
attribute [local go_sem] Oper.semAt_some onlyN_normal
/-- the blocks that a collection writes -/
def colS (g1 g2 : Nat) (V1 V2 : Value) (bt q : Nat) : Prop := q = g1 ∨ q = g2 ∨ V1.ownBlock = some q ∨ V2.ownBlock = some q ∨ q = bt
structure Env10 (w0 wn : World) (bm bx B1 g1 g2 gt bt k : Nat) (V1 V2 : Value) (m : Mm) (cs : List Int) (s : W10) (A1 : Option Addr) (c1 : Nat) (A2 : Option Addr) (c2 : Nat) (A : Option Addr) (c : Nat) (Ax : Option Addr) (cx : Nat) (Ah : Option Addr) (ch : Nat) : Prop where
 bl : Below w0.heap.size w0 wn
 h0 : w0.heap.size ≤ B1
 hB : B1 ≤ wn.heap.size
 mr : MR wn B1 g1 g2 V1 V2 m
 cr : CR wn B1 gt bt k cs
 kl : k ≤ 1000
 rm : RM wn s.m A1 c1 A2 c2
 rc : RC wn s.cs A c
 ax : IS wn s.xs Ax cx
 far : ∀ b o, A1 = some ⟨b, o, none⟩ ∨ A2 = some ⟨b, o, none⟩ ∨ A = some ⟨b, o, none⟩ ∨ Ax = some ⟨b, o, none⟩ → b < B1
 hm : Bk wn bm 29 #[.pointer (some ⟨g1, 0, none⟩), .pointer (some ⟨g2, 0, none⟩)]
 hx : Bk wn bx 40 #[.int .i64 s.m.old.base, .int .i64 s.m.old.limit, .slice A1 s.m.old.ws.length c1, .int .i64 s.m.yng.base, .int .i64 s.m.yng.limit, .slice A2 s.m.yng.ws.length c2, .slice A s.cs.length c, .slice Ax s.xs.length cx, .slice Ah s.hs.length ch]
section
variable {w0 wn w' : World} {bm bx B1 g1 g2 gt bt k : Nat} {V1 V2 : Value} {m : Mm} {cs : List Int} {s : W10} {A1 : Option Addr} {c1 : Nat} {A2 : Option Addr} {c2 : Nat} {A : Option Addr} {c : Nat} {Ax : Option Addr} {cx : Nat} {Ah : Option Addr} {ch : Nat}
theorem Env10.below (h : Env10 w0 wn bm bx B1 g1 g2 gt bt k V1 V2 m cs s A1 c1 A2 c2 A c Ax cx Ah ch) (hb : Below wn.heap.size wn w') : Env10 w0 w' bm bx B1 g1 g2 gt bt k V1 V2 m cs s A1 c1 A2 c2 A c Ax cx Ah ch :=
 ⟨h.bl.trans (hb.mono h.bl.size), h.h0, Nat.le_trans h.hB hb.size, h.mr.below hb, h.cr.below hb, h.kl, h.rm.below hb, h.rc.below hb, h.ax.below hb, h.far, h.hm.below hb h.hm.lt, h.hx.below hb h.hx.lt⟩
/-- what a collection does not write -/
theorem Env10.off (h : Env10 w0 wn bm bx B1 g1 g2 gt bt k V1 V2 m cs s A1 c1 A2 c2 A c Ax cx Ah ch) {q : Nat} {t : TypeId} {C : Array Value} (hk : Bk wn q t C) (h1 : t ≠ 123) (h2 : t ≠ 54) : ¬ colS g1 g2 V1 V2 bt q := fun e => by
 rcases e with e | e | e | e | e
 ·exact Bk.neT hk h.mr.o.hd h1 e
 ·exact Bk.neT hk h.mr.y.hd h1 e
 ·exact h.mr.o.own_ne hk h2 e
 ·exact h.mr.y.own_ne hk h2 e
 ·exact h.cr.mp.neB hk e
theorem Env10.ge (h : Env10 w0 wn bm bx B1 g1 g2 gt bt k V1 V2 m cs s A1 c1 A2 c2 A c Ax cx Ah ch) {q : Nat} (e : colS g1 g2 V1 V2 bt q) : B1 ≤ q := by
 rcases e with e | e | e | e | e
 ·rw [e]; exact h.mr.o.ge
 ·rw [e]; exact h.mr.y.ge
 ·exact (h.mr.o.own.lt q e).1
 ·exact (h.mr.y.own.lt q e).1
 ·rw [e]; exact h.cr.gm
theorem Env10.lt (h : Env10 w0 wn bm bx B1 g1 g2 gt bt k V1 V2 m cs s A1 c1 A2 c2 A c Ax cx Ah ch) {q : Nat} (e : colS g1 g2 V1 V2 bt q) : q < wn.heap.size := by
 rcases e with e | e | e | e | e
 ·rw [e]; exact h.mr.o.hd.lt
 ·rw [e]; exact h.mr.y.hd.lt
 ·exact (h.mr.o.own.lt q e).2
 ·exact (h.mr.y.own.lt q e).2
 ·rw [e]; exact h.cr.mp.lt
theorem IS.kpD {S : Nat → Prop} {w w' : World} {l : List Int} {A : Option Addr} {c : Nat} (h : IS w l A c) (hk : Kp S w w') (hs : ∀ b o, A = some ⟨b, o, none⟩ → ¬ S b) : IS w' l A c := ⟨h.sl.kpN hk hs, h.cap⟩
theorem Env10.col (h : Env10 w0 wn bm bx B1 g1 g2 gt bt k V1 V2 m cs s A1 c1 A2 c2 A c Ax cx Ah ch) {C : Col} {e : Ending} (hp : ColP wn B1 B1 g1 g2 gt bt k V1 V2 C e w') : ∃ v V1' V2' k', e = .returned (.tuple #[v, .int .i64 (C.n : Int), .int .i64 C.e]) ∧ w'.ownsRow wn.heap.size 54 1 v C.out.length (wds C.out) ∧ Env10 w0 w' bm bx B1 g1 g2 gt bt k' V1' V2' C.m C.cs s A1 c1 A2 c2 A c Ax cx Ah ch ∧ (∀ q, v.ownBlock = some q → ¬ colS g1 g2 V1' V2' bt q) ∧ Kp (colS g1 g2 V1 V2 bt) wn w' := by
 obtain ⟨v, V1', V2', k', he, ho, hmr, hcr, ⟨n1, n2, n3⟩, hk, hkk⟩ := hp
 have hfar : ∀ b o, A1 = some ⟨b, o, none⟩ ∨ A2 = some ⟨b, o, none⟩ ∨ A = some ⟨b, o, none⟩ ∨ Ax = some ⟨b, o, none⟩ → ¬ colS g1 g2 V1 V2 bt b := fun b o e hb => by
  have h1 := h.far b o e
  have h2 := h.ge hb
  omega
 have hk' : Kp (colS g1 g2 V1 V2 bt) wn w' := hk
 refine ⟨v, V1', V2', k', he, ho, ⟨hk'.toBelow h.bl h.bl.size fun q e => Nat.le_trans h.h0 (h.ge e), h.h0, Nat.le_trans h.hB hk.size, hmr, hcr, ?_, h.rm.kp hk' fun b o e => hfar b o (e.imp id .inl), h.rc.kp hk' fun b o e => hfar b o (.inr (.inr (.inl e))), h.ax.kpD hk' fun b o e => hfar b o (.inr (.inr (.inr e))), h.far, h.hm.kp hk' (h.off h.hm (by decide) (by decide)), h.hx.kp hk' (h.off h.hx (by decide) (by decide))⟩, fun q hq e => ?_, hk'⟩
 ·rcases hkk with e | e
  ·rw [e]; exact h.kl
  ·omega
 ·have h1 := (ho.lt q hq).1
  have h2 := h.mr.o.hd.lt
  have h3 := h.mr.y.hd.lt
  have h4 := h.cr.mp.lt
  rcases e with e | e | e | e | e
  ·omega
  ·omega
  ·exact (n3 q hq).1 e
  ·exact (n3 q hq).2 e
  ·omega
theorem Env10.roots (h : Env10 w0 wn bm bx B1 g1 g2 gt bt k V1 V2 m cs s A1 c1 A2 c2 A c Ax cx Ah ch) {chs : List Int} {Ac : Option Addr} {cc : Nat} (hx : s.xs.length ≤ 1000000) (h2 : IS wn chs Ac cc) (hl2 : chs.length ≤ 1000000) (hr : ∀ x ∈ chs, -9223372036854775808 ≤ x ∧ x ≤ 9223372036854775807) : Calls Tryz.prog 13 #[.agg #[.int .i64 s.m.old.base, .int .i64 s.m.old.limit, .slice A1 s.m.old.ws.length c1, .int .i64 s.m.yng.base, .int .i64 s.m.yng.limit, .slice A2 s.m.yng.ws.length c2, .slice A s.cs.length c, .slice Ax s.xs.length cx, .slice Ah s.hs.length ch], .slice Ac chs.length cc] wn (Rts10P wn (rts10 s.xs chs)) := Roots10_any h.ax hx h2 hl2 hr
theorem Env10.collect (h : Env10 w0 wn bm bx B1 g1 g2 gt bt k V1 V2 m cs s A1 c1 A2 c2 A c Ax cx Ah ch) {roots : List Int} {Ar : Option Addr} {cr : Nat} (hs : Sl wn 1 Ar roots.length (wds roots)) (hlc : roots.length ≤ cr) (hll : roots.length ≤ 1000) (hru : ∀ x ∈ roots, U64 x) (hA : ∀ b o, Ar = some ⟨b, o, none⟩ → b < wn.heap.size ∧ ¬ colS g1 g2 V1 V2 bt b) (hm : m.size ≤ 40000000) : Calls Tryz.prog 17 #[.agg #[.pointer (some ⟨g1, 0, none⟩), .pointer (some ⟨g2, 0, none⟩)], .pointer (some ⟨gt, 0, none⟩), .slice Ar roots.length cr] wn (ColP wn B1 B1 g1 g2 gt bt k V1 V2 (m.collect m.yng.chk cs roots)) :=
 Collect_any h.mr h.hB h.cr hs hlc (by omega) hru (fun b o e => ⟨(hA b o e).1, fun e' => (hA b o e).2 (.inl e'), fun e' => (hA b o e).2 (.inr (.inr (.inl e'))), fun e' => (hA b o e).2 (.inr (.inr (.inr (.inl e'))))⟩) hm
end
theorem Env10.start {w w2 : World} {s : W10} {e : Ending} (hp : Op10P w s e w2) (hl : s.cs.length ≤ 1000) : ∃ g1 g2 V1 V2 gt bt k A1 c1 A2 c2 A c Ax cx Ah ch B1, e = .returned (.tuple #[.agg #[.pointer (some ⟨g1, 0, none⟩), .pointer (some ⟨g2, 0, none⟩)], .pointer (some ⟨gt, 0, none⟩), .agg #[.int .i64 s.m.old.base, .int .i64 s.m.old.limit, .slice A1 s.m.old.ws.length c1, .int .i64 s.m.yng.base, .int .i64 s.m.yng.limit, .slice A2 s.m.yng.ws.length c2, .slice A s.cs.length c, .slice Ax s.xs.length cx, .slice Ah s.hs.length ch], .bool true]) ∧ Env10 w ((w2.alloc (.cells #[.pointer (some ⟨g1, 0, none⟩), .pointer (some ⟨g2, 0, none⟩)] 29)).alloc (.cells #[.int .i64 s.m.old.base, .int .i64 s.m.old.limit, .slice A1 s.m.old.ws.length c1, .int .i64 s.m.yng.base, .int .i64 s.m.yng.limit, .slice A2 s.m.yng.ws.length c2, .slice A s.cs.length c, .slice Ax s.xs.length cx, .slice Ah s.hs.length ch] 40)) w2.heap.size (w2.heap.size + 1) B1 g1 g2 gt bt k V1 V2 s.m s.cs s A1 c1 A2 c2 A c Ax cx Ah ch := by
 obtain ⟨g1, g2, V1, V2, gt, bt, k, A1, c1, A2, c2, A, c, Ax, cx, Ah, ch, B1, rfl, h1, h2, hmr, hcr, hk, hrm, hrc, hax, hah, hfar, hb⟩ := hp
 have hb1 : Below w2.heap.size w2 ((w2.alloc (.cells #[.pointer (some ⟨g1, 0, none⟩), .pointer (some ⟨g2, 0, none⟩)] 29)).alloc (.cells #[.int .i64 s.m.old.base, .int .i64 s.m.old.limit, .slice A1 s.m.old.ws.length c1, .int .i64 s.m.yng.base, .int .i64 s.m.yng.limit, .slice A2 s.m.yng.ws.length c2, .slice A s.cs.length c, .slice Ax s.xs.length cx, .slice Ah s.hs.length ch] 40)) := ((Below.refl _ w2).alloc (Nat.le_refl _) _).alloc (by simp) _
 obtain ⟨A', c', e', hc'⟩ := own_shape hax
 injection e' with e1 e2 e3
 subst e1 e3
 refine ⟨g1, g2, V1, V2, gt, bt, k, A1, c1, A2, c2, A, c, Ax, cx, Ah, ch, B1, rfl, hb.trans (hb1.mono hb.size), h1, Nat.le_trans h2 hb1.size, hmr.below hb1, hcr.below hb1, by omega, hrm.below hb1, hrc.below hb1, ⟨(own_sl hax).below hb1, hc'⟩, fun b o e => hfar b o (by rcases e with e | e | e | e; exact .inl e; exact .inr (.inl e); exact .inr (.inr (.inl e)); exact .inr (.inr (.inr (.inl e)))), Bk.alloc (Bk.new _ _ _) _, Bk.here _ _ _ (by simp)⟩
theorem In10.size {limit : Int} {s : W10} {n : Nat} (h : In10 limit s n) : s.m.size ≤ 40000000 := by
 have h1 := h.ok.o.lim
 have h2 := h.ok.ol
 have h3 := h.ok.y.lim
 have h4 := h.ly
 have h5 := h.ok.yb
 have h6 := h.ok.ob
 unfold lim at h4
 unfold Mm.size
 omega
theorem Many10_any {w : World} {Al : Option Addr} {n cl r : Nat} : Calls Tryz.prog 10 #[.slice Al n cl, .int .i64 (r : Int)] w fun e w' => e = .returned (.bool (decide (60 < n ∨ 20 < r))) ∧ w = w' := by
 by_cases h0 : 60 < n
 ·have d0 : decide ((n : Int) > 60) = true := decide_eq_true (by omega)
  have HR : Hid (60 < n) := lh h0
  clear h0
  go_enter Tryz.func10, Tryz.ntmps10
  go_wp2_with fail
  go_ret
  exact ⟨ret_bool (decide_eq_true (.inl HR.out)).symm, rfl⟩
 ·have d0 : decide ((n : Int) > 60) = false := decide_eq_false (by omega)
  have HR : Hid (¬ 60 < n) := lh h0
  clear h0
  by_cases h1 : 20 < r
  ·have d1 : decide ((r : Int) > 20) = true := decide_eq_true (by omega)
   have HR1 := lh h1
   clear h1
   go_enter Tryz.func10, Tryz.ntmps10
   go_wp2_with fail
   go_ret
   exact ⟨ret_bool (decide_eq_true (.inr HR1.out)).symm, rfl⟩
  ·have d1 : decide ((r : Int) > 20) = false := decide_eq_false (by omega)
   have HR1 := lh h1
   clear h1
   go_enter Tryz.func10, Tryz.ntmps10
   go_wp2_with fail
   go_ret
   exact ⟨ret_bool (decide_eq_false (by rintro (h | h); exact HR.out h; exact HR1.out h)).symm, rfl⟩
end
end Go.Proofs.YtaijmgkjbbiboaaGreat
