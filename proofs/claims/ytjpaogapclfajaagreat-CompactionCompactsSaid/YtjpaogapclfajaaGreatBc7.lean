/- Parts of the proof: MarkP, RSpace, Obj4. -/
import Derived.Deep.CutRange
import Derived.Outline
import Derived.OwnWalk
import Derived.Test.YtjpaogapclfajaaGreatBcA
import Derived.Test.YtjpaogapclfajaaGreatBc3
import Derived.Test.YtjpaogapclfajaaGreatBc5
import Derived.Test.YtjpaogapclfajaaGreatBc6
set_option linter.unusedVariables false
set_option linter.unusedSimpArgs false
set_option linter.unusedSectionVars false
namespace Go.Proofs.YtjpaogapclfajaaGreat
/-- what a word refers to: none if it is an address without a resolution, some none if it is no address -/
def Mm.rfr (m : Mm) (x : Int) : Option (Option Int) := match adr x with
 | none => some none
 | some a => if (m.resolve a).2 = 0 then some (some (m.resolve a).1) else none
/-- the words of the fields of an object -/
def Mm.flds (m : Mm) (a : Int) : List Int := (List.range (m.hdr a).2.f.toNat).map fun (i : Nat) => (m.at_ (a + 2 + (i : Int))).getD 0
/-- the stack and the strongly marked objects behind a word -/
def Mm.vis1 (m : Mm) (k : List Int × List Int) (x : Int) : Option (List Int × List Int) := match m.rfr x with
 | none => none
 | some none => some k
 | some (some a) => if k.2.contains a = true then some k else some (k.1 ++ [a], k.2 ++ [a])
def Mm.vis (m : Mm) : List Int → List Int × List Int → Option (List Int × List Int)
 | [], k => some k
 | x :: l, k => match m.vis1 k x with
  | none => none
  | some k' => m.vis l k'
/-- a marked object, scanned: the stack, the marks, and the targets of Weaks -/
def Mm.scan1 (m : Mm) (a : Int) (k : List Int × List Int) (wk : List Int) : Option ((List Int × List Int) × List Int) :=
 if (m.hdr a).2.k = 3 then some (k, wk)
 else if (m.hdr a).2.k = 2 then match m.flds a with
  | [] => some (k, wk)
  | x :: _ => match m.rfr x with
   | none => none
   | some none => some (k, wk)
   | some (some t) => some (k, wk ++ [t])
 else match m.vis (m.flds a) k with
  | none => none
  | some k' => some (k', wk)
def Mm.scan (m : Mm) : Nat → List Int × List Int → List Int → Option (List Int × List Int)
 | 0, k, wk => some (k.2, wk)
 | f + 1, k, wk => match k.1.getLast? with
  | none => some (k.2, wk)
  | some a => match m.scan1 a (k.1.dropLast, k.2) wk with
   | none => none
   | some (k', wk') => m.scan f k' wk'
def Mm.keepW (m : Mm) (sg wl : List Int) (a : Int) : List Int := if sg.contains a = false ∧ wl.contains a = false ∧ (m.hdr a).2.k = 3 then wl ++ [a] else wl
def Mm.fuel (m : Mm) (k : List Int × List Int) : Nat := 2 * (m.size - k.2.length) + k.1.length
def Mm.marks (m : Mm) (roots : List Int) : Option (List Int × List Int) := match m.vis roots ([], []) with
 | none => none
 | some k => match m.scan (m.fuel k) k [] with
  | none => none
  | some (sg, wk) => some (sg, wk.foldl (m.keepW sg) [])
inductive Mm.Rch (m : Mm) (roots : List Int) : Int → Prop
 | root {x a : Int} (hx : x ∈ roots) (h : m.rfr x = some (some a)) : m.Rch roots a
 | step {b x a : Int} (hb : m.Rch roots b) (h3 : (m.hdr b).2.k ≠ 3) (h2 : (m.hdr b).2.k ≠ 2) (hx : x ∈ m.flds b) (h : m.rfr x = some (some a)) : m.Rch roots a
/-- a word that is met has no resolution -/
def Mm.Bad (m : Mm) (roots : List Int) : Prop := (∃ x ∈ roots, m.rfr x = none) ∨ ∃ b x, m.Rch roots b ∧ (m.hdr b).2.k ≠ 3 ∧ x ∈ m.flds b ∧ m.rfr x = none
/-- a Stub to which only Weaks refer -/
def Mm.Wk (m : Mm) (roots : List Int) (a : Int) : Prop := (m.hdr a).2.k = 3 ∧ ¬ m.Rch roots a ∧ ∃ b x, m.Rch roots b ∧ (m.hdr b).2.k = 2 ∧ x ∈ m.flds b ∧ m.rfr x = some (some a)
theorem Mm.Rch.mono {m : Mm} {r r' : List Int} (h : ∀ x ∈ r, x ∈ r') {a : Int} (ha : m.Rch r a) : m.Rch r' a := by
 induction ha with
 | root hx h1 => exact .root (h _ hx) h1
 | step _ h3 h2 hx h1 ih => exact .step ih h3 h2 hx h1
theorem Mm.Bad.mono {m : Mm} {r r' : List Int} (h : ∀ x ∈ r, x ∈ r') (hb : m.Bad r) : m.Bad r' := by
 rcases hb with ⟨x, hx, h1⟩ | ⟨b, x, hb, h3, hx, h1⟩
 ·exact .inl ⟨x, h x hx, h1⟩
 ·exact .inr ⟨b, x, hb.mono h, h3, hx, h1⟩
theorem Mm.resN_nxt (m : Mm) : ∀ (f : Nat) (a b : Int), m.resN f a = some b → m.nxt b = some none
 | 0, a, b, h => by cases h
 | f + 1, a, b, h => by
  unfold Mm.resN at h
  split at h
  ·cases h
  ·rename_i h1; cases h; exact h1
  ·exact Mm.resN_nxt m f _ _ h
theorem Mm.nxt_none {m : Mm} {a : Int} (h : m.nxt a = some none) : (m.hdr a).1 = 0 ∧ (m.hdr a).2.k ≠ 4 := by
 unfold Mm.nxt at h
 split at h
 ·cases h
 ·rename_i h0
  split at h
  ·rename_i h1; exact ⟨by omega, h1⟩
  ·split at h <;> cases h
theorem Mm.rfr_hdr {m : Mm} {x a : Int} (h : m.rfr x = some (some a)) : (m.hdr a).1 = 0 ∧ (m.hdr a).2.k ≠ 4 := by
 unfold Mm.rfr at h
 split at h
 ·cases h
 ·split at h
  ·rename_i b hb h0
   cases h
   unfold Mm.resolve at h0 ⊢
   split at h0
   ·cases h0
   ·rename_i h1
    rw [if_neg h1]
    split at h0
    ·rename_i c hc
     exact Mm.nxt_none (m.resN_nxt _ _ _ hc)
    ·cases h0
  ·cases h
structure Mm.MkI (m : Mm) (k : List Int × List Int) : Prop where
 nd : k.2.Nodup
 sn : k.1.Nodup
 sub : ∀ a ∈ k.1, a ∈ k.2
 ok : ∀ a ∈ k.2, (m.hdr a).1 = 0 ∧ (m.hdr a).2.k ≠ 4
theorem Mm.MkI.nil (m : Mm) : m.MkI ([], []) := ⟨List.nodup_nil, List.nodup_nil, fun a h => h, fun a h => by cases h⟩
theorem Mm.MkI.len {m : Mm} {k : List Int × List Int} (h : m.MkI k) : k.2.length ≤ m.size := by
 have := nodup_len k.2 _ h.nd fun y hy => m.all_has y (Mm.hdr_has (h.ok y hy).1)
 simpa [Mm.size] using this
theorem nodup_snoc {l : List Int} {a : Int} (h : l.Nodup) (ha : a ∉ l) : (l ++ [a]).Nodup := by
 rw [List.nodup_append]
 exact ⟨h, List.nodup_cons.2 ⟨by simp, List.nodup_nil⟩, fun x hx y hy e => by rw [List.mem_singleton.1 hy] at e; exact ha (e ▸ hx)⟩
theorem Mm.vis1_push {m : Mm} {k : List Int × List Int} (h : m.MkI k) {x a : Int} (hr : m.rfr x = some (some a)) (ha : k.2.contains a = false) : m.MkI (k.1 ++ [a], k.2 ++ [a]) := by
 have ha' : a ∉ k.2 := by simpa using ha
 refine ⟨nodup_snoc h.nd ha', nodup_snoc h.sn fun e => ha' (h.sub a e), fun b hb => ?_, fun b hb => ?_⟩
 ·rcases List.mem_append.1 hb with hb | hb
  ·exact List.mem_append.2 (.inl (h.sub b hb))
  ·exact List.mem_append.2 (.inr hb)
 ·rcases List.mem_append.1 hb with hb | hb
  ·exact h.ok b hb
  ·rw [List.mem_singleton.1 hb]; exact Mm.rfr_hdr hr
/-- what a visit leaves: more marks, all of them on the stack, and enough room for them -/
structure Mm.Vis (m : Mm) (k k' : List Int × List Int) : Prop where
 ki : m.MkI k'
 grow : ∀ a ∈ k.2, a ∈ k'.2
 stk : ∀ a ∈ k.1, a ∈ k'.1
 new : ∀ a ∈ k'.2, a ∈ k.2 ∨ a ∈ k'.1
 fuel : m.fuel k' ≤ m.fuel k
theorem Mm.Vis.refl {m : Mm} {k : List Int × List Int} (h : m.MkI k) : m.Vis k k := ⟨h, fun a h => h, fun a h => h, fun a h => .inl h, Nat.le_refl _⟩
theorem Mm.Vis.trans {m : Mm} {k k1 k2 : List Int × List Int} (h : m.Vis k k1) (h' : m.Vis k1 k2) : m.Vis k k2 :=
 ⟨h'.ki, fun a ha => h'.grow a (h.grow a ha), fun a ha => h'.stk a (h.stk a ha), fun a ha => (h'.new a ha).elim (fun h1 => (h.new a h1).elim .inl fun h2 => .inr (h'.stk a h2)) .inr, Nat.le_trans h'.fuel h.fuel⟩
theorem Mm.vis1_vis {m : Mm} {k k' : List Int × List Int} (h : m.MkI k) {x : Int} (hv : m.vis1 k x = some k') : m.Vis k k' ∧ ∃ o, m.rfr x = some o ∧ ∀ a, o = some a → a ∈ k'.2 := by
 unfold Mm.vis1 at hv
 split at hv
 ·cases hv
 ·rename_i hr
  cases hv
  exact ⟨.refl h, none, hr, fun a e => by cases e⟩
 ·rename_i a hr
  split at hv
  ·rename_i hc
   cases hv
   exact ⟨.refl h, some a, hr, fun b e => by cases e; simpa using hc⟩
  ·rename_i hc
   have hc : k.2.contains a = false := by simpa using hc
   have h1 := Mm.vis1_push h hr hc
   cases hv
   have hl := h1.len
   refine ⟨⟨h1, fun b hb => List.mem_append.2 (.inl hb), fun b hb => List.mem_append.2 (.inl hb), fun b hb => ?_, ?_⟩, some a, hr, fun b e => by cases e; simp⟩
   ·rcases List.mem_append.1 hb with hb | hb
    ·exact .inl hb
    ·exact .inr (List.mem_append.2 (.inr hb))
   ·unfold Mm.fuel
    simp only [List.length_append, List.length_singleton] at hl ⊢
    omega
theorem Mm.vis_vis {m : Mm} : ∀ {l : List Int} {k k' : List Int × List Int}, m.MkI k → m.vis l k = some k' → m.Vis k k' ∧ ∀ x ∈ l, ∃ o, m.rfr x = some o ∧ ∀ a, o = some a → a ∈ k'.2
 | [], k, k', h, hv => by
  unfold Mm.vis at hv
  cases hv
  exact ⟨.refl h, fun x hx => by cases hx⟩
 | x :: l, k, k', h, hv => by
  unfold Mm.vis at hv
  split at hv
  ·cases hv
  ·rename_i k1 h1
   obtain ⟨v1, o, ho, hoa⟩ := Mm.vis1_vis h h1
   obtain ⟨v2, hl⟩ := Mm.vis_vis v1.ki hv
   refine ⟨v1.trans v2, fun y hy => ?_⟩
   rcases List.mem_cons.1 hy with rfl | hy
   ·exact ⟨o, ho, fun a e => v2.grow a (hoa a e)⟩
   ·exact hl y hy
theorem Mm.vis_none {m : Mm} : ∀ {l : List Int} {k : List Int × List Int}, m.vis l k = none → ∃ x ∈ l, m.rfr x = none
 | [], k, h => by unfold Mm.vis at h; cases h
 | x :: l, k, h => by
  unfold Mm.vis at h
  split at h
  ·rename_i h1
   refine ⟨x, List.mem_cons_self .., ?_⟩
   unfold Mm.vis1 at h1
   split at h1
   ·assumption
   ·cases h1
   ·split at h1 <;> cases h1
  ·obtain ⟨y, hy, h2⟩ := Mm.vis_none h
   exact ⟨y, List.mem_cons_of_mem _ hy, h2⟩
/-- what a visit marks is what words refer to -/
theorem Mm.vis_from {m : Mm} : ∀ {l : List Int} {k k' : List Int × List Int}, m.vis l k = some k' → ∀ a ∈ k'.2, a ∈ k.2 ∨ ∃ x ∈ l, m.rfr x = some (some a)
 | [], k, k', hv, a, ha => by unfold Mm.vis at hv; cases hv; exact .inl ha
 | x :: l, k, k', hv, a, ha => by
  unfold Mm.vis at hv
  split at hv
  ·cases hv
  ·rename_i k1 h1
   rcases Mm.vis_from hv a ha with h2 | ⟨y, hy, h2⟩
   ·unfold Mm.vis1 at h1
    split at h1
    ·cases h1
    ·cases h1; exact .inl h2
    ·rename_i b hr
     split at h1
     ·cases h1; exact .inl h2
     ·cases h1
      rcases List.mem_append.1 h2 with h2 | h2
      ·exact .inl h2
      ·rw [List.mem_singleton.1 h2]; exact .inr ⟨x, List.mem_cons_self .., hr⟩
   ·exact .inr ⟨y, List.mem_cons_of_mem _ hy, h2⟩
/-- what is done with an object that is no longer on the stack -/
def Mm.Done (m : Mm) (sg wk : List Int) (b : Int) : Prop := (m.hdr b).2.k ≠ 3 → ∀ x ∈ m.flds b, ∃ o, m.rfr x = some o ∧ ∀ a, o = some a → if (m.hdr b).2.k = 2 then a ∈ wk else a ∈ sg
structure Mm.ScI (m : Mm) (roots : List Int) (k : List Int × List Int) (wk : List Int) : Prop where
 ki : m.MkI k
 rch : ∀ a ∈ k.2, m.Rch roots a
 root : ∀ x ∈ roots, ∃ o, m.rfr x = some o ∧ ∀ a, o = some a → a ∈ k.2
 done : ∀ b ∈ k.2, b ∉ k.1 → m.Done k.2 wk b
 wks : ∀ t ∈ wk, ∃ b x, m.Rch roots b ∧ (m.hdr b).2.k = 2 ∧ x ∈ m.flds b ∧ m.rfr x = some (some t)
theorem Mm.Done.mono {m : Mm} {sg sg' wk wk' : List Int} {b : Int} (h : m.Done sg wk b) (h1 : ∀ a ∈ sg, a ∈ sg') (h2 : ∀ a ∈ wk, a ∈ wk') : m.Done sg' wk' b := fun h3 x hx => by
 obtain ⟨o, ho, hoa⟩ := h h3 x hx
 refine ⟨o, ho, fun a e => ?_⟩
 have := hoa a e
 split at this
 ·rw [if_pos (by assumption)]; exact h2 a this
 ·rw [if_neg (by assumption)]; exact h1 a this
theorem getLast_split {l : List Int} {a : Int} (h : l.getLast? = some a) : l = l.dropLast ++ [a] := by
 obtain ⟨l', rfl⟩ := List.getLast?_eq_some_iff.1 h
 simp
theorem weak_one {h : Hdr} (hv : vH h = true) (h2 : h.k = 2) : h.f = 1 := by
 have := (vH_iff h).1 hv
 omega
theorem Mm.flds_weak {m : Mm} {a : Int} (h : (m.hdr a).1 = 0) (h2 : (m.hdr a).2.k = 2) : ∃ x, m.flds a = [x] := by
 have := weak_one (Mm.hdr_valid h) h2
 unfold Mm.flds
 rw [this]
 exact ⟨_, rfl⟩
theorem Mm.scan1_ok {m : Mm} {roots st sg wk wk' : List Int} {a : Int} {k' : List Int × List Int} (h : m.ScI roots (st ++ [a], sg) wk) (hs : m.scan1 a (st, sg) wk = some (k', wk')) : m.ScI roots k' wk' ∧ m.fuel k' + 1 ≤ m.fuel (st ++ [a], sg) := by
 obtain ⟨mk, rch, root, done, wks⟩ := h
 have nd := List.nodup_append.1 mk.sn
 have hast : a ∉ st := fun e => nd.2.2 a e a (List.mem_singleton_self a) rfl
 have hasg : a ∈ sg := mk.sub a (List.mem_append.2 (.inr (List.mem_singleton_self a)))
 have mk1 : m.MkI (st, sg) := ⟨mk.nd, nd.1, fun b hb => mk.sub b (List.mem_append.2 (.inl hb)), mk.ok⟩
 have ha0 := mk.ok a hasg
 have hf : m.fuel (st, sg) + 1 = m.fuel (st ++ [a], sg) := by unfold Mm.fuel; simp; omega
 have dn : ∀ b ∈ sg, b ∉ st → b ≠ a → m.Done sg wk b := fun b hb hbs hba => done b hb fun e => (List.mem_append.1 e).elim hbs fun e => hba (List.mem_singleton.1 e)
 unfold Mm.scan1 at hs
 split at hs
 ·rename_i h3
  cases hs
  refine ⟨⟨mk1, rch, root, fun b hb hbs => ?_, wks⟩, by omega⟩
  by_cases hba : b = a
  ·subst hba; exact fun h => absurd h3 h
  ·exact dn b hb hbs hba
 ·rename_i h3
  split at hs
  ·rename_i h2
   obtain ⟨x, hx⟩ := Mm.flds_weak ha0.1 h2
   rw [hx] at hs
   simp only at hs
   split at hs
   ·cases hs
   ·rename_i hr
    cases hs
    refine ⟨⟨mk1, rch, root, fun b hb hbs => ?_, wks⟩, by omega⟩
    by_cases hba : b = a
    ·subst hba
     intro _ y hy
     rw [hx, List.mem_singleton] at hy
     exact ⟨none, hy ▸ hr, fun a e => by cases e⟩
    ·exact dn b hb hbs hba
   ·rename_i t hr
    cases hs
    refine ⟨⟨mk1, rch, root, fun b hb hbs => ?_, fun t' ht' => ?_⟩, by omega⟩
    ·by_cases hba : b = a
     ·subst hba
      intro _ y hy
      rw [hx, List.mem_singleton] at hy
      refine ⟨some t, hy ▸ hr, fun a e => ?_⟩
      rw [if_pos h2]
      cases e
      simp
     ·exact (dn b hb hbs hba).mono (fun _ h => h) fun _ h => List.mem_append.2 (.inl h)
    ·rcases List.mem_append.1 ht' with h1 | h1
     ·exact wks t' h1
     ·rw [List.mem_singleton.1 h1]
      exact ⟨a, x, rch a hasg, h2, by rw [hx]; simp, hr⟩
  ·rename_i h2
   split at hs
   ·cases hs
   ·rename_i k1 hv
    cases hs
    obtain ⟨vi, hl⟩ := Mm.vis_vis mk1 hv
    have hfu := vi.fuel
    refine ⟨⟨vi.ki, fun b hb => ?_, fun x hx => ?_, fun b hb hbs => ?_, wks⟩, by omega⟩
    ·rcases Mm.vis_from hv b hb with h1 | ⟨x, hx, hr⟩
     ·exact rch b h1
     ·exact .step (rch a hasg) h3 h2 hx hr
    ·obtain ⟨o, ho, hoa⟩ := root x hx
     exact ⟨o, ho, fun a e => vi.grow a (hoa a e)⟩
    ·by_cases hba : b = a
     ·subst hba
      intro _ x hx
      obtain ⟨o, ho, hoa⟩ := hl x hx
      refine ⟨o, ho, fun a e => ?_⟩
      rw [if_neg h2]
      exact hoa a e
     ·rcases vi.new b hb with h1 | h1
      ·exact (dn b h1 (fun e => hbs (vi.stk b e)) hba).mono vi.grow fun _ h => h
      ·exact absurd h1 hbs
theorem Mm.scan1_bad {m : Mm} {a : Int} {k : List Int × List Int} {wk : List Int} (hs : m.scan1 a k wk = none) : (m.hdr a).2.k ≠ 3 ∧ ∃ x ∈ m.flds a, m.rfr x = none := by
 unfold Mm.scan1 at hs
 split at hs
 ·cases hs
 ·rename_i h3
  refine ⟨h3, ?_⟩
  split at hs
  ·split at hs
   ·cases hs
   ·rename_i x _ hx
    split at hs
    ·rename_i hr; exact ⟨x, by rw [hx]; simp, hr⟩
    ·cases hs
    ·cases hs
  ·split at hs
   ·rename_i hv; exact Mm.vis_none hv
   ·cases hs
theorem Mm.scan_ok {m : Mm} {roots : List Int} : ∀ {f : Nat} {k : List Int × List Int} {wk : List Int}, m.ScI roots k wk → m.fuel k ≤ f → (m.scan f k wk = none → m.Bad roots) ∧ ∀ sg wk', m.scan f k wk = some (sg, wk') → m.ScI roots ([], sg) wk'
 | 0, k, wk, h, hf => by
  unfold Mm.fuel at hf
  have hk : k.1 = [] := List.length_eq_zero_iff.1 (by omega)
  unfold Mm.scan
  refine ⟨(by intro h; cases h), fun sg wk' e => ?_⟩
  cases e
  obtain ⟨k1, k2⟩ := k
  cases hk
  exact h
 | f + 1, k, wk, h, hf => by
  unfold Mm.scan
  obtain ⟨st, sg0⟩ := k
  cases hl : st.getLast? with
  | none =>
   have hk : st = [] := List.getLast?_eq_none_iff.1 hl
   subst hk
   simp only [List.getLast?_nil]
   exact ⟨(by intro h; cases h), fun sg wk' e => by cases e; exact h⟩
  | some a =>
   have hsp := getLast_split hl
   simp only [hl]
   rw [hsp] at h hf
   cases hs : m.scan1 a (st.dropLast, sg0) wk with
   | none =>
    refine ⟨fun _ => ?_, fun sg wk' e => by cases e⟩
    obtain ⟨h3, x, hx, hr⟩ := Mm.scan1_bad hs
    exact .inr ⟨a, x, h.rch a (h.ki.sub a (by simp)), h3, hx, hr⟩
   | some p =>
    obtain ⟨k', wk'⟩ := p
    obtain ⟨h1, h2⟩ := Mm.scan1_ok h hs
    exact Mm.scan_ok h1 (by omega)
theorem Mm.ScI.all {m : Mm} {roots sg wk : List Int} (h : m.ScI roots ([], sg) wk) : (∀ a, a ∈ sg ↔ m.Rch roots a) ∧ ¬ m.Bad roots := by
 have h1 : ∀ a, m.Rch roots a → a ∈ sg := fun a ha => by
  induction ha with
  | root hx hr =>
   obtain ⟨o, ho, hoa⟩ := h.root _ hx
   rw [hr] at ho
   cases ho
   exact hoa _ rfl
  | step hb h3 h2 hx hr ih =>
   obtain ⟨o, ho, hoa⟩ := h.done _ ih (by simp) h3 _ hx
   rw [hr] at ho
   cases ho
   have := hoa _ rfl
   rwa [if_neg h2] at this
 refine ⟨fun a => ⟨h.rch a, h1 a⟩, ?_⟩
 rintro (⟨x, hx, hr⟩ | ⟨b, x, hb, h3, hx, hr⟩)
 ·obtain ⟨o, ho, _⟩ := h.root x hx
  rw [hr] at ho
  cases ho
 ·obtain ⟨o, ho, _⟩ := h.done b (h1 b hb) (by simp) h3 x hx
  rw [hr] at ho
  cases ho
theorem Mm.keepW_mem {m : Mm} {sg : List Int} : ∀ (l wl : List Int) (a : Int), a ∈ l.foldl (m.keepW sg) wl ↔ a ∈ wl ∨ (a ∈ l ∧ a ∉ sg ∧ (m.hdr a).2.k = 3)
 | [], wl, a => by simp
 | t :: l, wl, a => by
  rw [List.foldl_cons, Mm.keepW_mem l]
  unfold Mm.keepW
  by_cases hc : sg.contains t = false ∧ wl.contains t = false ∧ (m.hdr t).2.k = 3
  ·rw [if_pos hc]
   have h1 : t ∉ sg := by simpa using hc.1
   rw [List.mem_append, List.mem_singleton, List.mem_cons]
   constructor
   ·rintro ((h | h) | h)
    ·exact .inl h
    ·rw [h]; exact .inr ⟨.inl rfl, h1, hc.2.2⟩
    ·exact .inr ⟨.inr h.1, h.2⟩
   ·rintro (h | ⟨h | h, h2⟩)
    ·exact .inl (.inl h)
    ·exact .inl (.inr h)
    ·exact .inr ⟨h, h2⟩
  ·rw [if_neg hc]
   simp only [List.mem_cons]
   constructor
   ·rintro (h | h)
    ·exact .inl h
    ·exact .inr ⟨.inr h.1, h.2⟩
   ·rintro (h | ⟨h | h, h2⟩)
    ·exact .inl h
    ·subst h
     have h1 : sg.contains a = false := by simpa using h2.1
     by_cases hw : a ∈ wl
     ·exact .inl hw
     ·exact absurd ⟨h1, by simpa using hw, h2.2⟩ hc
    ·exact .inr ⟨h, h2⟩
theorem Mm.keepW_nd {m : Mm} {sg : List Int} : ∀ (l wl : List Int), wl.Nodup → (l.foldl (m.keepW sg) wl).Nodup
 | [], wl, h => h
 | t :: l, wl, h => by
  rw [List.foldl_cons]
  refine Mm.keepW_nd l _ ?_
  unfold Mm.keepW
  split
  ·rename_i hc
   exact nodup_snoc h (by simpa using hc.2.1)
  ·exact h
/-- what the marks are -/
structure Mm.MarksI (m : Mm) (roots sg wl : List Int) : Prop where
 nd : sg.Nodup
 nw : wl.Nodup
 rch : ∀ a, a ∈ sg ↔ m.Rch roots a
 wk : ∀ a, a ∈ wl ↔ m.Wk roots a
 good : ¬ m.Bad roots
 hdr : ∀ a, a ∈ sg ∨ a ∈ wl → (m.hdr a).1 = 0
theorem Mm.start {m : Mm} {roots : List Int} {k : List Int × List Int} (hv : m.vis roots ([], []) = some k) : m.ScI roots k [] := by
 obtain ⟨vi, hl⟩ := Mm.vis_vis (Mm.MkI.nil m) hv
 refine ⟨vi.ki, fun a ha => ?_, hl, fun b hb hbs => ?_, fun t ht => by cases ht⟩
 ·rcases Mm.vis_from hv a ha with h1 | ⟨x, hx, hr⟩
  ·cases h1
  ·exact .root hx hr
 ·rcases vi.new b hb with h1 | h1
  ·cases h1
  ·exact absurd h1 hbs
theorem Mm.ScI.marks {m : Mm} {roots sg wk : List Int} (h : m.ScI roots ([], sg) wk) : m.MarksI roots sg (wk.foldl (m.keepW sg) []) := by
 obtain ⟨h1, h2⟩ := h.all
 refine ⟨h.ki.nd, Mm.keepW_nd _ _ List.nodup_nil, h1, fun a => ?_, h2, fun a ha => ?_⟩
 ·rw [Mm.keepW_mem]
  unfold Mm.Wk
  constructor
  ·rintro (h3 | ⟨h3, h4, h5⟩)
   ·cases h3
   ·exact ⟨h5, fun e => h4 ((h1 a).2 e), h.wks a h3⟩
  ·rintro ⟨h5, h4, b, x, hb, hk, hx, hr⟩
   refine .inr ⟨?_, fun e => h4 ((h1 a).1 e), h5⟩
   obtain ⟨o, ho, hoa⟩ := h.done b ((h1 b).2 hb) (by simp) (by omega) x hx
   rw [hr] at ho
   cases ho
   have := hoa _ rfl
   rwa [if_pos hk] at this
 ·rcases ha with ha | ha
  ·exact (h.ki.ok a ha).1
  ·rcases (Mm.keepW_mem _ _ a).1 ha with h3 | ⟨h3, _⟩
   ·cases h3
   ·obtain ⟨b, x, _, _, _, hr⟩ := h.wks a h3
    exact (Mm.rfr_hdr hr).1
theorem Mm.marks_none {m : Mm} {roots : List Int} (h : m.marks roots = none) : m.Bad roots := by
 unfold Mm.marks at h
 split at h
 ·rename_i hv; exact .inl (Mm.vis_none hv)
 ·rename_i k hv
  split at h
  ·rename_i hs
   exact (Mm.scan_ok (Mm.start hv) (Nat.le_refl _)).1 hs
  ·cases h
theorem Mm.marks_some {m : Mm} {roots sg wl : List Int} (h : m.marks roots = some (sg, wl)) : m.MarksI roots sg wl := by
 unfold Mm.marks at h
 split at h
 ·cases h
 ·rename_i k hv
  split at h
  ·cases h
  ·rename_i sg' wk hs
   cases h
   exact ((Mm.scan_ok (Mm.start hv) (Nat.le_refl _)).2 _ _ hs).marks
end Go.Proofs.YtjpaogapclfajaaGreat
namespace Go.Proofs.YtjpaogapclfajaaGreat
open Go.RowKit Go.Sort
set_option maxRecDepth 100000
/-- the words of the space s lie in the slice A with capacity c -/
structure RS (w : World) (s : Spc) (A : Option Addr) (c : Nat) : Prop where
 sl : Sl w 1 A s.ws.length (wds s.ws)
 cap : s.ws.length ≤ c
 u : ∀ x ∈ s.ws, U64 x
 b0 : 0 ≤ s.base
 lim : s.base + s.ws.length ≤ s.limit
 l0 : s.limit ≤ 4294967296
 lt : ∀ b o, A = some ⟨b, o, none⟩ → b < w.heap.size
def rsV (s : Spc) (A : Option Addr) (c : Nat) : Value := .agg #[.int .i64 s.base, .int .i64 s.limit, .slice A s.ws.length c]
theorem RS.below {w w' : World} {s : Spc} {A : Option Addr} {c : Nat} (h : RS w s A c) (hb : Below w.heap.size w w') : RS w' s A c := ⟨h.sl.below hb, h.cap, h.u, h.b0, h.lim, h.l0, fun b o e => Nat.lt_of_lt_of_le (h.lt b o e) hb.size⟩
section
variable {w : World} {s : Spc} {A : Option Addr} {c : Nat}
theorem boxS (w : World) (s : Spc) (A : Option Addr) (c : Nat) : Below w.heap.size w (w.alloc (.cells #[.int .i64 s.base, .int .i64 s.limit, .slice A s.ws.length c] 30)) := (Below.refl _ _).alloc (Nat.le_refl _) _
theorem RTop_any (h : RS w s A c) : Calls Tryz.prog 73 #[rsV s A c] w fun e w' => e = .returned (.int .i64 s.top) ∧ Below w.heap.size w w' := by
 have b0 := h.b0
 have b1 := h.lim
 have b2 := h.l0
 have HB := lh (boxS w s A c)
 clear h
 unfold Spc.top rsV
 go_enter Tryz.func73, Tryz.ntmps73
 go_wp2_with fail
 go_ret
 exact ⟨rfl, HB.out⟩
theorem RContains_any (h : RS w s A c) (a : Int) : Calls Tryz.prog 118 #[rsV s A c, .int .i64 a] w fun e w' => e = .returned (.bool (s.has a)) ∧ Below w.heap.size w w' := by
 have HB := lh (boxS w s A c)
 have cT := RTop_any (h.below HB.out)
 unfold Spc.top rsV at cT
 unfold rsV
 clear h
 by_cases h0 : s.base ≤ a
 ·have hk : Hid (s.has a = decide (a < s.base + (s.ws.length : Int))) := lh (by unfold Spc.has; simp [h0])
  go_enter Tryz.func118, Tryz.ntmps118
  go_wp2_with fail
  refine cT.mono ?_
  rintro e w1 ⟨rfl, hb⟩
  have HB2 := lh (HB.out.trans (hb.mono HB.out.size))
  clear hb
  go_wp2_with fail
  go_ret
  exact ⟨ret_bool hk.out.symm, HB2.out⟩
 ·have hk : Hid (s.has a = false) := lh (decide_eq_false (by omega))
  have h1 : a < s.base := by omega
  go_enter Tryz.func118, Tryz.ntmps118
  go_wp2_with fail
  go_ret
  exact ⟨ret_bool hk.out.symm, HB.out⟩
set_option maxHeartbeats 1000000 in
theorem RSLoad_any (h : RS w s A c) (a : Int) : Calls Tryz.prog 72 #[rsV s A c, .int .i64 a] w fun e w' => e = .returned (ldV s a) ∧ Below w.heap.size w w' := by
 have HB := lh (boxS w s A c)
 have cC := RContains_any (h.below HB.out) a
 have HQ := lh (Bk.new w 30 #[.int .i64 s.base, .int .i64 s.limit, .slice A s.ws.length c])
 unfold ldV
 unfold rsV at cC ⊢
 cases hh : s.has a with
 | false =>
  rw [Spc.at_none hh]
  simp only [hh] at cC ⊢
  clear hh h
  go_enter Tryz.func72, Tryz.ntmps72
  go_wp2_with fail
  refine cC.mono ?_
  rintro e w1 ⟨rfl, hb⟩
  have HB2 := lh (HB.out.trans (hb.mono HB.out.size))
  clear hb
  go_wp2_with fail
  go_ret2
  exact ⟨rfl, HB2.out⟩
 | true =>
  obtain ⟨i, hi, hil, x, hx, hat⟩ := Spc.at_some hh
  rw [hat]
  simp only [hh] at cC ⊢
  obtain ⟨b, o, rfl, hbl, hcells⟩ := h.sl.get hil
  have b0 := h.b0
  have b1 := h.lim
  have b2 := h.l0
  have hle := h.cap
  have HC := lh (hcells i _ (wds_get hx))
  obtain rfl : a = s.base + i := by omega
  have hw2 : s.base + (i : Int) - s.base = (i : Int) := by omega
  have i1 : i < c := by omega
  clear h hh hat hcells hi hx
  go_enter Tryz.func72, Tryz.ntmps72
  go_wp2_with fail
  refine cC.mono ?_
  rintro e w1 ⟨rfl, hb⟩
  have HB2 := lh (HB.out.trans (hb.mono HB.out.size))
  have h1 := HQ.out.below hb HQ.out.lt
  have c0 : w1.cell? ⟨w.heap.size, 0, none⟩ = some (.int .i64 s.base) := h1.cell 0
  have c2 : w1.cell? ⟨w.heap.size, 2, none⟩ = some (.slice (some ⟨b, o, none⟩) s.ws.length c) := h1.cell 2
  have cx : w1.cell? ⟨b, o + i, none⟩ = some (.int .u64 x) := ((bcell HB2.out).1 _ _ hbl).trans HC.out
  clear hb h1
  go_wp2_with fail
  go_ret2
  exact ⟨rfl, HB2.out⟩
end
end Go.Proofs.YtjpaogapclfajaaGreat
namespace Go.Proofs.YtjpaogapclfajaaGreat
open Go.RowKit Go.Sort
set_option maxRecDepth 100000
theorem i_u64 : (Tryz.prog.info? 51).map (fun i => (i.zero, i.size, i.bytes)) = some (some (.int .u64 0), 1, 8) := by kernel_rfl
theorem wds_one (l : List Int) : ∀ u ∈ wds l, u.oneCell' = true := by
 intro u hu
 obtain ⟨x, _, rfl⟩ := List.mem_map.1 hu
 rfl
theorem RS.put {w w' : World} {s : Spc} {A : Option Addr} {c : Nat} (h : RS w s A c) {x : Int} (hx : U64 x) {i : Nat} {A' : Option Addr} {c' : Nat} (hc : s.ws.length ≤ c') (hsl : Sl w' 1 A' s.ws.length ((wds s.ws).set i (.int .u64 x))) (hlt : ∀ b o, A' = some ⟨b, o, none⟩ → b < w'.heap.size) : RS w' { s with ws := s.ws.set i x } A' c' := by
 refine ⟨?_, by simpa using hc, fun y hy => ?_, h.b0, by simpa using h.lim, h.l0, hlt⟩
 ·have : wds (s.ws.set i x) = (wds s.ws).set i (.int .u64 x) := by simp [wds, List.map_set]
  simp only [List.length_set]
  rw [this]
  exact hsl
 ·rcases List.mem_or_eq_of_mem_set hy with h1 | h1
  ·exact h.u y h1
  ·rw [h1]; exact hx
theorem Sl.far {w : World} {s n b o : Nat} {xs : List Value} (h : Sl w s (some ⟨b, o, none⟩) n xs) {p : Addr} (hp : b ≠ p.block) (u : Value) : Sl (w.setCell p u) s (some ⟨b, o, none⟩) n xs := by
 refine ⟨h.1, ?_⟩
 rcases h.2 with h0 | ⟨b', o', e, hb, hc⟩
 ·exact .inl h0
 ·cases e
  exact .inr ⟨b, o, rfl, by simpa [World.setCell] using hb, fun j x hx => cellFar u (hc j x hx) hp⟩
/-- a slice that came back lies where the old one lay, or in new memory -/
def Nw (H : Nat) (A A' : Option Addr) : Prop := ∀ b o, A' = some ⟨b, o, none⟩ → A' = A ∨ H ≤ b
theorem Nw.refl (H : Nat) (A : Option Addr) : Nw H A A := fun _ _ _ => .inl rfl
theorem Nw.ge {H b o : Nat} (A : Option Addr) (h : H ≤ b) : Nw H A (some ⟨b, o, none⟩) := fun _ _ e => .inr (by cases e; exact h)
theorem Nw.mono {H H' : Nat} {A A' : Option Addr} (h : Nw H A A') (hh : H' ≤ H) : Nw H' A A' := fun b o e => (h b o e).imp id fun h1 => Nat.le_trans hh h1
theorem Nw.trans {H H' : Nat} {A A' A'' : Option Addr} (h : Nw H A A') (h' : Nw H' A' A'') (hh : H ≤ H') : Nw H A A'' := fun b o e => by
 rcases h' b o e with h1 | h1
 ·rw [h1] at e ⊢; exact h b o e
 ·exact .inr (Nat.le_trans hh h1)
theorem Nw.own {w : World} {H e s n m c : Nat} {A A' : Option Addr} {xs : List Value} (h : w.ownsRow H e s (.slice A' m c) n xs) : Nw H A A' := fun b o he => by
 subst he
 exact .inr (h.lt b rfl).1
def RStP (w : World) (A0 : Option Addr) (s : Spc) (r : Int) (e : Ending) (w' : World) : Prop := ∃ A c, e = .returned (.tuple #[rsV s A c, .int .i64 r]) ∧ RS w' s A c ∧ Below w.heap.size w w' ∧ Nw w.heap.size A0 A
section
variable {w : World} {s : Spc} {A : Option Addr} {c : Nat}
set_option maxHeartbeats 2000000 in
theorem RSStore_any (h : RS w s A c) (a : Int) {x : Int} (hx : U64 x) : Calls Tryz.prog 142 #[rsV s A c, .int .i64 a, .int .u64 x] w (RStP w A (s.put a x) (if s.has a = true then 0 else 2)) := by
 obtain ⟨i9, hi9, hi0, hi1, hi2⟩ := info_parts i_u64
 have HI := lh (And.intro hi9 (And.intro hi0 (And.intro hi1 hi2)))
 clear hi9 hi0 hi1 hi2
 have hb0 : Below w.heap.size w ((w.alloc (.cells #[.int .i64 s.base, .int .i64 s.limit, .slice A s.ws.length c] 30)).alloc (.cells #[.int .i64 0, .int .i64 0, .slice none 0 0] 30)) := ((Below.refl _ _).alloc (Nat.le_refl _) _).alloc (by simp) _
 have HB := lh hb0
 have cC := RContains_any (h.below hb0) a
 have HQ : Hid (Bk ((w.alloc (.cells #[.int .i64 s.base, .int .i64 s.limit, .slice A s.ws.length c] 30)).alloc (.cells #[.int .i64 0, .int .i64 0, .slice none 0 0] 30)) w.heap.size 30 #[.int .i64 s.base, .int .i64 s.limit, .slice A s.ws.length c]) := lh ((Bk.new _ _ _).alloc _)
 have HZ : Hid (Bk ((w.alloc (.cells #[.int .i64 s.base, .int .i64 s.limit, .slice A s.ws.length c] 30)).alloc (.cells #[.int .i64 0, .int .i64 0, .slice none 0 0] 30)) (w.heap.size + 1) 30 #[.int .i64 0, .int .i64 0, .slice none 0 0]) := lh (Bk.here _ _ _ (by simp))
 unfold Spc.put
 unfold rsV at cC ⊢
 have H := lh h
 have hl1 := h.lim
 have hl2 := h.l0
 have hl0 := h.b0
 cases hh : s.has a with
 | false =>
  simp only [hh, Bool.false_eq_true, if_false] at cC ⊢
  clear hh h hb0
  go_enter Tryz.func142, Tryz.ntmps142
  go_wp2_with fail
  refine cC.mono ?_
  rintro e w1 ⟨rfl, hb⟩
  have HB2 := lh (HB.out.trans (hb.mono HB.out.size))
  have q1 := HQ.out.below hb HQ.out.lt
  have z1 := HZ.out.below hb HZ.out.lt
  have c0 : w1.cell? ⟨w.heap.size, 0, none⟩ = some (.int .i64 s.base) := q1.cell 0
  have c1 : w1.cell? ⟨w.heap.size, 1, none⟩ = some (.int .i64 s.limit) := q1.cell 1
  have c2 : w1.cell? ⟨w.heap.size, 2, none⟩ = some (.slice A s.ws.length c) := q1.cell 2
  have d0 : w1.cell? ⟨w.heap.size + 1, 0, none⟩ = some (.int .i64 0) := z1.cell 0
  have d1 : w1.cell? ⟨w.heap.size + 1, 1, none⟩ = some (.int .i64 0) := z1.cell 1
  have d2 : w1.cell? ⟨w.heap.size + 1, 2, none⟩ = some (.slice none 0 0) := z1.cell 2
  have f0 : w1.frozen? ⟨w.heap.size + 1, 0, none⟩ = false := z1.free 0
  have f1 : w1.frozen? ⟨w.heap.size + 1, 1, none⟩ = false := z1.free 1
  have f2 : w1.frozen? ⟨w.heap.size + 1, 2, none⟩ = false := z1.free 2
  clear hb q1 z1
  go_wp2_with fail
  refine bodyPost_ret (v := .tuple #[.agg #[.int .i64 s.base, .int .i64 s.limit, .slice A s.ws.length c], .int .i64 2]) (by simp [results, Tryz.results142, go_sem, d0, d1, d2]) rfl ?_
  have hbb := ((HB2.out.setCell (p := ⟨w.heap.size + 1, 0, none⟩) (by simp) (.int .i64 s.base)).setCell (p := ⟨w.heap.size + 1, 1, none⟩) (by simp) (.int .i64 s.limit)).setCell (p := ⟨w.heap.size + 1, 2, none⟩) (by simp) (.slice A s.ws.length c)
  exact ⟨A, c, rfl, H.out.below hbb, hbb, Nw.refl _ _⟩
 | true =>
  obtain ⟨i, hi, hil, x0, hx0, hat⟩ := Spc.at_some hh
  simp only [hh, if_true] at cC ⊢
  have hSL := lh h.sl
  have HX := lh hx
  have HX0 := lh hx0
  obtain rfl : a = s.base + i := by omega
  have hti : (s.base + (i : Int) - s.base).toNat = i := by omega
  rw [hti]
  have hw2 : s.base + (i : Int) - s.base = (i : Int) := by omega
  clear h hh hat hi hx0 hx hti hb0
  go_enter Tryz.func142, Tryz.ntmps142
  go_wp2_with fail
  refine cC.mono ?_
  rintro e w1 ⟨rfl, hb⟩
  have HB2 := lh (HB.out.trans (hb.mono HB.out.size))
  have q1 := HQ.out.below hb HQ.out.lt
  have z1 := HZ.out.below hb HZ.out.lt
  have Q1 := lh q1
  have Z1 := lh z1
  have c2 : w1.cell? ⟨w.heap.size, 2, none⟩ = some (.slice A s.ws.length c) := q1.cell 2
  have hz1 := z1.lt
  have hz2 : w.heap.size ≠ w1.heap.size := by omega
  have hz3 : w.heap.size < w1.heap.size := by omega
  clear hb q1 z1
  go_upto_region 4 with (at_builtin; refine wpList_app rfl (.tmp 14) (.tmp 16) 28 rfl Tryz.underlying28 HI.out.1 HI.out.2.1 HI.out.2.2.1 HI.out.2.2.2 rfl (by decide) (v := .slice (some ⟨w1.heap.size, 0, none⟩) 0 0) (n := 0) (xs := []) (base := w1.heap.size) rfl (ownEmpty 1 (Bk.new _ _ _) (Nat.le_refl _)) (A := A) (m := s.ws.length) (c := c) (news := wds s.ws) rfl ((hSL.out.below HB2.out).below ((Below.refl _ _).alloc (Nat.le_refl _) _)) (wds_one _) (by unfold maxLen; omega) (by omega) (by simp) ?_; intro v2 w2 hown hgr h4; simp only [Nat.zero_add, List.nil_append] at hown; obtain ⟨b, cap, rfl, hle, hbb, hblt, hsl⟩ := ownSls hown (by omega); have HOWN := lh hown; have HGR := lh hgr; have HSL2 := lh hsl; clear hown hgr h4 hsl)
  have c0' : w2.cell? ⟨w.heap.size, 0, none⟩ = some (.int .i64 s.base) := ((Q1.out.alloc _).grown HGR.out (by simp [Value.ownBlock] <;> omega)).cell 0
  have hx2 : w2.cell? ⟨b, i, none⟩ = some (.int .u64 x0) := by
   obtain ⟨b', o', hA, _, hc⟩ := HSL2.out.get hil
   cases hA
   have := hc i _ (wds_get HX0.out)
   rwa [Nat.zero_add] at this
  have hf2 : w2.frozen? ⟨b, i, none⟩ = false := by
   obtain ⟨_, ⟨h2, _⟩ | ⟨g', cap', cur, hv, _, h4, _⟩⟩ := HOWN.out
   ·cases h2
   ·cases hv
    exact (show Bk w2 b _ cur from h4).free i
  have icap : i < cap := by omega
  go_upto_region 5 with fail
  have hbb2 : w1.heap.size ≤ b := hbb
  have hgw : ∀ k, k < w1.heap.size → some k ≠ (Value.slice (some ⟨w1.heap.size, 0, none⟩) 0 0).ownBlock := fun k hk e => by simp [Value.ownBlock] at e; omega
  have hq3 : Bk (w2.setCell ⟨b, i, none⟩ (.int .u64 x)) w.heap.size 30 #[.int .i64 s.base, .int .i64 s.limit, .slice A s.ws.length c] := ((Q1.out.alloc _).grown HGR.out (hgw _ hz3)).far (by show w.heap.size ≠ b; omega) _
  have hz3' : Bk (w2.setCell ⟨b, i, none⟩ (.int .u64 x)) (w.heap.size + 1) 30 #[.int .i64 0, .int .i64 0, .slice none 0 0] := ((Z1.out.alloc _).grown HGR.out (hgw _ hz1)).far (by show w.heap.size + 1 ≠ b; omega) _
  have hsl3 : Sl (w2.setCell ⟨b, i, none⟩ (.int .u64 x)) 1 (some ⟨b, 0, none⟩) s.ws.length ((wds s.ws).set i (.int .u64 x)) := by
   have := ownSetAt HOWN.out hil (.int .u64 x)
   rw [Nat.zero_add] at this
   exact own_sl this
  have hbel : Below w.heap.size w (w2.setCell ⟨b, i, none⟩ (.int .u64 x)) := by
   have h1 : Below w1.heap.size w1 (w1.alloc (.cells #[] 51)) := (Below.refl _ _).alloc (Nat.le_refl _) _
   have h2 : Below w1.heap.size (w1.alloc (.cells #[] 51)) w2 := (Below.refl _ _).grown HGR.out (by simp) (fun k hk => by simp [Value.ownBlock] at hk; omega)
   exact (HB2.out.trans ((h1.trans h2).mono HB2.out.size)).setCell (p := ⟨b, i, none⟩) (by show w.heap.size ≤ b; omega) _
  have hbl3 : b < (w2.setCell ⟨b, i, none⟩ (.int .u64 x)).heap.size := by simp [World.setCell]; exact hblt
  obtain ⟨w3, hw3⟩ : ∃ w3, w2.setCell ⟨b, i, none⟩ (.int .u64 x) = w3 := ⟨_, rfl⟩
  rw [hw3] at hq3 hz3' hsl3 hbel hbl3 ⊢
  clear hw3 hx2 hf2 c0'
  have HSL3 := lh hsl3
  have HBL3 := lh hbel
  have q0 : w3.cell? ⟨w.heap.size, 0, none⟩ = some (.int .i64 s.base) := hq3.cell 0
  have q1 : w3.cell? ⟨w.heap.size, 1, none⟩ = some (.int .i64 s.limit) := hq3.cell 1
  have q2 : w3.cell? ⟨w.heap.size, 2, none⟩ = some (.slice A s.ws.length c) := hq3.cell 2
  have qf : w3.frozen? ⟨w.heap.size, 2, none⟩ = false := hq3.free 2
  have d0 : w3.cell? ⟨w.heap.size + 1, 0, none⟩ = some (.int .i64 0) := hz3'.cell 0
  have d1 : w3.cell? ⟨w.heap.size + 1, 1, none⟩ = some (.int .i64 0) := hz3'.cell 1
  have d2 : w3.cell? ⟨w.heap.size + 1, 2, none⟩ = some (.slice none 0 0) := hz3'.cell 2
  have f0 : w3.frozen? ⟨w.heap.size + 1, 0, none⟩ = false := hz3'.free 0
  have f1 : w3.frozen? ⟨w.heap.size + 1, 1, none⟩ = false := hz3'.free 1
  have f2 : w3.frozen? ⟨w.heap.size + 1, 2, none⟩ = false := hz3'.free 2
  clear hq3 hz3' hsl3 hbel
  go_wp2_with fail
  refine bodyPost_ret (v := .tuple #[.agg #[.int .i64 s.base, .int .i64 s.limit, .slice (some ⟨b, 0, none⟩) s.ws.length cap], .int .i64 0]) (by simp [results, Tryz.results142, go_sem, d0, d1, d2]) rfl ?_
  have hbb := (((HBL3.out.setCell (p := ⟨w.heap.size, 2, none⟩) (by simp) (.slice (some ⟨b, 0, none⟩) s.ws.length cap)).setCell (p := ⟨w.heap.size + 1, 0, none⟩) (by simp) (.int .i64 s.base)).setCell (p := ⟨w.heap.size + 1, 1, none⟩) (by simp) (.int .i64 s.limit)).setCell (p := ⟨w.heap.size + 1, 2, none⟩) (by simp) (.slice (some ⟨b, 0, none⟩) s.ws.length cap)
  refine ⟨some ⟨b, 0, none⟩, cap, by simp [rsV], ?_, hbb, Nw.ge _ (by omega)⟩
  refine RS.put H.out HX.out hle ?_ (fun b' o' e => by cases e; simpa [World.setCell] using hbl3)
  exact (((HSL3.out.far (by show b ≠ w.heap.size; omega) _).far (by show b ≠ w.heap.size + 1; omega) _).far (by show b ≠ w.heap.size + 1; omega) _).far (by show b ≠ w.heap.size + 1; omega) _
end
end Go.Proofs.YtjpaogapclfajaaGreat
namespace Go.Proofs.YtjpaogapclfajaaGreat
open Go.RowKit Go.Sort
set_option maxRecDepth 100000
theorem MapT.ne_bk {P : Program} {k e t : TypeId} {w : World} {b n g : Nat} {f : Int → Bool} {cs : Array Value} (h : MapT P k e w b n f) (hk : Bk w g t cs) : g ≠ b := fun e => by
 subst e
 obtain ⟨D, ⟨es, clock, h1, _⟩, _⟩ := h
 unfold Bk at hk
 rw [h1] at hk
 cases hk
section
variable {w w' : World} {B g1 g2 gt b n : Nat} {V1 V2 : Value} {m : Mm} {cs : List Int}
end
end Go.Proofs.YtjpaogapclfajaaGreat
