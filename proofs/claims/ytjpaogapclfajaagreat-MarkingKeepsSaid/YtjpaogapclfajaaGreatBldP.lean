/- The operations that build a space (law 11), as plain mathematics. -/
import Derived.Test.YtjpaogapclfajaaGreatMarkP
import Derived.Test.YtjpaogapclfajaaGreatAlcP
import Derived.Test.YtjpaogapclfajaaGreatNew
namespace Go.Proofs.YtjpaogapclfajaaGreat
set_option linter.unusedVariables false
set_option linter.unusedSimpArgs false
set_option linter.unusedSectionVars false

structure Op1 where
  k : Int
  h : Hdr
  a : Int
  b : Int
  i : Int
  w : Int
structure Op1.Ok (o : Op1) : Prop where
  k0 : -9223372036854775808 ≤ o.k
  k1 : o.k ≤ 9223372036854775807
  a0 : -9223372036854775808 ≤ o.a
  a1 : o.a ≤ 9223372036854775807
  b0 : -9223372036854775808 ≤ o.b
  b1 : o.b ≤ 9223372036854775807
  i0 : -9223372036854775808 ≤ o.i
  i1 : o.i ≤ 9223372036854775807
  w : U64 o.w
def Op1.cells (o : Op1) : Array Value := #[.int .i64 o.k, .int .i64 o.h.k, .int .i64 o.h.c, .int .i64 o.h.f, .int .i64 o.a, .int .i64 o.b, .int .i64 o.i, .int .u64 o.w]
/-- the address that an operation chooses -/
def pick1 (l : List Int) (n : Int) : Int := if l = [] ∨ n < 0 then 0 else l.getD (n % (l.length : Int)).toNat 0
/-- the memory and the addresses of the objects behind an operation -/
def st1 (p : Mm × List Int) (x : Op1) : Mm × List Int :=
  if x.k = 0 then
    if x.h.k = 4 then p
    else ((p.1.alloc false x.h ⟨1, p.2.length + 1⟩).2.1, if (p.1.alloc false x.h ⟨1, p.2.length + 1⟩).1 = 0 then p.2 ++ [(p.1.alloc false x.h ⟨1, p.2.length + 1⟩).2.2] else p.2)
  else if x.k = 1 then ((p.1.setF (pick1 p.2 x.a) x.i (frW (pick1 p.2 x.b))).2, p.2)
  else if x.k = 2 then ((p.1.setF (pick1 p.2 x.a) x.i x.w).2, p.2)
  else if x.k = 3 then ((p.1.toStub (pick1 p.2 x.a) 2 (IntKind.u64.wrap x.i)).2, p.2)
  else if x.k = 4 then ((p.1.toFwd (pick1 p.2 x.a) (pick1 p.2 x.b)).2, p.2)
  else p
def bld1 (l : List Op1) : Mm × List Int := l.foldl st1 (Mm.new 600, [])
/-- the words that are chosen -/
def rts1 (at_ choices : List Int) : List Int := choices.map fun c => if 0 ≤ c ∧ at_ ≠ [] then frW (pick1 at_ c) else 5
theorem rts1_u (at_ choices : List Int) : ∀ x ∈ rts1 at_ choices, U64 x := by
  intro x hx
  obtain ⟨c, _, rfl⟩ := List.mem_map.1 hx
  split
  · exact frW_u _
  · exact ⟨by decide, by decide⟩
theorem wrapU_u (i : Int) : U64 (IntKind.u64.wrap i) := by
  have e : IntKind.u64.wrap i = i % 18446744073709551616 := by
    simp only [IntKind.wrap, IntKind.signed, IntKind.bits]
    simp
  rw [e]
  unfold U64
  omega
theorem bld1_take {l : List Op1} {j : Nat} {x : Op1} (h : l[j]? = some x) : bld1 (l.take (j + 1)) = st1 (bld1 (l.take j)) x := by
  unfold bld1
  rw [List.take_add_one, h, List.foldl_append]
  rfl
/-- the addresses: no more than the operations, below 2^24 -/
structure Bld (p : Mm × List Int) (n : Nat) : Prop where
  ok : p.1.Ok
  len : p.2.length ≤ n
  rg : ∀ a ∈ p.2, 0 ≤ a ∧ a ≤ 16777216
theorem pick1_rg {p : Mm × List Int} {n : Nat} (h : Bld p n) (c : Int) : 0 ≤ pick1 p.2 c ∧ pick1 p.2 c ≤ 16777216 := by
  unfold pick1
  split
  · omega
  · rw [List.getD_eq_getElem?_getD]
    cases hx : p.2[(c % (p.2.length : Int)).toNat]? with
    | none => simp
    | some y => exact h.rg y (List.mem_of_getElem? hx)
theorem Bld.nil : Bld (Mm.new 600, []) 0 := ⟨Mm.new_ok 600, Nat.le_refl _, fun a h => by cases h⟩
theorem Bld.step {p : Mm × List Int} {n : Nat} (h : Bld p n) (x : Op1) (hok : (st1 p x).1.Ok) : Bld (st1 p x) (n + 1) := by
  refine ⟨hok, ?_, ?_⟩
  · have := h.len
    unfold st1
    split
    · split
      · omega
      · dsimp only
        split
        · simp; omega
        · omega
    · split
      · show p.2.length ≤ _; omega
      · split
        · show p.2.length ≤ _; omega
        · split
          · show p.2.length ≤ _; omega
          · split
            · show p.2.length ≤ _; omega
            · omega
  · unfold st1
    split
    · split
      · exact h.rg
      · dsimp only
        split
        · rename_i he
          intro a ha
          rcases List.mem_append.1 ha with ha | ha
          · exact h.rg a ha
          · have ha := List.mem_singleton.1 ha
            unfold Mm.alloc at ha he
            rw [if_neg (by decide)] at ha he
            rcases p.1.old.alloc_cases x.h ⟨1, p.2.length + 1⟩ with h1 | ⟨_, _, _, h1⟩
            · exact absurd he h1.1
            · rw [h1] at ha
              have h2 := h.ok.o.lim
              have h3 := h.ok.ol
              have h4 := h.ok.ob
              simp only [Spc.top] at ha
              omega
        · exact h.rg
    · split
      · exact h.rg
      · split
        · exact h.rg
        · split
          · exact h.rg
          · split
            · exact h.rg
            · exact h.rg
end Go.Proofs.YtjpaogapclfajaaGreat
