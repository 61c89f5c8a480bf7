/- The laws of chapter 11: what lies in memory behind Build. (printed by gen/mk11.py) -/
import Derived.Test.YtjpaogapclfajaaGreatMonoP
import Derived.Test.YtjpaogapclfajaaGreatBuild1
import Derived.Test.YtjpaogapclfajaaGreatAwk2
import Derived.Test.YtjpaogapclfajaaGreatRMk3
import Derived.Test.YtjpaogapclfajaaGreatRMk4
import Derived.Test.YtjpaogapclfajaaGreatListM
import Derived.Test.YtjpaogapclfajaaGreatIntsM
namespace Go.Proofs.YtjpaogapclfajaaGreat
set_option linter.unusedVariables false
set_option linter.unusedSimpArgs false
set_option linter.unusedSectionVars false
open Go.RowKit Go.Sort
attribute [local go_sem] Oper.semAt_some onlyN_normal
set_option maxRecDepth 100000

/-- what lies in memory behind Build: the program's memory, the reference's, the addresses -/
structure Env11 (w wn : World) (B bm g1 g2 : Nat) (V1 V2 : Value) (A1 : Option Addr) (e1 : Nat) (A2 : Option Addr) (e2 : Nat) (Aq : Option Addr) (cq : Nat) (q : Mm × List Int) : Prop where
  bl : Below w.heap.size w wn
  mr : MR wn B g1 g2 V1 V2 q.1
  rm : RM wn q.1 A1 e1 A2 e2
  is : IS wn q.2 Aq cq
  kb : Bk wn bm 27 #[.pointer (some ⟨g1, 0, none⟩), .pointer (some ⟨g2, 0, none⟩)]
  kr : Bk wn (bm + 1) 32 #[.int .i64 q.1.old.base, .int .i64 q.1.old.limit, .slice A1 q.1.old.ws.length e1, .int .i64 q.1.yng.base, .int .i64 q.1.yng.limit, .slice A2 q.1.yng.ws.length e2]
  ap : ∀ b o, Aq = some ⟨b, o, none⟩ → b ≠ g1 ∧ ¬ memS V1 V2 b
  al : ∀ b o, Aq = some ⟨b, o, none⟩ → b < wn.heap.size
section
variable {w wn w' : World} {B bm g1 g2 : Nat} {V1 V2 : Value} {A1 A2 Aq : Option Addr} {e1 e2 cq : Nat} {q : Mm × List Int}
theorem Env11.below (h : Env11 w wn B bm g1 g2 V1 V2 A1 e1 A2 e2 Aq cq q) (hb : Below wn.heap.size wn w') : Env11 w w' B bm g1 g2 V1 V2 A1 e1 A2 e2 Aq cq q :=
  ⟨h.bl.trans (hb.mono h.bl.size), h.mr.below hb, h.rm.below hb, h.is.below hb, h.kb.below hb h.kb.lt, h.kr.below hb h.kr.lt, h.ap, fun b o e => Nat.lt_of_lt_of_le (h.al b o e) hb.size⟩
theorem Env11.start {w2 : World} {p : Mm × List Int} (hb : Below w.heap.size w w2) (hmr : MR w2 B g1 g2 V1 V2 q.1) (hrm : RM w2 q.1 A1 e1 A2 e2) (his : IS w2 q.2 Aq cq) (hap : ∀ b o, A1 = some ⟨b, o, none⟩ ∨ A2 = some ⟨b, o, none⟩ ∨ Aq = some ⟨b, o, none⟩ → b < w2.heap.size ∧ b ≠ g1 ∧ ¬ memS V1 V2 b) :
    Env11 w ((w2.alloc (.cells #[.pointer (some ⟨g1, 0, none⟩), .pointer (some ⟨g2, 0, none⟩)] 27)).alloc (.cells #[.int .i64 q.1.old.base, .int .i64 q.1.old.limit, .slice A1 q.1.old.ws.length e1, .int .i64 q.1.yng.base, .int .i64 q.1.yng.limit, .slice A2 q.1.yng.ws.length e2] 32)) B w2.heap.size g1 g2 V1 V2 A1 e1 A2 e2 Aq cq q := by
  have hal : Below w2.heap.size w2 ((w2.alloc (.cells #[.pointer (some ⟨g1, 0, none⟩), .pointer (some ⟨g2, 0, none⟩)] 27)).alloc (.cells #[.int .i64 q.1.old.base, .int .i64 q.1.old.limit, .slice A1 q.1.old.ws.length e1, .int .i64 q.1.yng.base, .int .i64 q.1.yng.limit, .slice A2 q.1.yng.ws.length e2] 32)) := ((Below.refl _ _).alloc (Nat.le_refl _) _).alloc (by simp) _
  exact ⟨hb.trans (hal.mono hb.size), hmr.below hal, hrm.below hal, his.below hal, (Bk.new _ _ _).alloc _, Bk.here _ _ _ (by simp), fun b o e => (hap b o (.inr (.inr e))).2, fun b o e => Nat.lt_of_lt_of_le (hap b o (.inr (.inr e))).1 hal.size⟩
/-- Mark, at the old space -/
theorem Env11.mark (h : Env11 w wn B bm g1 g2 V1 V2 A1 e1 A2 e2 Aq cq q) (hB : B ≤ wn.heap.size) {A : Option Addr} {c : Nat} {l : List Int} (hs : Sl wn 1 A l.length (wds l)) (hll : l.length ≤ 1000) (hcr : l.length ≤ c) (hu : ∀ x ∈ l, U64 x) (hA : ∀ b o, A = some ⟨b, o, none⟩ → b < wn.heap.size) :
    Calls Tryz.prog 16 #[.pointer (some ⟨g1, 0, none⟩), .slice A l.length c] wn (MarkPost wn (Mm.one q.1.old) ((Mm.one q.1.old).marks l)) :=
  Mark_all h.mr.o h.mr.ok.ob h.mr.ok.ol hB hs hcr (by omega) hu hA (by have := h.mr.ok.o.lim; have := h.mr.ok.ob; have := h.mr.ok.ol; omega)
theorem Env11.len (h : Env11 w wn B bm g1 g2 V1 V2 A1 e1 A2 e2 Aq cq q) : q.1.old.ws.length ≤ 16777216 := by have := h.mr.ok.o.lim; have := h.mr.ok.ob; have := h.mr.ok.ol; omega
theorem Env11.lt (h : Env11 w wn B bm g1 g2 V1 V2 A1 e1 A2 e2 Aq cq q) : B ≤ wn.heap.size := by have := h.mr.o.ge; have := h.mr.o.hd.lt; omega
end
theorem marks_ne {m : Mm} {roots sg wl : List Int} (h : m.MarksI roots sg wl) (a : Int) : (!sg.contains a && wl.contains a) = wl.contains a := by
  cases hw : wl.contains a with
  | false => simp
  | true =>
    have hm : a ∈ wl := by simpa using hw
    have : a ∉ sg := fun e => ((h.wk a).1 hm).2.1 ((h.rch a).1 e)
    have hs : sg.contains a = false := by simpa using this
    rw [hs]; rfl
theorem marks_rg {m : Mm} (ok : m.Ok) {roots sg wl : List Int} (h : m.MarksI roots sg wl) : ∀ a ∈ sg ++ wl, 0 ≤ a ∧ a ≤ 4294967296 := fun a ha => Mm.res_has ok (Mm.hdr_has (h.hdr a (List.mem_append.1 ha)))
theorem marks_len {m : Mm} {roots sg wl : List Int} (h : m.MarksI roots sg wl) : (sg ++ wl).length ≤ m.size := by
  have := nodup_len (sg ++ wl) _ h.disj fun y hy => m.all_has y (Mm.hdr_has (h.hdr y (List.mem_append.1 hy)))
  simpa [Mm.size] using this
theorem rts1_len (l ch : List Int) : (rts1 l ch).length = ch.length := by simp [rts1]
end Go.Proofs.YtjpaogapclfajaaGreat
