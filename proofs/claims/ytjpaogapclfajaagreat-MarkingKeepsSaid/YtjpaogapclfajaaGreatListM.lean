/- Package marking: the marked objects as a sorted list. Package marking: Keep. -/
import Derived.Test.YtjpaogapclfajaaGreatSortK
import Derived.Test.YtjpaogapclfajaaGreatStrP
import Derived.Test.YtjpaogapclfajaaGreatMarkW
namespace Go.Proofs.YtjpaogapclfajaaGreat
set_option linter.unusedVariables false
set_option linter.unusedSimpArgs false
set_option linter.unusedSectionVars false
open Go.RowKit Go.Maps Go.Sort Go.Shelf
set_option maxRecDepth 100000

theorem sortsA (m : Nat) : AnyZI.SortsIn Tryz.prog Tryz.sortedA_ren Fence.wide m :=
  ⟨fun blk off cap ss W hH hblk hsz => callsIn_wide.2 (AnyM.slices_Sort_int Tryz.sortA blk off cap ss W hH hblk hsz),
   fun p cap W => callsIn_wide.2 (AnyM.slices_Sort_int_none Tryz.sortA p cap W)⟩
theorem MapI.keys {P : Program} {k e : TypeId} {w : World} {b n : Nat} {f : Int → Option Int} {cs : List Int} (h : MapI P k e w b n f) (hf : ∀ x, (f x).isSome = cs.contains x) (hk : P.underlying k = some (.int .i64)) (hs : cs.Pairwise (· < ·)) (hw : ∀ x ∈ cs, (Lit.int .i64 x).wf = true) :
    ∃ D : DataW Unit, w.ownsMap P k (plainElem P e) b n D ∧ cs.Perm (intKeys D) ∧ Maps.size D = cs.length := by
  obtain ⟨D, hown, hD⟩ := h
  have hown2 := hown
  obtain ⟨es, rfl, hpw, _⟩ := hown.entries (int_keyed hk)
  obtain ⟨es', hD', hko⟩ := hown2.keysOf
  obtain rfl : es = es' := by simpa using hD'
  have hkeys : ∀ p ∈ es, ∃ x, p.1 = .int .i64 x := fun p hp => by obtain ⟨v, hv⟩ := hko p hp; obtain ⟨x, _, hx, _⟩ := Maps.keyOf_i64 hk hv; exact ⟨x, hx⟩
  have hperm : cs.Perm (intKeys (.map es)) := perm_intKeys hpw hkeys (hs.imp fun h e => by subst e; exact absurd h (Int.lt_irrefl _)) fun x => by
    by_cases hx : (Lit.int .i64 x).wf = true
    · rw [(hD x hx).1, hf x]; simp
    · constructor
      · intro hm; exact absurd (hw x hm) hx
      · intro hm
        rw [Maps.has_eq, List.any_eq_true] at hm
        obtain ⟨p, hp, hsk⟩ := hm
        obtain ⟨v, hv⟩ := hko p hp
        obtain ⟨y, _, hy, hwy⟩ := Maps.keyOf_i64 hk hv
        rw [hy] at hsk
        have : y = x := by simpa [Lit.sameKey] using hsk
        rw [this] at hwy
        exact absurd hwy hx
  refine ⟨_, hown, hperm, ?_⟩
  rw [hperm.length_eq]
  simp [Maps.size, intKeys]
theorem mergeSort_self {cs ss : List Int} (hs : cs.Pairwise (· < ·)) (h : ss.Perm cs) : ss.mergeSort (fun x y => decide (x ≤ y)) = cs := by
  rw [show ss.mergeSort (fun x y => decide (x ≤ y)) = cs.mergeSort (fun x y => decide (x ≤ y)) from mergeSort_of_perm_i h]
  exact List.mergeSort_of_pairwise (hs.imp fun h => by simp; omega)
theorem mkF_some (sg wl : List Int) (x : Int) : (mkF sg wl x).isSome = (sg ++ wl).contains x := by
  unfold mkF
  cases h1 : sg.contains x with
  | true => rw [if_pos rfl]; simp at h1; simp [h1]
  | false =>
    cases h2 : wl.contains x with
    | true => simp at h1 h2 ⊢; simp [h2]
    | false => simp at h1 h2 ⊢; simp [h1, h2]
def SrtP (w : World) (l : List Int) (e : Ending) (w' : World) : Prop := ∃ v, e = .returned v ∧ w'.ownsRow w.heap.size 3 1 v l.length (ints l) ∧ Below w.heap.size w w'
set_option maxHeartbeats 1000000 in
theorem List_any {w : World} {Bm g b : Nat} {m : Mm} {sg wl : List Int} (h : MkR w Bm g b m sg wl) (hnd : (sg ++ wl).Nodup) (hw : ∀ x ∈ sg ++ wl, (Lit.int .i64 x).wf = true) (hl : (sg ++ wl).length ≤ 100000000) :
    Calls Tryz.prog 25 #[.pointer (some ⟨g, 0, none⟩)] w (SrtP w (srtI (sg ++ wl))) := by
  have hs := srtI_lt hnd
  have hpm := srtI_perm (sg ++ wl)
  have hlen := srtI_len (sg ++ wl)
  have hfc : ∀ x, (mkF sg wl x).isSome = (srtI (sg ++ wl)).contains x := fun x => (mkF_some sg wl x).trans (contains_perm hpm.symm x)
  obtain ⟨D0, hown, hperm, hsz⟩ := h.mp.keys hfc Tryz.underlying3 hs (fun x hx => hw x (hpm.mem_iff.1 hx))
  generalize srtI (sg ++ wl) = cs at *
  have hmax : Maps.size D0 ≤ maxLen := by unfold maxLen; omega
  have hbytes : Maps.size D0 * 8 ≤ 140737488355328 := by omega
  have c0 : w.cell? ⟨g, 0, none⟩ = some (.map (some b)) := h.hd.cell 0
  have HS := Lib.hid hs
  have HP := Lib.hid hperm
  refine (callsIn_wide (n := 6)).1 ?_
  have hbl := hown.lt
  have hseq : SeqGives Fence.wide 2 Tryz.prog 121 #[.pointer (some ⟨w.heap.size, 0, none⟩)] encZ (fun ss => ss.Perm (intKeys D0)) (Maps.size D0) (w.alloc (.cells #[.map (some b)] 101)) :=
    AnyZI.keys_gives (ρ := Tryz.keysA_ren) { Tryz.keysA with } Fence.wide _ trivial rfl (by omega) w.heap.size b _ D0 _ (by simp) (by simp) (by
      obtain ⟨es, clock, hb, Ft, hs, hD⟩ := hown
      exact ⟨es, clock, (Below.heap_alloc _ _ b hbl).trans hb, Ft, hs, hD⟩)
  have cK : ∀ mb W, CallsIn Fence.wide 5 Tryz.prog 69 #[.map mb] W fun e w' => e = .returned (.func (.func 121) #[] #[.pointer (some ⟨W.heap.size, 0, none⟩)]) ∧ w' = W.alloc (.cells #[.map mb] 101) := fun mb W => AnyZI.keys_in Tryz.keysA Fence.wide 5 trivial rfl mb W
  have cS := AnyZI.sorted_in Tryz.sortedA Fence.wide 5 trivial trivial trivial trivial rfl (by omega) (sortsA _) (enters_of Tryz.func120 (by kernel_rfl) rfl) 121 #[.pointer (some ⟨w.heap.size, 0, none⟩)] trivial (enters_of Tryz.func121 (by kernel_rfl) rfl) _ _ hmax hbytes _ hseq
  change CallsIn _ _ Tryz.prog 68 _ _ _ at cS
  have hfK : Fence.wide.fn 69 := trivial
  have hfS : Fence.wide.fn 68 := trivial
  clear h hown hs hw hperm hsz hpm hlen hfc hseq
  refine callsIn_of_wp Tryz.func25 rfl trivial ?_ rfl
  simp only [Tryz.ntmps25, List.size_toArray, List.length_cons, List.length_nil, Nat.reduceAdd, Nat.reduceSub, Array.replicate_succ, Array.replicate_zero, List.push_toArray, List.append_toArray, List.nil_append, List.cons_append]
  gi_wp2_with (first
    | (gi_at_call 69; refine (cK _ _).mono ?_; rintro e w' ⟨rfl, rfl⟩)
    | (gi_at_call 68; refine cS.mono ?_; rintro e w' ⟨v, ss, rfl, hS, hrow, hnil, hb⟩))
  go_ret
  have hp := hS.trans HP.out.symm
  have hr : w'.ownsRow w.heap.size 3 1 v ss.length ((ss.mergeSort (fun x y => decide (x ≤ y))).map encZ) := ownsRow_base_a hrow (by simp)
  rw [mergeSort_self HS.out hp, hp.length_eq] at hr
  exact ⟨v, rfl, hr, ((Below.refl _ w).alloc (Nat.le_refl _) _).trans (hb.mono (by simp))⟩
end Go.Proofs.YtjpaogapclfajaaGreat
namespace Go.Proofs.YtjpaogapclfajaaGreat
set_option linter.unusedVariables false
set_option linter.unusedSimpArgs false
set_option linter.unusedSectionVars false
open Go.RowKit Go.Maps
attribute [local go_sem] Oper.semAt_some
set_option maxRecDepth 100000

theorem SpR.kpMk {w w' : World} {B Bm g' g b n : Nat} {V : Value} {s : Spc} {f : Int → Option Int} {ws : Int} (h : SpR w B g' s V) (hm : MkR0 w Bm g b n f ws) (hk : Kp (fun k => k = g ∨ k = b) w w') : SpR w' B g' s V := by
  refine h.kp hk (fun e => ?_) fun k hk' e => ?_
  · rcases e with e | e
    · exact Bk.neT h.hd hm.hd (by decide) e
    · exact hm.mp.ne_bk h.hd e
  · rcases e with rfl | rfl
    · exact h.own_ne hm.hd (by decide) hk'
    · exact hm.mp.ne_own h.own hk'
/-- the weakly marked objects behind a word, and the answer -/
def Mm.kpW (m : Mm) (sg wl : List Int) (o : Option (Option Int)) : List Int := match o with
  | some (some a) => m.keepW sg wl a
  | _ => wl
def Mm.kpQ (m : Mm) (sg wl : List Int) (o : Option (Option Int)) : Bool := match o with
  | some (some a) => Keeps sg (m.keepW sg wl a) a
  | _ => false
theorem Mm.rfr_rg {m : Mm} (ok : m.Ok) {x a : Int} (h : m.rfr x = some (some a)) : 0 ≤ a ∧ a ≤ 4294967296 := Mm.res_has ok (Mm.hdr_has (Mm.rfr_hdr h).1)
section
variable {w : World} {B Bm g g' b : Nat} {V : Value} {s : Spc} {sg wl : List Int}
set_option maxHeartbeats 1000000 in
theorem Keep_any (h : SpR w B g' s V) (hb0 : s.base = 0) (hl0 : s.limit ≤ 16777216) (hB : B ≤ w.heap.size) (hm : MkR w Bm g b (Mm.one s) sg wl) (hl : (sg ++ wl).length ≤ 100000000) {x : Int} (hx : U64 x) :
    Calls Tryz.prog 30 #[.pointer (some ⟨g, 0, none⟩), .pointer (some ⟨g', 0, none⟩), .int .u64 x] w (KeepP w Bm g b (Mm.one s) sg wl ((Mm.one s).kpW sg wl ((Mm.one s).rfr x)) ((Mm.one s).kpQ sg wl ((Mm.one s).rfr x))) := by
  have cM := memory_any h hb0 hl0 hB
  have HM := Lib.hid hm
  have OK := Lib.hid (Mm.one_ok h.ok hb0 hl0)
  have HL := Lib.hid hl
  obtain ⟨m, hmm⟩ : ∃ m, m = Mm.one s := ⟨_, rfl⟩
  unfold MemoryP at cM
  simp only [← hmm] at cM HM OK ⊢
  obtain ⟨o, ho⟩ : ∃ o, o = m.rfr x := ⟨_, rfl⟩
  rw [← ho]
  have HO := Lib.hid ho.symm
  clear h hm hmm ho hb0 hl0 hl
  go_enter Tryz.func30, Tryz.ntmps30
  go_wp2_with fail
  refine cM.mono ?_
  rintro e w1 ⟨gy, rfl, hmr, -, hb1⟩
  have HMR1 := Lib.hid hmr
  have HB1 := Lib.hid hb1
  have HM1 := Lib.hid (MkR0.below HM.out hb1)
  clear hmr hb1 cM
  go_upto_region 2 with fail
  have hbx : Below w1.heap.size w1 (w1.alloc (.cells #[.pointer (some ⟨g', 0, none⟩), .pointer (some ⟨gy, 0, none⟩)] 27)) := (Below.refl _ _).alloc (Nat.le_refl _) _
  have HK : Hid (Bk (w1.alloc (.cells #[.pointer (some ⟨g', 0, none⟩), .pointer (some ⟨gy, 0, none⟩)] 27)) w1.heap.size 27 #[.pointer (some ⟨g', 0, none⟩), .pointer (some ⟨gy, 0, none⟩)]) := Lib.hid (Bk.new _ _ _)
  have HMR2 := Lib.hid (HMR1.out.below hbx)
  have HM2 := Lib.hid (MkR0.below HM1.out hbx)
  have HB2 := Lib.hid (HB1.out.trans (hbx.mono HB1.out.size))
  clear hbx HMR1 HM1 HB1
  generalize w1.alloc (.cells #[.pointer (some ⟨g', 0, none⟩), .pointer (some ⟨gy, 0, none⟩)] 27) = w2 at *
  generalize w1.heap.size = gx at *
  have c0 : w2.cell? ⟨gx, 0, none⟩ = some (.pointer (some ⟨g', 0, none⟩)) := HK.out.cell 0
  have c1 : w2.cell? ⟨gx, 1, none⟩ = some (.pointer (some ⟨gy, 0, none⟩)) := HK.out.cell 1
  have cR := refers_any HMR2.out hx
  rw [HO.out] at cR
  rcases o with _ | _ | a
  · unfold rfrV at cR
    dsimp only at cR
    go_wp2_with fail
    refine cR.mono ?_
    rintro e w3 ⟨rfl, hb3⟩
    have HM3 := Lib.hid (MkR0.below HM2.out hb3)
    have HB3 := Lib.hid (HB2.out.trans (hb3.mono HB2.out.size))
    clear hb3 cR c0 c1
    go_wp2_with fail
    go_ret
    exact ⟨rfl, HM3.out, Kp.of_below HB3.out⟩
  · unfold rfrV at cR
    dsimp only at cR
    go_wp2_with fail
    refine cR.mono ?_
    rintro e w3 ⟨rfl, hb3⟩
    have HM3 := Lib.hid (MkR0.below HM2.out hb3)
    have HB3 := Lib.hid (HB2.out.trans (hb3.mono HB2.out.size))
    clear hb3 cR c0 c1
    go_wp2_with fail
    go_ret
    exact ⟨rfl, HM3.out, Kp.of_below HB3.out⟩
  · unfold rfrV at cR
    dsimp only at cR
    have hrg := Mm.rfr_rg OK.out HO.out
    go_wp2_with fail
    refine cR.mono ?_
    rintro e w3 ⟨rfl, hb3⟩
    have hk3 := HK.out.below hb3 HK.out.lt
    have HM3 := Lib.hid (MkR0.below HM2.out hb3)
    have HB3 := Lib.hid (HB2.out.trans (hb3.mono HB2.out.size))
    have cK := keep_any (HMR2.out.below hb3) (show MkR w3 Bm g b m sg wl from HM3.out) HL.out a (by omega)
    clear hb3 cR c0 c1 HMR2 HM2 HB2 hrg
    have c0 : w3.cell? ⟨gx, 0, none⟩ = some (.pointer (some ⟨g', 0, none⟩)) := hk3.cell 0
    have c1 : w3.cell? ⟨gx, 1, none⟩ = some (.pointer (some ⟨gy, 0, none⟩)) := hk3.cell 1
    clear hk3
    go_wp2_with fail
    refine cK.mono ?_
    rintro e w4 ⟨rfl, hm4, hk4⟩
    have HM4 := Lib.hid hm4
    have HK4 := Lib.hid hk4
    clear hm4 hk4 cK c0 c1
    go_wp2_with fail
    go_ret
    exact ⟨rfl, HM4.out, (Kp.of_below HB3.out).trans HK4.out fun _ _ h => h⟩
end
end Go.Proofs.YtjpaogapclfajaaGreat
