/- Parts of the proof: R12b. -/
import Derived.Test.YtjpaogapclfajaaGreatBcA
import Derived.Test.YtjpaogapclfajaaGreatBc25
import Derived.Test.YtjpaogapclfajaaGreatBcR12a
set_option linter.unusedVariables false
set_option linter.unusedSimpArgs false
set_option linter.unusedSectionVars false
namespace Go.Proofs.YtjpaogapclfajaaGreat
open Go.RowKit Go.Sort
attribute [local go_sem] Oper.semAt_some onlyN_normal
set_option maxRecDepth 100000
def RCmpP (w : World) (s : Spc) (A : Option Addr) (c : Nat) (ms roots : List Int) (e : Ending) (w' : World) : Prop := Below w.heap.size w w' ∧ match s.plan ms, (Mm.one s).updL s.base ms roots with
 | some _, some out => ∃ Aw cw v, e = .returned (.tuple #[.agg #[.int .i64 s.base, .int .i64 s.limit, .slice Aw (ms.flatMap ((Mm.one s).rmovd s.base ms)).length cw], v, .int .i64 (ms.length : Int), .int .i64 0]) ∧ w'.ownsRow w.heap.size 51 1 (.slice Aw (ms.flatMap ((Mm.one s).rmovd s.base ms)).length cw) (ms.flatMap ((Mm.one s).rmovd s.base ms)).length (wds (ms.flatMap ((Mm.one s).rmovd s.base ms))) ∧ w'.ownsRow w.heap.size 51 1 v out.length (wds out)
 | _, _ => e = .returned (.tuple #[.agg #[.int .i64 s.base, .int .i64 s.limit, .slice A s.ws.length c], .slice none 0 0, .int .i64 0, .int .i64 11])
theorem RSLoad_val {w : World} {s : Spc} {A : Option Addr} {c : Nat} (h : RS w s A c) {a y : Int} (hy : s.at_ a = some y) : Calls Tryz.prog 72 #[.agg #[.int .i64 s.base, .int .i64 s.limit, .slice A s.ws.length c], .int .i64 a] w fun e w' => e = .returned (.tuple #[.int .u64 y, .int .i64 0]) ∧ Below w.heap.size w w' := by
 have := RSLoad_any h a
 rw [ldV_eq, hy] at this
 exact this
theorem rwl_len (s : Spc) (b : Int) (ms : List Int) : ∀ l : List Int, (l.flatMap ((Mm.one s).rmovd b ms)).length ≤ 32 * l.length
 | [] => Nat.le_refl _
 | a :: l => by
  have h1 := rwl_len s b ms l
  have h2 := wH_bound ((Mm.one s).hdr a).2
  rw [List.flatMap_cons, List.length_append, List.length_cons]
  have h3 : ((Mm.one s).rmovd b ms a).length = (wH ((Mm.one s).hdr a).2).toNat := by simp [Mm.rmovd]
  omega
theorem set3_bk {w : World} {g : Nat} {t : TypeId} {x0 x1 x2 : Value} (h : Bk w g t #[x0, x1, x2]) (y0 y1 y2 : Value) : Bk (((w.setCell ⟨g, 0, none⟩ y0).setCell ⟨g, 1, none⟩ y1).setCell ⟨g, 2, none⟩ y2) g t #[y0, y1, y2] := ((h.set 0 y0).set 1 y1).set 2 y2
section
variable {w : World} {s : Spc} {A A1 A2 Ar : Option Addr} {c c1 c2 cr : Nat} {ms roots : List Int}
set_option maxHeartbeats 8000000 in
theorem RCompact_any (h : RS w s A c) (hb0 : s.base = 0) (hl0 : s.limit ≤ 16777216) (hm : IS w ms A1 c1) (hml : ms.length ≤ 16777216) (hinc : ms.Pairwise (· < ·)) (hr : Sl w 1 Ar roots.length (wds roots)) (hrc : roots.length ≤ cr) (hru : ∀ x ∈ roots, U64 x) (hrl : roots.length ≤ 100000000) :
  Calls Tryz.prog 40 #[.agg #[.int .i64 s.base, .int .i64 s.limit, .slice A s.ws.length c], .slice A1 ms.length c1, .slice Ar roots.length cr] w (RCmpP w s A c ms roots) := by
 have hHB : Below w.heap.size w ((w.alloc (.cells #[.int .i64 s.base, .int .i64 s.limit, .slice A s.ws.length c] 30)).alloc (.cells #[.int .i64 0, .int .i64 0, .slice none 0 0] 30)) := ((Below.refl _ _).alloc (Nat.le_refl _) _).alloc (by simp) _
 have HB := lh hHB
 have HQ : Hid (Bk ((w.alloc (.cells #[.int .i64 s.base, .int .i64 s.limit, .slice A s.ws.length c] 30)).alloc (.cells #[.int .i64 0, .int .i64 0, .slice none 0 0] 30)) w.heap.size 30 #[.int .i64 s.base, .int .i64 s.limit, .slice A s.ws.length c]) := lh ((Bk.new _ _ _).alloc _)
 have HQ6 : Hid (Bk ((w.alloc (.cells #[.int .i64 s.base, .int .i64 s.limit, .slice A s.ws.length c] 30)).alloc (.cells #[.int .i64 0, .int .i64 0, .slice none 0 0] 30)) (w.heap.size + 1) 30 #[.int .i64 0, .int .i64 0, .slice none 0 0]) := lh (Bk.here _ _ _ (by simp))
 have H := lh (h.below hHB)
 have HM := lh (hm.below hHB)
 have HRT := lh (hr.below hHB)
 have HRU := lh hru
 have HB0 := lh hb0
 have cP := RPlan_any H.out HM.out hml hl0
 have hcap := hm.cap
 unfold RPlanP at cP
 obtain ⟨Q, hQ⟩ : ∃ Q, Q = RCmpP w s A c ms roots := ⟨_, rfl⟩
 rw [← hQ]
 have q0 : ((w.alloc (.cells #[.int .i64 s.base, .int .i64 s.limit, .slice A s.ws.length c] 30)).alloc (.cells #[.int .i64 0, .int .i64 0, .slice none 0 0] 30)).cell? ⟨w.heap.size, 0, none⟩ = some (.int .i64 s.base) := HQ.out.cell 0
 have q1 : ((w.alloc (.cells #[.int .i64 s.base, .int .i64 s.limit, .slice A s.ws.length c] 30)).alloc (.cells #[.int .i64 0, .int .i64 0, .slice none 0 0] 30)).cell? ⟨w.heap.size, 1, none⟩ = some (.int .i64 s.limit) := HQ.out.cell 1
 have q2 : ((w.alloc (.cells #[.int .i64 s.base, .int .i64 s.limit, .slice A s.ws.length c] 30)).alloc (.cells #[.int .i64 0, .int .i64 0, .slice none 0 0] 30)).cell? ⟨w.heap.size, 2, none⟩ = some (.slice A s.ws.length c) := HQ.out.cell 2
 cases hpl : s.plan ms with
 | none =>
  rw [hpl] at cP
  dsimp only at cP
  have HQ0 : Hid (∀ w', Below w.heap.size w w' → Q (.returned (.tuple #[.agg #[.int .i64 s.base, .int .i64 s.limit, .slice A s.ws.length c], .slice none 0 0, .int .i64 0, .int .i64 11])) w') := lh fun w' hb => by
   rw [hQ]
   unfold RCmpP
   rw [hpl]
   exact ⟨hb, rfl⟩
  clear hQ hpl h hm hr hru hHB hb0 hinc
  go_enter Tryz.func40, Tryz.ntmps40
  go_upto_region 1 with fail
  generalize ((w.alloc (.cells #[.int .i64 s.base, .int .i64 s.limit, .slice A s.ws.length c] 30)).alloc (.cells #[.int .i64 0, .int .i64 0, .slice none 0 0] 30)) = wB at *
  go_wp2_with fail
  refine cP.mono ?_
  rintro e w1 ⟨hb, rfl⟩
  have HB1 := lh (HB.out.trans (hb.mono HB.out.size))
  have hq1 := HQ.out.below hb HQ.out.lt
  have hq6 := HQ6.out.below hb HQ6.out.lt
  have HK6 := lh hq6
  have d0 : w1.cell? ⟨w.heap.size, 0, none⟩ = some (.int .i64 s.base) := hq1.cell 0
  have d1 : w1.cell? ⟨w.heap.size, 1, none⟩ = some (.int .i64 s.limit) := hq1.cell 1
  have d2 : w1.cell? ⟨w.heap.size, 2, none⟩ = some (.slice A s.ws.length c) := hq1.cell 2
  have k0 : w1.cell? ⟨w.heap.size + 1, 0, none⟩ = some (.int .i64 0) := hq6.cell 0
  have k1 : w1.cell? ⟨w.heap.size + 1, 1, none⟩ = some (.int .i64 0) := hq6.cell 1
  have k2 : w1.cell? ⟨w.heap.size + 1, 2, none⟩ = some (.slice none 0 0) := hq6.cell 2
  have f0 := hq6.free 0
  have f1 := hq6.free 1
  have f2 := hq6.free 2
  clear cP hb q0 q1 q2 hq1 hq6
  go_wp2_with fail
  have hS6 := set3_bk HK6.out (.int .i64 s.base) (.int .i64 s.limit) (.slice A s.ws.length c)
  have e0 := hS6.cell 0
  have e1 := hS6.cell 1
  have e2 := hS6.cell 2
  simp only [List.getElem?_toArray, List.getElem?_cons_zero, List.getElem?_cons_succ] at e0 e1 e2
  refine bodyPost_ret (v := .tuple #[.agg #[.int .i64 s.base, .int .i64 s.limit, .slice A s.ws.length c], .slice none 0 0, .int .i64 0, .int .i64 11]) (by simp [results, Tryz.results40, go_sem, e0, e1, e2]) rfl ?_
  exact HQ0.out _ (below_set3 HB1.out (by omega) _ _ _)
 | some ns =>
  rw [hpl] at cP
  dsimp only at cP
  obtain ⟨hP, hns⟩ := Spc.plan_some hinc hpl
  have hnsl : ns.length = ms.length := by rw [hns, newsL_len]
  have hnd : ∀ (j : Nat) (a : Int), ms[j]? = some a → ns[j]? = some (newA (Mm.one s) s.base ms a) := fun j a ha => by rw [hns]; exact newA_get hP.nd ha
  have HP := lh hP
  have HND := lh hnd
  have HQE : Hid ((Mm.one s).updL s.base ms roots = none → ∀ w', Below w.heap.size w w' → Q (.returned (.tuple #[.agg #[.int .i64 s.base, .int .i64 s.limit, .slice A s.ws.length c], .slice none 0 0, .int .i64 0, .int .i64 11])) w') := lh fun hu w' hb => by
   rw [hQ]
   unfold RCmpP
   rw [hpl, hu]
   exact ⟨hb, rfl⟩
  have HQS : Hid (∀ out, (Mm.one s).updL s.base ms roots = some out → ∀ Aw cw v w', Below w.heap.size w w' → w'.ownsRow w.heap.size 51 1 (.slice Aw (ms.flatMap ((Mm.one s).rmovd s.base ms)).length cw) (ms.flatMap ((Mm.one s).rmovd s.base ms)).length (wds (ms.flatMap ((Mm.one s).rmovd s.base ms))) → w'.ownsRow w.heap.size 51 1 v out.length (wds out) → Q (.returned (.tuple #[.agg #[.int .i64 s.base, .int .i64 s.limit, .slice Aw (ms.flatMap ((Mm.one s).rmovd s.base ms)).length cw], v, .int .i64 (ms.length : Int), .int .i64 0])) w') := lh fun out hu Aw cw v w' hb h1 h2 => by
   rw [hQ]
   unfold RCmpP
   rw [hpl, hu]
   exact ⟨hb, Aw, cw, v, rfl, h1, h2⟩
  obtain ⟨i0, hi, hz0, hz1, hz2⟩ := info_parts i_word
  have HI := lh (And.intro hi (And.intro hz0 (And.intro hz1 hz2)))
  have HU := lh h.u
  have b1 := h.lim
  have HL0 := lh hl0
  clear hQ hpl h hm hr hru hHB hb0 hinc hP hnd hns hi hz0 hz1 hz2
  go_enter Tryz.func40, Tryz.ntmps40
  go_upto_region 1 with fail
  generalize ((w.alloc (.cells #[.int .i64 s.base, .int .i64 s.limit, .slice A s.ws.length c] 30)).alloc (.cells #[.int .i64 0, .int .i64 0, .slice none 0 0] 30)) = wB at *
  go_wp2_with fail
  refine cP.mono ?_
  rintro e w1 ⟨hb, v2, rfl, ho2⟩
  obtain ⟨A2, c2, rfl, hc2⟩ := own_shape ho2
  have HN1 : Hid (IS w1 ns A2 c2) := lh (IS.ofOwn ho2 hc2)
  have HBB1 := lh hb
  have HB1 := lh (HB.out.trans (hb.mono HB.out.size))
  have HQ1 := lh (HQ.out.below hb HQ.out.lt)
  have HQ61 := lh (HQ6.out.below hb HQ6.out.lt)
  have H1 := lh (H.out.below hb)
  have HM1 := lh (HM.out.below hb)
  have HRT1 := lh (HRT.out.below hb)
  have HCU : Hid (∀ (w9 : World), Below w1.heap.size w1 w9 → ∀ x, U64 x → Calls Tryz.prog 90 #[.agg #[.int .i64 s.base, .int .i64 s.limit, .slice A s.ws.length c], .slice A1 ms.length c1, .slice A2 ns.length c2, .int .u64 x] w9 fun e w' => e = .returned (updR ((Mm.one s).updW s.base ms x)) ∧ Below w9.heap.size w9 w') := lh fun w9 h9 x hx => RUpdate_any (H1.out.below h9) HB0.out HL0.out (HM1.out.below h9) (HN1.out.below h9) hnsl HND.out hml hx
  have hb1s := HB1.out.size
  have hw1 := HQ61.out.lt
  clear cP hb q0 q1 q2 ho2 HB HQ HQ6 H HM HRT hnsl
  go_wp2_with fail
  go_loopw [12, 13] (fun v i wr => ∃ (j : Nat) (out : List Int), i = .int .i64 (j : Int) ∧ j ≤ roots.length ∧ (Mm.one s).updL s.base ms (roots.take j) = some out ∧ wr.ownsRow w1.heap.size 51 1 v out.length (wds out) ∧ Below w1.heap.size w1 wr) (fun _ i _ => roots.length - (intOf i).toNat)
  case atStart => exact ⟨0, [], rfl, Nat.zero_le _, rfl, ownEmpty 1 (Bk.new _ _ _) (Nat.le_refl _), (Below.refl _ _).alloc (Nat.le_refl _) _⟩
  case round =>
   obtain ⟨j, out, rfl, hj, hul, hown, hbr⟩ := hrel
   have HUL := lh hul
   have HOWN := lh hown
   have HBR := lh hbr
   have hbs := hbr.size
   have hol := updL_len hul
   have holb : out.length ≤ 100000000 := by rw [hol]; simp; omega
   obtain ⟨Ao, co, rfl, hco⟩ := own_shape hown
   have HQR := lh (HQ1.out.below hbr HQ1.out.lt)
   by_cases hlt : j < roots.length
   ·have t1 : roots[j]? = some roots[j] := List.getElem?_eq_getElem hlt
    obtain ⟨b2, o2, rfl, hbl, hcc⟩ := (HRT1.out.below hbr).get hlt
    have e1 : wr.cell? ⟨b2, o2 + j, none⟩ = some (.int .u64 roots[j]) := hcc j _ (wds_get t1)
    have hu := HRU.out _ (List.getElem_mem hlt)
    have cU := fun {w9 : World} (h9 : Below wr.heap.size wr w9) => HCU.out w9 (hbr.trans (h9.mono hbs)) roots[j] hu
    have hmem := List.getElem_mem hlt
    have hsn := updL_snoc (Mm.one s) s.base ms roots[j] (roots.take j)
    have htk : roots.take (j + 1) = roots.take j ++ [roots[j]] := by rw [List.take_add_one, t1]; rfl
    rw [← htk, hul] at hsn
    generalize roots[j] = x at t1 e1 hu cU hmem hsn
    have hjc : j < cr := by omega
    have HMEM := lh hmem
    have HE1 := lh (And.intro hbl e1)
    obtain ⟨uv, ub, hud, hut, huf⟩ : ∃ uv ub, updR ((Mm.one s).updW s.base ms x) = .tuple #[.int .u64 uv, .bool ub] ∧ (ub = true → (Mm.one s).updW s.base ms x = some uv) ∧ (ub = false → (Mm.one s).updW s.base ms x = none) := by
     cases (Mm.one s).updW s.base ms x with
     | none => exact ⟨0, false, rfl, fun e => Bool.noConfusion e, fun _ => rfl⟩
     | some y => exact ⟨y, true, rfl, fun _ => rfl, fun e => Bool.noConfusion e⟩
    rw [hud] at cU
    have HUT := lh hut
    have HUF := lh huf
    have HSN := lh hsn
    have HBRR := lh hbr
    clear hul hown hbr t1 hcc hu hsn htk hol hmem e1 hbl hud hut huf
    go_upto_region 8 with fail
    refine wp_region_addsF0 11 (fun i => ([[], [], [], [], [], [3, 4], [5], [0, 1, 2, 6], [7], [8], [8]] : List (List Nat)).getD i []) [10] (EL [Ent.val (.agg #[.int .i64 s.base, .int .i64 s.limit, .slice A s.ws.length c]), Ent.val (.slice A1 ms.length c1), Ent.val (.slice A2 ns.length c2), Ent.val (.slice (some ⟨b2, o2, none⟩) roots.length cr), Ent.val (.int .i64 (j : Int)), Ent.val (.pointer (some ⟨b2, o2 + j, none⟩)), Ent.val (.int .u64 x), Ent.val (.tuple #[.int .u64 uv, .bool ub]), Ent.val (.tuple #[.int .u64 uv, .bool ub]), Ent.val (.int .u64 uv), Ent.val (.bool ub)]) (by kernel_rfl) (by kernel_rfl) (by kernel_rfl) (by kernel_rfl) (by kernel_rfl) (by rfl) ?_ ?_
    ·intro i hi o ho vs w9 hb1 hgr
     rcases (show i = 0 ∨ i = 1 ∨ i = 2 ∨ i = 3 ∨ i = 4 ∨ i = 5 ∨ i = 6 ∨ i = 7 ∨ i = 8 ∨ i = 9 ∨ i = 10 by omega) with rfl | rfl | rfl | rfl | rfl | rfl | rfl | rfl | rfl | rfl | rfl <;> cases ho
     ·clear hgr
      change Made _ (Adds _ _ _) (Sem.run _ (execOp (Act.eval (frm _ _ _ [])) _) _)
      simp only [frm]
      have hbk := HQR.out.below hb1 HQR.out.lt
      have c0 : w9.cell? ⟨w.heap.size, 0, none⟩ = some (.int .i64 s.base) := hbk.cell 0
      have c1 : w9.cell? ⟨w.heap.size, 1, none⟩ = some (.int .i64 s.limit) := hbk.cell 1
      have c2 : w9.cell? ⟨w.heap.size, 2, none⟩ = some (.slice A s.ws.length c) := hbk.cell 2
      clear hbk
      go_simp
      exact adds_val rfl
     ·clear hgr
      change Made _ (Adds _ _ _) (Sem.run _ (execOp (Act.eval (frm _ _ _ [])) _) _)
      simp only [frm]
      go_simp
      exact adds_val rfl
     ·clear hgr
      change Made _ (Adds _ _ _) (Sem.run _ (execOp (Act.eval (frm _ _ _ [])) _) _)
      simp only [frm]
      go_simp
      exact adds_val rfl
     ·clear hgr
      change Made _ (Adds _ _ _) (Sem.run _ (execOp (Act.eval (frm _ _ _ [])) _) _)
      simp only [frm]
      go_simp
      exact adds_val rfl
     ·clear hgr
      change Made _ (Adds _ _ _) (Sem.run _ (execOp (Act.eval (frm _ _ _ [])) _) _)
      simp only [frm]
      go_simp
      exact adds_val rfl
     ·have h3 : vs 3 = _ := hgr 3 (by decide)
      have h4 : vs 4 = _ := hgr 4 (by decide)
      clear hgr
      change Made _ (Adds _ _ _) (Sem.run _ (execOp (Act.eval (Act.put (Act.put (frm _ _ _ []) (some 45) (vs 4)) (some 44) (vs 3))) _) _)
      simp only [frm, h3, h4]
      go_simp
      exact adds_val rfl
     ·have h5 : vs 5 = _ := hgr 5 (by decide)
      clear hgr
      change Made _ (Adds _ _ _) (Sem.run _ (execOp (Act.eval (Act.put (frm _ _ _ []) (some 46) (vs 5))) _) _)
      simp only [frm, h5]
      have e4 : w9.cell? ⟨b2, o2 + j, none⟩ = some (.int .u64 x) := ((bcell hb1).1 _ _ HE1.out.1).trans HE1.out.2
      go_simp
      exact adds_val rfl
     ·have h0 : vs 0 = _ := hgr 0 (by decide)
      have h1 : vs 1 = _ := hgr 1 (by decide)
      have h2 : vs 2 = _ := hgr 2 (by decide)
      have h6 : vs 6 = _ := hgr 6 (by decide)
      clear hgr
      change Made _ (Adds _ _ _) (Sem.run _ (execOp (Act.eval (Act.put (Act.put (Act.put (Act.put (frm _ _ _ []) (some 47) (vs 6)) (some 43) (vs 2)) (some 42) (vs 1)) (some 41) (vs 0))) _) _)
      simp only [frm, h0, h1, h2, h6]
      have cM1 := cU hb1
      go_simp
      exact adds_below cM1
     ·have h7 : vs 7 = _ := hgr 7 (by decide)
      clear hgr
      change Made _ (Adds _ _ _) (Sem.run _ (execOp (Act.eval (Act.put (frm _ _ _ []) (some 48) (vs 7))) _) _)
      simp only [frm, h7]
      go_simp
      exact adds_val rfl
     ·have h8 : vs 8 = _ := hgr 8 (by decide)
      clear hgr
      change Made _ (Adds _ _ _) (Sem.run _ (execOp (Act.eval (Act.put (frm _ _ _ []) (some 40) (vs 8))) _) _)
      simp only [frm, h8]
      go_simp
      exact adds_val rfl
     ·have h8 : vs 8 = _ := hgr 8 (by decide)
      clear hgr
      change Made _ (Adds _ _ _) (Sem.run _ (execOp (Act.eval (Act.put (frm _ _ _ []) (some 40) (vs 8))) _) _)
      simp only [frm, h8]
      go_simp
      exact adds_val rfl
    ·intro vs w9 hb1 hall hap
     have h9 : vs 9 = _ := (hall 9 (by omega)).1
     have h10 : vs 10 = _ := (hall 10 (by omega)).1
     clear hall hap
     change wpList _ _ _ [_, _] (Act.put (Act.put (Act.put (Act.put (Act.put (Act.put (Act.put (Act.put (Act.put (Act.put (Act.put (frm _ _ _ []) (some 50) (vs 10)) (some 49) (vs 9)) (some 40) (vs 8)) (some 48) (vs 7)) (some 47) (vs 6)) (some 46) (vs 5)) (some 45) (vs 4)) (some 44) (vs 3)) (some 43) (vs 2)) (some 42) (vs 1)) (some 41) (vs 0)) _
     simp only [frm, h9, h10]
     have HB9 := lh (HBRR.out.trans (hb1.mono hbs))
     have HO9 := lh (own_local HOWN.out (w' := w9) fun k hk => hb1.block k (HOWN.out.lt k hk).2)
     have hq9 := HQR.out.below hb1 HQR.out.lt
     have hq69 := HQ61.out.below HB9.out HQ61.out.lt
     have HK6 := lh hq69
     have hw9 := HB9.out.size
     have d0 : w9.cell? ⟨w.heap.size, 0, none⟩ = some (.int .i64 s.base) := hq9.cell 0
     have d1 : w9.cell? ⟨w.heap.size, 1, none⟩ = some (.int .i64 s.limit) := hq9.cell 1
     have d2 : w9.cell? ⟨w.heap.size, 2, none⟩ = some (.slice A s.ws.length c) := hq9.cell 2
     have k0 : w9.cell? ⟨w.heap.size + 1, 0, none⟩ = some (.int .i64 0) := hq69.cell 0
     have k1 : w9.cell? ⟨w.heap.size + 1, 1, none⟩ = some (.int .i64 0) := hq69.cell 1
     have k2 : w9.cell? ⟨w.heap.size + 1, 2, none⟩ = some (.slice none 0 0) := hq69.cell 2
     have f0 := hq69.free 0
     have f1 := hq69.free 1
     have f2 := hq69.free 2
     clear hb1 h9 h10 cU hq9 hq69 HE1
     cases ub with
     | false =>
      have HN := lh (updL_none (HUF.out rfl) HMEM.out)
      go_wp2_with fail
      have hS6 := set3_bk HK6.out (.int .i64 s.base) (.int .i64 s.limit) (.slice A s.ws.length c)
      have e0 := hS6.cell 0
      have e1 := hS6.cell 1
      have e2 := hS6.cell 2
      simp only [List.getElem?_toArray, List.getElem?_cons_zero, List.getElem?_cons_succ] at e0 e1 e2
      refine bodyPost_ret (v := .tuple #[.agg #[.int .i64 s.base, .int .i64 s.limit, .slice A s.ws.length c], .slice none 0 0, .int .i64 0, .int .i64 11]) (by simp [results, Tryz.results40, go_sem, e0, e1, e2]) rfl ?_
      exact HQE.out HN.out _ (below_set3 (HB1.out.trans (HB9.out.mono hb1s)) (by omega) _ _ _)
     | true =>
      have HUT1 := lh (HUT.out rfl)
      clear d0 d1 d2 k0 k1 k2 f0 f1 f2
      go_wp2_with (at_builtin; refine wpList_append_own_at _ rfl (.tmp 54) (.tmp 56) 28 rfl w1.heap.size 51 i0 (.int .u64 0) 1 8 Tryz.underlying28 HI.out.1 HI.out.2.1 HI.out.2.2.1 HI.out.2.2.2 rfl (by decide) _ out.length _ rfl (HO9.out.alloc _) ⟨w9.heap.size, 0, none⟩ 1 1 [.int .u64 uv] rfl rfl (cell_one_new _ _ _) (by simp [Value.oneCell']) (by unfold maxLen; omega) (by omega) (by simp; omega) ?_; intro v7 w7 ho7 hg7 _ hl7; have HO7 := lh ho7; have HG7 := lh hg7; clear ho7 hg7 hl7)
      go_roundw
      case rel =>
       have hsn := HSN.out
       rw [HUT1.out] at hsn
       dsimp only at hsn
       refine ⟨j + 1, out ++ [uv], by go_num, by omega, hsn, ?_, ?_⟩
       ·rw [List.length_append, List.length_singleton, show wds (out ++ [uv]) = wds out ++ [.int .u64 uv] by simp [wds]]
        exact HO7.out
       ·exact (HB9.out.alloc hw9 _).grown HG7.out (by simp; omega) (fun k hk => (HO9.out.lt k hk).1)
      case measure => simp [intOf]; omega
   ·obtain rfl : j = roots.length := by omega
    rw [List.take_length] at hul
    have HUL := lh hul
    have HB2 := lh hbr
    have HBW2 := lh (HB1.out.trans (hbr.mono hb1s))
    have HQ2 := lh (HQ1.out.below hbr HQ1.out.lt)
    have HQ62 := lh (HQ61.out.below hbr HQ61.out.lt)
    have H2 := lh (H1.out.below hbr)
    have HM2 := lh (HM1.out.below hbr)
    have HO2 := lh hown
    have cMe := fun (w9 : World) (hb : Below wr.heap.size wr w9) => RMemory_any (H2.out.below hb)
    have cHe := fun (w9 : World) (hb : Below wr.heap.size wr w9) (a : Int) => RHeader_any (H2.out.below hb).zer a
    simp only [Mm.zer_hdr] at cHe
    unfold rmV Mm.zer hdrV Hdr.val at cHe
    unfold rsV at cMe
    have HCM := lh cMe
    have HCH := lh cHe
    have HLD : Hid (∀ w9, Below wr.heap.size wr w9 → ∀ a y, s.at_ a = some y → Calls Tryz.prog 72 #[.agg #[.int .i64 s.base, .int .i64 s.limit, .slice A s.ws.length c], .int .i64 a] w9 fun e w' => e = .returned (.tuple #[.int .u64 y, .int .i64 0]) ∧ Below w9.heap.size w9 w') := lh fun w9 h9 a y hy => RSLoad_val (H2.out.below h9) hy
    have HCU2 : Hid (∀ w9, Below wr.heap.size wr w9 → ∀ x, U64 x → Calls Tryz.prog 90 #[.agg #[.int .i64 s.base, .int .i64 s.limit, .slice A s.ws.length c], .slice A1 ms.length c1, .slice A2 ns.length c2, .int .u64 x] w9 fun e w' => e = .returned (updR ((Mm.one s).updW s.base ms x)) ∧ Below w9.heap.size w9 w') := lh fun w9 h9 x hx => HCU.out w9 (hbr.trans (h9.mono hbs)) x hx
    obtain ⟨wl, hwl⟩ : ∃ wl : Nat → List Int, wl = fun j => (ms.take j).flatMap ((Mm.one s).rmovd s.base ms) := ⟨_, rfl⟩
    have HW0 : Hid (wl 0 = []) := lh (by rw [hwl]; rfl)
    have HWS : Hid (∀ (j : Nat) (a : Int), ms[j]? = some a → wl (j + 1) = wl j ++ (Mm.one s).rmovd s.base ms a) := lh fun j a ha => by
     rw [hwl]
     dsimp only
     rw [List.take_add_one, ha, List.flatMap_append]
     simp
    have HWN : Hid (wl ms.length = ms.flatMap ((Mm.one s).rmovd s.base ms)) := lh (by rw [hwl]; dsimp only; rw [List.take_length])
    have HWL : Hid (∀ j, j ≤ ms.length → (wl j).length ≤ 32 * j) := lh fun j hj => by
     have := rwl_len s s.base ms (ms.take j)
     rw [hwl]
     dsimp only
     rw [List.length_take, Nat.min_eq_left hj] at this
     exact this
    obtain ⟨w2, rfl⟩ : ∃ w2 : World, w2 = wr := ⟨_, rfl⟩
    have hw2 := HBW2.out.size
    have HOB : Hid (∀ a ∈ ms, s.Obj a) := lh fun a ha => (Spc.objs_obj (HP.out.ob a ha)).1
    clear hul hown hbr cMe cHe hwl HQR HBR HQ1 HQ61 H1 HM1 HRT1 HCU HOWN hol
    go_wp2_with fail
    go_loopw [16, 17] (fun v i wr => ∃ (j : Nat), i = .int .i64 (j : Int) ∧ j ≤ ms.length ∧ wr.ownsRow w2.heap.size 51 1 v (wl j).length (wds (wl j)) ∧ Below w2.heap.size w2 wr) (fun _ i _ => ms.length - (intOf i).toNat)
    case atStart => exact ⟨0, rfl, Nat.zero_le _, by rw [HW0.out]; exact ownEmpty 1 (Bk.new _ _ _) (Nat.le_refl _), (Below.refl _ _).alloc (Nat.le_refl _) _⟩
    case round =>
     obtain ⟨j, rfl, hj, hown, hbr⟩ := hrel
     have HBR := lh hbr
     have HOWN := lh hown
     have hbs := hbr.size
     have HQR := lh (HQ2.out.below hbr HQ2.out.lt)
     obtain ⟨A3, c3, rfl, hac⟩ := own_shape hown
     by_cases hlt : j < ms.length
     ·obtain ⟨b2, o2, rfl, hbl, hcc⟩ := (HM2.out.below hbr).sl.get hlt
      have t1 : ms[j]? = some ms[j] := List.getElem?_eq_getElem hlt
      have e1 : wr.cell? ⟨b2, o2 + j, none⟩ = some (.int .i64 ms[j]) := hcc j _ (ints_get t1)
      have hcj : j < c1 := by omega
      have hjI : (j : Int) < (ms.length : Int) := by omega
      have HO := lh (HOB.out _ (List.getElem_mem hlt))
      have HWSJ := lh (HWS.out j _ t1)
      generalize ms[j] = b at e1 t1 HO HWSJ
      have HT1 := lh t1
      have HE2 : Hid (w2.cell? ⟨b2, o2 + j, none⟩ = some (.int .i64 b)) := lh (by
       obtain ⟨b', o', hA, _, hc'⟩ := HM2.out.sl.get hlt
       cases hA
       exact hc' j _ (ints_get t1))
      have HE1 := lh (And.intro hbl e1)
      have cM := fun {w9 : World} (hb : Below wr.heap.size wr w9) => HCM.out _ (HBR.out.trans (hb.mono hbs))
      have cH := fun {w9 : World} (hb : Below wr.heap.size wr w9) => HCH.out _ (HBR.out.trans (hb.mono hbs)) b
      obtain ⟨er, hd, hhd⟩ : ∃ er hd, (Mm.one s).hdr b = (er, hd) := ⟨_, _, rfl⟩
      simp only [hhd] at cH
      have HHD := lh hhd
      clear hown hbr t1 hcc e1 hbl hhd
      go_upto_region 16 with fail
      refine wp_region_addsF0 11 (fun i => ([[], [0], [], [], [2, 3], [4], [1, 5], [6], [7], [7], []] : List (List Nat)).getD i []) [9] (EL [Ent.val (.agg #[.int .i64 s.base, .int .i64 s.limit, .slice A s.ws.length c]), Ent.val (.agg #[.int .i64 s.base, .int .i64 s.limit, .slice A s.ws.length c, .int .i64 0, .int .i64 0, .slice none 0 0]), Ent.val (.slice (some ⟨b2, o2, none⟩) ms.length c1), Ent.val (.int .i64 (j : Int)), Ent.val (.pointer (some ⟨b2, o2 + j, none⟩)), Ent.val (.int .i64 b), Ent.val (.tuple #[.agg #[.int .i64 hd.k, .int .i64 hd.c, .int .i64 hd.f], .int .i64 er]), Ent.val (.tuple #[.agg #[.int .i64 hd.k, .int .i64 hd.c, .int .i64 hd.f], .int .i64 er]), Ent.val (.agg #[.int .i64 hd.k, .int .i64 hd.c, .int .i64 hd.f]), Ent.val (.int .i64 er), Ent.blk 55 #[.int .i64 0, .int .i64 0, .int .i64 0]]) (by kernel_rfl) (by kernel_rfl) (by kernel_rfl) (by kernel_rfl) (by kernel_rfl) (by rfl) ?_ ?_
      ·intro i hi o ho vs w9 hb1 hgr
       rcases (show i = 0 ∨ i = 1 ∨ i = 2 ∨ i = 3 ∨ i = 4 ∨ i = 5 ∨ i = 6 ∨ i = 7 ∨ i = 8 ∨ i = 9 ∨ i = 10 by omega) with rfl | rfl | rfl | rfl | rfl | rfl | rfl | rfl | rfl | rfl | rfl <;> cases ho
       ·clear hgr
        change Made _ (Adds _ _ _) (Sem.run _ (execOp (Act.eval (frm _ _ _ [])) _) _)
        simp only [frm]
        have hbk := HQR.out.below hb1 HQR.out.lt
        have c0 : w9.cell? ⟨w.heap.size, 0, none⟩ = some (.int .i64 s.base) := hbk.cell 0
        have c1 : w9.cell? ⟨w.heap.size, 1, none⟩ = some (.int .i64 s.limit) := hbk.cell 1
        have c2 : w9.cell? ⟨w.heap.size, 2, none⟩ = some (.slice A s.ws.length c) := hbk.cell 2
        clear hbk
        go_simp
        exact adds_val rfl
       ·have h0 : vs 0 = _ := hgr 0 (by decide)
        clear hgr
        change Made _ (Adds _ _ _) (Sem.run _ (execOp (Act.eval (Act.put (frm _ _ _ []) (some 66) (vs 0))) _) _)
        simp only [frm, h0]
        have cM1 := cM hb1
        go_simp
        exact adds_below cM1
       ·clear hgr
        change Made _ (Adds _ _ _) (Sem.run _ (execOp (Act.eval (frm _ _ _ [])) _) _)
        simp only [frm]
        go_simp
        exact adds_val rfl
       ·clear hgr
        change Made _ (Adds _ _ _) (Sem.run _ (execOp (Act.eval (frm _ _ _ [])) _) _)
        simp only [frm]
        go_simp
        exact adds_val rfl
       ·have h2 : vs 2 = _ := hgr 2 (by decide)
        have h3 : vs 3 = _ := hgr 3 (by decide)
        clear hgr
        change Made _ (Adds _ _ _) (Sem.run _ (execOp (Act.eval (Act.put (Act.put (frm _ _ _ []) (some 69) (vs 3)) (some 68) (vs 2))) _) _)
        simp only [frm, h2, h3]
        go_simp
        exact adds_val rfl
       ·have h4 : vs 4 = _ := hgr 4 (by decide)
        clear hgr
        change Made _ (Adds _ _ _) (Sem.run _ (execOp (Act.eval (Act.put (frm _ _ _ []) (some 70) (vs 4))) _) _)
        simp only [frm, h4]
        have e4 : w9.cell? ⟨b2, o2 + j, none⟩ = some (.int .i64 b) := ((bcell hb1).1 _ _ HE1.out.1).trans HE1.out.2
        go_simp
        exact adds_val rfl
       ·have h1 : vs 1 = _ := hgr 1 (by decide)
        have h5 : vs 5 = _ := hgr 5 (by decide)
        clear hgr
        change Made _ (Adds _ _ _) (Sem.run _ (execOp (Act.eval (Act.put (Act.put (frm _ _ _ []) (some 71) (vs 5)) (some 67) (vs 1))) _) _)
        simp only [frm, h1, h5]
        have cH1 := cH hb1
        go_simp
        exact adds_below cH1
       ·have h6 : vs 6 = _ := hgr 6 (by decide)
        clear hgr
        change Made _ (Adds _ _ _) (Sem.run _ (execOp (Act.eval (Act.put (frm _ _ _ []) (some 72) (vs 6))) _) _)
        simp only [frm, h6]
        go_simp
        exact adds_val rfl
       ·have h7 : vs 7 = _ := hgr 7 (by decide)
        clear hgr
        change Made _ (Adds _ _ _) (Sem.run _ (execOp (Act.eval (Act.put (frm _ _ _ []) (some 65) (vs 7))) _) _)
        simp only [frm, h7]
        go_simp
        exact adds_val rfl
       ·have h7 : vs 7 = _ := hgr 7 (by decide)
        clear hgr
        change Made _ (Adds _ _ _) (Sem.run _ (execOp (Act.eval (Act.put (frm _ _ _ []) (some 65) (vs 7))) _) _)
        simp only [frm, h7]
        go_simp
        exact adds_val rfl
       ·clear hgr
        change Made _ (Adds _ _ _) (Sem.run _ (execOp (Act.eval (frm _ _ _ [])) _) _)
        simp only [frm]
        go_simp
        exact adds_blk
      ·intro vs w9 hb1 hall hap
       obtain ⟨⟨g10, h10, k10⟩, q10⟩ := hall 10 (by omega)
       have r10 : wr.heap.size ≤ g10 ∧ g10 < w9.heap.size := q10 g10 (by rw [h10]; rfl)
       clear q10
       have h8 : vs 8 = _ := (hall 8 (by omega)).1
       have h9 : vs 9 = _ := (hall 9 (by omega)).1
       clear hall hap
       change wpList _ _ _ [_, _] (Act.put (Act.put (Act.put (Act.put (Act.put (Act.put (Act.put (Act.put (Act.put (Act.put (Act.put (frm _ _ _ []) (some 18) (vs 10)) (some 74) (vs 9)) (some 73) (vs 8)) (some 65) (vs 7)) (some 72) (vs 6)) (some 71) (vs 5)) (some 70) (vs 4)) (some 69) (vs 3)) (some 68) (vs 2)) (some 67) (vs 1)) (some 66) (vs 0)) _
       simp only [frm, h8, h9, h10]
       have HB5 := lh hb1
       have HK9 := lh k10
       have h9s := r10
       have d0 : w9.cell? ⟨g10, 0, none⟩ = some (.int .i64 0) := k10.cell 0
       have d1 : w9.cell? ⟨g10, 1, none⟩ = some (.int .i64 0) := k10.cell 1
       have d2 : w9.cell? ⟨g10, 2, none⟩ = some (.int .i64 0) := k10.cell 2
       have f0 := k10.free 0
       have f1 := k10.free 1
       have f2 := k10.free 2
       clear hb1 k10 r10 h8 h9 h10 cM cH
       go_wp2_with fail
       have hbz : Below wr.heap.size wr (((w9.setCell ⟨g10, 0, none⟩ (.int .i64 hd.k)).setCell ⟨g10, 1, none⟩ (.int .i64 hd.c)).setCell ⟨g10, 2, none⟩ (.int .i64 hd.f)) := below_set3 HB5.out (by omega) _ _ _
       have HBZ := lh hbz
       have HOZ := lh (own_local HOWN.out (w' := ((w9.setCell ⟨g10, 0, none⟩ (.int .i64 hd.k)).setCell ⟨g10, 1, none⟩ (.int .i64 hd.c)).setCell ⟨g10, 2, none⟩ (.int .i64 hd.f)) fun k hk => hbz.block k (HOWN.out.lt k hk).2)
       have HKZ := lh (HK9.out.set3 (.int .i64 hd.k) (.int .i64 hd.c) (.int .i64 hd.f))
       clear hbz HB5 HK9 h9s d0 d1 d2 f0 f1 f2 HQR
       generalize ((w9.setCell ⟨g10, 0, none⟩ (.int .i64 hd.k)).setCell ⟨g10, 1, none⟩ (.int .i64 hd.c)).setCell ⟨g10, 2, none⟩ (.int .i64 hd.f) = w6 at *
       rw [onlyN_normal]
       go_wp2_with fail
       obtain ⟨wo, rfl⟩ : ∃ wo : World, wo = wr := ⟨_, rfl⟩
       obtain ⟨rm, hrm⟩ : ∃ rm, rm = (Mm.one s).rmovd s.base ms b := ⟨_, rfl⟩
       rw [← hrm] at HWSJ
       have hHV := HO.out.ok
       have hvh := Mm.hdr_valid HO.out.ok
       rw [HHD.out] at hvh
       have hwg := wH_ge hvh
       have hfb := vH_bound hvh
       have hwb := wH_bound hd
       have hrml : (rm.length : Int) = wH hd := by
        rw [hrm]
        unfold Mm.rmovd
        rw [List.length_map, List.length_range, HHD.out]
        dsimp only
        omega
       have HRM := lh hrm
       have hwll := HWL.out j hj
       have cW := RWords_of hd
       have HBW6 := lh (HBR.out.trans (HBZ.out.mono hbs))
       have hew2 := cell_lt HE2.out
       clear hrm hHV hvh HBZ HBR HOWN
       go_loopw [16, 20] (fun v k wr => ∃ q : Nat, k = .int .i64 (q : Int) ∧ q ≤ rm.length ∧ wr.ownsRow w2.heap.size 51 1 v ((wl j).length + q) (wds (wl j ++ rm.take q)) ∧ Bk wr g10 55 #[.int .i64 hd.k, .int .i64 hd.c, .int .i64 hd.f] ∧ Below w2.heap.size w2 wr) (fun _ k _ => rm.length - (intOf k).toNat)
       case atStart => exact ⟨0, rfl, Nat.zero_le _, by simpa using HOZ.out, HKZ.out, HBW6.out⟩
       case round =>
        obtain ⟨q, rfl, hq, hown3, hk3, hbr3⟩ := hrel
        have HOWN3 := lh hown3
        have HK3 := lh hk3
        have HBR3 := lh hbr3
        have hbs3 := hbr3.size
        obtain ⟨A4, c4, rfl, hac4⟩ := own_shape hown3
        have d0 : wr.cell? ⟨g10, 0, none⟩ = some (.int .i64 hd.k) := hk3.cell 0
        have d1 : wr.cell? ⟨g10, 1, none⟩ = some (.int .i64 hd.c) := hk3.cell 1
        have d2 : wr.cell? ⟨g10, 2, none⟩ = some (.int .i64 hd.f) := hk3.cell 2
        by_cases hlt3 : q < rm.length
        ·have hlt4 : (q : Int) < wH hd := by omega
         have hq32 : (q : Int) ≤ 32 := by omega
         obtain ⟨y, hy⟩ := HO.out.word (k := (q : Int)) (by omega) (by rw [HHD.out]; exact hlt4)
         have hlo := HO.out.lo
         have hhi := HO.out.hi
         have hyu : U64 y := by
          obtain ⟨i', _, _, z, hz, h2⟩ := Spc.at_some (Spc.at_has hy)
          rw [hy] at h2
          cases h2
          exact HU.out _ (List.mem_of_getElem? hz)
         have hHY := lh hy
         have HYU := lh hyu
         have hbrg : 0 ≤ b ∧ b ≤ 4294967296 := by
          have := HB0.out
          have := wH_bound ((Mm.one s).hdr b).2
          unfold Spc.top at hhi
          have := HL0.out
          omega
         have hwp : IntKind.i64.wrap (b + (q : Int)) = b + (q : Int) := IntWalk.i64_in _ (by omega)
         clear hown3 hk3 hbr3 hy hyu hlo hhi
         go_wp2_with fail
         refine (cW _).mono ?_
         rintro e w7 ⟨rfl, hb7⟩
         have HB7 := lh (HBR3.out.trans (hb7.mono hbs3))
         have HK7 := lh (HK3.out.below hb7 HK3.out.lt)
         have HO7 := lh (own_local HOWN3.out (w' := w7) fun k hk => hb7.block k (HOWN3.out.lt k hk).2)
         have hw7 := HB7.out.size
         have HQ7 := lh (HQ2.out.below HB7.out HQ2.out.lt)
         have he7 : w7.cell? ⟨b2, o2 + j, none⟩ = some (.int .i64 b) := ((bcell HB7.out).1 _ _ hew2).trans HE2.out
         have HE7 := lh (And.intro (cell_lt he7) he7)
         have cL := fun {w9 : World} (hb : Below w7.heap.size w7 w9) => HLD.out _ (HB7.out.trans (hb.mono hw7)) _ _ hHY.out
         clear hb7 he7 d0 d1 d2 HOWN3 HK3 HBR3 hbs3
         go_upto_region 20 with fail
         refine wp_region_addsF0 11 (fun i => ([[], [], [], [1, 2], [3], [], [4, 5], [0, 6], [7], [8], [8]] : List (List Nat)).getD i []) [10] (EL [Ent.val (.agg #[.int .i64 s.base, .int .i64 s.limit, .slice A s.ws.length c]), Ent.val (.slice (some ⟨b2, o2, none⟩) ms.length c1), Ent.val (.int .i64 (j : Int)), Ent.val (.pointer (some ⟨b2, o2 + j, none⟩)), Ent.val (.int .i64 b), Ent.val (.int .i64 (q : Int)), Ent.val (.int .i64 (b + (q : Int))), Ent.val (.tuple #[.int .u64 y, .int .i64 0]), Ent.val (.tuple #[.int .u64 y, .int .i64 0]), Ent.val (.int .u64 y), Ent.val (.int .i64 0)]) (by kernel_rfl) (by kernel_rfl) (by kernel_rfl) (by kernel_rfl) (by kernel_rfl) (by rfl) ?_ ?_
         ·intro i hi o ho vs w9 hb1 hgr
          rcases (show i = 0 ∨ i = 1 ∨ i = 2 ∨ i = 3 ∨ i = 4 ∨ i = 5 ∨ i = 6 ∨ i = 7 ∨ i = 8 ∨ i = 9 ∨ i = 10 by omega) with rfl | rfl | rfl | rfl | rfl | rfl | rfl | rfl | rfl | rfl | rfl <;> cases ho
          ·clear hgr
           change Made _ (Adds _ _ _) (Sem.run _ (execOp (Act.eval (frm _ _ _ [])) _) _)
           simp only [frm]
           have hbk := HQ7.out.below hb1 HQ7.out.lt
           have c0 : w9.cell? ⟨w.heap.size, 0, none⟩ = some (.int .i64 s.base) := hbk.cell 0
           have c1 : w9.cell? ⟨w.heap.size, 1, none⟩ = some (.int .i64 s.limit) := hbk.cell 1
           have c2 : w9.cell? ⟨w.heap.size, 2, none⟩ = some (.slice A s.ws.length c) := hbk.cell 2
           clear hbk
           go_simp
           exact adds_val rfl
          ·clear hgr
           change Made _ (Adds _ _ _) (Sem.run _ (execOp (Act.eval (frm _ _ _ [])) _) _)
           simp only [frm]
           go_simp
           exact adds_val rfl
          ·clear hgr
           change Made _ (Adds _ _ _) (Sem.run _ (execOp (Act.eval (frm _ _ _ [])) _) _)
           simp only [frm]
           go_simp
           exact adds_val rfl
          ·have h1 : vs 1 = _ := hgr 1 (by decide)
           have h2 : vs 2 = _ := hgr 2 (by decide)
           clear hgr
           change Made _ (Adds _ _ _) (Sem.run _ (execOp (Act.eval (Act.put (Act.put (frm _ _ _ []) (some 84) (vs 2)) (some 83) (vs 1))) _) _)
           simp only [frm, h1, h2]
           go_simp
           exact adds_val rfl
          ·have h3 : vs 3 = _ := hgr 3 (by decide)
           clear hgr
           change Made _ (Adds _ _ _) (Sem.run _ (execOp (Act.eval (Act.put (frm _ _ _ []) (some 85) (vs 3))) _) _)
           simp only [frm, h3]
           have e4 : w9.cell? ⟨b2, o2 + j, none⟩ = some (.int .i64 b) := ((bcell hb1).1 _ _ HE7.out.1).trans HE7.out.2
           go_simp
           exact adds_val rfl
          ·clear hgr
           change Made _ (Adds _ _ _) (Sem.run _ (execOp (Act.eval (frm _ _ _ [])) _) _)
           simp only [frm]
           go_simp
           exact adds_val rfl
          ·have h4 : vs 4 = _ := hgr 4 (by decide)
           have h5 : vs 5 = _ := hgr 5 (by decide)
           clear hgr
           change Made _ (Adds _ _ _) (Sem.run _ (execOp (Act.eval (Act.put (Act.put (frm _ _ _ []) (some 87) (vs 5)) (some 86) (vs 4))) _) _)
           simp only [frm, h4, h5]
           go_simp
           exact adds_val rfl
          ·have h0 : vs 0 = _ := hgr 0 (by decide)
           have h6 : vs 6 = _ := hgr 6 (by decide)
           clear hgr
           change Made _ (Adds _ _ _) (Sem.run _ (execOp (Act.eval (Act.put (Act.put (frm _ _ _ []) (some 88) (vs 6)) (some 82) (vs 0))) _) _)
           simp only [frm, h0, h6]
           have cM1 := cL hb1
           go_simp
           exact adds_below cM1
          ·have h7 : vs 7 = _ := hgr 7 (by decide)
           clear hgr
           change Made _ (Adds _ _ _) (Sem.run _ (execOp (Act.eval (Act.put (frm _ _ _ []) (some 89) (vs 7))) _) _)
           simp only [frm, h7]
           go_simp
           exact adds_val rfl
          ·have h8 : vs 8 = _ := hgr 8 (by decide)
           clear hgr
           change Made _ (Adds _ _ _) (Sem.run _ (execOp (Act.eval (Act.put (frm _ _ _ []) (some 81) (vs 8))) _) _)
           simp only [frm, h8]
           go_simp
           exact adds_val rfl
          ·have h8 : vs 8 = _ := hgr 8 (by decide)
           clear hgr
           change Made _ (Adds _ _ _) (Sem.run _ (execOp (Act.eval (Act.put (frm _ _ _ []) (some 81) (vs 8))) _) _)
           simp only [frm, h8]
           go_simp
           exact adds_val rfl
         ·intro vs w9 hb1 hall hap
          have h9 : vs 9 = _ := (hall 9 (by omega)).1
          have h10 : vs 10 = _ := (hall 10 (by omega)).1
          clear hall hap
          change wpList _ _ _ [_, _] (Act.put (Act.put (Act.put (Act.put (Act.put (Act.put (Act.put (Act.put (Act.put (Act.put (Act.put (frm _ _ _ []) (some 91) (vs 10)) (some 90) (vs 9)) (some 81) (vs 8)) (some 89) (vs 7)) (some 88) (vs 6)) (some 87) (vs 5)) (some 86) (vs 4)) (some 85) (vs 3)) (some 84) (vs 2)) (some 83) (vs 1)) (some 82) (vs 0)) _
          simp only [frm, h9, h10]
          have HB9 := lh (HB7.out.trans (hb1.mono hw7))
          have hk9 := HK7.out.below hb1 HK7.out.lt
          have HK9 := lh hk9
          have HO9 := lh (own_local HO7.out (w' := w9) fun k hk => hb1.block k (HO7.out.lt k hk).2)
          have hw9 := HB9.out.size
          have d0 : w9.cell? ⟨g10, 0, none⟩ = some (.int .i64 hd.k) := hk9.cell 0
          have d1 : w9.cell? ⟨g10, 1, none⟩ = some (.int .i64 hd.c) := hk9.cell 1
          have d2 : w9.cell? ⟨g10, 2, none⟩ = some (.int .i64 hd.f) := hk9.cell 2
          clear hb1 h9 h10 cL hk9 HE7 HB7 HK7 HO7 hw7 HQ7
          have HRQ : Hid (rm[q]? = some (if 2 ≤ (q : Int) ∧ (q : Int) < 2 + hd.f ∧ hd.k ≠ 3 ∧ hd.k ≠ 4 then ((Mm.one s).updW s.base ms y).getD 0 else y)) := lh (by
           rw [HRM.out]
           unfold Mm.rmovd
           rw [List.getElem?_map, List.getElem?_range (by rw [HHD.out]; dsimp only; omega)]
           simp only [Option.map_some]
           unfold Mm.rwd
           rw [Mm.one_at, hHY.out, HHD.out]
           rfl)
          have HTK : Hid (∀ z, rm[q]? = some z → wds (wl j ++ rm.take (q + 1)) = wds (wl j ++ rm.take q) ++ [.int .u64 z]) := lh fun z hz => by
           rw [List.take_add_one, hz]
           simp [wds]
          clear hwp
          go_wp2_with fail
          rw [onlyN_normal]
          have hcs : ¬ (2 ≤ (q : Int)) ∨ (2 ≤ (q : Int) ∧ ¬ (q : Int) < 2 + hd.f) ∨ (2 ≤ (q : Int) ∧ (q : Int) < 2 + hd.f ∧ hd.k = 3) ∨ (2 ≤ (q : Int) ∧ (q : Int) < 2 + hd.f ∧ hd.k ≠ 3 ∧ hd.k = 4) ∨ (2 ≤ (q : Int) ∧ (q : Int) < 2 + hd.f ∧ hd.k ≠ 3 ∧ hd.k ≠ 4) := by omega
          rcases hcs with h2 | ⟨h2, hf⟩ | ⟨h2, hf, hk3⟩ | ⟨h2, hf, hk3, hk4⟩ | ⟨h2, hf, hk3, hk4⟩
          ·have hz := HRQ.out
           rw [if_neg (by omega)] at hz
           have HZ := lh hz
           clear hz
           have g1 : decide (2 ≤ (q : Int)) = false := decide_eq_false (by omega)
           have g1g : decide ((q : Int) ≥ 2) = false := decide_eq_false (by omega)
           have g1n : decide (2 ≤ q) = false := decide_eq_false (by omega)
           clear h2
           go_upto_region 23 with fail
           clear g1 g1g g1n
           go_wp2_with (first | (at_builtin; refine wpList_append_own_at _ rfl (.tmp 119) (.tmp 121) 28 rfl w2.heap.size 51 i0 (.int .u64 0) 1 8 Tryz.underlying28 HI.out.1 HI.out.2.1 HI.out.2.2.1 HI.out.2.2.2 rfl (by decide) _ ((wl j).length + q) _ rfl (HO9.out.alloc _) ⟨w9.heap.size, 0, none⟩ 1 1 [.int .u64 y] rfl rfl (cell_one_new _ _ _) (by simp [Value.oneCell']) (by unfold maxLen; omega) (by omega) (by simp; omega) ?_; intro v17 w17 ho17 hg17 _ hl17; have HO17 := lh ho17; have HG17 := lh hg17; clear ho17 hg17 hl17))
           go_roundw
           case rel =>
            refine ⟨q + 1, by go_num, by omega, ?_, ?_, ?_⟩
            ·rw [HTK.out _ HZ.out, show (wl j).length + (q + 1) = (wl j).length + q + 1 by omega]
             exact HO17.out
            ·have hka : Bk (w9.alloc (.cells #[.int .u64 y] 51)) g10 55 #[.int .i64 hd.k, .int .i64 hd.c, .int .i64 hd.f] := HK9.out.alloc _
             have hoa := HO9.out.alloc (.cells #[.int .u64 y] 51)
             refine hka.grown HG17.out ?_
             intro e
             exact ownRow_bk hoa hka (by decide) e.symm
            ·exact (HB9.out.alloc (by omega) _).grown HG17.out (by simp; omega) (fun k hk => (HO9.out.lt k hk).1)
           case measure => simp [intOf]; omega
          ·have hz := HRQ.out
           rw [if_neg (by omega)] at hz
           have HZ := lh hz
           clear hz
           have g1 : decide (2 ≤ (q : Int)) = true := decide_eq_true (by omega)
           have g1g : decide ((q : Int) ≥ 2) = true := decide_eq_true (by omega)
           have g1n : decide (2 ≤ q) = true := decide_eq_true (by omega)
           have g2 : decide ((q : Int) < 2 + hd.f) = false := decide_eq_false (by omega)
           have hwp2 : IntKind.i64.wrap (2 + hd.f) = 2 + hd.f := IntWalk.i64_in _ (by omega)
           clear h2 hf
           go_upto_region 23 with fail
           clear g1 g1g g1n g2 hwp2
           go_wp2_with (first | (at_builtin; refine wpList_append_own_at _ rfl (.tmp 119) (.tmp 121) 28 rfl w2.heap.size 51 i0 (.int .u64 0) 1 8 Tryz.underlying28 HI.out.1 HI.out.2.1 HI.out.2.2.1 HI.out.2.2.2 rfl (by decide) _ ((wl j).length + q) _ rfl (HO9.out.alloc _) ⟨w9.heap.size, 0, none⟩ 1 1 [.int .u64 y] rfl rfl (cell_one_new _ _ _) (by simp [Value.oneCell']) (by unfold maxLen; omega) (by omega) (by simp; omega) ?_; intro v17 w17 ho17 hg17 _ hl17; have HO17 := lh ho17; have HG17 := lh hg17; clear ho17 hg17 hl17))
           go_roundw
           case rel =>
            refine ⟨q + 1, by go_num, by omega, ?_, ?_, ?_⟩
            ·rw [HTK.out _ HZ.out, show (wl j).length + (q + 1) = (wl j).length + q + 1 by omega]
             exact HO17.out
            ·have hka : Bk (w9.alloc (.cells #[.int .u64 y] 51)) g10 55 #[.int .i64 hd.k, .int .i64 hd.c, .int .i64 hd.f] := HK9.out.alloc _
             have hoa := HO9.out.alloc (.cells #[.int .u64 y] 51)
             refine hka.grown HG17.out ?_
             intro e
             exact ownRow_bk hoa hka (by decide) e.symm
            ·exact (HB9.out.alloc (by omega) _).grown HG17.out (by simp; omega) (fun k hk => (HO9.out.lt k hk).1)
           case measure => simp [intOf]; omega
          ·have hz := HRQ.out
           rw [if_neg (by omega)] at hz
           have HZ := lh hz
           clear hz
           have g1 : decide (2 ≤ (q : Int)) = true := decide_eq_true (by omega)
           have g1g : decide ((q : Int) ≥ 2) = true := decide_eq_true (by omega)
           have g1n : decide (2 ≤ q) = true := decide_eq_true (by omega)
           have g2 : decide ((q : Int) < 2 + hd.f) = true := decide_eq_true (by omega)
           have hwp2 : IntKind.i64.wrap (2 + hd.f) = 2 + hd.f := IntWalk.i64_in _ (by omega)
           have e3 : (hd.k != 3) = false := by simp [hk3]
           clear h2 hf hk3
           go_upto_region 23 with fail
           clear g1 g1g g1n g2 hwp2 e3
           go_wp2_with (first | (at_builtin; refine wpList_append_own_at _ rfl (.tmp 119) (.tmp 121) 28 rfl w2.heap.size 51 i0 (.int .u64 0) 1 8 Tryz.underlying28 HI.out.1 HI.out.2.1 HI.out.2.2.1 HI.out.2.2.2 rfl (by decide) _ ((wl j).length + q) _ rfl (HO9.out.alloc _) ⟨w9.heap.size, 0, none⟩ 1 1 [.int .u64 y] rfl rfl (cell_one_new _ _ _) (by simp [Value.oneCell']) (by unfold maxLen; omega) (by omega) (by simp; omega) ?_; intro v17 w17 ho17 hg17 _ hl17; have HO17 := lh ho17; have HG17 := lh hg17; clear ho17 hg17 hl17))
           go_roundw
           case rel =>
            refine ⟨q + 1, by go_num, by omega, ?_, ?_, ?_⟩
            ·rw [HTK.out _ HZ.out, show (wl j).length + (q + 1) = (wl j).length + q + 1 by omega]
             exact HO17.out
            ·have hka : Bk (w9.alloc (.cells #[.int .u64 y] 51)) g10 55 #[.int .i64 hd.k, .int .i64 hd.c, .int .i64 hd.f] := HK9.out.alloc _
             have hoa := HO9.out.alloc (.cells #[.int .u64 y] 51)
             refine hka.grown HG17.out ?_
             intro e
             exact ownRow_bk hoa hka (by decide) e.symm
            ·exact (HB9.out.alloc (by omega) _).grown HG17.out (by simp; omega) (fun k hk => (HO9.out.lt k hk).1)
           case measure => simp [intOf]; omega
          ·have hz := HRQ.out
           rw [if_neg (by omega)] at hz
           have HZ := lh hz
           clear hz
           have g1 : decide (2 ≤ (q : Int)) = true := decide_eq_true (by omega)
           have g1g : decide ((q : Int) ≥ 2) = true := decide_eq_true (by omega)
           have g1n : decide (2 ≤ q) = true := decide_eq_true (by omega)
           have g2 : decide ((q : Int) < 2 + hd.f) = true := decide_eq_true (by omega)
           have hwp2 : IntKind.i64.wrap (2 + hd.f) = 2 + hd.f := IntWalk.i64_in _ (by omega)
           have e3 : (hd.k != 3) = true := by simp [hk3]
           have e4 : (hd.k != 4) = false := by simp [hk4]
           clear h2 hf hk3 hk4
           go_upto_region 23 with fail
           clear g1 g1g g1n g2 hwp2 e3 e4
           go_wp2_with (first | (at_builtin; refine wpList_append_own_at _ rfl (.tmp 119) (.tmp 121) 28 rfl w2.heap.size 51 i0 (.int .u64 0) 1 8 Tryz.underlying28 HI.out.1 HI.out.2.1 HI.out.2.2.1 HI.out.2.2.2 rfl (by decide) _ ((wl j).length + q) _ rfl (HO9.out.alloc _) ⟨w9.heap.size, 0, none⟩ 1 1 [.int .u64 y] rfl rfl (cell_one_new _ _ _) (by simp [Value.oneCell']) (by unfold maxLen; omega) (by omega) (by simp; omega) ?_; intro v17 w17 ho17 hg17 _ hl17; have HO17 := lh ho17; have HG17 := lh hg17; clear ho17 hg17 hl17))
           go_roundw
           case rel =>
            refine ⟨q + 1, by go_num, by omega, ?_, ?_, ?_⟩
            ·rw [HTK.out _ HZ.out, show (wl j).length + (q + 1) = (wl j).length + q + 1 by omega]
             exact HO17.out
            ·have hka : Bk (w9.alloc (.cells #[.int .u64 y] 51)) g10 55 #[.int .i64 hd.k, .int .i64 hd.c, .int .i64 hd.f] := HK9.out.alloc _
             have hoa := HO9.out.alloc (.cells #[.int .u64 y] 51)
             refine hka.grown HG17.out ?_
             intro e
             exact ownRow_bk hoa hka (by decide) e.symm
            ·exact (HB9.out.alloc (by omega) _).grown HG17.out (by simp; omega) (fun k hk => (HO9.out.lt k hk).1)
           case measure => simp [intOf]; omega
          ·have hz := HRQ.out
           rw [if_pos ⟨h2, hf, hk3, hk4⟩] at hz
           have g1 : decide (2 ≤ (q : Int)) = true := decide_eq_true (by omega)
           have g1g : decide ((q : Int) ≥ 2) = true := decide_eq_true (by omega)
           have g1n : decide (2 ≤ q) = true := decide_eq_true (by omega)
           have g2 : decide ((q : Int) < 2 + hd.f) = true := decide_eq_true (by omega)
           have hwp2 : IntKind.i64.wrap (2 + hd.f) = 2 + hd.f := IntWalk.i64_in _ (by omega)
           have e3 : (hd.k != 3) = true := by simp [hk3]
           have e4 : (hd.k != 4) = true := by simp [hk4]
           clear h2 hf hk3 hk4
           have cU := HCU2.out w9 HB9.out y HYU.out
           obtain ⟨uv, ub, hud, huv⟩ : ∃ uv ub, updR ((Mm.one s).updW s.base ms y) = .tuple #[.int .u64 uv, .bool ub] ∧ uv = ((Mm.one s).updW s.base ms y).getD 0 := by
            cases (Mm.one s).updW s.base ms y with
            | none => exact ⟨0, false, rfl, rfl⟩
            | some z => exact ⟨z, true, rfl, rfl⟩
           rw [hud] at cU
           rw [← huv] at hz
           have HZ := lh hz
           have hq9 := HQ2.out.below HB9.out HQ2.out.lt
           have y0 : w9.cell? ⟨w.heap.size, 0, none⟩ = some (.int .i64 s.base) := hq9.cell 0
           have y1 : w9.cell? ⟨w.heap.size, 1, none⟩ = some (.int .i64 s.limit) := hq9.cell 1
           have y2 : w9.cell? ⟨w.heap.size, 2, none⟩ = some (.slice A s.ws.length c) := hq9.cell 2
           clear hud huv hz hq9
           go_wp2_with fail
           refine cU.mono ?_
           rintro e w10 ⟨rfl, hb10⟩
           have HB10 := lh (HB9.out.trans (hb10.mono hw9))
           have HK10 := lh (HK9.out.below hb10 HK9.out.lt)
           have HO10 := lh (own_local HO9.out (w' := w10) fun k hk => hb10.block k (HO9.out.lt k hk).2)
           have hw10 := HB10.out.size
           clear cU hb10 y0 y1 y2 d0 d1 d2 g1 g1g g1n g2 hwp2 e3 e4
           go_wp2_with (first | (at_builtin; refine wpList_append_own_at _ rfl (.tmp 119) (.tmp 121) 28 rfl w2.heap.size 51 i0 (.int .u64 0) 1 8 Tryz.underlying28 HI.out.1 HI.out.2.1 HI.out.2.2.1 HI.out.2.2.2 rfl (by decide) _ ((wl j).length + q) _ rfl (HO10.out.alloc _) ⟨w10.heap.size, 0, none⟩ 1 1 [.int .u64 uv] rfl rfl (cell_one_new _ _ _) (by simp [Value.oneCell']) (by unfold maxLen; omega) (by omega) (by simp; omega) ?_; intro v17 w17 ho17 hg17 _ hl17; have HO17 := lh ho17; have HG17 := lh hg17; clear ho17 hg17 hl17))
           go_roundw
           case rel =>
            refine ⟨q + 1, by go_num, by omega, ?_, ?_, ?_⟩
            ·rw [HTK.out _ HZ.out, show (wl j).length + (q + 1) = (wl j).length + q + 1 by omega]
             exact HO17.out
            ·have hka : Bk (w10.alloc (.cells #[.int .u64 uv] 51)) g10 55 #[.int .i64 hd.k, .int .i64 hd.c, .int .i64 hd.f] := HK10.out.alloc _
             have hoa := HO10.out.alloc (.cells #[.int .u64 uv] 51)
             refine hka.grown HG17.out ?_
             intro e
             exact ownRow_bk hoa hka (by decide) e.symm
            ·exact (HB10.out.alloc (by omega) _).grown HG17.out (by simp; omega) (fun k hk => (HO10.out.lt k hk).1)
           case measure => simp [intOf]; omega
        ·obtain rfl : q = rm.length := by omega
         have hlt4 : ¬ ((rm.length : Nat) : Int) < wH hd := by omega
         have hltd : decide (((rm.length : Nat) : Int) < wH hd) = false := decide_eq_false hlt4
         clear hown3 hk3 hbr3
         go_wp2_with fail
         refine (cW _).mono ?_
         rintro e w7 ⟨rfl, hb7⟩
         have HB7 := lh (HBR3.out.trans (hb7.mono hbs3))
         have HO7 := lh (own_local HOWN3.out (w' := w7) fun k hk => hb7.block k (HOWN3.out.lt k hk).2)
         clear hb7 d0 d1 d2
         go_wp2_with fail
         go_roundw
         case rel =>
          refine ⟨j + 1, by go_num, by omega, ?_, HB7.out⟩
          have := HO7.out
          rw [List.take_length] at this
          rw [HWSJ.out, List.length_append]
          exact this
         case measure => simp [intOf]; omega
     ·obtain rfl : j = ms.length := by omega
      have hjI : ¬ ((ms.length : Nat) : Int) < (ms.length : Int) := by omega
      have HQR6 := lh (HQ62.out.below hbr HQ62.out.lt)
      have HO2r := lh (own_local HO2.out (w' := wr) fun k hk => hbr.block k (HO2.out.lt k hk).2)
      have HBE := lh (HBW2.out.trans (hbr.mono hw2))
      clear hbr
      have d0 : wr.cell? ⟨w.heap.size, 0, none⟩ = some (.int .i64 s.base) := HQR.out.cell 0
      have d1 : wr.cell? ⟨w.heap.size, 1, none⟩ = some (.int .i64 s.limit) := HQR.out.cell 1
      have d2 : wr.cell? ⟨w.heap.size, 2, none⟩ = some (.slice A s.ws.length c) := HQR.out.cell 2
      have k0 : wr.cell? ⟨w.heap.size + 1, 0, none⟩ = some (.int .i64 0) := HQR6.out.cell 0
      have k1 : wr.cell? ⟨w.heap.size + 1, 1, none⟩ = some (.int .i64 0) := HQR6.out.cell 1
      have k2 : wr.cell? ⟨w.heap.size + 1, 2, none⟩ = some (.slice none 0 0) := HQR6.out.cell 2
      have f0 := HQR6.out.free 0
      have f1 := HQR6.out.free 1
      have f2 := HQR6.out.free 2
      clear hown
      have hwl1 : w.heap.size ≤ w1.heap.size := HB1.out.size
      go_wp2_with fail
      have hS6 := set3_bk HQR6.out (.int .i64 s.base) (.int .i64 s.limit) (.slice A3 (wl ms.length).length c3)
      have e0 := hS6.cell 0
      have e1 := hS6.cell 1
      have e2 := hS6.cell 2
      simp only [List.getElem?_toArray, List.getElem?_cons_zero, List.getElem?_cons_succ] at e0 e1 e2
      refine bodyPost_ret (v := .tuple #[.agg #[.int .i64 s.base, .int .i64 s.limit, .slice A3 (wl ms.length).length c3], .slice Ao out.length co, .int .i64 (ms.length : Int), .int .i64 0]) (by simp [results, Tryz.results40, go_sem, e0, e1, e2]) rfl ?_
      have hset : ∀ k, k ≠ w.heap.size + 1 → (((wr.setCell ⟨w.heap.size + 1, 0, none⟩ (.int .i64 s.base)).setCell ⟨w.heap.size + 1, 1, none⟩ (.int .i64 s.limit)).setCell ⟨w.heap.size + 1, 2, none⟩ (.slice A3 (wl ms.length).length c3)).heap[k]? = wr.heap[k]? := fun k hk => by
       rw [Below.heap_setCell _ _ _ _ hk, Below.heap_setCell _ _ _ _ hk, Below.heap_setCell _ _ _ _ hk]
      have k1 := own_local (ownBase HOWN.out hw2) fun k hk => hset k fun e => ownRow_bk HOWN.out HQR6.out (by decide) (e ▸ hk)
      have k2 := own_local (ownBase HO2r.out hwl1) fun k hk => hset k fun e => ownRow_bk HO2r.out HQR6.out (by decide) (e ▸ hk)
      have hfin := HQS.out out HUL.out A3 c3 (.slice Ao out.length co) (((wr.setCell ⟨w.heap.size + 1, 0, none⟩ (.int .i64 s.base)).setCell ⟨w.heap.size + 1, 1, none⟩ (.int .i64 s.limit)).setCell ⟨w.heap.size + 1, 2, none⟩ (.slice A3 (wl ms.length).length c3)) (below_set3 HBE.out (by omega) _ _ _)
      rw [← HWN.out] at hfin
      exact hfin k1 k2
end
end Go.Proofs.YtjpaogapclfajaaGreat
