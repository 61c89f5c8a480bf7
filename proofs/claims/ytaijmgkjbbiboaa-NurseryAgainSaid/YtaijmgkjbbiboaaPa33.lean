/- Parts of the proof: Again10. -/
import Derived.Test.YtaijmgkjbbiboaaPaA
import Derived.Test.YtaijmgkjbbiboaaPa31
import Derived.Test.YtaijmgkjbbiboaaPa32
set_option linter.unusedVariables false
set_option linter.unusedSimpArgs false
set_option linter.unusedSectionVars false
set_option maxRecDepth 100000
namespace Go.Proofs.Ytaijmgkjbbiboaa
section
open Go.RowKit Go.Sort
attribute [local go_sem] Oper.semAt_some onlyN_normal
section
variable {w : World} {Al A3 : Option Addr} {n cl n3 c3 : Nat} {limit : Int}
theorem again10_big (h : ¬ (n ≤ 60 ∧ n3 ≤ 20 ∧ limit ≤ 2000)) : Calls Try.prog 3 #[.int .i64 limit, .slice Al n cl, .slice A3 n3 c3] w fun e w' => e = .returned (.bool true) ∧ Below w.heap.size w w' := by
 have cA := awake10_any w
 by_cases hm : 60 < n ∨ 20 < n3
 ·have cM := fun {w1 : World} => Many10_any (w := w1) (Al := Al) (n := n) (cl := cl) (r := n3)
  rw [decide_eq_true hm] at cM
  clear h hm
  go_enter Try.func3, Try.ntmps3
  go_wp2_with fail
  refine cA.mono ?_
  rintro e w1 ⟨rfl, hb1⟩
  have HB1 := lh hb1
  clear hb1 cA
  go_wp2_with fail
  refine cM.mono ?_
  rintro e w2 ⟨rfl, rfl⟩
  clear cM
  go_wp2_with fail
  go_ret
  exact ⟨rfl, HB1.out⟩
 ·have cM := fun {w1 : World} => Many10_any (w := w1) (Al := Al) (n := n) (cl := cl) (r := n3)
  rw [decide_eq_false hm] at cM
  have hl : 2000 < limit := by omega
  have dl : decide (limit > 2000) = true := decide_eq_true (by omega)
  clear h hm hl
  go_enter Try.func3, Try.ntmps3
  go_wp2_with fail
  refine cA.mono ?_
  rintro e w1 ⟨rfl, hb1⟩
  have HB1 := lh hb1
  clear hb1 cA
  go_wp2_with fail
  refine cM.mono ?_
  rintro e w2 ⟨rfl, rfl⟩
  clear cM
  go_wp2_with fail
  go_ret
  exact ⟨rfl, HB1.out⟩
end
section
variable {w : World} {Al : Option Addr} {cl : Nat} {l : List OpV} {limit : Int} {chs : List Int} {Ac : Option Addr} {cc : Nat}
set_option maxHeartbeats 16000000 in
theorem again10_main (hl : Op10 w Al l) (hcl : l.length ≤ cl) (hn : l.length ≤ 60) (h3 : IS w chs Ac cc) (h3r : ∀ x ∈ chs, -9223372036854775808 ≤ x ∧ x ≤ 9223372036854775807) (hn3 : chs.length ≤ 20) (hlim : limit ≤ 2000) : Calls Try.prog 3 #[.int .i64 limit, .slice Al l.length cl, .slice Ac chs.length cc] w fun e w' => e = .returned (.bool true) ∧ Below w.heap.size w w' := by
 have cA := awake10_any w
 have cM := fun {w1 : World} => Many10_any (w := w1) (Al := Al) (n := l.length) (cl := cl) (r := chs.length)
 rw [decide_eq_false (show ¬ (60 < l.length ∨ 20 < chs.length) by omega)] at cM
 have cO := fun {w1 : World} (hb : Below w.heap.size w w1) => Open10_any (hl.below hb rfl) hcl (by omega) limit
 have dl : decide (limit > 2000) = false := decide_eq_false (by omega)
 have HR0 : Hid (∀ {w1 : World}, Below w.heap.size w w1 → IS w1 chs Ac cc) := lh fun hb => h3.below hb
 have HRU := lh (And.intro h3r hn3)
 clear h3 h3r hn3
 have HLN := lh (And.intro hn hlim)
 clear hl hcl hn hlim
 go_enter Try.func3, Try.ntmps3
 go_wp2_with fail
 refine cA.mono ?_
 rintro e wa ⟨rfl, hba⟩
 have HBA := lh hba
 have cO1 := cO hba
 clear hba cA cO
 go_wp2_with fail
 refine cM.mono ?_
 rintro e wb ⟨rfl, rfl⟩
 clear cM
 go_wp2_with fail
 refine cO1.mono ?_
 rintro e w2 ⟨hop, hin⟩
 obtain ⟨g1, g2, V1, V2, gt, bt, k, A1, u1, A2, u2, A, u, Ax, cx, Ah, ch, B1, rfl, hen⟩ := Env10.start hop (by have := hin.cs.len; have := HLN.out; omega)
 obtain ⟨s, hs⟩ : ∃ s, s = bld10 limit l := ⟨_, rfl⟩
 rw [← hs] at hin hen ⊢
 have HIN := lh hin
 have HEN := lh hen
 have HXL : Hid (s.xs.length ≤ 60 ∧ s.cs.length ≤ 60 ∧ s.m.size ≤ 40000000) := lh ⟨by have := hin.xl; have := HLN.out; omega, by have := hin.cs.len; have := HLN.out; omega, hin.size⟩
 clear hs
 clear hop hin hen cO1
 go_upto_region 8 with fail
 obtain ⟨w3, hw3⟩ : ∃ w3, w3 = (w2.alloc (.cells #[.pointer (some ⟨g1, 0, none⟩), .pointer (some ⟨g2, 0, none⟩)] 28)).alloc (.cells #[.int .i64 s.m.old.base, .int .i64 s.m.old.limit, .slice A1 s.m.old.ws.length u1, .int .i64 s.m.yng.base, .int .i64 s.m.yng.limit, .slice A2 s.m.yng.ws.length u2, .slice A s.cs.length u, .slice Ax s.xs.length cx, .slice Ah s.hs.length ch] 39) := ⟨_, rfl⟩
 obtain ⟨bm, hbm⟩ : ∃ bm, bm = w2.heap.size := ⟨_, rfl⟩
 obtain ⟨bx, hbx⟩ : ∃ bx, bx = w2.heap.size + 1 := ⟨_, rfl⟩
 rw [← hw3, ← hbx, ← hbm] at HEN
 rw [← hw3, ← hbx, ← hbm]
 clear hw3 hbm hbx
 have HB3 : Hid (Below w.heap.size w w3) := lh (HBA.out.trans (HEN.out.bl.mono HBA.out.size))
 have HM := lh HEN.out.hm
 have HX := lh HEN.out.hx
 obtain ⟨rt, hrt⟩ : ∃ rt, rt = rts10 s.xs chs := ⟨_, rfl⟩
 have HRT : Hid (rt.length ≤ 20 ∧ ∀ x ∈ rt, U64 x) := lh (by
  rw [hrt]
  exact ⟨by unfold rts10; rw [List.length_map]; exact HRU.out.2, rts10_u _ _⟩)
 have HRE := lh hrt
 clear hrt
 refine wp_region_first 5 (fun i => ([[], [], [], [], [2, 3]] : List (List Nat)).getD i []) (EL [Ent.val (.agg #[.pointer (some ⟨g1, 0, none⟩), .pointer (some ⟨g2, 0, none⟩)]), Ent.val (.pointer (some ⟨gt, 0, none⟩)), Ent.val (.agg #[.int .i64 s.m.old.base, .int .i64 s.m.old.limit, .slice A1 s.m.old.ws.length u1, .int .i64 s.m.yng.base, .int .i64 s.m.yng.limit, .slice A2 s.m.yng.ws.length u2, .slice A s.cs.length u, .slice Ax s.xs.length cx, .slice Ah s.hs.length ch]), Ent.val (.slice Ac chs.length cc), Ent.of (WsT w3.heap.size rt) WsT.bl]) rfl (by kernel_rfl) (by kernel_rfl) (by kernel_rfl) (by rfl) ?_ ?_
 ·intro i hi o ho vs w1 hb1 hgr
  rcases (show i = 0 ∨ i = 1 ∨ i = 2 ∨ i = 3 ∨ i = 4 by omega) with rfl | rfl | rfl | rfl | rfl <;> cases ho
  ·clear hgr
   change Made _ (Adds _ _ _) (Sem.run _ (execOp (Act.eval (frm _ _ _ [])) _) _)
   simp only [frm]
   have hbk := HM.out.below hb1 HM.out.lt
   have c0 : w1.cell? ⟨bm, 0, none⟩ = some (.pointer (some ⟨g1, 0, none⟩)) := hbk.cell 0
   have c1 : w1.cell? ⟨bm, 1, none⟩ = some (.pointer (some ⟨g2, 0, none⟩)) := hbk.cell 1
   clear hbk
   go_simp
   exact adds_val rfl
  ·clear hgr
   change Made _ (Adds _ _ _) (Sem.run _ (execOp (Act.eval (frm _ _ _ [])) _) _)
   simp only [frm]
   go_simp
   exact adds_val rfl
  ·clear hgr
   change Made _ (Adds _ _ _) (Sem.run _ (execOp (Act.eval (frm _ _ _ [])) _) _)
   simp only [frm]
   have hbk := HX.out.below hb1 HX.out.lt
   have c0 : w1.cell? ⟨bx, 0, none⟩ = some (.int .i64 s.m.old.base) := hbk.cell 0
   have c1 : w1.cell? ⟨bx, 1, none⟩ = some (.int .i64 s.m.old.limit) := hbk.cell 1
   have c2 : w1.cell? ⟨bx, 2, none⟩ = some (.slice A1 s.m.old.ws.length u1) := hbk.cell 2
   have c3 : w1.cell? ⟨bx, 3, none⟩ = some (.int .i64 s.m.yng.base) := hbk.cell 3
   have c4 : w1.cell? ⟨bx, 4, none⟩ = some (.int .i64 s.m.yng.limit) := hbk.cell 4
   have c5 : w1.cell? ⟨bx, 5, none⟩ = some (.slice A2 s.m.yng.ws.length u2) := hbk.cell 5
   have c6 : w1.cell? ⟨bx, 6, none⟩ = some (.slice A s.cs.length u) := hbk.cell 6
   have c7 : w1.cell? ⟨bx, 7, none⟩ = some (.slice Ax s.xs.length cx) := hbk.cell 7
   have c8 : w1.cell? ⟨bx, 8, none⟩ = some (.slice Ah s.hs.length ch) := hbk.cell 8
   clear hbk
   go_simp
   exact adds_val rfl
  ·clear hgr
   change Made _ (Adds _ _ _) (Sem.run _ (execOp (Act.eval (frm _ _ _ [])) _) _)
   simp only [frm]
   go_simp
   exact adds_val rfl
  ·have h2 : vs 2 = _ := hgr 2 (by decide)
   have h3 : vs 3 = _ := hgr 3 (by decide)
   clear hgr
   change Made _ (Adds _ _ _) (Sem.run _ (execOp (Act.eval (Act.put (Act.put (frm _ _ _ []) (some 48) (vs 3)) (some 47) (vs 2))) _) _)
   simp only [frm, h2, h3]
   have cM := (HEN.out.below hb1).roots (by have := HXL.out.1; omega) (HR0.out (HB3.out.trans (hb1.mono HB3.out.size))) (by have := HRU.out.2; omega) HRU.out.1
   unfold Rts10P at cM
   rw [← HRE.out] at cM
   go_simp
   exact adds_call (T := WsT w3.heap.size rt) (hT := WsT.bl) (ob := fun _ => none) cM fun e w2 ⟨v, he, ho, hb⟩ => ⟨v, he, WsT.of ho hb1.size, hb, (fun k hk => nomatch hk)⟩
 intro vs w1 hb1 hall hap
 have h0 : vs 0 = _ := (hall 0 (by omega)).1
 have h1 : vs 1 = _ := (hall 1 (by omega)).1
 have h2 : vs 2 = _ := (hall 2 (by omega)).1
 have h3 : vs 3 = _ := (hall 3 (by omega)).1
 obtain ⟨Ar, cr, h4, hsr, hcr, hgr4⟩ := (hall 4 (by omega)).1
 clear hall hap
 change wpList _ _ _ [_] (Act.put (Act.put (Act.put (Act.put (Act.put (frm _ _ _ []) (some 49) (vs 4)) (some 48) (vs 3)) (some 47) (vs 2)) (some 46) (vs 1)) (some 45) (vs 0)) _
 simp only [frm, h0, h1, h2, h3, h4]
 have HE3 := lh (HEN.out.below hb1)
 have HRG := lh hgr4
 have hcol := HE3.out.collect hsr hcr (by have := HRT.out.1; omega) HRT.out.2 (fun b' o e => by
  have h1 := HRG.out b' o e
  exact ⟨h1.2, fun e' => by have := HEN.out.lt e'; omega⟩) HXL.out.2.2
 obtain ⟨Q1, hQ1⟩ : ∃ Q1, Q1 = ColP w1 B1 B1 g1 g2 gt bt k V1 V2 (s.m.collect s.m.yng.chk s.cs rt) := ⟨_, rfl⟩
 rw [← hQ1] at hcol
 clear hb1 hsr hcr hgr4 HEN HM HX
 go_wp2_with fail
 refine hcol.mono ?_
 rintro e w4 hcp
 rw [hQ1] at hcp
 obtain ⟨v, V1', V2', k', rfl, hov, hen4, hnc, _⟩ := HE3.out.col hcp
 obtain ⟨C, hC⟩ : ∃ C, C = s.m.collect s.m.yng.chk s.cs rt := ⟨_, rfl⟩
 rw [← hC] at hov hen4 ⊢
 obtain ⟨Av, cv, rfl, hcv⟩ := own_shape hov
 have HC := lh hC
 have HE4 := lh hen4
 have HV4 := lh (And.intro hcv (own_sl hov))
 have HN4 : Hid (∀ b o, Av = some ⟨b, o, none⟩ → b < w4.heap.size ∧ ¬ colS g1 g2 V1' V2' bt b) := lh (fun b o e => ⟨(hov.lt b (by rw [e]; rfl)).2, hnc b (by rw [e]; rfl)⟩)
 obtain ⟨nl, hnl⟩ : ∃ nl, nl = C.out.length := ⟨_, rfl⟩
 obtain ⟨ce, hce⟩ : ∃ ce, ce = C.e := ⟨_, rfl⟩
 obtain ⟨cn, hcn⟩ : ∃ cn, cn = C.n := ⟨_, rfl⟩
 have HNL := lh (And.intro hnl (And.intro hce hcn))
 rw [← hnl, ← hce, ← hcn]
 clear hcol hQ1 hcp hov hen4 hC HE3 HRG hcv hnc hnl hce hcn
 go_wp2_with fail
 simp only [normalTo]
 refine phase2_all 6 13 (fun i => ([[], [], [], [], [2, 3], [0, 1, 4], [5], [6], [6], [6], [7], [8], [9]] : List (List Nat)).getD i []) (EL [Ent.val (.agg #[.pointer (some ⟨g1, 0, none⟩), .pointer (some ⟨g2, 0, none⟩)]), Ent.val (.pointer (some ⟨gt, 0, none⟩)), Ent.val (.agg #[.int .i64 s.m.old.base, .int .i64 s.m.old.limit, .slice A1 s.m.old.ws.length u1, .int .i64 s.m.yng.base, .int .i64 s.m.yng.limit, .slice A2 s.m.yng.ws.length u2, .slice A s.cs.length u, .slice Ax s.xs.length cx, .slice Ah s.hs.length ch]), Ent.val (.slice Ac chs.length cc), Ent.val (.slice Ar rt.length cr), Ent.val (.tuple #[.slice Av nl cv, .int .i64 cn, .int .i64 ce]), Ent.val (.tuple #[.slice Av nl cv, .int .i64 cn, .int .i64 ce]), Ent.val (.slice Av nl cv), Ent.val (.int .i64 cn), Ent.val (.int .i64 ce), Ent.val (.slice Av nl cv), Ent.val (.int .i64 cn), Ent.val (.int .i64 ce)]) (by kernel_rfl) rfl (by omega) (by kernel_rfl) (by kernel_rfl) (by rfl) ?_ ?_ ?_
 ·intro i hi
  rcases (show i = 0 ∨ i = 1 ∨ i = 2 ∨ i = 3 ∨ i = 4 ∨ i = 5 by omega) with rfl | rfl | rfl | rfl | rfl | rfl <;> exact ⟨rfl, fun _ => rfl⟩
 ·intro i hmi hi o ho vs w5 hb1 hgr
  rcases (show i = 6 ∨ i = 7 ∨ i = 8 ∨ i = 9 ∨ i = 10 ∨ i = 11 ∨ i = 12 by omega) with rfl | rfl | rfl | rfl | rfl | rfl | rfl <;> cases ho
  ·have h5 : vs 5 = _ := hgr 5 (by decide)
   clear hgr
   change Made _ (Adds _ _ _) (Sem.run _ (execOp (Act.eval (Act.put (frm _ _ _ []) (some 50) (vs 5))) _) _)
   simp only [frm, h5]
   go_simp
   exact adds_val rfl
  ·have h6 : vs 6 = _ := hgr 6 (by decide)
   clear hgr
   change Made _ (Adds _ _ _) (Sem.run _ (execOp (Act.eval (Act.put (frm _ _ _ []) (some 44) (vs 6))) _) _)
   simp only [frm, h6]
   go_simp
   exact adds_val rfl
  ·have h6 : vs 6 = _ := hgr 6 (by decide)
   clear hgr
   change Made _ (Adds _ _ _) (Sem.run _ (execOp (Act.eval (Act.put (frm _ _ _ []) (some 44) (vs 6))) _) _)
   simp only [frm, h6]
   go_simp
   exact adds_val rfl
  ·have h6 : vs 6 = _ := hgr 6 (by decide)
   clear hgr
   change Made _ (Adds _ _ _) (Sem.run _ (execOp (Act.eval (Act.put (frm _ _ _ []) (some 44) (vs 6))) _) _)
   simp only [frm, h6]
   go_simp
   exact adds_val rfl
  ·have h7 : vs 7 = _ := hgr 7 (by decide)
   clear hgr
   change Made _ (Adds _ _ _) (Sem.run _ (execOp (Act.eval (Act.put (frm _ _ _ []) (some 51) (vs 7))) _) _)
   simp only [frm, h7]
   go_simp
   exact adds_val rfl
  ·have h8 : vs 8 = _ := hgr 8 (by decide)
   clear hgr
   change Made _ (Adds _ _ _) (Sem.run _ (execOp (Act.eval (Act.put (frm _ _ _ []) (some 52) (vs 8))) _) _)
   simp only [frm, h8]
   go_simp
   exact adds_val rfl
  ·have h9 : vs 9 = _ := hgr 9 (by decide)
   clear hgr
   change Made _ (Adds _ _ _) (Sem.run _ (execOp (Act.eval (Act.put (frm _ _ _ []) (some 53) (vs 9))) _) _)
   simp only [frm, h9]
   go_simp
   exact adds_val rfl
 intro vs w5 hb1 hall hap
 have h10 : vs 10 = _ := (hall 10 (by omega)).1
 have h11 : vs 11 = _ := (hall 11 (by omega)).1
 have h12 : vs 12 = _ := (hall 12 (by omega)).1
 clear hall hap
 change wpList _ _ _ [] (Act.put (Act.put (Act.put (Act.put (Act.put (Act.put (Act.put (Act.put (Act.put (Act.put (Act.put (Act.put (Act.put (frm _ _ _ []) (some 13) (vs 12)) (some 12) (vs 11)) (some 11) (vs 10)) (some 53) (vs 9)) (some 52) (vs 8)) (some 51) (vs 7)) (some 44) (vs 6)) (some 50) (vs 5)) (some 49) (vs 4)) (some 48) (vs 3)) (some 47) (vs 2)) (some 46) (vs 1)) (some 45) (vs 0)) _
 simp only [frm, h10, h11, h12]
 have HE5 := lh (HE4.out.below hb1)
 have HV5 := lh (And.intro HV4.out.1 (HV4.out.2.below hb1))
 have HN5 : Hid (∀ b o, Av = some ⟨b, o, none⟩ → b < w5.heap.size ∧ ¬ colS g1 g2 V1' V2' bt b) := lh (fun b o e => ⟨Nat.lt_of_lt_of_le (HN4.out b o e).1 hb1.size, (HN4.out b o e).2⟩)
 have HB5 := lh (HBA.out.trans (HE5.out.bl.mono HBA.out.size))
 clear hb1 h10 h11 h12 HE4 HV4 HN4
 go_simp
 change Exit.then _ _ _ _ _
 by_cases he : ce = 0
 case neg =>
  have de : decide (ce ≠ 0) = true := decide_eq_true he
  have de2 : (ce == 0) = false := by simpa using he
  have de3 : (ce != 0) = true := by simpa using he
  clear he
  go_wp2_with fail
  go_ret
  exact ⟨rfl, HB5.out⟩
 case pos =>
  have heC : (s.m.collect s.m.yng.chk s.cs rt).e = 0 := by rw [← HC.out, ← HNL.out.2.1]; exact he
  obtain ⟨L, U, Z, hf, _, _, hc⟩ := collect_0 HIN.out.ok heC
  have hCe := HC.out.trans hc
  subst hCe
  subst he
  have HF := lh hf
  obtain ⟨M, hM⟩ : ∃ M, M = (s.m.mid U Z).emp := ⟨_, rfl⟩
  obtain ⟨nw, hnw⟩ : ∃ nw, nw = rt.map (s.m.mvd L (s.m.plc s.m.old.top L)) := ⟨_, rfl⟩
  rw [← hM, ← hnw] at HE5
  rw [← hnw] at HV5 HNL
  dsimp only at HE5 HV5 HNL
  have HNW : Hid (nl = nw.length ∧ nw.length ≤ 20 ∧ (∀ x ∈ nw, ygW x = false) ∧ ∀ x ∈ nw, U64 x) := lh (by
   refine ⟨HNL.out.1, by rw [hnw, List.length_map]; exact HRT.out.1, ?_, fun x hx => ?_⟩
   ·rw [hnw]; exact hf.out_old
   ·rw [hnw] at hx
    obtain ⟨y, hy, rfl⟩ := List.mem_map.1 hx
    exact Mm.mvd_u _ _ _ (HRT.out.2 y hy))
  have hMy : M.yng.ws = [] := by rw [hM]; rfl
  have HMC : Hid (M.collect M.yng.chk [] nw = ⟨0, M, [], nw, 0⟩ ∧ M.order [] nw = ([], false) ∧ M.size ≤ 40000000) := lh (by
   refine ⟨Mm.collect_none HE5.out.mr.ok hMy HNW.out.2.2.1, M.order_none HNW.out.2.2.1, ?_⟩
   have h1 := HE5.out.mr.ok.o.lim
   have h2 := HE5.out.mr.ok.ol
   have h3 := HE5.out.mr.ok.ob
   unfold Mm.size
   rw [hMy]
   simp
   omega)
  obtain ⟨T, hT⟩ : ∃ T, T = M.old.ws.length := ⟨_, rfl⟩
  have HT : Hid (T = M.old.ws.length ∧ M.old.top = (T : Int) ∧ T ≤ 16777216) := lh (by
   have h1 := HE5.out.mr.ok.o.lim
   have h2 := HE5.out.mr.ok.ol
   have h3 := HE5.out.mr.ok.ob
   refine ⟨hT, ?_, by omega⟩
   unfold Spc.top
   omega)
  have HLW : Hid (∀ j : Nat, j < T → ∃ x, M.old.ws[j]? = some x ∧ M.at_ (j : Int) = some x ∧ U64 x) := lh (fun j hj => by
   have h3 := HE5.out.mr.ok.ob
   have hx : M.old.ws[j]? = some (M.old.ws[j]'(by omega)) := List.getElem?_eq_getElem (by omega)
   refine ⟨_, hx, ?_, HE5.out.mr.ok.o.u _ (List.mem_of_getElem? hx)⟩
   have h4 := Spc.at_of (a := (j : Int)) h3 (by omega) (by rw [Int.toNat_natCast]; exact hx)
   unfold Mm.at_ Mm.sp
   rw [if_pos (Spc.at_has h4)]
   exact h4)
  obtain ⟨i0, hi, hz0, hz1, hz2⟩ := info_parts i_word10
  have HI := lh (And.intro hi (And.intro hz0 (And.intro hz1 hz2)))
  have hnlw := HNW.out.1
  subst hnlw
  clear heC hc hf hM hnw hMy hT hi hz0 hz1 hz2 HNL HC
  go_wp2_with fail
  go_loopw [14, 15] (fun v ix wr => ∃ j : Nat, ix = .int .i64 (j : Int) ∧ j ≤ T ∧ wr.ownsRow w5.heap.size 47 1 v j (wds (M.old.ws.take j)) ∧ Below w5.heap.size w5 wr) (fun _ ix _ => T - (intOf ix).toNat)
  case atStart =>
   refine ⟨0, rfl, Nat.zero_le _, ?_, (Below.refl _ _).alloc (Nat.le_refl _) _⟩
   exact ownEmpty 1 (Bk.new _ _ _) (Nat.le_refl _)
  case round =>
   obtain ⟨j, rfl, hj, hown, hb⟩ := hrel
   have HO := lh hown
   have HBL := lh hb
   have HEL := lh (HE5.out.below hb)
   have cT := Top_any HEL.out.mr.o
   rw [HT.out.2.1] at cT
   have hT3 := HT.out.2.2
   have mc0 : wr.cell? ⟨bm, 0, none⟩ = some (.pointer (some ⟨g1, 0, none⟩)) := HEL.out.hm.cell 0
   have mc1 : wr.cell? ⟨bm, 1, none⟩ = some (.pointer (some ⟨g2, 0, none⟩)) := HEL.out.hm.cell 1
   obtain ⟨A0, c0, rfl, hac⟩ := own_shape hown
   clear hown hb
   go_wp2_with fail
   refine cT.mono ?_
   rintro e w6 ⟨rfl, hb6⟩
   have HE6 := lh (HEL.out.below hb6)
   have HB6 := lh (HBL.out.trans (hb6.mono HBL.out.size))
   have HO6 := lh (own_local HO.out fun q hq => hb6.block q (HO.out.lt q hq).2)
   clear cT hb6 mc0 mc1 HO HBL HEL
   by_cases hlt : j < T
   ·obtain ⟨x, hx, hat, hux⟩ := HLW.out j hlt
    have cL := MLoad_of HE6.out.mr (j : Int)
    rw [hat] at cL
    unfold atV at cL
    dsimp only at cL
    have HTK : Hid (wds (M.old.ws.take (j + 1)) = wds (M.old.ws.take j) ++ [.int .u64 x]) := lh (by rw [List.take_add_one, hx]; simp [wds])
    have mc0 : w6.cell? ⟨bm, 0, none⟩ = some (.pointer (some ⟨g1, 0, none⟩)) := HE6.out.hm.cell 0
    have mc1 : w6.cell? ⟨bm, 1, none⟩ = some (.pointer (some ⟨g2, 0, none⟩)) := HE6.out.hm.cell 1
    clear hx hat hux
    go_wp2_with fail
    refine cL.mono ?_
    rintro e w9 ⟨rfl, hb9⟩
    have HB9 := lh (HB6.out.trans (hb9.mono HB6.out.size))
    have HO9 := lh (own_local HO6.out fun q hq => hb9.block q (HO6.out.lt q hq).2)
    have hsz9 := HB9.out.size
    clear cL hb9 mc0 mc1 HE6 HB6 HO6
    go_wp2_with (at_builtin; refine wpList_append_own_at _ rfl (.tmp 70) (.tmp 72) 30 rfl w5.heap.size 47 i0 (.int .u64 0) 1 8 Try.underlying30 HI.out.1 HI.out.2.1 HI.out.2.2.1 HI.out.2.2.2 rfl (by decide) _ j _ rfl (HO9.out.alloc _) ⟨w9.heap.size, 0, none⟩ 1 1 [.int .u64 x] rfl rfl (cell_one_new _ _ _) (by simp [Value.oneCell']) (by unfold maxLen; omega) (by omega) (by simp; omega) ?_; intro v' w3 hown3 hg3 _ hloc; have HOWN3 := lh hown3; have HG3 := lh hg3; clear hown3 hg3 hloc)
    go_roundw
    case rel =>
     refine ⟨j + 1, by go_num, by omega, ?_, ?_⟩
     ·rw [HTK.out]; exact HOWN3.out
     ·exact (HB9.out.alloc (by have := HB9.out.size; omega) _).grown HG3.out (by have := HB9.out.size; simp; omega) (fun k hk => (HO9.out.lt k hk).1)
    case measure => simp [intOf]; omega
   ·have hjT : T = j := by omega
    subst hjT
    have hs6 := HV5.out.2.below HB6.out
    have cC := HE6.out.collect hs6 HV5.out.1 (by have := HNW.out.2.1; omega) HNW.out.2.2.2 (fun b o e => ⟨Nat.lt_of_lt_of_le (HN5.out b o e).1 HB6.out.size, (HN5.out b o e).2⟩) HMC.out.2.2
    rw [HMC.out.1] at cC
    obtain ⟨Q2, hQ2⟩ : ∃ Q2, Q2 = ColP w6 B1 B1 g1 g2 gt bt k' V1' V2' ⟨0, M, [], nw, 0⟩ := ⟨_, rfl⟩
    rw [← hQ2] at cC
    have mc0 : w6.cell? ⟨bm, 0, none⟩ = some (.pointer (some ⟨g1, 0, none⟩)) := HE6.out.hm.cell 0
    have mc1 : w6.cell? ⟨bm, 1, none⟩ = some (.pointer (some ⟨g2, 0, none⟩)) := HE6.out.hm.cell 1
    clear hs6
    go_wp2_with fail
    refine cC.mono ?_
    rintro e w7 hcp
    rw [hQ2] at hcp
    have hlt5 : ∀ q, colS g1 g2 V1' V2' bt q → q < w5.heap.size := fun q hq => HE5.out.lt hq
    obtain ⟨v7, V1'', V2'', k'', rfl, hov7, hen7, _, hk7⟩ := HE6.out.col hcp
    dsimp only at hov7 hen7 ⊢
    obtain ⟨A7, c7, rfl, hc7⟩ := own_shape hov7
    have HE7 := lh hen7
    have HO7 := lh (own_kp HO6.out hk7 fun q hq e' => by
     have h1 := (HO6.out.lt q hq).1
     have := hlt5 q e'
     omega)
    have HS7 := lh (own_sl hov7)
    have HV7 := lh ((HV5.out.2.below HB6.out).kpN hk7 fun b o e => (HN5.out b o e).2)
    have HL7 : Hid (∀ b o, Av = some ⟨b, o, none⟩ → b < w7.heap.size) := lh (fun b o e => Nat.lt_of_lt_of_le (Nat.lt_of_lt_of_le (HN5.out b o e).1 HB6.out.size) hk7.size)
    have HB7 := lh (HBA.out.trans (hen7.bl.mono HBA.out.size))
    have cW := Words_b (w := w7) (l := nw) (by have := HNW.out.2.1; omega) hc7 HV5.out.1 HS7.out HV7.out
    clear cC hQ2 hcp hov7 hen7 hk7 hlt5 hc7 mc0 mc1
    go_wp2_with fail
    refine cW.mono ?_
    rintro e w8 ⟨rfl, hb8⟩
    have HE8 := lh (HE7.out.below hb8)
    have HB8 := lh (HB7.out.trans (hb8.mono HB7.out.size))
    have HO8 := lh (own_local HO7.out fun q hq => hb8.block q (HO7.out.lt q hq).2)
    have HV8 := lh (HV7.out.below hb8)
    have HL8 : Hid (∀ b o, Av = some ⟨b, o, none⟩ → b < w8.heap.size) := lh (fun b o e => Nat.lt_of_lt_of_le (HL7.out b o e) hb8.size)
    have cT := Top_any HE8.out.mr.o
    rw [HT.out.2.1] at cT
    have mc0 : w8.cell? ⟨bm, 0, none⟩ = some (.pointer (some ⟨g1, 0, none⟩)) := HE8.out.hm.cell 0
    have mc1 : w8.cell? ⟨bm, 1, none⟩ = some (.pointer (some ⟨g2, 0, none⟩)) := HE8.out.hm.cell 1
    clear cW hb8
    go_wp2_with fail
    refine cT.mono ?_
    rintro e w9 ⟨rfl, hb9⟩
    have HE9 := lh (HE8.out.below hb9)
    have HB9 := lh (HB8.out.trans (hb9.mono HB8.out.size))
    have HO9 := lh (own_local HO8.out fun q hq => hb9.block q (HO8.out.lt q hq).2)
    have cR := HE9.out.reach (HV8.out.below hb9) HV5.out.1 (by have := HNW.out.2.1; omega) HNW.out.2.2.2 (fun b o e => Nat.lt_of_lt_of_le (HL8.out b o e) hb9.size) HMC.out.2.2
    rw [HMC.out.2.1] at cR
    clear cT hb9 mc0 mc1
    have mc0 : w9.cell? ⟨bm, 0, none⟩ = some (.pointer (some ⟨g1, 0, none⟩)) := HE9.out.hm.cell 0
    have mc1 : w9.cell? ⟨bm, 1, none⟩ = some (.pointer (some ⟨g2, 0, none⟩)) := HE9.out.hm.cell 1
    go_wp2_with fail
    refine cR.mono ?_
    rintro e w10 ⟨v10, rfl, ho10, hb10⟩
    obtain ⟨A10, c10, rfl, _⟩ := own_shape ho10
    have HE10 := lh (HE9.out.below hb10)
    have HB10 := lh (HB9.out.trans (hb10.mono HB9.out.size))
    have HO10 := lh (own_local HO9.out fun q hq => hb10.block q (HO9.out.lt q hq).2)
    clear cR hb10 ho10 mc0 mc1
    go_wp2_with fail
    go_loopw [21] (fun ix wr => ∃ i : Nat, ix = .int .i64 (i : Int) ∧ i ≤ T ∧ Below w10.heap.size w10 wr) (fun ix _ => T - (intOf ix).toNat)
    case atStart => exact ⟨0, rfl, Nat.zero_le _, Below.refl _ _⟩
    case round =>
     obtain ⟨i, rfl, hi, hb⟩ := hrel
     have HBI := lh hb
     by_cases hil : i < T
     ·obtain ⟨x, hx, hat, hux⟩ := HLW.out i hil
      have HEI := lh (HE10.out.below hb)
      have cL := MLoad_of HEI.out.mr (i : Int)
      rw [hat] at cL
      unfold atV at cL
      dsimp only at cL
      have hsl := own_sl HO10.out
      obtain ⟨bb, oo, hA, hbl, hc⟩ := (hsl.below hb).2.resolve_left (by omega)
      have htk : (M.old.ws.take T)[i]? = some x := by rw [List.getElem?_take_of_lt hil]; exact hx
      have hci : wr.cell? ⟨bb, oo + i, none⟩ = some (.int .u64 x) := hc i _ (wds_get htk)
      have HCI := lh (And.intro hbl hci)
      subst hA
      have hic : i < c0 := by omega
      have mc0 : wr.cell? ⟨bm, 0, none⟩ = some (.pointer (some ⟨g1, 0, none⟩)) := HEI.out.hm.cell 0
      have mc1 : wr.cell? ⟨bm, 1, none⟩ = some (.pointer (some ⟨g2, 0, none⟩)) := HEI.out.hm.cell 1
      clear hb hx hat hux hc hbl hci hsl htk
      go_wp2_with fail
      refine cL.mono ?_
      rintro e w11 ⟨rfl, hb11⟩
      have hci : w11.cell? ⟨bb, oo + i, none⟩ = some (.int .u64 x) := ((bcell hb11).1 _ _ HCI.out.1).trans HCI.out.2
      have HB11 := lh (HBI.out.trans (hb11.mono HBI.out.size))
      clear cL hb11 mc0 mc1
      go_wp2_with fail
      go_roundw
      case rel => exact ⟨i + 1, by go_num, by omega, HB11.out⟩
      case measure => simp [intOf]; omega
     ·have HBZ := lh (HB10.out.trans (hb.mono HB10.out.size))
      clear hb
      go_wp2_with fail
      go_ret
      exact ⟨rfl, HBZ.out⟩
theorem again10_any (hl : Op10 w Al l) (hcl : l.length ≤ cl) (h3 : IS w chs Ac cc) (h3r : ∀ x ∈ chs, -9223372036854775808 ≤ x ∧ x ≤ 9223372036854775807) : Calls Try.prog 3 #[.int .i64 limit, .slice Al l.length cl, .slice Ac chs.length cc] w fun e w' => e = .returned (.bool true) ∧ Below w.heap.size w w' := by
 by_cases h : l.length ≤ 60 ∧ chs.length ≤ 20 ∧ limit ≤ 2000
 ·exact again10_main hl hcl h.1 h3 h3r h.2.1 h.2.2
 ·exact again10_big h
end
end
end Go.Proofs.Ytaijmgkjbbiboaa
