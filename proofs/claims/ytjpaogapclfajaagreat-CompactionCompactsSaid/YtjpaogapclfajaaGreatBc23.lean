/- Parts of the proof: RMk4, IntsM, Env11, Leaves. -/
import Derived.BigQuiet
import Derived.Deep.DeepCutAuto
import Derived.Deep.QuietTactic
import Derived.StillTailTactics
import Derived.Test.YtjpaogapclfajaaGreatBcA
import Derived.Test.YtjpaogapclfajaaGreatBc10
import Derived.Test.YtjpaogapclfajaaGreatBc12
import Derived.Test.YtjpaogapclfajaaGreatBc16
import Derived.Test.YtjpaogapclfajaaGreatBc17
import Derived.Test.YtjpaogapclfajaaGreatBc19
import Derived.Test.YtjpaogapclfajaaGreatBc2
import Derived.Test.YtjpaogapclfajaaGreatBc21
import Derived.Test.YtjpaogapclfajaaGreatBc22
import Derived.Test.YtjpaogapclfajaaGreatBc3
set_option linter.unusedVariables false
set_option linter.unusedSimpArgs false
set_option linter.unusedSectionVars false
namespace Go.Proofs.YtjpaogapclfajaaGreat
open Go.RowKit Go.Sort
attribute [local go_sem] Oper.semAt_some
set_option maxRecDepth 100000
theorem insP_down {x : Int} {out : List Int} {k : Nat} {y : Int} (hy : out[k]? = some y) (h : x < y) : insP x out (k + 1) = insP x out k := by
 conv => lhs; unfold insP
 rw [List.getD_eq_getElem?_getD, hy, Option.getD_some, if_pos h]
theorem insP_stop {x : Int} {out : List Int} {k : Nat} {y : Int} (hy : out[k]? = some y) (h : ¬ x < y) : insP x out (k + 1) = k + 1 := by
 conv => lhs; unfold insP
 rw [List.getD_eq_getElem?_getD, hy, Option.getD_some, if_neg h]
theorem insS_len (out : List Int) (x : Int) : (insS out x).length = out.length + 1 := by
 rw [(insS_perm out x).length_eq, List.length_cons]
theorem wp_anyDrew {P : Program} {c : Code} {Q : Exit → Act → World → Prop} {a : Act} {wo : World} {n : Nat} (h : ∀ wq : World, wq.heap = wo.heap → Below wo.heap.size wo wq → c.wp P Q a wq) : c.wp P Q a (wo.drewN n) := h _ rfl (below_drewN (Below.refl _ _) n)
theorem ints_drop_one (l : List Int) : ∀ u ∈ ints l, u.oneCell' = true := by
 intro u hu
 obtain ⟨x, _, rfl⟩ := List.mem_map.1 hu
 rfl
def SOR (W : World) (gb ba oa n k cap na ca jx : Nat) (x : Int) (xs ys : List Value) : Nat → Value → World → Prop
 | 0, v, w => w.ownsRow W.heap.size 3 1 v (0) ([])
 | 1, v, _ => v = .slice (some ⟨gb, 0, none⟩) n cap
 | 2, v, _ => v = .int .i64 (k : Int)
 | 3, v, _ => v = .slice (some ⟨gb, 0, none⟩) k cap
 | 4, v, w => w.ownsRow W.heap.size 3 1 v (0 + k) ([] ++ xs)
 | 5, v, _ => v = .slice (some ⟨ba, oa, none⟩) na ca
 | 6, v, _ => v = .int .i64 (jx : Int)
 | 7, v, _ => v = .pointer (some ⟨ba, oa + jx, none⟩)
 | 8, v, _ => v = .int .i64 x
 | 9, v, w => ∃ g, v = .slice (some ⟨g, 0, none⟩) 1 1 ∧ Bk w g 3 #[.int .i64 x]
 | 10, v, w => w.ownsRow W.heap.size 3 1 v (0 + k + 1) ([] ++ xs ++ [.int .i64 x])
 | 11, v, _ => v = .slice (some ⟨gb, 0, none⟩) n cap
 | 12, v, _ => v = .int .i64 (k : Int)
 | 13, v, w => ∃ A9 c9, v = .slice A9 (n - k) c9 ∧ Sl W 1 A9 (n - k) ys
 | 14, v, w => w.ownsRow W.heap.size 3 1 v (0 + k + 1 + (n - k)) ([] ++ xs ++ [.int .i64 x] ++ ys)
 | _, _, _ => False
def SOO  : Nat → Value → Option Nat
 | 0, v => blkOf v
 | 4, v => blkOf v
 | 9, v => blkOf v
 | 10, v => blkOf v
 | 14, v => blkOf v
 | _, _ => none
def SOds : Nat → List Nat
 | 3 => [1, 2]
 | 4 => [0, 3]
 | 7 => [5, 6]
 | 8 => [7]
 | 9 => [8]
 | 10 => [4, 9]
 | 13 => [11, 12]
 | 14 => [10, 13]
 | _ => []
def SOeat : Nat → List Nat
 | 4 => [0]
 | 10 => [4]
 | 14 => [10]
 | _ => []
theorem SOR_loc {W : World} {gb ba oa n k cap na ca jx : Nat} {x : Int} {xs ys : List Value} (i : Nat) (v : Value) (w w' : World) (hi : i < 15) (h : SOR W gb ba oa n k cap na ca jx x xs ys i v w) (hw : Below W.heap.size W w) (hw' : Below W.heap.size W w') (hk : ∀ k, SOO  i v = some k → w'.heap[k]? = w.heap[k]?) : SOR W gb ba oa n k cap na ca jx x xs ys i v w' := by
 rcases (show i = 0 ∨ i = 1 ∨ i = 2 ∨ i = 3 ∨ i = 4 ∨ i = 5 ∨ i = 6 ∨ i = 7 ∨ i = 8 ∨ i = 9 ∨ i = 10 ∨ i = 11 ∨ i = 12 ∨ i = 13 ∨ i = 14 by omega) with rfl | rfl | rfl | rfl | rfl | rfl | rfl | rfl | rfl | rfl | rfl | rfl | rfl | rfl | rfl
 ·exact own_local h fun k' h' => hk k' ((own_blk h).trans h')
 ·exact h
 ·exact h
 ·exact h
 ·exact own_local h fun k' h' => hk k' ((own_blk h).trans h')
 ·exact h
 ·exact h
 ·exact h
 ·exact h
 ·obtain ⟨g, rfl, h2⟩ := h; exact ⟨g, rfl, (hk g rfl).trans h2⟩
 ·exact own_local h fun k' h' => hk k' ((own_blk h).trans h')
 ·exact h
 ·exact h
 ·exact h
 ·exact own_local h fun k' h' => hk k' ((own_blk h).trans h')
def SortedP (w : World) (l : List Int) (e : Ending) (w' : World) : Prop := ∃ v, e = .returned v ∧ w'.ownsRow w.heap.size 3 1 v l.length (ints l) ∧ Below w.heap.size w w'
section
variable {w : World} {l1 l2 : List Int} {A1 A2 : Option Addr} {c1 c2 : Nat}
set_option maxHeartbeats 4000000 in
theorem Sorted_any (h1 : IS w l1 A1 c1) (h2 : IS w l2 A2 c2) (hn1 : l1.length ≤ 33554432) (hn2 : l2.length ≤ 33554432) :
  Calls Tryz.prog 23 #[.slice A1 l1.length c1, .slice A2 l2.length c2] w (SortedP w (srtI (l1 ++ l2))) := by
 have H1 := lh h1
 have H2 := lh h2
 obtain ⟨i0, hi, hz0, hz1, hz2⟩ := info_parts Tryz.infoI1
 have HI := lh (And.intro hi (And.intro hz0 (And.intro hz1 hz2)))
 have hc1 := h1.cap
 have hc2 := h2.cap
 obtain ⟨al, hal⟩ : ∃ al, al = l1 ++ l2 := ⟨_, rfl⟩
 rw [← hal]
 obtain ⟨R, hR⟩ : ∃ R, R = srtI al := ⟨_, rfl⟩
 rw [← hR]
 have HRR : Hid (al.foldl insS [] = R) := lh hR.symm
 have hln : al.length = l1.length + l2.length := by rw [hal]; simp
 have HAL : Hid (ints al = ints l1 ++ ints l2) := lh (by rw [hal]; simp [ints])
 have HLN := lh hln
 have hall0 : al.length ≤ 67108864 := by omega
 clear h1 h2 hi hz0 hz1 hz2 hR hal hln
 go_enter Tryz.func23, Tryz.ntmps23
 go_upto_region 2 with fail
 have hb1 : Below w.heap.size w (w.alloc (.cells #[] 3)) := (Below.refl _ _).alloc (Nat.le_refl _) _
 have hown0 : (w.alloc (.cells #[] 3)).ownsRow w.heap.size 3 1 (.slice (some ⟨w.heap.size, 0, none⟩) 0 0) 0 [] := ownEmpty 1 (Bk.new _ _ _) (Nat.le_refl _)
 have HO0 := lh hown0
 have HB1 := lh hb1
 have HS1 := lh (H1.out.sl.below hb1)
 have HS2 := lh (H2.out.sl.below hb1)
 clear hb1 hown0
 generalize w.alloc (.cells #[] 3) = wa at *
 have hwa := HB1.out.size
 have hbe : Below wa.heap.size wa (wa.alloc (.cells #[] 3)) := (Below.refl _ _).alloc (Nat.le_refl _) _
 have hwe : (wa.alloc (.cells #[] 3)).ownsRow wa.heap.size 3 1 (.slice (some ⟨wa.heap.size, 0, none⟩) 0 0) 0 [] := ownEmpty 1 (Bk.new _ _ _) (Nat.le_refl _)
 go_wp2_with (first | (at_builtin; refine wpList_app rfl (.tmp 10) (.tmp 11) 23 rfl Tryz.underlying23 HI.out.1 HI.out.2.1 HI.out.2.2.1 HI.out.2.2.2 rfl (by decide) (n := 0) (xs := []) rfl hwe (A := A1) (m := l1.length) (c := c1) (news := ints l1) rfl (HS1.out.below hbe) (ints_drop_one _) (by unfold maxLen; omega) (by omega) (by simp) ?_; intro v2 w2 ho2 hg2 h42; simp only [Nat.zero_add, List.nil_append] at ho2; obtain ⟨A2', c2', rfl, hac2⟩ := own_shape ho2; have hb2 : Below wa.heap.size wa w2 := hbe.grown hg2 (by simp) (fun k hk => by cases hk; exact Nat.le_refl _); have HO2 := lh ho2; have HB2 := lh hb2; clear ho2 hg2 h42 hb2) | (at_builtin; refine wpList_app rfl (.tmp 12) (.tmp 13) 23 rfl Tryz.underlying23 HI.out.1 HI.out.2.1 HI.out.2.2.1 HI.out.2.2.2 rfl (by decide) (n := l1.length) (xs := ints l1) rfl HO2.out (A := A2) (m := l2.length) (c := c2) (news := ints l2) rfl (HS2.out.below HB2.out) (ints_drop_one _) (by unfold maxLen; omega) (by omega) HB2.out.size ?_; intro v3 w3 ho3 hg3 h43; obtain ⟨A3, c3, rfl, hac3⟩ := own_shape ho3; have HB3 := lh (HB2.out.grown hg3 HB2.out.size (fun k hk => (HO2.out.lt k hk).1)); have HO3 := lh ho3; clear ho3 hg3 h43))
 rw [← HLN.out] at HO3 hac3 ⊢
 rw [← HAL.out] at HO3
 have HOL := lh (own_local HO0.out fun k hk => HB3.out.block k (HO0.out.lt k hk).2)
 have HB4 := lh (HB1.out.trans (HB3.out.mono hwa))
 have HR : Hid (al.foldl insS [] = R) := lh HRR.out
 clear hbe hwe HO0 HB1 HS1 HS2 HAL HLN HO2 HB2 HB3
 go_loopw [5, 7] (fun v i wr => ∃ (j : Nat) (out : List Int) (gb cap : Nat), i = .int .i64 (j : Int) ∧ j ≤ al.length ∧ (al.drop j).foldl insS out = R ∧ out.length = j ∧ v = .slice (some ⟨gb, 0, none⟩) out.length cap ∧ out.length ≤ cap ∧ wr.ownsRow w.heap.size 3 1 v out.length (ints out) ∧ Below w3.heap.size w3 wr) (fun _ i _ => al.length - (intOf i).toNat)
 case atStart =>
  exact ⟨0, [], _, 0, rfl, Nat.zero_le _, by rw [List.drop_zero]; exact HR.out, rfl, rfl, Nat.le_refl _, HOL.out, Below.refl _ _⟩
 case round =>
  obtain ⟨j, out, gb, cap, rfl, hj, hfd, hol, rfl, hcap, hown, hbr⟩ := hrel
  have HFD := lh hfd
  have HOWN := lh hown
  have HBR := lh hbr
  have HLEN := lh hol
  have hn : out.length ≤ 67108864 := by omega
  have hbs := hbr.size
  clear hfd hown
  by_cases hlt : j < al.length
  ·obtain ⟨ba, oa, rfl, hbl, hcc⟩ := (own_sl (own_local HO3.out fun k hk => hbr.block k (HO3.out.lt k hk).2)).get hlt
   have t1 : al[j]? = some al[j] := List.getElem?_eq_getElem hlt
   have e1 : wr.cell? ⟨ba, oa + j, none⟩ = some (.int .i64 al[j]) := hcc j _ (ints_get t1)
   have HD : Hid (al.drop j = al[j] :: al.drop (j + 1)) := lh (List.drop_eq_getElem_cons hlt)
   have hcj : j < c3 := by omega
   have hjI : (j : Int) < (al.length : Int) := by omega
   generalize al[j] = x at e1 HD t1
   have HE1 := lh (And.intro hbl e1)
   have HSO := lh (own_sl HOWN.out)
   obtain ⟨kx, hkx⟩ : ∃ kx, kx = insP x out out.length := ⟨_, rfl⟩
   have HKX := lh hkx
   clear t1 hcc hbl hbr hol hkx
   go_wp2_with fail
   obtain ⟨wo, rfl⟩ : ∃ wo : World, wo = wr := ⟨_, rfl⟩
   go_loopw [8] (fun u wr => ∃ k n : Nat, u = .int .i64 (k : Int) ∧ k ≤ out.length ∧ wr = wo.drewN n ∧ insP x out k = kx) (fun u _ => (intOf u).toNat)
   case atStart => exact ⟨out.length, 0, rfl, Nat.le_refl _, rfl, HKX.out.symm⟩
   case round =>
    obtain ⟨k, n, rfl, hk, rfl, hins⟩ := hrel
    have HINS := lh hins
    clear hins
    have e1 : wo.cell? ⟨ba, oa + j, none⟩ = some (.int .i64 x) := HE1.out.2
    by_cases hk0 : 0 < k
    ·obtain ⟨k', rfl⟩ : ∃ k', k = k' + 1 := ⟨k - 1, by omega⟩
     have hk' : k' < out.length := by omega
     obtain ⟨b5, o5, he5, hbl5, hcc5⟩ := HSO.out.get (show 0 < out.length by omega)
     have hb5 : b5 = gb ∧ o5 = 0 := by injection he5 with he5; injection he5 with a b; exact ⟨a.symm, b.symm⟩
     obtain ⟨rfl, rfl⟩ := hb5
     have t1 : out[k']? = some out[k'] := List.getElem?_eq_getElem hk'
     have e5 : wo.cell? ⟨b5, k', none⟩ = some (.int .i64 out[k']) := by have := hcc5 k' _ (ints_get t1); rwa [Nat.zero_add] at this
     generalize out[k'] = y at e5 t1
     have HT := lh t1
     have i1 : (0 : Int) < ((k' + 1 : Nat) : Int) := by omega
     have i2 : IntKind.i64.wrap (((k' + 1 : Nat) : Int) - 1) = (k' : Int) := by rw [show ((k' + 1 : Nat) : Int) - 1 = (k' : Int) by omega]; exact IntWalk.i64_in _ (by omega)
     have i3 : decide ((0 : Int) < ((k' + 1 : Nat) : Int)) = true := decide_eq_true i1
     have i4 : (k' : Int) < (out.length : Int) := by omega
     have i5 : k' < cap := by omega
     clear he5 hcc5 t1 hbl5
     by_cases hxy : x < y
     ·have hd : decide (x < y) = true := decide_eq_true hxy
      have HXY := lh hxy
      clear hxy
      go_wp2_with fail
      go_quiet (fail)
      go_wp2_with fail
      go_roundw
      case rel => exact ⟨k', _, by first | rfl | go_num, by omega, rfl, by rw [← HINS.out]; exact (insP_down HT.out HXY.out).symm⟩
      case measure => first | (simp [intOf]; done) | (simp [intOf]; omega)
     ·have hd : decide (x < y) = false := decide_eq_false hxy
      have HXY := lh hxy
      clear hxy
      go_wp2_with fail
      go_quiet (fail)
      go_wp2_with fail
      have HINK : Hid (kx = (k' + 1)) := lh (by rw [← HINS.out]; exact insP_stop HT.out (by have := HXY.out; omega))
      have hkk0 : k' + 1 ≤ out.length := by omega
      refine wp_anyDrew ?_
      intro wq hwq hbq
      replace hwq : wq.heap = wo.heap := hwq
      replace hbq : Below wo.heap.size wo wq := (below_drewN (Below.refl _ _) _).trans hbq
      have HBQ := lh (HBR.out.trans (hbq.mono hbs))
      have HOQ := lh (own_local HOWN.out (w' := wq) fun k _ => by rw [hwq])
      have hls := own_sl HOQ.out
      have SLT : Hid (Sl wq 1 (some ⟨b5, 0, none⟩) (k' + 1) (ints (out.take (k' + 1)))) := lh (by
       refine ⟨by simp [ints] <;> omega, ?_⟩
       rcases Nat.eq_zero_or_pos (k' + 1) with h0 | h0
       ·exact .inl h0
       ·obtain ⟨b9, o9, he9, hl9, hc9⟩ := hls.get (show 0 < out.length by omega)
        refine .inr ⟨b9, o9, he9, hl9, fun q v hq => hc9 q v ?_⟩
        rw [show ints (out.take (k' + 1)) = (ints out).take (k' + 1) by simp [ints]] at hq
        rw [List.getElem?_take] at hq
        split at hq
        ·exact hq
        ·cases hq)
      have SLD : Hid (Sl wq 1 (some ⟨b5, (k' + 1), none⟩) (out.length - (k' + 1)) (ints (out.drop (k' + 1)))) := lh (by
       refine ⟨by simp [ints], ?_⟩
       rcases Nat.eq_zero_or_pos (out.length - (k' + 1)) with h0 | h0
       ·exact .inl h0
       ·obtain ⟨b9, o9, he9, hl9, hc9⟩ := hls.get (show 0 < out.length by omega)
        have hb9 : b9 = b5 ∧ o9 = 0 := by injection he9 with he9; injection he9 with a b; exact ⟨a.symm, b.symm⟩
        obtain ⟨rfl, rfl⟩ := hb9
        refine .inr ⟨b9, _, rfl, hl9, fun q v hq => ?_⟩
        have := hc9 ((k' + 1) + q) v (by rw [show ints (out.drop (k' + 1)) = (ints out).drop (k' + 1) by simp [ints], List.getElem?_drop] at hq; exact hq)
        rwa [Nat.zero_add] at this)
      have HX : Hid (ba < wq.heap.size ∧ wq.cell? ⟨ba, oa + j, none⟩ = some (.int .i64 x)) := lh (by
       have h8 : ba < wq.heap.size := by rw [hwq]; exact HE1.out.1
       exact ⟨h8, (hbq.cell (p := ⟨ba, oa + j, none⟩) HE1.out.1).trans HE1.out.2⟩)
      clear hls hwq hbq e1
      refine wp_region_sep 15 SOds SOeat (SOR wq b5 ba oa out.length (k' + 1) cap al.length c3 j x (ints (out.take (k' + 1))) (ints (out.drop (k' + 1)))) (SOO ) (by kernel_rfl) (by kernel_rfl) (by rfl) (fun i v w1 w2 hi h h1 h2 _ hk => SOR_loc i v w1 w2 hi h h1 h2 hk) ?_ ?_
      ·intro i hi o ho vs w1 hg
       have hWs := hg.1.size
       have j1 : (0 : Int) ≤ ((k' : Int) + 1) := by omega
       have j2 : ((k' : Int) + 1) ≤ (out.length : Int) := by omega
       have j3 : ((k' : Int) + 1) ≤ (cap : Int) := by omega
       have e8 : w1.cell? ⟨ba, oa + j, none⟩ = some (.int .i64 x) := ((bcell hg.1).1 _ _ HX.out.1).trans HX.out.2
       have HG := lh hg
       have hgr := hg.2.1
       clear hg
       rcases (show i = 0 ∨ i = 1 ∨ i = 2 ∨ i = 3 ∨ i = 4 ∨ i = 5 ∨ i = 6 ∨ i = 7 ∨ i = 8 ∨ i = 9 ∨ i = 10 ∨ i = 11 ∨ i = 12 ∨ i = 13 ∨ i = 14 by omega) with rfl | rfl | rfl | rfl | rfl | rfl | rfl | rfl | rfl | rfl | rfl | rfl | rfl | rfl | rfl <;> cases ho
       ·clear hgr
        change Made _ _ (Sem.run _ (execOp (Act.eval (frm _ _ _ [])) _) _)
        simp only [frm]
        go_simp
        refine made_ok ?_
        exact lays_alloc (ownEmpty 1 (Bk.new _ _ _) hWs) rfl hWs
       ·clear hgr
        change Made _ _ (Sem.run _ (execOp (Act.eval (frm _ _ _ [])) _) _)
        simp only [frm]
        go_simp
        exact made_ok (lays_pure rfl rfl)
       ·clear hgr
        change Made _ _ (Sem.run _ (execOp (Act.eval (frm _ _ _ [])) _) _)
        simp only [frm]
        go_simp
        exact made_ok (lays_pure rfl rfl)
       ·have h1 : vs 1 = _ := (hgr 1 (by simp [SOds])).1
        have h2 : vs 2 = _ := (hgr 2 (by simp [SOds])).1
        clear hgr
        change Made _ _ (Sem.run _ (execOp (Act.eval (Act.put (Act.put (frm _ _ _ []) (some 41) (vs 2)) (some 40) (vs 1))) _) _)
        simp only [frm, h1, h2]
        go_simp
        exact made_ok (lays_pure rfl rfl)
       ·have hown0 := (hgr 0 (by simp [SOds])).1
        obtain ⟨A0, c0, h0, _⟩ := own_shape hown0
        have h3 : vs 3 = _ := (hgr 3 (by simp [SOds])).1
        clear hgr
        change Made _ _ (Sem.run _ (execOp (Act.eval (Act.put (Act.put (frm _ _ _ []) (some 42) (vs 3)) (some 39) (vs 0))) _) _)
        simp only [frm, h0, h3]
        rw [h0] at hown0
        refine made_append (.tmp 39) (.tmp 42) 23 rfl Tryz.underlying23 HI.out.1 HI.out.2.1 HI.out.2.2.1 HI.out.2.2.2 rfl (by decide) (v := .slice A0 0 c0) (n := 0) (xs := []) rfl hown0 (A := some ⟨b5, 0, none⟩) (m := (k' + 1)) (c := cap) (news := ints (out.take (k' + 1))) rfl (SLT.out.below HG.out.1) (ints_one _) (by unfold maxLen; omega) (by omega) hWs fun v' w' ho hgr2 h4 => ?_
        exact lays_append HG.out (j := 0) (by simp [SOeat]) (by simp [SOds]) hown0 (by rw [h0]; rfl) hgr2 ho h4 ho rfl
       ·clear hgr
        change Made _ _ (Sem.run _ (execOp (Act.eval (frm _ _ _ [])) _) _)
        simp only [frm]
        go_simp
        exact made_ok (lays_pure rfl rfl)
       ·clear hgr
        change Made _ _ (Sem.run _ (execOp (Act.eval (frm _ _ _ [])) _) _)
        simp only [frm]
        go_simp
        exact made_ok (lays_pure rfl rfl)
       ·have h5 : vs 5 = _ := (hgr 5 (by simp [SOds])).1
        have h6 : vs 6 = _ := (hgr 6 (by simp [SOds])).1
        clear hgr
        change Made _ _ (Sem.run _ (execOp (Act.eval (Act.put (Act.put (frm _ _ _ []) (some 45) (vs 6)) (some 44) (vs 5))) _) _)
        simp only [frm, h5, h6]
        go_simp
        exact made_ok (lays_pure rfl rfl)
       ·have h7 : vs 7 = _ := (hgr 7 (by simp [SOds])).1
        clear hgr
        change Made _ _ (Sem.run _ (execOp (Act.eval (Act.put (frm _ _ _ []) (some 46) (vs 7))) _) _)
        simp only [frm, h7]
        go_simp
        exact made_ok (lays_pure rfl rfl)
       ·have h8 : vs 8 = _ := (hgr 8 (by simp [SOds])).1
        clear hgr
        change Made _ _ (Sem.run _ (execOp (Act.eval (Act.put (frm _ _ _ []) (some 47) (vs 8))) _) _)
        simp only [frm, h8]
        go_simp
        refine made_ok ?_
        exact lays_alloc ⟨_, rfl, Bk.new _ _ _⟩ rfl hWs
       ·have hown4 := (hgr 4 (by simp [SOds])).1
        obtain ⟨A4, c4, h4, _⟩ := own_shape hown4
        obtain ⟨g9, h9, hbk9⟩ := (hgr 9 (by simp [SOds])).1
        clear hgr
        change Made _ _ (Sem.run _ (execOp (Act.eval (Act.put (Act.put (frm _ _ _ []) (some 48) (vs 9)) (some 43) (vs 4))) _) _)
        simp only [frm, h4, h9]
        rw [h4] at hown4
        replace hown4 : w1.ownsRow wq.heap.size 3 1 (.slice A4 (0 + (k' + 1)) c4) (0 + (k' + 1)) ([] ++ ints (out.take (k' + 1))) := hown4
        refine made_append (.tmp 43) (.tmp 48) 23 rfl Tryz.underlying23 HI.out.1 HI.out.2.1 HI.out.2.2.1 HI.out.2.2.2 rfl (by decide) (v := .slice A4 (0 + (k' + 1)) c4) (n := 0 + (k' + 1)) (xs := [] ++ ints (out.take (k' + 1))) rfl hown4 (A := some ⟨g9, 0, none⟩) (m := 1) (c := 1) (news := [.int .i64 x]) rfl ⟨rfl, .inr ⟨g9, 0, rfl, hbk9.lt, fun j v hj => by rw [Nat.zero_add, hbk9.cell]; simpa using hj⟩⟩ (by simp [Value.oneCell']) (by unfold maxLen; omega) (by omega) hWs fun v' w' ho hgr2 h4' => ?_
        exact lays_append HG.out (j := 4) (by simp [SOeat]) (by simp [SOds]) hown4 (by rw [h4]; rfl) hgr2 ho h4' ho rfl
       ·clear hgr
        change Made _ _ (Sem.run _ (execOp (Act.eval (frm _ _ _ [])) _) _)
        simp only [frm]
        go_simp
        exact made_ok (lays_pure rfl rfl)
       ·clear hgr
        change Made _ _ (Sem.run _ (execOp (Act.eval (frm _ _ _ [])) _) _)
        simp only [frm]
        go_simp
        exact made_ok (lays_pure rfl rfl)
       ·have h11 : vs 11 = _ := (hgr 11 (by simp [SOds])).1
        have h12 : vs 12 = _ := (hgr 12 (by simp [SOds])).1
        clear hgr
        change Made _ _ (Sem.run _ (execOp (Act.eval (Act.put (Act.put (frm _ _ _ []) (some 51) (vs 12)) (some 50) (vs 11))) _) _)
        simp only [frm, h11, h12]
        rcases Nat.lt_or_ge (k' + 1) cap with hkk | hkk
        ·have hkkI : ¬ cap = (k' + 1) := by omega
         go_simp
         refine made_ok ?_
         exact lays_pure ⟨some ⟨b5, (k' + 1), none⟩, cap - (k' + 1), by simp <;> omega, SLD.out⟩ rfl
        ·have hkc : cap = (k' + 1) := by omega
         have hkl : out.length - (k' + 1) = 0 := by omega
         have HKL := lh hkl
         clear hkl
         go_simp
         refine made_ok ?_
         exact lays_pure ⟨some ⟨b5, 0, none⟩, 0, by simp <;> omega, ⟨by have := HKL.out; simp [ints] <;> omega, .inl HKL.out⟩⟩ rfl
       ·have hown10 := (hgr 10 (by simp [SOds])).1
        obtain ⟨A10, c10, h10, _⟩ := own_shape hown10
        obtain ⟨A13, c13, h13, hsl13⟩ := (hgr 13 (by simp [SOds])).1
        clear hgr
        change Made _ _ (Sem.run _ (execOp (Act.eval (Act.put (Act.put (frm _ _ _ []) (some 52) (vs 13)) (some 49) (vs 10))) _) _)
        simp only [frm, h10, h13]
        rw [h10] at hown10
        replace hown10 : w1.ownsRow wq.heap.size 3 1 (.slice A10 (0 + (k' + 1) + 1) c10) (0 + (k' + 1) + 1) ([] ++ ints (out.take (k' + 1)) ++ [.int .i64 x]) := hown10
        refine made_append (.tmp 49) (.tmp 52) 23 rfl Tryz.underlying23 HI.out.1 HI.out.2.1 HI.out.2.2.1 HI.out.2.2.2 rfl (by decide) (v := .slice A10 (0 + (k' + 1) + 1) c10) (n := 0 + (k' + 1) + 1) (xs := [] ++ ints (out.take (k' + 1)) ++ [.int .i64 x]) rfl hown10 (A := A13) (m := out.length - (k' + 1)) (c := c13) (news := ints (out.drop (k' + 1))) rfl (hsl13.below HG.out.1) (ints_one _) (by unfold maxLen; omega) (by omega) hWs fun v' w' ho hgr2 h4' => ?_
        exact lays_append HG.out (j := 10) (by simp [SOeat]) (by simp [SOds]) hown10 (by rw [h10]; rfl) hgr2 ho h4' ho rfl
      ·intro vs w1 hb hall hap
       obtain ⟨hown14, q14⟩ := hall 14 (by omega) (by decide)
       replace hown14 : w1.ownsRow wq.heap.size 3 1 (vs 14) (0 + (k' + 1) + 1 + (out.length - (k' + 1))) ([] ++ ints (out.take (k' + 1)) ++ [.int .i64 x] ++ ints (out.drop (k' + 1))) := hown14
       obtain ⟨n14, hn14⟩ : ∃ n14, n14 = 0 + (k' + 1) + 1 + (out.length - (k' + 1)) := ⟨_, rfl⟩
       rw [← hn14] at hown14
       have HN14 := lh hn14
       clear hn14
       obtain ⟨A14, c14, h14, hc14⟩ := own_shape hown14
       rw [h14] at hown14
       change wpList _ _ _ [_] (Act.put (Act.put (Act.put (Act.put (Act.put (Act.put (Act.put (Act.put (Act.put (Act.put (Act.put (Act.put (Act.put (Act.put (Act.put (frm _ _ _ []) (some 53) (vs 14)) (some 52) (vs 13)) (some 51) (vs 12)) (some 50) (vs 11)) (some 49) (vs 10)) (some 48) (vs 9)) (some 47) (vs 8)) (some 46) (vs 7)) (some 45) (vs 6)) (some 44) (vs 5)) (some 43) (vs 4)) (some 42) (vs 3)) (some 41) (vs 2)) (some 40) (vs 1)) (some 39) (vs 0)) _
       simp only [frm, h14]
       have HB14 := lh hb
       have HOO := lh hown14
       clear hall hap q14 hb hown14 h14
       go_wp2_with fail
       go_roundw
       case rel =>
        have hins := HKX.out.symm
        obtain ⟨g14, cp14, e14, hn14, _⟩ := ownSls HOO.out (by rw [HN14.out]; omega)
        injection e14 with e14 e15 e16
        subst e14
        have hl14 : (insS out x).length = n14 := by rw [insS_len, HN14.out]; omega
        refine ⟨j + 1, insS out x, g14, c14, by go_num, by omega, by rw [← HFD.out, HD.out, List.foldl_cons], by rw [insS_len, HLEN.out], by rw [hl14], by rw [hl14]; exact hc14, ?_, HBQ.out.trans (HB14.out.mono HBQ.out.size)⟩
        rw [hl14]
        have ho := ownBase HOO.out (show w.heap.size ≤ wq.heap.size from Nat.le_trans HB4.out.size HBQ.out.size)
        rw [show ints (insS out x) = [] ++ ints (out.take (k' + 1)) ++ [.int .i64 x] ++ ints (out.drop (k' + 1)) by unfold insS; rw [hins, HINK.out]; simp [ints]]
        exact ho
       case measure => simp [intOf]; omega
    ·obtain rfl : k = 0 := by omega
     have i3 : decide ((0 : Int) < ((0 : Nat) : Int)) = false := rfl
     go_wp2_with fail
     go_quiet (fail)
     go_wp2_with fail
     have HINK : Hid (kx = 0) := lh HINS.out.symm
     refine wp_anyDrew ?_
     intro wq hwq hbq
     replace hwq : wq.heap = wo.heap := hwq
     replace hbq : Below wo.heap.size wo wq := (below_drewN (Below.refl _ _) _).trans hbq
     have HBQ := lh (HBR.out.trans (hbq.mono hbs))
     have HOQ := lh (own_local HOWN.out (w' := wq) fun k _ => by rw [hwq])
     have hls := own_sl HOQ.out
     have SLT : Hid (Sl wq 1 (some ⟨gb, 0, none⟩) (0 : Nat) (ints (out.take (0 : Nat)))) := lh (by
      refine ⟨by simp [ints] <;> omega, ?_⟩
      rcases Nat.eq_zero_or_pos (0 : Nat) with h0 | h0
      ·exact .inl h0
      ·obtain ⟨b9, o9, he9, hl9, hc9⟩ := hls.get (show 0 < out.length by omega)
       refine .inr ⟨b9, o9, he9, hl9, fun q v hq => hc9 q v ?_⟩
       rw [show ints (out.take (0 : Nat)) = (ints out).take (0 : Nat) by simp [ints]] at hq
       rw [List.getElem?_take] at hq
       split at hq
       ·exact hq
       ·cases hq)
     have SLD : Hid (Sl wq 1 (some ⟨gb, (0 : Nat), none⟩) (out.length - (0 : Nat)) (ints (out.drop (0 : Nat)))) := lh (by
      refine ⟨by simp [ints], ?_⟩
      rcases Nat.eq_zero_or_pos (out.length - (0 : Nat)) with h0 | h0
      ·exact .inl h0
      ·obtain ⟨b9, o9, he9, hl9, hc9⟩ := hls.get (show 0 < out.length by omega)
       have hb9 : b9 = gb ∧ o9 = 0 := by injection he9 with he9; injection he9 with a b; exact ⟨a.symm, b.symm⟩
       obtain ⟨rfl, rfl⟩ := hb9
       refine .inr ⟨b9, _, rfl, hl9, fun q v hq => ?_⟩
       have := hc9 ((0 : Nat) + q) v (by rw [show ints (out.drop (0 : Nat)) = (ints out).drop (0 : Nat) by simp [ints], List.getElem?_drop] at hq; exact hq)
       rwa [Nat.zero_add] at this)
     have HX : Hid (ba < wq.heap.size ∧ wq.cell? ⟨ba, oa + j, none⟩ = some (.int .i64 x)) := lh (by
      have h8 : ba < wq.heap.size := by rw [hwq]; exact HE1.out.1
      exact ⟨h8, (hbq.cell (p := ⟨ba, oa + j, none⟩) HE1.out.1).trans HE1.out.2⟩)
     clear hls hwq hbq e1
     refine wp_region_sep 15 SOds SOeat (SOR wq gb ba oa out.length (0 : Nat) cap al.length c3 j x (ints (out.take (0 : Nat))) (ints (out.drop (0 : Nat)))) (SOO ) (by kernel_rfl) (by kernel_rfl) (by rfl) (fun i v w1 w2 hi h h1 h2 _ hk => SOR_loc i v w1 w2 hi h h1 h2 hk) ?_ ?_
     ·intro i hi o ho vs w1 hg
      have hWs := hg.1.size
      have j1 : (0 : Int) ≤ (0 : Int) := by omega
      have j2 : (0 : Int) ≤ (out.length : Int) := by omega
      have j3 : (0 : Int) ≤ (cap : Int) := by omega
      have e8 : w1.cell? ⟨ba, oa + j, none⟩ = some (.int .i64 x) := ((bcell hg.1).1 _ _ HX.out.1).trans HX.out.2
      have HG := lh hg
      have hgr := hg.2.1
      clear hg
      rcases (show i = 0 ∨ i = 1 ∨ i = 2 ∨ i = 3 ∨ i = 4 ∨ i = 5 ∨ i = 6 ∨ i = 7 ∨ i = 8 ∨ i = 9 ∨ i = 10 ∨ i = 11 ∨ i = 12 ∨ i = 13 ∨ i = 14 by omega) with rfl | rfl | rfl | rfl | rfl | rfl | rfl | rfl | rfl | rfl | rfl | rfl | rfl | rfl | rfl <;> cases ho
      ·clear hgr
       change Made _ _ (Sem.run _ (execOp (Act.eval (frm _ _ _ [])) _) _)
       simp only [frm]
       go_simp
       refine made_ok ?_
       exact lays_alloc (ownEmpty 1 (Bk.new _ _ _) hWs) rfl hWs
      ·clear hgr
       change Made _ _ (Sem.run _ (execOp (Act.eval (frm _ _ _ [])) _) _)
       simp only [frm]
       go_simp
       exact made_ok (lays_pure rfl rfl)
      ·clear hgr
       change Made _ _ (Sem.run _ (execOp (Act.eval (frm _ _ _ [])) _) _)
       simp only [frm]
       go_simp
       exact made_ok (lays_pure rfl rfl)
      ·have h1 : vs 1 = _ := (hgr 1 (by simp [SOds])).1
       have h2 : vs 2 = _ := (hgr 2 (by simp [SOds])).1
       clear hgr
       change Made _ _ (Sem.run _ (execOp (Act.eval (Act.put (Act.put (frm _ _ _ []) (some 41) (vs 2)) (some 40) (vs 1))) _) _)
       simp only [frm, h1, h2]
       go_simp
       exact made_ok (lays_pure rfl rfl)
      ·have hown0 := (hgr 0 (by simp [SOds])).1
       obtain ⟨A0, c0, h0, _⟩ := own_shape hown0
       have h3 : vs 3 = _ := (hgr 3 (by simp [SOds])).1
       clear hgr
       change Made _ _ (Sem.run _ (execOp (Act.eval (Act.put (Act.put (frm _ _ _ []) (some 42) (vs 3)) (some 39) (vs 0))) _) _)
       simp only [frm, h0, h3]
       rw [h0] at hown0
       refine made_append (.tmp 39) (.tmp 42) 23 rfl Tryz.underlying23 HI.out.1 HI.out.2.1 HI.out.2.2.1 HI.out.2.2.2 rfl (by decide) (v := .slice A0 0 c0) (n := 0) (xs := []) rfl hown0 (A := some ⟨gb, 0, none⟩) (m := (0 : Nat)) (c := cap) (news := ints (out.take (0 : Nat))) rfl (SLT.out.below HG.out.1) (ints_one _) (by unfold maxLen; omega) (by omega) hWs fun v' w' ho hgr2 h4 => ?_
       exact lays_append HG.out (j := 0) (by simp [SOeat]) (by simp [SOds]) hown0 (by rw [h0]; rfl) hgr2 ho h4 ho rfl
      ·clear hgr
       change Made _ _ (Sem.run _ (execOp (Act.eval (frm _ _ _ [])) _) _)
       simp only [frm]
       go_simp
       exact made_ok (lays_pure rfl rfl)
      ·clear hgr
       change Made _ _ (Sem.run _ (execOp (Act.eval (frm _ _ _ [])) _) _)
       simp only [frm]
       go_simp
       exact made_ok (lays_pure rfl rfl)
      ·have h5 : vs 5 = _ := (hgr 5 (by simp [SOds])).1
       have h6 : vs 6 = _ := (hgr 6 (by simp [SOds])).1
       clear hgr
       change Made _ _ (Sem.run _ (execOp (Act.eval (Act.put (Act.put (frm _ _ _ []) (some 45) (vs 6)) (some 44) (vs 5))) _) _)
       simp only [frm, h5, h6]
       go_simp
       exact made_ok (lays_pure rfl rfl)
      ·have h7 : vs 7 = _ := (hgr 7 (by simp [SOds])).1
       clear hgr
       change Made _ _ (Sem.run _ (execOp (Act.eval (Act.put (frm _ _ _ []) (some 46) (vs 7))) _) _)
       simp only [frm, h7]
       go_simp
       exact made_ok (lays_pure rfl rfl)
      ·have h8 : vs 8 = _ := (hgr 8 (by simp [SOds])).1
       clear hgr
       change Made _ _ (Sem.run _ (execOp (Act.eval (Act.put (frm _ _ _ []) (some 47) (vs 8))) _) _)
       simp only [frm, h8]
       go_simp
       refine made_ok ?_
       exact lays_alloc ⟨_, rfl, Bk.new _ _ _⟩ rfl hWs
      ·have hown4 := (hgr 4 (by simp [SOds])).1
       obtain ⟨A4, c4, h4, _⟩ := own_shape hown4
       obtain ⟨g9, h9, hbk9⟩ := (hgr 9 (by simp [SOds])).1
       clear hgr
       change Made _ _ (Sem.run _ (execOp (Act.eval (Act.put (Act.put (frm _ _ _ []) (some 48) (vs 9)) (some 43) (vs 4))) _) _)
       simp only [frm, h4, h9]
       rw [h4] at hown4
       replace hown4 : w1.ownsRow wq.heap.size 3 1 (.slice A4 (0 + (0 : Nat)) c4) (0 + (0 : Nat)) ([] ++ ints (out.take (0 : Nat))) := hown4
       refine made_append (.tmp 43) (.tmp 48) 23 rfl Tryz.underlying23 HI.out.1 HI.out.2.1 HI.out.2.2.1 HI.out.2.2.2 rfl (by decide) (v := .slice A4 (0 + (0 : Nat)) c4) (n := 0 + (0 : Nat)) (xs := [] ++ ints (out.take (0 : Nat))) rfl hown4 (A := some ⟨g9, 0, none⟩) (m := 1) (c := 1) (news := [.int .i64 x]) rfl ⟨rfl, .inr ⟨g9, 0, rfl, hbk9.lt, fun j v hj => by rw [Nat.zero_add, hbk9.cell]; simpa using hj⟩⟩ (by simp [Value.oneCell']) (by unfold maxLen; omega) (by omega) hWs fun v' w' ho hgr2 h4' => ?_
       exact lays_append HG.out (j := 4) (by simp [SOeat]) (by simp [SOds]) hown4 (by rw [h4]; rfl) hgr2 ho h4' ho rfl
      ·clear hgr
       change Made _ _ (Sem.run _ (execOp (Act.eval (frm _ _ _ [])) _) _)
       simp only [frm]
       go_simp
       exact made_ok (lays_pure rfl rfl)
      ·clear hgr
       change Made _ _ (Sem.run _ (execOp (Act.eval (frm _ _ _ [])) _) _)
       simp only [frm]
       go_simp
       exact made_ok (lays_pure rfl rfl)
      ·have h11 : vs 11 = _ := (hgr 11 (by simp [SOds])).1
       have h12 : vs 12 = _ := (hgr 12 (by simp [SOds])).1
       clear hgr
       change Made _ _ (Sem.run _ (execOp (Act.eval (Act.put (Act.put (frm _ _ _ []) (some 51) (vs 12)) (some 50) (vs 11))) _) _)
       simp only [frm, h11, h12]
       rcases Nat.lt_or_ge (0 : Nat) cap with hkk | hkk
       ·have hkkI : ¬ cap = (0 : Nat) := by omega
        go_simp
        refine made_ok ?_
        exact lays_pure ⟨some ⟨gb, (0 : Nat), none⟩, cap - (0 : Nat), by simp <;> omega, SLD.out⟩ rfl
       ·have hkc : cap = (0 : Nat) := by omega
        have hkl : out.length - (0 : Nat) = 0 := by omega
        have HKL := lh hkl
        clear hkl
        go_simp
        refine made_ok ?_
        exact lays_pure ⟨some ⟨gb, 0, none⟩, 0, by simp <;> omega, ⟨by have := HKL.out; simp [ints] <;> omega, .inl HKL.out⟩⟩ rfl
      ·have hown10 := (hgr 10 (by simp [SOds])).1
       obtain ⟨A10, c10, h10, _⟩ := own_shape hown10
       obtain ⟨A13, c13, h13, hsl13⟩ := (hgr 13 (by simp [SOds])).1
       clear hgr
       change Made _ _ (Sem.run _ (execOp (Act.eval (Act.put (Act.put (frm _ _ _ []) (some 52) (vs 13)) (some 49) (vs 10))) _) _)
       simp only [frm, h10, h13]
       rw [h10] at hown10
       replace hown10 : w1.ownsRow wq.heap.size 3 1 (.slice A10 (0 + (0 : Nat) + 1) c10) (0 + (0 : Nat) + 1) ([] ++ ints (out.take (0 : Nat)) ++ [.int .i64 x]) := hown10
       refine made_append (.tmp 49) (.tmp 52) 23 rfl Tryz.underlying23 HI.out.1 HI.out.2.1 HI.out.2.2.1 HI.out.2.2.2 rfl (by decide) (v := .slice A10 (0 + (0 : Nat) + 1) c10) (n := 0 + (0 : Nat) + 1) (xs := [] ++ ints (out.take (0 : Nat)) ++ [.int .i64 x]) rfl hown10 (A := A13) (m := out.length - (0 : Nat)) (c := c13) (news := ints (out.drop (0 : Nat))) rfl (hsl13.below HG.out.1) (ints_one _) (by unfold maxLen; omega) (by omega) hWs fun v' w' ho hgr2 h4' => ?_
       exact lays_append HG.out (j := 10) (by simp [SOeat]) (by simp [SOds]) hown10 (by rw [h10]; rfl) hgr2 ho h4' ho rfl
     ·intro vs w1 hb hall hap
      obtain ⟨hown14, q14⟩ := hall 14 (by omega) (by decide)
      replace hown14 : w1.ownsRow wq.heap.size 3 1 (vs 14) (0 + (0 : Nat) + 1 + (out.length - (0 : Nat))) ([] ++ ints (out.take (0 : Nat)) ++ [.int .i64 x] ++ ints (out.drop (0 : Nat))) := hown14
      obtain ⟨n14, hn14⟩ : ∃ n14, n14 = 0 + (0 : Nat) + 1 + (out.length - (0 : Nat)) := ⟨_, rfl⟩
      rw [← hn14] at hown14
      have HN14 := lh hn14
      clear hn14
      obtain ⟨A14, c14, h14, hc14⟩ := own_shape hown14
      rw [h14] at hown14
      change wpList _ _ _ [_] (Act.put (Act.put (Act.put (Act.put (Act.put (Act.put (Act.put (Act.put (Act.put (Act.put (Act.put (Act.put (Act.put (Act.put (Act.put (frm _ _ _ []) (some 53) (vs 14)) (some 52) (vs 13)) (some 51) (vs 12)) (some 50) (vs 11)) (some 49) (vs 10)) (some 48) (vs 9)) (some 47) (vs 8)) (some 46) (vs 7)) (some 45) (vs 6)) (some 44) (vs 5)) (some 43) (vs 4)) (some 42) (vs 3)) (some 41) (vs 2)) (some 40) (vs 1)) (some 39) (vs 0)) _
      simp only [frm, h14]
      have HB14 := lh hb
      have HOO := lh hown14
      clear hall hap q14 hb hown14 h14
      go_wp2_with fail
      go_roundw
      case rel =>
       have hins := HKX.out.symm
       obtain ⟨g14, cp14, e14, hn14, _⟩ := ownSls HOO.out (by rw [HN14.out]; omega)
       injection e14 with e14 e15 e16
       subst e14
       have hl14 : (insS out x).length = n14 := by rw [insS_len, HN14.out]; omega
       refine ⟨j + 1, insS out x, g14, c14, by go_num, by omega, by rw [← HFD.out, HD.out, List.foldl_cons], by rw [insS_len, HLEN.out], by rw [hl14], by rw [hl14]; exact hc14, ?_, HBQ.out.trans (HB14.out.mono HBQ.out.size)⟩
       rw [hl14]
       have ho := ownBase HOO.out (show w.heap.size ≤ wq.heap.size from Nat.le_trans HB4.out.size HBQ.out.size)
       rw [show ints (insS out x) = [] ++ ints (out.take (0 : Nat)) ++ [.int .i64 x] ++ ints (out.drop (0 : Nat)) by unfold insS; rw [hins, HINK.out]; simp [ints]]
       exact ho
      case measure => simp [intOf]; omega
  ·have hjI : ¬ (j : Int) < (al.length : Int) := by omega
   have hjl : al.length ≤ j := by omega
   clear hol hlt
   go_wp2_with fail
   go_ret
   have e : R = out := by rw [← HFD.out, List.drop_eq_nil_of_le hjl]; rfl
   rw [e]
   exact ⟨_, rfl, HOWN.out, HB4.out.trans (HBR.out.mono HB4.out.size)⟩
end
end Go.Proofs.YtjpaogapclfajaaGreat
namespace Go.Proofs.YtjpaogapclfajaaGreat
open Go.RowKit Go.Sort
set_option maxRecDepth 100000
theorem list_ne_of_get {α : Type} {l m : List α} {k : Nat} {x y : α} (h1 : l[k]? = some x) (h2 : m[k]? = some y) (h : x ≠ y) : l ≠ m := by
 rintro rfl
 rw [h1] at h2
 exact h (Option.some.inj h2)
def eqL {α : Type} [DecidableEq α] (l m : List α) : Bool := decide (l = m)
end Go.Proofs.YtjpaogapclfajaaGreat
namespace Go.Proofs.YtjpaogapclfajaaGreat
open Go.RowKit Go.Sort
attribute [local go_sem] Oper.semAt_some onlyN_normal
set_option maxRecDepth 100000
/-- what lies in memory behind Build: the program's memory, the reference's, the addresses -/
structure Env11 (w wn : World) (B bm g1 g2 : Nat) (V1 V2 : Value) (A1 : Option Addr) (e1 : Nat) (A2 : Option Addr) (e2 : Nat) (Aq : Option Addr) (cq : Nat) (q : Mm × List Int) : Prop where
 bl : Below w.heap.size w wn
 mr : MR wn B g1 g2 V1 V2 q.1
 rm : RM wn q.1 A1 e1 A2 e2
 is : IS wn q.2 Aq cq
 kb : Bk wn bm 27 #[.pointer (some ⟨g1, 0, none⟩), .pointer (some ⟨g2, 0, none⟩)]
 kr : Bk wn (bm + 1) 32 #[.int .i64 q.1.old.base, .int .i64 q.1.old.limit, .slice A1 q.1.old.ws.length e1, .int .i64 q.1.yng.base, .int .i64 q.1.yng.limit, .slice A2 q.1.yng.ws.length e2]
 ap : ∀ b o, Aq = some ⟨b, o, none⟩ → b ≠ g1 ∧ ¬ memS V1 V2 b
 al : ∀ b o, Aq = some ⟨b, o, none⟩ → b < wn.heap.size
section
variable {w wn w' : World} {B bm g1 g2 : Nat} {V1 V2 : Value} {A1 A2 Aq : Option Addr} {e1 e2 cq : Nat} {q : Mm × List Int}
theorem Env11.below (h : Env11 w wn B bm g1 g2 V1 V2 A1 e1 A2 e2 Aq cq q) (hb : Below wn.heap.size wn w') : Env11 w w' B bm g1 g2 V1 V2 A1 e1 A2 e2 Aq cq q :=
 ⟨h.bl.trans (hb.mono h.bl.size), h.mr.below hb, h.rm.below hb, h.is.below hb, h.kb.below hb h.kb.lt, h.kr.below hb h.kr.lt, h.ap, fun b o e => Nat.lt_of_lt_of_le (h.al b o e) hb.size⟩
theorem Env11.start {w2 : World} {p : Mm × List Int} (hb : Below w.heap.size w w2) (hmr : MR w2 B g1 g2 V1 V2 q.1) (hrm : RM w2 q.1 A1 e1 A2 e2) (his : IS w2 q.2 Aq cq) (hap : ∀ b o, A1 = some ⟨b, o, none⟩ ∨ A2 = some ⟨b, o, none⟩ ∨ Aq = some ⟨b, o, none⟩ → b < w2.heap.size ∧ b ≠ g1 ∧ ¬ memS V1 V2 b) :
  Env11 w ((w2.alloc (.cells #[.pointer (some ⟨g1, 0, none⟩), .pointer (some ⟨g2, 0, none⟩)] 27)).alloc (.cells #[.int .i64 q.1.old.base, .int .i64 q.1.old.limit, .slice A1 q.1.old.ws.length e1, .int .i64 q.1.yng.base, .int .i64 q.1.yng.limit, .slice A2 q.1.yng.ws.length e2] 32)) B w2.heap.size g1 g2 V1 V2 A1 e1 A2 e2 Aq cq q := by
 have hal : Below w2.heap.size w2 ((w2.alloc (.cells #[.pointer (some ⟨g1, 0, none⟩), .pointer (some ⟨g2, 0, none⟩)] 27)).alloc (.cells #[.int .i64 q.1.old.base, .int .i64 q.1.old.limit, .slice A1 q.1.old.ws.length e1, .int .i64 q.1.yng.base, .int .i64 q.1.yng.limit, .slice A2 q.1.yng.ws.length e2] 32)) := ((Below.refl _ _).alloc (Nat.le_refl _) _).alloc (by simp) _
 exact ⟨hb.trans (hal.mono hb.size), hmr.below hal, hrm.below hal, his.below hal, (Bk.new _ _ _).alloc _, Bk.here _ _ _ (by simp), fun b o e => (hap b o (.inr (.inr e))).2, fun b o e => Nat.lt_of_lt_of_le (hap b o (.inr (.inr e))).1 hal.size⟩
/-- Mark, at the old space -/
theorem Env11.mark (h : Env11 w wn B bm g1 g2 V1 V2 A1 e1 A2 e2 Aq cq q) (hB : B ≤ wn.heap.size) {A : Option Addr} {c : Nat} {l : List Int} (hs : Sl wn 1 A l.length (wds l)) (hll : l.length ≤ 1000) (hcr : l.length ≤ c) (hu : ∀ x ∈ l, U64 x) (hA : ∀ b o, A = some ⟨b, o, none⟩ → b < wn.heap.size) :
  Calls Tryz.prog 16 #[.pointer (some ⟨g1, 0, none⟩), .slice A l.length c] wn (MarkPost wn (Mm.one q.1.old) ((Mm.one q.1.old).marks l)) :=
 Mark_all h.mr.o h.mr.ok.ob h.mr.ok.ol hB hs hcr (by omega) hu hA (by have := h.mr.ok.o.lim; have := h.mr.ok.ob; have := h.mr.ok.ol; omega)
theorem Env11.len (h : Env11 w wn B bm g1 g2 V1 V2 A1 e1 A2 e2 Aq cq q) : q.1.old.ws.length ≤ 16777216 := by have := h.mr.ok.o.lim; have := h.mr.ok.ob; have := h.mr.ok.ol; omega
theorem Env11.lt (h : Env11 w wn B bm g1 g2 V1 V2 A1 e1 A2 e2 Aq cq q) : B ≤ wn.heap.size := by have := h.mr.o.ge; have := h.mr.o.hd.lt; omega
end
theorem marks_len {m : Mm} {roots sg wl : List Int} (h : m.MarksI roots sg wl) : (sg ++ wl).length ≤ m.size := by
 have := nodup_len (sg ++ wl) _ h.disj fun y hy => m.all_has y (Mm.hdr_has (h.hdr y (List.mem_append.1 hy)))
 simpa [Mm.size] using this
theorem rts1_len (l ch : List Int) : (rts1 l ch).length = ch.length := by simp [rts1]
end Go.Proofs.YtjpaogapclfajaaGreat
namespace Go.Proofs.YtjpaogapclfajaaGreat
open Go.RowKit Go.Sort
attribute [local go_sem] Oper.semAt_some onlyN_normal
set_option maxRecDepth 100000
theorem Mm.kpW_len (m : Mm) (sg wl : List Int) (o : Option (Option Int)) : (m.kpW sg wl o).length ≤ wl.length + 1 := by
 unfold Mm.kpW
 split
 ·unfold Mm.keepW; split <;> simp
 ·omega
/-- what stays of marks: no number twice, numbers of addresses -/
structure KpI (m : Mm) (sg wl : List Int) : Prop where
 nd : (sg ++ wl).Nodup
 rg : ∀ a ∈ sg ++ wl, 0 ≤ a ∧ a ≤ 4294967296
theorem KpI.step {m : Mm} (ok : m.Ok) {sg wl : List Int} (h : KpI m sg wl) {x : Int} {o : Option (Option Int)} (ho : m.rfr x = o) : KpI m sg (m.kpW sg wl o) := by
 unfold Mm.kpW
 split
 ·rename_i a
  have hrg := Mm.rfr_rg ok ho
  unfold Mm.keepW
  split
  ·rename_i hc
   refine ⟨?_, fun b hb => ?_⟩
   ·rw [← List.append_assoc]
    exact nodup_snoc h.nd (by rw [List.mem_append]; rintro (h1 | h1); exact absurd hc.1 (by simp [h1]); exact absurd hc.2.1 (by simp [h1]))
   ·rw [← List.append_assoc] at hb
    rcases List.mem_append.1 hb with hb | hb
    ·exact h.rg b hb
    ·rw [List.mem_singleton.1 hb]; exact hrg
  ·exact h
 ·exact h
section
variable {w : World} {l : List Op1} {Al : Option Addr} {cl : Nat} {ch : List Int} {A1c : Option Addr} {c1 : Nat}
end
end Go.Proofs.YtjpaogapclfajaaGreat
