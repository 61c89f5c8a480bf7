/- Parts of the proof: R12a. -/
import Derived.Test.YtjpaogapclfajaaGreatBcA
import Derived.Test.YtjpaogapclfajaaGreatBc14
import Derived.Test.YtjpaogapclfajaaGreatBc22
import Derived.Test.YtjpaogapclfajaaGreatBc25
import Derived.Test.YtjpaogapclfajaaGreatBc30
set_option linter.unusedVariables false
set_option linter.unusedSimpArgs false
set_option linter.unusedSectionVars false
namespace Go.Proofs.YtjpaogapclfajaaGreat
open Go.RowKit Go.Sort
attribute [local go_sem] Oper.semAt_some onlyN_normal
set_option maxRecDepth 100000
theorem IS.ofOwn {w : World} {B c : Nat} {A : Option Addr} {l : List Int} (h : w.ownsRow B 3 1 (.slice A l.length c) l.length (ints l)) (hc : l.length ≤ c) : IS w l A c := ⟨own_sl h, hc⟩
def updR (o : Option Int) : Value := match o with
 | none => .tuple #[.int .u64 0, .bool false]
 | some y => .tuple #[.int .u64 y, .bool true]
section
variable {w : World} {s : Spc} {A A1 A2 : Option Addr} {c c1 c2 : Nat} {ms ns : List Int}
set_option maxHeartbeats 4000000 in
theorem RUpdate_any (h : RS w s A c) (hb0 : s.base = 0) (hl0 : s.limit ≤ 16777216) (hm : IS w ms A1 c1) (hn : IS w ns A2 c2) (hnl : ns.length = ms.length) (hnd : ∀ (j : Nat) (a : Int), ms[j]? = some a → ns[j]? = some (newA (Mm.one s) s.base ms a)) (hml : ms.length ≤ 16777216) {x : Int} (hx : U64 x) :
  Calls Tryz.prog 90 #[.agg #[.int .i64 s.base, .int .i64 s.limit, .slice A s.ws.length c], .slice A1 ms.length c1, .slice A2 ns.length c2, .int .u64 x] w fun e w' => e = .returned (updR ((Mm.one s).updW s.base ms x)) ∧ Below w.heap.size w w' := by
 have hHB := boxS w s A c
 have HB := lh hHB
 have HQ := lh (Bk.new w 30 #[.int .i64 s.base, .int .i64 s.limit, .slice A s.ws.length c])
 have cR := Refers_any (h.below hHB) hb0 hl0 hx
 have HM := lh (hm.below hHB)
 have HN := lh (hn.below hHB)
 have HND := lh hnd
 have hc1 := hm.cap
 have hc2 := hn.cap
 obtain ⟨R, hR⟩ : ∃ R, R = (Mm.one s).updW s.base ms x := ⟨_, rfl⟩
 rw [← hR]
 unfold Mm.updW at hR
 unfold rfsV at cR
 cases hr : (Mm.one s).rfr x with
 | none =>
  rw [hr] at hR cR
  dsimp only at hR cR
  subst hR
  clear h hm hn hnd hr hHB hb0
  go_enter Tryz.func90, Tryz.ntmps90
  go_wp2_with fail
  refine cR.mono ?_
  rintro e w1 ⟨rfl, hb⟩
  have HB1 := lh (HB.out.trans (hb.mono HB.out.size))
  clear hb cR
  go_wp2_with fail
  go_ret2
  exact ⟨rfl, HB1.out⟩
 | some o =>
  cases o with
  | none =>
   rw [hr] at hR cR
   dsimp only at hR cR
   subst hR
   clear h hm hn hnd hr hHB hb0
   go_enter Tryz.func90, Tryz.ntmps90
   go_wp2_with fail
   refine cR.mono ?_
   rintro e w1 ⟨rfl, hb⟩
   have HB1 := lh (HB.out.trans (hb.mono HB.out.size))
   clear hb cR
   go_wp2_with fail
   go_ret2
   exact ⟨rfl, HB1.out⟩
  | some a =>
   rw [hr] at hR cR
   dsimp only at hR cR
   have HRY : Hid (a ∈ ms → R = some (frW (newA (Mm.one s) s.base ms a))) := lh fun ha => by rw [hR, if_pos (by simpa using ha)]
   have HRN : Hid (a ∉ ms → R = some 0) := lh fun ha => by rw [hR, if_neg (by simpa using ha)]
   clear h hm hn hnd hr hHB hR hb0
   go_enter Tryz.func90, Tryz.ntmps90
   go_wp2_with fail
   generalize w.alloc (.cells #[.int .i64 s.base, .int .i64 s.limit, .slice A s.ws.length c] 30) = wB at *
   refine cR.mono ?_
   rintro e w1 ⟨rfl, hb⟩
   have HB1 := lh (HB.out.trans (hb.mono HB.out.size))
   have HM1 := lh (HM.out.below hb)
   have HN1 := lh (HN.out.below hb)
   clear hb cR HM HN
   go_wp2_with fail
   go_loopw [13] (fun i wr => ∃ j : Nat, i = .int .i64 (j : Int) ∧ j ≤ ms.length ∧ (∀ z ∈ ms.take j, z ≠ a) ∧ w1 = wr) (fun i _ => ms.length - (intOf i).toNat)
   case atStart => exact ⟨0, rfl, Nat.zero_le _, (fun z hz => by cases hz), rfl⟩
   case round =>
    obtain ⟨j, rfl, hj, hno, rfl⟩ := hrel
    have HNO := lh hno
    by_cases hlt : j < ms.length
    ·obtain ⟨b1, o1, rfl, _, hcc1⟩ := HM1.out.sl.get hlt
     obtain ⟨b2, o2, rfl, _, hcc2⟩ := HN1.out.sl.get (by omega : j < ns.length)
     have t1 : ms[j]? = some ms[j] := List.getElem?_eq_getElem hlt
     have e1 : w1.cell? ⟨b1, o1 + j, none⟩ = some (.int .i64 ms[j]) := hcc1 j _ (ints_get t1)
     have e2 : w1.cell? ⟨b2, o2 + j, none⟩ = some (.int .i64 (newA (Mm.one s) s.base ms ms[j])) := hcc2 j _ (ints_get (HND.out j _ t1))
     have hmem := List.getElem_mem hlt
     have hjc1 : j < c1 := by omega
     have hjc2 : j < c2 := by omega
     have hjn : j < ns.length := by omega
     generalize ms[j] = y at t1 e1 e2 hmem
     have HT1 := lh t1
     have HMEM := lh hmem
     by_cases hya : y = a
     ·subst hya
      obtain ⟨na, hna⟩ : ∃ na, na = newA (Mm.one s) s.base ms y := ⟨_, rfl⟩
      rw [← hna] at e2 HRY
      clear hno t1 hcc1 hcc2 hmem hna
      go_wp2_with fail
      refine (Word_any na _).mono ?_
      rintro e w2 ⟨rfl, rfl⟩
      go_wp2_with fail
      go_ret2
      rw [HRY.out HMEM.out]
      exact ⟨rfl, HB1.out⟩
     ·have hya' : (y == a) = false := by simp [hya]
      have HYA := lh hya
      clear hno t1 hcc1 hcc2 hmem
      go_wp2_with fail
      go_roundw
      case rel =>
       refine ⟨j + 1, by go_num, by omega, fun z hz => ?_, trivial⟩
       rw [List.take_add_one, HT1.out] at hz
       rcases List.mem_append.1 hz with hz | hz
       ·exact HNO.out z hz
       ·rw [List.mem_singleton.1 hz]; exact HYA.out
      case measure => simp [intOf]; omega
    ·obtain rfl : j = ms.length := by omega
     rw [List.take_length] at hno
     have HNO := lh hno
     clear hno
     go_wp2_with fail
     go_ret2
     rw [HRN.out fun h => HNO.out a h rfl]
     exact ⟨rfl, HB1.out⟩
def RPlanP (w : World) (s : Spc) (ms : List Int) (e : Ending) (w' : World) : Prop := Below w.heap.size w w' ∧ match s.plan ms with
 | none => e = .returned (.tuple #[.slice none 0 0, .int .i64 11])
 | some ns => ∃ v, e = .returned (.tuple #[v, .int .i64 0]) ∧ w'.ownsRow w.heap.size 3 1 v ns.length (ints ns)
set_option maxHeartbeats 4000000 in
theorem RPlan_any (h : RS w s A c) (hm : IS w ms A1 c1) (hml : ms.length ≤ 16777216) (hl0 : s.limit ≤ 16777216) :
  Calls Tryz.prog 37 #[.agg #[.int .i64 s.base, .int .i64 s.limit, .slice A s.ws.length c], .slice A1 ms.length c1] w (RPlanP w s ms) := by
 have hHB := boxS w s A c
 have HB := lh hHB
 have HQ := lh (Bk.new w 30 #[.int .i64 s.base, .int .i64 s.limit, .slice A s.ws.length c])
 have H := lh (h.below hHB)
 have HST := lh (hm.below hHB)
 have hcap := hm.cap
 have b0 := h.b0
 have b1 := h.lim
 have hol := objs_len s
 have cWk := RWalk_any H.out
 unfold rsV at cWk
 have cMe := fun (w1 : World) (hb : Below (w.alloc (.cells #[.int .i64 s.base, .int .i64 s.limit, .slice A s.ws.length c] 30)).heap.size (w.alloc (.cells #[.int .i64 s.base, .int .i64 s.limit, .slice A s.ws.length c] 30)) w1) => RMemory_any (H.out.below hb)
 have cHe := fun (w1 : World) (hb : Below (w.alloc (.cells #[.int .i64 s.base, .int .i64 s.limit, .slice A s.ws.length c] 30)).heap.size (w.alloc (.cells #[.int .i64 s.base, .int .i64 s.limit, .slice A s.ws.length c] 30)) w1) (a : Int) => RHeader_any (H.out.below hb).zer a
 simp only [Mm.zer_hdr] at cHe
 unfold rmV Mm.zer hdrV Hdr.val at cHe
 unfold rsV at cMe
 have HCM := lh cMe
 have HCH := lh cHe
 obtain ⟨Q, hQ⟩ : ∃ Q, Q = RPlanP w s ms := ⟨_, rfl⟩
 rw [← hQ]
 have HQN : Hid ((∃ a ∈ ms, s.objs.contains a = false) → ∀ w', Below w.heap.size w w' → Q (.returned (.tuple #[.slice none 0 0, .int .i64 11])) w') := lh fun ⟨a, ha, hc⟩ w' hb => by
  have e : s.plan ms = none := by
   unfold Spc.plan
   rw [if_neg]
   intro hall
   rw [List.all_eq_true.1 hall a ha] at hc
   cases hc
  rw [hQ]
  unfold RPlanP
  rw [e]
  exact ⟨hb, rfl⟩
 have HQS : Hid ((∀ a ∈ ms, s.objs.contains a = true) → ∀ v w', Below w.heap.size w w' → w'.ownsRow w.heap.size 3 1 v (newsL (Mm.one s) s.base ms).length (ints (newsL (Mm.one s) s.base ms)) → Q (.returned (.tuple #[v, .int .i64 0])) w') := lh fun hall v w' hb ho => by
  have e : s.plan ms = some (newsL (Mm.one s) s.base ms) := by
   unfold Spc.plan
   rw [if_pos (List.all_eq_true.2 hall)]
  rw [hQ]
  unfold RPlanP
  rw [e]
  exact ⟨hb, v, rfl, ho⟩
 have HNT := lh (fun (j : Nat) (hj : j < ms.length) => newsL_take (m := Mm.one s) (b := s.base) hj)
 have HNL := lh (newsL_len (Mm.one s) s.base ms)
 have HWT := lh (fun (j : Nat) (a : Int) (e : ms[j]? = some a) => wSum_take (Mm.one s) e)
 have HWR := lh (fun (j : Nat) => wSum_rg (Mm.one s) (ms.take j))
 obtain ⟨sw, hsw⟩ : ∃ sw : Nat → Int, sw = fun j => s.base + wSum (Mm.one s) (ms.take j) := ⟨_, rfl⟩
 have HZ : Hid (sw 0 = s.base) := lh (by rw [hsw]; show s.base + wSum _ [] = _; rw [wSum_nil]; omega)
 have HWT : Hid (∀ (j : Nat) (a : Int), ms[j]? = some a → sw (j + 1) = sw j + wH ((Mm.one s).hdr a).2) := lh fun j a e => by
  rw [hsw]
  dsimp only
  rw [HWT.out j a e]
  omega
 have HWR : Hid (∀ j : Nat, 0 ≤ sw j ∧ sw j ≤ 16777216 + 32 * ((ms.take j).length : Int)) := lh fun j => by
  have := HWR.out j
  rw [hsw]
  dsimp only
  omega
 have HNT : Hid (∀ j, j < ms.length → (newsL (Mm.one s) s.base ms).take (j + 1) = (newsL (Mm.one s) s.base ms).take j ++ [sw j]) := lh fun j hj => by
  rw [HNT.out j hj, hsw]
 obtain ⟨ns, hns⟩ : ∃ ns, ns = newsL (Mm.one s) s.base ms := ⟨_, rfl⟩
 rw [← hns] at HQS HNT HNL
 obtain ⟨m, hmm⟩ : ∃ m, m = Mm.one s := ⟨_, rfl⟩
 simp only [← hmm] at HCH HWT
 obtain ⟨ob, hob⟩ : ∃ ob, ob = s.objs := ⟨_, rfl⟩
 rw [← hob] at cWk hol HQN HQS
 obtain ⟨i0, hi, hz0, hz1, hz2⟩ := info_parts Tryz.infoI
 have HI := lh (And.intro hi (And.intro hz0 (And.intro hz1 hz2)))
 have hobl : ob.length ≤ 16777217 := by omega
 clear h hm cMe cHe H hQ hsw hns hmm hob hi hz0 hz1 hz2 hol
 go_enter Tryz.func37, Tryz.ntmps37
 go_upto_region 1 with fail
 generalize w.alloc (.cells #[.int .i64 s.base, .int .i64 s.limit, .slice A s.ws.length c] 30) = wB at *
 have q0 : wB.cell? ⟨w.heap.size, 0, none⟩ = some (.int .i64 s.base) := HQ.out.cell 0
 have q1 : wB.cell? ⟨w.heap.size, 1, none⟩ = some (.int .i64 s.limit) := HQ.out.cell 1
 have q2 : wB.cell? ⟨w.heap.size, 2, none⟩ = some (.slice A s.ws.length c) := HQ.out.cell 2
 go_wp2_with fail
 refine cWk.mono ?_
 rintro e w1 ⟨v1, rfl, ho1, hb⟩
 obtain ⟨Ao, co, rfl, hco⟩ := own_shape ho1
 have HO1 := lh ho1
 have HB1 := lh hb
 have hq1 := HQ.out.below hb HQ.out.lt
 have q0' : w1.cell? ⟨w.heap.size, 0, none⟩ = some (.int .i64 s.base) := hq1.cell 0
 have HQ1 := lh hq1
 have q0'' : (w1.alloc (.cells #[] 3)).cell? ⟨w.heap.size, 0, none⟩ = some (.int .i64 s.base) := (hq1.alloc _).cell 0
 clear ho1 hb cWk q0 q1 q2 hq1
 go_wp2_with fail
 go_loopw [8, 9, 10] (fun v at_ i wr => ∃ (j : Nat), i = .int .i64 (j : Int) ∧ j ≤ ms.length ∧ at_ = .int .i64 (sw j) ∧ wr.ownsRow w1.heap.size 3 1 v j (ints (ns.take j)) ∧ (∀ a ∈ ms.take j, ob.contains a = true) ∧ Below w1.heap.size w1 wr) (fun _ _ i _ => ms.length - (intOf i).toNat)
 case atStart =>
  exact ⟨0, rfl, Nat.zero_le _, by rw [HZ.out], ownEmpty 1 (Bk.new _ _ _) (Nat.le_refl _), (fun a ha => by cases ha), (Below.refl _ _).alloc (Nat.le_refl _) _⟩
 case round =>
  obtain ⟨j, rfl, hj, rfl, hown, hall, hbr⟩ := hrel
  have HBR := lh hbr
  have HOWN := lh hown
  have HALL := lh hall
  have hbs := hbr.size
  have HBB := lh (HB1.out.trans (hbr.mono HB1.out.size))
  have hq := HQ1.out.below hbr HQ1.out.lt
  have HQR := lh hq
  obtain ⟨A3, c3, rfl, hac⟩ := own_shape hown
  have HOBR := lh (own_local HO1.out (w' := wr) fun k hk => hbr.block k (HO1.out.lt k hk).2)
  by_cases hlt : j < ms.length
  ·obtain ⟨b2, o2, rfl, hbl, hcc⟩ := (HST.out.below HBB.out).sl.get hlt
   have t1 : ms[j]? = some ms[j] := List.getElem?_eq_getElem hlt
   have e1 : wr.cell? ⟨b2, o2 + j, none⟩ = some (.int .i64 ms[j]) := hcc j _ (ints_get t1)
   have HT := lh (HWT.out j _ t1)
   have hcj : j < c1 := by omega
   have hjI : (j : Int) < (ms.length : Int) := by omega
   have hmem := List.getElem_mem hlt
   generalize ms[j] = b at e1 HT t1 hmem
   have HT1 := lh t1
   have HMEM := lh hmem
   have cHs := fun w9 (h9 : Below wr.heap.size wr w9) => R11Has_any (IS.ofOwn (own_local HOBR.out (w' := w9) fun k hk => h9.block k (HOBR.out.lt k hk).2) hco) (by omega) b
   have cH1 := cHs wr (Below.refl _ _)
   have hr1 := HWR.out j
   have hr2 : ((ms.take j).length : Int) ≤ (ms.length : Int) := by simp; omega
   have hr3 : 0 ≤ sw j ∧ sw j ≤ 1073741824 := by omega
   obtain ⟨x, hx⟩ : ∃ x, x = sw j := ⟨_, rfl⟩
   rw [← hx] at HT hr3 ⊢
   have HX := lh hx
   cases hc : ob.contains b with
   | false =>
    rw [hc] at cH1
    have HC := lh hc
    clear hown hall hbr t1 hcc hmem hc hq cHs hx hr1 hr2
    go_wp2_with fail
    refine cH1.mono ?_
    rintro e w2 ⟨rfl, rfl⟩
    go_wp2_with fail
    exact HQN.out ⟨b, HMEM.out, HC.out⟩ _ (HB.out.trans (HBB.out.mono HB.out.size))
   | true =>
    rw [hc] at cH1
    have HC := lh hc
    clear hown hall hbr t1 hcc hmem hc hq cHs hx hr1 hr2
    go_wp2_with fail
    refine cH1.mono ?_
    rintro e w2 ⟨rfl, rfl⟩
    go_upto_region 10 with (at_builtin; refine wpList_append_own_at _ rfl (.tmp 34) (.tmp 36) 23 rfl w1.heap.size 3 i0 (.int .i64 0) 1 8 Tryz.underlying23 HI.out.1 HI.out.2.1 HI.out.2.2.1 HI.out.2.2.2 rfl (by decide) _ j _ rfl (HOWN.out.alloc _) ⟨wr.heap.size, 0, none⟩ 1 1 [.int .i64 x] rfl rfl (cell_one_new _ _ _) (by simp [Value.oneCell']) (by unfold maxLen; omega) (by omega) (by simp; omega) ?_; intro v7 w7 ho7 hg7 _ hl7; have HO7 := lh ho7; have HG7 := lh hg7; obtain ⟨A7, c7, rfl, hac7⟩ := own_shape ho7; clear ho7 hg7 hl7)
    have hb7 : Below w1.heap.size w1 w7 := (HBR.out.alloc hbs _).grown HG7.out (by simp; omega) (fun k hk => (HOWN.out.lt k hk).1)
    have HB7 := lh hb7
    have HBB7 := lh (HB1.out.trans (hb7.mono HB1.out.size))
    have hb7s := hb7.size
    have HQ7 := lh (HQ1.out.below hb7 HQ1.out.lt)
    have hcc7 := (HST.out.below HBB7.out).sl
    have e7 : w7.cell? ⟨b2, o2 + j, none⟩ = some (.int .i64 b) := by
     obtain ⟨b', o', hA, _, hc'⟩ := hcc7.get hlt
     cases hA
     exact hc' j _ (ints_get HT1.out)
    have hbl7 : b2 < w7.heap.size := cell_lt e7
    have HE1 := lh (And.intro hbl7 e7)
    have cM := fun {w9 : World} (hb : Below w7.heap.size w7 w9) => HCM.out _ (HBB7.out.trans (hb.mono (by have := HBB7.out.size; omega)))
    have cH := fun {w9 : World} (hb : Below w7.heap.size w7 w9) => HCH.out _ (HBB7.out.trans (hb.mono (by have := HBB7.out.size; omega))) b
    obtain ⟨er, hd, hhd⟩ : ∃ er hd, m.hdr b = (er, hd) := ⟨_, _, rfl⟩
    simp only [hhd] at cH
    rw [hhd] at HT
    dsimp only at HT
    have cW := RWords_of hd
    have hwb := wH_bound hd
    obtain ⟨wh, hwh⟩ : ∃ wh, wh = wH hd := ⟨_, rfl⟩
    simp only [← hwh] at cW
    rw [← hwh] at HT hwb
    clear hb7 e7 e1 hbl hbl7 hcc7 hhd hwh
    refine wp_region_addsF0 11 (fun i => ([[], [0], [], [], [2, 3], [4], [1, 5], [6], [7], [7], []] : List (List Nat)).getD i []) [9] (EL [Ent.val (.agg #[.int .i64 s.base, .int .i64 s.limit, .slice A s.ws.length c]), Ent.val (.agg #[.int .i64 s.base, .int .i64 s.limit, .slice A s.ws.length c, .int .i64 0, .int .i64 0, .slice none 0 0]), Ent.val (.slice (some ⟨b2, o2, none⟩) ms.length c1), Ent.val (.int .i64 (j : Int)), Ent.val (.pointer (some ⟨b2, o2 + j, none⟩)), Ent.val (.int .i64 b), Ent.val (.tuple #[.agg #[.int .i64 hd.k, .int .i64 hd.c, .int .i64 hd.f], .int .i64 er]), Ent.val (.tuple #[.agg #[.int .i64 hd.k, .int .i64 hd.c, .int .i64 hd.f], .int .i64 er]), Ent.val (.agg #[.int .i64 hd.k, .int .i64 hd.c, .int .i64 hd.f]), Ent.val (.int .i64 er), Ent.blk 55 #[.int .i64 0, .int .i64 0, .int .i64 0]]) (by kernel_rfl) (by kernel_rfl) (by kernel_rfl) (by kernel_rfl) (by kernel_rfl) (by rfl) ?_ ?_
    ·intro i hi o ho vs w1 hb1 hgr
     rcases (show i = 0 ∨ i = 1 ∨ i = 2 ∨ i = 3 ∨ i = 4 ∨ i = 5 ∨ i = 6 ∨ i = 7 ∨ i = 8 ∨ i = 9 ∨ i = 10 by omega) with rfl | rfl | rfl | rfl | rfl | rfl | rfl | rfl | rfl | rfl | rfl <;> cases ho
     ·clear hgr
      change Made _ (Adds _ _ _) (Sem.run _ (execOp (Act.eval (frm _ _ _ [])) _) _)
      simp only [frm]
      have hbk := HQ7.out.below hb1 HQ7.out.lt
      have c0 : w1.cell? ⟨w.heap.size, 0, none⟩ = some (.int .i64 s.base) := hbk.cell 0
      have c1 : w1.cell? ⟨w.heap.size, 1, none⟩ = some (.int .i64 s.limit) := hbk.cell 1
      have c2 : w1.cell? ⟨w.heap.size, 2, none⟩ = some (.slice A s.ws.length c) := hbk.cell 2
      clear hbk
      go_simp
      exact adds_val rfl
     ·have h0 : vs 0 = _ := hgr 0 (by decide)
      clear hgr
      change Made _ (Adds _ _ _) (Sem.run _ (execOp (Act.eval (Act.put (frm _ _ _ []) (some 39) (vs 0))) _) _)
      simp only [frm, h0]
      have cM1 := cM hb1
      go_simp
      exact adds_below cM1
     ·clear hgr
      change Made _ (Adds _ _ _) (Sem.run _ (execOp (Act.eval (frm _ _ _ [])) _) _)
      simp only [frm]
      go_simp
      exact adds_val rfl
     ·clear hgr
      change Made _ (Adds _ _ _) (Sem.run _ (execOp (Act.eval (frm _ _ _ [])) _) _)
      simp only [frm]
      go_simp
      exact adds_val rfl
     ·have h2 : vs 2 = _ := hgr 2 (by decide)
      have h3 : vs 3 = _ := hgr 3 (by decide)
      clear hgr
      change Made _ (Adds _ _ _) (Sem.run _ (execOp (Act.eval (Act.put (Act.put (frm _ _ _ []) (some 42) (vs 3)) (some 41) (vs 2))) _) _)
      simp only [frm, h2, h3]
      go_simp
      exact adds_val rfl
     ·have h4 : vs 4 = _ := hgr 4 (by decide)
      clear hgr
      change Made _ (Adds _ _ _) (Sem.run _ (execOp (Act.eval (Act.put (frm _ _ _ []) (some 43) (vs 4))) _) _)
      simp only [frm, h4]
      have e4 : w1.cell? ⟨b2, o2 + j, none⟩ = some (.int .i64 b) := ((bcell hb1).1 _ _ HE1.out.1).trans HE1.out.2
      go_simp
      exact adds_val rfl
     ·have h1 : vs 1 = _ := hgr 1 (by decide)
      have h5 : vs 5 = _ := hgr 5 (by decide)
      clear hgr
      change Made _ (Adds _ _ _) (Sem.run _ (execOp (Act.eval (Act.put (Act.put (frm _ _ _ []) (some 44) (vs 5)) (some 40) (vs 1))) _) _)
      simp only [frm, h1, h5]
      have cH1 := cH hb1
      go_simp
      exact adds_below cH1
     ·have h6 : vs 6 = _ := hgr 6 (by decide)
      clear hgr
      change Made _ (Adds _ _ _) (Sem.run _ (execOp (Act.eval (Act.put (frm _ _ _ []) (some 45) (vs 6))) _) _)
      simp only [frm, h6]
      go_simp
      exact adds_val rfl
     ·have h7 : vs 7 = _ := hgr 7 (by decide)
      clear hgr
      change Made _ (Adds _ _ _) (Sem.run _ (execOp (Act.eval (Act.put (frm _ _ _ []) (some 38) (vs 7))) _) _)
      simp only [frm, h7]
      go_simp
      exact adds_val rfl
     ·have h7 : vs 7 = _ := hgr 7 (by decide)
      clear hgr
      change Made _ (Adds _ _ _) (Sem.run _ (execOp (Act.eval (Act.put (frm _ _ _ []) (some 38) (vs 7))) _) _)
      simp only [frm, h7]
      go_simp
      exact adds_val rfl
     ·clear hgr
      change Made _ (Adds _ _ _) (Sem.run _ (execOp (Act.eval (frm _ _ _ [])) _) _)
      simp only [frm]
      go_simp
      exact adds_blk
    ·intro vs w1 hb1 hall hap
     obtain ⟨⟨g10, h10, k10⟩, q10⟩ := hall 10 (by omega)
     have r10 : w7.heap.size ≤ g10 ∧ g10 < w1.heap.size := q10 g10 (by rw [h10]; rfl)
     clear q10
     have h8 : vs 8 = _ := (hall 8 (by omega)).1
     have h9 : vs 9 = _ := (hall 9 (by omega)).1
     clear hall hap
     change wpList _ _ _ [_, _] (Act.put (Act.put (Act.put (Act.put (Act.put (Act.put (Act.put (Act.put (Act.put (Act.put (Act.put (frm _ _ _ []) (some 11) (vs 10)) (some 47) (vs 9)) (some 46) (vs 8)) (some 38) (vs 7)) (some 45) (vs 6)) (some 44) (vs 5)) (some 43) (vs 4)) (some 42) (vs 3)) (some 41) (vs 2)) (some 40) (vs 1)) (some 39) (vs 0)) _
     simp only [frm, h8, h9, h10]
     have HB5 := lh hb1
     have HK9 := lh k10
     have h9s := r10
     have d0 : w1.cell? ⟨g10, 0, none⟩ = some (.int .i64 0) := k10.cell 0
     have d1 : w1.cell? ⟨g10, 1, none⟩ = some (.int .i64 0) := k10.cell 1
     have d2 : w1.cell? ⟨g10, 2, none⟩ = some (.int .i64 0) := k10.cell 2
     have f0 := k10.free 0
     have f1 := k10.free 1
     have f2 := k10.free 2
     have HO1W := lh (own_local HO7.out (w' := w1) fun k hk => hb1.block k (HO7.out.lt k hk).2)
     clear hb1 k10 r10 h8 h9 h10 cM cH
     go_wp2_with fail
     rw [onlyN_normal]
     go_upto_region 11 with fail
     have hbz7 : Below w7.heap.size w7 (((w1.setCell ⟨g10, 0, none⟩ (.int .i64 hd.k)).setCell ⟨g10, 1, none⟩ (.int .i64 hd.c)).setCell ⟨g10, 2, none⟩ (.int .i64 hd.f)) := below_set3 HB5.out (by omega) _ _ _
     have HBZ := lh (HB7.out.trans (hbz7.mono hb7s))
     have HOZ := lh (own_local HO7.out (w' := ((w1.setCell ⟨g10, 0, none⟩ (.int .i64 hd.k)).setCell ⟨g10, 1, none⟩ (.int .i64 hd.c)).setCell ⟨g10, 2, none⟩ (.int .i64 hd.f)) fun k hk => hbz7.block k (HO7.out.lt k hk).2)
     have HKZ := lh (HK9.out.set3 (.int .i64 hd.k) (.int .i64 hd.c) (.int .i64 hd.f))
     clear hbz7 HB5 HK9 h9s d0 d1 d2 f0 f1 f2 HE1 HQR HO1W
     generalize ((w1.setCell ⟨g10, 0, none⟩ (.int .i64 hd.k)).setCell ⟨g10, 1, none⟩ (.int .i64 hd.c)).setCell ⟨g10, 2, none⟩ (.int .i64 hd.f) = w6 at *
     have d0 : w6.cell? ⟨g10, 0, none⟩ = some (.int .i64 hd.k) := HKZ.out.cell 0
     have d1 : w6.cell? ⟨g10, 1, none⟩ = some (.int .i64 hd.c) := HKZ.out.cell 1
     have d2 : w6.cell? ⟨g10, 2, none⟩ = some (.int .i64 hd.f) := HKZ.out.cell 2
     go_wp2_with fail
     refine (cW _).mono ?_
     rintro e w9 ⟨rfl, hb9⟩
     have HB9 := lh (HBZ.out.trans (hb9.mono HBZ.out.size))
     have HO9 := lh (own_local HOZ.out (w' := w9) fun k hk => hb9.block k (HOZ.out.lt k hk).2)
     clear hb9 cW
     go_wp2_with fail
     go_roundw
     case rel =>
      refine ⟨j + 1, by go_num, by omega, by rw [HT.out], ?_, fun z hz => ?_, HB9.out⟩
      ·rw [HNT.out j hlt, show ints (ns.take j ++ [sw j]) = ints (ns.take j) ++ [.int .i64 (sw j)] by simp [ints], ← HX.out]
       exact HO9.out
      ·rw [List.take_add_one, HT1.out] at hz
       rcases List.mem_append.1 hz with hz | hz
       ·exact HALL.out z hz
       ·rw [List.mem_singleton.1 hz]; exact HC.out
     case measure => simp [intOf]; omega
  ·obtain rfl : j = ms.length := by omega
   rw [List.take_length] at hall
   rw [List.take_of_length_le (by rw [HNL.out]; exact Nat.le_refl _)] at hown
   have HALL := lh hall
   have HOWN := lh hown
   have hnl := HNL.out
   clear hall hown hbr hq
   go_wp2_with fail
   refine HQS.out HALL.out _ _ (HB.out.trans (HBB.out.mono HB.out.size)) ?_
   rw [hnl]
   exact ownBase HOWN.out (by have := HB.out.size; have := HB1.out.size; omega)
end
end Go.Proofs.YtjpaogapclfajaaGreat
