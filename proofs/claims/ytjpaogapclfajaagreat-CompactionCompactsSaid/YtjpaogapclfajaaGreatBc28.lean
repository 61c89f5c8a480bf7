/- Parts of the proof: Bd12. -/
import Derived.Test.YtjpaogapclfajaaGreatBcA
import Derived.Test.YtjpaogapclfajaaGreatBc27
import Derived.Test.YtjpaogapclfajaaGreatBcEqs
set_option linter.unusedVariables false
set_option linter.unusedSimpArgs false
set_option linter.unusedSectionVars false
namespace Go.Proofs.YtjpaogapclfajaaGreat
open Go.RowKit Go.Sort
attribute [local go_sem] Oper.semAt_some onlyN_normal
set_option maxRecDepth 100000
def LstC (l : List Int) (v : Value) (w : World) : Prop := ∃ A c, v = .slice A l.length c ∧ l.length ≤ c ∧ Sl w 1 A l.length (ints l)
theorem LstC.below {l : List Int} (v : Value) (w w' : World) (h : LstC l v w) (hb : Below w.heap.size w w') : LstC l v w' := let ⟨A, c, e, h1, h2⟩ := h; ⟨A, c, e, h1, h2.below hb⟩
theorem LstC.own {w : World} {B : Nat} {l : List Int} {v : Value} (h : w.ownsRow B 3 1 v l.length (ints l)) : LstC l v w := by
 obtain ⟨A, c, rfl, hc⟩ := own_shape h
 exact ⟨A, c, rfl, hc, own_sl h⟩
/-- what Mark hands back -/
def PtC (B : Nat) (m : Mm) (o : Option (List Int × List Int)) (v : Value) (w : World) : Prop := match o with
 | none => v = .pointer none
 | some (sg, wl) => ∃ g b, v = .pointer (some ⟨g, 0, none⟩) ∧ MkR w B g b m sg wl
theorem PtC.below {w w' : World} {B : Nat} {m : Mm} {o : Option (List Int × List Int)} {v : Value} (h : PtC B m o v w) (hb : Below w.heap.size w w') : PtC B m o v w' := by
 unfold PtC at *
 split
 ·exact h
 ·obtain ⟨g, b, e, h1⟩ := h
  exact ⟨g, b, e, MkR0.below h1 hb⟩
theorem PtC.of {w w' : World} {m : Mm} {o : Option (List Int × List Int)} {e : Ending} (h : MarkPost w m o e w') : Below w.heap.size w w' ∧ ∃ p, e = .returned (.tuple #[p, .int .i64 (erM o)]) ∧ PtC w.heap.size m o p w' := by
 obtain ⟨hb, h⟩ := h
 refine ⟨hb, ?_⟩
 split at h
 ·exact ⟨_, h, rfl⟩
 ·obtain ⟨g, b, e, h1⟩ := h
  exact ⟨_, e, g, b, rfl, h1⟩
/-- a list of words that was made behind block B -/
def RtT (B : Nat) (l : List Int) (v : Value) (w : World) : Prop := ∃ A c, v = .slice A l.length c ∧ Sl w 1 A l.length (wds l) ∧ l.length ≤ c ∧ ∀ b o, A = some ⟨b, o, none⟩ → B ≤ b ∧ b < w.heap.size
theorem RtT.bl {B : Nat} {l : List Int} (v : Value) (w w' : World) (h : RtT B l v w) (hb : Below w.heap.size w w') : RtT B l v w' := by
 obtain ⟨A, c, e, h1, h2, h3⟩ := h
 exact ⟨A, c, e, h1.below hb, h2, fun b o e => ⟨(h3 b o e).1, Nat.lt_of_lt_of_le (h3 b o e).2 hb.size⟩⟩
theorem RtT.of {B : Nat} {w w' : World} {l : List Int} {v : Value} (h : w'.ownsRow w.heap.size 51 1 v l.length (wds l)) (hB : B ≤ w.heap.size) : RtT B l v w' := by
 obtain ⟨A, c, rfl, hc⟩ := own_shape h
 refine ⟨A, c, rfl, own_sl h, hc, fun b o e => ?_⟩
 have := h.lt b (by rw [e]; rfl)
 omega
/-- the struct that build makes: the space, the model, the roots and the words -/
def MdT (B : Nat) (x1 x2 x3 x4 : Value) (ra wk : List Int) (v : Value) (w : World) : Prop := ∃ va vk, v = .agg #[x1, x2, x3, x4, .pointer none, .slice none 0 0, va, vk] ∧ RtT B ra va w ∧ RtT B wk vk w
theorem MdT.bl {B : Nat} {x1 x2 x3 x4 : Value} {ra wk : List Int} (v : Value) (w w' : World) (h : MdT B x1 x2 x3 x4 ra wk v w) (hb : Below w.heap.size w w') : MdT B x1 x2 x3 x4 ra wk v w' := by
 obtain ⟨va, vk, e, h1, h2⟩ := h
 exact ⟨va, vk, e, RtT.bl _ _ _ h1 hb, RtT.bl _ _ _ h2 hb⟩
/-- what lies in memory behind build -/
structure Env12 (w wn : World) (g : Nat) (V : Value) (s : Spc) (A1 : Option Addr) (e1 gm bm : Nat) (sg wl : List Int) (Am : Option Addr) (cm : Nat) (Ar : Option Addr) (cr : Nat) (Aw : Option Addr) (cw : Nat) (roots weak : List Int) : Prop where
 bl : Below w.heap.size w wn
 sp : SpR wn w.heap.size g s V
 rs : RS wn s A1 e1
 mx : MkR wn w.heap.size gm bm (Mm.one s) sg wl
 ms : IS wn (srtI (sg ++ wl)) Am cm
 rt : Sl wn 1 Ar roots.length (wds roots)
 wk : Sl wn 1 Aw weak.length (wds weak)
 rc : roots.length ≤ cr
 wc : weak.length ≤ cw
 ru : ∀ x ∈ roots, U64 x
 wu : ∀ x ∈ weak, U64 x
 rl : roots.length ≤ 10
 kl : weak.length ≤ 10
 b0 : s.base = 0
 l0 : s.limit ≤ 16777216
 wh : Whl s
 mks : Mks s roots weak sg wl
 ap : ∀ b o, A1 = some ⟨b, o, none⟩ ∨ Am = some ⟨b, o, none⟩ ∨ Ar = some ⟨b, o, none⟩ ∨ Aw = some ⟨b, o, none⟩ → b < wn.heap.size ∧ b ≠ g ∧ V.ownBlock ≠ some b
section
variable {w wn w' : World} {g : Nat} {V : Value} {s : Spc} {A1 : Option Addr} {e1 gm bm : Nat} {sg wl : List Int} {Am : Option Addr} {cm : Nat} {Ar : Option Addr} {cr : Nat} {Aw : Option Addr} {cw : Nat} {roots weak : List Int}
theorem Env12.below (h : Env12 w wn g V s A1 e1 gm bm sg wl Am cm Ar cr Aw cw roots weak) (hb : Below wn.heap.size wn w') : Env12 w w' g V s A1 e1 gm bm sg wl Am cm Ar cr Aw cw roots weak :=
 ⟨h.bl.trans (hb.mono h.bl.size), h.sp.below hb, h.rs.below hb, MkR0.below h.mx hb, h.ms.below hb, h.rt.below hb, h.wk.below hb, h.rc, h.wc, h.ru, h.wu, h.rl, h.kl, h.b0, h.l0, h.wh, h.mks, fun b o e => ⟨Nat.lt_of_lt_of_le (h.ap b o e).1 hb.size, (h.ap b o e).2⟩⟩
end
/-- build's results -/
def Bd12P (w : World) (p : Mm × List Int) (ch wk : List Int) (e : Ending) (w' : World) : Prop := match (Mm.one p.1.old).marks (rts1 p.2 ch) with
 | none => (∃ y0 y1 y2 y3 y4 y5 y6 y7 y8 y9 ya yb, e = .returned (.tuple #[.agg #[.pointer (some ⟨y0, 0, none⟩), .int .i64 y1, .int .i64 y2, .slice y3 y4 y5, .pointer none, .slice none 0 0, .slice y6 y7 y8, .slice y9 ya yb], .bool true, .bool false])) ∧ Below w.heap.size w w'
 | some (sg, wl0) => ∃ g V A1 e1 gm bm Am cm Ar cr Aw cw, e = .returned (.tuple #[.agg #[.pointer (some ⟨g, 0, none⟩), .int .i64 p.1.old.base, .int .i64 p.1.old.limit, .slice A1 p.1.old.ws.length e1, .pointer (some ⟨gm, 0, none⟩), .slice Am (srtI (sg ++ (Mm.one p.1.old).kpx sg wl0 (rts1 p.2 wk))).length cm, .slice Ar (rts1 p.2 ch).length cr, .slice Aw (rts1 p.2 wk).length cw], .bool true, .bool true]) ∧ Env12 w w' g V p.1.old A1 e1 gm bm sg ((Mm.one p.1.old).kpx sg wl0 (rts1 p.2 wk)) Am cm Ar cr Aw cw (rts1 p.2 ch) (rts1 p.2 wk)
theorem few_any {w : World} {Al A1 A2 : Option Addr} {n cl n1 c1 n2 c2 : Nat} : Calls Tryz.prog 33 #[.slice Al n cl, .slice A1 n1 c1, .slice A2 n2 c2] w fun e w' => e = .returned (.bool (decide (n ≤ 40 ∧ n1 ≤ 10 ∧ n2 ≤ 10))) ∧ w = w' := by
 by_cases h0 : n ≤ 40
 ·have d0 : decide ((n : Int) ≤ 40) = true := decide_eq_true (by omega)
  have HR : Hid (n ≤ 40) := lh h0
  clear h0
  by_cases h1 : n1 ≤ 10
  ·have d1 : decide ((n1 : Int) ≤ 10) = true := decide_eq_true (by omega)
   have HR1 := lh h1
   clear h1
   by_cases h2 : n2 ≤ 10
   ·have d2 : decide ((n2 : Int) ≤ 10) = true := decide_eq_true (by omega)
    have HR2 := lh h2
    clear h2
    go_enter Tryz.func33, Tryz.ntmps33
    go_wp2_with fail
    go_ret
    exact ⟨ret_bool (decide_eq_true ⟨HR.out, HR1.out, HR2.out⟩).symm, rfl⟩
   ·have d2 : decide ((n2 : Int) ≤ 10) = false := decide_eq_false (by omega)
    have HR2 := lh h2
    clear h2
    go_enter Tryz.func33, Tryz.ntmps33
    go_wp2_with fail
    go_ret
    exact ⟨ret_bool (decide_eq_false fun h => HR2.out h.2.2).symm, rfl⟩
  ·have d1 : decide ((n1 : Int) ≤ 10) = false := decide_eq_false (by omega)
   have HR1 := lh h1
   clear h1
   go_enter Tryz.func33, Tryz.ntmps33
   go_wp2_with fail
   go_ret
   exact ⟨ret_bool (decide_eq_false fun h => HR1.out h.2.1).symm, rfl⟩
 ·have d0 : decide ((n : Int) ≤ 40) = false := decide_eq_false (by omega)
  have HR : Hid (¬ n ≤ 40) := lh h0
  clear h0
  go_enter Tryz.func33, Tryz.ntmps33
  go_wp2_with fail
  go_ret
  exact ⟨ret_bool (decide_eq_false fun h => HR.out h.1).symm, rfl⟩
def set8 (w : World) (g : Nat) (x0 x1 x2 x3 x4 x5 x6 x7 : Value) : World := (((((((w.setCell ⟨g, 0, none⟩ x0).setCell ⟨g, 1, none⟩ x1).setCell ⟨g, 2, none⟩ x2).setCell ⟨g, 3, none⟩ x3).setCell ⟨g, 4, none⟩ x4).setCell ⟨g, 5, none⟩ x5).setCell ⟨g, 6, none⟩ x6).setCell ⟨g, 7, none⟩ x7
theorem set8_bk {w : World} {g : Nat} {t : TypeId} {y0 y1 y2 y3 y4 y5 y6 y7 : Value} (h : Bk w g t #[y0, y1, y2, y3, y4, y5, y6, y7]) (x0 x1 x2 x3 x4 x5 x6 x7 : Value) : Bk (set8 w g x0 x1 x2 x3 x4 x5 x6 x7) g t #[x0, x1, x2, x3, x4, x5, x6, x7] := by
 have h0 : Bk (w.setCell ⟨g, 0, none⟩ x0) g t #[x0, y1, y2, y3, y4, y5, y6, y7] := h.set 0 x0
 have h1 : Bk ((w.setCell ⟨g, 0, none⟩ x0).setCell ⟨g, 1, none⟩ x1) g t #[x0, x1, y2, y3, y4, y5, y6, y7] := h0.set 1 x1
 clear h h0
 unfold set8
 generalize (w.setCell ⟨g, 0, none⟩ x0).setCell ⟨g, 1, none⟩ x1 = w at *
 have h2 : Bk (w.setCell ⟨g, 2, none⟩ x2) g t #[x0, x1, x2, y3, y4, y5, y6, y7] := h1.set 2 x2
 have h3 : Bk ((w.setCell ⟨g, 2, none⟩ x2).setCell ⟨g, 3, none⟩ x3) g t #[x0, x1, x2, x3, y4, y5, y6, y7] := h2.set 3 x3
 clear h1 h2
 generalize (w.setCell ⟨g, 2, none⟩ x2).setCell ⟨g, 3, none⟩ x3 = w at *
 have h4 : Bk (w.setCell ⟨g, 4, none⟩ x4) g t #[x0, x1, x2, x3, x4, y5, y6, y7] := h3.set 4 x4
 have h5 : Bk ((w.setCell ⟨g, 4, none⟩ x4).setCell ⟨g, 5, none⟩ x5) g t #[x0, x1, x2, x3, x4, x5, y6, y7] := h4.set 5 x5
 clear h3 h4
 generalize (w.setCell ⟨g, 4, none⟩ x4).setCell ⟨g, 5, none⟩ x5 = w at *
 have h6 : Bk (w.setCell ⟨g, 6, none⟩ x6) g t #[x0, x1, x2, x3, x4, x5, x6, y7] := h5.set 6 x6
 exact h6.set 7 x7
theorem set8_kp (w : World) (g : Nat) (x0 x1 x2 x3 x4 x5 x6 x7 : Value) : Kp (fun k => k = g) w (set8 w g x0 x1 x2 x3 x4 x5 x6 x7) := by
 have k : ∀ (w : World) (i : Nat) (x : Value), Kp (fun k => k = g) w (w.setCell ⟨g, i, none⟩ x) := fun w i x => Kp.setCell _ _ _ rfl
 have t : ∀ {a b c : World}, Kp (fun k => k = g) a b → Kp (fun k => k = g) b c → Kp (fun k => k = g) a c := fun h1 h2 => h1.trans h2 fun _ _ h => h
 unfold set8
 exact t (t (t (t (t (t (t (k _ _ _) (k _ _ _)) (k _ _ _)) (k _ _ _)) (k _ _ _)) (k _ _ _)) (k _ _ _)) (k _ _ _)
theorem set8_below {w0 w : World} {g : Nat} (h : Below w0.heap.size w0 w) (hg : w0.heap.size ≤ g) (x0 x1 x2 x3 x4 x5 x6 x7 : Value) : Below w0.heap.size w0 (set8 w g x0 x1 x2 x3 x4 x5 x6 x7) :=
 (set8_kp w g x0 x1 x2 x3 x4 x5 x6 x7).toBelow h h.size fun k hk => by rw [hk]; exact hg
theorem Sl.kpw {S : Nat → Prop} {w w' : World} {A : Option Addr} {l : List Int} (h : Sl w 1 A l.length (wds l)) (hk : Kp S w w') (hs : ∀ k, S k → ∃ t cs, Bk w k t cs ∧ noW cs = true) : Sl w' 1 A l.length (wds l) := by
 refine ⟨h.1, ?_⟩
 rcases h.2 with h0 | ⟨b, o, e, hb, hc⟩
 ·exact .inl h0
 ·rcases Nat.eq_zero_or_pos l.length with h1 | h1
  ·exact .inl h1
  ·refine .inr ⟨b, o, e, Nat.lt_of_lt_of_le hb hk.size, fun j x hx => ?_⟩
   refine hk.cell (hc j x hx) fun hS => ?_
   obtain ⟨t, cs, hbk, hn⟩ := hs b hS
   have h2 := hc 0 _ (wds_get (List.getElem?_eq_getElem h1))
   rw [Nat.add_zero, hbk.cell] at h2
   have h3 := List.all_eq_true.1 hn _ (Array.mem_toList_iff.2 (Array.mem_of_getElem? h2))
   simp at h3
theorem Env12.kp {w wn w' : World} {g : Nat} {V : Value} {s : Spc} {A1 : Option Addr} {e1 gm bm : Nat} {sg wl : List Int} {Am : Option Addr} {cm : Nat} {Ar : Option Addr} {cr : Nat} {Aw : Option Addr} {cw : Nat} {roots weak : List Int} {z : Nat} {t : TypeId} {cs : Array Value}
  (h : Env12 w wn g V s A1 e1 gm bm sg wl Am cm Ar cr Aw cw roots weak) (hk : Kp (fun k => k = z) wn w') (hz : w.heap.size ≤ z) (hbk : Bk wn z t cs) (t1 : t ≠ 115) (t2 : t ≠ 51) (t3 : t ≠ 103) (hn : noW cs = true) (hA : ∀ b o, Am = some ⟨b, o, none⟩ → b ≠ z) : Env12 w w' g V s A1 e1 gm bm sg wl Am cm Ar cr Aw cw roots weak := by
 have hs : ∀ k, k = z → ∃ t cs, Bk wn k t cs ∧ noW cs = true := fun k e => by subst e; exact ⟨_, _, hbk, hn⟩
 refine ⟨hk.toBelow h.bl h.bl.size (fun k e => by rw [e]; exact hz), h.sp.kp hk (fun e => Bk.neT h.sp.hd hbk (fun e => t1 e.symm) e) (fun k hk' e => by subst e; exact h.sp.own_ne hbk t2 hk'), ⟨Sl.kpw h.rs.sl hk hs, h.rs.cap, h.rs.u, h.rs.b0, h.rs.lim, h.rs.l0, fun b o e => Nat.lt_of_lt_of_le (h.rs.lt b o e) hk.size⟩,
  MkR0.kp h.mx hk (fun e => Bk.neT h.mx.hd hbk (fun e => t3 e.symm) e) (fun e => h.mx.mp.ne_bk hbk e.symm), ⟨⟨h.ms.sl.1, ?_⟩, h.ms.cap⟩, Sl.kpw h.rt hk hs, Sl.kpw h.wk hk hs, h.rc, h.wc, h.ru, h.wu, h.rl, h.kl, h.b0, h.l0, h.wh, h.mks, fun b o e => ⟨Nat.lt_of_lt_of_le (h.ap b o e).1 hk.size, (h.ap b o e).2⟩⟩
 rcases h.ms.sl.2 with h0 | ⟨b, o, e, hb, hc⟩
 ·exact .inl h0
 ·exact .inr ⟨b, o, e, Nat.lt_of_lt_of_le hb hk.size, fun j x hx => hk.cell (hc j x hx) (hA b o e)⟩
theorem IS.own {w : World} {B : Nat} {A : Option Addr} {c : Nat} {l : List Int} (h : w.ownsRow B 3 1 (.slice A l.length c) l.length (ints l)) (hc : l.length ≤ c) : IS w l A c := ⟨own_sl h, hc⟩
section
variable {w : World} {l : List Op1} {Al : Option Addr} {cl : Nat} {ch wk : List Int} {A1c A2c : Option Addr} {c1 c2 : Nat}
set_option maxHeartbeats 16000000 in
theorem build12_any (hl : Op1s w Al l) (hcl : l.length ≤ cl) (hn : l.length ≤ 40) (h1 : IS w ch A1c c1) (hr1 : ∀ x ∈ ch, -9223372036854775808 ≤ x ∧ x ≤ 9223372036854775807) (hn1 : ch.length ≤ 10) (h2 : IS w wk A2c c2) (hr2 : ∀ x ∈ wk, -9223372036854775808 ≤ x ∧ x ≤ 9223372036854775807) (hn2 : wk.length ≤ 10) :
  Calls Tryz.prog 35 #[.slice Al l.length cl, .slice A1c ch.length c1, .slice A2c wk.length c2] w (Bd12P w (bld1 l) ch wk) := by
 have hal : Below w.heap.size w (w.alloc (.cells #[.pointer none, .int .i64 0, .int .i64 0, .slice none 0 0, .pointer none, .slice none 0 0, .slice none 0 0, .slice none 0 0] 64)) := (Below.refl _ _).alloc (Nat.le_refl _) _
 have hz6 : Bk (w.alloc (.cells #[.pointer none, .int .i64 0, .int .i64 0, .slice none 0 0, .pointer none, .slice none 0 0, .slice none 0 0, .slice none 0 0] 64)) w.heap.size 64 #[.pointer none, .int .i64 0, .int .i64 0, .slice none 0 0, .pointer none, .slice none 0 0, .slice none 0 0, .slice none 0 0] := Bk.new _ _ _
 have cB1 := Build_any (hl.below hal rfl) (by omega) hcl
 have HB0 := lh hal
 have HZ0 := lh hz6
 have H1 := lh (h1.below hal)
 have H2 := lh (h2.below hal)
 have HR1 := lh hr1
 have HR2 := lh hr2
 obtain ⟨q, hq⟩ : ∃ q, q = bld1 l := ⟨_, rfl⟩
 rw [← hq] at cB1 ⊢
 have hwh : Whl q.1.old := by rw [hq]; exact bld1_whl l
 obtain ⟨Q, hQ⟩ : ∃ Q, Q = Bd12P w q ch wk := ⟨_, rfl⟩
 rw [← hQ]
 have HQQ := lh hQ
 have HWH := lh hwh
 clear hl hcl h1 hr1 h2 hr2 hal hz6 hq hQ hwh
 go_enter Tryz.func35, Tryz.ntmps35
 go_upto_region 1 with fail
 generalize w.alloc (.cells #[.pointer none, .int .i64 0, .int .i64 0, .slice none 0 0, .pointer none, .slice none 0 0, .slice none 0 0, .slice none 0 0] 64) = w1 at *
 go_wp2_with fail
 refine cB1.mono ?_
 rintro e w2 ⟨g1, g2, V1, V2, A1, e1, A2, e2, Aq, cq, rfl, hmr, hrm, his, hap, hb2, nq, hnq, hqb⟩
 clear cB1
 have HE2 := lh (Env11.start (w := w) (p := q) (q := q) (HB0.out.trans (hb2.mono HB0.out.size)) hmr hrm his hap)
 have hql : q.2.length ≤ 1000 := Nat.le_trans hqb.len hnq
 have HAP : Hid (∀ b o, A1 = some ⟨b, o, none⟩ → b < w2.heap.size ∧ b ≠ g1 ∧ V1.ownBlock ≠ some b) := lh fun b o e => by
  have h := hap b o (.inl e)
  exact ⟨h.1, h.2.1, fun hk => h.2.2 (.inl hk)⟩
 have HBW : Hid (Below w2.heap.size w2 ((w2.alloc (.cells #[.pointer (some ⟨g1, 0, none⟩), .pointer (some ⟨g2, 0, none⟩)] 27)).alloc (.cells #[.int .i64 q.1.old.base, .int .i64 q.1.old.limit, .slice A1 q.1.old.ws.length e1, .int .i64 q.1.yng.base, .int .i64 q.1.yng.limit, .slice A2 q.1.yng.ws.length e2] 32))) := lh (((Below.refl _ _).alloc (Nat.le_refl _) _).alloc (by simp) _)
 have HZ3 : Hid (Bk ((w2.alloc (.cells #[.pointer (some ⟨g1, 0, none⟩), .pointer (some ⟨g2, 0, none⟩)] 27)).alloc (.cells #[.int .i64 q.1.old.base, .int .i64 q.1.old.limit, .slice A1 q.1.old.ws.length e1, .int .i64 q.1.yng.base, .int .i64 q.1.yng.limit, .slice A2 q.1.yng.ws.length e2] 32)) w.heap.size 64 #[.pointer none, .int .i64 0, .int .i64 0, .slice none 0 0, .pointer none, .slice none 0 0, .slice none 0 0, .slice none 0 0]) := lh ((HZ0.out.below hb2 HZ0.out.lt).below HBW.out (Nat.lt_of_lt_of_le HZ0.out.lt hb2.size))
 have H13 := lh ((H1.out.below hb2).below HBW.out)
 have H23 := lh ((H2.out.below hb2).below HBW.out)
 have hb0 := HB0.out.size
 have hgl : w1.heap.size ≤ g1 ∧ g1 < w2.heap.size := ⟨hmr.o.ge, hmr.o.hd.lt⟩
 have hz0 := HZ0.out.lt
 have hw23 := HBW.out.size
 clear hmr hrm his hap hb2 hnq hqb H1 H2 HZ0 HBW
 go_upto_region 4 with fail
 have HE3 := lh HE2.out
 clear HE2
 generalize ((w2.alloc (.cells #[.pointer (some ⟨g1, 0, none⟩), .pointer (some ⟨g2, 0, none⟩)] 27)).alloc (.cells #[.int .i64 q.1.old.base, .int .i64 q.1.old.limit, .slice A1 q.1.old.ws.length e1, .int .i64 q.1.yng.base, .int .i64 q.1.yng.limit, .slice A2 q.1.yng.ws.length e2] 32)) = w3 at *
 obtain ⟨z2, hz2⟩ : ∃ z2, z2 = w2.heap.size := ⟨_, rfl⟩
 rw [← hz2] at HAP hgl hw23
 generalize w2.heap.size = bm at *
 obtain ⟨B1, hB1⟩ : ∃ B1, B1 = w1.heap.size := ⟨_, rfl⟩
 rw [← hB1] at HE3 hgl hz0 hb0
 clear hB1
 obtain ⟨ra, hra⟩ : ∃ ra, ra = rts1 q.2 ch := ⟨_, rfl⟩
 obtain ⟨rk, hrk⟩ : ∃ rk, rk = rts1 q.2 wk := ⟨_, rfl⟩
 have hla : ra.length ≤ 10 := by rw [hra, rts1_len]; omega
 have hlk : rk.length ≤ 10 := by rw [hrk, rts1_len]; omega
 have HUa : Hid (∀ x ∈ ra, U64 x) := lh (by rw [hra]; exact rts1_u _ _)
 have HUk : Hid (∀ x ∈ rk, U64 x) := lh (by rw [hrk]; exact rts1_u _ _)
 have HRA := lh hra
 have HRK := lh hrk
 have cR1 := fun {w4 : World} (hb : Below w3.heap.size w3 w4) => Roots_any (HE3.out.below hb).is (by omega) (H13.out.below hb) (by omega) HR1.out
 have cR2 := fun {w4 : World} (hb : Below w3.heap.size w3 w4) => Roots_any (HE3.out.below hb).is (by omega) (H23.out.below hb) (by omega) HR2.out
 simp only [← hra] at cR1
 simp only [← hrk] at cR2
 have HKB := lh HE3.out.kb
 have HKR := lh HE3.out.kr
 clear hra hrk
 refine wp_region_adds0 12 (fun i => ([[], [0], [], [2], [], [], [4, 5], [], [], [7, 8], [1, 3, 6, 9], []] : List (List Nat)).getD i []) (EL [Ent.val (.pointer (some ⟨bm, 0, none⟩)), Ent.val (.pointer (some ⟨g1, 0, none⟩)), Ent.val (.pointer (some ⟨(bm + 1), 0, none⟩)), Ent.val (.agg #[.int .i64 q.1.old.base, .int .i64 q.1.old.limit, .slice A1 q.1.old.ws.length e1]), Ent.val (.slice Aq q.2.length cq), Ent.val (.slice A1c ch.length c1), Ent.of (RtT w3.heap.size ra) RtT.bl, Ent.val (.slice Aq q.2.length cq), Ent.val (.slice A2c wk.length c2), Ent.of (RtT w3.heap.size rk) RtT.bl, Ent.of (MdT w3.heap.size (.pointer (some ⟨g1, 0, none⟩)) (.int .i64 q.1.old.base) (.int .i64 q.1.old.limit) (.slice A1 q.1.old.ws.length e1) ra rk) MdT.bl, Ent.blk 64 #[.pointer none, .int .i64 0, .int .i64 0, .slice none 0 0, .pointer none, .slice none 0 0, .slice none 0 0, .slice none 0 0]]) (by kernel_rfl) (by kernel_rfl) (by kernel_rfl) (by kernel_rfl) (by rfl) ?_ ?_
 ·intro i hi o ho vs w9 hb1 hgr
  rcases (show i = 0 ∨ i = 1 ∨ i = 2 ∨ i = 3 ∨ i = 4 ∨ i = 5 ∨ i = 6 ∨ i = 7 ∨ i = 8 ∨ i = 9 ∨ i = 10 ∨ i = 11 by omega) with rfl | rfl | rfl | rfl | rfl | rfl | rfl | rfl | rfl | rfl | rfl | rfl <;> cases ho
  ·clear hgr
   change Made _ (Adds _ _ _) (Sem.run _ (execOp (Act.eval (frm _ _ _ [])) _) _)
   simp only [frm]
   go_simp
   exact adds_val rfl
  ·have h0 : vs 0 = _ := hgr 0 (by decide)
   clear hgr
   change Made _ (Adds _ _ _) (Sem.run _ (execOp (Act.eval (Act.put (frm _ _ _ []) (some 30) (vs 0))) _) _)
   simp only [frm, h0]
   have hbk := HKB.out.below hb1 HKB.out.lt
   have c0 : w9.cell? ⟨bm, 0, none⟩ = some (.pointer (some ⟨g1, 0, none⟩)) := hbk.cell 0
   clear hbk
   go_simp
   exact adds_val rfl
  ·clear hgr
   change Made _ (Adds _ _ _) (Sem.run _ (execOp (Act.eval (frm _ _ _ [])) _) _)
   simp only [frm]
   go_simp
   exact adds_val rfl
  ·have h2 : vs 2 = _ := hgr 2 (by decide)
   clear hgr
   change Made _ (Adds _ _ _) (Sem.run _ (execOp (Act.eval (Act.put (frm _ _ _ []) (some 32) (vs 2))) _) _)
   simp only [frm, h2]
   have hbk := HKR.out.below hb1 HKR.out.lt
   have c0 : w9.cell? ⟨(bm + 1), 0, none⟩ = some (.int .i64 q.1.old.base) := hbk.cell 0
   have c1 : w9.cell? ⟨(bm + 1), 1, none⟩ = some (.int .i64 q.1.old.limit) := hbk.cell 1
   have c2 : w9.cell? ⟨(bm + 1), 2, none⟩ = some (.slice A1 q.1.old.ws.length e1) := hbk.cell 2
   clear hbk
   go_simp
   exact adds_val rfl
  ·clear hgr
   change Made _ (Adds _ _ _) (Sem.run _ (execOp (Act.eval (frm _ _ _ [])) _) _)
   simp only [frm]
   go_simp
   exact adds_val rfl
  ·clear hgr
   change Made _ (Adds _ _ _) (Sem.run _ (execOp (Act.eval (frm _ _ _ [])) _) _)
   simp only [frm]
   go_simp
   exact adds_val rfl
  ·have h4 : vs 4 = _ := hgr 4 (by decide)
   have h5 : vs 5 = _ := hgr 5 (by decide)
   clear hgr
   change Made _ (Adds _ _ _) (Sem.run _ (execOp (Act.eval (Act.put (Act.put (frm _ _ _ []) (some 35) (vs 5)) (some 34) (vs 4))) _) _)
   simp only [frm, h4, h5]
   have cR := cR1 hb1
   go_simp
   exact adds_call (T := RtT w3.heap.size ra) (hT := RtT.bl) (ob := fun _ => none) cR fun e w2 ⟨v, he, ho, hb⟩ => ⟨v, he, RtT.of ho hb1.size, hb, (fun k hk => nomatch hk)⟩
  ·clear hgr
   change Made _ (Adds _ _ _) (Sem.run _ (execOp (Act.eval (frm _ _ _ [])) _) _)
   simp only [frm]
   go_simp
   exact adds_val rfl
  ·clear hgr
   change Made _ (Adds _ _ _) (Sem.run _ (execOp (Act.eval (frm _ _ _ [])) _) _)
   simp only [frm]
   go_simp
   exact adds_val rfl
  ·have h7 : vs 7 = _ := hgr 7 (by decide)
   have h8 : vs 8 = _ := hgr 8 (by decide)
   clear hgr
   change Made _ (Adds _ _ _) (Sem.run _ (execOp (Act.eval (Act.put (Act.put (frm _ _ _ []) (some 38) (vs 8)) (some 37) (vs 7))) _) _)
   simp only [frm, h7, h8]
   have cR := cR2 hb1
   go_simp
   exact adds_call (T := RtT w3.heap.size rk) (hT := RtT.bl) (ob := fun _ => none) cR fun e w2 ⟨v, he, ho, hb⟩ => ⟨v, he, RtT.of ho hb1.size, hb, (fun k hk => nomatch hk)⟩
  ·have h1 : vs 1 = _ := hgr 1 (by decide)
   have h3 : vs 3 = _ := hgr 3 (by decide)
   obtain ⟨Ar, cr, h6, hsr, hcr, hgr6⟩ := hgr 6 (by decide)
   obtain ⟨Ak, ck, h9, hsk, hck, hgk9⟩ := hgr 9 (by decide)
   clear hgr
   change Made _ (Adds _ _ _) (Sem.run _ (execOp (Act.eval (Act.put (Act.put (Act.put (Act.put (frm _ _ _ []) (some 39) (vs 9)) (some 36) (vs 6)) (some 33) (vs 3)) (some 31) (vs 1))) _) _)
   simp only [frm, h1, h3, h6, h9]
   go_simp
   exact adds_of (hT := MdT.bl) ⟨_, _, rfl, ⟨Ar, cr, rfl, hsr, hcr, hgr6⟩, ⟨Ak, ck, rfl, hsk, hck, hgk9⟩⟩
  ·clear hgr
   change Made _ (Adds _ _ _) (Sem.run _ (execOp (Act.eval (frm _ _ _ [])) _) _)
   simp only [frm]
   go_simp
   exact adds_blk
 ·intro vs w9 hb1 hall hap
  obtain ⟨va, vk, h10, hva, hvk⟩ := (hall 10 (by omega)).1
  obtain ⟨⟨g11, h11, k11⟩, q11⟩ := hall 11 (by omega)
  have r11 : w3.heap.size ≤ g11 ∧ g11 < w9.heap.size := q11 g11 (by rw [h11]; rfl)
  clear q11
  obtain ⟨Ar, cr, rfl, hsr, hcr, hgr⟩ := hva
  obtain ⟨Ak, ck, rfl, hsk, hck, hgk⟩ := hvk
  clear hall hap
  change wpList _ _ _ [_] (Act.put (Act.put (Act.put (Act.put (Act.put (Act.put (Act.put (Act.put (Act.put (Act.put (Act.put (Act.put (frm _ _ _ []) (some 13) (vs 11)) (some 40) (vs 10)) (some 39) (vs 9)) (some 38) (vs 8)) (some 37) (vs 7)) (some 36) (vs 6)) (some 35) (vs 5)) (some 34) (vs 4)) (some 33) (vs 3)) (some 32) (vs 2)) (some 31) (vs 1)) (some 30) (vs 0)) _
  simp only [frm, h10, h11]
  have HB9 := lh hb1
  have HK9 := lh k11
  have HSR := lh (And.intro hsr hgr)
  have HSK := lh (And.intro hsk hgk)
  have h9s := r11
  have d0 : w9.cell? ⟨g11, 0, none⟩ = some (.pointer none) := k11.cell 0
  have d1 : w9.cell? ⟨g11, 1, none⟩ = some (.int .i64 0) := k11.cell 1
  have d2 : w9.cell? ⟨g11, 2, none⟩ = some (.int .i64 0) := k11.cell 2
  have d3 : w9.cell? ⟨g11, 3, none⟩ = some (.slice none 0 0) := k11.cell 3
  have d4 : w9.cell? ⟨g11, 4, none⟩ = some (.pointer none) := k11.cell 4
  have d5 : w9.cell? ⟨g11, 5, none⟩ = some (.slice none 0 0) := k11.cell 5
  have d6 : w9.cell? ⟨g11, 6, none⟩ = some (.slice none 0 0) := k11.cell 6
  have d7 : w9.cell? ⟨g11, 7, none⟩ = some (.slice none 0 0) := k11.cell 7
  have f0 := k11.free 0
  have f1 := k11.free 1
  have f2 := k11.free 2
  have f3 := k11.free 3
  have f4 := k11.free 4
  have f5 := k11.free 5
  have f6 := k11.free 6
  have f7 := k11.free 7
  clear hb1 k11 r11 h10 h11 hsr hgr hsk hgk cR1 cR2 HKB HKR
  go_wp2_with fail
  have hb5 : Below w3.heap.size w3 (((((((((w9.setCell ⟨g11, 0, none⟩ (.pointer (some ⟨g1, 0, none⟩))).setCell ⟨g11, 1, none⟩ (.int .i64 q.1.old.base)).setCell ⟨g11, 2, none⟩ (.int .i64 q.1.old.limit)).setCell ⟨g11, 3, none⟩ (.slice A1 q.1.old.ws.length e1)).setCell ⟨g11, 4, none⟩ (.pointer none)).setCell ⟨g11, 5, none⟩ (.slice none 0 0)).setCell ⟨g11, 6, none⟩ (.slice Ar ra.length cr)).setCell ⟨g11, 7, none⟩ (.slice Ak rk.length ck))) := set8_below HB9.out h9s.1 _ _ _ _ _ _ _ _
  have hkp : Kp (fun k => k = g11) w9 (((((((((w9.setCell ⟨g11, 0, none⟩ (.pointer (some ⟨g1, 0, none⟩))).setCell ⟨g11, 1, none⟩ (.int .i64 q.1.old.base)).setCell ⟨g11, 2, none⟩ (.int .i64 q.1.old.limit)).setCell ⟨g11, 3, none⟩ (.slice A1 q.1.old.ws.length e1)).setCell ⟨g11, 4, none⟩ (.pointer none)).setCell ⟨g11, 5, none⟩ (.slice none 0 0)).setCell ⟨g11, 6, none⟩ (.slice Ar ra.length cr)).setCell ⟨g11, 7, none⟩ (.slice Ak rk.length ck))) := set8_kp _ _ _ _ _ _ _ _ _ _
  have hne : ∀ k, k = g11 → ∃ t cs, Bk w9 k t cs ∧ noW cs = true := fun k e => by subst e; exact ⟨_, _, HK9.out, rfl⟩
  have HE5 := lh (HE3.out.below hb5)
  have HT5 : Hid (Bk (((((((((w9.setCell ⟨g11, 0, none⟩ (.pointer (some ⟨g1, 0, none⟩))).setCell ⟨g11, 1, none⟩ (.int .i64 q.1.old.base)).setCell ⟨g11, 2, none⟩ (.int .i64 q.1.old.limit)).setCell ⟨g11, 3, none⟩ (.slice A1 q.1.old.ws.length e1)).setCell ⟨g11, 4, none⟩ (.pointer none)).setCell ⟨g11, 5, none⟩ (.slice none 0 0)).setCell ⟨g11, 6, none⟩ (.slice Ar ra.length cr)).setCell ⟨g11, 7, none⟩ (.slice Ak rk.length ck))) g11 64 #[.pointer (some ⟨g1, 0, none⟩), .int .i64 q.1.old.base, .int .i64 q.1.old.limit, .slice A1 q.1.old.ws.length e1, .pointer none, .slice none 0 0, .slice Ar ra.length cr, .slice Ak rk.length ck]) := lh (set8_bk HK9.out _ _ _ _ _ _ _ _)
  have HZ5 := lh (HZ3.out.below hb5 HZ3.out.lt)
  have HSR5 := lh (Sl.kpw HSR.out.1 hkp hne)
  have HSK5 := lh (Sl.kpw HSK.out.1 hkp hne)
  have HGR : Hid (∀ b o, Ar = some ⟨b, o, none⟩ → w3.heap.size ≤ b ∧ b < (((((((((w9.setCell ⟨g11, 0, none⟩ (.pointer (some ⟨g1, 0, none⟩))).setCell ⟨g11, 1, none⟩ (.int .i64 q.1.old.base)).setCell ⟨g11, 2, none⟩ (.int .i64 q.1.old.limit)).setCell ⟨g11, 3, none⟩ (.slice A1 q.1.old.ws.length e1)).setCell ⟨g11, 4, none⟩ (.pointer none)).setCell ⟨g11, 5, none⟩ (.slice none 0 0)).setCell ⟨g11, 6, none⟩ (.slice Ar ra.length cr)).setCell ⟨g11, 7, none⟩ (.slice Ak rk.length ck))).heap.size) := lh fun b o e => ⟨(HSR.out.2 b o e).1, Nat.lt_of_lt_of_le (HSR.out.2 b o e).2 hkp.size⟩
  have HGK : Hid (∀ b o, Ak = some ⟨b, o, none⟩ → w3.heap.size ≤ b ∧ b < (((((((((w9.setCell ⟨g11, 0, none⟩ (.pointer (some ⟨g1, 0, none⟩))).setCell ⟨g11, 1, none⟩ (.int .i64 q.1.old.base)).setCell ⟨g11, 2, none⟩ (.int .i64 q.1.old.limit)).setCell ⟨g11, 3, none⟩ (.slice A1 q.1.old.ws.length e1)).setCell ⟨g11, 4, none⟩ (.pointer none)).setCell ⟨g11, 5, none⟩ (.slice none 0 0)).setCell ⟨g11, 6, none⟩ (.slice Ar ra.length cr)).setCell ⟨g11, 7, none⟩ (.slice Ak rk.length ck))).heap.size) := lh fun b o e => ⟨(HSK.out.2 b o e).1, Nat.lt_of_lt_of_le (HSK.out.2 b o e).2 hkp.size⟩
  have hw35 := hb5.size
  clear hb5 hkp hne HB9 HK9 HSR HSK d0 d1 d2 d3 d4 d5 d6 d7 f0 f1 f2 f3 f4 f5 f6 f7
  generalize ((((((((w9.setCell ⟨g11, 0, none⟩ (.pointer (some ⟨g1, 0, none⟩))).setCell ⟨g11, 1, none⟩ (.int .i64 q.1.old.base)).setCell ⟨g11, 2, none⟩ (.int .i64 q.1.old.limit)).setCell ⟨g11, 3, none⟩ (.slice A1 q.1.old.ws.length e1)).setCell ⟨g11, 4, none⟩ (.pointer none)).setCell ⟨g11, 5, none⟩ (.slice none 0 0)).setCell ⟨g11, 6, none⟩ (.slice Ar ra.length cr)).setCell ⟨g11, 7, none⟩ (.slice Ak rk.length ck)) = w5 at *
  obtain ⟨m, hm⟩ : ∃ m, m = Mm.one q.1.old := ⟨_, rfl⟩
  have HM := lh hm
  have OK : Hid m.Ok := lh (by rw [hm]; exact Mm.one_ok HE5.out.mr.o.ok HE5.out.mr.ok.ob HE5.out.mr.ok.ol)
  have HSZ : Hid (m.size ≤ 16777216) := lh (by rw [hm, Mm.one_size]; exact HE5.out.len)
  have cM := HE5.out.mark HE5.out.lt HSR5.out (by omega) hcr HUa.out (fun b o e => (HGR.out b o e).2)
  have cS := fun {w6 : World} (hb : Below w5.heap.size w5 w6) => RMarks_any (HE5.out.below hb).rm.o HE5.out.mr.ok.ob HE5.out.mr.ok.ol (HSR5.out.below hb) hcr HUa.out (by omega) (HSK5.out.below hb) hck HUk.out (by omega)
  rw [← hm] at cM
  simp only [← hm] at cS
  have HMS := lh (Mm.marks_strong m ra)
  obtain ⟨om, hom⟩ : ∃ om, om = m.marks ra := ⟨_, rfl⟩
  obtain ⟨os, hos⟩ : ∃ os, os = m.strong ra := ⟨_, rfl⟩
  rw [← hom] at cM
  simp only [← hos] at cS
  rw [← hom, ← hos] at HMS
  have HOM := lh hom
  clear hm hom hos
  have d0 : w5.cell? ⟨g11, 0, none⟩ = some (.pointer (some ⟨g1, 0, none⟩)) := HT5.out.cell 0
  have d1 : w5.cell? ⟨g11, 1, none⟩ = some (.int .i64 q.1.old.base) := HT5.out.cell 1
  have d2 : w5.cell? ⟨g11, 2, none⟩ = some (.int .i64 q.1.old.limit) := HT5.out.cell 2
  have d3 : w5.cell? ⟨g11, 3, none⟩ = some (.slice A1 q.1.old.ws.length e1) := HT5.out.cell 3
  have d4 : w5.cell? ⟨g11, 4, none⟩ = some (.pointer none) := HT5.out.cell 4
  have d5 : w5.cell? ⟨g11, 5, none⟩ = some (.slice none 0 0) := HT5.out.cell 5
  have d6 : w5.cell? ⟨g11, 6, none⟩ = some (.slice Ar ra.length cr) := HT5.out.cell 6
  have d7 : w5.cell? ⟨g11, 7, none⟩ = some (.slice Ak rk.length ck) := HT5.out.cell 7
  have HQN : Hid (om = none → ∀ y0 y1 y2 y3 y4 y5 y6 y7 y8 y9 ya yb w', Below w.heap.size w w' → Q (.returned (.tuple #[.agg #[.pointer (some ⟨y0, 0, none⟩), .int .i64 y1, .int .i64 y2, .slice y3 y4 y5, .pointer none, .slice none 0 0, .slice y6 y7 y8, .slice y9 ya yb], .bool true, .bool false])) w') := lh fun h0 y0 y1 y2 y3 y4 y5 y6 y7 y8 y9 ya yb w' hb => by
   rw [HQQ.out]
   unfold Bd12P
   rw [← HRA.out, ← HM.out, ← HOM.out, h0]
   exact ⟨⟨y0, y1, y2, y3, y4, y5, y6, y7, y8, y9, ya, yb, rfl⟩, hb⟩
  have HQS : Hid (∀ sg wl, om = some (sg, wl) → ∀ gm bm Am cm w', Env12 w w' g1 V1 q.1.old A1 e1 gm bm sg (m.kpx sg wl rk) Am cm Ar cr Ak ck ra rk → Q (.returned (.tuple #[.agg #[.pointer (some ⟨g1, 0, none⟩), .int .i64 q.1.old.base, .int .i64 q.1.old.limit, .slice A1 q.1.old.ws.length e1, .pointer (some ⟨gm, 0, none⟩), .slice Am (srtI (sg ++ m.kpx sg wl rk)).length cm, .slice Ar ra.length cr, .slice Ak rk.length ck], .bool true, .bool true])) w') := lh fun sg wl h0 gm bm Am cm w' he => by
   rw [HQQ.out]
   unfold Bd12P
   rw [← HRA.out, ← HM.out, ← HOM.out, h0]
   dsimp only
   rw [← HRK.out]
   exact ⟨g1, V1, A1, e1, gm, bm, Am, cm, Ar, cr, Ak, ck, rfl, he⟩
  refine cM.mono ?_
  rintro e w6 h6
  obtain ⟨hb6, pa, rfl, hpa⟩ := PtC.of h6
  have HP6 := lh hpa
  have HT6 := lh (HT5.out.below hb6 HT5.out.lt)
  have HB6 := lh hb6
  have cS6 := cS hb6
  clear h6 hpa hb6 cM cS d0 d1 d2 d3 d4 d5 d6 d7
  have d0 : w6.cell? ⟨g11, 0, none⟩ = some (.pointer (some ⟨g1, 0, none⟩)) := HT6.out.cell 0
  have d1 : w6.cell? ⟨g11, 1, none⟩ = some (.int .i64 q.1.old.base) := HT6.out.cell 1
  have d2 : w6.cell? ⟨g11, 2, none⟩ = some (.int .i64 q.1.old.limit) := HT6.out.cell 2
  have d3 : w6.cell? ⟨g11, 3, none⟩ = some (.slice A1 q.1.old.ws.length e1) := HT6.out.cell 3
  have d4 : w6.cell? ⟨g11, 4, none⟩ = some (.pointer none) := HT6.out.cell 4
  have d5 : w6.cell? ⟨g11, 5, none⟩ = some (.slice none 0 0) := HT6.out.cell 5
  have d6 : w6.cell? ⟨g11, 6, none⟩ = some (.slice Ar ra.length cr) := HT6.out.cell 6
  have d7 : w6.cell? ⟨g11, 7, none⟩ = some (.slice Ak rk.length ck) := HT6.out.cell 7
  go_wp2_with fail
  refine cS6.mono ?_
  rintro e w7 ⟨hb7, h7⟩
  have HP7 := lh (HP6.out.below hb7)
  have HB7 := lh (HB6.out.trans (hb7.mono HB6.out.size))
  have HT7 := lh (HT6.out.below hb7 HT6.out.lt)
  have hb67 := HB6.out.size
  clear hb7 cS6 HP6 HT6 HB6 d0 d1 d2 d3 d4 d5 d6 d7
  rcases HMS.out with ⟨rfl, rfl⟩ | ⟨sg, wl, st, rfl, rfl, hmi, hsi, hp1, hp2⟩
  ·dsimp only at h7
   subst h7
   have hpa : pa = .pointer none := HP7.out
   subst hpa
   have HZ7 := lh (HZ5.out.below HB7.out HZ5.out.lt)
   have HBF : Hid (Below w.heap.size w w7) := lh (HE5.out.below HB7.out).bl
   have d0 : w7.cell? ⟨g11, 0, none⟩ = some (.pointer (some ⟨g1, 0, none⟩)) := HT7.out.cell 0
   have d1 : w7.cell? ⟨g11, 1, none⟩ = some (.int .i64 q.1.old.base) := HT7.out.cell 1
   have d2 : w7.cell? ⟨g11, 2, none⟩ = some (.int .i64 q.1.old.limit) := HT7.out.cell 2
   have d3 : w7.cell? ⟨g11, 3, none⟩ = some (.slice A1 q.1.old.ws.length e1) := HT7.out.cell 3
   have d4 : w7.cell? ⟨g11, 4, none⟩ = some (.pointer none) := HT7.out.cell 4
   have d5 : w7.cell? ⟨g11, 5, none⟩ = some (.slice none 0 0) := HT7.out.cell 5
   have d6 : w7.cell? ⟨g11, 6, none⟩ = some (.slice Ar ra.length cr) := HT7.out.cell 6
   have d7 : w7.cell? ⟨g11, 7, none⟩ = some (.slice Ak rk.length ck) := HT7.out.cell 7
   have z0 : w7.cell? ⟨w.heap.size, 0, none⟩ = some (.pointer none) := HZ7.out.cell 0
   have z1 : w7.cell? ⟨w.heap.size, 1, none⟩ = some (.int .i64 0) := HZ7.out.cell 1
   have z2 : w7.cell? ⟨w.heap.size, 2, none⟩ = some (.int .i64 0) := HZ7.out.cell 2
   have z3 : w7.cell? ⟨w.heap.size, 3, none⟩ = some (.slice none 0 0) := HZ7.out.cell 3
   have z4 : w7.cell? ⟨w.heap.size, 4, none⟩ = some (.pointer none) := HZ7.out.cell 4
   have z5 : w7.cell? ⟨w.heap.size, 5, none⟩ = some (.slice none 0 0) := HZ7.out.cell 5
   have z6 : w7.cell? ⟨w.heap.size, 6, none⟩ = some (.slice none 0 0) := HZ7.out.cell 6
   have z7 : w7.cell? ⟨w.heap.size, 7, none⟩ = some (.slice none 0 0) := HZ7.out.cell 7
   have f0 := HZ7.out.free 0
   have f1 := HZ7.out.free 1
   have f2 := HZ7.out.free 2
   have f3 := HZ7.out.free 3
   have f4 := HZ7.out.free 4
   have f5 := HZ7.out.free 5
   have f6 := HZ7.out.free 6
   have f7 := HZ7.out.free 7
   simp only [erM]
   clear HMS HQS
   go_wp2_with fail
   have hS6 := set8_bk HZ7.out (.pointer (some ⟨g1, 0, none⟩)) (.int .i64 q.1.old.base) (.int .i64 q.1.old.limit) (.slice A1 q.1.old.ws.length e1) (.pointer none) (.slice none 0 0) (.slice Ar ra.length cr) (.slice Ak rk.length ck)
   have u0 := hS6.cell 0
   have u1 := hS6.cell 1
   have u2 := hS6.cell 2
   have u3 := hS6.cell 3
   have u4 := hS6.cell 4
   have u5 := hS6.cell 5
   have u6 := hS6.cell 6
   have u7 := hS6.cell 7
   simp only [List.getElem?_toArray, List.getElem?_cons_zero, List.getElem?_cons_succ] at u0 u1 u2 u3 u4 u5 u6 u7
   unfold set8 at u0 u1 u2 u3 u4 u5 u6 u7
   refine bodyPost_ret (v := .tuple #[.agg #[.pointer (some ⟨g1, 0, none⟩), .int .i64 q.1.old.base, .int .i64 q.1.old.limit, .slice A1 q.1.old.ws.length e1, .pointer none, .slice none 0 0, .slice Ar ra.length cr, .slice Ak rk.length ck], .bool true, .bool false]) (by simp [results, Tryz.results35, go_sem, u0, u1, u2, u3, u4, u5, u6, u7]) rfl ?_
   exact HQN.out (by first | rfl | trivial) _ _ _ _ _ _ _ _ _ _ _ _ _ (set8_below HBF.out (Nat.le_refl _) _ _ _ _ _ _ _ _)
  ·obtain ⟨v7, rfl, ho7⟩ := h7
   have hms : srtI (st ++ m.kpx st (m.weakR st) rk) = srtI (sg ++ m.kpx sg wl rk) := srtI_eq ((hp1.append (kpx_perm hp1 rk wl _ hp2)).symm)
   rw [hms] at ho7
   obtain ⟨ms, hms2⟩ : ∃ ms, ms = srtI (sg ++ m.kpx sg wl rk) := ⟨_, rfl⟩
   rw [← hms2] at ho7
   have HMS2 := lh hms2
   obtain ⟨Am, cm, rfl, hcm⟩ := own_shape ho7
   obtain ⟨gm, bmk, rfl, hmk⟩ := HP7.out
   have HMK := lh hmk
   have HO7 := lh ho7
   have HMI := lh hmi
   have hkl : (sg ++ wl).length ≤ 16777216 := Nat.le_trans (marks_len hmi) HSZ.out
   clear hms hms2 ho7 hmk hmi hsi hp1 hp2 HMS HQN HP7
   have d0 : w7.cell? ⟨g11, 0, none⟩ = some (.pointer (some ⟨g1, 0, none⟩)) := HT7.out.cell 0
   have d1 : w7.cell? ⟨g11, 1, none⟩ = some (.int .i64 q.1.old.base) := HT7.out.cell 1
   have d2 : w7.cell? ⟨g11, 2, none⟩ = some (.int .i64 q.1.old.limit) := HT7.out.cell 2
   have d3 : w7.cell? ⟨g11, 3, none⟩ = some (.slice A1 q.1.old.ws.length e1) := HT7.out.cell 3
   have d4 : w7.cell? ⟨g11, 4, none⟩ = some (.pointer none) := HT7.out.cell 4
   have d5 : w7.cell? ⟨g11, 5, none⟩ = some (.slice none 0 0) := HT7.out.cell 5
   have d6 : w7.cell? ⟨g11, 6, none⟩ = some (.slice Ar ra.length cr) := HT7.out.cell 6
   have d7 : w7.cell? ⟨g11, 7, none⟩ = some (.slice Ak rk.length ck) := HT7.out.cell 7
   simp only [erM]
   go_wp2_with fail
   go_loopw [73] (fun i wr => ∃ j : Nat, i = .int .i64 (j : Int) ∧ j ≤ rk.length ∧ MkR wr w5.heap.size gm bmk m sg (m.kpx sg wl (rk.take j)) ∧ Kp (fun k => k = gm ∨ k = bmk) w7 wr) (fun i _ => rk.length - (intOf i).toNat)
   case atStart => exact ⟨0, rfl, Nat.zero_le _, HMK.out, Kp.refl _ _⟩
   case round =>
    obtain ⟨j, rfl, hj, hmr, hkp⟩ := hrel
    have hbr : Below w5.heap.size w5 wr := hkp.toBelow HB7.out HB7.out.size fun k hk => by
     rcases hk with rfl | rfl
     ·exact HMK.out.ge
     ·exact HMK.out.gm
    have HKP := lh hkp
    have HMR := lh hmr
    have HEr := lh (HE5.out.below hbr)
    have HTr := lh (HT5.out.below hbr HT5.out.lt)
    have HBR := lh hbr
    by_cases hlt : j < rk.length
    ·obtain ⟨b2, o2, rfl, hbl, hcc⟩ := (HSK5.out.below hbr).get hlt
     have t1 : rk[j]? = some rk[j] := List.getElem?_eq_getElem hlt
     have e1' : wr.cell? ⟨b2, o2 + j, none⟩ = some (.int .u64 rk[j]) := hcc j _ (wds_get t1)
     have hxu := HUk.out rk[j] (List.getElem_mem hlt)
     have hkt := kpx_take (m := m) (sg := sg) (wl := wl) t1
     have hcj : j < ck := by omega
     have hjI : (j : Int) < (rk.length : Int) := by omega
     have hkn := kpx_len m sg (rk.take j) wl
     rw [List.length_take] at hkn
     have hln : (sg ++ m.kpx sg wl (rk.take j)).length ≤ 100000000 := by
      rw [List.length_append] at hkl ⊢
      omega
     have cK := Keep_any HEr.out.mr.o HEr.out.mr.ok.ob HEr.out.mr.ok.ol HEr.out.lt (by rw [← HM.out]; exact hmr) hln hxu
     rw [← HM.out] at cK
     generalize rk[j] = x at e1' hxu hkt t1 cK
     have HKT := lh hkt
     have d0 : wr.cell? ⟨g11, 0, none⟩ = some (.pointer (some ⟨g1, 0, none⟩)) := HTr.out.cell 0
     have d1 : wr.cell? ⟨g11, 1, none⟩ = some (.int .i64 q.1.old.base) := HTr.out.cell 1
     have d2 : wr.cell? ⟨g11, 2, none⟩ = some (.int .i64 q.1.old.limit) := HTr.out.cell 2
     have d3 : wr.cell? ⟨g11, 3, none⟩ = some (.slice A1 q.1.old.ws.length e1) := HTr.out.cell 3
     have d4 : wr.cell? ⟨g11, 4, none⟩ = some (.pointer none) := HTr.out.cell 4
     have d5 : wr.cell? ⟨g11, 5, none⟩ = some (.slice none 0 0) := HTr.out.cell 5
     have d6 : wr.cell? ⟨g11, 6, none⟩ = some (.slice Ar ra.length cr) := HTr.out.cell 6
     have d7 : wr.cell? ⟨g11, 7, none⟩ = some (.slice (some ⟨b2, o2, none⟩) rk.length ck) := HTr.out.cell 7
     clear hkp hmr hbr hcc hxu hkt t1 hbl hkn hln
     go_wp2_with fail
     refine cK.mono ?_
     rintro e w9 ⟨rfl, hm9, hk9⟩
     have HM9 := lh hm9
     have HK9 := lh (HKP.out.trans hk9 fun k _ h => h)
     clear hm9 hk9 cK e1' d0 d1 d2 d3 d4 d5 d6 d7
     go_wp2_with fail
     go_roundw
     case rel => exact ⟨j + 1, by go_num, by omega, by rw [HKT.out]; exact HM9.out, HK9.out⟩
     case measure => simp [intOf]; omega
    ·obtain rfl : j = rk.length := by omega
     have hjI : ¬ ((rk.length : Nat) : Int) < (rk.length : Int) := by omega
     rw [List.take_length] at hmr
     have hown : wr.ownsRow w6.heap.size 3 1 (.slice Am ms.length cm) ms.length (ints ms) := own_local HO7.out fun k hk => hkp.block k (HO7.out.lt k hk).2 fun e => by
      rcases e with rfl | rfl
      ·exact ownRow_bk HO7.out HMK.out.hd (by decide) hk
      ·exact HMK.out.mp.ne_own HO7.out hk
     have HOW := lh hown
     have hwsz := hbr.size
     have hg35 := HE3.out.mr.o.hd.lt
     have hnd := (kpx_nd rk wl HMI.out.disj : (sg ++ m.kpx sg wl rk).Nodup)
     have hen : Env12 w wr g1 V1 q.1.old A1 e1 gm bmk sg (m.kpx sg wl rk) Am cm Ar cr Ak ck ra rk := by
      refine ⟨HEr.out.bl, HEr.out.mr.o.base hb0, HEr.out.rm.o, ?_, ?_, HSR5.out.below hbr, HSK5.out.below hbr, hcr, hck, HUa.out, HUk.out, hla, hlk, HEr.out.mr.ok.ob, HEr.out.mr.ok.ol, HWH.out, ?_, fun b o e => ?_⟩
      ·rw [← HM.out]
       exact ⟨hmr.hd, hmr.mp, Nat.le_trans (by omega) hmr.ge, Nat.le_trans (by omega) hmr.gm⟩
      ·rw [← HMS2.out]
       exact ⟨own_sl hown, hcm⟩
      ·exact ⟨wl, by rw [← HM.out]; exact HMI.out, by rw [← HM.out]⟩
      ·have hv1 : ∀ k, V1.ownBlock = some k → k < w3.heap.size := fun k hk => (HE3.out.mr.o.own.lt k hk).2
       rcases e with e | e | e | e
       ·exact ⟨by have := (HAP.out b o e).1; omega, (HAP.out b o e).2⟩
       ·have h9 := hown.lt b (by rw [e]; rfl)
        exact ⟨h9.2, by omega, fun hk => by have := hv1 b hk; omega⟩
       ·have h9 := HGR.out b o e
        exact ⟨by omega, by omega, fun hk => by have := hv1 b hk; omega⟩
       ·have h9 := HGK.out b o e
        exact ⟨by omega, by omega, fun hk => by have := hv1 b hk; omega⟩
     have HEN := lh hen
     have HND := lh hnd
     have d0 : wr.cell? ⟨g11, 0, none⟩ = some (.pointer (some ⟨g1, 0, none⟩)) := HTr.out.cell 0
     have d1 : wr.cell? ⟨g11, 1, none⟩ = some (.int .i64 q.1.old.base) := HTr.out.cell 1
     have d2 : wr.cell? ⟨g11, 2, none⟩ = some (.int .i64 q.1.old.limit) := HTr.out.cell 2
     have d3 : wr.cell? ⟨g11, 3, none⟩ = some (.slice A1 q.1.old.ws.length e1) := HTr.out.cell 3
     have d4 : wr.cell? ⟨g11, 4, none⟩ = some (.pointer none) := HTr.out.cell 4
     have d5 : wr.cell? ⟨g11, 5, none⟩ = some (.slice none 0 0) := HTr.out.cell 5
     have d6 : wr.cell? ⟨g11, 6, none⟩ = some (.slice Ar ra.length cr) := HTr.out.cell 6
     have d7 : wr.cell? ⟨g11, 7, none⟩ = some (.slice Ak rk.length ck) := HTr.out.cell 7
     have f0 := HTr.out.free 0
     have f1 := HTr.out.free 1
     have f2 := HTr.out.free 2
     have f3 := HTr.out.free 3
     have f4 := HTr.out.free 4
     have f5 := HTr.out.free 5
     have f6 := HTr.out.free 6
     have f7 := HTr.out.free 7
     clear hkp hmr hbr hown hen hnd HEr
     have kk : ∀ (w : World) (i : Nat) (x : Value), Kp (fun k => k = g11) w (w.setCell ⟨g11, i, none⟩ x) := fun w i x => Kp.setCell _ _ _ rfl
     have hk8 : Kp (fun k => k = g11) wr ((wr.setCell ⟨g11, 4, none⟩ (.pointer (some ⟨gm, 0, none⟩))).setCell ⟨g11, 5, none⟩ (.slice Am ms.length cm)) := (kk _ _ _).trans (kk _ _ _) fun _ _ h => h
     clear kk
     have hz11 : w.heap.size < g11 := by omega
     have HN8 := lh (HEN.out.kp hk8 (Nat.le_of_lt hz11) HTr.out (by decide) (by decide) (by decide) rfl (fun b o e h => ownRow_bk HOW.out HTr.out (by decide) (by rw [e, h]; rfl)))
     have ht8a : Bk (wr.setCell ⟨g11, 4, none⟩ (.pointer (some ⟨gm, 0, none⟩))) g11 64 #[.pointer (some ⟨g1, 0, none⟩), .int .i64 q.1.old.base, .int .i64 q.1.old.limit, .slice A1 q.1.old.ws.length e1, .pointer (some ⟨gm, 0, none⟩), .slice none 0 0, .slice Ar ra.length cr, .slice Ak rk.length ck] := HTr.out.set 4 _
     have ht8 : Bk ((wr.setCell ⟨g11, 4, none⟩ (.pointer (some ⟨gm, 0, none⟩))).setCell ⟨g11, 5, none⟩ (.slice Am ms.length cm)) g11 64 #[.pointer (some ⟨g1, 0, none⟩), .int .i64 q.1.old.base, .int .i64 q.1.old.limit, .slice A1 q.1.old.ws.length e1, .pointer (some ⟨gm, 0, none⟩), .slice Am ms.length cm, .slice Ar ra.length cr, .slice Ak rk.length ck] := ht8a.set 5 _
     have HT8 := lh ht8
     have HZ8 := lh ((HZ5.out.below HBR.out HZ5.out.lt).kp hk8 (fun e => by omega))
     clear ht8a ht8
     go_upto_region 15 with fail
     have hsz8 := hk8.size
     clear hk8 d0 d1 d2 d3 d4 d5 d6 d7 f0 f1 f2 f3 f4 f5 f6 f7
     generalize ((wr.setCell ⟨g11, 4, none⟩ (.pointer (some ⟨gm, 0, none⟩))).setCell ⟨g11, 5, none⟩ (.slice Am ms.length cm)) = w8 at *
     have hok8 : (Mm.one q.1.old).Ok := by rw [← HM.out]; exact OK.out
     have hlen8 := HN8.out.mks.len
     have hws := HE3.out.len
     have cL := fun {w9 : World} (hb : Below w8.heap.size w8 w9) => List_any (show MkR w9 w.heap.size gm bmk m sg (m.kpx sg wl rk) by rw [HM.out]; exact MkR0.below (by have := HN8.out.mx; rw [HM.out] at this; exact this) hb) HND.out (fun x hx => WalkArith.wf_i64 (by have := HN8.out.mks.rg hok8 x (by rw [HM.out] at hx; rw [HM.out]; exact hx); omega)) (by rw [HM.out]; rw [HM.out] at hlen8; omega)
     simp only [← HMS2.out] at cL
     have hmsl : ms.length ≤ 16777216 := by
      rw [HMS2.out, srtI_len]
      omega
     have HAM : Hid (∀ b o, Am = some ⟨b, o, none⟩ → w.heap.size < b) := lh fun b o e => by have := (HOW.out.lt b (by rw [e]; rfl)).1; omega
     have HIS : Hid (IS w8 ms Am cm) := lh (by rw [HMS2.out]; exact HN8.out.ms)
     have HB8 := lh HN8.out.bl
     clear HEN HOW HKP HMR HBR HTr hlen8 hok8
     refine wp_region_adds0 5 (fun i => ([[], [], [1], [], [2, 3]] : List (List Nat)).getD i []) (EL [Ent.val (.agg #[.pointer (some ⟨g1, 0, none⟩), .int .i64 q.1.old.base, .int .i64 q.1.old.limit, .slice A1 q.1.old.ws.length e1, .pointer (some ⟨gm, 0, none⟩), .slice Am ms.length cm, .slice Ar ra.length cr, .slice Ak rk.length ck]), Ent.val (.pointer (some ⟨gm, 0, none⟩)), Ent.of (LstC ms) LstC.below, Ent.val (.slice Am ms.length cm), Ent.val (.bool true)]) (by kernel_rfl) (by kernel_rfl) (by kernel_rfl) (by kernel_rfl) (by rfl) ?_ ?_
     ·intro i hi o ho vs w9 hb1 hgr
      rcases (show i = 0 ∨ i = 1 ∨ i = 2 ∨ i = 3 ∨ i = 4 by omega) with rfl | rfl | rfl | rfl | rfl <;> cases ho
      ·clear hgr
       change Made _ (Adds _ _ _) (Sem.run _ (execOp (Act.eval (frm _ _ _ [])) _) _)
       simp only [frm]
       have hbk := HT8.out.below hb1 HT8.out.lt
       have c0 : w9.cell? ⟨g11, 0, none⟩ = some (.pointer (some ⟨g1, 0, none⟩)) := hbk.cell 0
       have c1 : w9.cell? ⟨g11, 1, none⟩ = some (.int .i64 q.1.old.base) := hbk.cell 1
       have c2 : w9.cell? ⟨g11, 2, none⟩ = some (.int .i64 q.1.old.limit) := hbk.cell 2
       have c3 : w9.cell? ⟨g11, 3, none⟩ = some (.slice A1 q.1.old.ws.length e1) := hbk.cell 3
       have c4 : w9.cell? ⟨g11, 4, none⟩ = some (.pointer (some ⟨gm, 0, none⟩)) := hbk.cell 4
       have c5 : w9.cell? ⟨g11, 5, none⟩ = some (.slice Am ms.length cm) := hbk.cell 5
       have c6 : w9.cell? ⟨g11, 6, none⟩ = some (.slice Ar ra.length cr) := hbk.cell 6
       have c7 : w9.cell? ⟨g11, 7, none⟩ = some (.slice Ak rk.length ck) := hbk.cell 7
       clear hbk
       go_simp
       exact adds_val rfl
      ·clear hgr
       change Made _ (Adds _ _ _) (Sem.run _ (execOp (Act.eval (frm _ _ _ [])) _) _)
       simp only [frm]
       go_simp
       exact adds_val rfl
      ·have h1 : vs 1 = _ := hgr 1 (by decide)
       clear hgr
       change Made _ (Adds _ _ _) (Sem.run _ (execOp (Act.eval (Act.put (frm _ _ _ []) (some 88) (vs 1))) _) _)
       simp only [frm, h1]
       have cL1 := cL hb1
       go_simp
       exact adds_call (T := LstC ms) (hT := LstC.below) (ob := fun _ => none) cL1 fun e w2 ⟨v, he, ho, hb⟩ => ⟨v, he, LstC.own ho, hb, (fun k hk => nomatch hk)⟩
      ·clear hgr
       change Made _ (Adds _ _ _) (Sem.run _ (execOp (Act.eval (frm _ _ _ [])) _) _)
       simp only [frm]
       go_simp
       exact adds_val rfl
      ·obtain ⟨A1l, c1l, h2, hc1l, hs1⟩ := hgr 2 (by decide)
       have h3 : vs 3 = _ := hgr 3 (by decide)
       clear hgr
       change Made _ (Adds _ _ _) (Sem.run _ (execOp (Act.eval (Act.put (Act.put (frm _ _ _ []) (some 90) (vs 3)) (some 89) (vs 2))) _) _)
       simp only [frm, h2, h3]
       have cI := Same8_any ms ms A1l Am c1l cm w9 (by omega) hc1l HIS.out.cap hs1 (HIS.out.sl.below hb1)
       rw [show eqL ms ms = true from decide_eq_true rfl] at cI
       go_simp
       exact adds_quiet cI
     ·intro vs w9 hb1 hall hap
      have h0 : vs 0 = _ := (hall 0 (by omega)).1
      have h4 : vs 4 = _ := (hall 4 (by omega)).1
      clear hall hap
      change wpList _ _ _ [_, _, _] (Act.put (Act.put (Act.put (Act.put (Act.put (frm _ _ _ []) (some 91) (vs 4)) (some 90) (vs 3)) (some 89) (vs 2)) (some 88) (vs 1)) (some 87) (vs 0)) _
      simp only [frm, h0, h4]
      have HN9 := lh (HN8.out.below hb1)
      have HZ9 := lh (HZ8.out.below hb1 HZ8.out.lt)
      clear hb1 h0 h4 cL HT8 HN8 HZ8
      have z0 : w9.cell? ⟨w.heap.size, 0, none⟩ = some (.pointer none) := HZ9.out.cell 0
      have z1 : w9.cell? ⟨w.heap.size, 1, none⟩ = some (.int .i64 0) := HZ9.out.cell 1
      have z2 : w9.cell? ⟨w.heap.size, 2, none⟩ = some (.int .i64 0) := HZ9.out.cell 2
      have z3 : w9.cell? ⟨w.heap.size, 3, none⟩ = some (.slice none 0 0) := HZ9.out.cell 3
      have z4 : w9.cell? ⟨w.heap.size, 4, none⟩ = some (.pointer none) := HZ9.out.cell 4
      have z5 : w9.cell? ⟨w.heap.size, 5, none⟩ = some (.slice none 0 0) := HZ9.out.cell 5
      have z6 : w9.cell? ⟨w.heap.size, 6, none⟩ = some (.slice none 0 0) := HZ9.out.cell 6
      have z7 : w9.cell? ⟨w.heap.size, 7, none⟩ = some (.slice none 0 0) := HZ9.out.cell 7
      have f0 := HZ9.out.free 0
      have f1 := HZ9.out.free 1
      have f2 := HZ9.out.free 2
      have f3 := HZ9.out.free 3
      have f4 := HZ9.out.free 4
      have f5 := HZ9.out.free 5
      have f6 := HZ9.out.free 6
      have f7 := HZ9.out.free 7
      go_wp2_with fail
      have hS6 := set8_bk HZ9.out (.pointer (some ⟨g1, 0, none⟩)) (.int .i64 q.1.old.base) (.int .i64 q.1.old.limit) (.slice A1 q.1.old.ws.length e1) (.pointer (some ⟨gm, 0, none⟩)) (.slice Am ms.length cm) (.slice Ar ra.length cr) (.slice Ak rk.length ck)
      have u0 := hS6.cell 0
      have u1 := hS6.cell 1
      have u2 := hS6.cell 2
      have u3 := hS6.cell 3
      have u4 := hS6.cell 4
      have u5 := hS6.cell 5
      have u6 := hS6.cell 6
      have u7 := hS6.cell 7
      simp only [List.getElem?_toArray, List.getElem?_cons_zero, List.getElem?_cons_succ] at u0 u1 u2 u3 u4 u5 u6 u7
      unfold set8 at u0 u1 u2 u3 u4 u5 u6 u7
      refine bodyPost_ret (v := .tuple #[.agg #[.pointer (some ⟨g1, 0, none⟩), .int .i64 q.1.old.base, .int .i64 q.1.old.limit, .slice A1 q.1.old.ws.length e1, .pointer (some ⟨gm, 0, none⟩), .slice Am ms.length cm, .slice Ar ra.length cr, .slice Ak rk.length ck], .bool true, .bool true]) (by simp [results, Tryz.results35, go_sem, u0, u1, u2, u3, u4, u5, u6, u7]) rfl ?_
      have hfin := HQS.out sg wl (by first | rfl | trivial) gm bmk Am cm _ (HN9.out.kp (set8_kp w9 w.heap.size (.pointer (some ⟨g1, 0, none⟩)) (.int .i64 q.1.old.base) (.int .i64 q.1.old.limit) (.slice A1 q.1.old.ws.length e1) (.pointer (some ⟨gm, 0, none⟩)) (.slice Am ms.length cm) (.slice Ar ra.length cr) (.slice Ak rk.length ck)) (Nat.le_refl _) HZ9.out (by decide) (by decide) (by decide) rfl (fun b o e h => by have := HAM.out b o e; omega))
      rw [← HMS2.out] at hfin
      exact hfin
end
end Go.Proofs.YtjpaogapclfajaaGreat
